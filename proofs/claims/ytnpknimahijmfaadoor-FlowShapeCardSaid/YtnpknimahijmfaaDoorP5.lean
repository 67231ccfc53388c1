/-
  Texts joined.
-/
import Derived.Test.YtnpknimahijmfaaDoorP0
import Derived.Test.YtnpknimahijmfaaDoorP2
import Derived.Test.YtnpknimahijmfaaDoorP4
set_option linter.unusedVariables false
set_option linter.unusedSimpArgs false
set_option maxRecDepth 100000
namespace Go.Abs
section
variable {E:Env} {μ μ':MM}
mutual
theorem VRel.ids_lt:∀ {a:AVal} {v:Value},VRel E μ a v→∀ i ∈ a.ids,i < μ.length
 | .bool _,_,_,i,hi=>by simp [AVal.ids] at hi
 | .int _ _,_,_,i,hi=>by simp [AVal.ids] at hi
 | .str _,_,_,i,hi=>by simp [AVal.ids] at hi
 | .ptr none,_,_,i,hi=>by simp [AVal.ids] at hi
 | .ptr (some (j,o)),v,h,i,hi=>by
  simp only [AVal.ids,bv] at hi; subst hi
  simp only [VRel] at h
  obtain ⟨_,_,x,hx,_⟩:=h
  exact ah hx
 | .slice none _ _,_,_,i,hi=>by simp [AVal.ids] at hi
 | .slice (some (j,o)) n c,v,h,i,hi=>by
  simp only [AVal.ids,bv] at hi; subst hi
  simp only [VRel] at h
  obtain ⟨_,_,_,hl,_⟩:=h
  exact hl.1
 | .map none,_,_,i,hi=>by simp [AVal.ids] at hi
 | .map (some j),v,h,i,hi=>by
  simp only [AVal.ids,bv] at hi; subst hi
  simp only [VRel] at h
  obtain ⟨_,x,_,hx,_⟩:=h
  exact ah hx
 | .yield j,v,h,i,hi=>by
  simp only [AVal.ids,bv] at hi; subst hi
  simp only [VRel] at h
  obtain ⟨_,x,_,hx,_⟩:=h
  exact ah hx
 | .func g f c,v,h,i,hi=>by
  simp only [VRel] at h
  obtain ⟨_,f',c',_,_,h1,h2⟩:=h
  simp only [AVal.ids,ba] at hi
  rcases hi with hi | hi
  ·exact VRels.ids_lt h1 i hi
  ·exact VRels.ids_lt h2 i hi
 | .nilFunc,_,_,i,hi=>by simp [AVal.ids] at hi
 | .iface _ _,_,h,_,_=>by simp only [VRel] at h
 | .nilIface,_,_,i,hi=>by simp [AVal.ids] at hi
 | .agg cs,v,h,i,hi=>by
  simp only [VRel] at h
  obtain ⟨_,_,h1,_⟩:=h
  exact VRels.ids_lt h1 i (by simpa [AVal.ids] using hi)
 | .tuple vs,v,h,i,hi=>by
  simp only [VRel] at h
  obtain ⟨_,_,h1⟩:=h
  exact VRels.ids_lt h1 i (by simpa [AVal.ids] using hi)
theorem VRels.ids_lt:∀ {as:List AVal} {l:List Value},VRels E μ as l→∀ i ∈ AVal.idsL as,i < μ.length
 | [],_,_,i,hi=>by simp [AVal.idsL] at hi
 | a :: as,l,h,i,hi=>by
  simp only [VRels] at h
  obtain ⟨_,_,_,h1,h2⟩:=h
  simp only [AVal.idsL,ba] at hi
  rcases hi with hi | hi
  ·exact VRel.ids_lt h1 i hi
  ·exact VRels.ids_lt h2 i hi
end
mutual
theorem eh:∀ {a:AVal} {v:Value},(∀ i ∈ a.ids,i < μ.length→μ'[i]? = μ[i]?)→VRel E μ a v→VRel E μ' a v
 | .bool _,_,_,h=>by simpa only [VRel] using h
 | .int _ _,_,_,h=>by simpa only [VRel] using h
 | .str _,_,_,h=>by simpa only [VRel] using h
 | .ptr none,_,_,h=>by simpa only [VRel] using h
 | .ptr (some (j,o)),v,hi,h=>by
  have h3:=hi j (by simp [AVal.ids])
  simp only [VRel,ARel] at h ⊢
  obtain ⟨a,e,x,hx,hm⟩:=h
  exact ⟨a,e,x,(h3 (ah hx)).trans hx,hm⟩
 | .slice none _ _,_,_,h=>by simpa only [VRel] using h
 | .slice (some (j,o)) n c,v,hi,h=>by
  have h3:=hi j (by simp [AVal.ids])
  simp only [VRel,ARel] at h ⊢
  obtain ⟨a,cap,e,h1,h2⟩:=h
  have h4:=h3 h1.1
  rw [h4]
  refine ⟨a,cap,e,⟨?_,h1.2⟩,h2⟩
  rw [ag h1.1] at h4
  exact ah h4
 | .map none,_,_,h=>by simpa only [VRel] using h
 | .map (some j),v,hi,h=>by
  have h3:=hi j (by simp [AVal.ids])
  simp only [VRel] at h ⊢
  obtain ⟨b,x,e,hx,hm⟩:=h
  exact ⟨b,x,e,(h3 (ah hx)).trans hx,hm⟩
 | .yield j,v,hi,h=>by
  have h3:=hi j (by simp [AVal.ids])
  simp only [VRel] at h ⊢
  obtain ⟨b,x,e,hx,hm⟩:=h
  exact ⟨b,x,e,(h3 (ah hx)).trans hx,hm⟩
 | .func g f c,v,hi,h=>by
  simp only [VRel] at h ⊢
  obtain ⟨fid,f',c',e,hg,h1,h2⟩:=h
  exact ⟨fid,f',c',e,hg,sames_rel (fun i hi'=>hi i (by simp [AVal.ids,hi'])) h1,sames_rel (fun i hi'=>hi i (by simp [AVal.ids,hi'])) h2⟩
 | .nilFunc,_,_,h=>by simpa only [VRel] using h
 | .iface _ _,_,_,h=>by simp only [VRel] at h
 | .nilIface,_,_,h=>by simpa only [VRel] using h
 | .agg cs,v,hi,h=>by
  simp only [VRel] at h ⊢
  obtain ⟨cs',e,h1,h2⟩:=h
  exact ⟨cs',e,sames_rel (fun i hi'=>hi i (by simp [AVal.ids,hi'])) h1,h2⟩
 | .tuple vs,v,hi,h=>by
  simp only [VRel] at h ⊢
  obtain ⟨cs',e,h1⟩:=h
  exact ⟨cs',e,sames_rel (fun i hi'=>hi i (by simp [AVal.ids,hi'])) h1⟩
theorem sames_rel:∀ {as:List AVal} {l:List Value},(∀ i ∈ AVal.idsL as,i < μ.length→μ'[i]? = μ[i]?)→VRels E μ as l→VRels E μ' as l
 | [],_,_,h=>by simpa only [VRels] using h
 | a :: as,l,hi,h=>by
  simp only [VRels] at h ⊢
  obtain ⟨v,r,e,h1,h2⟩:=h
  exact ⟨v,r,e,eh (fun i hi'=>hi i (by simp [AVal.idsL,hi'])) h1,sames_rel (fun i hi'=>hi i (by simp [AVal.idsL,hi'])) h2⟩
end
end
section
variable {E:Env} {μ μ':MM} {n:Nat}
mutual
theorem under_rel (hm:∀ i,i < n→μ'[i]? = μ[i]?):∀ {a:AVal} {v:Value},a.under n=true→VRel E μ' a v→VRel E μ a v
 | .bool b,v,_,h=>by simpa only [VRel] using h
 | .int k m,v,_,h=>by simpa only [VRel] using h
 | .str s,v,_,h=>by simpa only [VRel] using h
 | .ptr none,v,_,h=>by simpa only [VRel] using h
 | .ptr (some (i,o)),v,hu,h=>by
  simp only [AVal.under,decide_eq_true_eq] at hu
  simp only [VRel,ARel] at h ⊢
  rw [hm i hu] at h; exact h
 | .slice none m c,v,_,h=>by simpa only [VRel] using h
 | .slice (some (i,o)) m c,v,hu,h=>by
  simp only [AVal.under,decide_eq_true_eq] at hu
  simp only [VRel,ARel] at h ⊢
  rw [hm i hu] at h
  obtain ⟨a,cap,e,h1,h2⟩:=h
  refine ⟨a,cap,e,⟨?_,h1.2⟩,h2⟩
  have h3:=hm i hu
  rcases am i μ.length with h4 | h4
  ·exact h4
  ·rw [a7 h4,ag h1.1] at h3; cases h3
 | .map none,v,_,h=>by simpa only [VRel] using h
 | .map (some i),v,hu,h=>by
  simp only [AVal.under,decide_eq_true_eq] at hu
  simp only [VRel] at h ⊢
  rw [hm i hu] at h; exact h
 | .yield i,v,hu,h=>by
  simp only [AVal.under,decide_eq_true_eq] at hu
  simp only [VRel] at h ⊢
  rw [hm i hu] at h; exact h
 | .func g f c,v,hu,h=>by
  simp only [AVal.under,ap] at hu
  simp only [VRel] at h ⊢
  obtain ⟨fid,f',c',e,hg,h1,h2⟩:=h
  exact ⟨fid,f',c',e,hg,unders_rel hm hu.1 h1,unders_rel hm hu.2 h2⟩
 | .nilFunc,v,_,h=>by simpa only [VRel] using h
 | .iface _ _,v,_,h=>by simp only [VRel] at h
 | .nilIface,v,_,h=>by simpa only [VRel] using h
 | .agg cs,v,hu,h=>by
  simp only [AVal.under] at hu
  simp only [VRel] at h ⊢
  obtain ⟨cs',e,h1,h2⟩:=h
  exact ⟨cs',e,unders_rel hm hu h1,h2⟩
 | .tuple vs,v,hu,h=>by
  simp only [AVal.under] at hu
  simp only [VRel] at h ⊢
  obtain ⟨cs',e,h1⟩:=h
  exact ⟨cs',e,unders_rel hm hu h1⟩
theorem unders_rel (hm:∀ i,i < n→μ'[i]? = μ[i]?):∀ {as:List AVal} {l:List Value},AVal.unders n as=true→VRels E μ' as l→VRels E μ as l
 | [],l,_,h=>by simpa only [VRels] using h
 | a :: as,l,hu,h=>by
  simp only [AVal.unders,ap] at hu
  simp only [VRels] at h ⊢
  obtain ⟨v,r,e,h1,h2⟩:=h
  exact ⟨v,r,e,under_rel hm hu.1 h1,unders_rel hm hu.2 h2⟩
end
theorem isOne_ren (f:Nat→Nat) (a:AVal):(a.ren f).isOne=a.isOne:=by
 cases a with
 | ptr p=>cases p <;> simp [AVal.ren,AVal.isOne]
 | slice p m c=>cases p <;> simp [AVal.ren,AVal.isOne]
 | map p=>cases p <;> simp [AVal.ren,AVal.isOne]
 | _=>simp [AVal.ren,AVal.isOne]
mutual
theorem ren_rel (f:Nat→Nat):∀ {a:AVal} {v:Value},(∀ i ∈ a.ids,i < μ.length→μ'[f i]? = μ[i]?)→VRel E μ a v→VRel E μ' (a.ren f) v
 | .bool b,v,_,h=>by simpa only [AVal.ren,VRel] using h
 | .int k m,v,_,h=>by simpa only [AVal.ren,VRel] using h
 | .str s,v,_,h=>by simpa only [AVal.ren,VRel] using h
 | .ptr none,v,_,h=>by simpa only [AVal.ren,VRel] using h
 | .ptr (some (i,o)),v,hi,h=>by
  have h3:=hi i (by simp [AVal.ids])
  simp only [AVal.ren,VRel,ARel] at h ⊢
  obtain ⟨a,e,x,hx,hm⟩:=h
  exact ⟨a,e,x,(h3 (ah hx)).trans hx,hm⟩
 | .slice none m c,v,_,h=>by simpa only [AVal.ren,VRel] using h
 | .slice (some (i,o)) m c,v,hi,h=>by
  have h3:=hi i (by simp [AVal.ids])
  simp only [AVal.ren,VRel,ARel] at h ⊢
  obtain ⟨a,cap,e,h1,h2⟩:=h
  have h4:=h3 h1.1
  rw [h4]
  refine ⟨a,cap,e,⟨?_,h1.2⟩,h2⟩
  rw [ag h1.1] at h4
  exact ah h4
 | .map none,v,_,h=>by simpa only [AVal.ren,VRel] using h
 | .map (some i),v,hi,h=>by
  have h3:=hi i (by simp [AVal.ids])
  simp only [AVal.ren,VRel] at h ⊢
  obtain ⟨b,x,e,hx,hm⟩:=h
  exact ⟨b,x,e,(h3 (ah hx)).trans hx,hm⟩
 | .yield i,v,hi,h=>by
  have h3:=hi i (by simp [AVal.ids])
  simp only [AVal.ren,VRel] at h ⊢
  obtain ⟨b,x,e,hx,hm⟩:=h
  exact ⟨b,x,e,(h3 (ah hx)).trans hx,hm⟩
 | .func g a c,v,hi,h=>by
  simp only [AVal.ren,VRel] at h ⊢
  obtain ⟨fid,f',c',e,hg,h1,h2⟩:=h
  exact ⟨fid,f',c',e,hg,rens_rel f (fun i hi'=>hi i (by simp [AVal.ids,hi'])) h1,rens_rel f (fun i hi'=>hi i (by simp [AVal.ids,hi'])) h2⟩
 | .nilFunc,v,_,h=>by simpa only [AVal.ren,VRel] using h
 | .iface _ _,v,_,h=>by simp only [VRel] at h
 | .nilIface,v,_,h=>by simpa only [AVal.ren,VRel] using h
 | .agg cs,v,hi,h=>by
  simp only [AVal.ren,VRel] at h ⊢
  obtain ⟨cs',e,h1,h2⟩:=h
  exact ⟨cs',e,rens_rel f (fun i hi'=>hi i (by simp [AVal.ids,hi'])) h1,rens_one f h2⟩
 | .tuple vs,v,hi,h=>by
  simp only [AVal.ren,VRel] at h ⊢
  obtain ⟨cs',e,h1⟩:=h
  exact ⟨cs',e,rens_rel f (fun i hi'=>hi i (by simp [AVal.ids,hi'])) h1⟩
theorem rens_rel (f:Nat→Nat):∀ {as:List AVal} {l:List Value},(∀ i ∈ AVal.idsL as,i < μ.length→μ'[f i]? = μ[i]?)→VRels E μ as l→VRels E μ' (AVal.renL f as) l
 | [],l,_,h=>by simpa only [AVal.renL,VRels] using h
 | a :: as,l,hi,h=>by
  simp only [AVal.renL,VRels] at h ⊢
  obtain ⟨v,r,e,h1,h2⟩:=h
  exact ⟨v,r,e,ren_rel f (fun i hi'=>hi i (by simp [AVal.idsL,hi'])) h1,rens_rel f (fun i hi'=>hi i (by simp [AVal.idsL,hi'])) h2⟩
theorem rens_one (f:Nat→Nat):∀ {as:List AVal},(∀ x ∈ as,x.isOne=true)→∀ x ∈ AVal.renL f as,x.isOne=true
 | [],_=>by simp [AVal.renL]
 | a :: as,h=>by
  intro x hx
  simp only [AVal.renL,bt] at hx
  rcases hx with rfl | hx
  ·rw [isOne_ren]; exact h a (az ..)
  ·exact rens_one f (fun y hy=>h y (bd _ hy)) x hx
end
theorem renL_get (f:Nat→Nat):∀ (as:List AVal) (k:Nat),(AVal.renL f as)[k]? = (as[k]?).map (AVal.ren f)
 | [],k=>by simp [AVal.renL]
 | a :: as,0=>by simp [AVal.renL]
 | a :: as,k+1=>by simpa [AVal.renL] using renL_get f as k
theorem renL_length (f:Nat→Nat):∀ (as:List AVal),(AVal.renL f as).length=as.length
 | []=>rfl
 | a :: as=>by simp [AVal.renL,renL_length f as]
theorem gt:∀ {as:List AVal} {k:Nat} {a:AVal} {i:Nat},as[k]? = some a→i ∈ a.ids→i ∈ AVal.idsL as
 | [],k,a,i,h,_=>by simp at h
 | x :: as,0,a,i,h,hi=>by simp at h; subst h; simp [AVal.idsL,hi]
 | x :: as,k+1,a,i,h,hi=>by
  simp at h
  simp [AVal.idsL,gt h hi]
end
end Go.Abs

namespace Go.Abs
section
variable {s:Slots} {h1 h2:Heap} {X:List Nat}
inductive NewF:(Nat→Slot)→Prop where
 | ptr:NewF fun k=>.val (.ptr (some (k,0)))
 | slice (n:Nat) (c:Option Nat):NewF fun k=>.val (.slice (some (k,0)) n c)
 | map:NewF fun k=>.val (.map (some k))
theorem NewF.ids {f:Nat→Slot} (h:NewF f) (k:Nat):(f k).ids=[k]:=by cases h <;> rfl
theorem NewF.ren {f:Nat→Slot} (h:NewF f) (N r:Nat):(f N).ren (mv N r)=f r:=by cases h <;> simp [Slot.ren,AVal.ren,mv]
theorem NewF.novar {f:Nat→Slot} (h:NewF f) (k:Nat) (cs:List AVal):f k ≠ .var cs:=by cases h <;> simp
def Moved (o:AOp) (s:Slots) (h1 h2:Heap) (a b:Option (Slot × Slots × Heap)):Prop :=
 ∀ x s' h',a=some (x,s',h')→s'=s∧((h'=h1∧b=some (x,s,h2))∨(∃ ob f,NewF f∧x=f h1.size∧h'=h1.push ob∧b=some (f h2.size,s,h2.push ob)) ∨
  (∃ i ob f,NewF f∧h1.base≤i∧i < h1.size∧i ∈ rdIds o s∧x=f h1.size∧h'=(h1.put i .dead).push ob∧b=some (f h2.size,s,(h2.put i .dead).push ob)) ∨
  (∃ i ob,h1.base≤i∧i < h1.size∧i ∈ rdIds o s∧(∃ v,x = .val v)∧h'=h1.put i ob∧b=some (x,s,h2.put i ob)))
variable {o:AOp}
theorem au (b:Option (Slot × Slots × Heap)):Moved o s h1 h2 none b:=fun _ _ _ e=>by cases e
theorem co (v:Option AVal):Moved o s h1 h2 (ok1 s h1 v) (ok1 s h2 v):=fun x s' h' e=>by
 unfold ok1 at e ⊢
 rw [ae] at e
 obtain ⟨u,rfl,e⟩:=e
 cases e
 exact ⟨rfl,.inl ⟨rfl,rfl⟩⟩
theorem f8 (y:Slot):Moved o s h1 h2 (some (y,s,h1)) (some (y,s,h2)):=fun x s' h' e=>by
 cases e
 exact ⟨rfl,.inl ⟨rfl,rfl⟩⟩
theorem moved_map {α:Type} (v:Option α) (f:α→Slot):Moved o s h1 h2 (v.map fun j=>(f j,s,h1)) (v.map fun j=>(f j,s,h2)):=fun x s' h' e=>by
 rw [ae] at e
 obtain ⟨u,rfl,e⟩:=e
 cases e
 exact ⟨rfl,.inl ⟨rfl,rfl⟩⟩
theorem el {f:Nat→Slot} (hf:NewF f) (ob:AObj):Moved o s h1 h2 (some (f h1.size,s,h1.push ob)) (some (f h2.size,s,h2.push ob)):=fun x s' h' e=>by
 cases e
 exact ⟨rfl,.inr (.inl ⟨ob,f,hf,rfl,rfl,rfl⟩)⟩
theorem rowOf_same {e:Nat} {v:AVal} (ha:∀ i ∈ v.ids,h2.get i=h1.get i):rowOf e h2 v=rowOf e h1 v:=by
 unfold rowOf
 split
 ·rfl
 ·rename_i i o n c
  rw [ha i (by simp [AVal.ids])]
 ·rfl
 ·rfl
theorem adr_get {x:Opd} {i o:Nat} (ha:∀ v,x.ev s=some v→∀ i ∈ v.ids,h2.get i=h1.get i) (hx:x.adr s=some (.glob i o)):h2.get i=h1.get i:=by
 unfold Opd.adr at hx
 split at hx
 ·rename_i t
  split at hx <;> cases hx
  rename_i hs
  exact ha (.ptr (some (i,o))) (by simp [Opd.ev,hs]) i (by simp [AVal.ids])
 ·cases hx
theorem gn:∀ {xs:List Opd} {vs:List AVal} {v:AVal},evs s xs=some vs→v ∈ vs→∃ x ∈ xs,x.ev s=some v
 | [],vs,v,h,hv=>by simp only [evs] at h; cases h; cases hv
 | x :: xs,vs,v,h,hv=>by
  simp only [evs] at h
  split at h
  ·rename_i u us hu hus
   cases h
   rcases bt.1 hv with rfl | hv
   ·exact ⟨x,az ..,hu⟩
   ·obtain ⟨y,hy,h3⟩:=gn hus hv
    exact ⟨y,bd _ hy,h3⟩
  ·cases h
theorem op_heap {call:CallSem} {d:Nat} {o:AOp} (hc:soft o=true) (hcc:o.isCall=false) (hb:h2.base=h1.base) (ha:∀ x ∈ heapOpds o,∀ v,x.ev s=some v→∀ i ∈ v.ids,h2.get i=h1.get i) :
  Moved o s h1 h2 (evOp call d o s h1) (evOp call d o s h2):=by
 cases o with
 | lalloc z=>cases hc
 | lbox x=>cases hc
 | store n a x=>cases hc
 | copy e d s=>cases hc
 | call f args=>cases hcc
 | callg g args=>cases hcc
 | alloc e z=>simp only [evOp]; exact el .ptr _
 | box x =>
  simp only [evOp]
  split
  ·exact el .ptr _
  ·exact au _
 | mkslice e n z ps =>
  simp only [evOp]
  split
  ·exact el (.slice _ _) _
  ·exact au _
 | make e b z l c =>
  simp only [evOp]
  split
  ·split
   ·exact el (.slice _ _) _
   ·exact au _
  ·exact au _
 | load n a =>
  simp only [evOp]
  split
  ·rename_i ad had
   have:loadAt s h2 ad n=loadAt s h1 ad n:=by
    unfold loadAt cellsAt
    cases ad with
    | glob i o=>simp only; rw [adr_get (ha a (by simp [heapOpds])) had]
    | loc t o=>rfl
   rw [this]
   exact co _
  ·exact au _
 | len k x =>
  simp only [evOp]
  split
  ·rename_i v hv
   have:evLen k v h2=evLen k v h1:=by
    unfold evLen
    split
    ·rfl
    ·rfl
    ·split
     ·rfl
     ·rename_i r
      rw [ha x (by simp [heapOpds]) _ hv r (by simp [AVal.ids])]
     ·rfl
   rw [this]
   exact co _
  ·exact au _
 | conv k x =>
  simp only [evOp]
  split
  ·rename_i v hv
   have hav:=ha x (by simp [heapOpds]) v hv
   unfold evConv
   split
   ·split
    ·exact co _
    ·exact au _
   ·split
    ·exact co _
    ·exact au _
   ·split
    ·split
     ·exact el (.slice _ _) _
     ·exact au _
    ·exact au _
   ·split
    ·rename_i a n c
     rw [rowOf_same hav]
     split
     ·exact co _
     ·exact au _
    ·exact au _
  ·exact au _
 | slice k x lo hi mx =>
  simp only [evOp]
  split
  ·rename_i lo' hi' mx' _ _ _
   have hav:=ha x (by simp [heapOpds])
   have:aSlice k s h2 x lo' hi' mx'=aSlice k s h1 x lo' hi' mx':=by
    unfold aSlice
    cases k with
    | str=>rfl
    | sl e =>
     simp only
     cases hx:x.ev s with
     | none=>rfl
     | some v =>
      cases v with
      | slice p n c =>
       cases p with
       | none=>rfl
       | some p =>
        obtain ⟨i,o⟩:=p
        have h3:=hav _ hx i (by simp [AVal.ids])
        have h4:eszIs h2 i e=eszIs h1 i e:=by unfold eszIs; rw [h3]
        simp only [h4]
      | _=>rfl
    | arr n e =>
     simp only
     cases hx:x.adr s with
     | none=>rfl
     | some ad =>
      cases ad with
      | glob i o=>simp only [adr_get hav hx]
      | loc t o=>rfl
   rw [this]
   exact co _
  ·exact au _
 | append e b x y =>
  simp only [evOp]
  split
  ·rename_i vx vy hx hy
   have hax:=ha x (by simp [heapOpds]) vx hx
   have hay:=ha y (by simp [heapOpds]) vy hy
   unfold aAppend
   split
   ·rename_i a n c
    rw [rowOf_same hax,rowOf_same hay]
    split
    ·rename_i old new _ _
     unfold aApp
     split
     ·exact f8 _
     ·split
      ·cases a with
       | none=>simp only; exact el (.slice _ _) _
       | some p =>
        obtain ⟨i,o⟩:=p
        simp only
        split
        ·exact el (.slice _ _) _
        ·have hr:rowIs h2 i e=rowIs h1 i e:=by
          unfold rowIs
          rw [hax i (by simp [AVal.ids])]
         rw [hb,hr]
         split
         ·rename_i hh
          intro x' s' h' e'
          cases e'
          have hlt:i < h1.size:=by
           have h3:=hh.2
           unfold rowIs at h3
           split at h3
           ·rename_i hg; exact ah hg
           ·cases h3
          refine ⟨rfl,.inr (.inr (.inl ⟨i,_,_,.slice _ _,hh.1,hlt,?_,rfl,rfl,?_⟩))⟩
          ·simp [rdIds,heapOpds,hx,AVal.ids]
          ·simp [Heap.size,Heap.put]
         ·exact au _
      ·exact au _
    ·exact au _
   ·exact au _
  ·exact au _
 | val x=>exact co _
 | build z ps=>exact co _
 | faddr x off =>
  simp only [evOp]
  split
  ·exact co _
  ·split
   ·exact f8 _
   ·exact au _
  ·exact au _
 | pick c x y =>
  simp only [evOp]
  split
  ·exact co _
  ·exact co _
  ·exact au _
 | bin op x y =>
  simp only [evOp]
  split
  ·exact co _
  ·exact au _
 | un op x =>
  simp only [evOp]
  split
  ·exact co _
  ·exact au _
 | mkfunc g f c =>
  simp only [evOp]
  split
  ·exact co _
  ·exact au _
 | field x off n =>
  simp only [evOp]
  split
  ·exact co _
  ·exact au _
 | iaddr e x i =>
  simp only [evOp]
  split
  ·exact co _
  ·exact au _
 | aaddr n e x i =>
  simp only [evOp]
  split
  ·exact co _
  ·split
   ·exact moved_map _ _
   ·exact au _
  ·exact au _
 | index x i =>
  simp only [evOp]
  split
  ·exact co _
  ·exact au _
 | aindex n e k x i =>
  simp only [evOp]
  split
  ·exact co _
  ·exact au _
 | extract x i =>
  simp only [evOp]
  split
  ·exact co _
  ·exact au _
 | minmax m xs =>
  simp only [evOp]
  split
  ·exact co _
  ·exact au _
 | nilcheck x =>
  simp only [evOp]
  split
  ·exact co _
  ·split
   ·split
    ·exact f8 _
    ·exact au _
   ·exact au _
 | eqnil k neg x y =>
  simp only [evOp]
  split
  ·exact co _
  ·exact au _
 | beq neg x y =>
  simp only [evOp]
  split
  ·exact co _
  ·exact au _
 | ext k xs =>
  simp only [evOp]
  split
  ·rename_i vs hvs
   have hent:(∀ x ∈ xs,∀ v,x.ev s=some v→∀ i ∈ v.ids,h2.get i=h1.get i)→∀ v ∈ vs,entriesOf h2 v=entriesOf h1 v:=by
    intro ha v hv
    have:=gn hvs hv
    obtain ⟨x,hx,hxv⟩:=this
    unfold entriesOf
    split
    ·rfl
    ·rename_i r
     rw [ha x hx _ hxv r (by simp [AVal.ids])]
    ·rfl
   cases k with
   | mkmap =>
    cases vs with
    | nil=>simp only [evExt,bw]; exact el .map _
    | cons v vs=>exact au _
   | mkiter =>
    have hent:=hent (fun x hx=>ha x (by simpa [heapOpds] using hx))
    cases vs with
    | nil=>exact au _
    | cons m vs =>
     cases vs with
     | cons _ _ =>
      cases m with
      | map r=>cases r <;> exact au _
      | _=>exact au _
     | nil =>
      cases m with
      | map r =>
       cases r with
       | none=>simp only [evExt,bw]; exact el .ptr _
       | some r =>
        have hg:h2.get r=h1.get r:=by
         obtain ⟨x,hx,hxv⟩:=gn hvs (c9 _)
         exact ha x (by simpa [heapOpds] using hx) _ hxv r (by simp [AVal.ids])
        simp only [evExt,hg]
        split
        ·simp only [bw]; exact el .ptr _
        ·exact au _
      | _=>exact au _
   | mapupd kn =>
    have hg:∀ v ∈ vs,∀ i ∈ v.ids,h2.get i=h1.get i∧i ∈ rdIds (.ext (.mapupd kn) xs) s:=fun v hv i hi=>by
     obtain ⟨x,hx,hxv⟩:=gn hvs hv
     have hx':x ∈ heapOpds (.ext (.mapupd kn) xs):=by simpa [heapOpds] using hx
     refine ⟨ha x hx' v hxv i hi,?_⟩
     unfold rdIds
     rw [cj]
     exact ⟨x,hx',by rw [hxv]; exact hi⟩
    intro x' s' h' e
    rw [ae] at e
    obtain ⟨⟨v,h3⟩,e,e'⟩:=e
    cases e'
    have hsh:∃ r k v',vs=[.map (some r),k,v']:=by
     rcases vs with _ | ⟨v1,_ | ⟨k,_ | ⟨v',_ | ⟨v4,vs⟩⟩⟩⟩
     ·simp [evExt] at e
     ·cases v1 <;> simp [evExt] at e
     ·cases v1 <;> simp [evExt] at e
     ·cases v1 <;> simp only [evExt,reduceCtorEq] at e
      rename_i q
      cases q with
      | none=>simp [evExt] at e
      | some r=>exact ⟨r,k,v',rfl⟩
     ·cases v1 <;> simp [evExt] at e
    obtain ⟨r,k,v',rfl⟩:=hsh
    simp only [evExt] at e
    obtain ⟨hg1,hg2⟩:=hg (.map (some r)) (az ..) r (by simp [AVal.ids])
    split at e
    case isFalse=>cases e
    rename_i hh
    split at e
    case h_2=>cases e
    rename_i es clock hes
    have hlt:r < h1.size:=ah hes
    split at e
    ·rename_i j v0 hfd
     cases e
     refine ⟨rfl,.inr (.inr (.inr ⟨r,_,hh.2,hlt,hg2,⟨_,rfl⟩,rfl,?_⟩))⟩
     simp only [evExt]
     rw [if_pos ⟨hh.1,by rw [hb]; exact hh.2⟩,hg1,hes]
     simp only [hfd,bw]
    ·rename_i hfd
     cases e
     refine ⟨rfl,.inr (.inr (.inr ⟨r,_,hh.2,hlt,hg2,⟨_,rfl⟩,rfl,?_⟩))⟩
     simp only [evExt]
     rw [if_pos ⟨hh.1,by rw [hb]; exact hh.2⟩,hg1,hes]
     simp only [hfd,bw]
    ·cases e
   | mapentry kn z =>
    have hg:∀ v ∈ vs,∀ i ∈ v.ids,h2.get i=h1.get i∧i ∈ rdIds (.ext (.mapentry kn z) xs) s:=fun v hv i hi=>by
     obtain ⟨x,hx,hxv⟩:=gn hvs hv
     have hx':x ∈ heapOpds (.ext (.mapentry kn z) xs):=by simpa [heapOpds] using hx
     refine ⟨ha x hx' v hxv i hi,?_⟩
     unfold rdIds
     rw [cj]
     exact ⟨x,hx',by rw [hxv]; exact hi⟩
    intro x' s' h' e
    rw [ae] at e
    obtain ⟨⟨v,h3⟩,e,e'⟩:=e
    cases e'
    have hsh:∃ r k,vs=[.map (some r),k]:=by
     unfold evExt at e
     split at e <;> simp_all
    obtain ⟨r,k,rfl⟩:=hsh
    simp only [evExt] at e
    obtain ⟨hg1,hg2⟩:=hg (.map (some r)) (az ..) r (by simp [AVal.ids])
    split at e
    case isFalse=>cases e
    rename_i hh
    split at e
    case h_2=>cases e
    rename_i es clock hes
    have hlt:r < h1.size:=ah hes
    split at e
    ·rename_i j v0 hfd
     cases e
     refine ⟨rfl,.inr (.inr (.inr ⟨r,_,hh.2,hlt,hg2,⟨_,rfl⟩,rfl,?_⟩))⟩
     simp only [evExt]
     rw [if_pos ⟨hh.1,by rw [hb]; exact hh.2⟩,hg1,hes]
     simp only [hfd,bw]
    ·rename_i hfd
     cases e
     refine ⟨rfl,.inr (.inr (.inr ⟨r,_,hh.2,hlt,hg2,⟨_,rfl⟩,rfl,?_⟩))⟩
     simp only [evExt]
     rw [if_pos ⟨hh.1,by rw [hb]; exact hh.2⟩,hg1,hes]
     simp only [hfd,bw]
    ·cases e
   | entrystore =>
    have hg:∀ v ∈ vs,∀ i ∈ v.ids,h2.get i=h1.get i∧i ∈ rdIds (.ext .entrystore xs) s:=fun v hv i hi=>by
     obtain ⟨x,hx,hxv⟩:=gn hvs hv
     have hx':x ∈ heapOpds (.ext .entrystore xs):=by simpa [heapOpds] using hx
     refine ⟨ha x hx' v hxv i hi,?_⟩
     unfold rdIds
     rw [cj]
     exact ⟨x,hx',by rw [hxv]; exact hi⟩
    intro x' s' h' e
    rw [ae] at e
    obtain ⟨⟨v,h3⟩,e,e'⟩:=e
    cases e'
    have hsh:∃ r st v',vs=[.map (some r),.int .i64 st,v']:=by
     unfold evExt at e
     split at e <;> simp_all
    obtain ⟨r,st,v',rfl⟩:=hsh
    simp only [evExt] at e
    obtain ⟨hg1,hg2⟩:=hg (.map (some r)) (az ..) r (by simp [AVal.ids])
    split at e
    case isFalse=>cases e
    rename_i hh
    split at e
    case h_2=>cases e
    rename_i es clock hes
    have hlt:r < h1.size:=ah hes
    split at e
    case h_2=>cases e
    rename_i j hfd
    cases e
    refine ⟨rfl,.inr (.inr (.inr ⟨r,_,hh,hlt,hg2,⟨_,rfl⟩,rfl,?_⟩))⟩
    simp only [evExt]
    rw [if_pos (by rw [hb]; exact hh),hg1,hes]
    simp only [hfd,bw]
   | delete kn =>
    have hg:∀ v ∈ vs,∀ i ∈ v.ids,h2.get i=h1.get i∧i ∈ rdIds (.ext (.delete kn) xs) s:=fun v hv i hi=>by
     obtain ⟨x,hx,hxv⟩:=gn hvs hv
     have hx':x ∈ heapOpds (.ext (.delete kn) xs):=by simpa [heapOpds] using hx
     refine ⟨ha x hx' v hxv i hi,?_⟩
     unfold rdIds
     rw [cj]
     exact ⟨x,hx',by rw [hxv]; exact hi⟩
    intro x' s' h' e
    rw [ae] at e
    obtain ⟨⟨v,h3⟩,e,e'⟩:=e
    cases e'
    have hsh:(∃ k,vs=[.map none,k])∨∃ r k,vs=[.map (some r),k]:=by
     rcases vs with _ | ⟨v1,_ | ⟨k,_ | ⟨v',vs⟩⟩⟩
     ·simp [evExt] at e
     ·cases v1 <;> simp [evExt] at e
     ·cases v1 <;> simp only [evExt,reduceCtorEq] at e
      rename_i q
      cases q with
      | none=>exact .inl ⟨k,rfl⟩
      | some r=>exact .inr ⟨r,k,rfl⟩
     ·cases v1 <;> simp [evExt] at e
    rcases hsh with ⟨k,rfl⟩ | ⟨r,k,rfl⟩
    ·simp only [evExt] at e
     split at e
     case isFalse=>cases e
     rename_i hh
     cases e
     exact ⟨rfl,.inl ⟨rfl,by simp only [evExt]; rw [if_pos hh]; rfl⟩⟩
    simp only [evExt] at e
    obtain ⟨hg1,hg2⟩:=hg (.map (some r)) (az ..) r (by simp [AVal.ids])
    split at e
    case isFalse=>cases e
    rename_i hh
    split at e
    case h_2=>cases e
    rename_i es clock hes
    have hlt:r < h1.size:=ah hes
    split at e
    ·rename_i j v0 hfd
     cases e
     refine ⟨rfl,.inr (.inr (.inr ⟨r,_,hh.2,hlt,hg2,⟨_,rfl⟩,rfl,?_⟩))⟩
     simp only [evExt]
     rw [if_pos ⟨hh.1,by rw [hb]; exact hh.2⟩,hg1,hes]
     simp only [hfd,bw]
    ·rename_i hfd
     cases e
     refine ⟨rfl,.inl ⟨rfl,?_⟩⟩
     simp only [evExt]
     rw [if_pos ⟨hh.1,by rw [hb]; exact hh.2⟩,hg1,hes]
     simp only [hfd,bw]
    ·cases e
   | hstore n =>
    have hg:∀ v ∈ vs,∀ i ∈ v.ids,h2.get i=h1.get i∧i ∈ rdIds (.ext (.hstore n) xs) s:=fun v hv i hi=>by
     obtain ⟨x,hx,hxv⟩:=gn hvs hv
     have hx':x ∈ heapOpds (.ext (.hstore n) xs):=by simpa [heapOpds] using hx
     refine ⟨ha x hx' v hxv i hi,?_⟩
     unfold rdIds
     rw [cj]
     exact ⟨x,hx',by rw [hxv]; exact hi⟩
    intro x' s' h' e
    rw [ae] at e
    obtain ⟨⟨v,h3⟩,e,e'⟩:=e
    cases e'
    have hsh:∃ r o' v',vs=[.ptr (some (r,o')),v']:=by
     rcases vs with _ | ⟨v1,_ | ⟨v',_ | ⟨v4,vs⟩⟩⟩
     ·simp [evExt] at e
     ·cases v1 <;> simp [evExt] at e
     ·cases v1 <;> simp only [evExt,reduceCtorEq] at e
      rename_i q
      cases q with
      | none=>simp [evExt] at e
      | some q=>exact ⟨q.1,q.2,v',rfl⟩
     ·cases v1 <;> simp [evExt] at e
    obtain ⟨r,o',v',rfl⟩:=hsh
    simp only [evExt] at e
    obtain ⟨hg1,hg2⟩:=hg (.ptr (some (r,o'))) (az ..) r (by simp [AVal.ids])
    split at e
    case h_2=>cases e
    rename_i xs' e1 cs hxs hcs
    have hlt:r < h1.size:=ah hcs
    split at e
    case isFalse=>cases e
    rename_i hh
    cases e
    refine ⟨rfl,.inr (.inr (.inr ⟨r,_,hh.2.1,hlt,hg2,⟨_,rfl⟩,rfl,?_⟩))⟩
    simp only [evExt]
    rw [hg1,hcs,hxs]
    simp only
    rw [if_pos ⟨hh.1,by rw [hb]; exact hh.2.1,hh.2.2⟩]
    rfl
   | copy ez =>
    have hg:∀ v ∈ vs,∀ i ∈ v.ids,h2.get i=h1.get i∧i ∈ rdIds (.ext (.copy ez) xs) s:=fun v hv i hi=>by
     obtain ⟨x,hx,hxv⟩:=gn hvs hv
     have hx':x ∈ heapOpds (.ext (.copy ez) xs):=by simpa [heapOpds] using hx
     refine ⟨ha x hx' v hxv i hi,?_⟩
     unfold rdIds
     rw [cj]
     exact ⟨x,hx',by rw [hxv]; exact hi⟩
    intro x' s' h' e
    rw [ae] at e
    obtain ⟨⟨v,h3⟩,e,e'⟩:=e
    cases e'
    have hsh:∃ a n c y,vs=[.slice a n c,y]:=by
     rcases vs with _ | ⟨v1,_ | ⟨v',_ | ⟨v4,vs⟩⟩⟩
     ·simp [evExt] at e
     ·cases v1 <;> simp [evExt] at e
     ·cases v1 <;> simp only [evExt,reduceCtorEq] at e
      exact ⟨_,_,_,_,rfl⟩
     ·cases v1 <;> simp [evExt] at e
    obtain ⟨a,n,c,y,rfl⟩:=hsh
    have hrow:rowK ez h2 (min n (alen y)) y=rowK ez h1 (min n (alen y)) y:=by
     have hy:=hg y (by simp)
     unfold rowK
     cases y <;> try rfl
     rename_i ya yn yc
     simp only
     split
     ·unfold rowOf
      cases ya with
      | none=>rfl
      | some p=>obtain ⟨i,o⟩:=p; simp only [(hy i (by simp [AVal.ids])).1]
     ·rfl
    simp only [evExt] at e
    split at e
    case h_2=>cases e
    rename_i src hsrc
    split at e
    ·rename_i h0
     cases e
     refine ⟨rfl,.inl ⟨rfl,?_⟩⟩
     simp only [evExt]
     rw [hrow,hsrc]
     simp only
     rw [if_pos h0]
     rfl
    ·rename_i h0
     split at e
     case h_2=>cases e
     rename_i r o'
     obtain ⟨hg1,hg2⟩:=hg (.slice (some (r,o')) n c) (az ..) r (by simp [AVal.ids])
     split at e
     case h_2=>cases e
     rename_i e1 cs hcs
     have hlt:r < h1.size:=ah hcs
     split at e
     case isFalse=>cases e
     rename_i hh
     cases e
     refine ⟨rfl,.inr (.inr (.inr ⟨r,_,hh.2.1,hlt,hg2,⟨_,rfl⟩,rfl,?_⟩))⟩
     simp only [evExt]
     rw [hrow,hsrc]
     simp only
     rw [if_neg h0,hg1,hcs]
     simp only
     rw [if_pos ⟨hh.1,by rw [hb]; exact hh.2.1,hh.2.2⟩]
     rfl
   | clear ez z =>
    have hg:∀ v ∈ vs,∀ i ∈ v.ids,h2.get i=h1.get i∧i ∈ rdIds (.ext (.clear ez z) xs) s:=fun v hv i hi=>by
     obtain ⟨x,hx,hxv⟩:=gn hvs hv
     have hx':x ∈ heapOpds (.ext (.clear ez z) xs):=by simpa [heapOpds] using hx
     refine ⟨ha x hx' v hxv i hi,?_⟩
     unfold rdIds
     rw [cj]
     exact ⟨x,hx',by rw [hxv]; exact hi⟩
    intro x' s' h' e
    rw [ae] at e
    obtain ⟨⟨v,h3⟩,e,e'⟩:=e
    cases e'
    have hsh:∃ a n c,vs=[.slice a n c]:=by
     rcases vs with _ | ⟨v1,_ | ⟨v',vs⟩⟩
     ·simp [evExt] at e
     ·cases v1 <;> simp only [evExt,reduceCtorEq] at e
      exact ⟨_,_,_,rfl⟩
     ·cases v1 <;> simp [evExt] at e
    obtain ⟨a,n,c,rfl⟩:=hsh
    simp only [evExt] at e
    split at e
    ·rename_i h0
     cases e
     refine ⟨rfl,.inl ⟨rfl,?_⟩⟩
     simp only [evExt]
     rw [if_pos h0]
     rfl
    ·rename_i h0
     split at e
     case h_2=>cases e
     rename_i r o'
     obtain ⟨hg1,hg2⟩:=hg (.slice (some (r,o')) n c) (az ..) r (by simp [AVal.ids])
     split at e
     case h_2=>cases e
     rename_i e1 cs hcs
     have hlt:r < h1.size:=ah hcs
     split at e
     case isFalse=>cases e
     rename_i hh
     cases e
     refine ⟨rfl,.inr (.inr (.inr ⟨r,_,hh.2.1,hlt,hg2,⟨_,rfl⟩,rfl,?_⟩))⟩
     simp only [evExt]
     rw [if_neg h0,hg1,hcs]
     simp only
     rw [if_pos ⟨hh.1,by rw [hb]; exact hh.2.1,hh.2.2⟩]
     rfl
   | appz ez by' z =>
    have hg:∀ v ∈ vs,∀ i ∈ v.ids,h2.get i=h1.get i:=fun v hv i hi=>by
     obtain ⟨x,hx,hxv⟩:=gn hvs hv
     exact ha x (by simpa [heapOpds] using hx) v hxv i hi
    rcases vs with _ | ⟨v1,_ | ⟨v2,_ | ⟨v3,vs⟩⟩⟩
    ·exact au _
    ·cases v1 <;> exact au _
    ·cases v1 <;> try exact au _
     rename_i a n c
     cases v2 <;> try exact au _
     rename_i kd m
     cases kd <;> try exact au _
     have hrow:rowOf ez h2 (.slice a n c)=rowOf ez h1 (.slice a n c):=by
      unfold rowOf
      cases a with
      | none=>rfl
      | some p=>obtain ⟨i,o⟩:=p; simp only [hg (.slice (some (i,o)) n c) (az ..) i (by simp [AVal.ids])]
     simp only [evExt,hrow]
     split
     ·exact f8 _
     ·split
      ·split
       ·exact el (.slice _ _) _
       ·exact au _
      ·exact au _
    ·cases v1 <;> try exact au _
     cases v2 <;> try exact au _
     rename_i kd m
     cases kd <;> exact au _
   | entry=>cases hc
   | lookup kn z ok =>
    have hent:=hent (fun x hx=>ha x (by simpa [heapOpds] using hx))
    cases vs with
    | nil=>exact au _
    | cons m vs =>
     cases vs with
     | nil=>exact au _
     | cons y vs =>
      cases vs with
      | cons _ _=>exact au _
      | nil =>
       simp only [evExt,hent m (az ..)]
       split
       ·split
        ·split
         ·exact f8 _
         ·exact f8 _
         ·exact au _
        ·exact au _
       ·exact au _
   | pure p =>
    simp only [evExt]
    cases evPure p vs with
    | none=>exact au _
    | some r=>exact f8 _
  ·exact au _
 | nextStr _=>exact au _
end
end Go.Abs

namespace Go.Abs
inductive Chain (ops:Array Oper):Nat→Nat→Prop where
 | one {j:Nat} {o:Oper} {e:Edge}:ops[j]? = some o→e ∈ o.after→Region.binds .any e=true→Chain ops j e.on
 | step {j i:Nat} {o:Oper} {e:Edge}:ops[j]? = some o→e ∈ o.after→Region.binds .any e=true→Chain ops e.on i→Chain ops j i
section
variable {ops:Array Oper}
theorem mask_bit (acc:List Nat) (i:Nat):∀ (l:List Edge) (s:Nat),(l.foldl (fun s e=>if Region.binds .any e then s ||| 2 ^ e.on ||| acc.getD e.on 0 else s) s).testBit i=true →
  s.testBit i=true∨∃ e ∈ l,Region.binds .any e=true∧(e.on=i∨(acc.getD e.on 0).testBit i=true)
 | [],s,h=>.inl h
 | e :: l,s,h=>by
  simp only [List.foldl_cons] at h
  rcases mask_bit acc i l _ h with h1 | ⟨e',h1,h2,h3⟩
  ·split at h1
   ·rename_i hb
    rw [Nat.testBit_or,Nat.testBit_or,Nat.testBit_two_pow] at h1
    simp only [bu,decide_eq_true_eq] at h1
    rcases h1 with (h1 | h1) | h1
    ·exact .inl h1
    ·exact .inr ⟨e,az ..,hb,.inl h1⟩
    ·exact .inr ⟨e,az ..,hb,.inr h1⟩
   ·exact .inl h1
  ·exact .inr ⟨e',bd _ h1,h2,h3⟩
theorem fq:∀ (l:List Oper) (acc:List Nat),(befs l acc).length=acc.length+l.length
 | [],acc=>by simp [befs]
 | o :: l,acc=>by simp [befs,fq l]; omega
theorem befs_chain:∀ (l:List Oper) (acc:List Nat),ops.toList.drop acc.length=l→(∀ k i,(acc.getD k 0).testBit i=true→Chain ops k i) →
  ∀ k i,((befs l acc).getD k 0).testBit i=true→Chain ops k i
 | [],acc,_,h,k,i,hb=>h k i hb
 | o :: l,acc,hd,h,k,i,hb=>by
  simp only [befs] at hb
  have ho:ops[acc.length]? = some o:=by
   have:=congrArg (fun l=>l[0]?) hd
   simpa using this
  refine befs_chain l (acc++[maskOf acc o]) ?_ (fun k' i' hk=>?_) k i hb
  ·have:=congrArg List.tail hd
   simpa using this
  ·rcases Nat.lt_trichotomy k' acc.length with h1 | h1 | h1
   ·rw [dj,ai h1,← dj] at hk
    exact h k' i' hk
   ·subst h1
    rw [dj,ak (aj _)] at hk
    simp at hk
    rcases mask_bit acc i' _ _ hk with h2 | ⟨e,h2,h3,h4⟩
    ·simp at h2
    ·have he:e ∈ o.after:=by simpa using h2
     rcases h4 with rfl | h4
     ·exact .one ho he h3
     ·exact .step ho he h3 (h _ _ h4)
   ·rw [dj,a7 (by simp; omega)] at hk
    simp at hk
def Down (ops:Array Oper) (listed:Array Bool):Prop :=
 ∀ (j:Nat) (o:Oper) (e:Edge),listed[j]? = some true→ops[j]? = some o→e ∈ o.after→Region.binds .any e=true→listed[e.on]? = some true
theorem dv {listed:Array Bool} (hd:Down ops listed) {j i:Nat} (hc:Chain ops j i):(∀ (o:Oper) (e:Edge),ops[j]? = some o→e ∈ o.after→Region.binds .any e=true→listed[e.on]? = some true)→listed[i]? = some true:=by
 induction hc with
 | one ho he hb=>intro h; exact h _ _ ho he hb
 | step ho he hb _ ih =>
  intro h
  exact ih fun o' e' ho' he' hb'=>hd _ _ _ (h _ _ ho he hb) ho' he' hb'
theorem ready_mem {listed:Array Bool} (hs:listed.size=ops.size) {i:Nat} (h:i ∈ Region.ready .any ops listed) :
  ∃ o,ops[i]? = some o∧listed[i]? = some false∧∀ e,e ∈ o.after→Region.binds .any e=true→listed[e.on]? = some true:=by
 unfold Region.ready at h
 rw [eb] at h
 obtain ⟨h1,h2⟩:=h
 rw [bl] at h1
 simp only [ap,dm] at h2
 obtain ⟨h2,h3⟩:=h2
 have ho:ops[i]? = some ops[i]:=by simp [h1]
 refine ⟨ops[i],ho,?_,fun e he hb=>?_⟩
 ·have:listed[i]? = some listed[i]:=by simp [hs,h1]
  rw [this]
  simp [hs,h1] at h2
  rw [h2]
 ·rw [ho] at h3
  simp only [bw,ff,Array.all_eq_true'] at h3
  have:=h3 e he
  simp only [hb,Bool.not_true,Bool.false_or] at this
  rw [Array.getD_eq_getD_getElem?] at this
  cases hl:listed[e.on]? with
  | none=>rw [hl] at this; simp at this
  | some b=>rw [hl] at this; simp at this; rw [this]
theorem all_listed (hb:edgesBack ops=true) {listed:Array Bool} (hs:listed.size=ops.size) (h:Region.ready .any ops listed=[]):∀ i,i < ops.size→listed[i]? = some true:=by
 intro i
 induction i using Nat.strongRecOn with
 | _ i ih =>
  intro hi
  rcases Bool.eq_false_or_eq_true listed[i] with h1 | h1
  ·simp [hs,hi,h1]
  ·exfalso
   have:i ∈ Region.ready .any ops listed:=by
    unfold Region.ready
    rw [eb]
    refine ⟨bl.2 hi,?_⟩
    have ho:ops[i]? = some ops[i]:=by simp [hi]
    rw [ho]
    simp only [ap,dm,bw,ff,Array.all_eq_true']
    refine ⟨by simp [hs,hi,h1],fun e he=>?_⟩
    cases hbb:Region.binds .any e with
    | false=>rfl
    | true =>
     have hlt:e.on < i:=by
      unfold edgesBack at hb
      rw [al] at hb
      have:=hb i (bl.2 hi)
      rw [ho] at this
      simp only [Array.all_eq_true'] at this
      have:=this e he
      simpa [hbb] using this
     have:=ih e.on hlt (by omega)
     simp [Array.getD_eq_getD_getElem?,this]
   rw [h] at this
   cases this
theorem fz {E:Env} {nt:Nat} {locs:List Nat}:∀ (l:List Oper) (i:Nat) (as:List AOper),cOpers E nt ops locs i l=some as→as.length=l.length∧∀ (k:Nat) (o:Oper),l[k]? = some o→∃ o',as[k]? = some o'∧cOper E nt ops (locs.contains (i+k)) o=some o'
 | [],i,as,h=>by simp only [cOpers] at h; cases h; exact ⟨rfl,fun k o hk=>by simp at hk⟩
 | o :: l,i,as,h=>by
  simp only [cOpers] at h
  split at h
  case h_2=>cases h
  rename_i o' as' h1 h2
  cases h
  obtain ⟨k1,k2⟩:=fz l (i+1) as' h2
  refine ⟨by simp [k1],fun k x hk=>?_⟩
  cases k with
  | zero=>simp at hk; subst hk; exact ⟨o',rfl,h1⟩
  | succ k =>
   simp at hk
   obtain ⟨x',h3,h4⟩:=k2 k x hk
   exact ⟨x',by simpa using h3,by rw [show i+(k+1)=i+1+k by omega]; exact h4⟩
def Exact (ops:Array Oper) (listed:Array Bool) (p:Nat):Prop:=listed.size=ops.size∧∀ i,i < ops.size→listed[i]? = some (decide (i < p))
theorem Exact.down (hb:edgesBack ops=true) {listed:Array Bool} {p:Nat} (h:Exact ops listed p):Down ops listed:=by
 intro j o e hj ho he hbb
 have hjs:j < ops.size:=ah (l:=ops.toList) (by simpa using ho)
 have h1:=h.2 j hjs
 rw [hj] at h1
 have hjp:j < p:=by simpa using h1
 have hlt:e.on < j:=by
  unfold edgesBack at hb
  rw [al] at hb
  have:=hb j (bl.2 hjs)
  rw [ho] at this
  simp only [Array.all_eq_true'] at this
  have:=this e he
  simpa [hbb] using this
 rw [h.2 e.on (by omega)]
 simp; omega
theorem Exact.next {listed:Array Bool} {p:Nat} (h:Exact ops listed p):Exact ops (listed.setIfInBounds p true) (p+1):=by
 refine ⟨by simp [h.1],fun i hi=>?_⟩
 by_cases e:p=i
 ·subst e; simp [h.1,hi]
 ·rw [bj e,h.2 i hi]
  congr 1
  rw [Bool.eq_iff_iff]
  simp; omega
theorem waits_at {bef:List Nat} {p j i:Nat} (h:waits bef p=true) (hj:j < bef.length) (hpj:p≤j) (hi:i < p):(bef.getD j 0).testBit i=true:=by
 unfold waits at h
 rw [al] at h
 have:=h j (bl.2 hj)
 simp only [bu,decide_eq_true_eq] at this
 rcases this with h1 | h1
 ·omega
 ·rw [al] at h1
  exact h1 i (bl.2 hi)
theorem waits_of {as:List AOper} {bef:List Nat} (hl:bef.length=as.length):∀ (segs:List (Bool × Nat)) (p:Nat),segsOk as bef p segs=true→waits bef p=true
 | [],p,h=>by
  simp only [segsOk,beq_iff_eq] at h
  unfold waits
  rw [al]
  intro j hj
  rw [bl] at hj
  simp; left; omega
 | (true,n) :: r,p,h=>by
  simp only [segsOk,ap] at h
  exact h.1.1.1
 | (false,0) :: r,p,h=>by
  simp only [segsOk,ap] at h
  have:=waits_of hl r (p+0) h.2
  simpa using this
 | (false,n+1) :: r,p,h=>by
  simp only [segsOk,ap] at h
  have:=h.1.2
  rw [al] at this
  have:=this 0 (bl.2 (by omega))
  simpa using this
end
section
variable {E:Env} {lo nt:Nat} {μ0:MM} {w0:World} {ds:List Deferred} {s:Slots} {h:Heap} {a:Act} {w:World} {call:CallSem} {ops:Array Oper} {locs:List Nat} {as:List AOper} {Q:Exit→Act→World→Prop} {ro:Option Nat}
theorem wpOp_of {i:Nat} {o:Oper} {K:Act→World→Prop} (ho:ops[i]? = some o) (h:if Region.wanted o (yielded ops a.tmps) then o.wpIn (F0 ro) 0 E.P a w K Q else K (a.put o.dst Go.undef) w):wpOpIn (F0 ro) 0 E.P ops Q i K a w:=by
 unfold wpOpIn
 rw [ho]
 simp only
 split
 ·rename_i hw; rw [if_pos hw] at h; exact h
 ·rename_i hw; rw [if_neg hw] at h; exact ⟨fun _ _=>trivial,h⟩
theorem quiet_step (hc:CallOK E call) (hev0:CallEvol call) (hg:GidOK E) {loc:Bool} {o:Oper} {o':AOper} {s1:Slots} {h1:Heap} (hop:cOper E nt ops loc o=some o') (hev:evOper call o' s { h with wmin:=h.size }=some (s1,h1))
  (hs1:h1.size=h.size) (hw1:h1.wmin=h.size) (hat:At E lo nt μ0 w0 ds s h a w) {next:Act→World→Prop} (hn:∀ a' w',At E lo nt μ0 w0 ds s1 h a' w'→next a' w') :
  if Region.wanted o (yielded ops a.tmps) then o.wpIn (F0 ro) 0 E.P a w next Q else next (a.put o.dst Go.undef) w:=by
 obtain ⟨μ,ν,k1,k2,k3,k4,k5,k6⟩:=hat
 have hlen:h.size=μ.length:=k2.len.symm
 have hat':At E lo nt μ w ds s { h with wmin:=h.size } a w:=⟨μ,ν,Step.refl _ _ _ _,k2.same rfl rfl rfl,k3,k4,k5,k6⟩
 refine oper_sound hc hev0 hg hop hev hat' fun a' w' hat1=>hn a' w' ?_
 obtain ⟨μ',ν',j1,j2,j3,j4,j5,j6⟩:=hat1
 have hevol:=gj hev0 hev
 rw [hw1,hlen] at j1
 refine ⟨μ',ν',k1.trans (j1.fresh h.wmin) (aj _),j2.same ?_ hevol.base.symm rfl,j3,j4,j5,j6⟩
 apply List.ext_getElem?
 intro i
 rcases am i h.size with hi | hi
 ·exact (hevol.objs i hi (by rw [hw1]; exact hi)).symm
 ·have e1:h.objs.length≤i:=hi
  have e2:h1.objs.length≤i:=by rw [show h1.objs.length=h1.size from rfl,hs1]; exact hi
  rw [a7 e1,a7 e2]
theorem seq_any (hc:CallOK E call) (hev0:CallEvol call) (hg:GidOK E) (has:cOpers E nt ops locs 0 ops.toList=some as) (hb:edgesBack ops=true) :
  ∀ (n p:Nat) (s:Slots) (h:Heap) (s1:Slots) (h1:Heap) (listed:Array Bool) (a:Act) (w:World),p+n≤as.length→(∀ x,x≤n→waits (befs ops.toList []) (p+x)=true) →
  evOps call ((as.drop p).take n) s h=some (s1,h1)→Exact ops listed p→At E lo nt μ0 w0 ds s h a w →
  (∀ listed' a' w',Exact ops listed' (p+n)→At E lo nt μ0 w0 ds s1 h1 a' w'→wpAnyIn (F0 ro) 0 E.P .any ops Q (ops.size - (p+n)) listed' a' w')→wpAnyIn (F0 ro) 0 E.P .any ops Q (ops.size - p) listed a w
 | 0,p,s,h,s1,h1,listed,a,w,_,_,hev,hex,hat,hk=>by
  simp only [List.take_zero,evOps] at hev; cases hev
  exact hk listed a w hex hat
 | n+1,p,s,h,s1,h1,listed,a,w,hpn,hw,hev,hex,hat,hk=>by
  obtain ⟨q1,q2⟩:=fz _ _ _ has
  have hp:p < ops.size:=by rw [q1] at hpn; simp at hpn; omega
  have hop:ops[p]? = some ops[p]:=by simp [hp]
  obtain ⟨o',ho',hco⟩:=q2 p ops[p] (by simp [hp])
  have hdrop:as.drop p=o' :: as.drop (p+1):=by
   have hpl:=ah ho'
   rw [List.drop_eq_getElem_cons hpl]
   congr 1
   rw [ag hpl] at ho'
   exact cd ho'
  rw [hdrop,List.take_succ_cons] at hev
  simp only [evOps] at hev
  split at hev
  case h_2=>cases hev
  rename_i s2 h2 he
  have hchain:=befs_chain (ops:=ops) ops.toList [] (by simp) (fun k i hk=>by simp at hk)
  have hblen:=fq ops.toList []
  have hsz:ops.size - p=(ops.size - (p+1))+1:=by omega
  rw [hsz]
  refine ⟨fun hr=>?_,fun i hi=>?_⟩
  ·have h3:=all_listed hb hex.1 hr p hp
   rw [hex.2 p hp] at h3
   simp at h3
  ·obtain ⟨oi,k1,k2,k3⟩:=ready_mem hex.1 hi
   have his:i < ops.size:=ah (l:=ops.toList) (by simpa using k1)
   have hip:p≤i:=by
    have:=hex.2 i his
    rw [k2] at this
    simpa using this
   have hieq:p=i:=by
    rcases am p i with h4 | h4
    ·exfalso
     have hbit:=waits_at (hw 1 (by omega)) (j:=i) (i:=p) (by rw [hblen]; simpa using his) (by omega) (by omega)
     have hl:=dv (hex.down hb) (hchain _ _ hbit) fun o e ho he hbb=>by rw [k1] at ho; cases ho; exact k3 e he hbb
     rw [hex.2 p hp] at hl
     simp at hl
    ·omega
   subst hieq
   rw [hop] at k1; cases k1
   refine wpOp_of hop (oper_sound hc hev0 hg hco he hat fun a' w' hat'=>?_)
   have e1:p+1+n=p+(n+1):=by omega
   refine seq_any hc hev0 hg has hb n (p+1) s2 h2 s1 h1 _ a' w' (by omega) (fun x hx=>?_) hev hex.next hat' ?_
   ·have:=hw (x+1) (by omega)
    rwa [show p+1+x=p+(x+1) by omega]
   ·rw [e1]; exact hk
theorem quiet_text {h0:Heap}:∀ (seg:List AOper) (s s1:Slots) (h1:Heap),(∀ o ∈ seg,calm o.op=true)→evQuiet call seg s h0=some (s1,h1) →
  h1=h0∧∃ (S:Nat→Slots) (r:Nat→Slot),S 0=s∧S seg.length=s1∧∀ (x:Nat) (o:AOper),seg[x]? = some o →
   (∃ h',evOper call o (S x) { h0 with wmin:=h0.size }=some (S (x+1),h')∧h'.size=h0.size∧h'.wmin=h0.size)∧S (x+1)=setSlot o.dst (r x) (S x)∧(∀ cs,r x ≠ .var cs)∧∀ d,o.dst=some d→isVar (S x) d=false
 | [],s,s1,h1,_,e=>by
  simp only [evQuiet] at e; cases e
  exact ⟨rfl,fun _=>s,fun _=>.undef,rfl,rfl,fun x o hx=>by simp at hx⟩
 | o :: seg,s,s1,h1,hcalm,e=>by
  simp only [evQuiet] at e
  split at e
  case h_2=>cases e
  rename_i s2 h2 he
  split at e
  case isFalse=>cases e
  rename_i hh
  obtain ⟨a1,a2,a3⟩:=hh
  obtain ⟨b1,S,r,b2,b3,b4⟩:=quiet_text seg s2 s1 h1 (fun o ho=>hcalm o (bd _ ho)) e
  obtain ⟨x0,c1,_,c3⟩:=d9 (S2:=s) (hcalm o (az ..)) (Agree.of (fun _ _=>rfl) (fun _ _=>Iff.rfl)) he
  refine ⟨b1,fun x=>match x with | 0=>s | x+1=>S x,fun x=>match x with | 0=>x0 | x+1=>r x,rfl,by simpa using b3,fun x o1 hx=>?_⟩
  cases x with
  | zero =>
   simp at hx; subst hx
   refine ⟨⟨h2,by simp only [b2]; exact he,a1,a2⟩,by simp only [b2]; exact c1,c3,fun d hd=>?_⟩
   rw [hd] at a3
   simpa using a3
  | succ x =>
   simp at hx
   exact b4 x o1 hx
theorem bz (d:Option Nat) (x:Slot) (s:Slots) (t:Nat):sget (setSlot d x s) t=if d=some t then some x else sget s t:=by
 rw [er]; rfl
theorem quiet_any (hc:CallOK E call) (hev0:CallEvol call) (hg:GidOK E) (has:cOpers E nt ops locs 0 ops.toList=some as) (hb:edgesBack ops=true)
  {p n:Nat} {h1:Heap} {s1:Slots} (hpn:p+n≤as.length) (hw1:waits (befs ops.toList []) (p+n)=true)
  (hap:∀ x y oi oj,x < n→y < n→as[p+x]? = some oi→as[p+y]? = some oj→apart (befs ops.toList []) (p+x) (p+y) oi oj=true)
  (hcalm:∀ x o,x < n→as[p+x]? = some o→calm o.op=true)
  (hev:evQuiet call ((as.drop p).take n) s h=some (s1,h1))
  (hk:∀ listed' a' w',Exact ops listed' (p+n)→At E lo nt μ0 w0 ds s1 h1 a' w'→wpAnyIn (F0 ro) 0 E.P .any ops Q (ops.size - (p+n)) listed' a' w') :
  ∀ listed a w,Exact ops listed p→At E lo nt μ0 w0 ds s h a w→wpAnyIn (F0 ro) 0 E.P .any ops Q (ops.size - p) listed a w:=by
 obtain ⟨q1,q2⟩:=fz _ _ _ has
 simp only [da] at q1
 have hchain:=befs_chain (ops:=ops) ops.toList [] (by simp) (fun k i hk=>by simp at hk)
 have hblen:=fq ops.toList []
 simp only [dh,b8,da] at hblen
 have hseg:∀ x,x < n→((as.drop p).take n)[x]? = as[p+x]?:=fun x hx=>by rw [b7 hx,b0]
 have hslen:((as.drop p).take n).length=n:=by simp; omega
 obtain ⟨e1,S,r,b2,b3,b4⟩:=quiet_text _ _ _ _ (fun o ho=>by
  obtain ⟨x,hx⟩:=dp ho
  have hxn:x < n:=by have:=ah hx; omega
  exact hcalm x o hxn (by rw [← hseg x hxn]; exact hx)) hev
 subst e1
 rw [hslen] at b3
 have opat:∀ x,x < n→∃ o o',ops[p+x]? = some o∧as[p+x]? = some o'∧cOper E nt ops (locs.contains (p+x)) o=some o':=by
  intro x hx
  have hlt:p+x < ops.size:=by omega
  obtain ⟨o',h2,h3⟩:=q2 (p+x) ops[p+x] (by simp [hlt])
  exact ⟨ops[p+x],o',by simp [hlt],h2,by simpa using h3⟩
 have text:∀ x o',x < n→as[p+x]? = some o'→(∃ h',evOper call o' (S x) { h1 with wmin:=h1.size }=some (S (x+1),h')∧h'.size=h1.size∧h'.wmin=h1.size)∧S (x+1)=setSlot o'.dst (r x) (S x)∧(∀ cs,r x ≠ .var cs)∧∀ d,o'.dst=some d→isVar (S x) d=false :=
  fun x o' hx ho=>b4 x o' (by rw [hseg x hx]; exact ho)
 have dst_ne:∀ x y oi oj d,x < n→y < n→x≠y→as[p+x]? = some oi→as[p+y]? = some oj→oj.dst=some d→oi.dst≠some d:=by
  intro x y oi oj d hx hy hne hi hj hd e
  have:=hap x y oi oj hx hy hi hj
  unfold apart at this
  rw [hd] at this
  simp only [ap,bu,beq_iff_eq,bne_iff_ne] at this
  rcases this.1 with h2 | h2
  ·omega
  ·exact h2 e
 have text_hit:∀ x y o d,x≤n→y < x→as[p+y]? = some o→o.dst=some d→sget (S x) d=some (r y):=by
  intro x
  induction x with
  | zero=>intro y o d _ hy; omega
  | succ x ih =>
   intro y o d hx hy ho hd
   obtain ⟨_,o',_,ho',_⟩:=opat x (by omega)
   obtain ⟨_,t2,_,_⟩:=text x o' (by omega) ho'
   rw [t2,bz]
   by_cases e:y=x
   ·subst e; rw [ho] at ho'; cases ho'; rw [if_pos hd]
   ·rw [if_neg (dst_ne x y o' o d (by omega) (by omega) (fun e'=>e e'.symm) ho' ho hd)]
    exact ih y o d (by omega) (by omega) ho hd
 have text_miss:∀ x t,x≤n→(∀ y o,y < x→as[p+y]? = some o→o.dst≠some t)→sget (S x) t=sget s t:=by
  intro x
  induction x with
  | zero=>intro t _ _; rw [b2]
  | succ x ih =>
   intro t hx hno
   obtain ⟨_,o',_,ho',_⟩:=opat x (by omega)
   obtain ⟨_,t2,_,_⟩:=text x o' (by omega) ho'
   rw [t2,bz,if_neg (hno x o' (by omega) ho')]
   exact ih t (by omega) fun y o hy=>hno y o (by omega)
 have dst_novar:∀ x o d cs,x < n→as[p+x]? = some o→o.dst=some d→sget s d≠some (.var cs):=by
  intro x o d cs hx ho hd hv
  obtain ⟨_,_,_,t4⟩:=text x o hx ho
  have h2:=t4 d hd
  have h3:sget (S x) d=sget s d:=text_miss x d (by omega) fun y o2 hy ho2=>dst_ne y x o2 o d (by omega) hx (by omega) ho2 ho hd
  unfold isVar at h2
  rw [h3,hv] at h2
  simp at h2
 have main:∀ (k:Nat) (listed:Array Bool) (sD:Slots) (a:Act) (w:World),listed.size=ops.size→Down ops listed→(∀ i,i < p→listed[i]? = some true)→(∀ i,p+n≤i→i < ops.size→listed[i]? = some false) →
   ((List.range n).filter fun x=>listed[p+x]? == some false).length=k →
   (∀ x o d,x < n→as[p+x]? = some o→listed[p+x]? = some true→o.dst=some d→sget sD d=some (r x)) →
   (∀ t,(∀ x o,x < n→as[p+x]? = some o→listed[p+x]? = some true→o.dst≠some t)→sget sD t=sget s t) →
   At E lo nt μ0 w0 ds sD h1 a w→wpAnyIn (F0 ro) 0 E.P .any ops Q (ops.size - (p+n)+k) listed a w:=by
  intro k
  induction k with
  | zero =>
   intro listed sD a w hsz hdn hlow hhigh hcount hhit hmiss hat
   have hall:∀ x,x < n→listed[p+x]? = some true:=by
    intro x hx
    have hlt:p+x < listed.size:=by omega
    have hmem:x ∉ (List.range n).filter fun x=>listed[p+x]? == some false:=by
     rw [a9 hcount]; simp
    rw [eb] at hmem
    have h2:¬ (listed[p+x]? = some false):=fun h2=>hmem ⟨bl.2 hx,by simp [h2]⟩
    rw [Array.getElem?_eq_getElem hlt] at h2 ⊢
    cases hv:listed[p+x] with
    | true=>rfl
    | false=>rw [hv] at h2; exact absurd rfl h2
   have hex:Exact ops listed (p+n):=by
    refine ⟨hsz,fun i hi=>?_⟩
    rcases am i p with h2 | h2
    ·rw [hlow i h2]; simp; omega
    ·rcases am i (p+n) with h3 | h3
     ·have:=hall (i - p) (by omega)
      rw [show p+(i - p)=i by omega] at this
      rw [this]; simp [h3]
     ·rw [hhigh i h3 hi]; simp; omega
   refine hk listed a w hex ?_
   obtain ⟨μ,ν,k1,k2,k3,k4⟩:=hat
   refine ⟨μ,ν,k1,k2,k3.congr fun t=>?_,k4⟩
   rw [← b3]
   by_cases hx:∃ x o,x < n∧as[p+x]? = some o∧o.dst=some t
   ·obtain ⟨x,o,h2,h3,h4⟩:=hx
    rw [text_hit n x o t (aj _) h2 h3 h4,hhit x o t h2 h3 (hall x h2) h4]
   ·have hno:∀ x o,x < n→as[p+x]? = some o→o.dst≠some t:=fun x o h2 h3 h4=>hx ⟨x,o,h2,h3,h4⟩
    rw [text_miss n t (aj _) hno,hmiss t fun x o h2 h3 _=>hno x o h2 h3]
  | succ k ih =>
   intro listed sD a w hsz hdn hlow hhigh hcount hhit hmiss hat
   have hsome:∃ x,x < n∧listed[p+x]? = some false:=by
    have hne:(List.range n).filter (fun x=>listed[p+x]? == some false)≠[]:=fun e=>by rw [e] at hcount; simp at hcount
    obtain ⟨x,hx⟩:=List.exists_mem_of_ne_nil _ hne
    rw [eb,bl] at hx
    exact ⟨x,hx.1,by simpa using hx.2⟩
   obtain ⟨xu,hxu,hxf⟩:=hsome
   refine ⟨fun hr=>?_,fun i hi=>?_⟩
   ·have:=all_listed hb hsz hr (p+xu) (by omega)
    rw [hxf] at this; cases this
   ·obtain ⟨oi,k1,k2,k3⟩:=ready_mem hsz hi
    have his:i < ops.size:=ah (l:=ops.toList) (by simpa using k1)
    have hip:p≤i:=by
     rcases am i p with h2 | h2
     ·rw [hlow i h2] at k2; cases k2
     ·exact h2
    have hin:i < p+n:=by
     rcases am i (p+n) with h2 | h2
     ·exact h2
     ·exfalso
      have hbit:=waits_at hw1 (j:=i) (i:=p+xu) (by rw [hblen]; exact his) h2 (by omega)
      have hl:=dv hdn (hchain _ _ hbit) fun o e ho he hbb=>by rw [k1] at ho; cases ho; exact k3 e he hbb
      rw [hxf] at hl; cases hl
    obtain ⟨x,rfl⟩:∃ x,i=p+x:=⟨i - p,by omega⟩
    have hxn:x < n:=by omega
    obtain ⟨o,o',h2,h3,h4⟩:=opat x hxn
    rw [h2] at k1; cases k1
    obtain ⟨⟨h',t1,t1a,t1b⟩,t2,t3,t4⟩:=text x o' hxn h3
    have waitsl:∀ j,(((befs ops.toList []).getD (p+x) 0).testBit j=true)→listed[j]? = some true:=fun j hbit =>
     dv hdn (hchain _ _ hbit) fun o2 e ho he hbb=>by rw [h2] at ho; cases ho; exact k3 e he hbb
    have hag:Agree (S x) sD o'.reads:=by
     refine Agree.of ?_ ?_
     ·intro t ht
      by_cases hy:∃ y oj,y < n∧as[p+y]? = some oj∧oj.dst=some t
      ·obtain ⟨y,oj,hy1,hy2,hy3⟩:=hy
       have others:∀ z oz,z < n→z≠y→as[p+z]? = some oz→oz.dst≠some t:=fun z oz hz hne hoz=>dst_ne z y oz oj t hz hy1 hne hoz hy2 hy3
       by_cases hxy:y=x
       ·-- its own slot
        subst hxy
        rw [text_miss y t (by omega) fun z oz hz hoz=>others z oz (by omega) (by omega) hoz]
        rw [hmiss t fun z oz hz hoz hl=>by
         by_cases e:z=y
         ·subst e; rw [k2] at hl; cases hl
         ·exact others z oz hz e hoz]
       ·have:=hap x y o' oj hxn hy1 h3 hy2
        unfold apart at this
        rw [hy3] at this
        simp only [ap,bu,beq_iff_eq,dm,List.contains_eq_mem,decide_eq_false_iff_not,decide_eq_true_eq] at this
        rcases this.2 with ((h5 | h5) | h5) | h5
        ·omega
        ·exact absurd ht h5
        ·obtain ⟨h5,h6⟩:=h5
         rw [text_hit x y oj t (by omega) (by omega) hy2 hy3,hhit y oj t hy1 hy2 (waitsl _ h6) hy3]
        ·obtain ⟨h5,h6⟩:=h5
         have hnl:listed[p+y]?≠some true:=by
          intro hl
          have:=dv hdn (hchain _ _ h6) fun o2 e ho he hbb=>hdn _ _ _ hl ho he hbb
          rw [k2] at this; cases this
         rw [text_miss x t (by omega) fun z oz hz hoz=>others z oz (by omega) (by omega) hoz]
         rw [hmiss t fun z oz hz hoz hl=>by
          by_cases e:z=y
          ·subst e; exact absurd hl hnl
          ·exact others z oz hz e hoz]
      ·have hno:∀ z oz,z < n→as[p+z]? = some oz→oz.dst≠some t:=fun z oz hz hoz hd=>hy ⟨z,oz,hz,hoz,hd⟩
       rw [text_miss x t (by omega) fun z oz hz hoz=>hno z oz (by omega) hoz,hmiss t fun z oz hz hoz _=>hno z oz hz hoz]
     ·intro t cs
      have v1:sget (S x) t=some (.var cs) ↔ sget s t=some (.var cs):=by
       by_cases hy:∃ y oj,y < x∧as[p+y]? = some oj∧oj.dst=some t
       ·obtain ⟨y,oj,hy1,hy2,hy3⟩:=hy
        rw [text_hit x y oj t (by omega) hy1 hy2 hy3]
        constructor
        ·intro e; exact absurd (cd e) ((text y oj (by omega) hy2).2.2.1 cs)
        ·intro e; exact absurd e (dst_novar y oj t cs (by omega) hy2 hy3)
       ·rw [text_miss x t (by omega) fun z oz hz hoz hd=>hy ⟨z,oz,hz,hoz,hd⟩]
      have v2:sget sD t=some (.var cs) ↔ sget s t=some (.var cs):=by
       by_cases hy:∃ y oj,y < n∧as[p+y]? = some oj∧listed[p+y]? = some true∧oj.dst=some t
       ·obtain ⟨y,oj,hy1,hy2,hyl,hy3⟩:=hy
        rw [hhit y oj t hy1 hy2 hyl hy3]
        constructor
        ·intro e; exact absurd (cd e) ((text y oj hy1 hy2).2.2.1 cs)
        ·intro e; exact absurd e (dst_novar y oj t cs hy1 hy2 hy3)
       ·rw [hmiss t fun z oz hz hoz hl hd=>hy ⟨z,oz,hz,hoz,hl,hd⟩]
      exact v1.trans v2.symm
    obtain ⟨x',c1,c2,c3⟩:=d9 (hcalm x o' hxn h3) hag t1
    refine wpOp_of h2 (quiet_step hc hev0 hg h4 c2 t1a t1b hat fun a' w' hat'=>?_)
    have hset:∀ j,j≠p+x→(listed.setIfInBounds (p+x) true)[j]? = listed[j]?:=fun j hj=>bj (fun e=>hj e.symm)
    have hself:(listed.setIfInBounds (p+x) true)[p+x]? = some true:=by simp [hsz,his]
    have hx':∀ d,o'.dst=some d→x'=r x:=by
     intro d hd
     rw [t2] at c1
     rw [hd] at c1
     simp only [setSlot] at c1
     injection c1 with c1 _
     injection c1 with _ c1
     exact c1.symm
    refine ih (listed.setIfInBounds (p+x) true) (setSlot o'.dst x' sD) a' w' (by simp [hsz]) ?_ ?_ ?_ ?_ ?_ ?_ hat'
    ·intro j oj e hj hoj he hbb
     by_cases ej:j=p+x
     ·subst ej
      rw [h2] at hoj; cases hoj
      have:=k3 e he hbb
      by_cases ee:e.on=p+x
      ·rw [ee]; exact hself
      ·rw [hset _ ee]; exact this
     ·rw [hset _ ej] at hj
      have:=hdn j oj e hj hoj he hbb
      by_cases ee:e.on=p+x
      ·rw [ee]; exact hself
      ·rw [hset _ ee]; exact this
    ·intro j hj; rw [hset j (by omega)]; exact hlow j hj
    ·intro j hj hj'; rw [hset j (by omega)]; exact hhigh j hj hj'
    ·-- one less is to come
     have hperm:((List.range n).filter fun y=>(listed.setIfInBounds (p+x) true)[p+y]? == some false)=((List.range n).filter fun y=>listed[p+y]? == some false).filter fun y=>y != x:=by
      rw [List.filter_filter]
      apply List.filter_congr
      intro y _
      by_cases ey:y=x
      ·subst ey; rw [hself]; simp
      ·rw [hset _ (by omega)]; simp [ey]
     rw [hperm]
     have hmem:x ∈ (List.range n).filter fun y=>listed[p+y]? == some false:=by
      rw [eb]; exact ⟨bl.2 hxn,by simp [k2]⟩
     have hnd:((List.range n).filter fun y=>listed[p+y]? == some false).Nodup:=List.nodup_range.sublist List.filter_sublist
     generalize (List.range n).filter (fun y=>listed[p+y]? == some false)=L at hcount hmem hnd
     have herase:L.filter (fun y=>y != x)=L.erase x:=(hnd.erase_eq_filter x).symm
     rw [herase,List.length_erase_of_mem hmem,hcount]
     rfl
    ·intro y oy d hy hoy hl hd
     rw [bz]
     by_cases ey:y=x
     ·subst ey; rw [h3] at hoy; cases hoy
      rw [if_pos hd,hx' d hd]
     ·rw [hset _ (by omega)] at hl
      rw [if_neg (dst_ne x y o' oy d hxn hy (fun e=>ey e.symm) h3 hoy hd)]
      exact hhit y oy d hy hoy hl hd
    ·intro t hno
     rw [bz,if_neg (hno x o' hxn h3 hself)]
     refine hmiss t fun y oy hy hoy hl=>?_
     by_cases ey:y=x
     ·subst ey; rw [k2] at hl; cases hl
     ·exact hno y oy hy hoy (by rw [hset _ (by omega)]; exact hl)
 intro listed a w hex hat
 have hcount:((List.range n).filter fun x=>listed[p+x]? == some false).length=n:=by
  have:(List.range n).filter (fun x=>listed[p+x]? == some false)=List.range n:=by
   rw [List.filter_eq_self]
   intro x hx
   rw [bl] at hx
   rw [hex.2 (p+x) (by omega)]
   simp
  rw [this,List.length_range]
 have:=main n listed s a w hex.1 (hex.down hb) (fun i hi=>by rw [hex.2 i (by omega)]; simp [hi]) (fun i hi hi'=>by rw [hex.2 i hi']; simp; omega) hcount
  (fun x o d hx ho hl _=>by
   have h5:=hex.2 (p+x) (by omega)
   rw [hl] at h5
   have h6:=of_decide_eq_true (cd h5).symm
   omega) (fun t _=>rfl) hat
 rwa [show ops.size - (p+n)+n=ops.size - p by omega] at this
end
end Go.Abs

namespace Go.Abs
section
variable {E:Env}
theorem LoopRel.same {μ μ':MM} {g:Nat} {st:LoopSt} {p:Option AExit} {sl:List (Nat × AVal)} {r:Loop} (h:LoopRel E μ g st p sl r) (hm:∀ j ∈ AObj.ids (.loop g st p sl),j < μ.length→μ'[j]? = μ[j]?):LoopRel E μ' g st p sl r :=
 ⟨h.code,h.st,h.pend,fun k x hk=>by
  obtain ⟨v',h1,h2⟩:=h.slots k x hk
  refine ⟨v',h1,eh (fun j hj=>hm j ?_) h2⟩
  simp only [AObj.ids]
  exact gt (k:=k) (a:=x.2) (by rw [bq,hk]; rfl) hj⟩
theorem ORel.same {μ μ':MM} {b i:Nat} {w:World} {o:AObj} (h:ORel E μ b i w o) (hi:μ'[i]? = μ[i]?) (hm:∀ j ∈ o.ids,j < μ.length→μ'[j]? = μ[j]?):ORel E μ' b i w o:=by
 cases o with
 | dead=>exact hi.trans h
 | cells esz cs =>
  obtain ⟨m,c,e,fr,h1,h2,h3,h4,h5,h6,h7⟩:=h
  refine ⟨m,c,e,fr,hi.trans h1,h2,h3,h4,h5,fun k v hk=>?_,h7⟩
  obtain ⟨k1,v',k2,k3⟩:=h6 k v hk
  exact ⟨k1,v',k2,eh (fun j hj=>hm j (gt hk hj)) k3⟩
 | map es clock =>
  obtain ⟨m,es',h1,h2,h3,h4⟩:=h
  refine ⟨m,es',hi.trans h1,h2,h3,fun k x hk=>?_⟩
  obtain ⟨y,y1,y2,y3,y4⟩:=h4 k x hk
  have hin:∀ j,j ∈ x.1.ids∨j ∈ x.2.1.ids→j ∈ AObj.ids (.map es clock):=fun j hj=>by
   simp only [AObj.ids,cj,ba]
   exact ⟨x,aq hk,hj⟩
  exact ⟨y,y1,eh (fun j hj=>hm j (hin j (.inl hj))) y2,eh (fun j hj=>hm j (hin j (.inr hj))) y3,y4⟩
 | iter s pos =>
  obtain ⟨m,h1,h2⟩:=h
  exact ⟨m,hi.trans h1,h2⟩
 | mapIter r a b c =>
  obtain ⟨m,r',⟨h1,h0⟩,h2,h3⟩:=h
  exact ⟨m,r',⟨hi.trans h1,h0⟩,h2,eh (fun j hj=>hm j (by cases r <;> exact hj)) h3⟩
 | loop g st p sl =>
  obtain ⟨m,r,h1,h2,h3⟩:=h
  exact ⟨m,r,hi.trans h1,h2,h3.same hm⟩
theorem ORel.moved {μ μ':MM} {b i i':Nat} {w:World} {o:AObj} (h:ORel E μ b i w o) (hi:μ'[i']? = μ[i]?) (hm:∀ j ∈ o.ids,j < μ.length→μ'[j]? = μ[j]?) (hb:b≤i):ORel E μ' b i' w o:=by
 cases o with
 | dead=>exact hi.trans h
 | cells esz cs =>
  obtain ⟨m,c,e,fr,h1,h2,h3,h4,h5,h6,h7⟩:=h
  refine ⟨m,c,e,fr,hi.trans h1,h2,h3,h4,h5,fun k v hk=>?_,fun _=>h7 hb⟩
  obtain ⟨k1,v',k2,k3⟩:=h6 k v hk
  exact ⟨k1,v',k2,eh (fun j hj=>hm j (gt hk hj)) k3⟩
 | map es clock =>
  obtain ⟨m,es',h1,h2,h3,h4⟩:=h
  refine ⟨m,es',hi.trans h1,h2,h3,fun k x hk=>?_⟩
  obtain ⟨y,y1,y2,y3,y4⟩:=h4 k x hk
  have hin:∀ j,j ∈ x.1.ids∨j ∈ x.2.1.ids→j ∈ AObj.ids (.map es clock):=fun j hj=>by
   simp only [AObj.ids,cj,ba]
   exact ⟨x,aq hk,hj⟩
  exact ⟨y,y1,eh (fun j hj=>hm j (hin j (.inl hj))) y2,eh (fun j hj=>hm j (hin j (.inr hj))) y3,y4⟩
 | iter s pos =>
  obtain ⟨m,h1,h2⟩:=h
  exact ⟨m,hi.trans h1,h2⟩
 | mapIter r a b c =>
  obtain ⟨m,r',⟨h1,h0⟩,h2,h3⟩:=h
  exact ⟨m,r',⟨hi.trans h1,h0⟩,h2,eh (fun j hj=>hm j (by cases r <;> exact hj)) h3⟩
 | loop g st p sl =>
  obtain ⟨m,r,h1,h2,h3⟩:=h
  exact ⟨m,r,hi.trans h1,h2,h3.same hm⟩
variable {lo nt:Nat} {μ0:MM} {w0:World} {ds:List Deferred} {s:Slots} {h:Heap} {a:Act} {w:World}
theorem At.move {N r wm:Nat} {d:Option Nat} {x:Slot} {ob:AObj} (hat:At E lo nt μ0 w0 ds (setSlot d x s) ⟨h.objs++[ob],h.base,wm⟩ a w) (hN:h.objs.length=N) (hr:h.objs[r]? = some .dead) (hbr:h.base≤r) (h0:μ0.length≤r)
  (hs:∀ t y,sget s t=some y→∀ i ∈ y.ids,i < N∧i≠r) (hx:∀ v,x = .val v→∀ i ∈ v.ids,i≠r) (hxv:∀ cs,x ≠ .var cs) (hob:∀ i ∈ ob.ids,i < N∧i≠r)
  (ho:∀ (k:Nat) (o:AObj),h.objs[k]? = some o→∀ i ∈ o.ids,i < N∧i≠r) :
  At E lo nt μ0 w0 ds (setSlot d (x.ren (mv N r)) s) ⟨h.objs.set r ob,h.base,wm⟩ a w:=by
 obtain ⟨μ,ν,k1,k2,k3,k4,k5,k6⟩:=hat
 have hrN:r < N:=by rw [← hN]; exact ah hr
 have hlen:μ.length=N+1:=by have:=k2.len; simpa [hN] using this
 let μ':MM:=(μ.take N).set r ((μ[N]?).getD none)
 have hl':μ'.length=N:=by simp [μ',hlen]
 have hat:∀ i,i < N→i≠r→μ'[i]? = μ[i]?:=fun i hi hne=>by
  simp only [μ']
  rw [ci (Ne.symm hne),List.getElem?_take,if_pos hi]
 have hatr:μ'[r]? = μ[N]?:=by
  simp only [μ']
  rw [dl,if_pos rfl,if_pos (by simp [hlen]; omega),ag (by omega)]
  rfl
 have hsame:∀ i,i < N∧i≠r→i < μ.length→μ'[i]? = μ[i]?:=fun i hi _=>hat i hi.1 hi.2
 have hfrom:∀ i m,μ'[i]? = some (some m)→∃ p,μ[p]? = some (some m)∧((i=r∧p=N)∨(i≠r∧p=i∧i < N)):=fun i m hm=>by
  by_cases e:i=r
  ·subst e
   exact ⟨N,hatr.symm.trans hm,.inl ⟨rfl,rfl⟩⟩
  ·have hi:i < N:=by rw [← hl']; exact ah hm
   exact ⟨i,(hat i hi e).symm.trans hm,.inr ⟨e,rfl,hi⟩⟩
 refine ⟨μ',ν,?_,?_,?_,k4,k5,k6⟩
 ·refine ⟨k1.os,k1.tape,k1.output,k1.size,k1.block,by rw [hl']; omega,fun i hi=>?_,fun i m hi hm=>?_⟩
  ·rw [hat i (by omega) (by omega)]; exact k1.old i hi
  ·obtain ⟨p,hp,h1 | h1⟩:=hfrom i m hm
   ·exact k1.new p m (by omega) hp
   ·exact k1.new p m (by omega) hp
 ·have hbs:=k2.bs
  constructor
  ·rw [hl']; simp [hN]
  ·simp only [List.length_set]; simp at hbs; omega
  ·intro i o hi
   simp only at hi ⊢
   rw [dl] at hi
   split at hi
   ·rename_i e
    subst e
    split at hi
    ·cases hi
     have hb:h.base≤N:=by omega
     exact (k2.obj N ob (by simp [← hN])).moved hatr (fun j hj=>hsame j (hob j hj)) hb
    ·cases hi
   ·rename_i e
    have hiN:i < N:=by rw [← hN]; exact ah hi
    exact (k2.obj i o (by rw [ai (by omega)]; exact hi)).same (hat i hiN (Ne.symm e)) fun j hj=>hsame j (ho i o hi j hj)
  ·intro i j mi mj hij hi hmi hmj
   obtain ⟨p,hp,hp'⟩:=hfrom i mi hmi
   obtain ⟨q,hq,hq'⟩:=hfrom j mj hmj
   refine k2.sep p q mi mj ?_ ?_ hp hq
   ·rcases hp' with ⟨a1,a2⟩ | ⟨a1,a2,a3⟩ <;> rcases hq' with ⟨b1,b2⟩ | ⟨b1,b2,b3⟩ <;> omega
   ·simp only at hi ⊢
    rcases hp' with ⟨a1,a2⟩ | ⟨a1,a2,a3⟩ <;> omega
  ·intro i m hm
   obtain ⟨p,hp,_⟩:=hfrom i m hm
   exact k2.lt p m hp
 ·have hget:∀ t y,sget (setSlot d (x.ren (mv N r)) s) t=some y→(d=some t∧y=x.ren (mv N r))∨(d≠some t∧sget s t=some y):=fun t y hy=>by
   rw [bz] at hy
   split at hy
   ·rename_i e; cases hy; exact .inl ⟨e,rfl⟩
   ·rename_i e; exact .inr ⟨e,hy⟩
  have hvar:∀ t cs,sget (setSlot d (x.ren (mv N r)) s) t=some (.var cs)→sget (setSlot d x s) t=some (.var cs)∧∀ i ∈ AVal.idsL cs,i < N∧i≠r:=fun t cs hy=>by
   rcases hget t _ hy with ⟨e,h1⟩ | ⟨e,h1⟩
   ·exfalso
    cases x <;> simp [Slot.ren] at h1
    exact hxv _ rfl
   ·exact ⟨by rw [bz,if_neg e]; exact h1,hs t _ h1⟩
  constructor
  ·intro t v hv
   rcases hget t _ hv with ⟨e,h1⟩ | ⟨e,h1⟩
   ·cases x with
    | val u =>
     simp only [Slot.ren] at h1
     cases h1
     obtain ⟨v',j1,j2⟩:=k3.val t u (by rw [bz,if_pos e])
     refine ⟨v',j1,ren_rel (mv N r) (fun i hi hl=>?_) j2⟩
     unfold mv
     split
     ·rename_i e2; subst e2; exact hatr
     ·rename_i e2
      exact hat i (by omega) (hx u rfl i hi)
    | _=>simp [Slot.ren] at h1
   ·obtain ⟨v',j1,j2⟩:=k3.val t v (by rw [bz,if_neg e]; exact h1)
    exact ⟨v',j1,eh (fun i hi=>hsame i (hs t _ h1 i hi)) j2⟩
  ·intro t hv
   rcases hget t _ hv with ⟨e,h1⟩ | ⟨e,h1⟩
   ·cases x <;> simp [Slot.ren] at h1
    exact k3.undef t (by rw [bz,if_pos e])
   ·exact k3.undef t (by rw [bz,if_neg e]; exact h1)
  ·intro t cs hv
   obtain ⟨j1,j2⟩:=hvar t cs hv
   obtain ⟨q1,q2,c,e,fr,q3,q4,q5,q6⟩:=k3.var t cs j1
   refine ⟨q1,q2,c,e,fr,q3,q4,fun k v hk=>?_,q6⟩
   obtain ⟨z1,v',z2,z3⟩:=q5 k v hk
   exact ⟨z1,v',z2,eh (fun i hi=>hsame i (j2 i (gt hk hi))) z3⟩
  ·intro t t' o cs hv hv'
   obtain ⟨j1,_⟩:=hvar t' cs hv'
   rcases hget t _ hv with ⟨e,h1⟩ | ⟨e,h1⟩
   ·cases x <;> simp [Slot.ren] at h1
    obtain ⟨rfl,rfl⟩:=h1
    exact k3.loc t _ _ cs (by rw [bz,if_pos e]) j1
   ·exact k3.loc t t' o cs (by rw [bz,if_neg e]; exact h1) j1
  ·intro t t' cs cs' hne hv hv'
   exact k3.sepv t t' cs cs' hne (hvar t cs hv).1 (hvar t' cs' hv').1
  ·intro t cs i m hv hm
   obtain ⟨p,hp,_⟩:=hfrom i m hm
   exact k3.sepm t cs p m (hvar t cs hv).1 hp
  ·exact k3.ds
  ·refine fun q hq=>⟨fun i m hm=>?_,fun t cs hv=>(k3.sepd q hq).2 t cs (hvar t cs hv).1⟩
   obtain ⟨p,hp,_⟩:=hfrom i m hm
   exact (k3.sepd q hq).1 p m hp
  ·exact k3.nodup
end
end Go.Abs

namespace Go.Abs
section
variable {E:Env} {X:Nat→Prop}
theorem At.reserve {lo nt:Nat} {μ0:MM} {w0:World} {ds:List Deferred} {s:Slots} {h:Heap} {a:Act} {w:World} (hat:At E lo nt μ0 w0 ds s h a w) (n:Nat) :
  At E lo nt μ0 w0 ds s ⟨h.objs++List.replicate n .dead,h.base,h.wmin⟩ a w:=by
 obtain ⟨μ,ν,k1,k2,k3,k4,k5,k6⟩:=hat
 have hl:Later μ (μ++List.replicate n none):=⟨by simp,fun i hi=>.inl (ai hi)⟩
 have hold:∀ i,i < μ.length→(μ++List.replicate n none)[i]? = μ[i]?:=fun i hi=>ai hi
 have hnew:∀ i m,(μ++List.replicate n none)[i]? = some (some m)→μ[i]? = some (some m):=fun i m hm=>by
  rcases am i μ.length with h1 | h1
  ·rw [← hold i h1]; exact hm
  ·rw [ak h1,List.getElem?_replicate] at hm
   split at hm
   ·cases hm
   ·cases hm
 refine ⟨μ++List.replicate n none,ν,?_,?_,?_,k4,k5,k6⟩
 ·refine ⟨k1.os,k1.tape,k1.output,k1.size,k1.block,cr k1.len hl.len,fun i hi=>?_,fun i m hi hm=>k1.new i m hi (hnew i m hm)⟩
  rw [hold i (cq hi k1.len)]; exact k1.old i hi
 ·constructor
  ·simp [k2.len]
  ·have:=k2.bs; simp; omega
  ·intro i o hi
   simp only at hi
   rcases am i h.objs.length with h1 | h1
   ·rw [ai h1] at hi
    exact (k2.obj i o hi).keep hl fun m hm=>⟨by rw [hold i (by rw [k2.len]; exact h1)]; exact hm,rfl⟩
   ·have hlt:=ah hi
    rw [ak h1,List.getElem?_replicate] at hi
    split at hi
    ·cases hi
     show (μ++_)[i]? = _
     rw [ak (by rw [k2.len]; exact h1),List.getElem?_replicate,k2.len]
     rw [if_pos (by assumption)]
    ·cases hi
  ·intro i j mi mj hij hi hmi hmj
   exact k2.sep i j mi mj hij hi (hnew _ _ hmi) (hnew _ _ hmj)
  ·intro i m hm; exact k2.lt i m (hnew _ _ hm)
 ·exact k3.keep hl (fun _ _ _=>rfl) (fun t cs i m hv hi hm=>k3.sepm t cs i m hv (hnew _ _ hm)) fun r hr=>⟨rfl,fun i m hi hm=>(k3.sepd r hr).1 i m (hnew _ _ hm)⟩
theorem At.ids {lo nt:Nat} {μ0:MM} {w0:World} {ds:List Deferred} {s:Slots} {h:Heap} {a:Act} {w:World} (hat:At E lo nt μ0 w0 ds s h a w) :
  (∀ t y,sget s t=some y→∀ i ∈ y.ids,i < h.size)∧(∀ (k:Nat) (o:AObj),h.objs[k]? = some o→∀ i ∈ o.ids,i < h.size)∧μ0.length≤h.size:=by
 obtain ⟨μ,ν,k1,k2,k3,k4,k5,k6⟩:=hat
 have hlen:μ.length=h.size:=k2.len
 have hcells:∀ {cs:List AVal} {c:Array Value} {b:Nat},CRel E μ cs c b→∀ i ∈ AVal.idsL cs,i < h.size:=by
  intro cs c b hc i hi
  have:∀ {cs:List AVal},i ∈ AVal.idsL cs→∃ (k:Nat) (v:AVal),cs[k]? = some v∧i ∈ v.ids:=by
   intro cs
   induction cs with
   | nil=>intro h; simp [AVal.idsL] at h
   | cons v cs ih =>
    intro h
    simp only [AVal.idsL,ba] at h
    rcases h with h | h
    ·exact ⟨0,v,rfl,h⟩
    ·obtain ⟨k,v',h1,h2⟩:=ih h
     exact ⟨k+1,v',by simpa using h1,h2⟩
  obtain ⟨k,v,h1,h2⟩:=this hi
  obtain ⟨_,v',_,h3⟩:=hc k v h1
  rw [← hlen]; exact h3.ids_lt i h2
 refine ⟨fun t y hy i hi=>?_,fun k o ho i hi=>?_,by rw [← hlen]; exact k1.len⟩
 ·cases y with
  | val v =>
   obtain ⟨v',_,h2⟩:=k3.val t v hy
   rw [← hlen]; exact h2.ids_lt i hi
  | var cs =>
   obtain ⟨_,_,c,e,fr,_,_,h5,_⟩:=k3.var t cs hy
   exact hcells h5 i hi
  | _=>simp [Slot.ids] at hi
 ·have:=k2.obj k o ho
  cases o with
  | dead=>simp [AObj.ids] at hi
  | cells esz cs =>
   obtain ⟨m,c,e,fr,_,_,_,_,_,h6,_⟩:=this
   exact hcells h6 i hi
  | map es clock =>
   obtain ⟨m,es',_,_,_,h4⟩:=this
   simp only [AObj.ids,cj,ba] at hi
   obtain ⟨x,hx,hi⟩:=hi
   obtain ⟨k',hk'⟩:=dp hx
   obtain ⟨y,_,h5,h6,_⟩:=h4 k' x hk'
   rw [← hlen]
   rcases hi with hi | hi
   ·exact h5.ids_lt i hi
   ·exact h6.ids_lt i hi
  | iter s pos=>simp [AObj.ids] at hi
  | mapIter r a b c =>
   obtain ⟨m,r',_,_,h3⟩:=this
   rw [← hlen]
   exact h3.ids_lt i (by cases r <;> exact hi)
  | loop g st p sl =>
   obtain ⟨m,r,_,_,h3⟩:=this
   simp only [AObj.ids] at hi
   have:∀ {l:List AVal},i ∈ AVal.idsL l→∃ (k:Nat) (v:AVal),l[k]? = some v∧i ∈ v.ids:=by
    intro l
    induction l with
    | nil=>intro h; simp [AVal.idsL] at h
    | cons v l ih =>
     intro h
     simp only [AVal.idsL,ba] at h
     rcases h with h | h
     ·exact ⟨0,v,rfl,h⟩
     ·obtain ⟨k,v',h1,h2⟩:=ih h
      exact ⟨k+1,v',by simpa using h1,h2⟩
   obtain ⟨k,v,h1,h2⟩:=this hi
   rw [bq,ae] at h1
   obtain ⟨x,hx,rfl⟩:=h1
   obtain ⟨v',_,h4⟩:=h3.slots k x hx
   rw [← hlen]; exact h4.ids_lt i h2
theorem noCall_ok (E:Env):CallOK E noCall:=⟨fun _ _ _ _ _ h=>by simp [noCall] at h,fun _ _ _ _ _ _ _ _ _ _ h=>by simp [noCall] at h⟩
theorem noCall_evol:CallEvol noCall:=fun _ _ _ _ _ h=>by simp [noCall] at h
variable {ops:Array Oper} {lo nt:Nat} {μ0:MM} {w0:World} {ds:List Deferred} {s:Slots} {a:Act} {w:World} {Q:Exit→Act→World→Prop} {ro:Option Nat}
theorem soft_step (hg:GidOK E) {loc:Bool} {o:Oper} {o':AOper} {s1:Slots} {h1:Heap} {os:List AObj} {base wm N:Nat} (hop:cOper E nt ops loc o=some o')
  (hev:evOper noCall o' s ⟨os,base,N⟩=some (s1,h1)) (hw:wm≤h1.wmin) (hat:At E lo nt μ0 w0 ds s ⟨os,base,wm⟩ a w) {next:Act→World→Prop} (hn:∀ a' w',At E lo nt μ0 w0 ds s1 ⟨h1.objs,base,wm⟩ a' w'→next a' w') :
  if Region.wanted o (yielded ops a.tmps) then o.wpIn (F0 ro) 0 E.P a w next Q else next (a.put o.dst Go.undef) w:=by
 obtain ⟨μ,ν,k1,k2,k3,k4,k5,k6⟩:=hat
 have hevol:=gj noCall_evol hev
 have hat':At E lo nt μ w ds s ⟨os,base,N⟩ a w:=⟨μ,ν,Step.refl _ _ _ _,k2.same rfl rfl rfl,k3,k4,k5,k6⟩
 refine oper_sound (noCall_ok E) noCall_evol hg hop hev hat' fun a' w' hat1=>hn a' w' ?_
 obtain ⟨μ',ν',j1,j2,j3,j4,j5,j6⟩:=hat1
 exact ⟨μ',ν',k1.trans (j1.weaken hw fun _ h _=>h) (aj _),j2.same rfl hevol.base.symm rfl,j3,j4,j5,j6⟩
theorem oper_heap {call:CallSem} {o:AOper} {h1 h2:Heap} {s':Slots} {h':Heap} (hso:soft o.op=true) (hcc:o.op.isCall=false) (hb:h2.base=h1.base) (ha:∀ x ∈ heapOpds o.op,∀ v,x.ev s=some v→∀ i ∈ v.ids,h2.get i=h1.get i)
  (e:evOper call o s h1=some (s',h')) :
  (∃ x,s'=setSlot o.dst x s∧h'=h1∧evOper call o s h2=some (setSlot o.dst x s,h2)) ∨
  (∃ ob f,NewF f∧s'=setSlot o.dst (f h1.size) s∧h'=h1.push ob∧evOper call o s h2=some (setSlot o.dst (f h2.size) s,h2.push ob)) ∨
   (∃ i ob f,NewF f∧h1.base≤i∧i < h1.size∧i ∈ rdIds o.op s∧s'=setSlot o.dst (f h1.size) s∧h'=(h1.put i .dead).push ob∧evOper call o s h2=some (setSlot o.dst (f h2.size) s,(h2.put i .dead).push ob)) ∨
   (∃ i ob v,h1.base≤i∧i < h1.size∧i ∈ rdIds o.op s∧s'=setSlot o.dst (.val v) s∧h'=h1.put i ob∧evOper call o s h2=some (s',h2.put i ob)):=by
 have run:∀ {s' h'},evRun call o s h1=some (s',h')→(∃ x,s'=setSlot o.dst x s∧h'=h1∧evRun call o s h2=some (setSlot o.dst x s,h2)) ∨
  (∃ ob f,NewF f∧s'=setSlot o.dst (f h1.size) s∧h'=h1.push ob∧evRun call o s h2=some (setSlot o.dst (f h2.size) s,h2.push ob)) ∨
   (∃ i ob f,NewF f∧h1.base≤i∧i < h1.size∧i ∈ rdIds o.op s∧s'=setSlot o.dst (f h1.size) s∧h'=(h1.put i .dead).push ob∧evRun call o s h2=some (setSlot o.dst (f h2.size) s,(h2.put i .dead).push ob)) ∨
   (∃ i ob v,h1.base≤i∧i < h1.size∧i ∈ rdIds o.op s∧s'=setSlot o.dst (.val v) s∧h'=h1.put i ob∧evRun call o s h2=some (s',h2.put i ob)):=by
  intro s' h' e
  unfold evRun at e ⊢
  split at e
  case h_2=>cases e
  rename_i x s1 h3 he
  cases e
  obtain ⟨rfl,hm⟩:=op_heap (d:=o.dst.getD 0) hso hcc hb ha x s1 _ he
  rcases hm with ⟨rfl,hm⟩ | ⟨ob,f,hf,rfl,rfl,hm⟩ | ⟨i,ob,f,hf,hi,hi2,hi3,rfl,rfl,hm⟩ | ⟨i,ob,hi,hi2,hi3,⟨v,rfl⟩,rfl,hm⟩
  ·exact .inl ⟨x,rfl,rfl,by rw [hm]⟩
  ·exact .inr (.inl ⟨ob,f,hf,rfl,rfl,by rw [hm]⟩)
  ·exact .inr (.inr (.inl ⟨i,ob,f,hf,hi,hi2,hi3,rfl,rfl,by rw [hm]⟩))
  ·exact .inr (.inr (.inr ⟨i,ob,v,hi,hi2,hi3,rfl,rfl,by rw [hm]⟩))
 unfold evOper at e ⊢
 split at e
 ·exact run e
 ·rename_i t want hg
  split at e
  ·split at e
   ·rename_i hbw
    rw [if_pos hbw]
    exact run e
   ·rename_i hbw
    rw [if_neg hbw]
    cases e
    exact .inl ⟨.undef,rfl,rfl,rfl⟩
  ·cases e
   exact .inl ⟨.undef,rfl,rfl,rfl⟩
  ·cases e
end
end Go.Abs

namespace Go.Abs
section
variable {E:Env} {nt:Nat} {s:Slots} {ops:Array Oper} {locs:List Nat} {as:List AOper} {Q:Exit→Act→World→Prop} {ro:Option Nat}
def Ld (listed:Array Bool) (p n x:Nat):Bool:=decide (x < n) && (listed[p+x]? == some true)
theorem any_order (has:cOpers E nt ops locs 0 ops.toList=some as) (hb:edgesBack ops=true)
  {p n:Nat} (hpn:p+n≤as.length) (hw1:waits (befs ops.toList []) (p+n)=true)
  (hap:∀ x y oi oj,x < n→y < n→as[p+x]? = some oi→as[p+y]? = some oj→apart (befs ops.toList []) (p+x) (p+y) oi oj=true)
  (S:Nat→Slots) (r:Nat→Slot) (b2:S 0=s) (text:∀ x o',x < n→as[p+x]? = some o'→S (x+1)=setSlot o'.dst (r x) (S x)∧(∀ cs,r x ≠ .var cs)∧∀ d,o'.dst=some d→isVar (S x) d=false)
  (Inv:(Nat→Bool)→Slots→Act→World→Prop)
  (hstep:∀ (L:Nat→Bool) (sD:Slots) (a:Act) (w:World) (x:Nat) (o:Oper) (o':AOper),x < n→ops[p+x]? = some o→as[p+x]? = some o'→cOper E nt ops (locs.contains (p+x)) o=some o'→L x=false →
   (∀ y,y < n→((befs ops.toList []).getD (p+x) 0).testBit (p+y)=true→L y=true)→(∀ y,y < n→L y=true→((befs ops.toList []).getD (p+y) 0).testBit (p+x)=false)→Agree (S x) sD o'.reads→Inv L sD a w →
   ∀ (next:Act→World→Prop),(∀ a' w',Inv (fun y=>y == x || L y) (setSlot o'.dst (r x) sD) a' w'→next a' w')→if Region.wanted o (yielded ops a.tmps) then o.wpIn (F0 ro) 0 E.P a w next Q else next (a.put o.dst Go.undef) w)
  (hk:∀ listed' sD a' w',Exact ops listed' (p+n)→(∀ t,sget sD t=sget (S n) t)→Inv (fun x=>decide (x < n)) sD a' w'→wpAnyIn (F0 ro) 0 E.P .any ops Q (ops.size - (p+n)) listed' a' w') :
  ∀ listed a w,Exact ops listed p→Inv (fun _=>false) s a w→wpAnyIn (F0 ro) 0 E.P .any ops Q (ops.size - p) listed a w:=by
 obtain ⟨q1,q2⟩:=fz _ _ _ has
 simp only [da] at q1
 have hchain:=befs_chain (ops:=ops) ops.toList [] (by simp) (fun k i hk=>by simp at hk)
 have hblen:=fq ops.toList []
 simp only [dh,b8,da] at hblen
 have opat:∀ x,x < n→∃ o o',ops[p+x]? = some o∧as[p+x]? = some o'∧cOper E nt ops (locs.contains (p+x)) o=some o':=by
  intro x hx
  have hlt:p+x < ops.size:=by omega
  obtain ⟨o',h2,h3⟩:=q2 (p+x) ops[p+x] (by simp [hlt])
  exact ⟨ops[p+x],o',by simp [hlt],h2,by simpa using h3⟩
 have dst_ne:∀ x y oi oj d,x < n→y < n→x≠y→as[p+x]? = some oi→as[p+y]? = some oj→oj.dst=some d→oi.dst≠some d:=by
  intro x y oi oj d hx hy hne hi hj hd e
  have:=hap x y oi oj hx hy hi hj
  unfold apart at this
  rw [hd] at this
  simp only [ap,bu,beq_iff_eq,bne_iff_ne] at this
  rcases this.1 with h2 | h2
  ·omega
  ·exact h2 e
 have text_hit:∀ x y o d,x≤n→y < x→as[p+y]? = some o→o.dst=some d→sget (S x) d=some (r y):=by
  intro x
  induction x with
  | zero=>intro y o d _ hy; omega
  | succ x ih =>
   intro y o d hx hy ho hd
   obtain ⟨_,o',_,ho',_⟩:=opat x (by omega)
   obtain ⟨t2,_,_⟩:=text x o' (by omega) ho'
   rw [t2,bz]
   by_cases e:y=x
   ·subst e; rw [ho] at ho'; cases ho'; rw [if_pos hd]
   ·rw [if_neg (dst_ne x y o' o d (by omega) (by omega) (fun e'=>e e'.symm) ho' ho hd)]
    exact ih y o d (by omega) (by omega) ho hd
 have text_miss:∀ x t,x≤n→(∀ y o,y < x→as[p+y]? = some o→o.dst≠some t)→sget (S x) t=sget s t:=by
  intro x
  induction x with
  | zero=>intro t _ _; rw [b2]
  | succ x ih =>
   intro t hx hno
   obtain ⟨_,o',_,ho',_⟩:=opat x (by omega)
   obtain ⟨t2,_,_⟩:=text x o' (by omega) ho'
   rw [t2,bz,if_neg (hno x o' (by omega) ho')]
   exact ih t (by omega) fun y o hy=>hno y o (by omega)
 have dst_novar:∀ x o d cs,x < n→as[p+x]? = some o→o.dst=some d→sget s d≠some (.var cs):=by
  intro x o d cs hx ho hd hv
  obtain ⟨_,_,t4⟩:=text x o hx ho
  have h2:=t4 d hd
  have h3:sget (S x) d=sget s d:=text_miss x d (by omega) fun y o2 hy ho2=>dst_ne y x o2 o d (by omega) hx (by omega) ho2 ho hd
  unfold isVar at h2
  rw [h3,hv] at h2
  simp at h2
 have main:∀ (k:Nat) (listed:Array Bool) (sD:Slots) (a:Act) (w:World),listed.size=ops.size→Down ops listed→(∀ i,i < p→listed[i]? = some true)→(∀ i,p+n≤i→i < ops.size→listed[i]? = some false) →
   ((List.range n).filter fun x=>listed[p+x]? == some false).length=k →
   (∀ x o d,x < n→as[p+x]? = some o→listed[p+x]? = some true→o.dst=some d→sget sD d=some (r x)) →
   (∀ t,(∀ x o,x < n→as[p+x]? = some o→listed[p+x]? = some true→o.dst≠some t)→sget sD t=sget s t) →
   Inv (Ld listed p n) sD a w→wpAnyIn (F0 ro) 0 E.P .any ops Q (ops.size - (p+n)+k) listed a w:=by
  intro k
  induction k with
  | zero =>
   intro listed sD a w hsz hdn hlow hhigh hcount hhit hmiss hat
   have hall:∀ x,x < n→listed[p+x]? = some true:=by
    intro x hx
    have hlt:p+x < listed.size:=by omega
    have hmem:x ∉ (List.range n).filter fun x=>listed[p+x]? == some false:=by
     rw [a9 hcount]; simp
    rw [eb] at hmem
    have h2:¬ (listed[p+x]? = some false):=fun h2=>hmem ⟨bl.2 hx,by simp [h2]⟩
    rw [Array.getElem?_eq_getElem hlt] at h2 ⊢
    cases hv:listed[p+x] with
    | true=>rfl
    | false=>rw [hv] at h2; exact absurd rfl h2
   have hex:Exact ops listed (p+n):=by
    refine ⟨hsz,fun i hi=>?_⟩
    rcases am i p with h2 | h2
    ·rw [hlow i h2]; simp; omega
    ·rcases am i (p+n) with h3 | h3
     ·have:=hall (i - p) (by omega)
      rw [show p+(i - p)=i by omega] at this
      rw [this]; simp [h3]
     ·rw [hhigh i h3 hi]; simp; omega
   have hLd:Ld listed p n=fun x=>decide (x < n):=by
    funext x
    unfold Ld
    by_cases hx:x < n
    ·rw [hall x hx]; simp [hx]
    ·simp [hx]
   rw [hLd] at hat
   refine hk listed sD a w hex (fun t=>?_) hat
   by_cases hx:∃ x o,x < n∧as[p+x]? = some o∧o.dst=some t
   ·obtain ⟨x,o,h2,h3,h4⟩:=hx
    rw [text_hit n x o t (aj _) h2 h3 h4,hhit x o t h2 h3 (hall x h2) h4]
   ·have hno:∀ x o,x < n→as[p+x]? = some o→o.dst≠some t:=fun x o h2 h3 h4=>hx ⟨x,o,h2,h3,h4⟩
    rw [text_miss n t (aj _) hno,hmiss t fun x o h2 h3 _=>hno x o h2 h3]
  | succ k ih =>
   intro listed sD a w hsz hdn hlow hhigh hcount hhit hmiss hat
   have hsome:∃ x,x < n∧listed[p+x]? = some false:=by
    have hne:(List.range n).filter (fun x=>listed[p+x]? == some false)≠[]:=fun e=>by rw [e] at hcount; simp at hcount
    obtain ⟨x,hx⟩:=List.exists_mem_of_ne_nil _ hne
    rw [eb,bl] at hx
    exact ⟨x,hx.1,by simpa using hx.2⟩
   obtain ⟨xu,hxu,hxf⟩:=hsome
   refine ⟨fun hr=>?_,fun i hi=>?_⟩
   ·have:=all_listed hb hsz hr (p+xu) (by omega)
    rw [hxf] at this; cases this
   ·obtain ⟨oi,k1,k2,k3⟩:=ready_mem hsz hi
    have his:i < ops.size:=ah (l:=ops.toList) (by simpa using k1)
    have hip:p≤i:=by
     rcases am i p with h2 | h2
     ·rw [hlow i h2] at k2; cases k2
     ·exact h2
    have hin:i < p+n:=by
     rcases am i (p+n) with h2 | h2
     ·exact h2
     ·exfalso
      have hbit:=waits_at hw1 (j:=i) (i:=p+xu) (by rw [hblen]; exact his) h2 (by omega)
      have hl:=dv hdn (hchain _ _ hbit) fun o e ho he hbb=>by rw [k1] at ho; cases ho; exact k3 e he hbb
      rw [hxf] at hl; cases hl
    obtain ⟨x,rfl⟩:∃ x,i=p+x:=⟨i - p,by omega⟩
    have hxn:x < n:=by omega
    obtain ⟨o,o',h2,h3,h4⟩:=opat x hxn
    rw [h2] at k1; cases k1
    obtain ⟨t2,t3,t4⟩:=text x o' hxn h3
    have waitsl:∀ j,(((befs ops.toList []).getD (p+x) 0).testBit j=true)→listed[j]? = some true:=fun j hbit =>
     dv hdn (hchain _ _ hbit) fun o2 e ho he hbb=>by rw [h2] at ho; cases ho; exact k3 e he hbb
    have hag:Agree (S x) sD o'.reads:=by
     refine Agree.of ?_ ?_
     ·intro t ht
      by_cases hy:∃ y oj,y < n∧as[p+y]? = some oj∧oj.dst=some t
      ·obtain ⟨y,oj,hy1,hy2,hy3⟩:=hy
       have others:∀ z oz,z < n→z≠y→as[p+z]? = some oz→oz.dst≠some t:=fun z oz hz hne hoz=>dst_ne z y oz oj t hz hy1 hne hoz hy2 hy3
       by_cases hxy:y=x
       ·-- its own slot
        subst hxy
        rw [text_miss y t (by omega) fun z oz hz hoz=>others z oz (by omega) (by omega) hoz]
        rw [hmiss t fun z oz hz hoz hl=>by
         by_cases e:z=y
         ·subst e; rw [k2] at hl; cases hl
         ·exact others z oz hz e hoz]
       ·have:=hap x y o' oj hxn hy1 h3 hy2
        unfold apart at this
        rw [hy3] at this
        simp only [ap,bu,beq_iff_eq,dm,List.contains_eq_mem,decide_eq_false_iff_not,decide_eq_true_eq] at this
        rcases this.2 with ((h5 | h5) | h5) | h5
        ·omega
        ·exact absurd ht h5
        ·obtain ⟨h5,h6⟩:=h5
         rw [text_hit x y oj t (by omega) (by omega) hy2 hy3,hhit y oj t hy1 hy2 (waitsl _ h6) hy3]
        ·obtain ⟨h5,h6⟩:=h5
         have hnl:listed[p+y]?≠some true:=by
          intro hl
          have:=dv hdn (hchain _ _ h6) fun o2 e ho he hbb=>hdn _ _ _ hl ho he hbb
          rw [k2] at this; cases this
         rw [text_miss x t (by omega) fun z oz hz hoz=>others z oz (by omega) (by omega) hoz]
         rw [hmiss t fun z oz hz hoz hl=>by
          by_cases e:z=y
          ·subst e; exact absurd hl hnl
          ·exact others z oz hz e hoz]
      ·have hno:∀ z oz,z < n→as[p+z]? = some oz→oz.dst≠some t:=fun z oz hz hoz hd=>hy ⟨z,oz,hz,hoz,hd⟩
       rw [text_miss x t (by omega) fun z oz hz hoz=>hno z oz (by omega) hoz,hmiss t fun z oz hz hoz _=>hno z oz hz hoz]
     ·intro t cs
      have v1:sget (S x) t=some (.var cs) ↔ sget s t=some (.var cs):=by
       by_cases hy:∃ y oj,y < x∧as[p+y]? = some oj∧oj.dst=some t
       ·obtain ⟨y,oj,hy1,hy2,hy3⟩:=hy
        rw [text_hit x y oj t (by omega) hy1 hy2 hy3]
        constructor
        ·intro e; exact absurd (cd e) ((text y oj (by omega) hy2).2.1 cs)
        ·intro e; exact absurd e (dst_novar y oj t cs (by omega) hy2 hy3)
       ·rw [text_miss x t (by omega) fun z oz hz hoz hd=>hy ⟨z,oz,hz,hoz,hd⟩]
      have v2:sget sD t=some (.var cs) ↔ sget s t=some (.var cs):=by
       by_cases hy:∃ y oj,y < n∧as[p+y]? = some oj∧listed[p+y]? = some true∧oj.dst=some t
       ·obtain ⟨y,oj,hy1,hy2,hyl,hy3⟩:=hy
        rw [hhit y oj t hy1 hy2 hyl hy3]
        constructor
        ·intro e; exact absurd (cd e) ((text y oj hy1 hy2).2.1 cs)
        ·intro e; exact absurd e (dst_novar y oj t cs hy1 hy2 hy3)
       ·rw [hmiss t fun z oz hz hoz hl hd=>hy ⟨z,oz,hz,hoz,hl,hd⟩]
      exact v1.trans v2.symm
    have hLx:Ld listed p n x=false:=by unfold Ld; rw [k2]; simp
    refine wpOp_of h2 (hstep (Ld listed p n) sD a w x _ o' hxn h2 h3 h4 hLx (fun y hy hbit=>?_) (fun y hy hl=>?_) hag hat _ fun a' w' hat'=>?_)
    ·unfold Ld; rw [waitsl _ hbit]; simp [hy]
    ·have hl':listed[p+y]? = some true:=by unfold Ld at hl; simpa [hy] using hl
     cases hbit:((befs ops.toList []).getD (p+y) 0).testBit (p+x) with
     | false=>rfl
     | true =>
      exfalso
      have:=dv hdn (hchain _ _ hbit) fun o2 e ho he hbb=>hdn _ _ _ hl' ho he hbb
      rw [k2] at this; cases this
    have hset:∀ j,j≠p+x→(listed.setIfInBounds (p+x) true)[j]? = listed[j]?:=fun j hj=>bj (fun e=>hj e.symm)
    have hself:(listed.setIfInBounds (p+x) true)[p+x]? = some true:=by simp [hsz,his]
    have hLd':(fun y=>y == x || Ld listed p n y)=Ld (listed.setIfInBounds (p+x) true) p n:=by
     funext y
     unfold Ld
     by_cases ey:y=x
     ·subst ey; rw [hself]; simp [hxn]
     ·rw [hset (p+y) (by omega)]; simp [ey]
    rw [hLd'] at hat'
    refine ih (listed.setIfInBounds (p+x) true) (setSlot o'.dst (r x) sD) a' w' (by simp [hsz]) ?_ ?_ ?_ ?_ ?_ ?_ hat'
    ·intro j oj e hj hoj he hbb
     by_cases ej:j=p+x
     ·subst ej
      rw [h2] at hoj; cases hoj
      have:=k3 e he hbb
      by_cases ee:e.on=p+x
      ·rw [ee]; exact hself
      ·rw [hset _ ee]; exact this
     ·rw [hset _ ej] at hj
      have:=hdn j oj e hj hoj he hbb
      by_cases ee:e.on=p+x
      ·rw [ee]; exact hself
      ·rw [hset _ ee]; exact this
    ·intro j hj; rw [hset j (by omega)]; exact hlow j hj
    ·intro j hj hj'; rw [hset j (by omega)]; exact hhigh j hj hj'
    ·-- one less is to come
     have hperm:((List.range n).filter fun y=>(listed.setIfInBounds (p+x) true)[p+y]? == some false)=((List.range n).filter fun y=>listed[p+y]? == some false).filter fun y=>y != x:=by
      rw [List.filter_filter]
      apply List.filter_congr
      intro y _
      by_cases ey:y=x
      ·subst ey; rw [hself]; simp
      ·rw [hset _ (by omega)]; simp [ey]
     rw [hperm]
     have hmem:x ∈ (List.range n).filter fun y=>listed[p+y]? == some false:=by
      rw [eb]; exact ⟨bl.2 hxn,by simp [k2]⟩
     have hnd:((List.range n).filter fun y=>listed[p+y]? == some false).Nodup:=List.nodup_range.sublist List.filter_sublist
     generalize (List.range n).filter (fun y=>listed[p+y]? == some false)=L at hcount hmem hnd
     have herase:L.filter (fun y=>y != x)=L.erase x:=(hnd.erase_eq_filter x).symm
     rw [herase,List.length_erase_of_mem hmem,hcount]
     rfl
    ·intro y oy d hy hoy hl hd
     rw [bz]
     by_cases ey:y=x
     ·subst ey; rw [h3] at hoy; cases hoy
      rw [if_pos hd]
     ·rw [hset _ (by omega)] at hl
      rw [if_neg (dst_ne x y o' oy d hxn hy (fun e=>ey e.symm) h3 hoy hd)]
      exact hhit y oy d hy hoy hl hd
    ·intro t hno
     rw [bz,if_neg (hno x o' hxn h3 hself)]
     refine hmiss t fun y oy hy hoy hl=>?_
     by_cases ey:y=x
     ·subst ey; rw [k2] at hl; cases hl
     ·exact hno y oy hy hoy (by rw [hset _ (by omega)]; exact hl)
 intro listed a w hex hat
 have hcount:((List.range n).filter fun x=>listed[p+x]? == some false).length=n:=by
  have:(List.range n).filter (fun x=>listed[p+x]? == some false)=List.range n:=by
   rw [List.filter_eq_self]
   intro x hx
   rw [bl] at hx
   rw [hex.2 (p+x) (by omega)]
   simp
  rw [this,List.length_range]
 have hL0:Ld listed p n=fun _=>false:=by
  funext x
  unfold Ld
  by_cases hx:x < n
  ·rw [hex.2 (p+x) (by omega)]; simp
  ·simp [hx]
 rw [← hL0] at hat
 have:=main n listed s a w hex.1 (hex.down hb) (fun i hi=>by rw [hex.2 i (by omega)]; simp [hi]) (fun i hi hi'=>by rw [hex.2 i hi']; simp; omega) hcount
  (fun x o d hx ho hl _=>by
   have h5:=hex.2 (p+x) (by omega)
   rw [hl] at h5
   have h6:=of_decide_eq_true (cd h5).symm
   omega) (fun t _=>rfl) hat
 rwa [show ops.size - (p+n)+n=ops.size - p by omega] at this
end
end Go.Abs

namespace Go.Abs
section
variable {E:Env} {lo nt:Nat} {ν:Fr} {μ:MM} {s:Slots} {h:Heap} {a:Act} {w:World} {call:CallSem} {ro:Option Nat} {ops:Array Oper}
theorem cOp_call {loc:Bool} {o:Oper} {ao:AOp} (hao:cOp E loc o.op=some ao) (hcl:(∃ f as,ao = .call f as)∨(∃ g as,ao = .callg g as)):∃ c,o.op = .call c∧cCall E c=some ao:=by
  cases ho:o.op with
  | call c=>exact ⟨c,rfl,by rw [ho] at hao; simpa only [cOp] using hao⟩
  | makeFunc fn x1 x2 =>
    rw [ho] at hao
    exfalso
    cases fn <;> simp only [cOp] at hao <;> (try (cases hao; done))
    rcases hcl with ⟨f,as,rfl⟩ | ⟨g,as,rfl⟩ <;> (split at hao <;> cases hao)
  | makeMap t hint =>
    rw [ho] at hao
    exfalso
    rcases hcl with ⟨f,as,rfl⟩ | ⟨g,as,rfl⟩ <;>
      (cases hint with
       | none=>simp [cOp] at hao
       | some y =>
         cases y with
         | const v=>cases v <;> simp only [cOp] at hao <;> first | (cases hao; done) | (split at hao <;> cases hao)
         | _=>simp [cOp] at hao)
  | _ =>
    rw [ho] at hao
    exfalso
    rcases hcl with ⟨f,as,rfl⟩ | ⟨g,as,rfl⟩ <;>
      (simp only [cOp,cBin,cConv,cEq] at hao
       repeat' split at hao
       all_goals first
         | (cases hao; done)
         | (rw [ae] at hao; obtain ⟨_,_,hao⟩:=hao; first | (cases hao; done) | (split at hao <;> cases hao)))
def SlotIs (E:Env) (μ:MM) (x:Slot) (v:Value):Prop:=(x = .undef∧v=Go.undef)∨∃ u,x = .val u∧VRel E μ u v
theorem call_step (hc:CallOK E call) (hg:GidOK E) {loc:Bool} {o:Oper} {o':AOper} {s':Slots} {h':Heap} (hop:cOper E nt ops loc o=some o') (hcl:o'.op.isCall=true) (hev:evOper call o' s h=some (s',h'))
    (k3:FRel E lo ν μ (sget s) a.tmps w) (k2:Rel E μ h w) {next:Act→World→Prop} {Q:Exit→Act→World→Prop}
    (hn:∀ x v w' μ',s'=setSlot o'.dst x s→SlotIs E μ' x v→Step (fun _=>False) h'.wmin μ w μ' w'→Rel E μ' h' w'→next (a.put o.dst v) w') :
    if Region.wanted o (yielded ops a.tmps) then o.wpIn (F0 ro) 0 E.P a w next Q else next (a.put o.dst Go.undef) w:=by
  unfold cOper at hop
  split at hop
  case isFalse=>cases hop
  rename_i hh
  have run:o'.dst=o.dst→o'.op=cOpS E loc o.op→evRun call o' s h=some (s',h')→o.wpIn (F0 ro) 0 E.P a w next Q:=by
    intro e1 e0 hev
    have ho2:∃ ao,cOp E loc o.op=some ao∧o'.op=ao:=by
      cases hco:cOp E loc o.op with
      | some ao=>exact ⟨ao,rfl,by rw [e0,cOpS,hco]⟩
      | none=>rw [e0,cOpS,hco] at hcl; simp [AOp.isCall] at hcl
    obtain ⟨ao,hao,e2⟩:=ho2
    rw [e2] at hcl
    have hcl2:(∃ f as,ao = .call f as)∨(∃ g as,ao = .callg g as):=by
      cases ao <;> simp only [AOp.isCall,av] at hcl
      · exact .inl ⟨_,_,rfl⟩
      · exact .inr ⟨_,_,rfl⟩
    unfold evRun at hev
    rw [e2] at hev
    split at hev
    case h_2=>cases hev
    rename_i x s1 h1 hop1
    injection hev with hev
    injection hev with hev1 hev2
    subst hev2
    have hnd:∀ c,o.op ≠ .defer c:=fun c hc'=>by rw [hc'] at hao; simp [cOp] at hao
    refine ⟨fun _ _=>trivial,?_⟩
    rw [Oper.semAt_eq _ _ _ hnd]
    have ends:∀ (v:AVal) (e:Ending) (w':World),Ends E μ w v h1 e w'→x = .val v→s1=s→(match e with | .returned v=>next (a.put o.dst v) w' | .panicked chain=>Q (.panic chain) a w' | .outgrown=>LetsOut Q):=by
      rintro v e w' ⟨v',μ',rfl,j1,j2,j3⟩ hx hs
      subst hx; subst hs
      exact hn _ _ _ μ' hev1.symm (.inr ⟨v,rfl,j2⟩) j1 j3
    have callcase:∀ (g:Nat) (f:FuncId) (as:List AVal) (args':Array Value) (v:AVal),call g as h=some (v,h1)→E.gid f=some g→VRels E μ as args'.toList →
        (execOp a.eval o).run E.P w = .ok (.enter f args') w→x = .val v→s1=s→o.uponIn (F0 ro) 0 E.P a next Q ((execOp a.eval o).run E.P w):=by
      intro g f as args' v hcall hgf hargs hrun hx hs
      rw [hrun,Oper.uponIn_enter]
      refine ⟨fun hh=>by simp [F0,Fence.wide] at hh,?_⟩
      exact CallsIn.mono (F:=F0 ro) (n:=0) (hc.fn g as h v h1 hcall f hgf μ w args' hargs k2) fun e w' he=>by
        have:=ends v e w' he hx hs
        cases e <;> exact this
    have roundcase:∀ (g i:Nat) (as:List AVal) (args':Array Value) (v:AVal) (st:LoopSt) (p:Option AExit) (sl:List (Nat × AVal)),call g (.ptr (some (i,0)) :: as) h=some (v,h1)→h.get i=some (.loop g st p sl)→VRels E μ as args'.toList →
        (∀ (m:M),μ[i]? = some (some m)→(execOp a.eval o).run E.P w=(Instr.yield m.blk args').run E.P w)→x = .val v→s1=s→o.uponIn (F0 ro) 0 E.P a next Q ((execOp a.eval o).run E.P w):=by
      intro g i as args' v st p sl hcall hgi hargs hrun hx hs
      obtain ⟨m,r,q1,q2,q3,q4⟩:=hc.round g i 0 as h v h1 st p sl hcall hgi μ w args' hargs k2
      rw [hrun m q1,run_yield q2 q3,Oper.uponIn_round]
      refine ⟨fun hh=>by simp [F0,Fence.wide] at hh,?_⟩
      exact RoundIn.mono (F:=F0 ro) (n:=0) q4 fun e w' he=>by
        have:=ends v e w' he hx hs
        cases e <;> exact this
    obtain ⟨c,hcop,hcc⟩:=cOp_call hao hcl2
    have hcl:=hcl2
    unfold cCall at hcc
    split at hcc
    · rename_i f hcal
      split at hcc
      case h_2 =>
        exfalso
        rw [ae] at hcc
        obtain ⟨_,_,hcc⟩:=hcc
        rcases hcl with ⟨f,as,rfl⟩ | ⟨g,as,rfl⟩ <;> cases hcc
      case h_3=>cases hcc
      rename_i g as hgf has
      cases hcc
      simp only [evOp] at hop1
      split at hop1
      case h_2=>cases hop1
      rename_i vs hvs
      rw [ae] at hop1
      obtain ⟨⟨v,h2⟩,hcall,hop1⟩:=hop1
      cases hop1
      have hargs:=fb k3 has hvs
      refine callcase g f vs (c.args.map a.eval) v hcall hgf (by simpa using hargs) ?_ rfl rfl
      have:=fo hg hgf (c.args.map a.eval) w
      simp [execOp,hcop,resolve,hcal,Act.eval,Deferred.ofValue,invoke,this]
    · rename_i y hne hcal
      split at hcc
      case h_2=>cases hcc
      rename_i y' as hy has
      cases hcc
      simp only [evOp] at hop1
      split at hop1
      · rename_i g first caps vs hyv hvs
        rw [ae] at hop1
        obtain ⟨⟨v,h2⟩,hcall,hop1⟩:=hop1
        cases hop1
        have hargs:=fb k3 has hvs
        have hfv:=a8 k3 hy hyv
        simp only [VRel] at hfv
        obtain ⟨fid,f',c',q1,q2,q3,q4⟩:=hfv
        refine callcase g fid (first++vs++caps) (f'++c.args.map a.eval++c') v hcall q2 ?_ ?_ rfl rfl
        · simpa using (q3.append hargs).append q4
        · have:=fo hg q2 (f'++(c.args.map a.eval++c')) w
          simp [execOp,hcop,resolve,hcal,q1,Deferred.ofValue,invoke,this]
      · rename_i i vs hyv hvs
        split at hop1
        case h_2=>cases hop1
        rename_i g st p sl hgi
        rw [ae] at hop1
        obtain ⟨⟨v,h2⟩,hcall,hop1⟩:=hop1
        cases hop1
        have hargs:=fb k3 has hvs
        have hfv:=a8 k3 hy hyv
        simp only [VRel] at hfv
        obtain ⟨l,xx,q1,q2,q3⟩:=hfv
        refine roundcase g i vs (c.args.map a.eval) v st p sl hcall hgi (by simpa using hargs) (fun m hm=>?_) rfl rfl
        rw [hm] at q2; cases q2
        have:=q3 m rfl; subst this
        simp [execOp,hcop,resolve,hcal,q1,Deferred.ofValue,invoke]
      · cases hop1
    · -- a built-in is no call
      exfalso
      rcases hcl with ⟨f,as,rfl⟩ | ⟨g,as,rfl⟩ <;>
        (repeat' split at hcc
         all_goals first
           | (cases hcc; done)
           | (rw [ae] at hcc; obtain ⟨_,_,hcc⟩:=hcc; cases hcc))
    · cases hcc
  unfold evOper at hev
  split at hop
  · rename_i hg0
    cases hop
    simp only at hev
    have:Region.wanted o (yielded ops a.tmps)=true:=by simp [Region.wanted,hg0]
    rw [if_pos this]
    exact run rfl rfl hev
  · rename_i j want hg0
    split at hop
    case h_2=>cases hop
    rename_i d hdj
    cases hop
    simp only at hev
    split at hev
    · rename_i b hb
      obtain ⟨v',hv,hr⟩:=k3.val d _ hb
      simp only [VRel] at hr; subst hr
      have hy:yielded ops a.tmps j=some b:=by simp [yielded,hdj,hv]
      have hw:Region.wanted o (yielded ops a.tmps)=(b == want):=by simp [Region.wanted,hg0,hy]
      split at hev
      · rename_i hbw
        rw [if_pos (by rw [hw]; simpa using hbw)]
        exact run rfl rfl hev
      · rename_i hbw
        cases hev
        rw [if_neg (by rw [hw]; simpa using hbw)]
        exact hn _ _ _ μ rfl (.inl ⟨rfl,rfl⟩) (Step.refl _ _ _ _) k2
    · rename_i hb
      cases hev
      have hv:=k3.undef d hb
      have hy:yielded ops a.tmps j=none:=by simp [yielded,hdj,hv,Go.undef]
      have hw:Region.wanted o (yielded ops a.tmps)=false:=by simp [Region.wanted,hg0,hy]
      rw [if_neg (by simp [hw])]
      exact hn _ _ _ μ rfl (.inl ⟨rfl,rfl⟩) (Step.refl _ _ _ _) k2
    · cases hev
end
end Go.Abs

namespace Go.Abs
section
variable {call:CallSem} {n0:Nat}
def dsl (D:Nat→Did) (x:Nat):List Did:=(List.range x).map D
theorem dsl_get {D:Nat→Did} {x y:Nat} (h:y < x):(dsl D x)[y]? = some (D y):=by simp [dsl,h]
theorem dsl_length (D:Nat→Did) (x:Nat):(dsl D x).length=x:=by simp [dsl]
theorem open_text:∀ (seg:List AOper) (ms:List Nat) (ds:List Did) (s s1:Slots) (h h1:Heap),openAll call n0 ms seg ds s h=some (s1,h1) →
  ∃ (S:Nat→Slots) (H:Nat→Heap) (r:Nat→Slot) (D:Nat→Did),S 0=s∧H 0=h∧S seg.length=s1∧H seg.length=h1 ∧
   ∀ (x:Nat) (o:AOper),seg[x]? = some o→openOne call n0 (ms.getD x 0) (ds++dsl D x) o (S x) (H x)=some (r x,H (x+1),D x)∧S (x+1)=setSlot o.dst (r x) (S x) ∧
    (∀ d,o.dst=some d→isVar (S x) d=false)∧noClash (H (x+1)) (ms.getD x 0) (D x) 0 (ds++dsl D x)=true
 | [],ms,ds,s,s1,h,h1,e=>by
  simp only [openAll] at e; cases e
  exact ⟨fun _=>s,fun _=>h,fun _=>.undef,fun _=>⟨false,[],none,none,0,0,none⟩,rfl,rfl,rfl,rfl,fun x o hx=>by simp at hx⟩
 | o :: seg,ms,ds,s,s1,h,h1,e=>by
  simp only [openAll] at e
  split at e
  case h_2=>cases e
  rename_i y h2 d he
  split at e
  case isFalse=>cases e
  rename_i hh
  obtain ⟨a1,a2⟩:=hh
  obtain ⟨S,H,r,D,b1,b2,b3,b4,b5⟩:=open_text seg ms.tail (ds++[d]) _ s1 h2 h1 e
  have hm0:ms.headD 0=ms.getD 0 0:=by cases ms <;> rfl
  refine ⟨fun x=>match x with | 0=>s | x+1=>S x,fun x=>match x with | 0=>h | x+1=>H x,fun x=>match x with | 0=>y | x+1=>r x,fun x=>match x with | 0=>d | x+1=>D x,
   rfl,rfl,by simpa using b3,by simpa using b4,fun x o1 hx=>?_⟩
  cases x with
  | zero =>
   simp at hx; subst hx
   rw [← hm0]
   refine ⟨by simp only [b2,dsl]; simpa using he,by simp only [b1],fun d hd=>?_,by simpa [dsl,b2] using a2⟩
   rw [hd] at a1
   simpa using a1
  | succ x =>
   simp at hx
   have h3:=b5 x o1 hx
   have e1:ds++[d]++dsl D x=ds++dsl (fun x=>match x with | 0=>d | x+1=>D x) (x+1):=by
    rw [bc]
    congr 1
    simp only [dsl,List.range_succ_eq_map,dw,List.map_map,List.singleton_append]
    rfl
   have e2:ms.tail.getD x 0=ms.getD (x+1) 0:=by cases ms <;> simp
   rw [e1,e2] at h3
   exact h3
structure OneCall (call:CallSem) (n0 m:Nat) (ds:List Did) (o:AOper) (s:Slots) (h:Heap) (y:Slot) (h':Heap) (d:Did):Prop where
 isc:o.op.isCall=true
 run:∃ s1 g,evOper call o s ⟨hide m 0 ds h.objs,h.base,h.size⟩=some (s1,g)∧y=dstSlot o.dst s1∧h'.size=g.size ∧
  ((allSeen m 0 ds=true∧g.wmin < h.size∧d.wr=some (g.wmin,h.objs,g.objs)∧h'=⟨g.objs,h.base,min h.wmin g.wmin⟩)∨(allSeen m 0 ds=true∧h.size≤g.wmin∧d.wr=none∧h'=⟨g.objs,h.base,h.wmin⟩) ∨
   (h.size≤g.wmin∧d.wr=none∧(∀ i ∈ y.ids++(g.objs.drop h.size).flatMap AObj.ids,okId n0 m ds i=true∨h.size≤i)∧h'=⟨h.objs++g.objs.drop h.size,h.base,h.wmin⟩))
 did:d.isCall=true∧d.rd=[]∧d.ch=none
 ld:d.ld=none
structure OneSoft (n0 m:Nat) (ds:List Did) (o:AOper) (s:Slots) (h:Heap) (y:Slot) (h':Heap) (d:Did):Prop where
 isc:o.op.isCall=false
 run:∃ s1 g,evOper noCall o s ⟨h.objs,h.base,h.size⟩=some (s1,g)∧y=dstSlot o.dst s1 ∧
  ((g.size=h.size∧g.wmin=h.size∧(∀ i ∈ y.ids,okId n0 m ds i=true)∧h'=h∧d.ch=none) ∨
   (∃ ob,g.size=h.size∧g.wmin < h.size∧g.objs[g.wmin]? = some ob∧(∀ i ∈ y.ids++ob.ids,okId n0 m ds i=true)∧d.ch=some g.wmin∧h'=⟨g.objs,h.base,min h.wmin g.wmin⟩) ∨
   (∃ ob,g.size=h.size+1∧g.objs[h.size]? = some ob∧(∀ i ∈ ob.ids,okId n0 m ds i=true)∧((g.wmin=h.size∧d.ch=none∧h'=⟨g.objs,h.base,h.wmin⟩)∨(g.wmin≠h.size∧d.ch=some g.wmin∧h'=⟨g.objs,h.base,min h.wmin g.wmin⟩))))
 did:d.isCall=false∧d.rd=rdIds o.op s∧d.wr=none
 ld:d.ld=ldOf o s y
theorem openOne_spec (hev0:CallEvol call) {m:Nat} {ds:List Did} {o:AOper} {s:Slots} {h:Heap} {y:Slot} {h':Heap} {d:Did} (e:openOne call n0 m ds o s h=some (y,h',d)) :
  ((∀ t ∈ o.reads,∀ i ∈ slotIds s t,okId n0 m ds i=true)∧∀ i ∈ rdIds o.op s,okId n0 m ds i=true)∧d.lo=h.size∧d.hi=h'.size∧h'.base=h.base∧(OneCall call n0 m ds o s h y h' d∨OneSoft n0 m ds o s h y h' d):=by
 unfold openOne at e
 split at e
 ·cases e
 rename_i hr
 have hr':(∀ t ∈ o.reads,∀ i ∈ slotIds s t,okId n0 m ds i=true)∧∀ i ∈ rdIds o.op s,okId n0 m ds i=true:=by
  simp only [Bool.not_eq_false,al,cj,ba] at hr
  exact ⟨fun t ht i hi=>hr i (.inl ⟨t,ht,hi⟩),fun i hi=>hr i (.inr hi)⟩
 refine ⟨hr',?_⟩
 split at e
 ·rename_i hc
  split at e
  ·cases e
  rename_i s1 g he
  simp only at e
  split at e
  ·rename_i hw
   split at e
   ·rename_i hall
    cases e
    exact ⟨rfl,rfl,rfl,.inl ⟨hc,⟨s1,g,he,rfl,rfl,.inl ⟨hall,hw,rfl,rfl⟩⟩,⟨rfl,rfl,rfl⟩,rfl⟩⟩
   ·cases e
  ·rename_i hw
   split at e
   ·rename_i hall
    cases e
    exact ⟨rfl,rfl,rfl,.inl ⟨hc,⟨s1,g,he,rfl,rfl,.inr (.inl ⟨hall,by omega,rfl,rfl⟩)⟩,⟨rfl,rfl,rfl⟩,rfl⟩⟩
   ·split at e
    ·rename_i hids
     cases e
     rw [al] at hids
     have hge:h.size≤g.size:=by
      have:=(gj hev0 he).size
      simp only [Heap.size,ew] at this
      exact this
     have hsz:({ objs:=h.objs++List.drop h.size g.objs,base:=h.base,wmin:=h.wmin }:Heap).size=g.size:=by
      simp only [Heap.size,bg,gd] at hge ⊢; omega
     refine ⟨rfl,hsz.symm,rfl,.inl ⟨hc,⟨s1,g,he,rfl,hsz,.inr (.inr ⟨by omega,rfl,fun i hi=>?_,rfl⟩)⟩,⟨rfl,rfl,rfl⟩,rfl⟩⟩
     have:=hids i hi
     simpa using this
    ·cases e
 ·rename_i hc
  have hc:o.op.isCall=false:=by simpa using hc
  split at e
  ·cases e
  rename_i s1 g he
  simp only at e
  split at e
  ·rename_i hsz
   split at e
   ·rename_i hlt
    split at e
    ·rename_i ob hob
     split at e
     ·rename_i hids
      cases e
      exact ⟨rfl,hsz.symm,rfl,.inr ⟨hc,⟨s1,g,he,rfl,.inr (.inl ⟨ob,hsz,hlt,hob,al.1 hids,rfl,rfl⟩)⟩,⟨rfl,rfl,rfl⟩,rfl⟩⟩
     ·cases e
    ·cases e
   ·split at e
    ·rename_i hw
     cases e
     exact ⟨rfl,rfl,rfl,.inr ⟨hc,⟨s1,g,he,rfl,.inl ⟨hsz,hw.1,al.1 hw.2,rfl,rfl⟩⟩,⟨rfl,rfl,rfl⟩,rfl⟩⟩
    ·cases e
  ·split at e
   ·rename_i hsz
    split at e
    ·rename_i ob hob
     split at e
     ·rename_i hids
      rw [al] at hids
      split at e
      ·rename_i hw
       cases e
       exact ⟨rfl,hsz.symm,rfl,.inr ⟨hc,⟨s1,g,he,rfl,.inr (.inr ⟨ob,hsz,hob,hids,.inl ⟨hw,rfl,rfl⟩⟩)⟩,⟨rfl,rfl,rfl⟩,rfl⟩⟩
      ·rename_i hw
       cases e
       exact ⟨rfl,hsz.symm,rfl,.inr ⟨hc,⟨s1,g,he,rfl,.inr (.inr ⟨ob,hsz,hob,hids,.inr ⟨hw,rfl,rfl⟩⟩)⟩,⟨rfl,rfl,rfl⟩,rfl⟩⟩
     ·cases e
    ·cases e
   ·cases e
def touched (D:Nat→Did) (sz:Nat→Nat) (x i:Nat):Prop:=i < sz (x+1)∧(sz x≤i∨(D x).writes i=true)
open Classical in
noncomputable def upd (D:Nat→Did) (sz:Nat→Nat) (H:Nat→Heap) (x i:Nat):Option AObj:=if touched D sz x i then (H (x+1)).objs[i]? else none
noncomputable def mem (D:Nat→Did) (sz:Nat→Nat) (H:Nat→Heap) (L:Nat→Bool):Nat→Nat→AObj
 | 0,i=>((H 0).objs[i]?).getD .dead
 | k+1,i=>if L k then (upd D sz H k i).getD (mem D sz H L k i) else mem D sz H L k i
section
variable {D:Nat→Did} {sz:Nat→Nat} {H:Nat→Heap} {L L':Nat→Bool} {i:Nat}
theorem mem_congr:∀ (k:Nat),(∀ y,y < k→upd D sz H y i≠none→L y=L' y)→mem D sz H L k i=mem D sz H L' k i
 | 0,_=>rfl
 | k+1,h=>by
  have ih:=mem_congr k fun y hy=>h y (by omega)
  simp only [mem]
  cases hu:upd D sz H k i with
  | none=>simp only [Option.getD_none,ih,ite_self]
  | some o =>
   have:=h k (by omega) (by rw [hu]; simp)
   rw [this,ih]
theorem mem_text {n:Nat} (hsz:∀ x,sz x=(H x).size) (hmono:∀ x,x < n→sz x≤sz (x+1)) (hun:∀ x i,x < n→i < sz x→(D x).writes i=false→(H (x+1)).objs[i]? = (H x).objs[i]?) :
  ∀ (x:Nat),x≤n→mem D sz H (fun _=>true) x i=((H x).objs[i]?).getD .dead
 | 0,_=>rfl
 | x+1,hx=>by
  simp only [mem,if_true,mem_text hsz hmono hun x (by omega)]
  unfold upd
  by_cases ht:touched D sz x i
  ·rw [if_pos ht]
   cases hq:(H (x+1)).objs[i]? with
   | some o=>rfl
   | none =>
    exfalso
    have:=ht.1
    rw [hsz] at this
    rw [List.getElem?_eq_none_iff] at hq
    unfold Heap.size at this
    omega
  ·rw [if_neg ht]
   simp only [Option.getD_none]
   by_cases h1:i < sz (x+1)
   ·have h2:i < sz x:=by
     rcases am i (sz x) with h | h
     ·exact h
     ·exact absurd ⟨h1,.inl h⟩ ht
    have h3:(D x).writes i=false:=by
     cases hw:(D x).writes i with
     | false=>rfl
     | true=>exact absurd ⟨h1,.inr hw⟩ ht
    rw [hun x i (by omega) h2 h3]
   ·have e1:(H (x+1)).objs[i]? = none:=by
     rw [List.getElem?_eq_none_iff]; have:=hsz (x+1); unfold Heap.size at this; omega
    have e2:(H x).objs[i]? = none:=by
     rw [List.getElem?_eq_none_iff]; have h5:=hsz x; have:=hmono x (by omega); unfold Heap.size at h5; omega
    rw [e1,e2]
theorem mem_prefix (x:Nat):∀ (k:Nat),mem D sz H (fun y=>decide (y < x)) (x+k) i=mem D sz H (fun _=>true) x i
 | 0=>mem_congr x fun y hy _=>decide_eq_true hy
 | k+1=>by
  rw [← dx]
  simp only [mem]
  rw [if_neg (by simp),mem_prefix x k]
theorem mem_insert_hit {x n:Nat} {o:AObj} (hx:x < n) (hu:upd D sz H x i=some o) (hno:∀ y,y < n→x < y→L y=true→upd D sz H y i=none):mem D sz H (fun y=>y == x || L y) n i=o:=by
 obtain ⟨k,rfl⟩:∃ k,n=x+1+k:=⟨n - (x+1),by omega⟩
 clear hx
 induction k with
 | zero=>simp [mem,hu]
 | succ k ih =>
  have ih:=ih fun y hy=>hno y (by omega)
  rw [← dx]
  simp only [mem]
  rw [ih]
  have e1:(x+1+k == x)=false:=by simp; omega
  simp only [e1,Bool.false_or]
  split
  ·rename_i hL
   rw [hno (x+1+k) (by omega) (by omega) hL]; rfl
  ·rfl
theorem eg {x n:Nat} (hu:upd D sz H x i=none):mem D sz H (fun y=>y == x || L y) n i=mem D sz H L n i :=
 mem_congr n fun y _ hy=>by
  by_cases e:y=x
  ·subst e; exact absurd hu hy
  ·simp [e]
theorem mem_from:∀ (n:Nat),mem D sz H L n i=((H 0).objs[i]?).getD .dead∧(∀ y,y < n→L y=true→upd D sz H y i=none)∨∃ y o,y < n∧L y=true∧upd D sz H y i=some o∧mem D sz H L n i=o
 | 0=>.inl ⟨rfl,fun y hy=>by omega⟩
 | n+1=>by
  simp only [mem]
  by_cases hL:L n=true
  ·rw [if_pos hL]
   cases hu:upd D sz H n i with
   | some o=>exact .inr ⟨n,o,by omega,hL,hu,rfl⟩
   | none =>
    simp only [Option.getD_none]
    rcases mem_from n with ⟨h1,h2⟩ | ⟨y,o,h1,h2,h3,h4⟩
    ·refine .inl ⟨h1,fun y hy hl=>?_⟩
     by_cases e:y=n
     ·subst e; exact hu
     ·exact h2 y (by omega) hl
    ·exact .inr ⟨y,o,by omega,h2,h3,h4⟩
  ·rw [if_neg hL]
   rcases mem_from n with ⟨h1,h2⟩ | ⟨y,o,h1,h2,h3,h4⟩
   ·refine .inl ⟨h1,fun y hy hl=>?_⟩
    by_cases e:y=n
    ·subst e; exact absurd hl hL
    ·exact h2 y (by omega) hl
   ·exact .inr ⟨y,o,by omega,h2,h3,h4⟩
end
end
end Go.Abs
