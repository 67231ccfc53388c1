/-
  Texts joined.
-/
import Derived.Test.YtjmnbfijplhkfaaGreatDoorP0
import Derived.Test.YtjmnbfijplhkfaaGreatDoorP2
import Derived.Maps.RangeRun
set_option linter.unusedVariables false
set_option linter.unusedSimpArgs false
set_option maxRecDepth 100000
namespace Go.Abs
section
variable {E:Env} {μ μ':MM}
mutual
theorem VRel.ids_lt:∀ {a:AVal} {v:Value},VRel E μ a v→∀ i ∈ a.ids,i < μ.length
 | .bool _,_,_,i,hi=>by simp [AVal.ids] at hi
 | .int _ _,_,_,i,hi=>by simp [AVal.ids] at hi
 | .str _,_,_,i,hi=>by simp [AVal.ids] at hi
 | .ptr none,_,_,i,hi=>by simp [AVal.ids] at hi
 | .ptr (some (j,o)),v,h,i,hi=>by simp only [AVal.ids,d9] at hi; subst hi;simp only [VRel] at h;obtain ⟨_,_,x,hx,_⟩:=h;exact aj hx
 | .slice none _ _,_,_,i,hi=>by simp [AVal.ids] at hi
 | .slice (some (j,o)) n c,v,h,i,hi=>by simp only [AVal.ids,d9] at hi; subst hi;simp only [VRel] at h;obtain ⟨_,_,_,hl,_⟩:=h;exact hl.1
 | .map none,_,_,i,hi=>by simp [AVal.ids] at hi
 | .map (some j),v,h,i,hi=>by simp only [AVal.ids,d9] at hi; subst hi;simp only [VRel] at h;obtain ⟨_,x,_,hx,_⟩:=h;exact aj hx
 | .yield j,v,h,i,hi=>by simp only [AVal.ids,d9] at hi; subst hi;simp only [VRel] at h;obtain ⟨_,x,_,hx,_⟩:=h;exact aj hx
 | .func g f c,v,h,i,hi=>by
  simp only [VRel] at h;obtain ⟨_,f',c',_,_,h1,h2⟩:=h;simp only [AVal.ids,bp] at hi;rcases hi with hi | hi
  ·exact VRels.ids_lt h1 i hi
  ·exact VRels.ids_lt h2 i hi
 | .nilFunc,_,_,i,hi=>by simp [AVal.ids] at hi
 | .iface _ _,_,h,_,_=>by simp only [VRel] at h
 | .nilIface,_,_,i,hi=>by simp [AVal.ids] at hi
 | .agg cs,v,h,i,hi=>by simp only [VRel] at h;obtain ⟨_,_,h1,_⟩:=h;exact VRels.ids_lt h1 i (by simpa [AVal.ids] using hi)
 | .tuple vs,v,h,i,hi=>by simp only [VRel] at h;obtain ⟨_,_,h1⟩:=h;exact VRels.ids_lt h1 i (by simpa [AVal.ids] using hi)
theorem VRels.ids_lt:∀ {as:List AVal} {l:List Value},VRels E μ as l→∀ i ∈ AVal.idsL as,i < μ.length
 | [],_,_,i,hi=>by simp [AVal.idsL] at hi
 | a :: as,l,h,i,hi=>by
  simp only [VRels] at h;obtain ⟨_,_,_,h1,h2⟩:=h;simp only [AVal.idsL,bp] at hi;rcases hi with hi | hi
  ·exact VRel.ids_lt h1 i hi
  ·exact VRels.ids_lt h2 i hi
end
mutual
theorem ka:∀ {a:AVal} {v:Value},(∀ i ∈ a.ids,i < μ.length→μ'[i]? = μ[i]?)→VRel E μ a v→VRel E μ' a v
 | .bool _,_,_,h=>by simpa only [VRel] using h
 | .int _ _,_,_,h=>by simpa only [VRel] using h
 | .str _,_,_,h=>by simpa only [VRel] using h
 | .ptr none,_,_,h=>by simpa only [VRel] using h
 | .ptr (some (j,o)),v,hi,h=>by have h3:=hi j (by simp [AVal.ids]);simp only [VRel,ARel] at h ⊢;obtain ⟨a,e,x,hx,hm⟩:=h;exact ⟨a,e,x,(h3 (aj hx)).trans hx,hm⟩
 | .slice none _ _,_,_,h=>by simpa only [VRel] using h
 | .slice (some (j,o)) n c,v,hi,h=>by have h3:=hi j (by simp [AVal.ids]);simp only [VRel,ARel] at h ⊢;obtain ⟨a,cap,e,h1,h2⟩:=h;have h4:=h3 h1.1;rw [h4];refine ⟨a,cap,e,⟨?_,h1.2⟩,h2⟩;rw [ah h1.1] at h4;exact aj h4
 | .map none,_,_,h=>by simpa only [VRel] using h
 | .map (some j),v,hi,h=>by have h3:=hi j (by simp [AVal.ids]);simp only [VRel] at h ⊢;obtain ⟨b,x,e,hx,hm⟩:=h;exact ⟨b,x,e,(h3 (aj hx)).trans hx,hm⟩
 | .yield j,v,hi,h=>by have h3:=hi j (by simp [AVal.ids]);simp only [VRel] at h ⊢;obtain ⟨b,x,e,hx,hm⟩:=h;exact ⟨b,x,e,(h3 (aj hx)).trans hx,hm⟩
 | .func g f c,v,hi,h=>by simp only [VRel] at h ⊢;obtain ⟨fid,f',c',e,hg,h1,h2⟩:=h;exact ⟨fid,f',c',e,hg,qx (fun i hi'=>hi i (by simp [AVal.ids,hi'])) h1,qx (fun i hi'=>hi i (by simp [AVal.ids,hi'])) h2⟩
 | .nilFunc,_,_,h=>by simpa only [VRel] using h
 | .iface _ _,_,_,h=>by simp only [VRel] at h
 | .nilIface,_,_,h=>by simpa only [VRel] using h
 | .agg cs,v,hi,h=>by simp only [VRel] at h ⊢;obtain ⟨cs',e,h1,h2⟩:=h;exact ⟨cs',e,qx (fun i hi'=>hi i (by simp [AVal.ids,hi'])) h1,h2⟩
 | .tuple vs,v,hi,h=>by simp only [VRel] at h ⊢;obtain ⟨cs',e,h1⟩:=h;exact ⟨cs',e,qx (fun i hi'=>hi i (by simp [AVal.ids,hi'])) h1⟩
theorem qx:∀ {as:List AVal} {l:List Value},(∀ i ∈ AVal.idsL as,i < μ.length→μ'[i]? = μ[i]?)→VRels E μ as l→VRels E μ' as l
 | [],_,_,h=>by simpa only [VRels] using h
 | a :: as,l,hi,h=>by simp only [VRels] at h ⊢;obtain ⟨v,r,e,h1,h2⟩:=h;exact ⟨v,r,e,ka (fun i hi'=>hi i (by simp [AVal.idsL,hi'])) h1,qx (fun i hi'=>hi i (by simp [AVal.idsL,hi'])) h2⟩
end
end
section
variable {E:Env} {μ μ':MM} {n:Nat}
mutual
theorem yf (hm:∀ i,i < n→μ'[i]? = μ[i]?):∀ {a:AVal} {v:Value},a.under n=true→VRel E μ' a v→VRel E μ a v
 | .bool b,v,_,h=>by simpa only [VRel] using h
 | .int k m,v,_,h=>by simpa only [VRel] using h
 | .str s,v,_,h=>by simpa only [VRel] using h
 | .ptr none,v,_,h=>by simpa only [VRel] using h
 | .ptr (some (i,o)),v,hu,h=>by simp only [AVal.under,decide_eq_true_eq] at hu;simp only [VRel,ARel] at h ⊢;rw [hm i hu] at h; exact h
 | .slice none m c,v,_,h=>by simpa only [VRel] using h
 | .slice (some (i,o)) m c,v,hu,h=>by
  simp only [AVal.under,decide_eq_true_eq] at hu;simp only [VRel,ARel] at h ⊢;rw [hm i hu] at h;obtain ⟨a,cap,e,h1,h2⟩:=h;refine ⟨a,cap,e,⟨?_,h1.2⟩,h2⟩;have h3:=hm i hu;rcases bi i μ.length with h4 | h4
  ·exact h4
  ·rw [dc h4,ah h1.1] at h3; cases h3
 | .map none,v,_,h=>by simpa only [VRel] using h
 | .map (some i),v,hu,h=>by simp only [AVal.under,decide_eq_true_eq] at hu;simp only [VRel] at h ⊢;rw [hm i hu] at h; exact h
 | .yield i,v,hu,h=>by simp only [AVal.under,decide_eq_true_eq] at hu;simp only [VRel] at h ⊢;rw [hm i hu] at h; exact h
 | .func g f c,v,hu,h=>by simp only [AVal.under,av] at hu;simp only [VRel] at h ⊢;obtain ⟨fid,f',c',e,hg,h1,h2⟩:=h;exact ⟨fid,f',c',e,hg,oe hm hu.1 h1,oe hm hu.2 h2⟩
 | .nilFunc,v,_,h=>by simpa only [VRel] using h
 | .iface _ _,v,_,h=>by simp only [VRel] at h
 | .nilIface,v,_,h=>by simpa only [VRel] using h
 | .agg cs,v,hu,h=>by simp only [AVal.under] at hu;simp only [VRel] at h ⊢;obtain ⟨cs',e,h1,h2⟩:=h;exact ⟨cs',e,oe hm hu h1,h2⟩
 | .tuple vs,v,hu,h=>by simp only [AVal.under] at hu;simp only [VRel] at h ⊢;obtain ⟨cs',e,h1⟩:=h;exact ⟨cs',e,oe hm hu h1⟩
theorem oe (hm:∀ i,i < n→μ'[i]? = μ[i]?):∀ {as:List AVal} {l:List Value},AVal.unders n as=true→VRels E μ' as l→VRels E μ as l
 | [],l,_,h=>by simpa only [VRels] using h
 | a :: as,l,hu,h=>by simp only [AVal.unders,av] at hu;simp only [VRels] at h ⊢;obtain ⟨v,r,e,h1,h2⟩:=h;exact ⟨v,r,e,yf hm hu.1 h1,oe hm hu.2 h2⟩
end
theorem isOne_ren (f:Nat→Nat) (a:AVal):(a.ren f).isOne=a.isOne:=by
 cases a with
 | ptr p=>cases p <;> simp [AVal.ren,AVal.isOne]
 | slice p m c=>cases p <;> simp [AVal.ren,AVal.isOne]
 | map p=>cases p <;> simp [AVal.ren,AVal.isOne]
 | _=>simp [AVal.ren,AVal.isOne]
mutual
theorem qc (f:Nat→Nat):∀ {a:AVal} {v:Value},(∀ i ∈ a.ids,i < μ.length→μ'[f i]? = μ[i]?)→VRel E μ a v→VRel E μ' (a.ren f) v
 | .bool b,v,_,h=>by simpa only [AVal.ren,VRel] using h
 | .int k m,v,_,h=>by simpa only [AVal.ren,VRel] using h
 | .str s,v,_,h=>by simpa only [AVal.ren,VRel] using h
 | .ptr none,v,_,h=>by simpa only [AVal.ren,VRel] using h
 | .ptr (some (i,o)),v,hi,h=>by have h3:=hi i (by simp [AVal.ids]);simp only [AVal.ren,VRel,ARel] at h ⊢;obtain ⟨a,e,x,hx,hm⟩:=h;exact ⟨a,e,x,(h3 (aj hx)).trans hx,hm⟩
 | .slice none m c,v,_,h=>by simpa only [AVal.ren,VRel] using h
 | .slice (some (i,o)) m c,v,hi,h=>by have h3:=hi i (by simp [AVal.ids]);simp only [AVal.ren,VRel,ARel] at h ⊢;obtain ⟨a,cap,e,h1,h2⟩:=h;have h4:=h3 h1.1;rw [h4];refine ⟨a,cap,e,⟨?_,h1.2⟩,h2⟩;rw [ah h1.1] at h4;exact aj h4
 | .map none,v,_,h=>by simpa only [AVal.ren,VRel] using h
 | .map (some i),v,hi,h=>by have h3:=hi i (by simp [AVal.ids]);simp only [AVal.ren,VRel] at h ⊢;obtain ⟨b,x,e,hx,hm⟩:=h;exact ⟨b,x,e,(h3 (aj hx)).trans hx,hm⟩
 | .yield i,v,hi,h=>by have h3:=hi i (by simp [AVal.ids]);simp only [AVal.ren,VRel] at h ⊢;obtain ⟨b,x,e,hx,hm⟩:=h;exact ⟨b,x,e,(h3 (aj hx)).trans hx,hm⟩
 | .func g a c,v,hi,h=>by simp only [AVal.ren,VRel] at h ⊢;obtain ⟨fid,f',c',e,hg,h1,h2⟩:=h;exact ⟨fid,f',c',e,hg,ub f (fun i hi'=>hi i (by simp [AVal.ids,hi'])) h1,ub f (fun i hi'=>hi i (by simp [AVal.ids,hi'])) h2⟩
 | .nilFunc,v,_,h=>by simpa only [AVal.ren,VRel] using h
 | .iface _ _,v,_,h=>by simp only [VRel] at h
 | .nilIface,v,_,h=>by simpa only [AVal.ren,VRel] using h
 | .agg cs,v,hi,h=>by simp only [AVal.ren,VRel] at h ⊢;obtain ⟨cs',e,h1,h2⟩:=h;exact ⟨cs',e,ub f (fun i hi'=>hi i (by simp [AVal.ids,hi'])) h1,rens_one f h2⟩
 | .tuple vs,v,hi,h=>by simp only [AVal.ren,VRel] at h ⊢;obtain ⟨cs',e,h1⟩:=h;exact ⟨cs',e,ub f (fun i hi'=>hi i (by simp [AVal.ids,hi'])) h1⟩
theorem ub (f:Nat→Nat):∀ {as:List AVal} {l:List Value},(∀ i ∈ AVal.idsL as,i < μ.length→μ'[f i]? = μ[i]?)→VRels E μ as l→VRels E μ' (AVal.renL f as) l
 | [],l,_,h=>by simpa only [AVal.renL,VRels] using h
 | a :: as,l,hi,h=>by simp only [AVal.renL,VRels] at h ⊢;obtain ⟨v,r,e,h1,h2⟩:=h;exact ⟨v,r,e,qc f (fun i hi'=>hi i (by simp [AVal.idsL,hi'])) h1,ub f (fun i hi'=>hi i (by simp [AVal.idsL,hi'])) h2⟩
theorem rens_one (f:Nat→Nat):∀ {as:List AVal},(∀ x ∈ as,x.isOne=true)→∀ x ∈ AVal.renL f as,x.isOne=true
 | [],_=>by simp [AVal.renL]
 | a :: as,h=>by
  intro x hx;simp only [AVal.renL,br] at hx;rcases hx with rfl | hx
  ·rw [isOne_ren]; exact h a (bh ..)
  ·exact rens_one f (fun y hy=>h y (bu _ hy)) x hx
end
theorem renL_get (f:Nat→Nat):∀ (as:List AVal) (k:Nat),(AVal.renL f as)[k]? = (as[k]?).map (AVal.ren f)
 | [],k=>by simp [AVal.renL]
 | a :: as,0=>by simp [AVal.renL]
 | a :: as,k+1=>by simpa [AVal.renL] using renL_get f as k
theorem zk (f:Nat→Nat):∀ (as:List AVal),(AVal.renL f as).length=as.length
 | []=>rfl
 | a :: as=>by simp [AVal.renL,zk f as]
theorem nu:∀ {as:List AVal} {k:Nat} {a:AVal} {i:Nat},as[k]? = some a→i ∈ a.ids→i ∈ AVal.idsL as
 | [],k,a,i,h,_=>by simp at h
 | x :: as,0,a,i,h,hi=>by simp at h; subst h; simp [AVal.idsL,hi]
 | x :: as,k+1,a,i,h,hi=>by simp at h;simp [AVal.idsL,nu h hi]
end
end Go.Abs

namespace Go.Abs
section
variable {s:Slots} {h1 h2:Heap} {X:List Nat}
inductive NewF:(Nat→Slot)→Prop where
 | ptr:NewF fun k=>.val (.ptr (some (k,0)))
 | slice (n:Nat) (c:Option Nat):NewF fun k=>.val (.slice (some (k,0)) n c)
 | map:NewF fun k=>.val (.map (some k))
theorem NewF.ids {f:Nat→Slot} (h:NewF f) (k:Nat):(f k).ids=[k]:=by cases h <;> rfl
theorem NewF.ren {f:Nat→Slot} (h:NewF f) (N r:Nat):(f N).ren (mv N r)=f r:=by cases h <;> simp [Slot.ren,AVal.ren,mv]
theorem NewF.novar {f:Nat→Slot} (h:NewF f) (k:Nat) (cs:List AVal):f k ≠ .var cs:=by cases h <;> simp
def Moved (o:AOp) (s:Slots) (h1 h2:Heap) (a b:Option (Slot × Slots × Heap)):Prop :=
 ∀ x s' h',a=some (x,s',h')→s'=s∧((h'=h1∧b=some (x,s,h2))∨(∃ ob f,NewF f∧x=f h1.size∧h'=h1.push ob∧b=some (f h2.size,s,h2.push ob)) ∨
  (∃ i ob f,NewF f∧h1.base≤i∧i < h1.size∧i ∈ gm o s∧x=f h1.size∧h'=(h1.put i .dead).push ob∧b=some (f h2.size,s,(h2.put i .dead).push ob)) ∨
  (∃ i ob,h1.base≤i∧i < h1.size∧i ∈ gm o s∧(∃ v,x = .val v)∧h'=h1.put i ob∧b=some (x,s,h2.put i ob)))
variable {o:AOp}
theorem cj (b:Option (Slot × Slots × Heap)):Moved o s h1 h2 none b:=fun _ _ _ e=>by cases e
theorem gi (v:Option AVal):Moved o s h1 h2 (ok1 s h1 v) (ok1 s h2 v):=fun x s' h' e=>by unfold ok1 at e ⊢;rw [ae] at e;obtain ⟨u,rfl,e⟩:=e;cases e;exact ⟨rfl,.inl ⟨rfl,rfl⟩⟩
theorem mh (y:Slot):Moved o s h1 h2 (some (y,s,h1)) (some (y,s,h2)):=fun x s' h' e=>by cases e;exact ⟨rfl,.inl ⟨rfl,rfl⟩⟩
theorem moved_map {α:Type} (v:Option α) (f:α→Slot):Moved o s h1 h2 (v.map fun j=>(f j,s,h1)) (v.map fun j=>(f j,s,h2)):=fun x s' h' e=>by rw [ae] at e;obtain ⟨u,rfl,e⟩:=e;cases e;exact ⟨rfl,.inl ⟨rfl,rfl⟩⟩
theorem kg {f:Nat→Slot} (hf:NewF f) (ob:AObj):Moved o s h1 h2 (some (f h1.size,s,h1.push ob)) (some (f h2.size,s,h2.push ob)):=fun x s' h' e=>by cases e;exact ⟨rfl,.inr (.inl ⟨ob,f,hf,rfl,rfl,rfl⟩)⟩
theorem vm {e:Nat} {v:AVal} (ha:∀ i ∈ v.ids,h2.get i=h1.get i):il e h2 v=il e h1 v:=by
 unfold il;split
 ·rfl
 ·rename_i i o n c;rw [ha i (by simp [AVal.ids])]
 ·rfl
 ·rfl
theorem adr_get {x:Opd} {i o:Nat} (ha:∀ v,x.ev s=some v→∀ i ∈ v.ids,h2.get i=h1.get i) (hx:x.adr s=some (.glob i o)):h2.get i=h1.get i:=by
 unfold Opd.adr at hx;split at hx
 ·rename_i t;split at hx <;> cases hx
  rename_i hs;exact ha (.ptr (some (i,o))) (by simp [Opd.ev,hs]) i (by simp [AVal.ids])
 ·cases hx
theorem nl:∀ {xs:List Opd} {vs:List AVal} {v:AVal},evs s xs=some vs→v ∈ vs→∃ x ∈ xs,x.ev s=some v
 | [],vs,v,h,hv=>by simp only [evs] at h; cases h; cases hv
 | x :: xs,vs,v,h,hv=>by
  simp only [evs] at h;split at h
  ·rename_i u us hu hus;cases h;rcases br.1 hv with rfl | hv
   ·exact ⟨x,bh ..,hu⟩
   ·obtain ⟨y,hy,h3⟩:=nl hus hv;exact ⟨y,bu _ hy,h3⟩
  ·cases h
theorem op_heap {call:CallSem} {d:Nat} {o:AOp} (hc:soft o=true) (hcc:o.isCall=false) (hb:h2.base=h1.base) (ha:∀ x ∈ fk o,∀ v,x.ev s=some v→∀ i ∈ v.ids,h2.get i=h1.get i) :
  Moved o s h1 h2 (dm call d o s h1) (dm call d o s h2):=by
 cases o with
 | lalloc z=>cases hc
 | lbox x=>cases hc
 | store n a x=>cases hc
 | copy e d s=>cases hc
 | call f args=>cases hcc
 | callg g args=>cases hcc
 | alloc e z=>simp only [dm]; exact kg .ptr _
 | box x =>
  simp only [dm];split
  ·exact kg .ptr _
  ·exact cj _
 | mkslice e n z ps =>
  simp only [dm];split
  ·exact kg (.slice _ _) _
  ·exact cj _
 | make e b z l c =>
  simp only [dm];split
  ·split
   ·exact kg (.slice _ _) _
   ·exact cj _
  ·exact cj _
 | load n a =>
  simp only [dm];split
  ·rename_i ad had
   have:loadAt s h2 ad n=loadAt s h1 ad n:=by
    unfold loadAt cellsAt;cases ad with
    | glob i o=>simp only; rw [adr_get (ha a (by simp [fk])) had]
    | loc t o=>rfl
   rw [this];exact gi _
  ·exact cj _
 | len k x =>
  simp only [dm];split
  ·rename_i v hv
   have:evLen k v h2=evLen k v h1:=by
    unfold evLen;split
    ·rfl
    ·rfl
    ·split
     ·rfl
     ·rename_i r;rw [ha x (by simp [fk]) _ hv r (by simp [AVal.ids])]
     ·rfl
   rw [this];exact gi _
  ·exact cj _
 | conv k x =>
  simp only [dm];split
  ·rename_i v hv;have hav:=ha x (by simp [fk]) v hv;unfold om;split
   ·split
    ·exact gi _
    ·exact cj _
   ·split
    ·exact gi _
    ·exact cj _
   ·split
    ·split
     ·exact kg (.slice _ _) _
     ·exact cj _
    ·exact cj _
   ·split
    ·rename_i a n c;rw [vm hav];split
     ·exact gi _
     ·exact cj _
    ·exact cj _
  ·exact cj _
 | slice k x lo hi mx =>
  simp only [dm];split
  ·rename_i lo' hi' mx' _ _ _;have hav:=ha x (by simp [fk])
   have:aSlice k s h2 x lo' hi' mx'=aSlice k s h1 x lo' hi' mx':=by
    unfold aSlice;cases k with
    | str=>rfl
    | sl e =>
     simp only;cases hx:x.ev s with
     | none=>rfl
     | some v =>
      cases v with
      | slice p n c =>
       cases p with
       | none=>rfl
       | some p =>
        obtain ⟨i,o⟩:=p;have h3:=hav _ hx i (by simp [AVal.ids]);have h4:eszIs h2 i e=eszIs h1 i e:=by unfold eszIs; rw [h3]
        simp only [h4]
      | _=>rfl
    | arr n e =>
     simp only;cases hx:x.adr s with
     | none=>rfl
     | some ad =>
      cases ad with
      | glob i o=>simp only [adr_get hav hx]
      | loc t o=>rfl
   rw [this];exact gi _
  ·exact cj _
 | append e b x y =>
  simp only [dm];split
  ·rename_i vx vy hx hy;have hax:=ha x (by simp [fk]) vx hx;have hay:=ha y (by simp [fk]) vy hy;unfold eb;split
   ·rename_i a n c;rw [vm hax,vm hay];split
    ·rename_i old new _ _;unfold aApp;split
     ·exact mh _
     ·split
      ·cases a with
       | none=>simp only; exact kg (.slice _ _) _
       | some p =>
        obtain ⟨i,o⟩:=p;simp only;split
        ·exact kg (.slice _ _) _
        ·have hr:rowIs h2 i e=rowIs h1 i e:=by unfold rowIs;rw [hax i (by simp [AVal.ids])]
         rw [hb,hr];split
         ·rename_i hh;intro x' s' h' e';cases e'
          have hlt:i < h1.size:=by
           have h3:=hh.2;unfold rowIs at h3;split at h3
           ·rename_i hg; exact aj hg
           ·cases h3
          refine ⟨rfl,.inr (.inr (.inl ⟨i,_,_,.slice _ _,hh.1,hlt,?_,rfl,rfl,?_⟩))⟩
          ·simp [gm,fk,hx,AVal.ids]
          ·simp [Heap.size,Heap.put]
         ·exact cj _
      ·exact cj _
    ·exact cj _
   ·exact cj _
  ·exact cj _
 | val x=>exact gi _
 | build z ps=>exact gi _
 | faddr x off =>
  simp only [dm];split
  ·exact gi _
  ·split
   ·exact mh _
   ·exact cj _
  ·exact cj _
 | pick c x y =>
  simp only [dm];split
  ·exact gi _
  ·exact gi _
  ·exact cj _
 | bin op x y =>
  simp only [dm];split
  ·exact gi _
  ·exact cj _
 | un op x =>
  simp only [dm];split
  ·exact gi _
  ·exact cj _
 | mkfunc g f c =>
  simp only [dm];split
  ·exact gi _
  ·exact cj _
 | field x off n =>
  simp only [dm];split
  ·exact gi _
  ·exact cj _
 | iaddr e x i =>
  simp only [dm];split
  ·exact gi _
  ·exact cj _
 | aaddr n e x i =>
  simp only [dm];split
  ·exact gi _
  ·split
   ·exact moved_map _ _
   ·exact cj _
  ·exact cj _
 | index x i =>
  simp only [dm];split
  ·exact gi _
  ·exact cj _
 | aindex n e k x i =>
  simp only [dm];split
  ·exact gi _
  ·exact cj _
 | extract x i =>
  simp only [dm];split
  ·exact gi _
  ·exact cj _
 | minmax m xs =>
  simp only [dm];split
  ·exact gi _
  ·exact cj _
 | nilcheck x =>
  simp only [dm];split
  ·exact gi _
  ·split
   ·split
    ·exact mh _
    ·exact cj _
   ·exact cj _
 | eqnil k neg x y =>
  simp only [dm];split
  ·exact gi _
  ·exact cj _
 | beq neg x y =>
  simp only [dm];split
  ·exact gi _
  ·exact cj _
 | ext k xs =>
  simp only [dm];split
  ·rename_i vs hvs
   have hent:(∀ x ∈ xs,∀ v,x.ev s=some v→∀ i ∈ v.ids,h2.get i=h1.get i)→∀ v ∈ vs,entriesOf h2 v=entriesOf h1 v:=by
    intro ha v hv;have:=nl hvs hv;obtain ⟨x,hx,hxv⟩:=this;unfold entriesOf;split
    ·rfl
    ·rename_i r;rw [ha x hx _ hxv r (by simp [AVal.ids])]
    ·rfl
   cases k with
   | mkmap =>
    cases vs with
    | nil=>simp only [dl,bw]; exact kg .map _
    | cons v vs=>exact cj _
   | mkiter =>
    have hent:=hent (fun x hx=>ha x (by simpa [fk] using hx));cases vs with
    | nil=>exact cj _
    | cons m vs =>
     cases vs with
     | cons _ _ =>
      cases m with
      | map r=>cases r <;> exact cj _
      | _=>exact cj _
     | nil =>
      cases m with
      | map r =>
       cases r with
       | none=>simp only [dl,bw]; exact kg .ptr _
       | some r =>
        have hg:h2.get r=h1.get r:=by obtain ⟨x,hx,hxv⟩:=nl hvs (fb _);exact ha x (by simpa [fk] using hx) _ hxv r (by simp [AVal.ids])
        simp only [dl,hg];split
        ·simp only [bw]; exact kg .ptr _
        ·exact cj _
      | _=>exact cj _
   | mapupd kn =>
    have hg:∀ v ∈ vs,∀ i ∈ v.ids,h2.get i=h1.get i∧i ∈ gm (.ext (.mapupd kn) xs) s:=fun v hv i hi=>by
     obtain ⟨x,hx,hxv⟩:=nl hvs hv;have hx':x ∈ fk (.ext (.mapupd kn) xs):=by simpa [fk] using hx
     refine ⟨ha x hx' v hxv i hi,?_⟩;unfold gm;rw [eu];exact ⟨x,hx',by rw [hxv]; exact hi⟩
    intro x' s' h' e;rw [ae] at e;obtain ⟨⟨v,h3⟩,e,e'⟩:=e;cases e'
    have hsh:∃ r k v',vs=[.map (some r),k,v']:=by
     rcases vs with _ | ⟨v1,_ | ⟨k,_ | ⟨v',_ | ⟨v4,vs⟩⟩⟩⟩
     ·simp [dl] at e
     ·cases v1 <;> simp [dl] at e
     ·cases v1 <;> simp [dl] at e
     ·cases v1 <;> simp only [dl,reduceCtorEq] at e
      rename_i q;cases q with
      | none=>simp [dl] at e
      | some r=>exact ⟨r,k,v',rfl⟩
     ·cases v1 <;> simp [dl] at e
    obtain ⟨r,k,v',rfl⟩:=hsh;simp only [dl] at e;obtain ⟨hg1,hg2⟩:=hg (.map (some r)) (bh ..) r (by simp [AVal.ids]);split at e;case isFalse=>cases e
    rename_i hh;split at e;case h_2=>cases e
    rename_i es clock hes;have hlt:r < h1.size:=aj hes;split at e
    ·rename_i j v0 hfd;cases e;refine ⟨rfl,.inr (.inr (.inr ⟨r,_,hh.2,hlt,hg2,⟨_,rfl⟩,rfl,?_⟩))⟩;simp only [dl];rw [if_pos ⟨hh.1,by rw [hb]; exact hh.2⟩,hg1,hes];simp only [hfd,bw]
    ·rename_i hfd;cases e;refine ⟨rfl,.inr (.inr (.inr ⟨r,_,hh.2,hlt,hg2,⟨_,rfl⟩,rfl,?_⟩))⟩;simp only [dl];rw [if_pos ⟨hh.1,by rw [hb]; exact hh.2⟩,hg1,hes];simp only [hfd,bw]
    ·cases e
   | mapentry kn z =>
    have hg:∀ v ∈ vs,∀ i ∈ v.ids,h2.get i=h1.get i∧i ∈ gm (.ext (.mapentry kn z) xs) s:=fun v hv i hi=>by
     obtain ⟨x,hx,hxv⟩:=nl hvs hv;have hx':x ∈ fk (.ext (.mapentry kn z) xs):=by simpa [fk] using hx
     refine ⟨ha x hx' v hxv i hi,?_⟩;unfold gm;rw [eu];exact ⟨x,hx',by rw [hxv]; exact hi⟩
    intro x' s' h' e;rw [ae] at e;obtain ⟨⟨v,h3⟩,e,e'⟩:=e;cases e'
    have hsh:∃ r k,vs=[.map (some r),k]:=by unfold dl at e;split at e <;> simp_all
    obtain ⟨r,k,rfl⟩:=hsh;simp only [dl] at e;obtain ⟨hg1,hg2⟩:=hg (.map (some r)) (bh ..) r (by simp [AVal.ids]);split at e;case isFalse=>cases e
    rename_i hh;split at e;case h_2=>cases e
    rename_i es clock hes;have hlt:r < h1.size:=aj hes;split at e
    ·rename_i j v0 hfd;cases e;refine ⟨rfl,.inr (.inr (.inr ⟨r,_,hh.2,hlt,hg2,⟨_,rfl⟩,rfl,?_⟩))⟩;simp only [dl];rw [if_pos ⟨hh.1,by rw [hb]; exact hh.2⟩,hg1,hes];simp only [hfd,bw]
    ·rename_i hfd;cases e;refine ⟨rfl,.inr (.inr (.inr ⟨r,_,hh.2,hlt,hg2,⟨_,rfl⟩,rfl,?_⟩))⟩;simp only [dl];rw [if_pos ⟨hh.1,by rw [hb]; exact hh.2⟩,hg1,hes];simp only [hfd,bw]
    ·cases e
   | entrystore =>
    have hg:∀ v ∈ vs,∀ i ∈ v.ids,h2.get i=h1.get i∧i ∈ gm (.ext .entrystore xs) s:=fun v hv i hi=>by
     obtain ⟨x,hx,hxv⟩:=nl hvs hv;have hx':x ∈ fk (.ext .entrystore xs):=by simpa [fk] using hx
     refine ⟨ha x hx' v hxv i hi,?_⟩;unfold gm;rw [eu];exact ⟨x,hx',by rw [hxv]; exact hi⟩
    intro x' s' h' e;rw [ae] at e;obtain ⟨⟨v,h3⟩,e,e'⟩:=e;cases e'
    have hsh:∃ r st v',vs=[.map (some r),.int .i64 st,v']:=by unfold dl at e;split at e <;> simp_all
    obtain ⟨r,st,v',rfl⟩:=hsh;simp only [dl] at e;obtain ⟨hg1,hg2⟩:=hg (.map (some r)) (bh ..) r (by simp [AVal.ids]);split at e;case isFalse=>cases e
    rename_i hh;split at e;case h_2=>cases e
    rename_i es clock hes;have hlt:r < h1.size:=aj hes;split at e;case h_2=>cases e
    rename_i j hfd;cases e;refine ⟨rfl,.inr (.inr (.inr ⟨r,_,hh,hlt,hg2,⟨_,rfl⟩,rfl,?_⟩))⟩;simp only [dl];rw [if_pos (by rw [hb]; exact hh),hg1,hes];simp only [hfd,bw]
   | delete kn =>
    have hg:∀ v ∈ vs,∀ i ∈ v.ids,h2.get i=h1.get i∧i ∈ gm (.ext (.delete kn) xs) s:=fun v hv i hi=>by
     obtain ⟨x,hx,hxv⟩:=nl hvs hv;have hx':x ∈ fk (.ext (.delete kn) xs):=by simpa [fk] using hx
     refine ⟨ha x hx' v hxv i hi,?_⟩;unfold gm;rw [eu];exact ⟨x,hx',by rw [hxv]; exact hi⟩
    intro x' s' h' e;rw [ae] at e;obtain ⟨⟨v,h3⟩,e,e'⟩:=e;cases e'
    have hsh:(∃ k,vs=[.map none,k])∨∃ r k,vs=[.map (some r),k]:=by
     rcases vs with _ | ⟨v1,_ | ⟨k,_ | ⟨v',vs⟩⟩⟩
     ·simp [dl] at e
     ·cases v1 <;> simp [dl] at e
     ·cases v1 <;> simp only [dl,reduceCtorEq] at e
      rename_i q;cases q with
      | none=>exact .inl ⟨k,rfl⟩
      | some r=>exact .inr ⟨r,k,rfl⟩
     ·cases v1 <;> simp [dl] at e
    rcases hsh with ⟨k,rfl⟩ | ⟨r,k,rfl⟩
    ·simp only [dl] at e;split at e;case isFalse=>cases e
     rename_i hh;cases e;exact ⟨rfl,.inl ⟨rfl,by simp only [dl]; rw [if_pos hh]; rfl⟩⟩
    simp only [dl] at e;obtain ⟨hg1,hg2⟩:=hg (.map (some r)) (bh ..) r (by simp [AVal.ids]);split at e;case isFalse=>cases e
    rename_i hh;split at e;case h_2=>cases e
    rename_i es clock hes;have hlt:r < h1.size:=aj hes;split at e
    ·rename_i j v0 hfd;cases e;refine ⟨rfl,.inr (.inr (.inr ⟨r,_,hh.2,hlt,hg2,⟨_,rfl⟩,rfl,?_⟩))⟩;simp only [dl];rw [if_pos ⟨hh.1,by rw [hb]; exact hh.2⟩,hg1,hes];simp only [hfd,bw]
    ·rename_i hfd;cases e;refine ⟨rfl,.inl ⟨rfl,?_⟩⟩;simp only [dl];rw [if_pos ⟨hh.1,by rw [hb]; exact hh.2⟩,hg1,hes];simp only [hfd,bw]
    ·cases e
   | hstore n =>
    have hg:∀ v ∈ vs,∀ i ∈ v.ids,h2.get i=h1.get i∧i ∈ gm (.ext (.hstore n) xs) s:=fun v hv i hi=>by
     obtain ⟨x,hx,hxv⟩:=nl hvs hv;have hx':x ∈ fk (.ext (.hstore n) xs):=by simpa [fk] using hx
     refine ⟨ha x hx' v hxv i hi,?_⟩;unfold gm;rw [eu];exact ⟨x,hx',by rw [hxv]; exact hi⟩
    intro x' s' h' e;rw [ae] at e;obtain ⟨⟨v,h3⟩,e,e'⟩:=e;cases e'
    have hsh:∃ r o' v',vs=[.ptr (some (r,o')),v']:=by
     rcases vs with _ | ⟨v1,_ | ⟨v',_ | ⟨v4,vs⟩⟩⟩
     ·simp [dl] at e
     ·cases v1 <;> simp [dl] at e
     ·cases v1 <;> simp only [dl,reduceCtorEq] at e
      rename_i q;cases q with
      | none=>simp [dl] at e
      | some q=>exact ⟨q.1,q.2,v',rfl⟩
     ·cases v1 <;> simp [dl] at e
    obtain ⟨r,o',v',rfl⟩:=hsh;simp only [dl] at e;obtain ⟨hg1,hg2⟩:=hg (.ptr (some (r,o'))) (bh ..) r (by simp [AVal.ids]);split at e;case h_2=>cases e
    rename_i xs' e1 cs hxs hcs;have hlt:r < h1.size:=aj hcs;split at e;case isFalse=>cases e
    rename_i hh;cases e;refine ⟨rfl,.inr (.inr (.inr ⟨r,_,hh.2.1,hlt,hg2,⟨_,rfl⟩,rfl,?_⟩))⟩;simp only [dl];rw [hg1,hcs,hxs];simp only;rw [if_pos ⟨hh.1,by rw [hb]; exact hh.2.1,hh.2.2⟩];rfl
   | copy ez =>
    have hg:∀ v ∈ vs,∀ i ∈ v.ids,h2.get i=h1.get i∧i ∈ gm (.ext (.copy ez) xs) s:=fun v hv i hi=>by
     obtain ⟨x,hx,hxv⟩:=nl hvs hv;have hx':x ∈ fk (.ext (.copy ez) xs):=by simpa [fk] using hx
     refine ⟨ha x hx' v hxv i hi,?_⟩;unfold gm;rw [eu];exact ⟨x,hx',by rw [hxv]; exact hi⟩
    intro x' s' h' e;rw [ae] at e;obtain ⟨⟨v,h3⟩,e,e'⟩:=e;cases e'
    have hsh:∃ a n c y,vs=[.slice a n c,y]:=by
     rcases vs with _ | ⟨v1,_ | ⟨v',_ | ⟨v4,vs⟩⟩⟩
     ·simp [dl] at e
     ·cases v1 <;> simp [dl] at e
     ·cases v1 <;> simp only [dl,reduceCtorEq] at e
      exact ⟨_,_,_,_,rfl⟩
     ·cases v1 <;> simp [dl] at e
    obtain ⟨a,n,c,y,rfl⟩:=hsh
    have hrow:rowK ez h2 (min n (alen y)) y=rowK ez h1 (min n (alen y)) y:=by
     have hy:=hg y (by simp);unfold rowK;cases y <;> try rfl
     rename_i ya yn yc;simp only;split
     ·unfold il;cases ya with
      | none=>rfl
      | some p=>obtain ⟨i,o⟩:=p; simp only [(hy i (by simp [AVal.ids])).1]
     ·rfl
    simp only [dl] at e;split at e;case h_2=>cases e
    rename_i src hsrc;split at e
    ·rename_i h0;cases e;refine ⟨rfl,.inl ⟨rfl,?_⟩⟩;simp only [dl];rw [hrow,hsrc];simp only;rw [if_pos h0];rfl
    ·rename_i h0;split at e;case h_2=>cases e
     rename_i r o';obtain ⟨hg1,hg2⟩:=hg (.slice (some (r,o')) n c) (bh ..) r (by simp [AVal.ids]);split at e;case h_2=>cases e
     rename_i e1 cs hcs;have hlt:r < h1.size:=aj hcs;split at e;case isFalse=>cases e
     rename_i hh;cases e;refine ⟨rfl,.inr (.inr (.inr ⟨r,_,hh.2.1,hlt,hg2,⟨_,rfl⟩,rfl,?_⟩))⟩;simp only [dl];rw [hrow,hsrc];simp only;rw [if_neg h0,hg1,hcs];simp only;rw [if_pos ⟨hh.1,by rw [hb]; exact hh.2.1,hh.2.2⟩];rfl
   | clear ez z =>
    have hg:∀ v ∈ vs,∀ i ∈ v.ids,h2.get i=h1.get i∧i ∈ gm (.ext (.clear ez z) xs) s:=fun v hv i hi=>by
     obtain ⟨x,hx,hxv⟩:=nl hvs hv;have hx':x ∈ fk (.ext (.clear ez z) xs):=by simpa [fk] using hx
     refine ⟨ha x hx' v hxv i hi,?_⟩;unfold gm;rw [eu];exact ⟨x,hx',by rw [hxv]; exact hi⟩
    intro x' s' h' e;rw [ae] at e;obtain ⟨⟨v,h3⟩,e,e'⟩:=e;cases e'
    have hsh:∃ a n c,vs=[.slice a n c]:=by
     rcases vs with _ | ⟨v1,_ | ⟨v',vs⟩⟩
     ·simp [dl] at e
     ·cases v1 <;> simp only [dl,reduceCtorEq] at e
      exact ⟨_,_,_,rfl⟩
     ·cases v1 <;> simp [dl] at e
    obtain ⟨a,n,c,rfl⟩:=hsh;simp only [dl] at e;split at e
    ·rename_i h0;cases e;refine ⟨rfl,.inl ⟨rfl,?_⟩⟩;simp only [dl];rw [if_pos h0];rfl
    ·rename_i h0;split at e;case h_2=>cases e
     rename_i r o';obtain ⟨hg1,hg2⟩:=hg (.slice (some (r,o')) n c) (bh ..) r (by simp [AVal.ids]);split at e;case h_2=>cases e
     rename_i e1 cs hcs;have hlt:r < h1.size:=aj hcs;split at e;case isFalse=>cases e
     rename_i hh;cases e;refine ⟨rfl,.inr (.inr (.inr ⟨r,_,hh.2.1,hlt,hg2,⟨_,rfl⟩,rfl,?_⟩))⟩;simp only [dl];rw [if_neg h0,hg1,hcs];simp only;rw [if_pos ⟨hh.1,by rw [hb]; exact hh.2.1,hh.2.2⟩];rfl
   | appz ez by' z =>
    have hg:∀ v ∈ vs,∀ i ∈ v.ids,h2.get i=h1.get i:=fun v hv i hi=>by obtain ⟨x,hx,hxv⟩:=nl hvs hv;exact ha x (by simpa [fk] using hx) v hxv i hi
    rcases vs with _ | ⟨v1,_ | ⟨v2,_ | ⟨v3,vs⟩⟩⟩
    ·exact cj _
    ·cases v1 <;> exact cj _
    ·cases v1 <;> try exact cj _
     rename_i a n c;cases v2 <;> try exact cj _
     rename_i kd m;cases kd <;> try exact cj _
     have hrow:il ez h2 (.slice a n c)=il ez h1 (.slice a n c):=by
      unfold il;cases a with
      | none=>rfl
      | some p=>obtain ⟨i,o⟩:=p; simp only [hg (.slice (some (i,o)) n c) (bh ..) i (by simp [AVal.ids])]
     simp only [dl,hrow];split
     ·exact mh _
     ·split
      ·split
       ·exact kg (.slice _ _) _
       ·exact cj _
      ·exact cj _
    ·cases v1 <;> try exact cj _
     cases v2 <;> try exact cj _
     rename_i kd m;cases kd <;> exact cj _
   | entry=>cases hc
   | lookup kn z ok =>
    have hent:=hent (fun x hx=>ha x (by simpa [fk] using hx));cases vs with
    | nil=>exact cj _
    | cons m vs =>
     cases vs with
     | nil=>exact cj _
     | cons y vs =>
      cases vs with
      | cons _ _=>exact cj _
      | nil =>
       simp only [dl,hent m (bh ..)];split
       ·split
        ·split
         ·exact mh _
         ·exact mh _
         ·exact cj _
        ·exact cj _
       ·exact cj _
   | pure p =>
    simp only [dl];cases evPure p vs with
    | none=>exact cj _
    | some r=>exact mh _
  ·exact cj _
 | nextStr _=>exact cj _
end
end Go.Abs

namespace Go.Abs
inductive Chain (ops:Array Oper):Nat→Nat→Prop where
 | one {j:Nat} {o:Oper} {e:Edge}:ops[j]? = some o→e ∈ o.after→Region.binds .any e=true→Chain ops j e.on
 | step {j i:Nat} {o:Oper} {e:Edge}:ops[j]? = some o→e ∈ o.after→Region.binds .any e=true→Chain ops e.on i→Chain ops j i
section
variable {ops:Array Oper}
theorem mask_bit (acc:List Nat) (i:Nat):∀ (l:List Edge) (s:Nat),(l.foldl (fun s e=>if Region.binds .any e then s ||| 2 ^ e.on ||| acc.getD e.on 0 else s) s).testBit i=true →
  s.testBit i=true∨∃ e ∈ l,Region.binds .any e=true∧(e.on=i∨(acc.getD e.on 0).testBit i=true)
 | [],s,h=>.inl h
 | e :: l,s,h=>by
  simp only [List.foldl_cons] at h;rcases mask_bit acc i l _ h with h1 | ⟨e',h1,h2,h3⟩
  ·split at h1
   ·rename_i hb;rw [Nat.testBit_or,Nat.testBit_or,Nat.testBit_two_pow] at h1;simp only [ep,decide_eq_true_eq] at h1;rcases h1 with (h1 | h1) | h1
    ·exact .inl h1
    ·exact .inr ⟨e,bh ..,hb,.inl h1⟩
    ·exact .inr ⟨e,bh ..,hb,.inr h1⟩
   ·exact .inl h1
  ·exact .inr ⟨e',bu _ h1,h2,h3⟩
theorem lr:∀ (l:List Oper) (acc:List Nat),(befs l acc).length=acc.length+l.length
 | [],acc=>by simp [befs]
 | o :: l,acc=>by simp [befs,lr l]; omega
theorem og:∀ (l:List Oper) (acc:List Nat),ops.toList.drop acc.length=l→(∀ k i,(acc.getD k 0).testBit i=true→Chain ops k i) →
  ∀ k i,((befs l acc).getD k 0).testBit i=true→Chain ops k i
 | [],acc,_,h,k,i,hb=>h k i hb
 | o :: l,acc,hd,h,k,i,hb=>by
  simp only [befs] at hb
  have ho:ops[acc.length]? = some o:=by have:=congrArg (fun l=>l[0]?) hd;simpa using this
  refine og l (acc++[maskOf acc o]) ?_ (fun k' i' hk=>?_) k i hb
  ·have:=congrArg List.tail hd;simpa using this
  ·rcases Nat.lt_trichotomy k' acc.length with h1 | h1 | h1
   ·rw [ge,ag h1,← ge] at hk;exact h k' i' hk
   ·subst h1;rw [ge,ak (ai _)] at hk;simp at hk;rcases mask_bit acc i' _ _ hk with h2 | ⟨e,h2,h3,h4⟩
    ·simp at h2
    ·have he:e ∈ o.after:=by simpa using h2
     rcases h4 with rfl | h4
     ·exact .one ho he h3
     ·exact .step ho he h3 (h _ _ h4)
   ·rw [ge,dc (by simp; omega)] at hk;simp at hk
def Down (ops:Array Oper) (listed:Array Bool):Prop :=
 ∀ (j:Nat) (o:Oper) (e:Edge),listed[j]? = some true→ops[j]? = some o→e ∈ o.after→Region.binds .any e=true→listed[e.on]? = some true
theorem jk {listed:Array Bool} (hd:Down ops listed) {j i:Nat} (hc:Chain ops j i):(∀ (o:Oper) (e:Edge),ops[j]? = some o→e ∈ o.after→Region.binds .any e=true→listed[e.on]? = some true)→listed[i]? = some true:=by
 induction hc with
 | one ho he hb=>intro h; exact h _ _ ho he hb
 | step ho he hb _ ih =>
  intro h;exact ih fun o' e' ho' he' hb'=>hd _ _ _ (h _ _ ho he hb) ho' he' hb'
theorem qy {listed:Array Bool} (hs:listed.size=ops.size) {i:Nat} (h:i ∈ Region.ready .any ops listed) :
  ∃ o,ops[i]? = some o∧listed[i]? = some false∧∀ e,e ∈ o.after→Region.binds .any e=true→listed[e.on]? = some true:=by
 unfold Region.ready at h;rw [ju] at h;obtain ⟨h1,h2⟩:=h;rw [eh] at h1;simp only [av,gb] at h2;obtain ⟨h2,h3⟩:=h2;have ho:ops[i]? = some ops[i]:=by simp [h1]
 refine ⟨ops[i],ho,?_,fun e he hb=>?_⟩
 ·have:listed[i]? = some listed[i]:=by simp [hs,h1]
  rw [this];simp [hs,h1] at h2;rw [h2]
 ·rw [ho] at h3;simp only [bw,cq,Array.all_eq_true'] at h3;have:=h3 e he;simp only [hb,Bool.not_true,Bool.false_or] at this;rw [Array.getD_eq_getD_getElem?] at this;cases hl:listed[e.on]? with
  | none=>rw [hl] at this; simp at this
  | some b=>rw [hl] at this; simp at this; rw [this]
theorem sg (hb:edgesBack ops=true) {listed:Array Bool} (hs:listed.size=ops.size) (h:Region.ready .any ops listed=[]):∀ i,i < ops.size→listed[i]? = some true:=by
 intro i;induction i using Nat.strongRecOn with
 | _ i ih =>
  intro hi;rcases bc listed[i] with h1 | h1
  ·simp [hs,hi,h1]
  ·exfalso
   have:i ∈ Region.ready .any ops listed:=by
    unfold Region.ready;rw [ju];refine ⟨eh.2 hi,?_⟩;have ho:ops[i]? = some ops[i]:=by simp [hi]
    rw [ho];simp only [av,gb,bw,cq,Array.all_eq_true'];refine ⟨by simp [hs,hi,h1],fun e he=>?_⟩;cases hbb:Region.binds .any e with
    | false=>rfl
    | true =>
     have hlt:e.on < i:=by unfold edgesBack at hb;rw [al] at hb;have:=hb i (eh.2 hi);rw [ho] at this;simp only [Array.all_eq_true'] at this;have:=this e he;simpa [hbb] using this
     have:=ih e.on hlt (by omega);simp [Array.getD_eq_getD_getElem?,this]
   rw [h] at this;cases this
theorem mb {E:Env} {nt:Nat} {locs:List Nat}:∀ (l:List Oper) (i:Nat) (as:List AOper),mr E nt ops locs i l=some as→as.length=l.length∧∀ (k:Nat) (o:Oper),l[k]? = some o→∃ o',as[k]? = some o'∧ng E nt ops (locs.contains (i+k)) o=some o'
 | [],i,as,h=>by simp only [mr] at h; cases h; exact ⟨rfl,fun k o hk=>by simp at hk⟩
 | o :: l,i,as,h=>by
  simp only [mr] at h;split at h;case h_2=>cases h
  rename_i o' as' h1 h2;cases h;obtain ⟨k1,k2⟩:=mb l (i+1) as' h2;refine ⟨by simp [k1],fun k x hk=>?_⟩;cases k with
  | zero=>simp at hk; subst hk; exact ⟨o',rfl,h1⟩
  | succ k =>
   simp at hk;obtain ⟨x',h3,h4⟩:=k2 k x hk;exact ⟨x',by simpa using h3,by rw [show i+(k+1)=i+1+k by omega]; exact h4⟩
def Exact (ops:Array Oper) (listed:Array Bool) (p:Nat):Prop:=listed.size=ops.size∧∀ i,i < ops.size→listed[i]? = some (decide (i < p))
theorem Exact.down (hb:edgesBack ops=true) {listed:Array Bool} {p:Nat} (h:Exact ops listed p):Down ops listed:=by
 intro j o e hj ho he hbb;have hjs:j < ops.size:=aj (l:=ops.toList) (by simpa using ho);have h1:=h.2 j hjs;rw [hj] at h1;have hjp:j < p:=by simpa using h1
 have hlt:e.on < j:=by unfold edgesBack at hb;rw [al] at hb;have:=hb j (eh.2 hjs);rw [ho] at this;simp only [Array.all_eq_true'] at this;have:=this e he;simpa [hbb] using this
 rw [h.2 e.on (by omega)];simp; omega
theorem Exact.next {listed:Array Bool} {p:Nat} (h:Exact ops listed p):Exact ops (listed.setIfInBounds p true) (p+1):=by
 refine ⟨by simp [h.1],fun i hi=>?_⟩;by_cases e:p=i
 ·subst e; simp [h.1,hi]
 ·rw [dx e,h.2 i hi];congr 1;rw [md];simp; omega
theorem w9 {bef:List Nat} {p j i:Nat} (h:waits bef p=true) (hj:j < bef.length) (hpj:p≤j) (hi:i < p):(bef.getD j 0).testBit i=true:=by
 unfold waits at h;rw [al] at h;have:=h j (eh.2 hj);simp only [ep,decide_eq_true_eq] at this;rcases this with h1 | h1
 ·omega
 ·rw [al] at h1;exact h1 i (eh.2 hi)
theorem ud {as:List AOper} {bef:List Nat} (hl:bef.length=as.length):∀ (segs:List (Bool × Nat)) (p:Nat),segsOk as bef p segs=true→waits bef p=true
 | [],p,h=>by simp only [segsOk,beq_iff_eq] at h;unfold waits;rw [al];intro j hj;rw [eh] at hj;simp; left; omega
 | (true,n) :: r,p,h=>by simp only [segsOk,av] at h;exact h.1.1.1
 | (false,0) :: r,p,h=>by simp only [segsOk,av] at h;have:=ud hl r (p+0) h.2;simpa using this
 | (false,n+1) :: r,p,h=>by simp only [segsOk,av] at h;have:=h.1.2;rw [al] at this;have:=this 0 (eh.2 (by omega));simpa using this
end
section
variable {E:Env} {lo nt:Nat} {μ0:MM} {w0:World} {ds:List Deferred} {s:Slots} {h:Heap} {a:Act} {w:World} {call:CallSem} {ops:Array Oper} {locs:List Nat} {as:List AOper} {Q:Exit→Act→World→Prop} {ro:Option Nat}
theorem zaa {i:Nat} {o:Oper} {K:Act→World→Prop} (ho:ops[i]? = some o) (h:if Region.wanted o (yielded ops a.tmps) then o.wpIn (F0 ro) 0 E.P a w K Q else K (a.put o.dst Go.undef) w):wpOpIn (F0 ro) 0 E.P ops Q i K a w:=by
 unfold wpOpIn;rw [ho];simp only;split
 ·rename_i hw; rw [if_pos hw] at h; exact h
 ·rename_i hw; rw [if_neg hw] at h; exact ⟨fun _ _=>trivial,h⟩
theorem zba (hc:CallOK E call) (hev0:CallEvol call) (hg:GidOK E) {loc:Bool} {o:Oper} {o':AOper} {s1:Slots} {h1:Heap} (hop:ng E nt ops loc o=some o') (hev:ew call o' s { h with wmin:=h.size }=some (s1,h1))
  (hs1:h1.size=h.size) (hw1:h1.wmin=h.size) (hat:At E lo nt μ0 w0 ds s h a w) {next:Act→World→Prop} (hn:∀ a' w',At E lo nt μ0 w0 ds s1 h a' w'→next a' w') :
  if Region.wanted o (yielded ops a.tmps) then o.wpIn (F0 ro) 0 E.P a w next Q else next (a.put o.dst Go.undef) w:=by
 obtain ⟨μ,ν,k1,k2,k3,k4,k5,k6⟩:=hat;have hlen:h.size=μ.length:=k2.len.symm;have hat':At E lo nt μ w ds s { h with wmin:=h.size } a w:=⟨μ,ν,Step.refl _ _ _ _,k2.same rfl rfl rfl,k3,k4,k5,k6⟩;refine r9 hc hev0 hg hop hev hat' fun a' w' hat1=>hn a' w' ?_
 obtain ⟨μ',ν',j1,j2,j3,j4,j5,j6⟩:=hat1;have hevol:=nd hev0 hev;rw [hw1,hlen] at j1;refine ⟨μ',ν',k1.trans (j1.fresh h.wmin) (ai _),j2.same ?_ hevol.base.symm rfl,j3,j4,j5,j6⟩;apply kv;intro i;rcases bi i h.size with hi | hi
 ·exact (hevol.objs i hi (by rw [hw1]; exact hi)).symm
 ·have e1:h.objs.length≤i:=hi;have e2:h1.objs.length≤i:=by rw [show h1.objs.length=h1.size from rfl,hs1]; exact hi
  rw [dc e1,dc e2]
theorem seq_any (hc:CallOK E call) (hev0:CallEvol call) (hg:GidOK E) (has:mr E nt ops locs 0 ops.toList=some as) (hb:edgesBack ops=true) :
  ∀ (n p:Nat) (s:Slots) (h:Heap) (s1:Slots) (h1:Heap) (listed:Array Bool) (a:Act) (w:World),p+n≤as.length→(∀ x,x≤n→waits (befs ops.toList []) (p+x)=true) →
  evOps call ((as.drop p).take n) s h=some (s1,h1)→Exact ops listed p→At E lo nt μ0 w0 ds s h a w →
  (∀ listed' a' w',Exact ops listed' (p+n)→At E lo nt μ0 w0 ds s1 h1 a' w'→wpAnyIn (F0 ro) 0 E.P .any ops Q (ops.size - (p+n)) listed' a' w')→wpAnyIn (F0 ro) 0 E.P .any ops Q (ops.size - p) listed a w
 | 0,p,s,h,s1,h1,listed,a,w,_,_,hev,hex,hat,hk=>by simp only [List.take_zero,evOps] at hev; cases hev;exact hk listed a w hex hat
 | n+1,p,s,h,s1,h1,listed,a,w,hpn,hw,hev,hex,hat,hk=>by
  obtain ⟨q1,q2⟩:=mb _ _ _ has;have hp:p < ops.size:=by rw [q1] at hpn; simp at hpn; omega
  have hop:ops[p]? = some ops[p]:=by simp [hp]
  obtain ⟨o',ho',hco⟩:=q2 p ops[p] (by simp [hp])
  have hdrop:as.drop p=o' :: as.drop (p+1):=by have hpl:=aj ho';rw [ed hpl];congr 1;rw [ah hpl] at ho';exact dg ho'
  rw [hdrop,List.take_succ_cons] at hev;simp only [evOps] at hev;split at hev;case h_2=>cases hev
  rename_i s2 h2 he;have hchain:=og (ops:=ops) ops.toList [] (by simp) (fun k i hk=>by simp at hk);have hblen:=lr ops.toList [];have hsz:ops.size - p=(ops.size - (p+1))+1:=by omega
  rw [hsz];refine ⟨fun hr=>?_,fun i hi=>?_⟩
  ·have h3:=sg hb hex.1 hr p hp;rw [hex.2 p hp] at h3;simp at h3
  ·obtain ⟨oi,k1,k2,k3⟩:=qy hex.1 hi;have his:i < ops.size:=aj (l:=ops.toList) (by simpa using k1)
   have hip:p≤i:=by have:=hex.2 i his;rw [k2] at this;simpa using this
   have hieq:p=i:=by
    rcases bi p i with h4 | h4
    ·exfalso;have hbit:=w9 (hw 1 (by omega)) (j:=i) (i:=p) (by rw [hblen]; simpa using his) (by omega) (by omega);have hl:=jk (hex.down hb) (hchain _ _ hbit) fun o e ho he hbb=>by rw [k1] at ho; cases ho; exact k3 e he hbb
     rw [hex.2 p hp] at hl;simp at hl
    ·omega
   subst hieq;rw [hop] at k1; cases k1;refine zaa hop (r9 hc hev0 hg hco he hat fun a' w' hat'=>?_);have e1:p+1+n=p+(n+1):=by omega
   refine seq_any hc hev0 hg has hb n (p+1) s2 h2 s1 h1 _ a' w' (by omega) (fun x hx=>?_) hev hex.next hat' ?_
   ·have:=hw (x+1) (by omega);rwa [show p+1+x=p+(x+1) by omega]
   ·rw [e1]; exact hk
theorem zbb {h0:Heap}:∀ (seg:List AOper) (s s1:Slots) (h1:Heap),(∀ o ∈ seg,calm o.op=true)→evQuiet call seg s h0=some (s1,h1) →
  h1=h0∧∃ (S:Nat→Slots) (r:Nat→Slot),S 0=s∧S seg.length=s1∧∀ (x:Nat) (o:AOper),seg[x]? = some o →
   (∃ h',ew call o (S x) { h0 with wmin:=h0.size }=some (S (x+1),h')∧h'.size=h0.size∧h'.wmin=h0.size)∧S (x+1)=a8 o.dst (r x) (S x)∧(∀ cs,r x ≠ .var cs)∧∀ d,o.dst=some d→isVar (S x) d=false
 | [],s,s1,h1,_,e=>by simp only [evQuiet] at e; cases e;exact ⟨rfl,fun _=>s,fun _=>.undef,rfl,rfl,fun x o hx=>by simp at hx⟩
 | o :: seg,s,s1,h1,hcalm,e=>by
  simp only [evQuiet] at e;split at e;case h_2=>cases e
  rename_i s2 h2 he;split at e;case isFalse=>cases e
  rename_i hh;obtain ⟨a1,a2,a3⟩:=hh;obtain ⟨b1,S,r,b2,b3,b4⟩:=zbb seg s2 s1 h1 (fun o ho=>hcalm o (bu _ ho)) e;obtain ⟨x0,c1,_,c3⟩:=js (S2:=s) (hcalm o (bh ..)) (Agree.of (fun _ _=>rfl) (fun _ _=>Iff.rfl)) he;refine ⟨b1,fun x=>match x with | 0=>s | x+1=>S x,fun x=>match x with | 0=>x0 | x+1=>r x,rfl,by simpa using b3,fun x o1 hx=>?_⟩;cases x with
  | zero =>
   simp at hx; subst hx;refine ⟨⟨h2,by simp only [b2]; exact he,a1,a2⟩,by simp only [b2]; exact c1,c3,fun d hd=>?_⟩;rw [hd] at a3;simpa using a3
  | succ x =>
   simp at hx;exact b4 x o1 hx
theorem fg (d:Option Nat) (x:Slot) (s:Slots) (t:Nat):sget (a8 d x s) t=if d=some t then some x else sget s t:=by rw [kr]; rfl
theorem quiet_any (hc:CallOK E call) (hev0:CallEvol call) (hg:GidOK E) (has:mr E nt ops locs 0 ops.toList=some as) (hb:edgesBack ops=true)
  {p n:Nat} {h1:Heap} {s1:Slots} (hpn:p+n≤as.length) (hw1:waits (befs ops.toList []) (p+n)=true)
  (hap:∀ x y oi oj,x < n→y < n→as[p+x]? = some oi→as[p+y]? = some oj→apart (befs ops.toList []) (p+x) (p+y) oi oj=true)
  (hcalm:∀ x o,x < n→as[p+x]? = some o→calm o.op=true)
  (hev:evQuiet call ((as.drop p).take n) s h=some (s1,h1))
  (hk:∀ listed' a' w',Exact ops listed' (p+n)→At E lo nt μ0 w0 ds s1 h1 a' w'→wpAnyIn (F0 ro) 0 E.P .any ops Q (ops.size - (p+n)) listed' a' w') :
  ∀ listed a w,Exact ops listed p→At E lo nt μ0 w0 ds s h a w→wpAnyIn (F0 ro) 0 E.P .any ops Q (ops.size - p) listed a w:=by
 obtain ⟨q1,q2⟩:=mb _ _ _ has;simp only [ig] at q1;have hchain:=og (ops:=ops) ops.toList [] (by simp) (fun k i hk=>by simp at hk);have hblen:=lr ops.toList [];simp only [bf,dk,ig] at hblen;have hseg:∀ x,x < n→((as.drop p).take n)[x]? = as[p+x]?:=fun x hx=>by rw [et hx,dw]
 have hslen:((as.drop p).take n).length=n:=by simp; omega
 obtain ⟨e1,S,r,b2,b3,b4⟩:=zbb _ _ _ _ (fun o ho=>by
  obtain ⟨x,hx⟩:=je ho;have hxn:x < n:=by have:=aj hx; omega
  exact hcalm x o hxn (by rw [← hseg x hxn]; exact hx)) hev
 subst e1;rw [hslen] at b3
 have opat:∀ x,x < n→∃ o o',ops[p+x]? = some o∧as[p+x]? = some o'∧ng E nt ops (locs.contains (p+x)) o=some o':=by
  intro x hx;have hlt:p+x < ops.size:=by omega
  obtain ⟨o',h2,h3⟩:=q2 (p+x) ops[p+x] (by simp [hlt]);exact ⟨ops[p+x],o',by simp [hlt],h2,by simpa using h3⟩
 have text:∀ x o',x < n→as[p+x]? = some o'→(∃ h',ew call o' (S x) { h1 with wmin:=h1.size }=some (S (x+1),h')∧h'.size=h1.size∧h'.wmin=h1.size)∧S (x+1)=a8 o'.dst (r x) (S x)∧(∀ cs,r x ≠ .var cs)∧∀ d,o'.dst=some d→isVar (S x) d=false :=
  fun x o' hx ho=>b4 x o' (by rw [hseg x hx]; exact ho)
 have dst_ne:∀ x y oi oj d,x < n→y < n→x≠y→as[p+x]? = some oi→as[p+y]? = some oj→oj.dst=some d→oi.dst≠some d:=by
  intro x y oi oj d hx hy hne hi hj hd e;have:=hap x y oi oj hx hy hi hj;unfold apart at this;rw [hd] at this;simp only [av,ep,beq_iff_eq,bne_iff_ne] at this;rcases this.1 with h2 | h2
  ·omega
  ·exact h2 e
 have text_hit:∀ x y o d,x≤n→y < x→as[p+y]? = some o→o.dst=some d→sget (S x) d=some (r y):=by
  intro x;induction x with
  | zero=>intro y o d _ hy; omega
  | succ x ih =>
   intro y o d hx hy ho hd;obtain ⟨_,o',_,ho',_⟩:=opat x (by omega);obtain ⟨_,t2,_,_⟩:=text x o' (by omega) ho';rw [t2,fg];by_cases e:y=x
   ·subst e; rw [ho] at ho'; cases ho'; rw [if_pos hd]
   ·rw [if_neg (dst_ne x y o' o d (by omega) (by omega) (fun e'=>e e'.symm) ho' ho hd)];exact ih y o d (by omega) (by omega) ho hd
 have text_miss:∀ x t,x≤n→(∀ y o,y < x→as[p+y]? = some o→o.dst≠some t)→sget (S x) t=sget s t:=by
  intro x;induction x with
  | zero=>intro t _ _; rw [b2]
  | succ x ih =>
   intro t hx hno;obtain ⟨_,o',_,ho',_⟩:=opat x (by omega);obtain ⟨_,t2,_,_⟩:=text x o' (by omega) ho';rw [t2,fg,if_neg (hno x o' (by omega) ho')];exact ih t (by omega) fun y o hy=>hno y o (by omega)
 have dst_novar:∀ x o d cs,x < n→as[p+x]? = some o→o.dst=some d→sget s d≠some (.var cs):=by
  intro x o d cs hx ho hd hv;obtain ⟨_,_,_,t4⟩:=text x o hx ho;have h2:=t4 d hd;have h3:sget (S x) d=sget s d:=text_miss x d (by omega) fun y o2 hy ho2=>dst_ne y x o2 o d (by omega) hx (by omega) ho2 ho hd
  unfold isVar at h2;rw [h3,hv] at h2;simp at h2
 have main:∀ (k:Nat) (listed:Array Bool) (sD:Slots) (a:Act) (w:World),listed.size=ops.size→Down ops listed→(∀ i,i < p→listed[i]? = some true)→(∀ i,p+n≤i→i < ops.size→listed[i]? = some false) →
   ((List.range n).filter fun x=>listed[p+x]? == some false).length=k →
   (∀ x o d,x < n→as[p+x]? = some o→listed[p+x]? = some true→o.dst=some d→sget sD d=some (r x)) →
   (∀ t,(∀ x o,x < n→as[p+x]? = some o→listed[p+x]? = some true→o.dst≠some t)→sget sD t=sget s t) →
   At E lo nt μ0 w0 ds sD h1 a w→wpAnyIn (F0 ro) 0 E.P .any ops Q (ops.size - (p+n)+k) listed a w:=by
  intro k;induction k with
  | zero =>
   intro listed sD a w hsz hdn hlow hhigh hcount hhit hmiss hat
   have hall:∀ x,x < n→listed[p+x]? = some true:=by
    intro x hx;have hlt:p+x < listed.size:=by omega
    have hmem:x ∉ (List.range n).filter fun x=>listed[p+x]? == some false:=by rw [bq hcount]; simp
    rw [ju] at hmem;have h2:¬ (listed[p+x]? = some false):=fun h2=>hmem ⟨eh.2 hx,by simp [h2]⟩
    rw [j9 hlt] at h2 ⊢;cases hv:listed[p+x] with
    | true=>rfl
    | false=>rw [hv] at h2; exact absurd rfl h2
   have hex:Exact ops listed (p+n):=by
    refine ⟨hsz,fun i hi=>?_⟩;rcases bi i p with h2 | h2
    ·rw [hlow i h2]; simp; omega
    ·rcases bi i (p+n) with h3 | h3
     ·have:=hall (i - p) (by omega);rw [show p+(i - p)=i by omega] at this;rw [this]; simp [h3]
     ·rw [hhigh i h3 hi]; simp; omega
   refine hk listed a w hex ?_;obtain ⟨μ,ν,k1,k2,k3,k4⟩:=hat;refine ⟨μ,ν,k1,k2,k3.congr fun t=>?_,k4⟩;rw [← b3];by_cases hx:∃ x o,x < n∧as[p+x]? = some o∧o.dst=some t
   ·obtain ⟨x,o,h2,h3,h4⟩:=hx;rw [text_hit n x o t (ai _) h2 h3 h4,hhit x o t h2 h3 (hall x h2) h4]
   ·have hno:∀ x o,x < n→as[p+x]? = some o→o.dst≠some t:=fun x o h2 h3 h4=>hx ⟨x,o,h2,h3,h4⟩
    rw [text_miss n t (ai _) hno,hmiss t fun x o h2 h3 _=>hno x o h2 h3]
  | succ k ih =>
   intro listed sD a w hsz hdn hlow hhigh hcount hhit hmiss hat
   have hsome:∃ x,x < n∧listed[p+x]? = some false:=by
    have hne:(List.range n).filter (fun x=>listed[p+x]? == some false)≠[]:=fun e=>by rw [e] at hcount; simp at hcount
    obtain ⟨x,hx⟩:=List.exists_mem_of_ne_nil _ hne;rw [ju,eh] at hx;exact ⟨x,hx.1,by simpa using hx.2⟩
   obtain ⟨xu,hxu,hxf⟩:=hsome;refine ⟨fun hr=>?_,fun i hi=>?_⟩
   ·have:=sg hb hsz hr (p+xu) (by omega);rw [hxf] at this; cases this
   ·obtain ⟨oi,k1,k2,k3⟩:=qy hsz hi;have his:i < ops.size:=aj (l:=ops.toList) (by simpa using k1)
    have hip:p≤i:=by
     rcases bi i p with h2 | h2
     ·rw [hlow i h2] at k2; cases k2
     ·exact h2
    have hin:i < p+n:=by
     rcases bi i (p+n) with h2 | h2
     ·exact h2
     ·exfalso;have hbit:=w9 hw1 (j:=i) (i:=p+xu) (by rw [hblen]; exact his) h2 (by omega);have hl:=jk hdn (hchain _ _ hbit) fun o e ho he hbb=>by rw [k1] at ho; cases ho; exact k3 e he hbb
      rw [hxf] at hl; cases hl
    obtain ⟨x,rfl⟩:∃ x,i=p+x:=⟨i - p,by omega⟩;have hxn:x < n:=by omega
    obtain ⟨o,o',h2,h3,h4⟩:=opat x hxn;rw [h2] at k1; cases k1;obtain ⟨⟨h',t1,t1a,t1b⟩,t2,t3,t4⟩:=text x o' hxn h3
    have waitsl:∀ j,(((befs ops.toList []).getD (p+x) 0).testBit j=true)→listed[j]? = some true:=fun j hbit =>
     jk hdn (hchain _ _ hbit) fun o2 e ho he hbb=>by rw [h2] at ho; cases ho; exact k3 e he hbb
    have hag:Agree (S x) sD o'.reads:=by
     refine Agree.of ?_ ?_
     ·intro t ht;by_cases hy:∃ y oj,y < n∧as[p+y]? = some oj∧oj.dst=some t
      ·obtain ⟨y,oj,hy1,hy2,hy3⟩:=hy;have others:∀ z oz,z < n→z≠y→as[p+z]? = some oz→oz.dst≠some t:=fun z oz hz hne hoz=>dst_ne z y oz oj t hz hy1 hne hoz hy2 hy3
       by_cases hxy:y=x
       ·-- its own slot
        subst hxy;rw [text_miss y t (by omega) fun z oz hz hoz=>others z oz (by omega) (by omega) hoz]
        rw [hmiss t fun z oz hz hoz hl=>by
         by_cases e:z=y
         ·subst e; rw [k2] at hl; cases hl
         ·exact others z oz hz e hoz]
       ·have:=hap x y o' oj hxn hy1 h3 hy2;unfold apart at this;rw [hy3] at this;simp only [av,ep,beq_iff_eq,gb,List.contains_eq_mem,decide_eq_false_iff_not,decide_eq_true_eq] at this;rcases this.2 with ((h5 | h5) | h5) | h5
        ·omega
        ·exact absurd ht h5
        ·obtain ⟨h5,h6⟩:=h5;rw [text_hit x y oj t (by omega) (by omega) hy2 hy3,hhit y oj t hy1 hy2 (waitsl _ h6) hy3]
        ·obtain ⟨h5,h6⟩:=h5
         have hnl:listed[p+y]?≠some true:=by
          intro hl;have:=jk hdn (hchain _ _ h6) fun o2 e ho he hbb=>hdn _ _ _ hl ho he hbb
          rw [k2] at this; cases this
         rw [text_miss x t (by omega) fun z oz hz hoz=>others z oz (by omega) (by omega) hoz]
         rw [hmiss t fun z oz hz hoz hl=>by
          by_cases e:z=y
          ·subst e; exact absurd hl hnl
          ·exact others z oz hz e hoz]
      ·have hno:∀ z oz,z < n→as[p+z]? = some oz→oz.dst≠some t:=fun z oz hz hoz hd=>hy ⟨z,oz,hz,hoz,hd⟩
       rw [text_miss x t (by omega) fun z oz hz hoz=>hno z oz (by omega) hoz,hmiss t fun z oz hz hoz _=>hno z oz hz hoz]
     ·intro t cs
      have v1:sget (S x) t=some (.var cs) ↔ sget s t=some (.var cs):=by
       by_cases hy:∃ y oj,y < x∧as[p+y]? = some oj∧oj.dst=some t
       ·obtain ⟨y,oj,hy1,hy2,hy3⟩:=hy;rw [text_hit x y oj t (by omega) hy1 hy2 hy3];constructor
        ·intro e; exact absurd (dg e) ((text y oj (by omega) hy2).2.2.1 cs)
        ·intro e; exact absurd e (dst_novar y oj t cs (by omega) hy2 hy3)
       ·rw [text_miss x t (by omega) fun z oz hz hoz hd=>hy ⟨z,oz,hz,hoz,hd⟩]
      have v2:sget sD t=some (.var cs) ↔ sget s t=some (.var cs):=by
       by_cases hy:∃ y oj,y < n∧as[p+y]? = some oj∧listed[p+y]? = some true∧oj.dst=some t
       ·obtain ⟨y,oj,hy1,hy2,hyl,hy3⟩:=hy;rw [hhit y oj t hy1 hy2 hyl hy3];constructor
        ·intro e; exact absurd (dg e) ((text y oj hy1 hy2).2.2.1 cs)
        ·intro e; exact absurd e (dst_novar y oj t cs hy1 hy2 hy3)
       ·rw [hmiss t fun z oz hz hoz hl hd=>hy ⟨z,oz,hz,hoz,hl,hd⟩]
      exact v1.trans v2.symm
    obtain ⟨x',c1,c2,c3⟩:=js (hcalm x o' hxn h3) hag t1;refine zaa h2 (zba hc hev0 hg h4 c2 t1a t1b hat fun a' w' hat'=>?_);have hset:∀ j,j≠p+x→(listed.setIfInBounds (p+x) true)[j]? = listed[j]?:=fun j hj=>dx (fun e=>hj e.symm)
    have hself:(listed.setIfInBounds (p+x) true)[p+x]? = some true:=by simp [hsz,his]
    have hx':∀ d,o'.dst=some d→x'=r x:=by intro d hd;rw [t2] at c1;rw [hd] at c1;simp only [a8] at c1;injection c1 with c1 _;injection c1 with _ c1;exact c1.symm
    refine ih (listed.setIfInBounds (p+x) true) (a8 o'.dst x' sD) a' w' (by simp [hsz]) ?_ ?_ ?_ ?_ ?_ ?_ hat'
    ·intro j oj e hj hoj he hbb;by_cases ej:j=p+x
     ·subst ej;rw [h2] at hoj; cases hoj;have:=k3 e he hbb;by_cases ee:e.on=p+x
      ·rw [ee]; exact hself
      ·rw [hset _ ee]; exact this
     ·rw [hset _ ej] at hj;have:=hdn j oj e hj hoj he hbb;by_cases ee:e.on=p+x
      ·rw [ee]; exact hself
      ·rw [hset _ ee]; exact this
    ·intro j hj; rw [hset j (by omega)]; exact hlow j hj
    ·intro j hj hj'; rw [hset j (by omega)]; exact hhigh j hj hj'
    ·-- one less is to come
     have hperm:((List.range n).filter fun y=>(listed.setIfInBounds (p+x) true)[p+y]? == some false)=((List.range n).filter fun y=>listed[p+y]? == some false).filter fun y=>y != x:=by
      rw [List.filter_filter];apply List.filter_congr;intro y _;by_cases ey:y=x
      ·subst ey; rw [hself]; simp
      ·rw [hset _ (by omega)]; simp [ey]
     rw [hperm]
     have hmem:x ∈ (List.range n).filter fun y=>listed[p+y]? == some false:=by rw [ju]; exact ⟨eh.2 hxn,by simp [k2]⟩
     have hnd:((List.range n).filter fun y=>listed[p+y]? == some false).Nodup:=List.nodup_range.sublist List.filter_sublist;generalize (List.range n).filter (fun y=>listed[p+y]? == some false)=L at hcount hmem hnd;have herase:L.filter (fun y=>y != x)=L.erase x:=(hnd.erase_eq_filter x).symm;rw [herase,List.length_erase_of_mem hmem,hcount];rfl
    ·intro y oy d hy hoy hl hd;rw [fg];by_cases ey:y=x
     ·subst ey; rw [h3] at hoy; cases hoy;rw [if_pos hd,hx' d hd]
     ·rw [hset _ (by omega)] at hl;rw [if_neg (dst_ne x y o' oy d hxn hy (fun e=>ey e.symm) h3 hoy hd)];exact hhit y oy d hy hoy hl hd
    ·intro t hno;rw [fg,if_neg (hno x o' hxn h3 hself)];refine hmiss t fun y oy hy hoy hl=>?_
     by_cases ey:y=x
     ·subst ey; rw [k2] at hl; cases hl
     ·exact hno y oy hy hoy (by rw [hset _ (by omega)]; exact hl)
 intro listed a w hex hat
 have hcount:((List.range n).filter fun x=>listed[p+x]? == some false).length=n:=by
  have:(List.range n).filter (fun x=>listed[p+x]? == some false)=List.range n:=by rw [List.filter_eq_self];intro x hx;rw [eh] at hx;rw [hex.2 (p+x) (by omega)];simp
  rw [this,List.length_range]
 have:=main n listed s a w hex.1 (hex.down hb) (fun i hi=>by rw [hex.2 i (by omega)]; simp [hi]) (fun i hi hi'=>by rw [hex.2 i hi']; simp; omega) hcount
  (fun x o d hx ho hl _=>by have h5:=hex.2 (p+x) (by omega);rw [hl] at h5;have h6:=of_decide_eq_true (dg h5).symm;omega) (fun t _=>rfl) hat
 rwa [show ops.size - (p+n)+n=ops.size - p by omega] at this
end
end Go.Abs

namespace Go.Abs
section
variable {E:Env}
theorem LoopRel.same {μ μ':MM} {g:Nat} {st:LoopSt} {p:Option AExit} {sl:List (Nat × AVal)} {r:Loop} (h:LoopRel E μ g st p sl r) (hm:∀ j ∈ AObj.ids (.loop g st p sl),j < μ.length→μ'[j]? = μ[j]?):LoopRel E μ' g st p sl r :=
 ⟨h.code,h.st,h.pend,fun k x hk=>by obtain ⟨v',h1,h2⟩:=h.slots k x hk;refine ⟨v',h1,ka (fun j hj=>hm j ?_) h2⟩;simp only [AObj.ids];exact nu (k:=k) (a:=x.2) (by rw [cz,hk]; rfl) hj⟩
theorem ORel.same {μ μ':MM} {b i:Nat} {w:World} {o:AObj} (h:ORel E μ b i w o) (hi:μ'[i]? = μ[i]?) (hm:∀ j ∈ o.ids,j < μ.length→μ'[j]? = μ[j]?):ORel E μ' b i w o:=by
 cases o with
 | dead=>exact hi.trans h
 | cells esz cs =>
  obtain ⟨m,c,e,fr,h1,h2,h3,h4,h5,h6,h7⟩:=h;refine ⟨m,c,e,fr,hi.trans h1,h2,h3,h4,h5,fun k v hk=>?_,h7⟩;obtain ⟨k1,v',k2,k3⟩:=h6 k v hk;exact ⟨k1,v',k2,ka (fun j hj=>hm j (nu hk hj)) k3⟩
 | map es clock =>
  obtain ⟨m,es',h1,h2,h3,h4⟩:=h;refine ⟨m,es',hi.trans h1,h2,h3,fun k x hk=>?_⟩;obtain ⟨y,y1,y2,y3,y4⟩:=h4 k x hk
  have hin:∀ j,j ∈ x.1.ids∨j ∈ x.2.1.ids→j ∈ AObj.ids (.map es clock):=fun j hj=>by simp only [AObj.ids,eu,bp];exact ⟨x,bz hk,hj⟩
  exact ⟨y,y1,ka (fun j hj=>hm j (hin j (.inl hj))) y2,ka (fun j hj=>hm j (hin j (.inr hj))) y3,y4⟩
 | iter s pos =>
  obtain ⟨m,h1,h2⟩:=h;exact ⟨m,hi.trans h1,h2⟩
 | mapIter r a b c =>
  obtain ⟨m,r',⟨h1,h0⟩,h2,h3⟩:=h;exact ⟨m,r',⟨hi.trans h1,h0⟩,h2,ka (fun j hj=>hm j (by cases r <;> exact hj)) h3⟩
 | loop g st p sl =>
  obtain ⟨m,r,h1,h2,h3⟩:=h;exact ⟨m,r,hi.trans h1,h2,h3.same hm⟩
theorem ORel.moved {μ μ':MM} {b i i':Nat} {w:World} {o:AObj} (h:ORel E μ b i w o) (hi:μ'[i']? = μ[i]?) (hm:∀ j ∈ o.ids,j < μ.length→μ'[j]? = μ[j]?) (hb:b≤i):ORel E μ' b i' w o:=by
 cases o with
 | dead=>exact hi.trans h
 | cells esz cs =>
  obtain ⟨m,c,e,fr,h1,h2,h3,h4,h5,h6,h7⟩:=h;refine ⟨m,c,e,fr,hi.trans h1,h2,h3,h4,h5,fun k v hk=>?_,fun _=>h7 hb⟩;obtain ⟨k1,v',k2,k3⟩:=h6 k v hk;exact ⟨k1,v',k2,ka (fun j hj=>hm j (nu hk hj)) k3⟩
 | map es clock =>
  obtain ⟨m,es',h1,h2,h3,h4⟩:=h;refine ⟨m,es',hi.trans h1,h2,h3,fun k x hk=>?_⟩;obtain ⟨y,y1,y2,y3,y4⟩:=h4 k x hk
  have hin:∀ j,j ∈ x.1.ids∨j ∈ x.2.1.ids→j ∈ AObj.ids (.map es clock):=fun j hj=>by simp only [AObj.ids,eu,bp];exact ⟨x,bz hk,hj⟩
  exact ⟨y,y1,ka (fun j hj=>hm j (hin j (.inl hj))) y2,ka (fun j hj=>hm j (hin j (.inr hj))) y3,y4⟩
 | iter s pos =>
  obtain ⟨m,h1,h2⟩:=h;exact ⟨m,hi.trans h1,h2⟩
 | mapIter r a b c =>
  obtain ⟨m,r',⟨h1,h0⟩,h2,h3⟩:=h;exact ⟨m,r',⟨hi.trans h1,h0⟩,h2,ka (fun j hj=>hm j (by cases r <;> exact hj)) h3⟩
 | loop g st p sl =>
  obtain ⟨m,r,h1,h2,h3⟩:=h;exact ⟨m,r,hi.trans h1,h2,h3.same hm⟩
variable {lo nt:Nat} {μ0:MM} {w0:World} {ds:List Deferred} {s:Slots} {h:Heap} {a:Act} {w:World}
theorem At.move {N r wm:Nat} {d:Option Nat} {x:Slot} {ob:AObj} (hat:At E lo nt μ0 w0 ds (a8 d x s) ⟨h.objs++[ob],h.base,wm⟩ a w) (hN:h.objs.length=N) (hr:h.objs[r]? = some .dead) (hbr:h.base≤r) (h0:μ0.length≤r)
  (hs:∀ t y,sget s t=some y→∀ i ∈ y.ids,i < N∧i≠r) (hx:∀ v,x = .val v→∀ i ∈ v.ids,i≠r) (hxv:∀ cs,x ≠ .var cs) (hob:∀ i ∈ ob.ids,i < N∧i≠r)
  (ho:∀ (k:Nat) (o:AObj),h.objs[k]? = some o→∀ i ∈ o.ids,i < N∧i≠r) :
  At E lo nt μ0 w0 ds (a8 d (x.ren (mv N r)) s) ⟨h.objs.set r ob,h.base,wm⟩ a w:=by
 obtain ⟨μ,ν,k1,k2,k3,k4,k5,k6⟩:=hat;have hrN:r < N:=by rw [← hN]; exact aj hr
 have hlen:μ.length=N+1:=by have:=k2.len; simpa [hN] using this
 let μ':MM:=(μ.take N).set r ((μ[N]?).getD none)
 have hl':μ'.length=N:=by simp [μ',hlen]
 have hat:∀ i,i < N→i≠r→μ'[i]? = μ[i]?:=fun i hi hne=>by simp only [μ'];rw [ap (Ne.symm hne),pz,if_pos hi]
 have hatr:μ'[r]? = μ[N]?:=by simp only [μ'];rw [db,if_pos rfl,if_pos (by simp [hlen]; omega),ah (by omega)];rfl
 have hsame:∀ i,i < N∧i≠r→i < μ.length→μ'[i]? = μ[i]?:=fun i hi _=>hat i hi.1 hi.2
 have hfrom:∀ i m,μ'[i]? = some (some m)→∃ p,μ[p]? = some (some m)∧((i=r∧p=N)∨(i≠r∧p=i∧i < N)):=fun i m hm=>by
  by_cases e:i=r
  ·subst e;exact ⟨N,hatr.symm.trans hm,.inl ⟨rfl,rfl⟩⟩
  ·have hi:i < N:=by rw [← hl']; exact aj hm
   exact ⟨i,(hat i hi e).symm.trans hm,.inr ⟨e,rfl,hi⟩⟩
 refine ⟨μ',ν,?_,?_,?_,k4,k5,k6⟩
 ·refine ⟨k1.os,k1.tape,k1.output,k1.size,k1.block,by rw [hl']; omega,fun i hi=>?_,fun i m hi hm=>?_⟩
  ·rw [hat i (by omega) (by omega)]; exact k1.old i hi
  ·obtain ⟨p,hp,h1 | h1⟩:=hfrom i m hm
   ·exact k1.new p m (by omega) hp
   ·exact k1.new p m (by omega) hp
 ·have hbs:=k2.bs;constructor
  ·rw [hl']; simp [hN]
  ·simp only [jh]; simp at hbs; omega
  ·intro i o hi;simp only at hi ⊢;rw [db] at hi;split at hi
   ·rename_i e;subst e;split at hi
    ·cases hi;have hb:h.base≤N:=by omega
     exact (k2.obj N ob (by simp [← hN])).moved hatr (fun j hj=>hsame j (hob j hj)) hb
    ·cases hi
   ·rename_i e;have hiN:i < N:=by rw [← hN]; exact aj hi
    exact (k2.obj i o (by rw [ag (by omega)]; exact hi)).same (hat i hiN (Ne.symm e)) fun j hj=>hsame j (ho i o hi j hj)
  ·intro i j mi mj hij hi hmi hmj;obtain ⟨p,hp,hp'⟩:=hfrom i mi hmi;obtain ⟨q,hq,hq'⟩:=hfrom j mj hmj;refine k2.sep p q mi mj ?_ ?_ hp hq
   ·rcases hp' with ⟨a1,a2⟩ | ⟨a1,a2,a3⟩ <;> rcases hq' with ⟨b1,b2⟩ | ⟨b1,b2,b3⟩ <;> omega
   ·simp only at hi ⊢;rcases hp' with ⟨a1,a2⟩ | ⟨a1,a2,a3⟩ <;> omega
  ·intro i m hm;obtain ⟨p,hp,_⟩:=hfrom i m hm;exact k2.lt p m hp
 ·have hget:∀ t y,sget (a8 d (x.ren (mv N r)) s) t=some y→(d=some t∧y=x.ren (mv N r))∨(d≠some t∧sget s t=some y):=fun t y hy=>by
   rw [fg] at hy;split at hy
   ·rename_i e; cases hy; exact .inl ⟨e,rfl⟩
   ·rename_i e; exact .inr ⟨e,hy⟩
  have hvar:∀ t cs,sget (a8 d (x.ren (mv N r)) s) t=some (.var cs)→sget (a8 d x s) t=some (.var cs)∧∀ i ∈ AVal.idsL cs,i < N∧i≠r:=fun t cs hy=>by
   rcases hget t _ hy with ⟨e,h1⟩ | ⟨e,h1⟩
   ·exfalso;cases x <;> simp [Slot.ren] at h1
    exact hxv _ rfl
   ·exact ⟨by rw [fg,if_neg e]; exact h1,hs t _ h1⟩
  constructor
  ·intro t v hv;rcases hget t _ hv with ⟨e,h1⟩ | ⟨e,h1⟩
   ·cases x with
    | val u =>
     simp only [Slot.ren] at h1;cases h1;obtain ⟨v',j1,j2⟩:=k3.val t u (by rw [fg,if_pos e]);refine ⟨v',j1,qc (mv N r) (fun i hi hl=>?_) j2⟩;unfold mv;split
     ·rename_i e2; subst e2; exact hatr
     ·rename_i e2;exact hat i (by omega) (hx u rfl i hi)
    | _=>simp [Slot.ren] at h1
   ·obtain ⟨v',j1,j2⟩:=k3.val t v (by rw [fg,if_neg e]; exact h1);exact ⟨v',j1,ka (fun i hi=>hsame i (hs t _ h1 i hi)) j2⟩
  ·intro t hv;rcases hget t _ hv with ⟨e,h1⟩ | ⟨e,h1⟩
   ·cases x <;> simp [Slot.ren] at h1
    exact k3.undef t (by rw [fg,if_pos e])
   ·exact k3.undef t (by rw [fg,if_neg e]; exact h1)
  ·intro t cs hv;obtain ⟨j1,j2⟩:=hvar t cs hv;obtain ⟨q1,q2,c,e,fr,q3,q4,q5,q6⟩:=k3.var t cs j1;refine ⟨q1,q2,c,e,fr,q3,q4,fun k v hk=>?_,q6⟩;obtain ⟨z1,v',z2,z3⟩:=q5 k v hk;exact ⟨z1,v',z2,ka (fun i hi=>hsame i (j2 i (nu hk hi))) z3⟩
  ·intro t t' o cs hv hv';obtain ⟨j1,_⟩:=hvar t' cs hv';rcases hget t _ hv with ⟨e,h1⟩ | ⟨e,h1⟩
   ·cases x <;> simp [Slot.ren] at h1
    obtain ⟨rfl,rfl⟩:=h1;exact k3.loc t _ _ cs (by rw [fg,if_pos e]) j1
   ·exact k3.loc t t' o cs (by rw [fg,if_neg e]; exact h1) j1
  ·intro t t' cs cs' hne hv hv';exact k3.sepv t t' cs cs' hne (hvar t cs hv).1 (hvar t' cs' hv').1
  ·intro t cs i m hv hm;obtain ⟨p,hp,_⟩:=hfrom i m hm;exact k3.sepm t cs p m (hvar t cs hv).1 hp
  ·exact k3.ds
  ·refine fun q hq=>⟨fun i m hm=>?_,fun t cs hv=>(k3.sepd q hq).2 t cs (hvar t cs hv).1⟩
   obtain ⟨p,hp,_⟩:=hfrom i m hm;exact (k3.sepd q hq).1 p m hp
  ·exact k3.nodup
end
end Go.Abs

namespace Go.Abs
section
variable {E:Env} {X:Nat→Prop}
theorem At.reserve {lo nt:Nat} {μ0:MM} {w0:World} {ds:List Deferred} {s:Slots} {h:Heap} {a:Act} {w:World} (hat:At E lo nt μ0 w0 ds s h a w) (n:Nat) :
  At E lo nt μ0 w0 ds s ⟨h.objs++List.replicate n .dead,h.base,h.wmin⟩ a w:=by
 obtain ⟨μ,ν,k1,k2,k3,k4,k5,k6⟩:=hat;have hl:Later μ (μ++List.replicate n none):=⟨by simp,fun i hi=>.inl (ag hi)⟩;have hold:∀ i,i < μ.length→(μ++List.replicate n none)[i]? = μ[i]?:=fun i hi=>ag hi
 have hnew:∀ i m,(μ++List.replicate n none)[i]? = some (some m)→μ[i]? = some (some m):=fun i m hm=>by
  rcases bi i μ.length with h1 | h1
  ·rw [← hold i h1]; exact hm
  ·rw [ak h1,xw] at hm;split at hm
   ·cases hm
   ·cases hm
 refine ⟨μ++List.replicate n none,ν,?_,?_,?_,k4,k5,k6⟩
 ·refine ⟨k1.os,k1.tape,k1.output,k1.size,k1.block,dq k1.len hl.len,fun i hi=>?_,fun i m hi hm=>k1.new i m hi (hnew i m hm)⟩;rw [hold i (gl hi k1.len)]; exact k1.old i hi
 ·constructor
  ·simp [k2.len]
  ·have:=k2.bs; simp; omega
  ·intro i o hi;simp only at hi;rcases bi i h.objs.length with h1 | h1
   ·rw [ag h1] at hi;exact (k2.obj i o hi).keep hl fun m hm=>⟨by rw [hold i (by rw [k2.len]; exact h1)]; exact hm,rfl⟩
   ·have hlt:=aj hi;rw [ak h1,xw] at hi;split at hi
    ·cases hi;show (μ++_)[i]? = _;rw [ak (by rw [k2.len]; exact h1),xw,k2.len];rw [if_pos (by assumption)]
    ·cases hi
  ·intro i j mi mj hij hi hmi hmj;exact k2.sep i j mi mj hij hi (hnew _ _ hmi) (hnew _ _ hmj)
  ·intro i m hm; exact k2.lt i m (hnew _ _ hm)
 ·exact k3.keep hl (fun _ _ _=>rfl) (fun t cs i m hv hi hm=>k3.sepm t cs i m hv (hnew _ _ hm)) fun r hr=>⟨rfl,fun i m hi hm=>(k3.sepd r hr).1 i m (hnew _ _ hm)⟩
theorem At.ids {lo nt:Nat} {μ0:MM} {w0:World} {ds:List Deferred} {s:Slots} {h:Heap} {a:Act} {w:World} (hat:At E lo nt μ0 w0 ds s h a w) :
  (∀ t y,sget s t=some y→∀ i ∈ y.ids,i < h.size)∧(∀ (k:Nat) (o:AObj),h.objs[k]? = some o→∀ i ∈ o.ids,i < h.size)∧μ0.length≤h.size:=by
 obtain ⟨μ,ν,k1,k2,k3,k4,k5,k6⟩:=hat;have hlen:μ.length=h.size:=k2.len
 have hcells:∀ {cs:List AVal} {c:Array Value} {b:Nat},CRel E μ cs c b→∀ i ∈ AVal.idsL cs,i < h.size:=by
  intro cs c b hc i hi
  have:∀ {cs:List AVal},i ∈ AVal.idsL cs→∃ (k:Nat) (v:AVal),cs[k]? = some v∧i ∈ v.ids:=by
   intro cs;induction cs with
   | nil=>intro h; simp [AVal.idsL] at h
   | cons v cs ih =>
    intro h;simp only [AVal.idsL,bp] at h;rcases h with h | h
    ·exact ⟨0,v,rfl,h⟩
    ·obtain ⟨k,v',h1,h2⟩:=ih h;exact ⟨k+1,v',by simpa using h1,h2⟩
  obtain ⟨k,v,h1,h2⟩:=this hi;obtain ⟨_,v',_,h3⟩:=hc k v h1;rw [← hlen]; exact h3.ids_lt i h2
 refine ⟨fun t y hy i hi=>?_,fun k o ho i hi=>?_,by rw [← hlen]; exact k1.len⟩
 ·cases y with
  | val v =>
   obtain ⟨v',_,h2⟩:=k3.val t v hy;rw [← hlen]; exact h2.ids_lt i hi
  | var cs =>
   obtain ⟨_,_,c,e,fr,_,_,h5,_⟩:=k3.var t cs hy;exact hcells h5 i hi
  | _=>simp [Slot.ids] at hi
 ·have:=k2.obj k o ho;cases o with
  | dead=>simp [AObj.ids] at hi
  | cells esz cs =>
   obtain ⟨m,c,e,fr,_,_,_,_,_,h6,_⟩:=this;exact hcells h6 i hi
  | map es clock =>
   obtain ⟨m,es',_,_,_,h4⟩:=this;simp only [AObj.ids,eu,bp] at hi;obtain ⟨x,hx,hi⟩:=hi;obtain ⟨k',hk'⟩:=je hx;obtain ⟨y,_,h5,h6,_⟩:=h4 k' x hk';rw [← hlen];rcases hi with hi | hi
   ·exact h5.ids_lt i hi
   ·exact h6.ids_lt i hi
  | iter s pos=>simp [AObj.ids] at hi
  | mapIter r a b c =>
   obtain ⟨m,r',_,_,h3⟩:=this;rw [← hlen];exact h3.ids_lt i (by cases r <;> exact hi)
  | loop g st p sl =>
   obtain ⟨m,r,_,_,h3⟩:=this;simp only [AObj.ids] at hi
   have:∀ {l:List AVal},i ∈ AVal.idsL l→∃ (k:Nat) (v:AVal),l[k]? = some v∧i ∈ v.ids:=by
    intro l;induction l with
    | nil=>intro h; simp [AVal.idsL] at h
    | cons v l ih =>
     intro h;simp only [AVal.idsL,bp] at h;rcases h with h | h
     ·exact ⟨0,v,rfl,h⟩
     ·obtain ⟨k,v',h1,h2⟩:=ih h;exact ⟨k+1,v',by simpa using h1,h2⟩
   obtain ⟨k,v,h1,h2⟩:=this hi;rw [cz,ae] at h1;obtain ⟨x,hx,rfl⟩:=h1;obtain ⟨v',_,h4⟩:=h3.slots k x hx;rw [← hlen]; exact h4.ids_lt i h2
theorem noCall_ok (E:Env):CallOK E noCall:=⟨fun _ _ _ _ _ h=>by simp [noCall] at h,fun _ _ _ _ _ _ _ _ _ _ h=>by simp [noCall] at h⟩
theorem zb:CallEvol noCall:=fun _ _ _ _ _ h=>by simp [noCall] at h
variable {ops:Array Oper} {lo nt:Nat} {μ0:MM} {w0:World} {ds:List Deferred} {s:Slots} {a:Act} {w:World} {Q:Exit→Act→World→Prop} {ro:Option Nat}
theorem qn (hg:GidOK E) {loc:Bool} {o:Oper} {o':AOper} {s1:Slots} {h1:Heap} {os:List AObj} {base wm N:Nat} (hop:ng E nt ops loc o=some o')
  (hev:ew noCall o' s ⟨os,base,N⟩=some (s1,h1)) (hw:wm≤h1.wmin) (hat:At E lo nt μ0 w0 ds s ⟨os,base,wm⟩ a w) {next:Act→World→Prop} (hn:∀ a' w',At E lo nt μ0 w0 ds s1 ⟨h1.objs,base,wm⟩ a' w'→next a' w') :
  if Region.wanted o (yielded ops a.tmps) then o.wpIn (F0 ro) 0 E.P a w next Q else next (a.put o.dst Go.undef) w:=by
 obtain ⟨μ,ν,k1,k2,k3,k4,k5,k6⟩:=hat;have hevol:=nd zb hev;have hat':At E lo nt μ w ds s ⟨os,base,N⟩ a w:=⟨μ,ν,Step.refl _ _ _ _,k2.same rfl rfl rfl,k3,k4,k5,k6⟩;refine r9 (noCall_ok E) zb hg hop hev hat' fun a' w' hat1=>hn a' w' ?_
 obtain ⟨μ',ν',j1,j2,j3,j4,j5,j6⟩:=hat1;exact ⟨μ',ν',k1.trans (j1.weaken hw fun _ h _=>h) (ai _),j2.same rfl hevol.base.symm rfl,j3,j4,j5,j6⟩
theorem ph {call:CallSem} {o:AOper} {h1 h2:Heap} {s':Slots} {h':Heap} (hso:soft o.op=true) (hcc:o.op.isCall=false) (hb:h2.base=h1.base) (ha:∀ x ∈ fk o.op,∀ v,x.ev s=some v→∀ i ∈ v.ids,h2.get i=h1.get i)
  (e:ew call o s h1=some (s',h')) :
  (∃ x,s'=a8 o.dst x s∧h'=h1∧ew call o s h2=some (a8 o.dst x s,h2)) ∨
  (∃ ob f,NewF f∧s'=a8 o.dst (f h1.size) s∧h'=h1.push ob∧ew call o s h2=some (a8 o.dst (f h2.size) s,h2.push ob)) ∨
   (∃ i ob f,NewF f∧h1.base≤i∧i < h1.size∧i ∈ gm o.op s∧s'=a8 o.dst (f h1.size) s∧h'=(h1.put i .dead).push ob∧ew call o s h2=some (a8 o.dst (f h2.size) s,(h2.put i .dead).push ob)) ∨
   (∃ i ob v,h1.base≤i∧i < h1.size∧i ∈ gm o.op s∧s'=a8 o.dst (.val v) s∧h'=h1.put i ob∧ew call o s h2=some (s',h2.put i ob)):=by
 have run:∀ {s' h'},evRun call o s h1=some (s',h')→(∃ x,s'=a8 o.dst x s∧h'=h1∧evRun call o s h2=some (a8 o.dst x s,h2)) ∨
  (∃ ob f,NewF f∧s'=a8 o.dst (f h1.size) s∧h'=h1.push ob∧evRun call o s h2=some (a8 o.dst (f h2.size) s,h2.push ob)) ∨
   (∃ i ob f,NewF f∧h1.base≤i∧i < h1.size∧i ∈ gm o.op s∧s'=a8 o.dst (f h1.size) s∧h'=(h1.put i .dead).push ob∧evRun call o s h2=some (a8 o.dst (f h2.size) s,(h2.put i .dead).push ob)) ∨
   (∃ i ob v,h1.base≤i∧i < h1.size∧i ∈ gm o.op s∧s'=a8 o.dst (.val v) s∧h'=h1.put i ob∧evRun call o s h2=some (s',h2.put i ob)):=by
  intro s' h' e;unfold evRun at e ⊢;split at e;case h_2=>cases e
  rename_i x s1 h3 he;cases e;obtain ⟨rfl,hm⟩:=op_heap (d:=o.dst.getD 0) hso hcc hb ha x s1 _ he;rcases hm with ⟨rfl,hm⟩ | ⟨ob,f,hf,rfl,rfl,hm⟩ | ⟨i,ob,f,hf,hi,hi2,hi3,rfl,rfl,hm⟩ | ⟨i,ob,hi,hi2,hi3,⟨v,rfl⟩,rfl,hm⟩
  ·exact .inl ⟨x,rfl,rfl,by rw [hm]⟩
  ·exact .inr (.inl ⟨ob,f,hf,rfl,rfl,by rw [hm]⟩)
  ·exact .inr (.inr (.inl ⟨i,ob,f,hf,hi,hi2,hi3,rfl,rfl,by rw [hm]⟩))
  ·exact .inr (.inr (.inr ⟨i,ob,v,hi,hi2,hi3,rfl,rfl,by rw [hm]⟩))
 unfold ew at e ⊢;split at e
 ·exact run e
 ·rename_i t want hg;split at e
  ·split at e
   ·rename_i hbw;rw [if_pos hbw];exact run e
   ·rename_i hbw;rw [if_neg hbw];cases e;exact .inl ⟨.undef,rfl,rfl,rfl⟩
  ·cases e;exact .inl ⟨.undef,rfl,rfl,rfl⟩
  ·cases e
end
end Go.Abs

namespace Go.Abs
section
variable {E:Env} {nt:Nat} {s:Slots} {ops:Array Oper} {locs:List Nat} {as:List AOper} {Q:Exit→Act→World→Prop} {ro:Option Nat}
def Ld (listed:Array Bool) (p n x:Nat):Bool:=decide (x < n) && (listed[p+x]? == some true)
theorem any_order (has:mr E nt ops locs 0 ops.toList=some as) (hb:edgesBack ops=true)
  {p n:Nat} (hpn:p+n≤as.length) (hw1:waits (befs ops.toList []) (p+n)=true)
  (hap:∀ x y oi oj,x < n→y < n→as[p+x]? = some oi→as[p+y]? = some oj→apart (befs ops.toList []) (p+x) (p+y) oi oj=true)
  (S:Nat→Slots) (r:Nat→Slot) (b2:S 0=s) (text:∀ x o',x < n→as[p+x]? = some o'→S (x+1)=a8 o'.dst (r x) (S x)∧(∀ cs,r x ≠ .var cs)∧∀ d,o'.dst=some d→isVar (S x) d=false)
  (Inv:(Nat→Bool)→Slots→Act→World→Prop)
  (hstep:∀ (L:Nat→Bool) (sD:Slots) (a:Act) (w:World) (x:Nat) (o:Oper) (o':AOper),x < n→ops[p+x]? = some o→as[p+x]? = some o'→ng E nt ops (locs.contains (p+x)) o=some o'→L x=false →
   (∀ y,y < n→((befs ops.toList []).getD (p+x) 0).testBit (p+y)=true→L y=true)→(∀ y,y < n→L y=true→((befs ops.toList []).getD (p+y) 0).testBit (p+x)=false)→Agree (S x) sD o'.reads→Inv L sD a w →
   ∀ (next:Act→World→Prop),(∀ a' w',Inv (fun y=>y == x || L y) (a8 o'.dst (r x) sD) a' w'→next a' w')→if Region.wanted o (yielded ops a.tmps) then o.wpIn (F0 ro) 0 E.P a w next Q else next (a.put o.dst Go.undef) w)
  (hk:∀ listed' sD a' w',Exact ops listed' (p+n)→(∀ t,sget sD t=sget (S n) t)→Inv (fun x=>decide (x < n)) sD a' w'→wpAnyIn (F0 ro) 0 E.P .any ops Q (ops.size - (p+n)) listed' a' w') :
  ∀ listed a w,Exact ops listed p→Inv (fun _=>false) s a w→wpAnyIn (F0 ro) 0 E.P .any ops Q (ops.size - p) listed a w:=by
 obtain ⟨q1,q2⟩:=mb _ _ _ has;simp only [ig] at q1;have hchain:=og (ops:=ops) ops.toList [] (by simp) (fun k i hk=>by simp at hk);have hblen:=lr ops.toList [];simp only [bf,dk,ig] at hblen
 have opat:∀ x,x < n→∃ o o',ops[p+x]? = some o∧as[p+x]? = some o'∧ng E nt ops (locs.contains (p+x)) o=some o':=by
  intro x hx;have hlt:p+x < ops.size:=by omega
  obtain ⟨o',h2,h3⟩:=q2 (p+x) ops[p+x] (by simp [hlt]);exact ⟨ops[p+x],o',by simp [hlt],h2,by simpa using h3⟩
 have dst_ne:∀ x y oi oj d,x < n→y < n→x≠y→as[p+x]? = some oi→as[p+y]? = some oj→oj.dst=some d→oi.dst≠some d:=by
  intro x y oi oj d hx hy hne hi hj hd e;have:=hap x y oi oj hx hy hi hj;unfold apart at this;rw [hd] at this;simp only [av,ep,beq_iff_eq,bne_iff_ne] at this;rcases this.1 with h2 | h2
  ·omega
  ·exact h2 e
 have text_hit:∀ x y o d,x≤n→y < x→as[p+y]? = some o→o.dst=some d→sget (S x) d=some (r y):=by
  intro x;induction x with
  | zero=>intro y o d _ hy; omega
  | succ x ih =>
   intro y o d hx hy ho hd;obtain ⟨_,o',_,ho',_⟩:=opat x (by omega);obtain ⟨t2,_,_⟩:=text x o' (by omega) ho';rw [t2,fg];by_cases e:y=x
   ·subst e; rw [ho] at ho'; cases ho'; rw [if_pos hd]
   ·rw [if_neg (dst_ne x y o' o d (by omega) (by omega) (fun e'=>e e'.symm) ho' ho hd)];exact ih y o d (by omega) (by omega) ho hd
 have text_miss:∀ x t,x≤n→(∀ y o,y < x→as[p+y]? = some o→o.dst≠some t)→sget (S x) t=sget s t:=by
  intro x;induction x with
  | zero=>intro t _ _; rw [b2]
  | succ x ih =>
   intro t hx hno;obtain ⟨_,o',_,ho',_⟩:=opat x (by omega);obtain ⟨t2,_,_⟩:=text x o' (by omega) ho';rw [t2,fg,if_neg (hno x o' (by omega) ho')];exact ih t (by omega) fun y o hy=>hno y o (by omega)
 have dst_novar:∀ x o d cs,x < n→as[p+x]? = some o→o.dst=some d→sget s d≠some (.var cs):=by
  intro x o d cs hx ho hd hv;obtain ⟨_,_,t4⟩:=text x o hx ho;have h2:=t4 d hd;have h3:sget (S x) d=sget s d:=text_miss x d (by omega) fun y o2 hy ho2=>dst_ne y x o2 o d (by omega) hx (by omega) ho2 ho hd
  unfold isVar at h2;rw [h3,hv] at h2;simp at h2
 have main:∀ (k:Nat) (listed:Array Bool) (sD:Slots) (a:Act) (w:World),listed.size=ops.size→Down ops listed→(∀ i,i < p→listed[i]? = some true)→(∀ i,p+n≤i→i < ops.size→listed[i]? = some false) →
   ((List.range n).filter fun x=>listed[p+x]? == some false).length=k →
   (∀ x o d,x < n→as[p+x]? = some o→listed[p+x]? = some true→o.dst=some d→sget sD d=some (r x)) →
   (∀ t,(∀ x o,x < n→as[p+x]? = some o→listed[p+x]? = some true→o.dst≠some t)→sget sD t=sget s t) →
   Inv (Ld listed p n) sD a w→wpAnyIn (F0 ro) 0 E.P .any ops Q (ops.size - (p+n)+k) listed a w:=by
  intro k;induction k with
  | zero =>
   intro listed sD a w hsz hdn hlow hhigh hcount hhit hmiss hat
   have hall:∀ x,x < n→listed[p+x]? = some true:=by
    intro x hx;have hlt:p+x < listed.size:=by omega
    have hmem:x ∉ (List.range n).filter fun x=>listed[p+x]? == some false:=by rw [bq hcount]; simp
    rw [ju] at hmem;have h2:¬ (listed[p+x]? = some false):=fun h2=>hmem ⟨eh.2 hx,by simp [h2]⟩
    rw [j9 hlt] at h2 ⊢;cases hv:listed[p+x] with
    | true=>rfl
    | false=>rw [hv] at h2; exact absurd rfl h2
   have hex:Exact ops listed (p+n):=by
    refine ⟨hsz,fun i hi=>?_⟩;rcases bi i p with h2 | h2
    ·rw [hlow i h2]; simp; omega
    ·rcases bi i (p+n) with h3 | h3
     ·have:=hall (i - p) (by omega);rw [show p+(i - p)=i by omega] at this;rw [this]; simp [h3]
     ·rw [hhigh i h3 hi]; simp; omega
   have hLd:Ld listed p n=fun x=>decide (x < n):=by
    funext x
    unfold Ld;by_cases hx:x < n
    ·rw [hall x hx]; simp [hx]
    ·simp [hx]
   rw [hLd] at hat;refine hk listed sD a w hex (fun t=>?_) hat;by_cases hx:∃ x o,x < n∧as[p+x]? = some o∧o.dst=some t
   ·obtain ⟨x,o,h2,h3,h4⟩:=hx;rw [text_hit n x o t (ai _) h2 h3 h4,hhit x o t h2 h3 (hall x h2) h4]
   ·have hno:∀ x o,x < n→as[p+x]? = some o→o.dst≠some t:=fun x o h2 h3 h4=>hx ⟨x,o,h2,h3,h4⟩
    rw [text_miss n t (ai _) hno,hmiss t fun x o h2 h3 _=>hno x o h2 h3]
  | succ k ih =>
   intro listed sD a w hsz hdn hlow hhigh hcount hhit hmiss hat
   have hsome:∃ x,x < n∧listed[p+x]? = some false:=by
    have hne:(List.range n).filter (fun x=>listed[p+x]? == some false)≠[]:=fun e=>by rw [e] at hcount; simp at hcount
    obtain ⟨x,hx⟩:=List.exists_mem_of_ne_nil _ hne;rw [ju,eh] at hx;exact ⟨x,hx.1,by simpa using hx.2⟩
   obtain ⟨xu,hxu,hxf⟩:=hsome;refine ⟨fun hr=>?_,fun i hi=>?_⟩
   ·have:=sg hb hsz hr (p+xu) (by omega);rw [hxf] at this; cases this
   ·obtain ⟨oi,k1,k2,k3⟩:=qy hsz hi;have his:i < ops.size:=aj (l:=ops.toList) (by simpa using k1)
    have hip:p≤i:=by
     rcases bi i p with h2 | h2
     ·rw [hlow i h2] at k2; cases k2
     ·exact h2
    have hin:i < p+n:=by
     rcases bi i (p+n) with h2 | h2
     ·exact h2
     ·exfalso;have hbit:=w9 hw1 (j:=i) (i:=p+xu) (by rw [hblen]; exact his) h2 (by omega);have hl:=jk hdn (hchain _ _ hbit) fun o e ho he hbb=>by rw [k1] at ho; cases ho; exact k3 e he hbb
      rw [hxf] at hl; cases hl
    obtain ⟨x,rfl⟩:∃ x,i=p+x:=⟨i - p,by omega⟩;have hxn:x < n:=by omega
    obtain ⟨o,o',h2,h3,h4⟩:=opat x hxn;rw [h2] at k1; cases k1;obtain ⟨t2,t3,t4⟩:=text x o' hxn h3
    have waitsl:∀ j,(((befs ops.toList []).getD (p+x) 0).testBit j=true)→listed[j]? = some true:=fun j hbit =>
     jk hdn (hchain _ _ hbit) fun o2 e ho he hbb=>by rw [h2] at ho; cases ho; exact k3 e he hbb
    have hag:Agree (S x) sD o'.reads:=by
     refine Agree.of ?_ ?_
     ·intro t ht;by_cases hy:∃ y oj,y < n∧as[p+y]? = some oj∧oj.dst=some t
      ·obtain ⟨y,oj,hy1,hy2,hy3⟩:=hy;have others:∀ z oz,z < n→z≠y→as[p+z]? = some oz→oz.dst≠some t:=fun z oz hz hne hoz=>dst_ne z y oz oj t hz hy1 hne hoz hy2 hy3
       by_cases hxy:y=x
       ·-- its own slot
        subst hxy;rw [text_miss y t (by omega) fun z oz hz hoz=>others z oz (by omega) (by omega) hoz]
        rw [hmiss t fun z oz hz hoz hl=>by
         by_cases e:z=y
         ·subst e; rw [k2] at hl; cases hl
         ·exact others z oz hz e hoz]
       ·have:=hap x y o' oj hxn hy1 h3 hy2;unfold apart at this;rw [hy3] at this;simp only [av,ep,beq_iff_eq,gb,List.contains_eq_mem,decide_eq_false_iff_not,decide_eq_true_eq] at this;rcases this.2 with ((h5 | h5) | h5) | h5
        ·omega
        ·exact absurd ht h5
        ·obtain ⟨h5,h6⟩:=h5;rw [text_hit x y oj t (by omega) (by omega) hy2 hy3,hhit y oj t hy1 hy2 (waitsl _ h6) hy3]
        ·obtain ⟨h5,h6⟩:=h5
         have hnl:listed[p+y]?≠some true:=by
          intro hl;have:=jk hdn (hchain _ _ h6) fun o2 e ho he hbb=>hdn _ _ _ hl ho he hbb
          rw [k2] at this; cases this
         rw [text_miss x t (by omega) fun z oz hz hoz=>others z oz (by omega) (by omega) hoz]
         rw [hmiss t fun z oz hz hoz hl=>by
          by_cases e:z=y
          ·subst e; exact absurd hl hnl
          ·exact others z oz hz e hoz]
      ·have hno:∀ z oz,z < n→as[p+z]? = some oz→oz.dst≠some t:=fun z oz hz hoz hd=>hy ⟨z,oz,hz,hoz,hd⟩
       rw [text_miss x t (by omega) fun z oz hz hoz=>hno z oz (by omega) hoz,hmiss t fun z oz hz hoz _=>hno z oz hz hoz]
     ·intro t cs
      have v1:sget (S x) t=some (.var cs) ↔ sget s t=some (.var cs):=by
       by_cases hy:∃ y oj,y < x∧as[p+y]? = some oj∧oj.dst=some t
       ·obtain ⟨y,oj,hy1,hy2,hy3⟩:=hy;rw [text_hit x y oj t (by omega) hy1 hy2 hy3];constructor
        ·intro e; exact absurd (dg e) ((text y oj (by omega) hy2).2.1 cs)
        ·intro e; exact absurd e (dst_novar y oj t cs (by omega) hy2 hy3)
       ·rw [text_miss x t (by omega) fun z oz hz hoz hd=>hy ⟨z,oz,hz,hoz,hd⟩]
      have v2:sget sD t=some (.var cs) ↔ sget s t=some (.var cs):=by
       by_cases hy:∃ y oj,y < n∧as[p+y]? = some oj∧listed[p+y]? = some true∧oj.dst=some t
       ·obtain ⟨y,oj,hy1,hy2,hyl,hy3⟩:=hy;rw [hhit y oj t hy1 hy2 hyl hy3];constructor
        ·intro e; exact absurd (dg e) ((text y oj hy1 hy2).2.1 cs)
        ·intro e; exact absurd e (dst_novar y oj t cs hy1 hy2 hy3)
       ·rw [hmiss t fun z oz hz hoz hl hd=>hy ⟨z,oz,hz,hoz,hl,hd⟩]
      exact v1.trans v2.symm
    have hLx:Ld listed p n x=false:=by unfold Ld; rw [k2]; simp
    refine zaa h2 (hstep (Ld listed p n) sD a w x _ o' hxn h2 h3 h4 hLx (fun y hy hbit=>?_) (fun y hy hl=>?_) hag hat _ fun a' w' hat'=>?_)
    ·unfold Ld; rw [waitsl _ hbit]; simp [hy]
    ·have hl':listed[p+y]? = some true:=by unfold Ld at hl; simpa [hy] using hl
     cases hbit:((befs ops.toList []).getD (p+y) 0).testBit (p+x) with
     | false=>rfl
     | true =>
      exfalso;have:=jk hdn (hchain _ _ hbit) fun o2 e ho he hbb=>hdn _ _ _ hl' ho he hbb
      rw [k2] at this; cases this
    have hset:∀ j,j≠p+x→(listed.setIfInBounds (p+x) true)[j]? = listed[j]?:=fun j hj=>dx (fun e=>hj e.symm)
    have hself:(listed.setIfInBounds (p+x) true)[p+x]? = some true:=by simp [hsz,his]
    have hLd':(fun y=>y == x || Ld listed p n y)=Ld (listed.setIfInBounds (p+x) true) p n:=by
     funext y
     unfold Ld;by_cases ey:y=x
     ·subst ey; rw [hself]; simp [hxn]
     ·rw [hset (p+y) (by omega)]; simp [ey]
    rw [hLd'] at hat';refine ih (listed.setIfInBounds (p+x) true) (a8 o'.dst (r x) sD) a' w' (by simp [hsz]) ?_ ?_ ?_ ?_ ?_ ?_ hat'
    ·intro j oj e hj hoj he hbb;by_cases ej:j=p+x
     ·subst ej;rw [h2] at hoj; cases hoj;have:=k3 e he hbb;by_cases ee:e.on=p+x
      ·rw [ee]; exact hself
      ·rw [hset _ ee]; exact this
     ·rw [hset _ ej] at hj;have:=hdn j oj e hj hoj he hbb;by_cases ee:e.on=p+x
      ·rw [ee]; exact hself
      ·rw [hset _ ee]; exact this
    ·intro j hj; rw [hset j (by omega)]; exact hlow j hj
    ·intro j hj hj'; rw [hset j (by omega)]; exact hhigh j hj hj'
    ·-- one less is to come
     have hperm:((List.range n).filter fun y=>(listed.setIfInBounds (p+x) true)[p+y]? == some false)=((List.range n).filter fun y=>listed[p+y]? == some false).filter fun y=>y != x:=by
      rw [List.filter_filter];apply List.filter_congr;intro y _;by_cases ey:y=x
      ·subst ey; rw [hself]; simp
      ·rw [hset _ (by omega)]; simp [ey]
     rw [hperm]
     have hmem:x ∈ (List.range n).filter fun y=>listed[p+y]? == some false:=by rw [ju]; exact ⟨eh.2 hxn,by simp [k2]⟩
     have hnd:((List.range n).filter fun y=>listed[p+y]? == some false).Nodup:=List.nodup_range.sublist List.filter_sublist;generalize (List.range n).filter (fun y=>listed[p+y]? == some false)=L at hcount hmem hnd;have herase:L.filter (fun y=>y != x)=L.erase x:=(hnd.erase_eq_filter x).symm;rw [herase,List.length_erase_of_mem hmem,hcount];rfl
    ·intro y oy d hy hoy hl hd;rw [fg];by_cases ey:y=x
     ·subst ey; rw [h3] at hoy; cases hoy;rw [if_pos hd]
     ·rw [hset _ (by omega)] at hl;rw [if_neg (dst_ne x y o' oy d hxn hy (fun e=>ey e.symm) h3 hoy hd)];exact hhit y oy d hy hoy hl hd
    ·intro t hno;rw [fg,if_neg (hno x o' hxn h3 hself)];refine hmiss t fun y oy hy hoy hl=>?_
     by_cases ey:y=x
     ·subst ey; rw [k2] at hl; cases hl
     ·exact hno y oy hy hoy (by rw [hset _ (by omega)]; exact hl)
 intro listed a w hex hat
 have hcount:((List.range n).filter fun x=>listed[p+x]? == some false).length=n:=by
  have:(List.range n).filter (fun x=>listed[p+x]? == some false)=List.range n:=by rw [List.filter_eq_self];intro x hx;rw [eh] at hx;rw [hex.2 (p+x) (by omega)];simp
  rw [this,List.length_range]
 have hL0:Ld listed p n=fun _=>false:=by
  funext x
  unfold Ld;by_cases hx:x < n
  ·rw [hex.2 (p+x) (by omega)]; simp
  ·simp [hx]
 rw [← hL0] at hat
 have:=main n listed s a w hex.1 (hex.down hb) (fun i hi=>by rw [hex.2 i (by omega)]; simp [hi]) (fun i hi hi'=>by rw [hex.2 i hi']; simp; omega) hcount
  (fun x o d hx ho hl _=>by have h5:=hex.2 (p+x) (by omega);rw [hl] at h5;have h6:=of_decide_eq_true (dg h5).symm;omega) (fun t _=>rfl) hat
 rwa [show ops.size - (p+n)+n=ops.size - p by omega] at this
end
end Go.Abs

namespace Go.Abs
section
variable {E:Env} {lo nt:Nat} {ν:Fr} {μ:MM} {s:Slots} {h:Heap} {a:Act} {w:World} {call:CallSem} {ro:Option Nat} {ops:Array Oper}
theorem cOp_call {loc:Bool} {o:Oper} {ao:AOp} (hao:cOp E loc o.op=some ao) (hcl:(∃ f as,ao = .call f as)∨(∃ g as,ao = .callg g as)):∃ c,o.op = .call c∧cCall E c=some ao:=by
  cases ho:o.op with
  | call c=>exact ⟨c,rfl,by rw [ho] at hao; simpa only [cOp] using hao⟩
  | makeFunc fn x1 x2 =>
    rw [ho] at hao;exfalso;cases fn <;> simp only [cOp] at hao <;> (try (cases hao; done))
    rcases hcl with ⟨f,as,rfl⟩ | ⟨g,as,rfl⟩ <;> (split at hao <;> cases hao)
  | makeMap t hint =>
    rw [ho] at hao;exfalso
    rcases hcl with ⟨f,as,rfl⟩ | ⟨g,as,rfl⟩ <;>
      (cases hint with
       | none=>simp [cOp] at hao
       | some y =>
         cases y with
         | const v=>cases v <;> simp only [cOp] at hao <;> first | (cases hao; done) | (split at hao <;> cases hao)
         | _=>simp [cOp] at hao)
  | _ =>
    rw [ho] at hao;exfalso
    rcases hcl with ⟨f,as,rfl⟩ | ⟨g,as,rfl⟩ <;>
      (simp only [cOp,cBin,cConv,cEq] at hao
       repeat' split at hao
       all_goals first
         | (cases hao; done)
         | (rw [ae] at hao; obtain ⟨_,_,hao⟩:=hao; first | (cases hao; done) | (split at hao <;> cases hao)))
def SlotIs (E:Env) (μ:MM) (x:Slot) (v:Value):Prop:=(x = .undef∧v=Go.undef)∨∃ u,x = .val u∧VRel E μ u v
theorem call_step (hc:CallOK E call) (hg:GidOK E) {loc:Bool} {o:Oper} {o':AOper} {s':Slots} {h':Heap} (hop:ng E nt ops loc o=some o') (hcl:o'.op.isCall=true) (hev:ew call o' s h=some (s',h'))
    (k3:FRel E lo ν μ (sget s) a.tmps w) (k2:Rel E μ h w) {next:Act→World→Prop} {Q:Exit→Act→World→Prop}
    (hn:∀ x v w' μ',s'=a8 o'.dst x s→SlotIs E μ' x v→Step (fun _=>False) h'.wmin μ w μ' w'→Rel E μ' h' w'→next (a.put o.dst v) w') :
    if Region.wanted o (yielded ops a.tmps) then o.wpIn (F0 ro) 0 E.P a w next Q else next (a.put o.dst Go.undef) w:=by
  unfold ng at hop;split at hop;case isFalse=>cases hop
  rename_i hh
  have run:o'.dst=o.dst→o'.op=cOpS E loc o.op→evRun call o' s h=some (s',h')→o.wpIn (F0 ro) 0 E.P a w next Q:=by
    intro e1 e0 hev
    have ho2:∃ ao,cOp E loc o.op=some ao∧o'.op=ao:=by
      cases hco:cOp E loc o.op with
      | some ao=>exact ⟨ao,rfl,by rw [e0,cOpS,hco]⟩
      | none=>rw [e0,cOpS,hco] at hcl; simp [AOp.isCall] at hcl
    obtain ⟨ao,hao,e2⟩:=ho2;rw [e2] at hcl
    have hcl2:(∃ f as,ao = .call f as)∨(∃ g as,ao = .callg g as):=by
      cases ao <;> simp only [AOp.isCall,am] at hcl
      · exact .inl ⟨_,_,rfl⟩
      · exact .inr ⟨_,_,rfl⟩
    unfold evRun at hev;rw [e2] at hev;split at hev;case h_2=>cases hev
    rename_i x s1 h1 hop1;injection hev with hev;injection hev with hev1 hev2;subst hev2;have hnd:∀ c,o.op ≠ .defer c:=fun c hc'=>by rw [hc'] at hao; simp [cOp] at hao
    refine ⟨fun _ _=>trivial,?_⟩;rw [Oper.semAt_eq _ _ _ hnd]
    have ends:∀ (v:AVal) (e:Ending) (w':World),Ends E μ w v h1 e w'→x = .val v→s1=s→(match e with | .returned v=>next (a.put o.dst v) w' | .panicked chain=>Q (.panic chain) a w' | .outgrown=>LetsOut Q):=by rintro v e w' ⟨v',μ',rfl,j1,j2,j3⟩ hx hs;subst hx; subst hs;exact hn _ _ _ μ' hev1.symm (.inr ⟨v,rfl,j2⟩) j1 j3
    have callcase:∀ (g:Nat) (f:FuncId) (as:List AVal) (args':Array Value) (v:AVal),call g as h=some (v,h1)→E.gid f=some g→VRels E μ as args'.toList →
        (execOp a.eval o).run E.P w = .ok (.enter f args') w→x = .val v→s1=s→o.uponIn (F0 ro) 0 E.P a next Q ((execOp a.eval o).run E.P w):=by
      intro g f as args' v hcall hgf hargs hrun hx hs;rw [hrun,Oper.uponIn_enter];refine ⟨fun hh=>by simp [F0,Fence.wide] at hh,?_⟩
      exact CallsIn.mono (F:=F0 ro) (n:=0) (hc.fn g as h v h1 hcall f hgf μ w args' hargs k2) fun e w' he=>by have:=ends v e w' he hx hs;cases e <;> exact this
    have roundcase:∀ (g i:Nat) (as:List AVal) (args':Array Value) (v:AVal) (st:LoopSt) (p:Option AExit) (sl:List (Nat × AVal)),call g (.ptr (some (i,0)) :: as) h=some (v,h1)→h.get i=some (.loop g st p sl)→VRels E μ as args'.toList →
        (∀ (m:M),μ[i]? = some (some m)→(execOp a.eval o).run E.P w=(Instr.yield m.blk args').run E.P w)→x = .val v→s1=s→o.uponIn (F0 ro) 0 E.P a next Q ((execOp a.eval o).run E.P w):=by
      intro g i as args' v st p sl hcall hgi hargs hrun hx hs;obtain ⟨m,r,q1,q2,q3,q4⟩:=hc.round g i 0 as h v h1 st p sl hcall hgi μ w args' hargs k2;rw [hrun m q1,run_yield q2 q3,Oper.uponIn_round];refine ⟨fun hh=>by simp [F0,Fence.wide] at hh,?_⟩
      exact RoundIn.mono (F:=F0 ro) (n:=0) q4 fun e w' he=>by have:=ends v e w' he hx hs;cases e <;> exact this
    obtain ⟨c,hcop,hcc⟩:=cOp_call hao hcl2;have hcl:=hcl2;unfold cCall at hcc;split at hcc
    · rename_i f hcal
      split at hcc
      case h_2 =>
        exfalso;rw [ae] at hcc;obtain ⟨_,_,hcc⟩:=hcc;rcases hcl with ⟨f,as,rfl⟩ | ⟨g,as,rfl⟩ <;> cases hcc
      case h_3=>cases hcc
      rename_i g as hgf has;cases hcc;simp only [dm] at hop1;split at hop1;case h_2=>cases hop1
      rename_i vs hvs;rw [ae] at hop1;obtain ⟨⟨v,h2⟩,hcall,hop1⟩:=hop1;cases hop1;have hargs:=lh k3 has hvs;refine callcase g f vs (c.args.map a.eval) v hcall hgf (by simpa using hargs) ?_ rfl rfl;have:=lm hg hgf (c.args.map a.eval) w;simp [execOp,hcop,resolve,hcal,Act.eval,Deferred.ofValue,invoke,this]
    · rename_i y hne hcal
      split at hcc;case h_2=>cases hcc
      rename_i y' as hy has;cases hcc;simp only [dm] at hop1;split at hop1
      · rename_i g first caps vs hyv hvs
        rw [ae] at hop1;obtain ⟨⟨v,h2⟩,hcall,hop1⟩:=hop1;cases hop1;have hargs:=lh k3 has hvs;have hfv:=df k3 hy hyv;simp only [VRel] at hfv;obtain ⟨fid,f',c',q1,q2,q3,q4⟩:=hfv;refine callcase g fid (first++vs++caps) (f'++c.args.map a.eval++c') v hcall q2 ?_ ?_ rfl rfl
        · simpa using (q3.append hargs).append q4
        · have:=lm hg q2 (f'++(c.args.map a.eval++c')) w
          simp [execOp,hcop,resolve,hcal,q1,Deferred.ofValue,invoke,this]
      · rename_i i vs hyv hvs
        split at hop1;case h_2=>cases hop1
        rename_i g st p sl hgi;rw [ae] at hop1;obtain ⟨⟨v,h2⟩,hcall,hop1⟩:=hop1;cases hop1;have hargs:=lh k3 has hvs;have hfv:=df k3 hy hyv;simp only [VRel] at hfv;obtain ⟨l,xx,q1,q2,q3⟩:=hfv;refine roundcase g i vs (c.args.map a.eval) v st p sl hcall hgi (by simpa using hargs) (fun m hm=>?_) rfl rfl;rw [hm] at q2; cases q2;have:=q3 m rfl; subst this;simp [execOp,hcop,resolve,hcal,q1,Deferred.ofValue,invoke]
      · cases hop1
    · -- a built-in is no call
      exfalso
      rcases hcl with ⟨f,as,rfl⟩ | ⟨g,as,rfl⟩ <;>
        (repeat' split at hcc
         all_goals first
           | (cases hcc; done)
           | (rw [ae] at hcc; obtain ⟨_,_,hcc⟩:=hcc; cases hcc))
    · cases hcc
  unfold ew at hev;split at hop
  · rename_i hg0
    cases hop;simp only at hev;have:Region.wanted o (yielded ops a.tmps)=true:=by simp [Region.wanted,hg0]
    rw [if_pos this];exact run rfl rfl hev
  · rename_i j want hg0
    split at hop;case h_2=>cases hop
    rename_i d hdj;cases hop;simp only at hev;split at hev
    · rename_i b hb
      obtain ⟨v',hv,hr⟩:=k3.val d _ hb;simp only [VRel] at hr; subst hr;have hy:yielded ops a.tmps j=some b:=by simp [yielded,hdj,hv]
      have hw:Region.wanted o (yielded ops a.tmps)=(b == want):=by simp [Region.wanted,hg0,hy]
      split at hev
      · rename_i hbw
        rw [if_pos (by rw [hw]; simpa using hbw)];exact run rfl rfl hev
      · rename_i hbw
        cases hev;rw [if_neg (by rw [hw]; simpa using hbw)];exact hn _ _ _ μ rfl (.inl ⟨rfl,rfl⟩) (Step.refl _ _ _ _) k2
    · rename_i hb
      cases hev;have hv:=k3.undef d hb;have hy:yielded ops a.tmps j=none:=by simp [yielded,hdj,hv,Go.undef]
      have hw:Region.wanted o (yielded ops a.tmps)=false:=by simp [Region.wanted,hg0,hy]
      rw [if_neg (by simp [hw])];exact hn _ _ _ μ rfl (.inl ⟨rfl,rfl⟩) (Step.refl _ _ _ _) k2
    · cases hev
end
end Go.Abs

namespace Go.Abs
section
variable {call:CallSem} {n0:Nat}
def dsl (D:Nat→Did) (x:Nat):List Did:=(List.range x).map D
theorem rz {D:Nat→Did} {x y:Nat} (h:y < x):(dsl D x)[y]? = some (D y):=by simp [dsl,h]
theorem zav (D:Nat→Did) (x:Nat):(dsl D x).length=x:=by simp [dsl]
theorem open_text:∀ (seg:List AOper) (ms:List Nat) (ds:List Did) (s s1:Slots) (h h1:Heap),jb call n0 ms seg ds s h=some (s1,h1) →
  ∃ (S:Nat→Slots) (H:Nat→Heap) (r:Nat→Slot) (D:Nat→Did),S 0=s∧H 0=h∧S seg.length=s1∧H seg.length=h1 ∧
   ∀ (x:Nat) (o:AOper),seg[x]? = some o→lg call n0 (ms.getD x 0) (ds++dsl D x) o (S x) (H x)=some (r x,H (x+1),D x)∧S (x+1)=a8 o.dst (r x) (S x) ∧
    (∀ d,o.dst=some d→isVar (S x) d=false)∧jy (H (x+1)) (ms.getD x 0) (D x) 0 (ds++dsl D x)=true
 | [],ms,ds,s,s1,h,h1,e=>by simp only [jb] at e; cases e;exact ⟨fun _=>s,fun _=>h,fun _=>.undef,fun _=>⟨false,[],none,none,0,0,none⟩,rfl,rfl,rfl,rfl,fun x o hx=>by simp at hx⟩
 | o :: seg,ms,ds,s,s1,h,h1,e=>by
  simp only [jb] at e;split at e;case h_2=>cases e
  rename_i y h2 d he;split at e;case isFalse=>cases e
  rename_i hh;obtain ⟨a1,a2⟩:=hh;obtain ⟨S,H,r,D,b1,b2,b3,b4,b5⟩:=open_text seg ms.tail (ds++[d]) _ s1 h2 h1 e;have hm0:ms.headD 0=ms.getD 0 0:=by cases ms <;> rfl
  refine ⟨fun x=>match x with | 0=>s | x+1=>S x,fun x=>match x with | 0=>h | x+1=>H x,fun x=>match x with | 0=>y | x+1=>r x,fun x=>match x with | 0=>d | x+1=>D x,
   rfl,rfl,by simpa using b3,by simpa using b4,fun x o1 hx=>?_⟩
  cases x with
  | zero =>
   simp at hx; subst hx;rw [← hm0];refine ⟨by simp only [b2,dsl]; simpa using he,by simp only [b1],fun d hd=>?_,by simpa [dsl,b2] using a2⟩;rw [hd] at a1;simpa using a1
  | succ x =>
   simp at hx;have h3:=b5 x o1 hx
   have e1:ds++[d]++dsl D x=ds++dsl (fun x=>match x with | 0=>d | x+1=>D x) (x+1):=by rw [ba];congr 1;simp only [dsl,List.range_succ_eq_map,cf,List.map_map,List.singleton_append];rfl
   have e2:ms.tail.getD x 0=ms.getD (x+1) 0:=by cases ms <;> simp
   rw [e1,e2] at h3;exact h3
structure OneCall (call:CallSem) (n0 m:Nat) (ds:List Did) (o:AOper) (s:Slots) (h:Heap) (y:Slot) (h':Heap) (d:Did):Prop where
 isc:o.op.isCall=true
 run:∃ s1 g,ew call o s ⟨hide m 0 ds h.objs,h.base,h.size⟩=some (s1,g)∧y=gr o.dst s1∧h'.size=g.size ∧
  ((allSeen m 0 ds=true∧g.wmin < h.size∧d.wr=some (g.wmin,h.objs,g.objs)∧h'=⟨g.objs,h.base,min h.wmin g.wmin⟩)∨(allSeen m 0 ds=true∧h.size≤g.wmin∧d.wr=none∧h'=⟨g.objs,h.base,h.wmin⟩) ∨
   (h.size≤g.wmin∧d.wr=none∧(∀ i ∈ y.ids++(g.objs.drop h.size).flatMap AObj.ids,okId n0 m ds i=true∨h.size≤i)∧h'=⟨h.objs++g.objs.drop h.size,h.base,h.wmin⟩))
 did:d.isCall=true∧d.rd=[]∧d.ch=none
 ld:d.ld=none
structure OneSoft (n0 m:Nat) (ds:List Did) (o:AOper) (s:Slots) (h:Heap) (y:Slot) (h':Heap) (d:Did):Prop where
 isc:o.op.isCall=false
 run:∃ s1 g,ew noCall o s ⟨h.objs,h.base,h.size⟩=some (s1,g)∧y=gr o.dst s1 ∧
  ((g.size=h.size∧g.wmin=h.size∧(∀ i ∈ y.ids,okId n0 m ds i=true)∧h'=h∧d.ch=none) ∨
   (∃ ob,g.size=h.size∧g.wmin < h.size∧g.objs[g.wmin]? = some ob∧(∀ i ∈ y.ids++ob.ids,okId n0 m ds i=true)∧d.ch=some g.wmin∧h'=⟨g.objs,h.base,min h.wmin g.wmin⟩) ∨
   (∃ ob,g.size=h.size+1∧g.objs[h.size]? = some ob∧(∀ i ∈ ob.ids,okId n0 m ds i=true)∧((g.wmin=h.size∧d.ch=none∧h'=⟨g.objs,h.base,h.wmin⟩)∨(g.wmin≠h.size∧d.ch=some g.wmin∧h'=⟨g.objs,h.base,min h.wmin g.wmin⟩))))
 did:d.isCall=false∧d.rd=gm o.op s∧d.wr=none
 ld:d.ld=ldOf o s y
theorem openOne_spec (hev0:CallEvol call) {m:Nat} {ds:List Did} {o:AOper} {s:Slots} {h:Heap} {y:Slot} {h':Heap} {d:Did} (e:lg call n0 m ds o s h=some (y,h',d)) :
  ((∀ t ∈ o.reads,∀ i ∈ slotIds s t,okId n0 m ds i=true)∧∀ i ∈ gm o.op s,okId n0 m ds i=true)∧d.lo=h.size∧d.hi=h'.size∧h'.base=h.base∧(OneCall call n0 m ds o s h y h' d∨OneSoft n0 m ds o s h y h' d):=by
 unfold lg at e;split at e
 ·cases e
 rename_i hr
 have hr':(∀ t ∈ o.reads,∀ i ∈ slotIds s t,okId n0 m ds i=true)∧∀ i ∈ gm o.op s,okId n0 m ds i=true:=by simp only [Bool.not_eq_false,al,eu,bp] at hr;exact ⟨fun t ht i hi=>hr i (.inl ⟨t,ht,hi⟩),fun i hi=>hr i (.inr hi)⟩
 refine ⟨hr',?_⟩;split at e
 ·rename_i hc;split at e
  ·cases e
  rename_i s1 g he;simp only at e;split at e
  ·rename_i hw;split at e
   ·rename_i hall;cases e;exact ⟨rfl,rfl,rfl,.inl ⟨hc,⟨s1,g,he,rfl,rfl,.inl ⟨hall,hw,rfl,rfl⟩⟩,⟨rfl,rfl,rfl⟩,rfl⟩⟩
   ·cases e
  ·rename_i hw;split at e
   ·rename_i hall;cases e;exact ⟨rfl,rfl,rfl,.inl ⟨hc,⟨s1,g,he,rfl,rfl,.inr (.inl ⟨hall,by omega,rfl,rfl⟩)⟩,⟨rfl,rfl,rfl⟩,rfl⟩⟩
   ·split at e
    ·rename_i hids;cases e;rw [al] at hids
     have hge:h.size≤g.size:=by have:=(nd hev0 he).size;simp only [Heap.size,kz] at this;exact this
     have hsz:({ objs:=h.objs++List.drop h.size g.objs,base:=h.base,wmin:=h.wmin }:Heap).size=g.size:=by simp only [Heap.size,aq,gh] at hge ⊢; omega
     refine ⟨rfl,hsz.symm,rfl,.inl ⟨hc,⟨s1,g,he,rfl,hsz,.inr (.inr ⟨by omega,rfl,fun i hi=>?_,rfl⟩)⟩,⟨rfl,rfl,rfl⟩,rfl⟩⟩;have:=hids i hi;simpa using this
    ·cases e
 ·rename_i hc;have hc:o.op.isCall=false:=by simpa using hc
  split at e
  ·cases e
  rename_i s1 g he;simp only at e;split at e
  ·rename_i hsz;split at e
   ·rename_i hlt;split at e
    ·rename_i ob hob;split at e
     ·rename_i hids;cases e;exact ⟨rfl,hsz.symm,rfl,.inr ⟨hc,⟨s1,g,he,rfl,.inr (.inl ⟨ob,hsz,hlt,hob,al.1 hids,rfl,rfl⟩)⟩,⟨rfl,rfl,rfl⟩,rfl⟩⟩
     ·cases e
    ·cases e
   ·split at e
    ·rename_i hw;cases e;exact ⟨rfl,rfl,rfl,.inr ⟨hc,⟨s1,g,he,rfl,.inl ⟨hsz,hw.1,al.1 hw.2,rfl,rfl⟩⟩,⟨rfl,rfl,rfl⟩,rfl⟩⟩
    ·cases e
  ·split at e
   ·rename_i hsz;split at e
    ·rename_i ob hob;split at e
     ·rename_i hids;rw [al] at hids;split at e
      ·rename_i hw;cases e;exact ⟨rfl,hsz.symm,rfl,.inr ⟨hc,⟨s1,g,he,rfl,.inr (.inr ⟨ob,hsz,hob,hids,.inl ⟨hw,rfl,rfl⟩⟩)⟩,⟨rfl,rfl,rfl⟩,rfl⟩⟩
      ·rename_i hw;cases e;exact ⟨rfl,hsz.symm,rfl,.inr ⟨hc,⟨s1,g,he,rfl,.inr (.inr ⟨ob,hsz,hob,hids,.inr ⟨hw,rfl,rfl⟩⟩)⟩,⟨rfl,rfl,rfl⟩,rfl⟩⟩
     ·cases e
    ·cases e
   ·cases e
def touched (D:Nat→Did) (sz:Nat→Nat) (x i:Nat):Prop:=i < sz (x+1)∧(sz x≤i∨(D x).writes i=true)
open Classical in
noncomputable def upd (D:Nat→Did) (sz:Nat→Nat) (H:Nat→Heap) (x i:Nat):Option AObj:=if touched D sz x i then (H (x+1)).objs[i]? else none
noncomputable def mem (D:Nat→Did) (sz:Nat→Nat) (H:Nat→Heap) (L:Nat→Bool):Nat→Nat→AObj
 | 0,i=>((H 0).objs[i]?).getD .dead
 | k+1,i=>if L k then (upd D sz H k i).getD (mem D sz H L k i) else mem D sz H L k i
section
variable {D:Nat→Did} {sz:Nat→Nat} {H:Nat→Heap} {L L':Nat→Bool} {i:Nat}
theorem qm:∀ (k:Nat),(∀ y,y < k→upd D sz H y i≠none→L y=L' y)→mem D sz H L k i=mem D sz H L' k i
 | 0,_=>rfl
 | k+1,h=>by
  have ih:=qm k fun y hy=>h y (by omega)
  simp only [mem];cases hu:upd D sz H k i with
  | none=>simp only [mw,ih,ite_self]
  | some o =>
   have:=h k (by omega) (by rw [hu]; simp);rw [this,ih]
theorem zaw {n:Nat} (hsz:∀ x,sz x=(H x).size) (hmono:∀ x,x < n→sz x≤sz (x+1)) (hun:∀ x i,x < n→i < sz x→(D x).writes i=false→(H (x+1)).objs[i]? = (H x).objs[i]?) :
  ∀ (x:Nat),x≤n→mem D sz H (fun _=>true) x i=((H x).objs[i]?).getD .dead
 | 0,_=>rfl
 | x+1,hx=>by
  simp only [mem,if_true,zaw hsz hmono hun x (by omega)];unfold upd;by_cases ht:touched D sz x i
  ·rw [if_pos ht];cases hq:(H (x+1)).objs[i]? with
   | some o=>rfl
   | none =>
    exfalso;have:=ht.1;rw [hsz] at this;rw [List.getElem?_eq_none_iff] at hq;unfold Heap.size at this;omega
  ·rw [if_neg ht];simp only [mw];by_cases h1:i < sz (x+1)
   ·have h2:i < sz x:=by
     rcases bi i (sz x) with h | h
     ·exact h
     ·exact absurd ⟨h1,.inl h⟩ ht
    have h3:(D x).writes i=false:=by
     cases hw:(D x).writes i with
     | false=>rfl
     | true=>exact absurd ⟨h1,.inr hw⟩ ht
    rw [hun x i (by omega) h2 h3]
   ·have e1:(H (x+1)).objs[i]? = none:=by rw [List.getElem?_eq_none_iff]; have:=hsz (x+1); unfold Heap.size at this; omega
    have e2:(H x).objs[i]? = none:=by rw [List.getElem?_eq_none_iff]; have h5:=hsz x; have:=hmono x (by omega); unfold Heap.size at h5; omega
    rw [e1,e2]
theorem zax (x:Nat):∀ (k:Nat),mem D sz H (fun y=>decide (y < x)) (x+k) i=mem D sz H (fun _=>true) x i
 | 0=>qm x fun y hy _=>decide_eq_true hy
 | k+1=>by rw [← bo];simp only [mem];rw [if_neg (by simp),zax x k]
theorem zay {x n:Nat} {o:AObj} (hx:x < n) (hu:upd D sz H x i=some o) (hno:∀ y,y < n→x < y→L y=true→upd D sz H y i=none):mem D sz H (fun y=>y == x || L y) n i=o:=by
 obtain ⟨k,rfl⟩:∃ k,n=x+1+k:=⟨n - (x+1),by omega⟩;clear hx;induction k with
 | zero=>simp [mem,hu]
 | succ k ih =>
  have ih:=ih fun y hy=>hno y (by omega)
  rw [← bo];simp only [mem];rw [ih];have e1:(x+1+k == x)=false:=by simp; omega
  simp only [e1,Bool.false_or];split
  ·rename_i hL;rw [hno (x+1+k) (by omega) (by omega) hL]; rfl
  ·rfl
theorem jz {x n:Nat} (hu:upd D sz H x i=none):mem D sz H (fun y=>y == x || L y) n i=mem D sz H L n i :=
 qm n fun y _ hy=>by
  by_cases e:y=x
  ·subst e; exact absurd hu hy
  ·simp [e]
theorem th:∀ (n:Nat),mem D sz H L n i=((H 0).objs[i]?).getD .dead∧(∀ y,y < n→L y=true→upd D sz H y i=none)∨∃ y o,y < n∧L y=true∧upd D sz H y i=some o∧mem D sz H L n i=o
 | 0=>.inl ⟨rfl,fun y hy=>by omega⟩
 | n+1=>by
  simp only [mem];by_cases hL:L n=true
  ·rw [if_pos hL];cases hu:upd D sz H n i with
   | some o=>exact .inr ⟨n,o,by omega,hL,hu,rfl⟩
   | none =>
    simp only [mw];rcases th n with ⟨h1,h2⟩ | ⟨y,o,h1,h2,h3,h4⟩
    ·refine .inl ⟨h1,fun y hy hl=>?_⟩;by_cases e:y=n
     ·subst e; exact hu
     ·exact h2 y (by omega) hl
    ·exact .inr ⟨y,o,by omega,h2,h3,h4⟩
  ·rw [if_neg hL];rcases th n with ⟨h1,h2⟩ | ⟨y,o,h1,h2,h3,h4⟩
   ·refine .inl ⟨h1,fun y hy hl=>?_⟩;by_cases e:y=n
    ·subst e; exact absurd hl hL
    ·exact h2 y (by omega) hl
   ·exact .inr ⟨y,o,by omega,h2,h3,h4⟩
end
end
end Go.Abs

namespace Go.Abs
section
theorem zau {m:Nat} {i:Nat}:∀ (ds:List Did) (k:Nat),seenBy m k ds i=true ↔ ∃ y d,ds[y]? = some d∧m.testBit (k+y)=true∧d.lo≤i∧i < d.hi
 | [],k=>by simp [seenBy]
 | d :: ds,k=>by
  simp only [seenBy,ep,av,decide_eq_true_eq,zau ds (k+1)];constructor
  ·rintro (⟨⟨h1,h2⟩,h3⟩ | ⟨y,d',h1,h2,h3⟩)
   ·exact ⟨0,d,rfl,h1,h2,h3⟩
   ·exact ⟨y+1,d',by simpa using h1,by rw [show k+(y+1)=k+1+y by omega]; exact h2,h3⟩
  ·rintro ⟨y,d',h1,h2,h3⟩;cases y with
   | zero=>simp at h1; subst h1; exact .inl ⟨⟨h2,h3.1⟩,h3.2⟩
   | succ y=>exact .inr ⟨y,d',by simpa using h1,by rw [show k+1+y=k+(y+1) by omega]; exact h2,h3⟩
theorem tg {m:Nat}:∀ (ds:List Did) (k:Nat),allSeen m k ds=true→∀ y d,ds[y]? = some d→m.testBit (k+y)=true∨d.hi≤d.lo
 | [],k,_,y,d,h=>by simp at h
 | d :: ds,k,h,y,d',hy=>by
  simp only [allSeen,av,ep,decide_eq_true_eq] at h;cases y with
  | zero=>simp at hy; subst hy; exact h.1
  | succ y =>
   rw [show k+(y+1)=k+1+y by omega];exact tg ds (k+1) h.2 y d' (by simpa using hy)
theorem za {h':Heap} {m:Nat} {x:Did}:∀ (ds:List Did) (k:Nat),jy h' m x k ds=true→∀ y d,ds[y]? = some d→m.testBit (k+y)=true∨clash x d=false∨benign h' x d=true
 | [],k,_,y,d,h=>by simp at h
 | d :: ds,k,h,y,d',hy=>by
  simp only [jy,av,ep,gb] at h;cases y with
  | zero=>simp at hy; subst hy; exact h.1
  | succ y =>
   rw [show k+(y+1)=k+1+y by omega];exact za ds (k+1) h.2 y d' (by simpa using hy)
def Hid (m k:Nat) (ds:List Did) (i:Nat):Prop:=∃ y d,ds[y]? = some d∧m.testBit (k+y)=false∧d.lo≤i∧i < d.hi
theorem hide_get {m:Nat} {i:Nat}:∀ (ds:List Did) (k:Nat) (os:List AObj),(Hid m k ds i→(hide m k ds os)[i]? = (os[i]?).map fun _=>.dead)∧(¬ Hid m k ds i→(hide m k ds os)[i]? = os[i]?)
 | [],k,os=>⟨fun ⟨y,d,h,_⟩=>by simp at h,fun _=>rfl⟩
 | d :: ds,k,os=>by
  simp only [hide];have ih:=hide_get (m:=m) (i:=i) ds (k+1) (if (m.testBit k || decide (d.hi≤d.lo))=true then os else killRange d.lo d.hi os)
  have hstep:Hid m k (d :: ds) i ↔ (m.testBit k=false∧d.lo≤i∧i < d.hi)∨Hid m (k+1) ds i:=by
   constructor
   ·rintro ⟨y,d',h1,h2,h3⟩;cases y with
    | zero=>simp at h1; subst h1; exact .inl ⟨h2,h3⟩
    | succ y=>exact .inr ⟨y,d',by simpa using h1,by rw [show k+1+y=k+(y+1) by omega]; exact h2,h3⟩
   ·rintro (⟨h1,h2⟩ | ⟨y,d',h1,h2,h3⟩)
    ·exact ⟨0,d,rfl,h1,h2⟩
    ·exact ⟨y+1,d',by simpa using h1,by rw [show k+(y+1)=k+1+y by omega]; exact h2,h3⟩
  by_cases h1:m.testBit k=false∧d.lo≤i∧i < d.hi
  ·have hc:¬ ((m.testBit k || decide (d.hi≤d.lo))=true):=by simp [h1.1]; omega
   rw [if_neg hc] at ih ⊢
   have hk:(killRange d.lo d.hi os)[i]? = (os[i]?).map fun _=>.dead:=by
    simp only [killRange,List.getElem?_mapIdx];cases os[i]? with
    | none=>rfl
    | some o=>simp [h1.2.1,h1.2.2]
   refine ⟨fun _=>?_,fun h=>absurd (hstep.2 (.inl h1)) h⟩;by_cases h2:Hid m (k+1) ds i
   ·rw [ih.1 h2,hk]; cases os[i]? <;> rfl
   ·rw [ih.2 h2,hk]
  ·have hk:(if (m.testBit k || decide (d.hi≤d.lo))=true then os else killRange d.lo d.hi os)[i]? = os[i]?:=by
    split
    ·rfl
    ·rename_i hh;simp only [ep,decide_eq_true_eq,not_or,Bool.not_eq_true] at hh;simp only [killRange,List.getElem?_mapIdx];cases os[i]? with
     | none=>rfl
     | some o =>
      have:¬ (d.lo≤i∧i < d.hi):=fun h2=>h1 ⟨hh.1,h2⟩
      simp [this]
   rw [hk] at ih;exact ⟨fun h=>ih.1 ((hstep.1 h).resolve_left h1),fun h=>ih.2 fun h2=>h (hstep.2 (.inr h2))⟩
structure Txt (call:CallSem) (n:Nat) (ops:Nat→Option AOper) (ms:Nat→Nat) (S:Nat→Slots) (H:Nat→Heap) (r:Nat→Slot) (D:Nat→Did):Prop where
 one:∀ x o,x < n→ops x=some o→lg call (H 0).size (ms x) (dsl D x) o (S x) (H x)=some (r x,H (x+1),D x)∧S (x+1)=a8 o.dst (r x) (S x)∧(∀ d,o.dst=some d→isVar (S x) d=false)∧jy (H (x+1)) (ms x) (D x) 0 (dsl D x)=true
 all:∀ x,x < n→∃ o,ops x=some o
 soft:∀ x o,x < n→ops x=some o→soft o.op=true
 back:∀ x y,x < n→(ms x).testBit y=true→y < x
 trans:∀ x y z,x < n→(ms x).testBit y=true→(ms y).testBit z=true→(ms x).testBit z=true
variable {call:CallSem} {n:Nat} {ops:Nat→Option AOper} {ms:Nat→Nat} {S:Nat→Slots} {H:Nat→Heap} {r:Nat→Slot} {D:Nat→Did}
def Vis (ms:Nat→Nat) (H:Nat→Heap) (x i:Nat):Prop:=i < (H 0).size∨∃ y,y < x∧(ms x).testBit y=true∧(H y).size≤i∧i < (H (y+1)).size
namespace Txt
variable (T:Txt call n ops ms S H r D) (hev0:CallEvol call)
include T hev0
theorem spec {x:Nat} {o:AOper} (hx:x < n) (ho:ops x=some o):((∀ t ∈ o.reads,∀ i ∈ slotIds (S x) t,okId (H 0).size (ms x) (dsl D x) i=true)∧∀ i ∈ gm o.op (S x),okId (H 0).size (ms x) (dsl D x) i=true)∧(D x).lo=(H x).size∧(D x).hi=(H (x+1)).size∧(H (x+1)).base=(H x).base ∧
  (OneCall call (H 0).size (ms x) (dsl D x) o (S x) (H x) (r x) (H (x+1)) (D x)∨OneSoft (H 0).size (ms x) (dsl D x) o (S x) (H x) (r x) (H (x+1)) (D x)) :=
 openOne_spec hev0 (T.one x o hx ho).1
theorem evol {x:Nat} (hx:x < n):Evol (H x) (H (x+1)):=by obtain ⟨o,ho⟩:=T.all x hx;exact w6 hev0 (T.one x o hx ho).1
theorem lo {x:Nat} (hx:x < n):(D x).lo=(H x).size:=by obtain ⟨o,ho⟩:=T.all x hx;exact (T.spec hev0 hx ho).2.1
theorem hi {x:Nat} (hx:x < n):(D x).hi=(H (x+1)).size:=by obtain ⟨o,ho⟩:=T.all x hx;exact (T.spec hev0 hx ho).2.2.1
theorem mono:∀ {x y:Nat},x≤y→y≤n→(H x).size≤(H y).size:=by
 intro x y hxy;induction hxy with
 | refl=>intro _; exact ai _
 | step _ ih=>intro h; exact dq (ih (by omega)) (T.evol hev0 (by omega)).size
theorem base:∀ {x:Nat},x≤n→(H x).base=(H 0).base
 | 0,_=>rfl
 | x+1,h=>(T.evol hev0 (by omega)).base.trans (base (by omega))
theorem wmin:∀ {x y:Nat},x≤y→y≤n→(H y).wmin≤(H x).wmin:=by
 intro x y hxy;induction hxy with
 | refl=>intro _; exact ai _
 | step _ ih=>intro h; exact dq (T.evol hev0 (by omega)).wmin (ih (by omega))
theorem okId_iff {x i:Nat} (hx:x < n):okId (H 0).size (ms x) (dsl D x) i=true ↔ Vis ms H x i:=by
 unfold okId Vis;simp only [ep,decide_eq_true_eq,zau,dk];constructor
 ·rintro (h | ⟨y,d,h1,h2,h3,h4⟩)
  ·exact .inl h
  ·have hy:y < x:=by have:=aj h1; rwa [zav] at this
   rw [rz hy] at h1; cases h1;exact .inr ⟨y,hy,h2,by rw [← T.lo hev0 (by omega)]; exact h3,by rw [← T.hi hev0 (by omega)]; exact h4⟩
 ·rintro (h | ⟨y,hy,h2,h3,h4⟩)
  ·exact .inl h
  ·exact .inr ⟨y,D y,rz hy,h2,by rw [T.lo hev0 (by omega)]; exact h3,by rw [T.hi hev0 (by omega)]; exact h4⟩
theorem apart {x y i:Nat} (hx:x < n) (hy:y < n) (h1:(H x).size≤i) (h2:i < (H (x+1)).size) (h3:(H y).size≤i) (h4:i < (H (y+1)).size):x=y:=by
 rcases Nat.lt_trichotomy x y with h | h | h
 ·have:=T.mono hev0 (show x+1≤y from h) (by omega); omega
 ·exact h
 ·have:=T.mono hev0 (show y+1≤x from h) (by omega); omega
omit T hev0 in
theorem inRange {i:Nat} (h0:(H 0).size≤i):∀ {x:Nat},x≤n→i < (H x).size→∃ y,y < x∧(H y).size≤i∧i < (H (y+1)).size
 | 0,_,h=>by omega
 | x+1,hx,h=>by
  rcases bi i (H x).size with h1 | h1
  ·obtain ⟨y,hy,h2⟩:=inRange h0 (by omega) h1;exact ⟨y,by omega,h2⟩
  ·exact ⟨x,by omega,h1,h⟩
omit hev0 in
theorem noclash {x y:Nat} (hx:x < n) (hyx:y < x) (h:(ms x).testBit y=false):clash (D x) (D y)=false∨benign (H (x+1)) (D x) (D y)=true:=by
 obtain ⟨o,ho⟩:=T.all x hx;rcases za _ 0 (T.one x o hx ho).2.2.2 y (D y) (rz hyx) with h1 | h1
 ·rw [dk,h] at h1; cases h1
 ·exact h1
theorem writer {x y:Nat} (hx:x < n) (hw:(D x).wr≠none) (hyx:y < x) (hy:(H y).size < (H (y+1)).size):(ms x).testBit y=true:=by
 obtain ⟨o,ho⟩:=T.all x hx;obtain ⟨_,_,_,_,hs | hs⟩:=T.spec hev0 hx ho
 ·obtain ⟨s1,g,_,_,_,h1 | h1 | h1⟩:=hs.run
  ·have:=tg _ 0 h1.1 y (D y) (rz hyx);rw [dk,T.lo hev0 (by omega),T.hi hev0 (by omega)] at this;rcases this with h2 | h2
   ·exact h2
   ·omega
  ·exact absurd h1.2.2.1 hw
  ·exact absurd h1.2.1 hw
 ·exact absurd hs.did.2.2 hw
end Txt
end
end Go.Abs

namespace Go.Abs
section
variable {E:Env}
open Classical in
noncomputable def maskM (vis:Nat→Prop) (k:Nat) (μ:MM):MM:=(List.range k).map fun i=>if vis i then (μ[i]?).getD none else none
theorem o9 (vis:Nat→Prop) (k:Nat) (μ:MM):(maskM vis k μ).length=k:=by simp [maskM]
theorem mz {vis:Nat→Prop} {k i:Nat} {μ:MM} (hi:i < k) (hk:k≤μ.length):(vis i→(maskM vis k μ)[i]? = μ[i]?)∧(¬ vis i→(maskM vis k μ)[i]? = some none):=by
 unfold maskM;rw [cz,List.getElem?_range hi];simp only [bw];constructor
 ·intro h;rw [if_pos h,ah (by omega)]; rfl
 ·intro h;rw [if_neg h]
theorem mg {vis:Nat→Prop} {k i:Nat} {μ:MM} {m:M} (hk:k≤μ.length) (h:(maskM vis k μ)[i]? = some (some m)):vis i∧i < k∧μ[i]? = some (some m):=by
 have hi:i < k:=by have:=aj h; rwa [o9] at this
 by_cases hv:vis i
 ·exact ⟨hv,hi,((mz hi hk).1 hv).symm.trans h⟩
 ·rw [(mz hi hk).2 hv] at h; cases h
variable {lo nt:Nat} {μ0 μ:MM} {w0 w:World} {ds:List Deferred} {s:Slots} {a:Act} {ν:Fr}
theorem Rel.mask {vis:Nat→Prop} {k:Nat} {objs os:List AObj} {base wm wm':Nat} (hr:Rel E μ ⟨objs,base,wm⟩ w) (hk:k≤objs.length) (hb:base≤k) (hos:os.length=k)
  (h1:∀ i,i < k→vis i→os[i]? = objs[i]?) (h2:∀ i,i < k→¬ vis i→os[i]? = some .dead) (hids:∀ i o,i < k→vis i→objs[i]? = some o→∀ j ∈ o.ids,j < k∧vis j):Rel E (maskM vis k μ) ⟨os,base,wm'⟩ w:=by
 have hkl:k≤μ.length:=by rw [hr.len]; exact hk
 constructor
 ·rw [o9]; exact hos.symm
 ·simp only [hos]; exact hb
 ·intro i o ho;simp only at ho;have hi:i < k:=by rw [← hos]; exact aj ho
  by_cases hv:vis i
  ·rw [h1 i hi hv] at ho
   exact (hr.obj i o ho).same ((mz hi hkl).1 hv) fun j hj hl=>by obtain ⟨q1,q2⟩:=hids i o hi hv ho j hj;exact (mz q1 hkl).1 q2
  ·rw [h2 i hi hv] at ho; cases ho;exact (mz hi hkl).2 hv
 ·intro i j mi mj hij hi hmi hmj;exact hr.sep i j mi mj hij hi (mg hkl hmi).2.2 (mg hkl hmj).2.2
 ·intro i m hm; exact hr.lt i m (mg hkl hm).2.2
theorem FRel.mask {vis:Nat→Prop} {k:Nat} {g:SlotFn} {tmps:Array Value} (h:FRel E lo ν μ g tmps w) (hk:k≤μ.length) (hids:∀ t y,g t=some y→∀ i ∈ y.ids,i < k∧vis i):FRel E lo ν (maskM vis k μ) g tmps w where
 val:=fun t v hv=>by obtain ⟨v',h1,h2⟩:=h.val t v hv;exact ⟨v',h1,ka (fun i hi _=>by obtain ⟨q1,q2⟩:=hids t _ hv i hi; exact (mz q1 hk).1 q2) h2⟩
 undef:=h.undef
 var:=fun t cs hv=>by obtain ⟨h1,h2,c,e,fr,h3,h4,h5,h6⟩:=h.var t cs hv;refine ⟨h1,h2,c,e,fr,h3,h4,fun q v hq=>?_,h6⟩;obtain ⟨z1,v',z2,z3⟩:=h5 q v hq;exact ⟨z1,v',z2,ka (fun i hi _=>by obtain ⟨q1,q2⟩:=hids t _ hv i (nu hq hi); exact (mz q1 hk).1 q2) z3⟩
 loc:=h.loc
 sepv:=h.sepv
 sepm:=fun t cs i m hv hm=>h.sepm t cs i m hv (mg hk hm).2.2
 ds:=h.ds
 sepd:=fun r hr=>⟨fun i m hm=>(h.sepd r hr).1 i m (mg hk hm).2.2,(h.sepd r hr).2⟩
 nodup:=h.nodup
open Classical in
noncomputable def joinM (vis:Nat→Prop) (lo1 hi1:Nat) (μ μ':MM):MM :=
 (List.range μ.length).map fun i=>if (i < lo1∧vis i)∨(lo1≤i∧i < hi1) then (μ'[i]?).getD none else (μ[i]?).getD none
theorem wq (vis:Nat→Prop) (lo1 hi1:Nat) (μ μ':MM):(joinM vis lo1 hi1 μ μ').length=μ.length:=by simp [joinM]
def Now (vis:Nat→Prop) (lo1 hi1 i:Nat):Prop:=(i < lo1∧vis i)∨(lo1≤i∧i < hi1)
theorem joinM_get {vis:Nat→Prop} {lo1 hi1 i:Nat} {μ μ':MM} (hi:i < μ.length) (hl:μ'.length=hi1):(Now vis lo1 hi1 i→i < hi1→(joinM vis lo1 hi1 μ μ')[i]? = μ'[i]?)∧(¬ Now vis lo1 hi1 i→(joinM vis lo1 hi1 μ μ')[i]? = μ[i]?):=by
 unfold joinM Now;rw [cz,List.getElem?_range hi];simp only [bw];constructor
 ·intro h h2;rw [if_pos h,ah (by omega)]; rfl
 ·intro h;rw [if_neg h,ah hi]; rfl
theorem At.join {objs objs':List AObj} {base wF lo1 hi1:Nat} {vis:Nat→Prop} {g:Heap} {μ':MM} {w':World} {d:Option Nat} {x:Slot} {v:Value}
  (k1:Step (fun k=>lo≤k) wF μ0 w0 μ w) (k2:Rel E μ ⟨objs,base,wF⟩ w) (k3:FRel E lo ν μ (sget s) a.tmps w) (k4:a.tmps.size=nt) (k5:a.defers=ν.ds.map markOf++ds) (k6:lo≤w.heap.size)
  (hle:lo1≤hi1) (hhi:hi1≤objs.length) (hb:base≤lo1)
  (j1:Step (fun _=>False) g.wmin (maskM vis lo1 μ) w μ' w') (j2:Rel E μ' g w') (hg:g.size=hi1) (hgb:g.base=base)
  (hhid:∀ i,i < lo1→¬ vis i→base≤i) (hμ0:μ0.length≤lo1∧∀ i,i < μ0.length→vis i) (hw:wF≤g.wmin∨lo1≤g.wmin)
  (_hdead:∀ i,lo1≤i→i < hi1→objs[i]? = some .dead) (hlen:objs'.length=objs.length)
  (hnow:∀ i,Now vis lo1 hi1 i→objs'[i]? = g.objs[i]?) (hels:∀ i,i < objs.length→¬ Now vis lo1 hi1 i→objs'[i]? = objs[i]?)
  (hidg:∀ i o,Now vis lo1 hi1 i→g.objs[i]? = some o→∀ j ∈ o.ids,Now vis lo1 hi1 j) (hido:∀ (i:Nat) o,objs[i]? = some o→∀ j ∈ o.ids,¬ (lo1≤j∧j < hi1))
  (hids:∀ t y,sget s t=some y→∀ j ∈ y.ids,¬ (lo1≤j∧j < hi1)) (hx:SlotIs E μ' x v) (hxid:∀ j ∈ x.ids,Now vis lo1 hi1 j) (hd:∀ t,d=some t→t < nt) :
  At E lo nt μ0 w0 ds (a8 d x s) ⟨objs',base,wF⟩ (a.put d v) w':=by
 have hml:μ.length=objs.length:=k2.len;have hkl:lo1≤μ.length:=by omega
 have hl':μ'.length=hi1:=by rw [j2.len]; exact hg
 have now_lt:∀ i,Now vis lo1 hi1 i→i < hi1:=fun i h=>by rcases h with h | h <;> omega
 have hstep:∀ i,i < lo1→vis i→μ'[i]? = μ[i]?∨(g.wmin≤i∧μ'[i]? = some none):=fun i hi hv=>by
  rcases j1.old i (by rw [o9]; exact hi) with h | h
  ·exact .inl (h.trans ((mz hi hkl).1 hv))
  ·exact .inr h
 have hnew:∀ i m,lo1≤i→μ'[i]? = some (some m)→w.heap.size≤m.blk∨∃ r m0,g.wmin≤r∧r < lo1∧vis r∧μ[r]? = some (some m0)∧m0.blk=m.blk:=fun i m hi hm=>by
  rcases j1.new i m (by rw [o9]; exact hi) hm with h | ⟨r,m0,h1,h2,h3⟩
  ·exact .inl h
  ·obtain ⟨q1,q2,q3⟩:=mg hkl h2;exact .inr ⟨r,m0,h1,q2,q1,q3,h3⟩
 have hblk:∀ b,b < w.heap.size→(∀ i m,g.wmin≤i→i < lo1→vis i→μ[i]? = some (some m)→m.blk≠b)→w'.heap[b]? = w.heap[b]?:=fun b hb hn =>
  j1.block b hb (fun h=>h) fun i m hi hm=>by obtain ⟨q1,q2,q3⟩:=mg hkl hm;exact hn i m hi q2 q1 q3
 let μ1:MM:=joinM vis lo1 lo1 μ μ'
 have hμ1l:μ1.length=μ.length:=wq ..
 have hμ1:∀ i,i < μ.length→(i < lo1∧vis i→μ1[i]? = μ'[i]?)∧(¬ (i < lo1∧vis i)→μ1[i]? = μ[i]?):=fun i hi=>by
  show _∧_
  unfold μ1 joinM;rw [cz,List.getElem?_range hi];simp only [bw];constructor
  ·intro h;rw [if_pos (.inl h),ah (show i < μ'.length by omega)]; rfl
  ·intro h;rw [if_neg (by rintro (h2 | h2); exact h h2; omega),ah hi]; rfl
 have hlater:Later μ μ1:=⟨by rw [hμ1l]; exact ai _,fun i hi=>by
  by_cases h:i < lo1∧vis i
  ·rcases hstep i h.1 h.2 with h1 | ⟨_,h1⟩
   ·exact .inl (((hμ1 i hi).1 h).trans h1)
   ·exact .inr (((hμ1 i hi).1 h).trans h1)
  ·exact .inl ((hμ1 i hi).2 h)⟩
 let μ2:MM:=joinM vis lo1 hi1 μ μ'
 have hμ2l:μ2.length=μ.length:=wq ..;have hnow2:∀ i,Now vis lo1 hi1 i→μ2[i]? = μ'[i]?:=fun i h=>(joinM_get (by have:=now_lt i h; omega) hl').1 h (now_lt i h)
 have hels2:∀ i,i < μ.length→¬ Now vis lo1 hi1 i→μ2[i]? = μ[i]?:=fun i hi h=>(joinM_get hi hl').2 h
 have h12:∀ i,i < μ.length→¬ (lo1≤i∧i < hi1)→μ2[i]? = μ1[i]?:=fun i hi h=>by
  by_cases h1:i < lo1∧vis i
  ·rw [hnow2 i (.inl h1),(hμ1 i hi).1 h1]
  ·rw [hels2 i hi (by rintro (h2 | h2); exact h1 h2; exact h h2),(hμ1 i hi).2 h1]
 have hfrom:∀ i m,μ2[i]? = some (some m)→(Now vis lo1 hi1 i∧μ'[i]? = some (some m))∨(¬ Now vis lo1 hi1 i∧μ[i]? = some (some m)):=fun i m hm=>by
  have hi:i < μ.length:=by rw [← hμ2l]; exact aj hm
  by_cases h:Now vis lo1 hi1 i
  ·exact .inl ⟨h,(hnow2 i h).symm.trans hm⟩
  ·exact .inr ⟨h,(hels2 i hi h).symm.trans hm⟩
 have hoth:∀ i m,¬ Now vis lo1 hi1 i→μ[i]? = some (some m)→base≤i:=fun i m h hm=>by
  rcases bi i lo1 with h1 | h1
  ·exact hhid i h1 fun hv=>h (.inl ⟨h1,hv⟩)
  ·omega
 have hothblk:∀ i m,¬ Now vis lo1 hi1 i→μ[i]? = some (some m)→w'.heap[m.blk]? = w.heap[m.blk]?:=fun i m h hm =>
  hblk m.blk (k2.lt i m hm) fun j m' _ hj hv hm'=>(k2.sep i j m m' (fun e=>h (.inl ⟨by omega,by rw [e]; exact hv⟩)) (hoth i m h hm) hm hm').symm
 have hsz:=j1.size;refine ⟨μ2,ν,?_,?_,?_,by rw [qr]; exact k4,by rw [oa]; exact k5,dq k6 hsz⟩
 ·-- since the frame began
  refine ⟨j1.os.trans k1.os,j1.tape.trans k1.tape,j1.output.trans k1.output,dq k1.size hsz,?_,?_,?_,?_⟩
  ·intro b hb hx hn;rw [← k1.block b hb hx hn];refine hblk b (gl hb k1.size) fun i m hi hil hv hm=>?_
   rcases bi i μ0.length with h1 | h1
   ·rcases k1.old i h1 with h2 | ⟨_,h2⟩
    ·exact hn i m (show wF≤_ by rcases hw with hw | hw <;> omega) (h2.symm.trans hm)
    ·rw [h2] at hm; cases hm
   ·rcases k1.new i m h1 hm with h2 | ⟨r,m0,h2,h3,h4⟩
    ·omega
    ·rw [← h4]; exact hn r m0 h2 h3
  ·rw [hμ2l]; exact k1.len
  ·intro i hi;have hv:=hμ0.2 i hi;have hil:i < lo1:=by omega
   rw [hnow2 i (.inl ⟨hil,hv⟩)];rcases hstep i hil hv with h1 | ⟨h1,h2⟩
   ·rw [h1]; exact k1.old i hi
   ·exact .inr ⟨show wF≤_ by rcases hw with hw | hw <;> omega,h2⟩
  ·intro i m hi hm;rcases hfrom i m hm with ⟨h1,h2⟩ | ⟨h1,h2⟩
   ·rcases bi i lo1 with h3 | h3
    ·have hv:vis i:=by rcases h1 with h1 | h1; exact h1.2; omega
     rcases hstep i h3 hv with h4 | ⟨_,h4⟩
     ·exact k1.new i m hi (h4.symm.trans h2)
     ·rw [h2] at h4; cases h4
    ·rcases hnew i m h3 h2 with h4 | ⟨r,m0,h4,h5,h6,h7,h8⟩
     ·exact .inl (dq k1.size h4)
     ·rcases bi r μ0.length with h9 | h9
      ·rcases k1.old r h9 with q | ⟨_,q⟩
       ·exact .inr ⟨r,m0,show wF≤_ by rcases hw with hw | hw <;> omega,q.symm.trans h7,h8⟩
       ·rw [q] at h7; cases h7
      ·rcases k1.new r m0 h9 h7 with q | ⟨r',m1,q1,q2,q3⟩
       ·exact .inl (by rw [← h8]; exact q)
       ·exact .inr ⟨r',m1,q1,q2,q3.trans h8⟩
   ·exact k1.new i m hi h2
 ·-- memory
  constructor
  ·rw [hμ2l,hml]; exact hlen.symm
  ·simp only [hlen]; have:=k2.bs; exact this
  ·intro i o ho;simp only at ho ⊢;have hi:i < objs.length:=by rw [← hlen]; exact aj ho
   by_cases h:Now vis lo1 hi1 i
   ·rw [hnow i h] at ho;have:=j2.obj i o ho;rw [hgb] at this;exact this.same (hnow2 i h) fun j hj _=>hnow2 j (hidg i o h ho j hj)
   ·rw [hels i hi h] at ho
    have h1:ORel E μ1 base i w' o:=(k2.obj i o ho).keep hlater fun m hm=>by have hi':i < μ.length:=aj hm;exact ⟨((hμ1 i hi').2 fun h2=>h (.inl h2)).trans hm,hothblk i m h hm⟩
    exact h1.same (h12 i (by omega) fun h2=>h (.inr h2)) fun j hj hl=>h12 j (by rw [hμ1l] at hl; exact hl) (hido i o ho j hj)
  ·intro i j mi mj hij hi hmi hmj;simp only at hi
   have both:∀ p q mp mq,p≠q→Now vis lo1 hi1 p→μ'[p]? = some (some mp)→¬ Now vis lo1 hi1 q→μ[q]? = some (some mq)→mp.blk≠mq.blk:=by
    intro p q mp mq hpq hp hmp hq hmq;have hqb:=hoth q mq hq hmq;rcases bi p lo1 with h3 | h3
    ·have hv:vis p:=by rcases hp with h1 | h1; exact h1.2; omega
     rcases hstep p h3 hv with h4 | ⟨_,h4⟩
     ·exact (k2.sep q p mq mp (fun e=>hpq e.symm) hqb hmq (h4.symm.trans hmp)).symm
     ·rw [hmp] at h4; cases h4
    ·rcases hnew p mp h3 hmp with h4 | ⟨r,m0,h4,h5,h6,h7,h8⟩
     ·have:=k2.lt q mq hmq; omega
     ·rw [← h8];exact (k2.sep q r mq m0 (fun e=>hq (.inl ⟨by omega,by rw [e]; exact h6⟩)) hqb hmq h7).symm
   rcases hfrom i mi hmi with ⟨h1,h2⟩ | ⟨h1,h2⟩ <;> rcases hfrom j mj hmj with ⟨h3,h4⟩ | ⟨h3,h4⟩
   ·exact j2.sep i j mi mj hij (by rw [hgb]; exact hi) h2 h4
   ·exact both i j mi mj hij h1 h2 h3 h4
   ·exact (both j i mj mi (fun e=>hij e.symm) h3 h4 h1 h2).symm
   ·exact k2.sep i j mi mj hij hi h2 h4
  ·intro i m hm;rcases hfrom i m hm with ⟨_,h2⟩ | ⟨_,h2⟩
   ·exact j2.lt i m h2
   ·have:=k2.lt i m h2; omega
 ·-- slots
  have hvar:∀ t cs,sget s t=some (.var cs)→w'.heap[ν t]? = w.heap[ν t]?:=fun t cs hv=>hblk (ν t) (k3.lt hv) fun i m _ _ _ hm=>k3.sepm t cs i m hv hm
  have hblk2:∀ (i:Nat) (m:M),μ2[i]? = some (some m)→(∃ (r:Nat) (m0:M),μ[r]? = some (some m0)∧m0.blk=m.blk)∨w.heap.size≤m.blk:=fun i m hm=>by
   rcases hfrom i m hm with ⟨h1,h2⟩ | ⟨h1,h2⟩
   ·rcases bi i lo1 with h3 | h3
    ·have hv:vis i:=by rcases h1 with h1 | h1; exact h1.2; omega
     rcases hstep i h3 hv with h4 | ⟨_,h4⟩
     ·exact .inl ⟨i,m,h4.symm.trans h2,rfl⟩
     ·rw [h2] at h4; cases h4
    ·rcases hnew i m h3 h2 with h4 | ⟨r,m0,_,_,_,h7,h8⟩
     ·exact .inr h4
     ·exact .inl ⟨r,m0,h7,h8⟩
   ·exact .inl ⟨i,m,h2,rfl⟩
  have hf2:FRel E lo ν μ2 (sget s) a.tmps w':=by
   have same2:∀ {cs:AVal} {v:Value},(∀ j ∈ cs.ids,¬ (lo1≤j∧j < hi1))→VRel E μ cs v→VRel E μ2 cs v:=fun h1 h2=>ka (fun j hj hl=>h12 j (by rw [hμ1l] at hl; exact hl) (h1 j hj)) (h2.later hlater)
   refine ⟨fun t u hu=>?_,k3.undef,fun t cs hu=>?_,k3.loc,k3.sepv,fun t cs i m hu hm=>?_,fun q hq=>?_,fun q hq=>⟨fun i m hm=>?_,(k3.sepd q hq).2⟩,k3.nodup⟩
   ·obtain ⟨v',h1,h2⟩:=k3.val t u hu;exact ⟨v',h1,same2 (hids t _ hu) h2⟩
   ·obtain ⟨h1,h2,c,e,fr,h3,h4,h5,h6⟩:=k3.var t cs hu;refine ⟨h1,h2,c,e,fr,(hvar t cs hu).trans h3,h4,fun q v hq=>?_,h6⟩;obtain ⟨z1,v',z2,z3⟩:=h5 q v hq;exact ⟨z1,v',z2,same2 (fun j hj=>hids t _ hu j (nu hq hj)) z3⟩
   ·rcases hblk2 i m hm with ⟨r,m0,h1,h2⟩ | h1
    ·rw [← h2]; exact k3.sepm t cs r m0 hu h1
    ·have:=k3.lt hu; omega
   ·obtain ⟨h1,h2⟩:=k3.ds q hq;refine ⟨h1,?_⟩;rw [hblk q (k3.lt_ds hq) fun i m _ _ _ hm=>(k3.sepd q hq).1 i m hm]; exact h2
   ·rcases hblk2 i m hm with ⟨r,m0,h1,h2⟩ | h1
    ·rw [← h2]; exact (k3.sepd q hq).1 r m0 h1
    ·have:=k3.lt_ds hq; omega
  rw [jv];have hd':∀ t,d=some t→t < a.tmps.size:=fun t ht=>by rw [k4]; exact hd t ht
  rcases hx with ⟨rfl,rfl⟩ | ⟨u,rfl,hu⟩
  ·exact (hf2.setUndef hd').congr fun t=>kr _ _ _ _
  ·exact (hf2.setVal hd' (ka (fun j hj _=>hnow2 j (hxid j hj)) hu)).congr fun t=>kr _ _ _ _
end
end Go.Abs

namespace Go.Abs
section
variable {ops:Array Oper}
theorem chain_trans {i j k:Nat} (h1:Chain ops i j) (h2:Chain ops j k):Chain ops i k:=by
 induction h1 with
 | one ho he hb=>exact .step ho he hb h2
 | step ho he hb _ ih=>exact .step ho he hb (ih h2)
theorem zar (hb:edgesBack ops=true) {j i:Nat} (h:Chain ops j i):i < j:=by
 have step:∀ {j:Nat} {o:Oper} {e:Edge},ops[j]? = some o→e ∈ o.after→Region.binds .any e=true→e.on < j:=by intro j o e ho he hbb;have hjs:j < ops.size:=aj (l:=ops.toList) (by simpa using ho);unfold edgesBack at hb;rw [al] at hb;have:=hb j (eh.2 hjs);rw [ho] at this;simp only [Array.all_eq_true'] at this;have:=this e he;simpa [hbb] using this
 induction h with
 | one ho he hbb=>exact step ho he hbb
 | step ho he hbb _ ih=>have:=step ho he hbb; omega
theorem mask_edge (acc:List Nat) (l:List Edge) (s i:Nat) (e:Edge) (he:e ∈ l) (hb:Region.binds .any e=true) (h:e.on=i∨(acc.getD e.on 0).testBit i=true) :
  (l.foldl (fun s e=>if Region.binds .any e then s ||| 2 ^ e.on ||| acc.getD e.on 0 else s) s).testBit i=true:=by
 have keep:∀ (l:List Edge) (s:Nat),s.testBit i=true→(l.foldl (fun s e=>if Region.binds .any e then s ||| 2 ^ e.on ||| acc.getD e.on 0 else s) s).testBit i=true:=by
  intro l;induction l with
  | nil=>exact fun s h=>h
  | cons x l ih =>
   intro s h;simp only [List.foldl_cons];refine ih _ ?_;split
   ·rw [Nat.testBit_or,Nat.testBit_or,h]; rfl
   ·exact h
 induction l generalizing s with
 | nil=>cases he
 | cons x l ih =>
  simp only [List.foldl_cons];rcases br.1 he with rfl | he
  ·refine keep l _ ?_;rw [if_pos hb,Nat.testBit_or,Nat.testBit_or,Nat.testBit_two_pow];rcases h with h | h
   ·simp [h]
   ·rw [h]; simp
  ·exact ih _ he
theorem chain_bit (hb:edgesBack ops=true):∀ (l:List Oper) (acc:List Nat),ops.toList.drop acc.length=l→(∀ k i,k < acc.length→Chain ops k i→(acc.getD k 0).testBit i=true) →
  ∀ k i,k < acc.length+l.length→Chain ops k i→((befs l acc).getD k 0).testBit i=true
 | [],acc,_,h,k,i,hk,hc=>h k i (by simpa using hk) hc
 | o :: l,acc,hd,h,k,i,hk,hc=>by
  simp only [befs]
  have ho:ops[acc.length]? = some o:=by have:=congrArg (fun l=>l[0]?) hd;simpa using this
  refine chain_bit hb l (acc++[maskOf acc o]) ?_ (fun k' i' hk' hc'=>?_) k i (by simp at hk ⊢; omega) hc
  ·have:=congrArg List.tail hd;simpa using this
  ·rcases bi k' acc.length with h1 | h1
   ·rw [ge,ag h1,← ge];exact h k' i' h1 hc'
   ·have h2:k'=acc.length:=by simp at hk'; omega
    subst h2;rw [ge,ak (ai _)];simp only [Nat.sub_self,bg,cq];unfold maskOf;cases hc' with
    | one ho' he hbb=>rw [ho] at ho'; cases ho'; exact mask_edge acc _ 0 _ _ (by simpa using he) hbb (.inl rfl)
    | step ho' he hbb hrest =>
     rw [ho] at ho'; cases ho';refine mask_edge acc _ 0 _ _ (by simpa using he) hbb (.inr (h _ _ ?_ hrest));exact zar hb (.one ho he hbb)
end
section
theorem zas {o:AOp} {x:Opd} (hx:x ∈ fk o):∀ t ∈ x.reads,t ∈ o.reads:=by
 intro t ht
 have inL:∀ {xs:List Opd},x ∈ xs→t ∈ readsL xs:=by
  intro xs;induction xs with
  | nil=>intro h; cases h
  | cons y ys ih =>
   intro h;simp only [readsL,bp];rcases br.1 h with rfl | h
   ·exact .inl ht
   ·exact .inr (ih h)
 cases o <;> simp only [fk,br,d7,or_false] at hx <;> (try (cases hx; done))
 case ext k xs=>cases k <;> (try simp only [d7] at hx) <;> exact inL hx
 case append e b y z =>
  simp only [AOp.reads,bp];rcases hx with rfl | rfl
  ·exact .inl ht
  ·exact .inr ht
 case slice k y a b c=>subst hx; simp only [AOp.reads,bp]; exact .inl (.inl (.inl ht))
 all_goals (subst hx; simpa [AOp.reads] using ht)
theorem y9 {S S2:Slots} {o:AOp} (ha:Agree S S2 o.reads):gm o S2=gm o S:=by
 unfold gm
 have:∀ (l:List Opd),(∀ x ∈ l,x.ev S2=x.ev S)→(l.flatMap fun x=>match x.ev S2 with | some v=>v.ids | none=>[])=l.flatMap fun x=>match x.ev S with | some v=>v.ids | none=>[]:=by
  intro l;induction l with
  | nil=>intro _; rfl
  | cons y l ih =>
   intro h;rw [ci,ci,ih fun x hx=>h x (bu _ hx),h y (bh ..)]
 exact this _ fun x hx=>fp (ha.sub fun t ht=>zas hx t ht)
theorem rdIds_mem {o:AOp} {s:Slots} {x:Opd} {v:AVal} {i:Nat} (hx:x ∈ fk o) (hv:x.ev s=some v) (hi:i ∈ v.ids):i ∈ gm o s:=by unfold gm;rw [eu];exact ⟨x,hx,by rw [hv]; exact hi⟩
theorem my (d:Option Nat) (x:Slot) (s s2:Slots):a8 d (gr d (a8 d x s)) s2=a8 d x s2:=by
 cases d with
 | none=>rfl
 | some d=>simp [gr,a8,sget]
variable {call:CallSem} {n:Nat} {ops:Nat→Option AOper} {ms:Nat→Nat} {S:Nat→Slots} {H:Nat→Heap} {r:Nat→Slot} {D:Nat→Did}
inductive SForm (o:AOper) (Sx:Slots) (Hx Hx':Heap) (rx:Slot) (d:Did):Prop where
 | none (x:Slot):ew noCall o Sx ⟨Hx.objs,Hx.base,Hx.size⟩=some (a8 o.dst x Sx,⟨Hx.objs,Hx.base,Hx.size⟩)→rx=gr o.dst (a8 o.dst x Sx)→Hx'=Hx→d.ch=Option.none→SForm o Sx Hx Hx' rx d
 | push (ob:AObj) (f:Nat→Slot):NewF f→ew noCall o Sx ⟨Hx.objs,Hx.base,Hx.size⟩=some (a8 o.dst (f Hx.size) Sx,(⟨Hx.objs,Hx.base,Hx.size⟩:Heap).push ob)→rx=gr o.dst (a8 o.dst (f Hx.size) Sx) →
   Hx'.objs=Hx.objs++[ob]→d.ch=Option.none→SForm o Sx Hx Hx' rx d
 | kill (i:Nat) (ob:AObj) (f:Nat→Slot):NewF f→i < Hx.size→Hx.base≤i→i ∈ gm o.op Sx→ew noCall o Sx ⟨Hx.objs,Hx.base,Hx.size⟩=some (a8 o.dst (f Hx.size) Sx,((⟨Hx.objs,Hx.base,Hx.size⟩:Heap).put i .dead).push ob) →
   rx=gr o.dst (a8 o.dst (f Hx.size) Sx)→Hx'.objs=Hx.objs.set i .dead++[ob]→d.ch=some i→Hx'.wmin≤i→SForm o Sx Hx Hx' rx d
 | put (i:Nat) (ob:AObj) (v:AVal):i < Hx.size→Hx.base≤i→i ∈ gm o.op Sx→ew noCall o Sx ⟨Hx.objs,Hx.base,Hx.size⟩=some (a8 o.dst (.val v) Sx,(⟨Hx.objs,Hx.base,Hx.size⟩:Heap).put i ob) →
   rx=gr o.dst (a8 o.dst (.val v) Sx)→Hx'.objs=Hx.objs.set i ob→d.ch=some i→Hx'.wmin≤i→SForm o Sx Hx Hx' rx d
theorem qk {n0 m:Nat} {ds:List Did} {o:AOper} {s:Slots} {h h':Heap} {y:Slot} {d:Did} (hs:soft o.op=true) (h1:OneSoft n0 m ds o s h y h' d):SForm o s h h' y d∧(h'.size=h.size→∀ i ∈ y.ids,okId n0 m ds i=true) ∧
  (∀ ob,h'.size=h.size+1→h'.objs[h.size]? = some ob→∀ i ∈ ob.ids,okId n0 m ds i=true)∧∀ i ob,h'.size=h.size→d.ch=some i→h'.objs[i]? = some ob→∀ j ∈ ob.ids,okId n0 m ds j=true:=by
 obtain ⟨s1,g,he,hy,hrest⟩:=h1.run;have hform:=ph hs h1.isc (h2:=⟨h.objs,h.base,h.size⟩) rfl (fun _ _ _ _ _ _=>rfl) he;rcases hform with ⟨x,e1,e2,e3⟩ | ⟨ob,f,hf,e1,e2,e3⟩ | ⟨i,ob,f,hf,hb,hi,hir,e1,e2,e3⟩ | ⟨i,ob,v,hb,hi,hir,e1,e2,e3⟩
 ·subst e1; subst e2;rcases hrest with ⟨_,_,q1,q2,q3⟩ | ⟨ob',_,q1,_⟩ | ⟨ob',q1,_⟩
  ·subst q2;exact ⟨.none x e3 hy rfl q3,fun _=>q1,fun ob h2=>by omega,fun i ob _ h2=>by rw [q3] at h2; cases h2⟩
  ·simp only at q1; omega
  ·simp only [Heap.size] at q1; omega
 ·subst e1; subst e2;rcases hrest with ⟨q1,_⟩ | ⟨ob',q1,_⟩ | ⟨ob',q1,q2,q3,q4⟩
  ·simp [Heap.push,Heap.size] at q1
  ·simp [Heap.push,Heap.size] at q1
  ·have hob:ob'=ob:=by simp only [Heap.push,Heap.size] at q2;rw [ak (ai _)] at q2;simpa using q2.symm
   subst hob;rcases q4 with ⟨q5,q6,q7⟩ | ⟨q5,q6,q7⟩
   ·subst q7;refine ⟨.push _ f hf e3 hy rfl q6,fun h2=>by simp [Heap.push,Heap.size] at h2,fun ob2 _ h3=>?_,fun i ob _ h2=>by rw [q6] at h2; cases h2⟩;simp only [Heap.push,Heap.size] at h3;rw [ak (ai _)] at h3;simp at h3; subst h3;exact q3
   ·simp [Heap.push] at q5
 ·subst e1; subst e2;have hsz:(((⟨h.objs,h.base,h.size⟩:Heap).put i .dead).push ob).size=h.size+1:=by simp [Heap.push,Heap.put,Heap.size]
  rcases hrest with ⟨q1,_⟩ | ⟨ob',q1,_⟩ | ⟨ob',q1,q2,q3,q4⟩
  ·omega
  ·omega
  ·have hob:ob'=ob:=by simp only [Heap.push,Heap.put,Heap.size] at q2;rw [ak (by simp)] at q2;simpa using q2.symm
   subst hob
   have hwm:(((⟨h.objs,h.base,h.size⟩:Heap).put i .dead).push ob').wmin=i:=by have hi':i < h.size:=hi;simp only [Heap.push,Heap.put]; omega
   rcases q4 with ⟨q5,q6,q7⟩ | ⟨q5,q6,q7⟩
   ·have hi':i < h.size:=hi;omega
   ·rw [hwm] at q6;subst q7;refine ⟨.kill i _ f hf hi hb hir e3 hy rfl q6 (by simp only [hwm]; exact gc _ _),fun h2=>by simp [Heap.push,Heap.put,Heap.size] at h2,fun ob2 _ h3=>?_,fun i2 ob2 h2=>by simp [Heap.push,Heap.put,Heap.size] at h2⟩;simp only [Heap.push,Heap.put,Heap.size] at h3;rw [ak (by simp)] at h3;simp at h3; subst h3;exact q3
 ·have hi':i < h.size:=hi;have hsz:((⟨h.objs,h.base,h.size⟩:Heap).put i ob).size=h.size:=by simp [Heap.put,Heap.size]
  have hwm:((⟨h.objs,h.base,h.size⟩:Heap).put i ob).wmin=i:=by simp only [Heap.put]; omega
  subst e2;rcases hrest with ⟨_,q1,_⟩ | ⟨ob',q1,q2,q3,q4,q5,q6⟩ | ⟨ob',q1,_⟩
  ·omega
  ·rw [hwm] at q3 q5 q6
   have hob:ob'=ob:=by have hlt:i < h.objs.length:=hi;simp only [Heap.put] at q3;rw [db,if_pos rfl,if_pos hlt] at q3;exact (dg q3).symm
   subst hob;rw [e1] at e3 hy;subst q6;refine ⟨.put i _ v hi hb hir e3 hy rfl q5 (gc _ _),fun _ i2 h2=>q4 i2 (fw _ h2),fun ob2 h2=>by simp [Heap.put,Heap.size] at h2,fun i2 ob2 _ h2 h3 j hj=>?_⟩;rw [q5] at h2; cases h2;rw [q3] at h3; cases h3;exact q4 j (gx _ hj)
  ·omega
namespace Txt
variable (T:Txt call n ops ms S H r D) (hev0:CallEvol call)
include T hev0
theorem form {x:Nat} {o:AOper} (hx:x < n) (ho:ops x=some o) (hc:o.op.isCall=false):SForm o (S x) (H x) (H (x+1)) (r x) (D x)∧(D x).isCall=false∧(D x).rd=gm o.op (S x)∧(D x).wr=none:=by
 obtain ⟨_,_,_,_,hs | hs⟩:=T.spec hev0 hx ho
 ·rw [hs.isc] at hc; cases hc
 ·exact ⟨(qk (T.soft x o hx ho) hs).1,hs.did⟩
theorem unwritten {x i:Nat} (hx:x < n) (hi:i < (H x).size) (hw:(D x).writes i=false):(H (x+1)).objs[i]? = (H x).objs[i]?:=by
 obtain ⟨o,ho⟩:=T.all x hx
 have hw2:(D x).ch≠some i∧∀ w A B,(D x).wr=some (w,A,B)→i < w∨sameAt A B i=true:=by
  unfold Did.writes at hw;simp only [Bool.or_eq_false_iff,beq_eq_false_iff_ne] at hw;refine ⟨hw.1,fun w A B h=>?_⟩;have:=hw.2;rw [h] at this;simp only [Bool.and_eq_false_iff,decide_eq_false_iff_not,Bool.not_eq_false'] at this;rcases this with h1 | h1
  ·exact .inl (by omega)
  ·exact .inr h1
 obtain ⟨_,_,_,_,hs | hs⟩:=T.spec hev0 hx ho
 ·obtain ⟨s1,g,he,_,_,h1⟩:=hs.run;have hev:=nd hev0 he
  have hgo:i < g.wmin→allSeen (ms x) 0 (dsl D x)=true→g.objs[i]? = (H x).objs[i]?:=fun h2 h3=>by have:=hev.objs i (by simp only [Heap.size,kz]; exact hi) h2;simp only [w5 _ _ 0 _ h3] at this;exact this
  rcases h1 with ⟨a1,a2,a3,a4⟩ | ⟨a1,a2,a3,a4⟩ | ⟨a1,a2,a3,a4⟩
  ·rw [a4];rcases hw2.2 _ _ _ a3 with h5 | h5
   ·exact hgo h5 a1
   ·exact sameAt_eq h5
  ·rw [a4]; exact hgo (by omega) a1
  ·rw [a4]; exact ag hi
 ·rcases (qk (T.soft x o hx ho) hs).1 with ⟨y,_,_,e,_⟩ | ⟨ob,f,_,_,_,e,_⟩ | ⟨j,ob,f,_,_,_,_,_,_,e,ec,_⟩ | ⟨j,ob,_,_,_,_,_,_,e,ec,_⟩
  ·rw [e]
  ·rw [e]; exact ag hi
  ·rw [e,ag (by rw [jh]; exact hi),ap];intro e2; subst e2; exact hw2.1 ec
  ·rw [e,ap];intro e2; subst e2; exact hw2.1 ec
abbrev sz (H:Nat→Heap) (x:Nat):Nat:=(H x).size
omit T hev0 in
theorem ql {x i:Nat} (h:upd D (sz H) H x i≠none):i < (H (x+1)).size∧((H x).size≤i∨(D x).writes i=true):=by
 unfold upd at h;split at h
 ·rename_i ht; exact ht
 ·exact absurd rfl h
theorem untouched {x y i:Nat} (hx:x < n) (hy:y < n) (hne:y≠x) (h1:(ms x).testBit y=false) (hvis:Vis ms H x i) (hnw:(D y).writes i=false):upd D (sz H) H y i=none:=by
 cases hu:upd D (sz H) H y i with
 | none=>rfl
 | some o =>
  exfalso;obtain ⟨h2,h3⟩:=ql (D:=D) (H:=H) (x:=y) (i:=i) (by rw [hu]; simp);rcases h3 with h3 | h3
  ·rcases hvis with hv | ⟨z,hz,hb,h4,h5⟩
   ·have:=T.mono hev0 (dt y) (by omega); omega
   ·have:=T.apart hev0 (by omega) hy h4 h5 h3 h2;subst this;rw [hb] at h1; cases h1
  ·rw [hnw] at h3; cases h3
omit hev0 in
theorem noclash2 {x y:Nat} (hx:x < n) (hy:y < n) (hne:y≠x) (h1:(ms x).testBit y=false) (h2:(ms y).testBit x=false):(clash (D x) (D y)=false∨clash (D y) (D x)=false)∨(y < x∧benign (H (x+1)) (D x) (D y)=true)∨(x < y∧benign (H (y+1)) (D y) (D x)=true):=by
 rcases bi y x with h | h
 ·rcases T.noclash hx h h1 with h3 | h3
  ·exact .inl (.inl h3)
  ·exact .inr (.inl ⟨h,h3⟩)
 ·rcases T.noclash hy (show x < y by omega) h2 with h3 | h3
  ·exact .inl (.inr h3)
  ·exact .inr (.inr ⟨by omega,h3⟩)
omit T hev0 in
theorem x6 {h:Heap} {x d:Did} (hb:benign h x d=true):x.isCall=true∧d.isCall=false∧d.ch=none∧d.wr=none∧again h d.ld=true:=by unfold benign at hb;simp only [av,gb,Option.isNone_iff_eq_none] at hb;exact ⟨hb.1.1.1.1,hb.1.1.1.2,hb.1.1.2,hb.1.2,hb.2⟩
omit T hev0 in
theorem ou {h:Heap} {x d:Did} (hb:benign h x d=true) (i:Nat):d.writes i=false:=by obtain ⟨_,_,h1,h2,_⟩:=x6 hb;simp [Did.writes,h1,h2]
omit T hev0 in
theorem clash_rd {x y:Did} (h:clash x y=false∨clash y x=false) (i:Nat) (hi:i ∈ x.rd++x.ch.toList):y.writes i=false:=by
 unfold clash at h;simp only [Bool.or_eq_false_iff,List.any_eq_false] at h;rcases h with h | h
 ·have:=h.2 i hi; simpa using this
 ·have:=h.1.2 i hi; simpa using this
omit T hev0 in
theorem zat {x y:Did} (h:clash x y=false∨clash y x=false) (hx:x.isCall=true):y.isCall=false∧y.ch=none:=by
 unfold clash at h;simp only [Bool.or_eq_false_iff,List.any_eq_false,Bool.and_eq_false_iff] at h;rcases h with h | h
 ·obtain ⟨⟨⟨⟨h1,h2⟩,h3⟩,h4⟩,h5⟩:=h;refine ⟨?_,?_⟩
  ·rcases h1 with h1 | h1
   ·rw [hx] at h1; cases h1
   ·exact h1
  ·rcases h3 with h3 | h3
   ·cases hq:y.ch with
    | none=>rfl
    | some j=>rw [hq] at h3; cases h3
   ·rw [hx] at h3; cases h3
 ·obtain ⟨⟨⟨⟨h1,h2⟩,h3⟩,h4⟩,h5⟩:=h;refine ⟨?_,?_⟩
  ·rcases h1 with h1 | h1
   ·exact h1
   ·rw [hx] at h1; cases h1
  ·rcases h2 with h2 | h2
   ·cases hq:y.ch with
    | none=>rfl
    | some j=>rw [hq] at h2; cases h2
   ·rw [hx] at h2; cases h2
theorem wr_call {y:Nat} (hy:y < n):(D y).isCall=false→(D y).wr=none:=by
 intro h;obtain ⟨o,ho⟩:=T.all y hy;obtain ⟨_,_,_,_,hs | hs⟩:=T.spec hev0 hy ho
 ·rw [hs.did.1] at h; cases h
 ·exact hs.did.2.2
theorem ch_rd {y i:Nat} (hy:y < n) (h:(D y).ch=some i):i ∈ (D y).rd∧i < (H y).size∧Vis ms H y i:=by
 obtain ⟨o,ho⟩:=T.all y hy;obtain ⟨⟨_,hrd⟩,_,_,_,hs | hs⟩:=T.spec hev0 hy ho
 ·rw [hs.did.2.2] at h; cases h
 ·rcases (qk (T.soft y o hy ho) hs).1 with ⟨_,_,_,_,e⟩ | ⟨_,_,_,_,_,_,e⟩ | ⟨j,_,_,_,hj,_,hr,_,_,_,e,_⟩ | ⟨j,_,_,hj,_,hr,_,_,_,e,_⟩
  ·rw [e] at h; cases h
  ·rw [e] at h; cases h
  ·rw [e] at h; cases h;exact ⟨by rw [hs.did.2.1]; exact hr,hj,(T.okId_iff hev0 hy).1 (hrd i hr)⟩
  ·rw [e] at h; cases h;exact ⟨by rw [hs.did.2.1]; exact hr,hj,(T.okId_iff hev0 hy).1 (hrd i hr)⟩
theorem cvis {x y i:Nat} (hx:x < n) (hy:y < n) (hne:y≠x) (h1:(ms x).testBit y=false) (h2:(ms y).testBit x=false) (hc:(D x).isCall=true) (hvis:Vis ms H x i):upd D (sz H) H y i=none:=by
 refine T.untouched hev0 hx hy hne h1 hvis ?_;rcases T.noclash2 hx hy hne h1 h2 with hcl | ⟨_,hb⟩ | ⟨_,hb⟩
 ·obtain ⟨q1,q2⟩:=zat hcl hc;simp [Did.writes,q2,T.wr_call hev0 hy q1]
 ·exact ou hb i
 ·rw [(x6 hb).2.1] at hc; cases hc
theorem crd {x y i:Nat} (hx:x < n) (hy:y < n) (hne:y≠x) (h1:(ms x).testBit y=false) (h2:(ms y).testBit x=false) (hi:i ∈ (D x).rd) (hvis:Vis ms H x i) (hnb:¬ (x < y∧benign (H (y+1)) (D y) (D x)=true)):upd D (sz H) H y i=none:=by
 refine T.untouched hev0 hx hy hne h1 hvis ?_;rcases T.noclash2 hx hy hne h1 h2 with hcl | ⟨_,hb⟩ | hb
 ·exact clash_rd hcl i (fw _ hi)
 ·exact ou hb i
 ·exact absurd hb hnb
theorem cww {x y i:Nat} (hx:x < n) (hy:y < n) (hne:y≠x) (h1:(ms x).testBit y=false) (h2:(ms y).testBit x=false) (hu:upd D (sz H) H x i≠none):upd D (sz H) H y i=none:=by
 cases hu2:upd D (sz H) H y i with
 | none=>rfl
 | some o =>
  exfalso;obtain ⟨a1,a2⟩:=ql hu;obtain ⟨b1,b2⟩:=ql (D:=D) (H:=H) (x:=y) (i:=i) (by rw [hu2]; simp);have hcl0:=T.noclash2 hx hy hne h1 h2
  have mk:∀ {x y:Nat},x < n→y < n→y≠x→(ms y).testBit x=false→i < (H (x+1)).size→(H x).size≤i→(D y).writes i=true→i < (H (y+1)).size→i < (H y).size→False:=by
   intro x y hx hy hne h2 a1 a2 b2 b1 b3
   have hyx:x < y:=by
    rcases Nat.lt_trichotomy x y with h | h | h
    ·exact h
    ·exact absurd h.symm hne
    ·have:=T.mono hev0 (show y≤x by omega) (by omega); omega
   unfold Did.writes at b2;simp only [ep,beq_iff_eq] at b2;rcases b2 with b2 | b2
   ·obtain ⟨_,_,hv⟩:=T.ch_rd hev0 hy b2;rcases hv with hv | ⟨z,hz,hb,h4,h5⟩
    ·have:=T.mono hev0 (dt x) (by omega); omega
    ·have:=T.apart hev0 (by omega) hx h4 h5 a2 a1;subst this;rw [hb] at h2; cases h2
   ·have:=T.writer hev0 hy (fun e=>by rw [e] at b2; cases b2) hyx (by omega);rw [this] at h2; cases h2
  by_cases a3:(H x).size≤i
  ·by_cases b3:(H y).size≤i
   ·exact hne (T.apart hev0 hy hx b3 b1 a3 a1)
   ·exact mk hx hy hne h2 a1 a3 (b2.resolve_left b3) b1 (by omega)
  ·by_cases b3:(H y).size≤i
   ·exact mk hy hx (fun e=>hne e.symm) h1 b1 b3 (a2.resolve_left a3) a1 (by omega)
   ·have a4:=a2.resolve_left a3;have b4:=b2.resolve_left b3;rcases hcl0 with hcl | ⟨_,hb⟩ | ⟨_,hb⟩;rotate_left
    ·rw [ou hb i] at b4; cases b4
    ·rw [ou hb i] at a4; cases a4
    unfold Did.writes at a4;simp only [ep,beq_iff_eq] at a4;rcases a4 with a4 | a4
    ·have:=clash_rd hcl i (gx _ (by rw [a4]; simp));rw [this] at b4; cases b4
    ·have hc:(D x).isCall=true:=by
      cases hq:(D x).isCall with
      | true=>rfl
      | false=>rw [T.wr_call hev0 hx hq] at a4; cases a4
     obtain ⟨q1,q2⟩:=zat hcl hc;simp [Did.writes,q2,T.wr_call hev0 hy q1] at b4
end Txt
end
end Go.Abs

namespace Go.Abs
section
variable {E:Env}
theorem Rel.ids {μ:MM} {h:Heap} {w:World} (hr:Rel E μ h w) {i:Nat} {o:AObj} (ho:h.objs[i]? = some o):∀ j ∈ o.ids,j < h.size:=by
 have hat:At E 0 0 μ w [] [] ⟨h.objs,h.base,μ.length⟩ { tmps:=#[],defers:=[] } w :=
  ⟨μ,⟨fun _=>0,[]⟩,Step.refl _ _ _ _,hr.same rfl rfl rfl,⟨by simp [sget],by simp [sget],by simp [sget],by simp [sget],by simp [sget],by simp [sget],by simp,by simp,by simp⟩,rfl,rfl,dt _⟩
 exact hat.ids.2.1 i o ho
theorem wo {l:List AObj} {o:AObj} {k:Nat} (h:l.length=k):(l++[o])[k]? = some o:=by subst h; simp
def restr (p:Nat→Bool) (s:Slots):Slots:=s.filter fun x=>p x.1
theorem qj (p:Nat→Bool):∀ (s:Slots) (t:Nat),sget (restr p s) t=if p t=true then sget s t else none
 | [],t=>by simp [restr,sget]
 | (u,x) :: s,t=>by
  have ih:=qj p s t;unfold restr at ih ⊢;rw [List.filter_cons];by_cases hu:p u=true
  ·rw [if_pos hu];simp only [sget];by_cases e:u=t
   ·subst e; simp [hu]
   ·rw [if_neg e,ih,if_neg e]
  ·rw [if_neg hu,ih];simp only [sget];by_cases e:u=t
   ·subst e; simp [hu]
   ·rw [if_neg e]
theorem cOper_dst {nt:Nat} {ops:Array Oper} {loc:Bool} {o:Oper} {o':AOper} (h:ng E nt ops loc o=some o'):o'.dst=o.dst∧∀ t,o.dst=some t→t < nt:=by
 unfold ng at h;split at h;case isFalse=>cases h
 rename_i hh;simp only [av] at hh;refine ⟨?_,fun t ht=>by have:=hh.1; rw [ht] at this; simpa using this⟩;split at h
 ·cases h; rfl
 ·split at h
  ·cases h; rfl
  ·cases h
theorem jt {o:AOp} (h:soft o=true):calm o=true:=by cases o <;> simp_all [soft,calm]
variable {call:CallSem} {n:Nat} {aops:Nat→Option AOper} {ms:Nat→Nat} {S:Nat→Slots} {H:Nat→Heap} {r:Nat→Slot} {D:Nat→Did}
open Txt
noncomputable def memL (D:Nat→Did) (H:Nat→Heap) (n:Nat) (L:Nat→Bool):List AObj:=(List.range (H n).size).map (mem D (sz H) H L n)
theorem kp (L:Nat→Bool):(memL D H n L).length=(H n).size:=by simp [memL]
theorem i8 {L:Nat→Bool} {i:Nat} (hi:i < (H n).size):(memL D H n L)[i]? = some (mem D (sz H) H L n i):=by simp [memL,hi]
def okL (H:Nat→Heap) (n:Nat) (L:Nat→Bool) (i:Nat):Prop:=i < (H 0).size∨∃ y,y < n∧L y=true∧(H y).size≤i∧i < (H (y+1)).size
def okA (ms:Nat→Nat) (H:Nat→Heap) (n y i:Nat):Prop:=i < (H 0).size∨∃ z,z < n∧(z=y∨(ms y).testBit z=true)∧(H z).size≤i∧i < (H (z+1)).size
structure Inv (E:Env) (lo nt:Nat) (μ0:MM) (w0:World) (ds:List Deferred) (n:Nat) (ms:Nat→Nat) (H:Nat→Heap) (r:Nat→Slot) (D:Nat→Did) (L:Nat→Bool) (sD:Slots) (a:Act) (w:World):Prop where
 at':At E lo nt μ0 w0 ds sD ⟨memL D H n L,(H 0).base,(H n).wmin⟩ a w
 slots:∀ t y,sget sD t=some y→∀ i ∈ y.ids,okL H n L i
 vars:∀ t cs,sget sD t=some (.var cs)→∀ i ∈ AVal.idsL cs,i < (H 0).size
 down:∀ x y,x < n→L x=true→(ms x).testBit y=true→L y=true
 upds:∀ y,y < n→L y=true→(∀ i o,upd D (sz H) H y i=some o→∀ j ∈ o.ids,okA ms H n y j)∧∀ j ∈ (r y).ids,okA ms H n y j
variable {lo nt:Nat} {μ0:MM} {w0:World} {ds:List Deferred} {ops:Array Oper} {Q:Exit→Act→World→Prop} {ro:Option Nat}
structure Up (n:Nat) (ms:Nat→Nat) (L:Nat→Bool) (x:Nat):Prop where
 lt:x < n
 not:L x=false
 below:∀ y,y < n→(ms x).testBit y=true→L y=true
 above:∀ y,y < n→L y=true→(ms y).testBit x=false
section
variable (T:Txt call n aops ms S H r D) (hev0:CallEvol call)
include T hev0
omit T hev0 in
theorem Inv.objs {L:Nat→Bool} {sD:Slots} {a:Act} {w:World} (h0:∀ (i:Nat) o,(H 0).objs[i]? = some o→∀ j ∈ o.ids,j < (H 0).size) (hI:Inv E lo nt μ0 w0 ds n ms H r D L sD a w) (i:Nat):∀ j ∈ (mem D (sz H) H L n i).ids,okL H n L j:=by
 intro j hj;rcases th (D:=D) (sz:=sz H) (H:=H) (L:=L) (i:=i) n with ⟨h1,_⟩ | ⟨y,o,h1,h2,h3,h4⟩
 ·rw [h1] at hj;cases hq:(H 0).objs[i]? with
  | none=>rw [hq] at hj; simp [AObj.ids] at hj
  | some o=>rw [hq] at hj; exact .inl (h0 i o hq j hj)
 ·rw [h4] at hj;rcases (hI.upds y h1 h2).1 i o h3 j hj with h5 | ⟨z,hz,h5,h6⟩
  ·exact .inl h5
  ·rcases h5 with rfl | h5
   ·exact .inr ⟨z,hz,h2,h6⟩
   ·exact .inr ⟨z,hz,hI.down y z h1 h2 h5,h6⟩
theorem mem_at {L:Nat→Bool} {q i:Nat} (hq:q≤n) (h:∀ y,y < n→upd D (sz H) H y i≠none→L y=decide (y < q)):mem D (sz H) H L n i=((H q).objs[i]?).getD .dead:=by rw [← zaw (D:=D) (sz:=sz H) (H:=H) (i:=i) (n:=n) (fun _=>rfl) (fun y hy=>(T.evol hev0 hy).size) (fun y i hy hi hw=>T.unwritten hev0 hy hi hw) q hq];obtain ⟨k,rfl⟩:∃ k,n=q+k:=⟨n - q,by omega⟩;rw [← zax q k];exact qm _ fun y hy hu=>h y hy hu
theorem mem_same {L:Nat→Bool} {x i:Nat} (hU:Up n ms L x) (h:∀ y,y < n→y≠x→(ms x).testBit y=false→(ms y).testBit x=false→(x < y→L y=true)→upd D (sz H) H y i=none) :
  mem D (sz H) H L n i=((H x).objs[i]?).getD .dead:=by
 have hx:=hU.lt;refine mem_at T hev0 (by omega) fun y hy hu=>?_
 by_cases e:y=x
 ·subst e; rw [hU.not]; simp
 ·cases hb:(ms x).testBit y with
  | true =>
   rw [hU.below y hy hb];have:=T.back x y hx hb;simp [this]
  | false =>
   cases hb2:(ms y).testBit x with
   | true =>
    have h1:=T.back y x hy hb2;cases hl:L y with
    | false=>simp; omega
    | true =>
     have:=hU.above y hy hl;rw [hb2] at this; cases this
   | false =>
    by_cases hl:x < y→L y=true
    ·exact absurd (h y hy e hb hb2 hl) hu
    ·have hxy:x < y:=Classical.byContradiction fun hh=>hl fun h=>absurd h hh
     have:L y=false:=by
      cases hq:L y with
      | false=>rfl
      | true=>exact absurd (fun _=>hq) hl
     rw [this]; simp; omega
def Late (n:Nat) (H:Nat→Heap) (D:Nat→Did) (L:Nat→Bool) (x y:Nat):Prop:=y < n∧L y=true∧x < y∧benign (H (y+1)) (D y) (D x)=true∧∃ i,i ∈ (D x).rd∧upd D (sz H) H y i≠none
omit T hev0 in
theorem late_max {L:Nat→Bool} {x:Nat}:∀ (k y:Nat),n - y≤k→Late n H D L x y→∃ z,Late n H D L x z∧∀ u,z < u→¬ Late n H D L x u
 | 0,y,hk,h=>absurd h.1 (by omega)
 | k+1,y,hk,h=>by
  by_cases hu:∃ u,y < u∧Late n H D L x u
  ·obtain ⟨u,h1,h2⟩:=hu;exact late_max k u (by have:=h2.1; omega) h2
  ·exact ⟨y,h,fun u hyu hl=>hu ⟨u,hyu,hl⟩⟩
theorem wp {L:Nat→Bool} {x i:Nat} {o:AObj} (hU:Up n ms L x) (hu:upd D (sz H) H x i=some o):mem D (sz H) H (fun y=>y == x || L y) n i=o:=by
 refine zay hU.lt hu fun y hy hxy hl=>?_
 refine T.cww hev0 hU.lt hy (by omega) ?_ (hU.above y hy hl) (by rw [hu]; simp);cases hb:(ms x).testBit y with
 | false=>rfl
 | true=>have:=T.back x y hU.lt hb; omega
theorem okL_new {L:Nat→Bool} {x i:Nat} (hU:Up n ms L x) (h:okL H n L i):¬ ((H x).size≤i∧i < (H (x+1)).size):=by
 rintro ⟨h1,h2⟩;rcases h with h | ⟨y,hy,hl,h3,h4⟩
 ·have:=T.mono hev0 (dt x) (by have:=hU.lt; omega); omega
 ·have:=T.apart hev0 hU.lt hy h1 h2 h3 h4;subst this;rw [hU.not] at hl; cases hl
theorem okL_lt {L:Nat→Bool} {i:Nat} (h:okL H n L i):i < (H n).size:=by
 rcases h with h | ⟨y,hy,hl,h3,h4⟩
 ·exact gl h (T.mono hev0 (dt n) (ai _))
 ·exact gl h4 (T.mono hev0 hy (ai _))
omit hev0 in
theorem Inv.next {L:Nat→Bool} {sD:Slots} {a a':Act} {w w':World} {x:Nat} {o':AOper} (hU:Up n ms L x) (ho:aops x=some o') (hI:Inv E lo nt μ0 w0 ds n ms H r D L sD a w)
  (hat:At E lo nt μ0 w0 ds (a8 o'.dst (r x) sD) ⟨memL D H n (fun y=>y == x || L y),(H 0).base,(H n).wmin⟩ a' w')
  (hr:∀ j ∈ (r x).ids,okA ms H n x j) (hu:∀ i o,upd D (sz H) H x i=some o→∀ j ∈ o.ids,okA ms H n x j) (hrv:∀ cs,r x ≠ .var cs):Inv E lo nt μ0 w0 ds n ms H r D (fun y=>y == x || L y) (a8 o'.dst (r x) sD) a' w':=by
 have up:∀ {i},okL H n L i→okL H n (fun y=>y == x || L y) i:=fun h=>by
  rcases h with h | ⟨y,hy,hl,h3⟩
  ·exact .inl h
  ·exact .inr ⟨y,hy,by simp [hl],h3⟩
 have dn:∀ {j},okA ms H n x j→okL H n (fun y=>y == x || L y) j:=fun h=>by
  rcases h with h | ⟨z,hz,h1,h2⟩
  ·exact .inl h
  ·rcases h1 with rfl | h1
   ·exact .inr ⟨z,hz,by simp,h2⟩
   ·exact .inr ⟨z,hz,by simp [hU.below z hz h1],h2⟩
 refine ⟨hat,fun t y hy i hi=>?_,fun t cs hy i hi=>?_,fun y z hy hl hb=>?_,fun y hy hl=>?_⟩
 ·rw [fg] at hy;split at hy
  ·cases hy; exact dn (hr i hi)
  ·exact up (hI.slots t y hy i hi)
 ·rw [fg] at hy;split at hy
  ·exact absurd (dg hy) (hrv cs)
  ·exact hI.vars t cs hy i hi
 ·simp only [ep,beq_iff_eq] at hl ⊢;rcases hl with rfl | hl
  ·by_cases hz:z < n
   ·exact .inr (hU.below z hz hb)
   ·have:=T.back y z hy hb; omega
  ·exact .inr (hI.down y z hy hl hb)
 ·simp only [ep,beq_iff_eq] at hl;rcases hl with rfl | hl
  ·exact ⟨hu,hr⟩
  ·exact hI.upds y hy hl
theorem mem_new {L:Nat→Bool} {x i:Nat} (hU:Up n ms L x) (h1:(H x).size≤i) (h2:i < (H (x+1)).size):mem D (sz H) H L n i = .dead:=by
 have hx:=hU.lt
 have hu:upd D (sz H) H x i≠none:=by unfold upd;rw [if_pos (show touched D (sz H) x i from ⟨h2,.inl h1⟩),ah (show i < (H (x+1)).objs.length from h2)];simp
 rcases th (D:=D) (sz:=sz H) (H:=H) (L:=L) (i:=i) n with ⟨h3,_⟩ | ⟨y,o,h3,h4,h5,_⟩
 ·rw [h3,dc]
  ·rfl
  ·have:=T.mono hev0 (dt x) (by omega);show (H 0).size≤i;omega
 ·exfalso;have hne:y≠x:=fun e=>by subst e; rw [hU.not] at h4; cases h4
  have hb2:=hU.above y h3 h4;cases hb:(ms x).testBit y with
  | false =>
   have:=T.cww hev0 hx h3 hne hb hb2 hu;rw [h5] at this; cases this
  | true =>
   have hyx:=T.back x y hx hb;obtain ⟨u1,_⟩:=ql (D:=D) (H:=H) (x:=y) (i:=i) (by rw [h5]; simp);have:=T.mono hev0 (show y+1≤x from hyx) (by omega);omega
omit T hev0 in
theorem load_run {call:CallSem} {o:AOper} {d:Nat} {k:Option Nat} {a:Opd} {s:Slots} {h:Heap} {i off:Nat} {v:AVal} (h1:o.guard=none) (h2:o.dst=some d) (h3:o.op = .load k a) (h4:a.adr s=some (.glob i off)) (h5:loadAt [] h (.glob i off) k=some v) :
  ew call o s h=some (a8 o.dst (.val v) s,h):=by
 unfold ew evRun;rw [h1,h3];simp only [dm,h4];have:loadAt s h (.glob i off) k=some v:=h5;rw [this]; rfl
omit T hev0 in
theorem load_keeps {call:CallSem} {o:AOper} {k:Option Nat} {a:Opd} {s s':Slots} {h h':Heap} (h1:o.guard=none) (h3:o.op = .load k a) (e:ew call o s h=some (s',h')):h'=h:=by
 unfold ew evRun at e;rw [h1,h3] at e;simp only [dm] at e;cases hq:a.adr s with
 | none=>rw [hq] at e; cases e
 | some ad =>
  rw [hq] at e;cases hl:loadAt s h ad k with
  | none=>simp [ok1,hl] at e
  | some v=>simp [ok1,hl] at e; exact e.2.symm
theorem soft_late (hg:GidOK E) (h0:∀ (i:Nat) o,(H 0).objs[i]? = some o→∀ j ∈ o.ids,j < (H 0).size) (hμ0:μ0.length≤(H 0).size) (hbase0:(H 0).base≤(H 0).size) {L:Nat→Bool} {sD:Slots} {a:Act} {w:World} {x:Nat} {loc:Bool} {o:Oper} {o':AOper} (hU:Up n ms L x)
  (ho:aops x=some o') (hop:ng E nt ops loc o=some o') (hc:o'.op.isCall=false) (hrv:∀ cs,r x ≠ .var cs) (hag:Agree (S x) sD o'.reads) (hI:Inv E lo nt μ0 w0 ds n ms H r D L sD a w)
  (next:Act→World→Prop) (hn:∀ a' w',Inv E lo nt μ0 w0 ds n ms H r D (fun y=>y == x || L y) (a8 o'.dst (r x) sD) a' w'→next a' w')
  (hP:∃ y,Late n H D L x y) :
  if Region.wanted o (yielded ops a.tmps) then o.wpIn (F0 ro) 0 E.P a w next Q else next (a.put o.dst Go.undef) w:=by
 have hx:=hU.lt;obtain ⟨y0,hl0⟩:=hP;obtain ⟨y,hl,hmax⟩:=late_max n y0 (by omega) hl0;obtain ⟨hy,hLy,hxy,hbn,i0,hi0,hu0⟩:=hl;obtain ⟨hcl,hnc,hch,hwr,hag2⟩:=x6 hbn;have hb:(H (y+1)).base=(H 0).base:=T.base hev0 (by omega);have hsz0:(H 0).size≤(H x).size:=T.mono hev0 (dt x) (by omega);obtain ⟨hform,hd1,hd2,hd3⟩:=T.form hev0 hx ho hc;obtain ⟨⟨hrok,hrd⟩,_,_,_,hsp⟩:=T.spec hev0 hx ho;have hsoft:=T.soft x o' hx ho
 have hone:OneSoft (H 0).size (ms x) (dsl D x) o' (S x) (H x) (r x) (H (x+1)) (D x):=by
  rcases hsp with h | h
  ·rw [h.isc] at hc; cases hc
  ·exact h
 obtain ⟨_,hids1,hids2,hids3⟩:=qk hsoft hone
 have hld:∃ d k a i off v,o'.guard=none∧o'.dst=some d∧o'.op = .load k a∧a.adr (S x)=some (.glob i off)∧r x = .val v∧loadAt [] (H (y+1)) (.glob i off) k=some v:=by
  have h1:=hone.ld;rw [h1] at hag2;unfold ldOf at hag2;split at hag2;case h_2=>simp [again] at hag2
  rename_i k a hop';split at hag2;case h_2=>simp [again] at hag2
  rename_i d hg' hd';split at hag2;case h_2=>simp [again] at hag2
  rename_i i off v had hrx;simp only [again] at hag2;split at hag2;case h_2=>cases hag2
  rename_i u hu;have:=AVal.eq_of hag2;subst this;exact ⟨d,k,a,i,off,u,hg',hd',hop',had,hrx,hu⟩
 obtain ⟨d,k,a,i,off,v,hg',hd',hop',had,hrx,hload⟩:=hld
 have hrds:gm o'.op (S x)=[i]:=by
  unfold Opd.adr at had;split at had;case h_2=>cases had
  rename_i t;split at had <;> cases had
  rename_i hs;rw [hop'];simp [gm,fk,Opd.ev,hs,AVal.ids]
 have hii:i0=i:=by rw [hd2,hrds] at hi0;simpa using hi0
 subst hii;have hvis:=(T.okId_iff hev0 hx).1 (hrd i0 (by rw [hrds]; simp));have hkeep:∀ {s' h'},ew noCall o' (S x) ⟨(H x).objs,(H x).base,(H x).size⟩=some (s',h')→h'=⟨(H x).objs,(H x).base,(H x).size⟩:=fun e=>load_keeps hg' hop' e
 have hnone:H (x+1)=H x∧(D x).ch=none:=by
  rcases hform with ⟨x0,e1,e2,e3,e4⟩ | ⟨ob,f,hf,e1,e2,e3,e4⟩ | ⟨j,ob,f,hf,hi,hib,hir,e1,e2,e3,e4,e5⟩ | ⟨j,ob,v,hi,hib,hir,e1,e2,e3,e4,e5⟩
  ·exact ⟨e3,e4⟩
  ·exfalso; have:=congrArg Heap.size (hkeep e1); simp [Heap.size,Heap.push] at this
  ·rw [hch] at e4; cases e4
  ·rw [hch] at e4; cases e4
 obtain ⟨e3,e4⟩:=hnone
 have hno:∀ j,upd D (sz H) H x j=none:=fun j=>by
  cases hu:upd D (sz H) H x j with
  | none=>rfl
  | some o2 =>
   exfalso;obtain ⟨u1,u2⟩:=ql (D:=D) (H:=H) (x:=x) (i:=j) (by rw [hu]; simp);rw [e3] at u1;rcases u2 with u2 | u2
   ·omega
   ·simp [Did.writes,e4,hd3] at u2
 have hmem:mem D (sz H) H L n i0=((H (y+1)).objs[i0]?).getD .dead:=by
  refine mem_at T hev0 (by omega) fun z hz hu=>?_
  by_cases hzx:z=x
  ·subst hzx; exact absurd (hno i0) hu
  ·rcases bi y z with hyz | hyz
   ·rw [decide_eq_false (by omega)];cases hLz:L z with
    | false=>rfl
    | true =>
     exfalso;have b2:=hU.above z hz hLz
     have b1:(ms x).testBit z=false:=by
      cases hq:(ms x).testBit z with
      | false=>rfl
      | true=>have:=T.back x z hx hq; omega
     by_cases hnb:x < z∧benign (H (z+1)) (D z) (D x)=true
     ·exact hmax z hyz ⟨hz,hLz,hnb.1,hnb.2,i0,hi0,hu⟩
     ·exact hu (T.crd hev0 hx hz hzx b1 b2 hi0 hvis hnb)
   ·rw [decide_eq_true (by omega)];cases hLz:L z with
    | true=>rfl
    | false =>
     exfalso;have hzy:z≠y:=fun e=>by rw [e,hLy] at hLz; cases hLz
     have b1:(ms y).testBit z=false:=by
      cases hq:(ms y).testBit z with
      | false=>rfl
      | true=>have:=hI.down y z hy hLy hq; rw [hLz] at this; cases this
     have b2:(ms z).testBit y=false:=by
      cases hq:(ms z).testBit y with
      | false=>rfl
      | true=>have:=T.back z y hz hq; omega
     exact hu (T.cww hev0 hy hz hzy b1 b2 hu0)
 have hlt:i0 < (H (y+1)).size:=by
  have h1:i0 < (H x).size:=by
   rcases hvis with hv | ⟨z,hz,_,_,h4⟩
   ·omega
   ·have:=T.mono hev0 (show z+1≤x from hz) (by omega); omega
  have:=T.mono hev0 (show x≤y+1 by omega) (by omega);omega
 have hszn:(H (y+1)).size≤(H n).size:=T.mono hev0 hy (ai _);let W:=max (H n).size (H n).wmin
 have hW:(H n).wmin≤W:=Nat.le_max_right _ _
 have hheap:∀ {sX:Slots},gm o'.op sX=gm o'.op (S x)→∀ z ∈ fk o'.op,∀ v,z.ev sX=some v→∀ i ∈ v.ids,(⟨memL D H n L,(H 0).base,W⟩:Heap).get i=(⟨(H (y+1)).objs,(H (y+1)).base,(H (y+1)).size⟩:Heap).get i:=by
  intro sX hr' z hz v hv j hj;have h1:j ∈ gm o'.op (S x):=by rw [← hr']; exact rdIds_mem hz hv hj
  rw [hrds] at h1;have:j=i0:=by simpa using h1
  subst this;simp only [Heap.get];rw [i8 (by omega),hmem];have h2':j < (H (y+1)).objs.length:=hlt;rw [ah h2']; rfl
 have hrd':=y9 (o:=o'.op) (S:=S x) (S2:=sD) (hag.sub fun t ht=>fw _ ht);have e1:ew noCall o' (S x) ⟨(H (y+1)).objs,(H (y+1)).base,(H (y+1)).size⟩=some (a8 o'.dst (.val v) (S x),⟨(H (y+1)).objs,(H (y+1)).base,(H (y+1)).size⟩):=load_run hg' hd' hop' had hload;obtain ⟨x1,c1,c2,_⟩:=js (jt hsoft) hag e1
 have okV:∀ {i},okId (H 0).size (ms x) (dsl D x) i=true→okA ms H n x i:=fun h=>by
  rcases (T.okId_iff hev0 hx).1 h with h | ⟨z,hz,hb',h2⟩
  ·exact .inl h
  ·exact .inr ⟨z,by omega,.inr hb',h2⟩
 rcases ph (h1:=⟨(H (y+1)).objs,(H (y+1)).base,(H (y+1)).size⟩) (h2:=⟨memL D H n L,(H 0).base,W⟩) hsoft hc hb.symm (hheap hrd') c2 with ⟨x2,d1,_,d3⟩ | ⟨ob,f,_,_,d3,_⟩ | ⟨j,ob,f,_,_,_,_,_,d3,_⟩ | ⟨j,ob,_,_,hi2,_,_,d3,_⟩
 ·refine qn hg hop d3 hW hI.at' fun a' w' hat'=>hn a' w' ?_
  have hmemL:memL D H n (fun y=>y == x || L y)=memL D H n L:=by unfold memL;apply List.map_congr_left;intro j _;exact jz (hno j)
  have hslot:a8 o'.dst (r x) sD=a8 o'.dst x2 sD:=by
   have:a8 o'.dst (r x) sD=a8 o'.dst (gr o'.dst (a8 o'.dst (.val v) (S x))) sD:=by rw [hrx,my]
   rw [this,c1,my,d1]
  exact Inv.next T hU ho hI (by rw [hmemL,hslot]; exact hat') (fun j hj=>okV (hids1 (by rw [e3]) j hj)) (fun j o2 hu=>by rw [hno j] at hu; cases hu) hrv
 ·exfalso; have:=congrArg Heap.size d3; simp [Heap.size,Heap.push] at this
 ·exfalso; have:=congrArg Heap.size d3; simp [Heap.size,Heap.push,Heap.put] at this
 ·exfalso;have:=congrArg Heap.wmin d3;have hi2':j < (H (y+1)).size:=hi2;simp only [Heap.put] at this;omega
theorem soft_up (hg:GidOK E) (h0:∀ (i:Nat) o,(H 0).objs[i]? = some o→∀ j ∈ o.ids,j < (H 0).size) (hμ0:μ0.length≤(H 0).size) (hbase0:(H 0).base≤(H 0).size) {L:Nat→Bool} {sD:Slots} {a:Act} {w:World} {x:Nat} {loc:Bool} {o:Oper} {o':AOper} (hU:Up n ms L x)
  (ho:aops x=some o') (hop:ng E nt ops loc o=some o') (hc:o'.op.isCall=false) (hrv:∀ cs,r x ≠ .var cs) (hag:Agree (S x) sD o'.reads) (hI:Inv E lo nt μ0 w0 ds n ms H r D L sD a w)
  (next:Act→World→Prop) (hn:∀ a' w',Inv E lo nt μ0 w0 ds n ms H r D (fun y=>y == x || L y) (a8 o'.dst (r x) sD) a' w'→next a' w') :
  if Region.wanted o (yielded ops a.tmps) then o.wpIn (F0 ro) 0 E.P a w next Q else next (a.put o.dst Go.undef) w:=by
 have hx:=hU.lt;have hb:(H x).base=(H 0).base:=T.base hev0 (by omega);have hszx:(H x).size≤(H (x+1)).size:=(T.evol hev0 hx).size;have hszn:(H (x+1)).size≤(H n).size:=T.mono hev0 hx (ai _);have h0x:(H 0).size≤(H x).size:=T.mono hev0 (dt x) (by omega);have hbase:(H 0).base≤(H x).size:=by omega
 obtain ⟨hform,hd1,hd2,hd3⟩:=T.form hev0 hx ho hc;obtain ⟨⟨hrok,hrd⟩,_,_,_,hsp⟩:=T.spec hev0 hx ho;have hsoft:=T.soft x o' hx ho
 have hone:OneSoft (H 0).size (ms x) (dsl D x) o' (S x) (H x) (r x) (H (x+1)) (D x):=by
  rcases hsp with h | h
  ·rw [h.isc] at hc; cases hc
  ·exact h
 obtain ⟨_,hids1,hids2,hids3⟩:=qk hsoft hone
 have okV:∀ {i},okId (H 0).size (ms x) (dsl D x) i=true→okA ms H n x i:=fun h=>by
  rcases (T.okId_iff hev0 hx).1 h with h | ⟨z,hz,hb',h2⟩
  ·exact .inl h
  ·exact .inr ⟨z,by omega,.inr hb',h2⟩
 have okVL:∀ {i},okId (H 0).size (ms x) (dsl D x) i=true→okL H n L i:=fun h=>by
  rcases (T.okId_iff hev0 hx).1 h with h | ⟨z,hz,hb',h2⟩
  ·exact .inl h
  ·exact .inr ⟨z,by omega,hU.below z (by omega) hb',h2⟩
 by_cases hP:∃ y,Late n H D L x y
 ·exact soft_late T hev0 hg h0 hμ0 hbase0 hU ho hop hc hrv hag hI next hn hP
 have hlook:∀ i ∈ (D x).rd,i < (H x).size∧mem D (sz H) H L n i=((H x).objs[i]?).getD .dead:=fun i hi=>by
  rw [hd2] at hi;have hv:=(T.okId_iff hev0 hx).1 (hrd i hi);refine ⟨?_,mem_same T hev0 hU fun y hy hne h1 h2 hxl=>?_⟩;rotate_left
  ·by_cases hnb:x < y∧benign (H (y+1)) (D y) (D x)=true
   ·cases hu:upd D (sz H) H y i with
    | none=>rfl
    | some o=>exact absurd ⟨y,hy,hxl hnb.1,hnb.1,hnb.2,i,by rw [hd2]; exact hi,by rw [hu]; simp⟩ hP
   ·exact T.crd hev0 hx hy hne h1 h2 (by rw [hd2]; exact hi) hv hnb
  rcases hv with hv | ⟨z,hz,_,_,h4⟩
  ·omega
  ·have:=T.mono hev0 (show z+1≤x from hz) (by omega); omega
 have hheap:∀ {sX:Slots},gm o'.op sX=gm o'.op (S x)→∀ y ∈ fk o'.op,∀ v,y.ev sX=some v→∀ i ∈ v.ids,(⟨memL D H n L,(H 0).base,(H n).size⟩:Heap).get i=(⟨(H x).objs,(H x).base,(H x).size⟩:Heap).get i:=by
  intro sX hr' y hy v hv i hi;have h1:i ∈ (D x).rd:=by rw [hd2,← hr']; exact rdIds_mem hy hv hi
  obtain ⟨h2,h3⟩:=hlook i h1;simp only [Heap.get];rw [i8 (by omega),h3];have h2':i < (H x).objs.length:=h2;rw [ah h2']; rfl
 have hrd':=y9 (o:=o'.op) (S:=S x) (S2:=sD) (hag.sub fun t ht=>fw _ ht);have hwn:(H n).wmin≤(H (x+1)).wmin:=T.wmin hev0 hx (ai _);let W:=max (H n).size (H n).wmin
 have hW:(H n).wmin≤W:=Nat.le_max_right _ _;have hml:(memL D H n L).length=(H n).size:=kp L;have hne:∀ {i},(H x).size < (H (x+1)).size→okL H n L i→i < (H n).size∧i≠(H x).size:=fun h1 h=>⟨okL_lt T hev0 h,fun e=>okL_new T hev0 hU h ⟨by omega,by omega⟩⟩
 have hobj:∀ (k:Nat) (ob:AObj),(memL D H n L)[k]? = some ob→∀ i ∈ ob.ids,okL H n L i:=fun k ob hk i hi=>by
  have hk':k < (H n).size:=by rw [← hml]; exact aj hk
  rw [i8 hk'] at hk; cases hk;exact hI.objs h0 k i hi
 have hdst:=cOper_dst hop;rcases hform with ⟨x0,e1,e2,e3,e4⟩ | ⟨ob,f,hf,e1,e2,e3,e4⟩ | ⟨i,ob,f,hf,hi,hib,hir,e1,e2,e3,e4,e5⟩ | ⟨i,ob,v,hi,hib,hir,e1,e2,e3,e4,e5⟩
 ·-- nothing is made
  obtain ⟨x1,c1,c2,_⟩:=js (jt hsoft) hag e1;rcases ph (h1:=⟨(H x).objs,(H x).base,(H x).size⟩) (h2:=⟨memL D H n L,(H 0).base,W⟩) hsoft hc hb.symm (hheap hrd') c2 with ⟨x2,d1,_,d3⟩ | ⟨ob,f,_,_,d3,_⟩ | ⟨i,ob,f,_,_,_,_,_,d3,_⟩ | ⟨i,ob,_,_,hi2,_,_,d3,_⟩
  ·refine qn hg hop d3 hW hI.at' fun a' w' hat'=>hn a' w' ?_
   have hno:∀ j,upd D (sz H) H x j=none:=fun j=>by
    cases hu:upd D (sz H) H x j with
    | none=>rfl
    | some o2 =>
     exfalso;obtain ⟨u1,u2⟩:=ql (D:=D) (H:=H) (x:=x) (i:=j) (by rw [hu]; simp);rw [e3] at u1;rcases u2 with u2 | u2
     ·omega
     ·simp [Did.writes,e4,hd3] at u2
   have hmem:memL D H n (fun y=>y == x || L y)=memL D H n L:=by unfold memL;apply List.map_congr_left;intro j _;exact jz (hno j)
   have hslot:a8 o'.dst (r x) sD=a8 o'.dst x2 sD:=by rw [e2,c1,my,d1]
   refine Inv.next T hU ho hI (by rw [hmem,hslot]; exact hat') (fun j hj=>okV (hids1 (by rw [e3]) j hj)) (fun j o2 hu=>by rw [hno j] at hu; cases hu) hrv
  ·exfalso; have:=congrArg Heap.size d3; simp [Heap.size,Heap.push] at this
  ·exfalso; have:=congrArg Heap.size d3; simp [Heap.size,Heap.push,Heap.put] at this
  ·exfalso;have:=congrArg Heap.wmin d3;have hi2':i < (H x).size:=hi2;simp only [Heap.put] at this;omega
 ·-- an object is made
  have hsz1:(H (x+1)).size=(H x).size+1:=by simp [Heap.size,e3]
  obtain ⟨x1,c1,c2,_⟩:=js (jt hsoft) hag e1;rcases ph (h1:=⟨(H x).objs,(H x).base,(H x).size⟩) (h2:=⟨memL D H n L,(H 0).base,W⟩) hsoft hc hb.symm (hheap hrd') c2 with ⟨x2,_,d2,_⟩ | ⟨ob2,f2,hf2,d1,d3,d4⟩ | ⟨i2,ob2,f2,_,_,hi2,_,_,d3,_⟩ | ⟨i2,ob2,_,_,hi2,_,_,d3,_⟩
  ·exfalso; have:=congrArg Heap.size d2; simp [Heap.size,Heap.push] at this
  ·have hob:ob2=ob:=by have:=congrArg Heap.objs d3;simp [Heap.push] at this;exact this.symm
   subst hob
   have hupd:∀ j,upd D (sz H) H x j=if j=(H x).size then some ob2 else none:=fun j=>by
    unfold upd touched;by_cases hj:j=(H x).size
    ·subst hj;rw [if_pos ⟨by rw [show sz H (x+1)=(H (x+1)).size from rfl,hsz1]; omega,.inl (ai _)⟩,if_pos rfl,e3]; exact wo rfl
    ·rw [if_neg hj,if_neg];rintro ⟨h1,h2 | h2⟩
     ·have h1':j < (H (x+1)).size:=h1;have h2':(H x).size≤j:=h2;omega
     ·simp [Did.writes,e4,hd3] at h2
   have hobids:=hids2 ob2 hsz1 (by rw [e3]; exact wo rfl)
   have hslot:a8 o'.dst (r x) sD=a8 o'.dst (f2 (H x).size) sD:=by rw [e2,c1,my,d1]; rfl
   refine qn hg hop d4 (by simp only [Heap.push]; exact hW) hI.at' fun a' w' hat'=>hn a' w' ?_
   have hmv:=At.move (N:=(H n).size) (r:=(H x).size) (h:=⟨memL D H n L,(H 0).base,(H n).wmin⟩) (x:=f2 (H n).size) (ob:=ob2) (wm:=(H n).wmin) (d:=o'.dst) (s:=sD) (by
     have:(⟨memL D H n L,(H 0).base,W⟩:Heap).size=(H n).size:=hml;rw [this] at hat'; exact hat') hml (by rw [i8 (by omega),mem_new T hev0 hU (ai _) (by omega)]) (by
     have:(H 0).base≤(H x).size:=hbase;exact this) (by omega) (fun t y hy i hi=>hne (by omega) (hI.slots t y hy i hi)) (fun v hv i hi=>by
     have:=hf2.ids (H n).size;rw [hv] at this;simp only [Slot.ids] at this;rw [this] at hi;simp at hi; omega) (fun cs=>hf2.novar _ cs) (fun i hi=>hne (by omega) (okVL (hobids i hi))) (fun k o2 hk i hi=>hne (by omega) (hobj k o2 hk i hi))
   rw [hf2.ren,← hslot] at hmv
   have hmem:(memL D H n L).set (H x).size ob2=memL D H n (fun y=>y == x || L y):=by
    apply kv;intro j;rcases bi j (H n).size with hj | hj
    ·rw [i8 hj];by_cases ej:j=(H x).size
     ·subst ej;rw [db,if_pos rfl,if_pos (by omega),wp T hev0 hU (by rw [hupd,if_pos rfl])]
     ·rw [ap (fun e=>ej e.symm),i8 hj,jz (by rw [hupd,if_neg ej])]
    ·rw [dc (by simp [hml]; exact hj),dc (by rw [kp]; exact hj)]
   simp only [hmem] at hmv;refine Inv.next T hU ho hI hmv (fun j hj=>?_) (fun j o2 hu k hk=>?_) hrv
   ·refine .inr ⟨x,hx,.inl rfl,?_⟩
    have:r x=f (H x).size∨r x = .undef:=by
     rw [e2];cases o'.dst with
     | none=>exact .inr rfl
     | some d=>exact .inl (by simp [gr,a8,sget])
    rcases this with e | e
    ·rw [e,hf.ids] at hj; simp at hj; omega
    ·rw [e] at hj; simp [Slot.ids] at hj
   ·rw [hupd] at hu;split at hu
    ·cases hu; exact okV (hobids k hk)
    ·cases hu
  ·exfalso;have:=congrArg Heap.wmin d3;have hi2':i2 < (H x).size:=hi2;simp [Heap.push,Heap.put] at this;omega
  ·exfalso; have:=congrArg Heap.size d3; simp [Heap.size,Heap.push,Heap.put] at this
 ·-- an object is made,another one is gone
  have hsz1:(H (x+1)).size=(H x).size+1:=by simp [Heap.size,e3]
  obtain ⟨x1,c1,c2,_⟩:=js (jt hsoft) hag e1;rcases ph (h1:=⟨(H x).objs,(H x).base,(H x).size⟩) (h2:=⟨memL D H n L,(H 0).base,W⟩) hsoft hc hb.symm (hheap hrd') c2 with ⟨x2,_,d2,_⟩ | ⟨ob2,f2,hf2,d1,d3,d4⟩ | ⟨i2,ob2,f2,hf2,_,hi2,_,d1,d3,d4⟩ | ⟨i2,ob2,_,_,hi2,_,_,d3,_⟩
  ·exfalso; have:=congrArg Heap.size d2; simp [Heap.size,Heap.push,Heap.put] at this
  ·exfalso;have:=congrArg Heap.wmin d3;simp [Heap.push,Heap.put] at this;omega
  rotate_left
  ·exfalso; have:=congrArg Heap.size d3; simp [Heap.size,Heap.push,Heap.put] at this
  ·have hi2':i2 < (H x).size:=hi2
   have hii:i2=i:=by have:=congrArg Heap.wmin d3;simp [Heap.push,Heap.put] at this;omega
   subst hii
   have hob:ob2=ob:=by have:=congrArg Heap.objs d3;simp [Heap.push,Heap.put] at this;exact this.symm
   subst hob
   have hupd:∀ j,upd D (sz H) H x j=if j=(H x).size then some ob2 else if j=i2 then some .dead else none:=fun j=>by
    unfold upd touched;by_cases hj:j=(H x).size
    ·subst hj;rw [if_pos ⟨by rw [show sz H (x+1)=(H (x+1)).size from rfl,hsz1]; omega,.inl (ai _)⟩,if_pos rfl,e3]; exact wo (jh ..)
    ·rw [if_neg hj];by_cases hj2:j=i2
     ·subst hj2;rw [if_pos ⟨by rw [show sz H (x+1)=(H (x+1)).size from rfl,hsz1]; omega,.inr (by simp [Did.writes,e4])⟩,if_pos rfl,e3];have hlt:j < (H x).objs.length:=hi2;rw [ag (by simpa using hlt),db,if_pos rfl,if_pos hlt]
     ·rw [if_neg hj2,if_neg];rintro ⟨h1,h2 | h2⟩
      ·have h1':j < (H (x+1)).size:=h1;have h2':(H x).size≤j:=h2;omega
      ·simp [Did.writes,e4,hd3] at h2;exact hj2 h2.symm
   have hobids:=hids2 ob2 hsz1 (by rw [e3]; exact wo (jh ..))
   have hslot:a8 o'.dst (r x) sD=a8 o'.dst (f2 (H x).size) sD:=by rw [e2,c1,my,d1]; rfl
   refine qn hg hop d4 (by simp only [Heap.push,Heap.put]; omega) hI.at' fun a' w' hat'=>hn a' w' ?_
   have hml2:((memL D H n L).set i2 .dead).length=(H n).size:=by rw [jh]; exact hml
   have hmv:=At.move (N:=(H n).size) (r:=(H x).size) (h:=⟨(memL D H n L).set i2 .dead,(H 0).base,(H n).wmin⟩) (x:=f2 (H n).size) (ob:=ob2) (wm:=(H n).wmin) (d:=o'.dst) (s:=sD) (by
     have:(⟨memL D H n L,(H 0).base,W⟩:Heap).size=(H n).size:=hml;rw [this] at hat'; exact hat') hml2 (by rw [ap (by omega),i8 (by omega),mem_new T hev0 hU (ai _) (by omega)]) (by
     have:(H 0).base≤(H x).size:=hbase;exact this) (by omega) (fun t y hy i hi=>hne (by omega) (hI.slots t y hy i hi)) (fun v hv i hi=>by
     have:=hf2.ids (H n).size;rw [hv] at this;simp only [Slot.ids] at this;rw [this] at hi;simp at hi; omega) (fun cs=>hf2.novar _ cs) (fun i hi=>hne (by omega) (okVL (hobids i hi))) (fun k o2 hk i hi=>by
     by_cases ek:i2=k
     ·subst ek;rw [db,if_pos rfl] at hk;split at hk
      ·cases hk; simp [AObj.ids] at hi
      ·cases hk
     ·rw [ap ek] at hk;exact hne (by omega) (hobj k o2 hk i hi))
   rw [hf2.ren,← hslot] at hmv
   have hmem:((memL D H n L).set i2 .dead).set (H x).size ob2=memL D H n (fun y=>y == x || L y):=by
    apply kv;intro j;rcases bi j (H n).size with hj | hj
    ·rw [i8 hj];by_cases ej:j=(H x).size
     ·subst ej;rw [db,if_pos rfl,if_pos (by omega),wp T hev0 hU (by rw [hupd,if_pos rfl])]
     ·rw [ap (fun e=>ej e.symm)];by_cases ej2:j=i2
      ·subst ej2;rw [db,if_pos rfl,if_pos (by omega),wp T hev0 hU (by rw [hupd,if_neg ej,if_pos rfl])]
      ·rw [ap (fun e=>ej2 e.symm),i8 hj,jz (by rw [hupd,if_neg ej,if_neg ej2])]
    ·rw [dc (by simp [hml]; exact hj),dc (by rw [kp]; exact hj)]
   simp only [hmem] at hmv;refine Inv.next T hU ho hI hmv (fun j hj=>?_) (fun j o2 hu k hk=>?_) hrv
   ·refine .inr ⟨x,hx,.inl rfl,?_⟩
    have:r x=f (H x).size∨r x = .undef:=by
     rw [e2];cases o'.dst with
     | none=>exact .inr rfl
     | some d=>exact .inl (by simp [gr,a8,sget])
    rcases this with e | e
    ·rw [e,hf.ids] at hj; simp at hj; omega
    ·rw [e] at hj; simp [Slot.ids] at hj
   ·rw [hupd] at hu;split at hu
    ·cases hu; exact okV (hobids k hk)
    ·split at hu
     ·cases hu; simp [AObj.ids] at hk
     ·cases hu
 ·-- an object is changed
  have hsz1:(H (x+1)).size=(H x).size:=by simp [Heap.size,e3]
  obtain ⟨x1,c1,c2,_⟩:=js (jt hsoft) hag e1;rcases ph (h1:=⟨(H x).objs,(H x).base,(H x).size⟩) (h2:=⟨memL D H n L,(H 0).base,W⟩) hsoft hc hb.symm (hheap hrd') c2 with ⟨x2,_,d2,_⟩ | ⟨ob2,f2,hf2,d1,d3,d4⟩ | ⟨i2,ob2,f2,hf2,_,hi2,_,d1,d3,d4⟩ | ⟨i2,ob2,v2,_,hi2,_,d1,d3,d4⟩
  ·exfalso;have:=congrArg Heap.wmin d2;simp [Heap.put] at this;omega
  ·exfalso; have:=congrArg Heap.size d3; simp [Heap.size,Heap.push,Heap.put] at this
  ·exfalso; have:=congrArg Heap.size d3; simp [Heap.size,Heap.push,Heap.put] at this
  ·have hi2':i2 < (H x).size:=hi2
   have hii:i2=i:=by have:=congrArg Heap.wmin d3;simp [Heap.put] at this;omega
   subst hii;have hlt:i2 < (H x).objs.length:=hi
   have hob:ob2=ob:=by have:=congrArg (fun h:Heap=>h.objs[i2]?) d3;simp only [Heap.put] at this;rw [db,if_pos rfl,if_pos hlt,db,if_pos rfl,if_pos hlt] at this;exact (dg this).symm
   subst hob
   have hupd:∀ j,upd D (sz H) H x j=if j=i2 then some ob2 else none:=fun j=>by
    unfold upd touched;by_cases hj2:j=i2
    ·subst hj2;rw [if_pos ⟨by rw [show sz H (x+1)=(H (x+1)).size from rfl,hsz1]; omega,.inr (by simp [Did.writes,e4])⟩,if_pos rfl,e3];rw [db,if_pos rfl,if_pos hlt]
    ·rw [if_neg hj2,if_neg];rintro ⟨h1,h2 | h2⟩
     ·have h1':j < (H (x+1)).size:=h1;have h2':(H x).size≤j:=h2;omega
     ·simp [Did.writes,e4,hd3] at h2;exact hj2 h2.symm
   have hobids:=hids3 i2 ob2 hsz1 e4 (by rw [e3,db,if_pos rfl,if_pos hlt])
   have hslot:a8 o'.dst (r x) sD=a8 o'.dst (.val v2) sD:=by rw [e2,c1,my,d1]
   rw [d1] at d4;refine qn hg hop d4 (by simp only [Heap.put]; omega) hI.at' fun a' w' hat'=>hn a' w' ?_
   rw [← hslot] at hat'
   have hmem:(memL D H n L).set i2 ob2=memL D H n (fun y=>y == x || L y):=by
    apply kv;intro j;rcases bi j (H n).size with hj | hj
    ·rw [i8 hj];by_cases ej2:j=i2
     ·subst ej2;rw [db,if_pos rfl,if_pos (by omega),wp T hev0 hU (by rw [hupd,if_pos rfl])]
     ·rw [ap (fun e=>ej2 e.symm),i8 hj,jz (by rw [hupd,if_neg ej2])]
    ·rw [dc (by simp [hml]; exact hj),dc (by rw [kp]; exact hj)]
   simp only [Heap.put,hmem] at hat';refine Inv.next T hU ho hI hat' (fun j hj=>okV (hids1 hsz1 j hj)) (fun j o2 hu k hk=>?_) hrv
   rw [hupd] at hu;split at hu
   ·cases hu; exact okV (hobids k hk)
   ·cases hu
end
end
end Go.Abs

namespace Go.Abs
section
variable {E:Env} {call:CallSem} {n:Nat} {aops:Nat→Option AOper} {ms:Nat→Nat} {S:Nat→Slots} {H:Nat→Heap} {r:Nat→Slot} {D:Nat→Did}
variable {lo nt:Nat} {μ0:MM} {w0:World} {ds:List Deferred} {ops:Array Oper} {Q:Exit→Act→World→Prop} {ro:Option Nat}
open Txt
section
variable (T:Txt call n aops ms S H r D) (hev0:CallEvol call)
include T hev0
theorem xz {x i:Nat} (hx:x < n) (h:Vis ms H x i):i < (H x).size:=by
 rcases h with h | ⟨y,hy,_,_,h4⟩
 ·exact gl h (T.mono hev0 (dt x) (by omega))
 ·exact gl h4 (T.mono hev0 hy (by omega))
theorem hid_iff {x i:Nat} (hx:x < n) (hi:i < (H x).size):Hid (ms x) 0 (dsl D x) i ↔ ¬ Vis ms H x i:=by
 constructor
 ·rintro ⟨y,d,h1,h2,h3,h4⟩ hv;have hy:y < x:=by have:=aj h1; rwa [zav] at this
  rw [rz hy] at h1; cases h1;rw [T.lo hev0 (by omega)] at h3;rw [T.hi hev0 (by omega)] at h4;rw [dk] at h2;rcases hv with hv | ⟨z,hz,hb,h5,h6⟩
  ·have:=T.mono hev0 (dt y) (by omega); omega
  ·have:=T.apart hev0 (by omega) (by omega) h5 h6 h3 h4;subst this;rw [hb] at h2; cases h2
 ·intro hv
  have h0:(H 0).size≤i:=by
   rcases bi i (H 0).size with h | h
   ·exact absurd (.inl h) hv
   ·exact h
  obtain ⟨y,hy,h1,h2⟩:=inRange h0 (x:=x) (ai x) hi;refine ⟨y,D y,rz hy,?_,by rw [T.lo hev0 (by omega)]; exact h1,by rw [T.hi hev0 (by omega)]; exact h2⟩;rw [dk];cases hb:(ms x).testBit y with
  | false=>rfl
  | true=>exact absurd (.inr ⟨y,hy,hb,h1,h2⟩) hv
theorem all_vis {x i:Nat} (hx:x < n) (hall:allSeen (ms x) 0 (dsl D x)=true) (hi:i < (H x).size):Vis ms H x i:=by
 rcases bi i (H 0).size with h | h
 ·exact .inl h
 ·obtain ⟨y,hy,h1,h2⟩:=inRange h (x:=x) (ai x) hi;have:=tg _ 0 hall y (D y) (rz hy);rw [dk,T.lo hev0 (by omega),T.hi hev0 (by omega)] at this;rcases this with h3 | h3
  ·exact .inr ⟨y,hy,h3,h1,h2⟩
  ·omega
theorem call_up (hc0:CallOK E call) (hg:GidOK E) (h0:∀ (i:Nat) o,(H 0).objs[i]? = some o→∀ j ∈ o.ids,j < (H 0).size) (hμ0:μ0.length≤(H 0).size) (hbase0:(H 0).base≤(H 0).size) {L:Nat→Bool} {sD:Slots} {a:Act} {w:World} {x:Nat} {loc:Bool} {o:Oper} {o':AOper} (hU:Up n ms L x)
  (ho:aops x=some o') (hop:ng E nt ops loc o=some o') (hc:o'.op.isCall=true) (hrv:∀ cs,r x ≠ .var cs) (hag:Agree (S x) sD o'.reads) (hI:Inv E lo nt μ0 w0 ds n ms H r D L sD a w)
  (next:Act→World→Prop) (hn:∀ a' w',Inv E lo nt μ0 w0 ds n ms H r D (fun y=>y == x || L y) (a8 o'.dst (r x) sD) a' w'→next a' w') :
  if Region.wanted o (yielded ops a.tmps) then o.wpIn (F0 ro) 0 E.P a w next Q else next (a.put o.dst Go.undef) w:=by
 have hx:=hU.lt;have hb:(H x).base=(H 0).base:=T.base hev0 (by omega);have hszx:(H x).size≤(H (x+1)).size:=(T.evol hev0 hx).size;have hszn:(H (x+1)).size≤(H n).size:=T.mono hev0 hx (ai _);have h0x:(H 0).size≤(H x).size:=T.mono hev0 (dt x) (by omega);have hwn:(H n).wmin≤(H (x+1)).wmin:=T.wmin hev0 hx (ai _);obtain ⟨⟨hrok,_⟩,_,_,_,hsp⟩:=T.spec hev0 hx ho
 have hone:OneCall call (H 0).size (ms x) (dsl D x) o' (S x) (H x) (r x) (H (x+1)) (D x):=by
  rcases hsp with h | h
  ·exact h
  ·rw [h.isc] at hc; cases hc
 obtain ⟨hcall,hrd,hch⟩:=hone.did;obtain ⟨s1,g,he,hry,hgsz,hrest⟩:=hone.run;have hdst:=cOper_dst hop;have hml:(memL D H n L).length=(H n).size:=kp L;have hevg:=nd hev0 he;have hgb:g.base=(H 0).base:=hevg.base.trans hb;have hms:∀ {i},Vis ms H x i→mem D (sz H) H L n i=((H x).objs[i]?).getD .dead:=fun hv=>mem_same T hev0 hU fun y hy hne h1 h2 _=>T.cvis hev0 hx hy hne h1 h2 hcall hv
 have hmsome:∀ {i},Vis ms H x i→(memL D H n L)[i]? = (H x).objs[i]?:=fun {i} hv=>by have hi:=xz T hev0 hx hv;have hi':i < (H x).objs.length:=hi;rw [i8 (by omega),hms hv,ah hi']; rfl
 have hclos:∀ i,Vis ms H x i→∀ j ∈ (mem D (sz H) H L n i).ids,Vis ms H x j:=fun i hv j hj=>by
  rcases th (D:=D) (sz:=sz H) (H:=H) (L:=L) (i:=i) n with ⟨h1,_⟩ | ⟨y,ob,h1,h2,h3,h4⟩
  ·rw [h1] at hj;cases hq:(H 0).objs[i]? with
   | none=>rw [hq] at hj; simp [AObj.ids] at hj
   | some ob=>rw [hq] at hj; exact .inl (h0 i ob hq j hj)
  ·rw [h4] at hj;have hne:y≠x:=fun e=>by subst e; rw [hU.not] at h2; cases h2
   have hbit:(ms x).testBit y=true:=by
    cases hb:(ms x).testBit y with
    | true=>rfl
    | false =>
     have:=T.cvis hev0 hx h1 hne hb (hU.above y h1 h2) hcall hv;rw [h3] at this; cases this
   rcases (hI.upds y h1 h2).1 i ob h3 j hj with h5 | ⟨z,hz,h5,h6⟩
   ·exact .inl h5
   ·have hbz:(ms x).testBit z=true:=by
     rcases h5 with rfl | h5
     ·exact hbit
     ·exact T.trans x y z hx hbit h5
    exact .inr ⟨z,T.back x z hx hbz,hbz,h6⟩
 obtain ⟨μ,ν,k1,k2,k3,k4,k5,k6⟩:=hI.at';have hkl:(H x).size≤μ.length:=by rw [k2.len]; simp only [hml]; omega
 have hvis:∀ i,i < (H x).size→(Vis ms H x i→(hide (ms x) 0 (dsl D x) (H x).objs)[i]? = (H x).objs[i]?)∧(¬ Vis ms H x i→(hide (ms x) 0 (dsl D x) (H x).objs)[i]? = some .dead):=fun i hi=>by have hi':i < (H x).objs.length:=hi;obtain ⟨q1,q2⟩:=hide_get (m:=ms x) (i:=i) (dsl D x) 0 (H x).objs;refine ⟨fun hv=>q2 fun h=>(hid_iff T hev0 hx hi).1 h hv,fun hv=>?_⟩;rw [q1 ((hid_iff T hev0 hx hi).2 hv),ah hi']; rfl
 have hrm:Rel E (maskM (Vis ms H x) (H x).size μ) ⟨hide (ms x) 0 (dsl D x) (H x).objs,(H x).base,(H x).size⟩ w:=by
  have:=k2.mask (vis:=Vis ms H x) (k:=(H x).size) (os:=hide (ms x) 0 (dsl D x) (H x).objs) (wm':=(H x).size) (by rw [hml]; omega) (by omega) (kz ..) (fun i hi hv=>by rw [(hvis i hi).1 hv]; exact (hmsome hv).symm) (fun i hi hv=>(hvis i hi).2 hv) (fun i ob hi hv hob j hj=>by rw [i8 (by omega)] at hob; cases hob;have:=hclos i hv j hj;exact ⟨xz T hev0 hx this,this⟩)
  rw [hb]; exact this
 let p:Nat→Bool:=fun t=>o'.reads.contains t || isVar sD t
 have hag0:Agree (S x) (restr p sD) o'.reads:=by
  refine Agree.of (fun t ht=>?_) (fun t cs=>?_)
  ·rw [qj,if_pos (by simp [p,ht])]; exact hag.at_ t ht
  ·rw [hag.var t cs id,qj];constructor
   ·intro h; rw [if_pos (by simp [p,isVar,h])]; exact h
   ·intro h; split at h
    ·exact h
    ·cases h
 have hfm:FRel E lo ν (maskM (Vis ms H x) (H x).size μ) (sget (restr p sD)) a.tmps w:=by
  have hless:FRel E lo ν μ (sget (restr p sD)) a.tmps w:=k3.less fun t y hy=>by
   rw [qj] at hy; split at hy
   ·exact hy
   ·cases hy
  refine hless.mask hkl fun t y hy i hi=>?_
  rw [qj] at hy;split at hy;case isFalse=>cases hy
  rename_i hp
  have hv:Vis ms H x i:=by
   simp only [p,ep,List.contains_eq_mem,decide_eq_true_eq] at hp;rcases hp with hp | hp
   ·refine (T.okId_iff hev0 hx).1 (hrok t hp i ?_);unfold slotIds;rw [hag.at_ t hp,hy]; exact hi
   ·unfold isVar at hp;rw [hy] at hp;cases y with
    | var cs=>exact .inl (hI.vars t cs hy i hi)
    | _=>simp at hp
  exact ⟨xz T hev0 hx hv,hv⟩
 obtain ⟨x1,c1,c2,_⟩:=js (jt (T.soft x o' hx ho)) hag0 he;refine call_step hc0 hg hop hc c2 hfm hrm fun x2 v w' μ' d1 d2 d3 d4=>?_
 have hgsz':g.size=(H (x+1)).size:=hgsz.symm;have hgobj:∀ {i:Nat} {ob:AObj},g.objs[i]? = some ob→∀ j ∈ ob.ids,j < (H (x+1)).size:=fun ho' j hj=>by rw [← hgsz']; exact d4.ids ho' j hj
 have hrx:∃ v',SlotIs E μ' (r x) v'∧a.put o.dst v=a.put o'.dst v':=by
  rw [← hdst.1];cases hd:o'.dst with
  | none=>exact ⟨Go.undef,.inl ⟨by rw [hry,hd]; rfl,rfl⟩,rfl⟩
  | some d =>
   refine ⟨v,?_,rfl⟩
   have e1:x1=x2:=by rw [hd] at d1;simp only [a8] at d1;injection d1 with d1 _;injection d1
   have e2:r x=x1:=by rw [hry,c1,hd]; simp [gr,a8,sget]
   rw [e2,e1]; exact d2
 obtain ⟨v',hsl,hput⟩:=hrx;rw [hput]
 have hrlt:∀ j ∈ (r x).ids,j < (H (x+1)).size:=fun j hj=>by
  rcases hsl with ⟨e,_⟩ | ⟨u,e,hu⟩
  ·rw [e] at hj; simp [Slot.ids] at hj
  ·rw [e] at hj;have:=hu.ids_lt j hj;rw [d4.len] at this;have h2:g.objs.length=g.size:=rfl;omega
 have hcase:(∀ i,i < (H (x+1)).size→(Now (Vis ms H x) (H x).size (H (x+1)).size i)→(H (x+1)).objs[i]? = g.objs[i]?)∧(∀ i,(D x).writes i=true→i < (H x).size→Vis ms H x i) ∧
   (∀ i ob,Now (Vis ms H x) (H x).size (H (x+1)).size i→g.objs[i]? = some ob→∀ j ∈ ob.ids,Now (Vis ms H x) (H x).size (H (x+1)).size j)∧(∀ j ∈ (r x).ids,Now (Vis ms H x) (H x).size (H (x+1)).size j)∧((H n).wmin≤g.wmin∨(H x).size≤g.wmin):=by
  have full:allSeen (ms x) 0 (dsl D x)=true→(H (x+1)).objs=g.objs→((H n).wmin≤g.wmin∨(H x).size≤g.wmin)→_:=fun hall hobj hw=>by
   have hnow:∀ j,j < (H (x+1)).size→Now (Vis ms H x) (H x).size (H (x+1)).size j:=fun j hj=>by
    rcases bi j (H x).size with h | h
    ·exact .inl ⟨h,all_vis T hev0 hx hall h⟩
    ·exact .inr ⟨h,hj⟩
   exact And.intro (fun (i:Nat) (_:i < (H (x+1)).size) (_:Now (Vis ms H x) (H x).size (H (x+1)).size i)=>congrArg (fun l=>l[i]?) hobj) (And.intro (fun (i:Nat) (_:(D x).writes i=true) (hi:i < (H x).size)=>all_vis T hev0 hx hall hi)
    (And.intro (fun (i:Nat) (ob:AObj) (_:Now (Vis ms H x) (H x).size (H (x+1)).size i) (hob:g.objs[i]? = some ob) j hj=>hnow j (hgobj hob j hj)) (And.intro (fun j hj=>hnow j (hrlt j hj)) hw)))
  rcases hrest with ⟨q1,q2,q3,q4⟩ | ⟨q1,q2,q3,q4⟩ | ⟨q1,q2,q3,q4⟩
  ·refine full q1 (by rw [q4]) (.inl ?_);rw [q4] at hwn;have:(H n).wmin≤min (H x).wmin g.wmin:=hwn;omega
  ·exact full q1 (by rw [q4]) (.inr q2)
  ·have hgold:∀ i,i < (H x).size→g.objs[i]? = (hide (ms x) 0 (dsl D x) (H x).objs)[i]?:=fun i hi=>by have:=hevg.objs i (by simp only [Heap.size,kz]; exact hi) (by omega);exact this
   have hobj:(H (x+1)).objs=(H x).objs++g.objs.drop (H x).size:=by rw [q4]
   refine ⟨fun i hi hnow=>?_,fun i hw hi=>?_,fun i ob hnow hob j hj=>?_,fun j hj=>?_,.inr q1⟩
   ·rw [hobj];rcases bi i (H x).size with h | h
    ·have h':i < (H x).objs.length:=h;rw [ag h',hgold i h];refine ((hvis i h).1 ?_).symm;rcases hnow with h2 | h2
     ·exact h2.2
     ·omega
    ·have h':(H x).objs.length≤i:=h;rw [ak h',dw];congr 1;show (H x).size+(i - (H x).size)=i;omega
   ·simp [Did.writes,hch,q2] at hw
   ·have hjl:=hgobj hob j hj;rcases bi i (H x).size with h | h
    ·have hv:Vis ms H x i:=by
      rcases hnow with h2 | h2
      ·exact h2.2
      ·omega
     rw [hgold i h,(hvis i h).1 hv,← hmsome hv,i8 (by omega)] at hob;cases hob;have:=hclos i hv j hj;exact .inl ⟨xz T hev0 hx this,this⟩
    ·have hmem:ob ∈ g.objs.drop (H x).size:=by refine bz (i:=i - (H x).size) ?_;rw [dw,show (H x).size+(i - (H x).size)=i by omega]; exact hob
     rcases q3 j (gx _ (eu.2 ⟨ob,hmem,hj⟩)) with h2 | h2
     ·have:=(T.okId_iff hev0 hx).1 h2;exact .inl ⟨xz T hev0 hx this,this⟩
     ·exact .inr ⟨h2,hjl⟩
   ·rcases q3 j (fw _ hj) with h2 | h2
    ·have:=(T.okId_iff hev0 hx).1 h2;exact .inl ⟨xz T hev0 hx this,this⟩
    ·exact .inr ⟨h2,hrlt j hj⟩
 obtain ⟨hc1,hc2,hc3,hc4,hc5⟩:=hcase
 have htouch:∀ i,touched D (sz H) x i→Now (Vis ms H x) (H x).size (H (x+1)).size i:=fun i ⟨t1,t2⟩=>by
  have t1':i < (H (x+1)).size:=t1;rcases bi i (H x).size with h | h
  ·rcases t2 with t2 | t2
   ·have t2':(H x).size≤i:=t2;omega
   ·exact .inl ⟨h,hc2 i t2 h⟩
  ·exact .inr ⟨h,t1'⟩
 have hnowlt:∀ i,Now (Vis ms H x) (H x).size (H (x+1)).size i→i < (H (x+1)).size:=fun i h=>by rcases h with h | h <;> omega
 have hmem:∀ i,Now (Vis ms H x) (H x).size (H (x+1)).size i→(memL D H n fun y=>y == x || L y)[i]? = (H (x+1)).objs[i]?:=fun i hnow=>by
  have hi:=hnowlt i hnow;have hi':i < (H (x+1)).objs.length:=hi;rw [i8 (by omega)];by_cases ht:touched D (sz H) x i
  ·have hu:upd D (sz H) H x i=some ((H (x+1)).objs[i]):=by unfold upd; rw [if_pos ht,ah hi']
   rw [wp T hev0 hU hu,ah hi']
  ·have hu:upd D (sz H) H x i=none:=by unfold upd; rw [if_neg ht]
   rw [jz hu]
   have hlt:i < (H x).size:=by
    rcases bi i (H x).size with h | h
    ·exact h
    ·exact absurd ⟨hi,.inl h⟩ ht
   have hv:Vis ms H x i:=by
    rcases hnow with h | h
    ·exact h.2
    ·omega
   have hw:(D x).writes i=false:=by
    cases hq:(D x).writes i with
    | false=>rfl
    | true=>exact absurd ⟨hi,.inr hq⟩ ht
   rw [hms hv,T.unwritten hev0 hx hlt hw];have hlt':i < (H x).objs.length:=hlt;rw [ah hlt']; rfl
 have hatj:=At.join (E:=E) (lo:=lo) (nt:=nt) (ds:=ds) (objs:=memL D H n L) (objs':=memL D H n fun y=>y == x || L y) (base:=(H 0).base) (wF:=(H n).wmin) (lo1:=(H x).size) (hi1:=(H (x+1)).size) (vis:=Vis ms H x) (d:=o'.dst) (x:=r x) (v:=v')
  k1 k2 k3 k4 k5 k6 hszx (by rw [hml]; exact hszn) (by omega) d3 d4 hgsz' hgb (fun i hi hv=>by
   rcases bi i (H 0).size with h | h
   ·exact absurd (.inl h) hv
   ·omega) ⟨by omega,fun i hi=>.inl (by omega)⟩ hc5 (fun i h1 h2=>by rw [i8 (by omega),mem_new T hev0 hU h1 h2]) (by rw [kp,kp]) (fun i hnow=>by rw [hmem i hnow,hc1 i (hnowlt i hnow) hnow])
  (fun i hi hnow=>by
   rw [hml] at hi;rw [i8 hi,i8 hi,jz];unfold upd;rw [if_neg fun ht=>hnow (htouch i ht)]) hc3 (fun i ob hob j hj=>okL_new T hev0 hU (by
   have hi:i < (H n).size:=by rw [← hml]; exact aj hob
   rw [i8 hi] at hob; cases hob;exact hI.objs h0 i j hj)) (fun t y hy j hj=>okL_new T hev0 hU (hI.slots t y hy j hj)) hsl hc4 (fun t ht=>hdst.2 t (by rw [← hdst.1]; exact ht))
 have okN:∀ j,Now (Vis ms H x) (H x).size (H (x+1)).size j→okA ms H n x j:=fun j h=>by
  rcases h with h | h
  ·rcases h.2 with h2 | ⟨z,hz,hb',h2⟩
   ·exact .inl h2
   ·exact .inr ⟨z,by omega,.inr hb',h2⟩
  ·exact .inr ⟨x,hx,.inl rfl,h⟩
 refine hn _ _ (Inv.next T hU ho hI hatj (fun j hj=>okN j (hc4 j hj)) (fun i ob hu j hj=>?_) hrv);unfold upd at hu;split at hu
 ·rename_i ht;have hnow:=htouch i ht;rw [hc1 i (hnowlt i hnow) hnow] at hu;exact okN j (hc3 i ob hnow hu j hj)
 ·cases hu
end
end
end Go.Abs

namespace Go.Abs
section
variable {E:Env} {lo nt:Nat} {μ0:MM} {w0:World} {ds:List Deferred} {s:Slots} {h:Heap} {call:CallSem} {ops:Array Oper} {locs:List Nat} {as:List AOper} {Q:Exit→Act→World→Prop} {ro:Option Nat}
open Txt
theorem At.lower {a:Act} {w:World} {os:List AObj} {base wm wm':Nat} (hat:At E lo nt μ0 w0 ds s ⟨os,base,wm⟩ a w) (hw:wm'≤wm):At E lo nt μ0 w0 ds s ⟨os,base,wm'⟩ a w:=by obtain ⟨μ,ν,k1,k2,k3⟩:=hat;exact ⟨μ,ν,k1.weaken hw fun _ h _=>h,k2.same rfl rfl rfl,k3⟩
theorem open_any (hc:CallOK E call) (hev0:CallEvol call) (hg:GidOK E) (has:mr E nt ops locs 0 ops.toList=some as) (hb:edgesBack ops=true)
  {p n:Nat} {h1:Heap} {s1:Slots} (hpn:p+n≤as.length) (hw1:waits (befs ops.toList []) (p+n)=true)
  (hap:∀ x y oi oj,x < n→y < n→as[p+x]? = some oi→as[p+y]? = some oj→apart (befs ops.toList []) (p+x) (p+y) oi oj=true)
  (hsoft:∀ x o,x < n→as[p+x]? = some o→soft o.op=true) {ms:List Nat} (hms:∀ x,x < n→ms.getD x 0=(befs ops.toList []).getD (p+x) 0 >>> p)
  (hev:um call ms ((as.drop p).take n) s h=some (s1,h1))
  (hk:∀ listed' a' w',Exact ops listed' (p+n)→At E lo nt μ0 w0 ds s1 h1 a' w'→wpAnyIn (F0 ro) 0 E.P .any ops Q (ops.size - (p+n)) listed' a' w') :
  ∀ listed a w,Exact ops listed p→At E lo nt μ0 w0 ds s h a w→wpAnyIn (F0 ro) 0 E.P .any ops Q (ops.size - p) listed a w:=by
 intro listed a w hex hat;obtain ⟨q1,q2⟩:=mb _ _ _ has;simp only [ig] at q1;have hchain:=og (ops:=ops) ops.toList [] (by simp) (fun k i hk=>by simp at hk);have hbit:=chain_bit hb ops.toList [] (by simp) (fun k i hk=>by simp at hk);have hseg:∀ x,x < n→((as.drop p).take n)[x]? = as[p+x]?:=fun x hx=>by rw [et hx,dw]
 have hslen:((as.drop p).take n).length=n:=by simp; omega
 obtain ⟨S,H,r,D,b1,b2,b3,b4,b5⟩:=open_text _ _ _ _ _ _ _ hev;rw [hslen] at b3 b4
 have opat:∀ x,x < n→∃ o o',ops[p+x]? = some o∧as[p+x]? = some o'∧ng E nt ops (locs.contains (p+x)) o=some o':=by
  intro x hx;have hlt:p+x < ops.size:=by omega
  obtain ⟨o',h2,h3⟩:=q2 (p+x) ops[p+x] (by simp [hlt]);exact ⟨ops[p+x],o',by simp [hlt],h2,by simpa using h3⟩
 have tb:∀ x y,x < n→((ms.getD x 0).testBit y=true ↔ ((befs ops.toList []).getD (p+x) 0).testBit (p+y)=true):=fun x y hx=>by rw [hms x hx,Nat.testBit_shiftRight]
 have T:Txt call n (fun x=>as[p+x]?) (fun x=>ms.getD x 0) S H r D:=by
  refine ⟨fun x o hx ho=>?_,fun x hx=>?_,fun x o hx ho=>hsoft x o hx ho,fun x y hx hy=>?_,fun x y z hx hy hz=>?_⟩
  ·have:=b5 x o (by rw [hseg x hx]; exact ho);simp only [bj] at this;rw [← b2] at this;exact this
  ·obtain ⟨_,o',_,h2,_⟩:=opat x hx;exact ⟨o',h2⟩
  ·have:=zar hb (hchain _ _ ((tb x y hx).1 hy)); omega
  ·have h2:=hchain _ _ ((tb x y hx).1 hy);have hyx:=zar hb h2;have hyn:y < n:=by omega
   have h3:=hchain _ _ ((tb y z hyn).1 hz);exact (tb x z hx).2 (hbit _ _ (by simp; omega) (chain_trans h2 h3))
 have hids:=hat.ids;obtain ⟨hid1,hid2,hid3⟩:=hids;have hH0:H 0=h:=b2
 have hbase0:(H 0).base≤(H 0).size:=by obtain ⟨_,_,_,k2,_⟩:=hat;rw [hH0]; exact k2.bs
 have hsz0:(H 0).size≤(H n).size:=T.mono hev0 (dt n) (ai _);have h0:∀ (i:Nat) o,(H 0).objs[i]? = some o→∀ j ∈ o.ids,j < (H 0).size:=by rw [hH0]; exact hid2
 have hμ0:μ0.length≤(H 0).size:=by rw [hH0]; exact hid3
 refine any_order has hb hpn hw1 hap S r b1 (fun x o' hx ho=>?_) (Inv E lo nt μ0 w0 ds n (fun x=>ms.getD x 0) H r D) (fun L sD a w x o o' hx h2 h3 h4 hL hbel habv hag hI next hn=>?_) (fun listed' sD a' w' hex' hsD hI=>?_) listed a w hex ?_
 ·obtain ⟨t1,t2,t3,_⟩:=T.one x o' hx ho;refine ⟨t2,fun cs e=>?_,t3⟩;obtain ⟨_,_,_,_,hs | hs⟩:=T.spec hev0 hx ho
  ·obtain ⟨s2,g,he,hy,_⟩:=hs.run;obtain ⟨x0,c1,_,c3⟩:=js (S2:=S x) (jt (hsoft x o' hx ho)) (Agree.of (fun _ _=>rfl) (fun _ _=>Iff.rfl)) he;rw [hy,c1] at e;cases hd:o'.dst with
   | none=>rw [hd] at e; cases e
   | some d=>rw [hd] at e; simp [gr,a8,sget] at e; exact c3 cs e
  ·obtain ⟨s2,g,he,hy,_⟩:=hs.run;obtain ⟨x0,c1,_,c3⟩:=js (S2:=S x) (jt (hsoft x o' hx ho)) (Agree.of (fun _ _=>rfl) (fun _ _=>Iff.rfl)) he;rw [hy,c1] at e;cases hd:o'.dst with
   | none=>rw [hd] at e; cases e
   | some d=>rw [hd] at e; simp [gr,a8,sget] at e; exact c3 cs e
 ·have hU:Up n (fun x=>ms.getD x 0) L x:=⟨hx,hL,fun y hy hbt=>hbel y hy ((tb x y hx).1 hbt),fun y hy hl=>by
   cases hq:(ms.getD y 0).testBit x with
   | false=>rfl
   | true =>
    have:=(tb y x hy).1 hq;rw [habv y hy hl] at this; cases this⟩
  have hrv:∀ cs,r x ≠ .var cs:=by
   intro cs e;obtain ⟨_,_,_,_,hs | hs⟩:=T.spec hev0 hx h3
   ·obtain ⟨s2,g,he,hy,_⟩:=hs.run;obtain ⟨x0,c1,_,c3⟩:=js (S2:=S x) (jt (hsoft x o' hx h3)) (Agree.of (fun _ _=>rfl) (fun _ _=>Iff.rfl)) he;rw [hy,c1] at e;cases hd:o'.dst with
    | none=>rw [hd] at e; cases e
    | some d=>rw [hd] at e; simp [gr,a8,sget] at e; exact c3 cs e
   ·obtain ⟨s2,g,he,hy,_⟩:=hs.run;obtain ⟨x0,c1,_,c3⟩:=js (S2:=S x) (jt (hsoft x o' hx h3)) (Agree.of (fun _ _=>rfl) (fun _ _=>Iff.rfl)) he;rw [hy,c1] at e;cases hd:o'.dst with
    | none=>rw [hd] at e; cases e
    | some d=>rw [hd] at e; simp [gr,a8,sget] at e; exact c3 cs e
  cases hcl:o'.op.isCall with
  | true=>exact call_up T hev0 hc hg h0 hμ0 hbase0 hU h3 h4 hcl hrv hag hI next hn
  | false=>exact soft_up T hev0 hg h0 hμ0 hbase0 hU h3 h4 hcl hrv hag hI next hn
 ·refine hk listed' a' w' hex' ?_
  have hmem:memL D H n (fun x=>decide (x < n))=(H n).objs:=by
   apply kv;intro j;rcases bi j (H n).size with hj | hj
   ·have hj':j < (H n).objs.length:=hj;rw [i8 hj,qm (L':=fun _=>true) n fun y hy _=>decide_eq_true hy,zaw (n:=n) (fun _=>rfl) (fun y hy=>(T.evol hev0 hy).size) (fun y i hy hi hw=>T.unwritten hev0 hy hi hw) n (ai _),ah hj'];rfl
   ·rw [dc (by rw [kp]; exact hj),dc hj]
  have hHn:(⟨memL D H n (fun x=>decide (x < n)),(H 0).base,(H n).wmin⟩:Heap)=h1:=by rw [hmem,← T.base hev0 (ai n),b4]
  have:=hI.at';rw [hHn] at this;obtain ⟨μ,ν,k1,k2,k3,k4⟩:=this;exact ⟨μ,ν,k1,k2,k3.congr fun t=>by rw [hsD t,b3],k4⟩
 ·have hnone:memL D H n (fun _=>false)=h.objs++List.replicate ((H n).size - h.size) .dead:=by
   apply kv;intro j
   have hm:∀ k,mem D (sz H) H (fun _=>false) k j=((H 0).objs[j]?).getD .dead:=by
    intro k;induction k with
    | zero=>rfl
    | succ k ih=>simp only [mem]; rw [if_neg (by simp),ih]
   rcases bi j (H n).size with hj | hj
   ·rw [i8 hj,hm n,hH0];rcases bi j h.size with hj2 | hj2
    ·have hj2':j < h.objs.length:=hj2;rw [ag hj2',ah hj2']; rfl
    ·have hj2':h.objs.length≤j:=hj2;rw [ak hj2',dc hj2',xw,if_pos]
     ·rfl
     ·show j - h.size < (H n).size - h.size
      omega
   ·rw [dc (by rw [kp]; exact hj),dc];rw [hH0] at hsz0;have:h.objs.length=h.size:=rfl;simp; omega
  refine ⟨?_,fun t y hy i hi=>.inl (by rw [hH0]; exact hid1 t y hy i hi),fun t cs hy i hi=>by rw [hH0]; exact hid1 t (.var cs) hy i hi,(fun _ _ _ h _=>absurd h (by simp)),(fun _ _ h=>absurd h (by simp))⟩;rw [hnone];have h2:=(hat.reserve ((H n).size - h.size)).lower (wm':=(H n).wmin) (by rw [← hH0]; exact T.wmin hev0 (dt n) (ai _));rw [hH0];exact h2
end
end Go.Abs

namespace Go.Abs
section
variable {E:Env} {lo nt:Nat} {μ0:MM} {w0:World} {ds:List Deferred} {call:CallSem} {ro:Option Nat} {V:List Nat}
theorem zl {h0:Heap}:∀ (seg:List AOper) (s s1:Slots) (h1:Heap),evQuietV call V seg s h0=some (s1,h1) →
  h1=h0∧∃ (S:Nat→Slots),S 0=s∧S seg.length=s1∧∀ (x:Nat) (o:AOper),seg[x]? = some o →
   (∃ h',ew call o (S x) { h0 with wmin:=h0.size }=some (S (x+1),h')∧h'.size=h0.size∧h'.wmin=h0.size)∧quietOk V o (S x)=true
 | [],s,s1,h1,e=>by simp only [evQuietV] at e; cases e;exact ⟨rfl,fun _=>s,rfl,rfl,fun x o hx=>by simp at hx⟩
 | o :: seg,s,s1,h1,e=>by
  simp only [evQuietV] at e;split at e;case h_2=>cases e
  rename_i s2 h2 he;split at e;case isFalse=>cases e
  rename_i hh;obtain ⟨a1,a2,a3⟩:=hh;obtain ⟨b1,S,b2,b3,b4⟩:=zl seg s2 s1 h1 e;refine ⟨b1,fun x=>match x with | 0=>s | x+1=>S x,rfl,by simpa using b3,fun x o1 hx=>?_⟩;cases x with
  | zero =>
   simp at hx; subst hx;exact ⟨⟨h2,by simp only [b2]; exact he,a1,a2⟩,a3⟩
  | succ x =>
   simp at hx;exact b4 x o1 hx
def NoLoc (V:List Nat) (S:Slots):Prop:=∀ t u o,sget S t=some (.loc u o)→V.contains u=false
theorem xb:∀ (s:Slots),noLocs V s=true→NoLoc V s
 | [],_=>fun t u o e=>by cases e
 | (d,x) :: r,h=>by
  intro t u o e;simp only [sget] at e;split at e
  ·cases e;simp only [noLocs,av,gb] at h;exact h.1
  ·refine xb r ?_ t u o e;cases x <;> simp only [noLocs] at h <;> first | exact h | (simp only [av] at h; exact h.2)
theorem sets_calm {o:AOper} (h:calm o.op=true):o.sets V=o.dst:=by
 unfold AOper.sets;split
 ·rename_i hop; rw [hop] at h; cases h
 ·rfl
theorem quietOk_calm {o:AOper} {S:Slots} (h:calm o.op=true):quietOk V o S=((o.dst.all fun d=>!isVar S d && !V.contains d) && (o.reads.all fun u=>!looksAt V S u)):=by
 unfold quietOk;split
 ·rename_i hop; rw [hop] at h; cases h
 ·rename_i hop; rw [hop] at h; cases h
 ·rfl
theorem adr_inV {S:Slots} {x:Opd} (hl:∀ u ∈ x.reads,looksAt V S u=false) {t o:Nat} (h:x.adr S=some (.loc t o)):V.contains t=false:=by
 cases x with
 | const v=>cases h
 | tmp u =>
  have h1:=hl u (by simp [Opd.reads]);unfold looksAt at h1;simp only [Bool.or_eq_false_iff] at h1;simp only [Opd.adr] at h;split at h
  ·cases h
  ·cases h; exact h1.1
  ·rename_i t' o' hs; cases h; rw [hs] at h1; exact h1.2
  ·cases h
theorem pe {S:Slots} {h:Heap} {v:Option AVal} {x:Slot} {s':Slots} {h':Heap} (e:ok1 S h v=some (x,s',h')) {t o:Nat} (hx:x = .loc t o):False:=by obtain ⟨u,rfl,rfl,rfl,rfl⟩:=f8 e;cases hx
theorem op_loc {S:Slots} {h:Heap} {o:AOp} {d:Nat} {x:Slot} {s':Slots} {h':Heap} (hc:calm o=true) (hl:∀ u ∈ o.reads,looksAt V S u=false) (e:dm call d o S h=some (x,s',h')) :
  ∀ t off,x = .loc t off→V.contains t=false:=by
 intro t off hx;have hval:∀ v:AVal,x ≠ .val v:=fun v e=>by rw [hx] at e; cases e
 cases o with
 | faddr a n =>
  simp only [dm] at e;split at e
  ·exact (pe e hx).elim
  ·rename_i had;split at e
   ·cases e; cases hx; exact adr_inV hl had
   ·cases e
  ·cases e
 | aaddr n k a i =>
  simp only [dm] at e;split at e
  ·exact (pe e hx).elim
  ·rename_i had _;split at e
   ·rw [ae] at e;obtain ⟨j,_,e⟩:=e;cases e; cases hx;exact adr_inV (fun u hu=>hl u (by simp only [AOp.reads,bp]; exact .inl hu)) had
   ·cases e
  ·cases e
 | nilcheck a =>
  simp only [dm] at e;split at e
  ·exact (pe e hx).elim
  ·split at e
   ·rename_i had;split at e
    ·cases e; cases hx; exact adr_inV hl had
    ·cases e
   ·cases e
 | lalloc z=>cases hc
 | lbox a=>cases hc
 | store n a b=>cases hc
 | copy e1 d1 s1=>cases hc
 | conv k a =>
  simp only [dm] at e;split at e
  ·unfold om at e;cases k <;> simp only at e
   ·split at e
    ·exact (pe e hx).elim
    ·cases e
   ·split at e
    ·exact (pe e hx).elim
    ·cases e
   ·split at e
    ·split at e
     ·cases e; cases hx
     ·cases e
    ·cases e
   ·split at e
    ·split at e
     ·exact (pe e hx).elim
     ·cases e
    ·cases e
  ·cases e
 | nextStr a=>cases e
 | _ =>
  simp only [dm] at e
  first
   | exact (pe e hx).elim
   | (cases e; cases hx)
   | (split at e <;> first
     | exact (pe e hx).elim
     | (cases e; done)
     | (cases e; cases hx)
     | (rw [ae] at e; obtain ⟨_,_,e⟩:=e; cases e; cases hx)
     | (split at e <;> first
       | exact (pe e hx).elim
       | (cases e; done)
       | (cases e; cases hx)
       | (rw [ae] at e; obtain ⟨_,_,e⟩:=e; cases e; cases hx)))
theorem oper_loc {S:Slots} {h:Heap} {o:AOper} {x:Slot} {h':Heap} (hc:calm o.op=true) (hl:∀ u ∈ o.reads,looksAt V S u=false) (e:ew call o S h=some (a8 o.dst x S,h')) (hn:NoLoc V S) :
  NoLoc V (a8 o.dst x S):=by
 have run:∀ s' h',evRun call o S h=some (s',h')→NoLoc V s':=by
  intro s' h' e;unfold evRun at e;split at e;case h_2=>cases e
  rename_i x1 s1 h1 he;cases e;intro t u off ht;obtain ⟨e1,_,_⟩:=op_congr (V:=fun _=>False) (S2:=S) hc (Agree.of (fun _ _=>rfl) (fun _ _=>Iff.rfl)) _ _ _ he;subst e1;rw [fg] at ht;split at ht
  ·cases ht;exact op_loc hc (fun u hu=>hl u (by unfold AOper.reads; exact fw _ hu)) he _ _ rfl
  ·exact hn _ _ _ ht
 have und:NoLoc V (a8 o.dst .undef S):=by
  intro t u off ht;rw [fg] at ht;split at ht
  ·cases ht
  ·exact hn _ _ _ ht
 unfold ew at e;split at e
 ·exact run _ _ e
 ·split at e
  ·split at e
   ·exact run _ _ e
   ·have:=congrArg Prod.fst (dg e); exact (show a8 o.dst .undef S=a8 o.dst x S from this) ▸ und
  ·have:=congrArg Prod.fst (dg e); exact (show a8 o.dst .undef S=a8 o.dst x S from this) ▸ und
  ·cases e
theorem operV {o:AOper} {S sD S':Slots} {h h':Heap} (hv:quietV V o=true) (hq:quietOk V o S=true) (e:ew call o S h=some (S',h')) (hn:NoLoc V S) (hnD:NoLoc V sD)
  (hat:∀ t ∈ o.reads,sget S t=sget sD t) (hvar:∀ t cs,V.contains t=false→(sget S t=some (.var cs) ↔ sget sD t=some (.var cs))) :
  ∃ sD',ew call o sD h=some (sD',h')∧(∀ u,sget sD' u=if o.sets V=some u then sget S' u else sget sD u)∧(∀ u,o.sets V≠some u→sget S' u=sget S u)∧NoLoc V S' ∧
   (∀ d cs,o.sets V=some d→V.contains d=false→sget S' d≠some (.var cs)∧sget S d≠some (.var cs)):=by
 have unl:∀ {A:Slots} (d:Nat),V.contains d=true→NoLoc V A→∀ t,sget (py d A) t=sget A t:=by
  intro A d hd hA t;rw [vq];split
  ·rename_i t' off ht;have:=hA _ _ _ ht;rw [if_neg (fun e=>by subst e; rw [hd] at this; cases this),ht]
  ·rfl
 by_cases hc:calm o.op=true
 ·rw [quietOk_calm hc] at hq;simp only [av,al,gb] at hq;obtain ⟨hq1,hq2⟩:=hq
  have hag:AgreeV (fun t=>V.contains t=true) S sD o.reads:=⟨hat,fun t cs ht=>hvar t cs (by simpa using ht),fun t ht=>by have:=hq2 t ht;unfold looksAt at this;simp only [Bool.or_eq_false_iff] at this;refine ⟨(fun hq=>by rw [this.1] at hq; cases hq),fun t' off hs hq=>?_⟩;rw [hs] at this;have h2:V.contains t'=false:=this.2;rw [h2] at hq; cases hq⟩
  obtain ⟨x,c1,c2,c3⟩:=js hc hag e;rw [sets_calm hc];subst c1;refine ⟨_,c2,fun u=>?_,fun u hu=>by rw [fg,if_neg hu],oper_loc hc hq2 e hn,fun d cs hd hdV=>?_⟩
  ·rw [fg];split
   ·rename_i hu; rw [fg,if_pos hu]
   ·rfl
  ·rw [hd] at hq1;simp only [Option.all_some,av,gb] at hq1;refine ⟨by rw [fg,if_pos hd]; intro e; exact c3 cs (dg e),fun e=>?_⟩;have:=hq1.1;unfold isVar at this;rw [e] at this;cases this
 ·unfold quietV at hv;split at hv
  ·-- a variable is made
   rename_i z hop;unfold quietOk at hq;rw [hop] at hq;simp only [av,Option.isNone_iff_eq_none] at hq;obtain ⟨hg,hd⟩:=hq;cases hdd:o.dst with
   | none=>rw [hdd] at hd; cases hd
   | some d =>
    rw [hdd] at hd;simp only at hd;have hset:o.sets V=some d:=by unfold AOper.sets; rw [hop]; exact hdd
    unfold ew at e;rw [hg] at e;simp only [evRun,hop,dm,hdd,cq,a8] at e;cases e;refine ⟨(d,.var z) :: py d sD,by unfold ew; rw [hg]; simp only [evRun,hop,dm,hdd,cq,a8],fun u=>?_,fun u hu=>?_,?_,fun d' cs hd' hV=>?_⟩
    ·rw [hset];simp only [sget,bt];split
     ·rfl
     ·exact unl d hd hnD u
    ·rw [hset] at hu;simp only [sget];rw [if_neg (fun e=>hu (by rw [e]))];exact unl d hd hn u
    ·intro t u off ht;simp only [sget] at ht;split at ht
     ·cases ht
     ·rw [unl d hd hn t] at ht; exact hn _ _ _ ht
    ·rw [hset] at hd'; cases hd'; rw [hd] at hV; cases hV
  ·-- one is set
   rename_i n t x hop;unfold quietOk at hq;rw [hop] at hq;simp only [av,Option.isNone_iff_eq_none,al,gb] at hq;obtain ⟨⟨⟨⟨hg,hd⟩,_⟩,hvr⟩,hlk⟩:=hq;have hset:o.sets V=some t:=by unfold AOper.sets; rw [hop]; simp only; rw [if_pos hv]
   have hreads:o.reads=t :: x.reads:=by unfold AOper.reads; rw [hop,hg]; simp [AOp.reads,Opd.reads]
   have ht:sget S t=sget sD t:=hat t (by rw [hreads]; exact bh ..)
   have hx:x.ev sD=x.ev S:=by
    cases x with
    | const v=>rfl
    | tmp u=>simp only [Opd.ev,← hat u (by rw [hreads]; simp [Opd.reads])]
   unfold isVar at hvr;split at hvr;case h_2=>cases hvr
   rename_i cs hcs;have hcsD:sget sD t=some (.var cs):=by rw [← ht]; exact hcs
   have hadr:(Opd.tmp t).adr S=some (.loc t 0):=by simp only [Opd.adr,hcs]
   have hadrD:(Opd.tmp t).adr sD=some (.loc t 0):=by simp only [Opd.adr,hcsD]
   unfold ew at e;rw [hg] at e;simp only [evRun,hop,dm,hadr] at e;cases hxs:(x.ev S).bind AVal.cells? with
   | none=>rw [hxs] at e; cases e
   | some xs =>
    rw [hxs] at e;simp only [storeAt,hcs] at e;by_cases hlen:xs.length=n
    ·rw [if_pos hlen] at e;by_cases hle:0+xs.length≤cs.length
     ·rw [if_pos hle] at e;simp only [bw,hd,a8] at e;cases e;refine ⟨(t,.var (splice cs 0 xs)) :: sD,?_,fun u=>?_,fun u hu=>?_,?_,fun d' cs' hd' hV=>?_⟩
      ·unfold ew;rw [hg];simp only [evRun,hop,dm,hadrD,hx,hxs,storeAt,hcsD];rw [if_pos hlen,if_pos hle];simp only [bw,hd,a8]
      ·rw [hset];simp only [sget,bt];split <;> rfl
      ·rw [hset] at hu;simp only [sget];rw [if_neg (fun e=>hu (by rw [e]))]
      ·intro t1 u off ht1;simp only [sget] at ht1;split at ht1
       ·cases ht1
       ·exact hn _ _ _ ht1
      ·rw [hset] at hd'; cases hd'; rw [hv] at hV; cases hV
     ·rw [if_neg hle] at e; cases e
    ·rw [if_neg hlen] at e; cases e
  ·exact absurd hv hc
end
section
variable {E:Env} {lo nt:Nat} {μ0:MM} {w0:World} {ds:List Deferred} {s:Slots} {h:Heap} {a:Act} {w:World} {call:CallSem} {ops:Array Oper} {locs:List Nat} {as:List AOper} {Q:Exit→Act→World→Prop} {ro:Option Nat} {V:List Nat}
theorem quietV_any (hc:CallOK E call) (hev0:CallEvol call) (hg:GidOK E) (has:mr E nt ops locs 0 ops.toList=some as) (hb:edgesBack ops=true)
  {p n:Nat} {h1:Heap} {s1:Slots} (hpn:p+n≤as.length) (hw1:waits (befs ops.toList []) (p+n)=true)
  (hap:∀ x y oi oj,x < n→y < n→as[p+x]? = some oi→as[p+y]? = some oj→apartV V (befs ops.toList []) (p+x) (p+y) oi oj=true)
  (hqv:∀ x o,x < n→as[p+x]? = some o→quietV V o=true) (hnl:NoLoc V s)
  (hev:evQuietV call V ((as.drop p).take n) s h=some (s1,h1))
  (hk:∀ listed' a' w',Exact ops listed' (p+n)→At E lo nt μ0 w0 ds s1 h1 a' w'→wpAnyIn (F0 ro) 0 E.P .any ops Q (ops.size - (p+n)) listed' a' w') :
  ∀ listed a w,Exact ops listed p→At E lo nt μ0 w0 ds s h a w→wpAnyIn (F0 ro) 0 E.P .any ops Q (ops.size - p) listed a w:=by
 obtain ⟨q1,q2⟩:=mb _ _ _ has;simp only [ig] at q1;have hchain:=og (ops:=ops) ops.toList [] (by simp) (fun k i hk=>by simp at hk);have hblen:=lr ops.toList [];simp only [bf,dk,ig] at hblen;have hseg:∀ x,x < n→((as.drop p).take n)[x]? = as[p+x]?:=fun x hx=>by rw [et hx,dw]
 have hslen:((as.drop p).take n).length=n:=by simp; omega
 obtain ⟨e1,S,b2,b3,b4⟩:=zl _ _ _ _ hev;subst e1;rw [hslen] at b3
 have opat:∀ x,x < n→∃ o o',ops[p+x]? = some o∧as[p+x]? = some o'∧ng E nt ops (locs.contains (p+x)) o=some o':=by
  intro x hx;have hlt:p+x < ops.size:=by omega
  obtain ⟨o',h2,h3⟩:=q2 (p+x) ops[p+x] (by simp [hlt]);exact ⟨ops[p+x],o',by simp [hlt],h2,by simpa using h3⟩
 have text:∀ x o',x < n→as[p+x]? = some o'→(∃ h',ew call o' (S x) { h1 with wmin:=h1.size }=some (S (x+1),h')∧h'.size=h1.size∧h'.wmin=h1.size)∧quietOk V o' (S x)=true :=
  fun x o' hx ho=>b4 x o' (by rw [hseg x hx]; exact ho)
 have ordered:∀ x y oi oj d,x < n→y < n→x≠y→as[p+x]? = some oi→as[p+y]? = some oj→oj.sets V=some d→(oi.sets V=some d∨d ∈ oi.reads) →
   (y < x∧((befs ops.toList []).getD (p+x) 0).testBit (p+y)=true)∨(x < y∧((befs ops.toList []).getD (p+y) 0).testBit (p+x)=true):=by
  intro x y oi oj d hx hy hne hi hj hd hor;have:=hap x y oi oj hx hy hi hj;unfold apartV at this;rw [hd] at this;simp only [av,ep,beq_iff_eq,bne_iff_ne,decide_eq_true_eq,gb,List.contains_eq_mem,decide_eq_false_iff_not] at this;rcases this with ((h2 | h2) | h2) | h2
  ·omega
  ·rcases hor with h3 | h3
   ·exact absurd h3 h2.1
   ·exact absurd h3 h2.2
  ·exact .inl ⟨by omega,h2.2⟩
  ·exact .inr ⟨by omega,h2.2⟩
 have self:∀ x o',x < n→as[p+x]? = some o'→NoLoc V (S x)→(∀ u,o'.sets V≠some u→sget (S (x+1)) u=sget (S x) u)∧NoLoc V (S (x+1)) ∧
   (∀ d cs,o'.sets V=some d→V.contains d=false→sget (S (x+1)) d≠some (.var cs)∧sget (S x) d≠some (.var cs)):=by
  intro x o' hx ho hn;obtain ⟨⟨h',t1,_,_⟩,t2⟩:=text x o' hx ho;obtain ⟨_,_,_,c3,c4,c5⟩:=operV (hqv x o' hx ho) t2 t1 hn hn (fun _ _=>rfl) (fun _ _ _=>Iff.rfl);exact ⟨c3,c4,c5⟩
 have text_no:∀ x,x≤n→NoLoc V (S x):=by
  intro x;induction x with
  | zero=>intro _; rw [b2]; exact hnl
  | succ x ih =>
   intro hx;obtain ⟨_,o',_,ho',_⟩:=opat x (by omega);exact (self x o' (by omega) ho' (ih (by omega))).2.1
 have text_step:∀ x o' u,x < n→as[p+x]? = some o'→o'.sets V≠some u→sget (S (x+1)) u=sget (S x) u:=fun x o' u hx ho=>(self x o' hx ho (text_no x (by omega))).1 u
 have text_last:∀ x t y,y < x→x≤n→(∀ z o,y < z→z < x→as[p+z]? = some o→o.sets V≠some t)→sget (S x) t=sget (S (y+1)) t:=by
  intro x;induction x with
  | zero=>intro t y hy; omega
  | succ x ih =>
   intro t y hy hx hno;by_cases e:y=x
   ·subst e; rfl
   ·obtain ⟨_,o',_,ho',_⟩:=opat x (by omega);rw [text_step x o' t (by omega) ho' (hno x o' (by omega) (by omega) ho')];exact ih t y (by omega) (by omega) fun z o h2 h3=>hno z o h2 (by omega)
 have text_miss:∀ x t,x≤n→(∀ y o,y < x→as[p+y]? = some o→o.sets V≠some t)→sget (S x) t=sget s t:=by
  intro x;induction x with
  | zero=>intro t _ _; rw [b2]
  | succ x ih =>
   intro t hx hno;obtain ⟨_,o',_,ho',_⟩:=opat x (by omega);rw [text_step x o' t (by omega) ho' (hno x o' (by omega) ho')];exact ih t (by omega) fun y o hy=>hno y o (by omega)
 have text_var:∀ x t cs,x≤n→V.contains t=false→(sget (S x) t=some (.var cs) ↔ sget s t=some (.var cs)):=by
  intro x;induction x with
  | zero=>intro t cs _ _; rw [b2]
  | succ x ih =>
   intro t cs hx ht;obtain ⟨_,o',_,ho',_⟩:=opat x (by omega);by_cases e:o'.sets V=some t
   ·obtain ⟨n1,n2⟩:=(self x o' (by omega) ho' (text_no x (by omega))).2.2 t cs e ht;rw [← ih t cs (by omega) ht];exact ⟨fun e=>absurd e n1,fun e=>absurd e n2⟩
   ·rw [text_step x o' t (by omega) ho' e];exact ih t cs (by omega) ht
 have main:∀ (k:Nat) (listed:Array Bool) (sD:Slots) (a:Act) (w:World),listed.size=ops.size→Down ops listed→(∀ i,i < p→listed[i]? = some true)→(∀ i,p+n≤i→i < ops.size→listed[i]? = some false) →
   ((List.range n).filter fun x=>listed[p+x]? == some false).length=k →
   (∀ t,(∃ y o,y < n∧as[p+y]? = some o∧o.sets V=some t∧listed[p+y]? = some true∧(∀ z oz,z < n→as[p+z]? = some oz→oz.sets V=some t→listed[p+z]? = some true→z≤y)∧sget sD t=sget (S (y+1)) t) ∨
    ((∀ y o,y < n→as[p+y]? = some o→o.sets V=some t→listed[p+y]?≠some true)∧sget sD t=sget s t)) →
   At E lo nt μ0 w0 ds sD h1 a w→wpAnyIn (F0 ro) 0 E.P .any ops Q (ops.size - (p+n)+k) listed a w:=by
  intro k;induction k with
  | zero =>
   intro listed sD a w hsz hdn hlow hhigh hcount hinv hat
   have hall:∀ x,x < n→listed[p+x]? = some true:=by
    intro x hx;have hlt:p+x < listed.size:=by omega
    have hmem:x ∉ (List.range n).filter fun x=>listed[p+x]? == some false:=by rw [bq hcount]; simp
    rw [ju] at hmem;have h2:¬ (listed[p+x]? = some false):=fun h2=>hmem ⟨eh.2 hx,by simp [h2]⟩
    rw [j9 hlt] at h2 ⊢;cases hv:listed[p+x] with
    | true=>rfl
    | false=>rw [hv] at h2; exact absurd rfl h2
   have hex:Exact ops listed (p+n):=by
    refine ⟨hsz,fun i hi=>?_⟩;rcases bi i p with h2 | h2
    ·rw [hlow i h2]; simp; omega
    ·rcases bi i (p+n) with h3 | h3
     ·have:=hall (i - p) (by omega);rw [show p+(i - p)=i by omega] at this;rw [this]; simp [h3]
     ·rw [hhigh i h3 hi]; simp; omega
   refine hk listed a w hex ?_;obtain ⟨μ,ν,k1,k2,k3,k4⟩:=hat;refine ⟨μ,ν,k1,k2,k3.congr fun t=>?_,k4⟩;rw [← b3];rcases hinv t with ⟨y,o,i1,i2,i3,i4,i5,i6⟩ | ⟨i1,i2⟩
   ·rw [i6];refine text_last n t y i1 (ai _) fun z oz hz hzn hoz hs=>?_
    have:=i5 z oz hzn hoz hs (hall z hzn);omega
   ·rw [i2];exact text_miss n t (ai _) fun y o hy ho hs=>i1 y o hy ho hs (hall y hy)
  | succ k ih =>
   intro listed sD a w hsz hdn hlow hhigh hcount hinv hat
   have hsome:∃ x,x < n∧listed[p+x]? = some false:=by
    have hne:(List.range n).filter (fun x=>listed[p+x]? == some false)≠[]:=fun e=>by rw [e] at hcount; simp at hcount
    obtain ⟨x,hx⟩:=List.exists_mem_of_ne_nil _ hne;rw [ju,eh] at hx;exact ⟨x,hx.1,by simpa using hx.2⟩
   obtain ⟨xu,hxu,hxf⟩:=hsome;refine ⟨fun hr=>?_,fun i hi=>?_⟩
   ·have:=sg hb hsz hr (p+xu) (by omega);rw [hxf] at this; cases this
   ·obtain ⟨oi,k1,k2,k3⟩:=qy hsz hi;have his:i < ops.size:=aj (l:=ops.toList) (by simpa using k1)
    have hip:p≤i:=by
     rcases bi i p with h2 | h2
     ·rw [hlow i h2] at k2; cases k2
     ·exact h2
    have hin:i < p+n:=by
     rcases bi i (p+n) with h2 | h2
     ·exact h2
     ·exfalso;have hbit:=w9 hw1 (j:=i) (i:=p+xu) (by rw [hblen]; exact his) h2 (by omega);have hl:=jk hdn (hchain _ _ hbit) fun o e ho he hbb=>by rw [k1] at ho; cases ho; exact k3 e he hbb
      rw [hxf] at hl; cases hl
    obtain ⟨x,rfl⟩:∃ x,i=p+x:=⟨i - p,by omega⟩;have hxn:x < n:=by omega
    obtain ⟨o,o',h2,h3,h4⟩:=opat x hxn;rw [h2] at k1; cases k1;obtain ⟨⟨h',t1,t1a,t1b⟩,t2⟩:=text x o' hxn h3
    have waitsl:∀ j,(((befs ops.toList []).getD (p+x) 0).testBit j=true)→listed[j]? = some true:=fun j hbit =>
     jk hdn (hchain _ _ hbit) fun o2 e ho he hbb=>by rw [h2] at ho; cases ho; exact k3 e he hbb
    have waitsd:∀ j i,listed[j]? = some true→(((befs ops.toList []).getD j 0).testBit i=true)→listed[i]? = some true:=fun j i hl hbit =>
     jk hdn (hchain _ _ hbit) fun o2 e ho he hbb=>hdn _ _ _ hl ho he hbb
    have low:∀ t y oy,t ∈ o'.reads→y < n→as[p+y]? = some oy→oy.sets V=some t→y < x→listed[p+y]? = some true:=by
     intro t y oy ht hy hoy hs hyx;rcases ordered x y o' oy t hxn hy (by omega) h3 hoy hs (.inr ht) with ⟨_,h6⟩ | ⟨h5,_⟩
     ·exact waitsl _ h6
     ·omega
    have high:∀ t y oy,(o'.sets V=some t∨t ∈ o'.reads)→y < n→as[p+y]? = some oy→oy.sets V=some t→listed[p+y]? = some true→y < x:=by
     intro t y oy ht hy hoy hs hl;rcases Nat.lt_trichotomy y x with h5 | h5 | h5
     ·exact h5
     ·subst h5; rw [k2] at hl; cases hl
     ·exfalso;rcases ordered x y o' oy t hxn hy (by omega) h3 hoy hs ht with ⟨h6,_⟩ | ⟨_,h6⟩
      ·omega
      ·have:=waitsd _ _ hl h6;rw [k2] at this; cases this
    have hag:∀ t ∈ o'.reads,sget (S x) t=sget sD t:=by
     intro t ht;rcases hinv t with ⟨y,oy,i1,i2,i3,i4,i5,i6⟩ | ⟨i1,i2⟩
     ·rw [i6];refine text_last x t y (high t y oy (.inr ht) i1 i2 i3 i4) (by omega) fun z oz hz hzx hoz hs=>?_
      have:=i5 z oz (by omega) hoz hs (low t z oz ht (by omega) hoz hs hzx);omega
     ·rw [i2];exact text_miss x t (by omega) fun y oy hy hoy hs=>i1 y oy (by omega) hoy hs (low t y oy ht (by omega) hoy hs hy)
    have hvar:∀ t cs,V.contains t=false→(sget (S x) t=some (.var cs) ↔ sget sD t=some (.var cs)):=by
     intro t cs ht;rw [text_var x t cs (by omega) ht];rcases hinv t with ⟨y,oy,i1,i2,i3,i4,i5,i6⟩ | ⟨i1,i2⟩
     ·rw [i6]; exact (text_var (y+1) t cs (by omega) ht).symm
     ·rw [i2]
    have hnD:NoLoc V sD:=by
     intro t u off ht;rcases hinv t with ⟨y,oy,i1,i2,i3,i4,i5,i6⟩ | ⟨i1,i2⟩
     ·rw [i6] at ht; exact text_no (y+1) (by omega) _ _ _ ht
     ·rw [i2] at ht; exact hnl _ _ _ ht
    obtain ⟨sD',c1,c2,_,_,_⟩:=operV (hqv x o' hxn h3) t2 t1 (text_no x (by omega)) hnD hag hvar;refine zaa h2 (zba hc hev0 hg h4 c1 t1a t1b hat fun a' w' hat'=>?_);have hset:∀ j,j≠p+x→(listed.setIfInBounds (p+x) true)[j]? = listed[j]?:=fun j hj=>dx (fun e=>hj e.symm)
    have hself:(listed.setIfInBounds (p+x) true)[p+x]? = some true:=by simp [hsz,his]
    refine ih (listed.setIfInBounds (p+x) true) sD' a' w' (by simp [hsz]) ?_ ?_ ?_ ?_ ?_ hat'
    ·intro j oj e hj hoj he hbb;by_cases ej:j=p+x
     ·subst ej;rw [h2] at hoj; cases hoj;have:=k3 e he hbb;by_cases ee:e.on=p+x
      ·rw [ee]; exact hself
      ·rw [hset _ ee]; exact this
     ·rw [hset _ ej] at hj;have:=hdn j oj e hj hoj he hbb;by_cases ee:e.on=p+x
      ·rw [ee]; exact hself
      ·rw [hset _ ee]; exact this
    ·intro j hj; rw [hset j (by omega)]; exact hlow j hj
    ·intro j hj hj'; rw [hset j (by omega)]; exact hhigh j hj hj'
    ·-- one less is to come
     have hperm:((List.range n).filter fun y=>(listed.setIfInBounds (p+x) true)[p+y]? == some false)=((List.range n).filter fun y=>listed[p+y]? == some false).filter fun y=>y != x:=by
      rw [List.filter_filter];apply List.filter_congr;intro y _;by_cases ey:y=x
      ·subst ey; rw [hself]; simp
      ·rw [hset _ (by omega)]; simp [ey]
     rw [hperm]
     have hmem:x ∈ (List.range n).filter fun y=>listed[p+y]? == some false:=by rw [ju]; exact ⟨eh.2 hxn,by simp [k2]⟩
     have hnd:((List.range n).filter fun y=>listed[p+y]? == some false).Nodup:=List.nodup_range.sublist List.filter_sublist;generalize (List.range n).filter (fun y=>listed[p+y]? == some false)=L at hcount hmem hnd;have herase:L.filter (fun y=>y != x)=L.erase x:=(hnd.erase_eq_filter x).symm;rw [herase,List.length_erase_of_mem hmem,hcount];rfl
    ·intro t;rw [c2 t];by_cases ht:o'.sets V=some t
     ·rw [if_pos ht];refine .inl ⟨x,o',hxn,h3,ht,hself,fun z oz hz hoz hs hl=>?_,rfl⟩;by_cases ez:z=x
      ·omega
      ·rw [hset _ (by omega)] at hl;have:=high t z oz (.inl ht) hz hoz hs hl;omega
     ·rw [if_neg ht]
      have ne:∀ z oz,as[p+z]? = some oz→oz.sets V=some t→z≠x:=by intro z oz hoz hs e;subst e; rw [h3] at hoz; cases hoz; exact ht hs
      rcases hinv t with ⟨y,oy,i1,i2,i3,i4,i5,i6⟩ | ⟨i1,i2⟩
      ·refine .inl ⟨y,oy,i1,i2,i3,?_,fun z oz hz hoz hs hl=>?_,i6⟩
       ·rw [hset _ (by have:=ne y oy i2 i3; omega)]; exact i4
       ·rw [hset _ (by have:=ne z oz hoz hs; omega)] at hl;exact i5 z oz hz hoz hs hl
      ·refine .inr ⟨fun y oy hy hoy hs=>?_,i2⟩;rw [hset _ (by have:=ne y oy hoy hs; omega)];exact i1 y oy hy hoy hs
 intro listed a w hex hat
 have hcount:((List.range n).filter fun x=>listed[p+x]? == some false).length=n:=by
  have:(List.range n).filter (fun x=>listed[p+x]? == some false)=List.range n:=by rw [List.filter_eq_self];intro x hx;rw [eh] at hx;rw [hex.2 (p+x) (by omega)];simp
  rw [this,List.length_range]
 have:=main n listed s a w hex.1 (hex.down hb) (fun i hi=>by rw [hex.2 i (by omega)]; simp [hi]) (fun i hi hi'=>by rw [hex.2 i hi']; simp; omega) hcount
  (fun t=>.inr ⟨fun y o hy ho hs hl=>by have h5:=hex.2 (p+y) (by omega);rw [hl] at h5;have h6:=of_decide_eq_true (dg h5).symm;omega,rfl⟩) hat
 rwa [show ops.size - (p+n)+n=ops.size - p by omega] at this
end
end Go.Abs

namespace Go.Abs
section
variable {E:Env} {lo nt:Nat} {μ0:MM} {w0:World} {ds:List Deferred} {s:Slots} {h:Heap} {a:Act} {w:World} {call:CallSem} {ops:Array Oper} {locs:List Nat} {as:List AOper} {Q:Exit→Act→World→Prop} {ro:Option Nat}
theorem zaq (hc:CallOK E call) (hev0:CallEvol call) (hg:GidOK E) (has:mr E nt ops locs 0 ops.toList=some as) (hb:edgesBack ops=true) :
  ∀ (segs:List (Bool × Nat)) (p:Nat) (gs:List Seg) (s:Slots) (h:Heap) (s1:Slots) (h1:Heap) (listed:Array Bool) (a:Act) (w:World),segsOk as (befs ops.toList []) p segs=true→splitSegs (befs ops.toList []) p segs (as.drop p)=some gs →
  j8 call gs s h=some (s1,h1)→Exact ops listed p→At E lo nt μ0 w0 ds s h a w→(∀ a' w',At E lo nt μ0 w0 ds s1 h1 a' w'→Q .normal a' w')→wpAnyIn (F0 ro) 0 E.P .any ops Q (ops.size - p) listed a w
 | [],p,gs,s,h,s1,h1,listed,a,w,hok,hsp,hev,hex,hat,hn=>by
  obtain ⟨q1,_⟩:=mb _ _ _ has;simp only [ig] at q1;simp only [segsOk,beq_iff_eq] at hok;have hp:p=ops.size:=by omega
  subst hp;rw [Nat.sub_self];unfold splitSegs at hsp;split at hsp
  ·cases hsp;simp only [j8] at hev; cases hev;refine ⟨?_,hn _ _ hat⟩;apply List.eq_nil_iff_forall_not_mem.2;intro i hi;obtain ⟨o,k1,k2,_⟩:=qy hex.1 hi;have his:i < ops.size:=aj (l:=ops.toList) (by simpa using k1);rw [hex.2 i his] at k2;simp [his] at k2
  ·cases hsp
  ·contradiction
 | (true,n) :: r,p,gs,s,h,s1,h1,listed,a,w,hok,hsp,hev,hex,hat,hn=>by
  obtain ⟨q1,_⟩:=mb _ _ _ has;simp only [ig] at q1;have hblen:=lr ops.toList [];simp only [bf,dk,ig] at hblen;simp only [segsOk,av,decide_eq_true_eq] at hok;obtain ⟨⟨⟨a1,a2⟩,a34⟩,a5⟩:=hok;simp only [splitSegs] at hsp;split at hsp;case isFalse=>cases hsp
  rw [ae] at hsp;obtain ⟨gs',hsp,rfl⟩:=hsp;rw [lk] at hsp;simp only [j8,if_true] at hev;split at hev;case h_2=>cases hev
  rename_i s2 h2 he
  have hgo:∀ listed' a' w',Exact ops listed' (p+n)→At E lo nt μ0 w0 ds s2 h2 a' w'→wpAnyIn (F0 ro) 0 E.P .any ops Q (ops.size - (p+n)) listed' a' w':=fun listed' a' w' hex' hat' =>
   zaq hc hev0 hg has hb r (p+n) gs' s2 h2 s1 h1 listed' a' w' a5 hsp hev hex' hat' hn
  unfold quietSeg at a34;split at a34
  case isFalse hnv =>
   simp only [av] at a34;obtain ⟨⟨hsm,a3⟩,a4⟩:=a34;rw [if_pos (by simpa using hsm)] at he;unfold evQ at he;rw [if_neg hnv] at he;split at he;case isFalse=>cases he
   rename_i hnl;refine quietV_any hc hev0 hg has hb a2 (ud (by omega) r (p+n) a5) (fun x y oi oj hx hy hi hj=>?_) (fun x o hx ho=>?_) (xb _ hnl) he hgo listed a w hex hat
   ·rw [al] at a3;have:=a3 x (eh.2 hx);rw [al] at this;have:=this y (eh.2 hy);rw [hi,hj] at this;exact this
   ·rw [al] at a4;have:=a4 x (eh.2 hx);rw [ho] at this;exact this
  rename_i hnv;simp only [av] at a34;obtain ⟨a3,a4⟩:=a34
  have hap:∀ x y oi oj,x < n→y < n→as[p+x]? = some oi→as[p+y]? = some oj→apart (befs ops.toList []) (p+x) (p+y) oi oj=true:=fun x y oi oj hx hy hi hj=>by rw [al] at a3;have:=a3 x (eh.2 hx);rw [al] at this;have:=this y (eh.2 hy);rw [hi,hj] at this;exact this
  have hcs:∀ x o,x < n→as[p+x]? = some o→calm o.op=true∧(rg (befs ops.toList []) p ((as.drop p).take n)=[]∨soft o.op=true):=fun x o hx ho=>by rw [al] at a4;have:=a4 x (eh.2 hx);rw [ho] at this;simpa using this
  unfold evQ at he;rw [if_pos hnv] at he;split at he
  ·exact quiet_any hc hev0 hg has hb a2 (ud (by omega) r (p+n) a5) hap (fun x o hx ho=>(hcs x o hx ho).1) he hgo listed a w hex hat
  ·rename_i hne;refine open_any hc hev0 hg has hb a2 (ud (by omega) r (p+n) a5) hap (fun x o hx ho=>(hcs x o hx ho).2.resolve_left hne) (fun x hx=>?_) he hgo listed a w hex hat;unfold rg at hne ⊢;split at hne
   ·rename_i hm;rw [if_pos hm];have hl:((as.drop p).take n).length=n:=by simp; omega
    rw [hl,ge,cz,List.getElem?_range hx];rfl
   ·exact absurd rfl hne
 | (false,n) :: r,p,gs,s,h,s1,h1,listed,a,w,hok,hsp,hev,hex,hat,hn=>by
  obtain ⟨q1,_⟩:=mb _ _ _ has;simp only [ig] at q1;have hblen:=lr ops.toList [];simp only [bf,dk,ig] at hblen;simp only [segsOk,av,decide_eq_true_eq] at hok;obtain ⟨⟨a2,a3⟩,a5⟩:=hok;simp only [splitSegs] at hsp;split at hsp;case isFalse=>cases hsp
  rw [ae] at hsp;obtain ⟨gs',hsp,rfl⟩:=hsp;rw [lk] at hsp;simp only [j8,am,if_false] at hev;split at hev;case h_2=>cases hev
  rename_i s2 h2 he;refine seq_any hc hev0 hg has hb n p s h s2 h2 listed a w a2 (fun x hx=>?_) he hex hat (fun listed' a' w' hex' hat'=>?_)
  ·rcases bi x n with h3 | h3
   ·rw [al] at a3;exact a3 x (eh.2 h3)
   ·have:x=n:=by omega
    subst this;exact ud (by omega) r (p+x) a5
  ·exact zaq hc hev0 hg has hb r (p+n) gs' s2 h2 s1 h1 listed' a' w' a5 hsp hev hex' hat' hn
theorem region_sound (hc:CallOK E call) (hev0:CallEvol call) (hg:GidOK E) (hm:E.P.follows .mixedOrders=true) {segs:List (Bool × Nat)} {draw:Bool} {gs:List Seg} {id:Nat} {s1:Slots} {h1:Heap}
  (hcr:cRegion E nt segs locs ops draw=some gs) (hev:j8 call gs s h=some (s1,h1)) (hat:At E lo nt μ0 w0 ds s h a w) (hn:∀ a' w',At E lo nt μ0 w0 ds s1 h1 a' w'→Q .normal a' w') :
  (Code.region id ops draw).wpIn (F0 ro) 0 E.P Q a w:=by
 unfold cRegion at hcr;split at hcr;case h_2=>cases hcr
 rename_i as has;split at hcr
 ·rename_i hd;subst hd;split at hcr;case isFalse=>cases hcr
  rename_i hh;simp only [av] at hh;apply wpIn_region_any hm
  have hat':At E lo nt μ0 w0 ds s h a { w with drawn:=w.drawn+1 }:=by obtain ⟨μ,ν,k1,k2,k3,k4,k5,k6⟩:=hat;exact ⟨μ,ν,k1.heap rfl rfl rfl rfl,k2.same rfl rfl rfl,k3.heap rfl,k4,k5,k6⟩
  exact zaq hc hev0 hg has hh.1 segs 0 gs s h s1 h1 _ _ _ hh.2 (by simpa using hcr) hev ⟨by simp,fun i hi=>by simp [hi]⟩ hat' hn
 ·rename_i hd;have:draw=false:=by simpa using hd
  subst this;cases hcr;simp only [j8,am,if_false] at hev;split at hev;case h_2=>cases hev
  rename_i s2 h2 he;cases hev;apply wpIn_region;have:=x7 (ro:=ro) (Q:=Q) hc hev0 hg ops.toList 0 as s h s1 h1 a w rfl has he hat hn;rw [List.range_eq_range'];simpa using this
end
end Go.Abs

namespace Go.Abs
def AExit.toX:AExit→Exit
 | .normal=>.normal
 | .exit id=>.exit id
 | .ret=>.ret
section
variable {E:Env} {lo nt:Nat} {μ0:MM} {w0:World} {ds:List Deferred} {call:CallSem} {ro:Option Nat}
theorem At.keep {s:Slots} {h:Heap} {a:Act} {w:World} (hat:At E lo nt μ0 w0 ds s h a w) (l:List Nat):At E lo nt μ0 w0 ds (Abs.keep l s) h a w:=by obtain ⟨μ,ν,k1,k2,k3,k4⟩:=hat;exact ⟨μ,ν,k1,k2,k3.less fun t x hx=>sget_keep l s t x hx,k4⟩
theorem Step.alloc {X:Nat→Prop} {wm:Nat} {μ:MM} {w:World} (B:Obj):Step X wm μ w μ (w.alloc B) :=
 ⟨rfl,rfl,rfl,by simp,fun k hk _ _=>by
  show (w.heap.push B)[k]? = _
  rw [fe,if_neg (by omega)],ai _,fun _ _=>.inl rfl,fun i m hi hm=>absurd (aj hm) (by omega)⟩
theorem caps_rel {ν:Fr} {μ:MM} {s:Slots} {tmps:Array Value} {w:World} (hf:FRel E lo ν μ (sget s) tmps w):∀ {caps:List Nat} {sl:List (Nat × AVal)},capsOf s caps=some sl→∀ (k:Nat) (x:Nat × AVal),sl[k]? = some x→∃ v',tmps[x.1]? = some v'∧VRel E μ x.2 v'
 | [],sl,h,k,x,hk=>by simp only [capsOf] at h; cases h; simp at hk
 | t :: caps,sl,h,k,x,hk=>by
  simp only [capsOf] at h;split at h;case h_2=>cases h
  rename_i v l hs hl;cases h;cases k with
  | zero=>simp at hk; subst hk; exact hf.val t v hs
  | succ k=>exact caps_rel hf hl k x (by simpa using hk)
theorem next_sound {it:Operand} {x:Opd} (hx:ii E it=some x) {o:Oper} (ho:o.op = .next it false) (hd:∀ t,o.dst=some t→t < nt) {st:St} {l:List (AExit × St)} (hev:nextOuts o.dst x st=some l) {a:Act} {w:World}
  (hat:At E lo nt μ0 w0 ds st.s st.h a w) {next:Act→World→Prop} {Q:Exit→Act→World→Prop} (hn:∀ y ∈ l,y.1 = .normal→∀ a' w',At E lo nt μ0 w0 ds y.2.s y.2.h a' w'→next a' w'):o.wpIn (F0 ro) 0 E.P a w next Q:=by
 obtain ⟨s,h⟩:=st;obtain ⟨μ,ν,k1,k2,k3,k4,k5,k6⟩:=hat;refine ⟨fun _ _=>trivial,?_⟩;rw [Oper.semAt_eq _ _ _ (fun c hc'=>by rw [ho] at hc'; cases hc')]
 have exec:∀ (v:Value) (w':World),(Instr.next (a.eval it) false o.type).run E.P w = .ok v w'→(execOp a.eval o).run E.P w = .ok (.value v) w':=fun v w' e=>by simp only [execOp,ho];exact na e
 unfold nextOuts at hev;split at hev;case h_2=>cases hev
 rename_i i hxv;have hix:=df k3 hx hxv;simp only [VRel] at hix;obtain ⟨ad,hit,mo,hmo,had⟩:=hix;split at hev;case isFalse=>cases hev
 rename_i hb;simp only at hb hev
 have over:∀ (m:M),μ[i]? = some (some m)→At E lo nt μ0 w0 ds (a8 o.dst (.val (.tuple [.bool false])) s) (h.put i .dead) (a.put o.dst (.tuple #[.bool false])) w:=by
  intro m hm;refine ⟨μ.set i none,ν,?_,k2.kill i,?_,by rw [qr]; exact k4,by rw [oa]; exact k5,k6⟩
  ·exact k1.trans (Step.kill μ w (gc _ _)) (km _ _)
  ·rw [jv];refine (FRel.setVal ?_ (fun y hy=>by rw [k4]; exact hd y hy) (by simp only [VRel]; exact ⟨_,rfl,by simp [VRels,VRel]⟩)).congr fun t=>kr _ _ _ _
   exact k3.keep (l0 μ i) (fun t cs hv=>rfl) (fun t cs j m' hv hj hm'=>absurd (aj hm') (by simp; omega)) fun r hr=>⟨rfl,fun j m' hj hm'=>absurd (aj hm') (by simp; omega)⟩
 split at hev
 ·rename_i since seen last hgi;cases hev;obtain ⟨mi,r',⟨q1,hbase⟩,q2,q3⟩:=k2.obj _ _ hgi;rw [q1] at hmo; cases hmo;have had':=had mi rfl;subst had';simp only [VRel] at q3;have q3':r'=none:=by simpa using q3
  subst q3'
  have hrun:(Instr.next (a.eval it) false o.type).run E.P w = .ok (.tuple #[.bool false]) w:=by rw [hit];simp [Instr.next,getObj,Sem.run,q2,Result.andThen,hbase]
  rw [exec _ _ hrun];exact hn _ (fb _) rfl _ _ (over mi q1)
 ·rename_i m since seen last hgi;split at hev;case h_2=>cases hev
  rename_i es clock hgm;split at hev;case isFalse=>cases hev
  rename_i hh;obtain ⟨hold,hsc⟩:=hh;obtain ⟨mi,r',⟨q1,hbase⟩,q2,q3⟩:=k2.obj _ _ hgi;rw [q1] at hmo; cases hmo;have had':=had mi rfl;subst had';rw [hbase] at hit;obtain ⟨mm,es',p1,p2,p3,p4⟩:=k2.obj _ _ hgm;have q3':=q3;simp only [VRel] at q3;obtain ⟨bm,xo,e1,e2,e3⟩:=q3;rw [p1] at e2; cases e2;have e3:=e3 mm rfl;subst e3;have e1:r'=some mm.blk:=by simpa using e1
  subst e1
  have at_:∀ (k:Nat) (y:MapEntry),es'.toList[k]? = some y→∃ z,es[k]? = some z∧VRel E μ z.1 y.key∧VRel E μ z.2.1 y.val∧y.born=z.2.2:=by
   intro k y hk;have hlt:=aj hk;simp only [ig] at hlt;obtain ⟨z,hz⟩:∃ z,es[k]? = some z:=⟨_,ah (by omega)⟩;obtain ⟨y',y1,y2,y3,y4⟩:=p4 k z hz
   have:y'=y:=by rw [← nk,hk] at y1;exact (dg y1).symm
   subst this;exact ⟨z,hz,y2,y3,y4⟩
  have hold':∀ y ∈ es'.toList,y.born < since:=by intro y hy;obtain ⟨k,hk⟩:=je hy;obtain ⟨z,z1,_,_,z4⟩:=at_ k y hk;rw [al] at hold;have:=hold z (bz z1);rw [z4];simpa using this
  have hin:∀ (k:Nat) (z:AVal × AVal × Nat),es[k]? = some z→(!seen.contains z.2.2)=true→(leftOf es' seen.toArray).size≠0:=by
   intro k z hz hs h0;obtain ⟨y,y1,_,_,y4⟩:=p4 k z hz
   have hmem:y ∈ leftOf es' seen.toArray:=by unfold leftOf;rw [Array.mem_filter];refine ⟨Array.mem_of_getElem? y1,?_⟩;rw [y4];simpa using hs
   rw [Array.eq_empty_of_size_eq_zero h0] at hmem;simp at hmem
  rcases run_next_at (P:=E.P) w o.type mi.blk mm.blk since last seen.toArray es' clock q2 p2 hold' hsc with ⟨h0,hrun⟩ | ⟨y,hy,w1,hw1,hrun⟩
  ·-- nothing is left
   rw [exec _ _ (by rw [hit]; exact hrun)];split at hev
   ·cases hev;exact hn _ (fb _) rfl _ _ (over mi q1)
   ·rename_i hne;exfalso;cases hf:es.filter fun e=>!seen.contains e.2.2 with
    | nil=>exact hne hf
    | cons z zs =>
     have hz:z ∈ es.filter fun e=>!seen.contains e.2.2:=by rw [hf]; exact bh ..
     rw [ju] at hz;obtain ⟨k,hk⟩:=je hz.1;exact hin k z hk hz.2 h0
  ·-- an entry
   have hy':y ∈ es'.toList∧(!seen.contains y.born)=true:=by unfold leftOf at hy;rw [Array.mem_toList_iff,Array.mem_filter] at hy;exact ⟨Array.mem_toList_iff.2 hy.1,by simpa using hy.2⟩
   obtain ⟨k,hk⟩:=je hy'.1;obtain ⟨z,z1,z2,z3,z4⟩:=at_ k y hk
   have hzf:z ∈ es.filter fun e=>!seen.contains e.2.2:=by rw [ju];exact ⟨bz z1,by rw [← z4]; exact hy'.2⟩
   rw [exec _ _ (by rw [hit]; exact hrun)];split at hev
   ·rename_i hf;rw [hf] at hzf; cases hzf
   ·cases hev;refine hn _ (o7 hzf) rfl _ _ ?_;have hw1h:w1.heap=w.heap∧w1.os=w.os∧w1.tape=w.tape∧w1.output=w.output:=by rcases hw1 with rfl | rfl <;> exact ⟨rfl,rfl,rfl,rfl⟩
    let B:Obj:=.mapIter (some mm.blk) since (seen.toArray.push y.born) clock
    have hlt:=k2.lt i mi q1
    have hheap:(Go.ChangeMaps.setBlock w1 mi.blk B).heap=(di w mi.blk B).heap:=by simp [Go.ChangeMaps.setBlock,di,hw1h.1]
    refine ⟨μ,ν,?_,?_,?_,by rw [qr]; exact k4,by rw [oa]; exact k5,?_⟩
    ·have hB:Step (fun k=>lo≤k) (h.put i (.mapIter (some m) since (seen++[z.2.2]) clock)).wmin μ w μ (di w mi.blk B):=Step.put q1 (gc _ _) _;exact (k1.trans hB (km _ _)).heap hheap hw1h.2.1 hw1h.2.2.1 hw1h.2.2.2
    ·refine (k2.put hb q1 (B:=B) ?_).same rfl rfl hheap;exact ⟨mi,some mm.blk,⟨q1,hbase⟩,by rw [ga hlt]; simp [B,z4],q3'⟩
    ·rw [jv];refine (FRel.setVal ?_ (fun y hy=>by rw [k4]; exact hd y hy) (by simp only [VRel]; exact ⟨_,rfl,by simp only [VRels]; exact ⟨_,_,rfl,by simp only [VRel],_,_,rfl,z2,_,_,rfl,z3,rfl⟩⟩)).congr fun t=>kr _ _ _ _
     refine (k3.keep (w':=di w mi.blk B) (Later.refl _) (fun t cs' hv=>da (k3.sepm t cs' i mi hv q1)) (fun t cs' j m' _ hj hm=>absurd (aj hm) (by omega)) fun q hq=>⟨da ((k3.sepd q hq).1 i mi q1),fun j m' hj hm=>absurd (aj hm) (by omega)⟩).heap hheap
    ·show lo≤(Go.ChangeMaps.setBlock w1 mi.blk B).heap.size
     rw [hheap];simpa [di] using k6
 ·cases hev
theorem zw (hc:CallOK E call) (hg:GidOK E) {f:Operand} {ps:Array Tmp} {ax bx:Code} {f':Opd} {g:Nat} {caps:List Nat} {aa ab:ACode} {ha hb:Hint} (hf:ii E f=some f') (hca:jf E nt true ha ax=some aa) (hcb:jf E nt true hb bx=some ab) (hps:(ps.all fun t=>decide (t < nt))=true)
  (hrnd:E.rnd g=some ⟨ps.toList,aa,ab⟩) {s:Slots} {h:Heap} {a:Act} {w:World} (hat:At E lo nt μ0 w0 ds s h a w) {fv:AVal} {sl:List (Nat × AVal)} (hfv:f'.ev s=some fv) (hsl:capsOf s caps=some sl) {x:AVal} {h':Heap}
  (hcall:callVal call fv [.yield h.size] (h.push (.loop g .ready none sl))=some (x,h')) {e:AExit} {st':St} (hend:loopEnd s h' h.size=some (e,st')) (hev:Evol (h.push (.loop g .ready none sl)) h') {Q:Exit→Act→World→Prop}
  (hn:∀ a' w',At E lo nt μ0 w0 ds st'.s st'.h a' w'→Q e.toX a' w'):(Code.rangeFunc f ps ax bx).wpIn (F0 none) 0 E.P Q a w:=by
 obtain ⟨μ,ν,k1,k2,k3,k4,k5,k6⟩:=hat;unfold callVal at hcall;split at hcall;case h_2=>cases hcall
 rename_i gf first cp
 have hfr:=df k3 hf hfv;simp only [VRel] at hfr;obtain ⟨fid,f1,c1,e1,e2,e3,e4⟩:=hfr;have hlen:h.size=μ.length:=k2.len.symm;refine wpIn_rangeFunc fun fn _=>?_
 let rec0:Loop:={ state:=.ready,pending:=none,fn:=fn,tmps:=a.tmps,params:=ps,assign:=ax,body:=bx,defers:=w.heap.size }
 let w1:World:=w.alloc (.deferred (some []))
 let w2:World:=w1.alloc (.loop rec0)
 let m:M:=⟨w.heap.size+1,0,0,0⟩
 let μ1:MM:=μ++[some m]
 have hw1:w1.heap.size=w.heap.size+1:=by simp [w1]
 have hw2:w2.heap.size=w.heap.size+2:=by simp [w2,w1]
 have hargs:VRels E μ1 (first++[.yield h.size]++cp) (f1 ++ #[Value.func (.yield (w.heap.size+1)) #[] #[]]++c1).toList:=by
  have hy:VRel E μ1 (.yield h.size) (.func (.yield (w.heap.size+1)) #[] #[]):=by simp only [VRel];exact ⟨w.heap.size+1,some m,rfl,by rw [hlen]; simp [μ1],fun m' hm'=>by cases hm'; rfl⟩
  have:=((e3.later (ix μ (some m))).append (show VRels E μ1 [.yield h.size] [_] from by simp only [VRels]; exact ⟨_,[],rfl,hy,rfl⟩)).append (e4.later (ix μ (some m)));simpa using this
 have hl1:Later μ μ1:=ix μ _
 have hr1:Rel E μ h w1:=k2.keep (by omega) fun i m' hm'=>by have:=k2.lt i m' hm';show (w.heap.push _)[m'.blk]? = _;rw [fe,if_neg (by omega)]
 have hr2:Rel E μ1 (h.push (.loop g .ready none sl)) w2:=by
  refine hr1.push _ (.loop rec0) m (by simp [m,hw1]) ⟨m,rec0,by simp,by show (w1.heap.push _)[w.heap.size+1]? = _; rw [fe,if_pos (by omega)],⟨⟨⟨ps.toList,aa,ab⟩,ha,hb,hrnd,rfl,fun t ht=>?_,by rw [show rec0.tmps.size=nt from k4]; exact hca,by rw [show rec0.tmps.size=nt from k4]; exact hcb⟩,rfl,rfl,fun k x hk=>?_⟩⟩
  ·rw [Array.all_eq_true_iff_forall_mem] at hps;have:=hps t (by simpa using ht);rw [show rec0.tmps.size=nt from k4];simpa using this
  ·obtain ⟨v',h1,h2⟩:=caps_rel k3 hsl k x hk;exact ⟨v',h1,h2.later hl1⟩
 let ν1:Fr:=⟨ν.v,w.heap.size :: ν.ds⟩
 have hblk12:∀ b,b < w.heap.size→w2.heap[b]? = w.heap[b]?:=fun b hb=>by
  show ((w.heap.push _).push _)[b]? = _
  rw [fe,if_neg (by simp; omega),fe,if_neg (by omega)]
 have hnewm:∀ (i:Nat) (m':M),μ1[i]? = some (some m')→m'.blk < w.heap.size∨m'.blk=w.heap.size+1:=fun i m' hm'=>by
  rcases kh hm' with q | ⟨_,q⟩
  ·exact .inl (k2.lt i m' q)
  ·cases q; exact .inr rfl
 have hold:∀ (i:Nat) (m':M),μ1[i]? = some (some m')→m'.blk < w.heap.size→μ[i]? = some (some m'):=fun i m' hm' hlt=>by
  rcases kh hm' with q | ⟨_,q⟩
  ·exact q
  ·cases q;have hlt':w.heap.size+1 < w.heap.size:=hlt;omega
 have hf2:FRel E lo ν1 μ1 (sget s) a.tmps w2:=by
  refine ⟨fun t v hv=>?_,k3.undef,fun t cs hv=>?_,k3.loc,k3.sepv,fun t cs i m' hv hm'=>?_,fun r hr=>?_,fun r hr=>⟨fun i m' hm'=>?_,fun t cs hv=>?_⟩,?_⟩
  ·obtain ⟨v',h1,h2⟩:=k3.val t v hv;exact ⟨v',h1,h2.later hl1⟩
  ·obtain ⟨h1,h2,c,e,fr,h3,h4,h5,h6⟩:=k3.var t cs hv;exact ⟨h1,h2,c,e,fr,(hblk12 _ (k3.lt hv)).trans h3,h4,h5.later hl1,h6⟩
  ·have:=k3.lt hv;rcases hnewm i m' hm' with q | q
   ·exact k3.sepm t cs i m' hv (hold i m' hm' q)
   ·intro e;have e':m'.blk=ν t:=e;omega
  ·rcases br.1 hr with rfl | hr
   ·refine ⟨k6,?_⟩;show ((w.heap.push _).push _)[w.heap.size]? = _;rw [fe,if_neg (by simp),fe,if_pos rfl]
   ·obtain ⟨h1,h2⟩:=k3.ds r hr;exact ⟨h1,(hblk12 r (k3.lt_ds hr)).trans h2⟩
  ·rcases br.1 hr with rfl | hr
   ·rcases hnewm i m' hm' with q | q <;> omega
   ·have:=k3.lt_ds hr;rcases hnewm i m' hm' with q | q
    ·exact (k3.sepd r hr).1 i m' (hold i m' hm' q)
    ·omega
  ·rcases br.1 hr with rfl | hr
   ·have:=k3.lt hv;intro e;have e':ν t=w.heap.size:=e;omega
   ·exact (k3.sepd r hr).2 t cs hv
  ·exact wd.2 ⟨fun h=>by have:=k3.lt_ds h; omega,k3.nodup⟩
 have hs2:Step (fun k=>lo≤k) h.wmin μ0 w0 μ1 w2:=(k1.trans (Step.alloc _) (ai _)).trans (Step.push (X:=fun k=>lo≤k) h.wmin μ w1 (.loop rec0) m (by simp [m,hw1])) (ai _);refine ⟨w.heap.size+1,[markOf w.heap.size],w2,{ target:=.fn (.func fid) c1,args:=f1 ++ #[Value.func (.yield (w.heap.size+1)) #[] #[]] },w2,fid,f1 ++ #[Value.func (.yield (w.heap.size+1)) #[] #[]]++c1,w2,run_enterLoop_outer fn a.tmps ps ax bx,?_,fun _ _=>trivial,?_,fun hh=>by simp [F0,Fence.wide] at hh,?_⟩
 ·simp only [resolve];rw [e1];simp [Deferred.ofValue,Act.eval]
 ·have:=lm hg e2 (f1 ++ #[Value.func (.yield (w.heap.size+1)) #[] #[]]++c1) w2;simpa [invoke] using this
 ·refine CallsIn.mono (F:=F0 none) (n:=0) (hc.fn gf _ _ x h' hcall fid e2 μ1 w2 _ hargs hr2) ?_;rintro ending w3 ⟨v',μ3,rfl,j1,j2,j3⟩;unfold loopEnd at hend;split at hend;case h_2=>cases hend
  rename_i g2 st p sl2 hgi;split at hend
  ·cases hend
  rename_i hbusy;cases hend;obtain ⟨m3,r3,q1,q2,q3⟩:=j3.obj _ _ hgi;have hi1:h.size < μ1.length:=by rw [hlen]; simp [μ1]
  have hm3:m3=m:=by
   rcases j1.old h.size hi1 with q | ⟨_,q⟩
   ·rw [q] at q1;have:μ1[h.size]? = some (some m):=by rw [hlen]; simp [μ1]
    rw [this] at q1;cases q1; rfl
   ·rw [q] at q1; cases q1
  subst hm3
  have hst3:r3.state ≠ .busy:=by
   have:=q3.st;cases st <;> simp only [LoopSt.is] at this <;> rw [this]
   ·simp
   ·exact absurd rfl hbusy
   ·simp
  let w4:World:=w3.putObj (w.heap.size+1) (.loop { r3 with state:=.exhausted })
  have hf3:FRel E lo ν1 μ3 (sget s) a.tmps w3:=hf2.step j1 fun _ _ h=>h
  have hwle:h'.wmin≤h.wmin:=hev.wmin
  have hat4:At E lo nt μ0 w0 ds s (h'.put h.size .dead) { a with defers:=[markOf w.heap.size]++a.defers } w4:=by
   have hput:w4=di w3 m.blk (.loop { r3 with state:=.exhausted }):=rfl;refine ⟨μ3.set h.size none,ν1,?_,?_,?_,k4,?_,?_⟩
   ·have hA:=hs2.trans (j1.weaken (Y:=fun k=>lo≤k) (ai _) fun b h _=>h.elim) hwle;have hB:Step (fun k=>lo≤k) (h'.put h.size .dead).wmin μ3 w3 μ3 w4:=by rw [hput]; exact Step.put q1 (gc _ _) _
    have hC:Step (fun k=>lo≤k) (h'.put h.size .dead).wmin μ3 w4 (μ3.set h.size none) w4:=Step.kill μ3 w4 (gc _ _);exact (hA.trans hB (km _ _)).trans hC (ai _)
   ·have hkill:=j3.kill h.size;refine hkill.keep (by simp [w4]) fun j m' hm'=>?_
    rw [hput];refine da ?_;rw [qb] at hm';split at hm'
    ·split at hm' <;> cases hm'
    ·rename_i hne;refine j3.sep h.size j m m' hne ?_ q1 hm';have h1:=j3.bs;rw [hev.base];have:=k2.bs;show h.base≤h.objs.length;exact this
   ·refine hf3.keep (l0 μ3 h.size) (fun t cs hv=>by rw [hput]; exact da (hf3.sepm t cs h.size m hv q1)) (fun t cs j m' hv hj hm'=>absurd (aj hm') (by simp; omega)) fun r hr=>⟨by rw [hput]; exact da ((hf3.sepd r hr).1 h.size m q1),fun j m' hj hm'=>absurd (aj hm') (by simp; omega)⟩
   ·show [markOf w.heap.size]++a.defers=_
    rw [k5]; rfl
   ·have:=j1.size;simp only [w4,World.putObj_size]; omega
  refine ⟨r3.pending,w4,run_endLoop q2 hst3,?_⟩;rw [q3.pend];cases p with
  | none=>exact hn _ _ hat4
  | some e0 =>
   cases e0 with
   | normal=>exact wpIn_skip (hn _ _ hat4)
   | exit id=>exact wpIn_exit (hn _ _ hat4)
   | ret=>exact wpIn_ret (hn _ _ hat4)
theorem cCode_next {inR:Bool} {c:Code} {ac:ACode} (h:jf E nt inR .next c=some ac):∃ d y r,ac = .seq (.next d y) r:=by
 cases c <;> simp only [jf] at h <;> (try cases h)
 split at h
 ·split at h
  ·split at h
   ·cases h;exact ⟨_,_,_,rfl⟩
   ·cases h
  ·cases h
 ·cases h
theorem rv (hc:CallOK E call) (hev0:CallEvol call) (hg:GidOK E) (hm:E.P.follows .mixedOrders=true) (inR:Bool) (hro:inR=false→ro=none) (n:Nat) :
  ∀ (hint:Hint) (c:Code) (ac:ACode),jf E nt inR hint c=some ac→(inR=false→∀ p ∈ ac.rounds,E.rnd p.1=some p.2)→∀ (st:St) (e:AExit) (st':St),dz call n ac st=some (e,st')→∀ (a:Act) (w:World) (Q:Exit→Act→World→Prop),At E lo nt μ0 w0 ds st.s st.h a w →
   (∀ a' w',At E lo nt μ0 w0 ds st'.s st'.h a' w'→Q e.toX a' w')→c.wpIn (F0 ro) 0 E.P Q a w:=by
 intro hint;induction hint with
 | stuck =>
  intro c ac hcc hrd st e st' hev a w Q hat hn;simp only [jf] at hcc;cases hcc;simp [dz,Opd.ev] at hev
 | leaf =>
  intro c ac hcc hrd st e st' hev a w Q hat hn;cases c <;> simp only [jf] at hcc <;> (try cases hcc)
  ·simp only [dz] at hev; cases hev;exact wpIn_skip (hn _ _ hat)
  ·simp only [dz] at hev; cases hev;exact wpIn_exit (hn _ _ hat)
  ·simp only [dz] at hev; cases hev;exact wpIn_ret (hn _ _ hat)
 | reg segs locs =>
  intro c ac hcc hrd st e st' hev a w Q hat hn;cases c <;> simp only [jf] at hcc <;> (try cases hcc)
  rw [ae] at hcc;obtain ⟨gs,hgs,rfl⟩:=hcc;simp only [dz] at hev;rw [ae] at hev;obtain ⟨⟨s1,h1⟩,hev,he⟩:=hev;cases he;exact region_sound hc hev0 hg hm hgs hev hat hn
 | seq x y ihx ihy =>
  intro c ac hcc hrd st e st' hev a w Q hat hn;cases c <;> simp only [jf] at hcc <;> (try cases hcc)
  split at hcc;case h_2=>cases hcc
  rename_i ax ay hx hy;cases hcc;simp only [dz] at hev;apply wpIn_seq;split at hev
  ·rename_i st1 h1;exact ihx _ _ hx (fun hi p hp=>hrd hi p (by simp [ACode.rounds,hp])) _ _ _ h1 a w _ hat fun a' w' hat'=>ihy _ _ hy (fun hi p hp=>hrd hi p (by simp [ACode.rounds,hp])) _ _ _ hev a' w' Q hat' hn
  ·rename_i hne;refine ihx _ _ hx (fun hi p hp=>hrd hi p (by simp [ACode.rounds,hp])) _ _ _ hev a w _ hat fun a' w' hat'=>?_
   cases e with
   | normal=>exact absurd hev (hne _)
   | exit id=>exact hn _ _ hat'
   | ret=>exact hn _ _ hat'
 | cond x y ihx ihy =>
  intro c ac hcc hrd st e st' hev a w Q hat hn;cases c <;> simp only [jf] at hcc <;> (try cases hcc)
  split at hcc;case h_2=>cases hcc
  rename_i c' ax ay hcop hx hy;cases hcc;simp only [dz] at hev;have hat0:=hat;obtain ⟨μ,ν,_,_,k3,_⟩:=hat;split at hev
  ·rename_i hb;have:=df k3 hcop hb;simp only [VRel] at this;exact wpIn_cond_true this (ihx _ _ hx (fun hi p hp=>hrd hi p (by simp [ACode.rounds,hp])) _ _ _ hev a w Q hat0 hn)
  ·rename_i hb;have:=df k3 hcop hb;simp only [VRel] at this;exact wpIn_cond_false this (ihy _ _ hy (fun hi p hp=>hrd hi p (by simp [ACode.rounds,hp])) _ _ _ hev a w Q hat0 hn)
  ·cases hev
 | block x ih =>
  intro c ac hcc hrd st e st' hev a w Q hat hn;cases c <;> simp only [jf] at hcc <;> (try cases hcc)
  rw [ae] at hcc;obtain ⟨ax,hx,rfl⟩:=hcc;simp only [dz] at hev;apply wpIn_block;split at hev
  ·rename_i j st1 h1;refine ih _ _ hx hrd _ _ _ h1 a w _ hat fun a' w' hat'=>?_
   simp only [AExit.toX,Exit.inBlock];split at hev
   ·rename_i hj;cases hev;rw [if_pos hj];exact hn _ _ hat'
   ·rename_i hj;cases hev;rw [if_neg hj];exact hn _ _ hat'
  ·rename_i hne;refine ih _ _ hx hrd _ _ _ hev a w _ hat fun a' w' hat'=>?_
   cases e with
   | normal=>exact hn _ _ hat'
   | exit id=>exact absurd hev (hne _ _)
   | ret=>exact hn _ _ hat'
 | loop x ih =>
  intro c ac hcc hrd st e st' hev a w Q hat hn;cases c <;> simp only [jf] at hcc <;> (try cases hcc)
  rename_i y;rw [ae] at hcc;obtain ⟨ax,hx,rfl⟩:=hcc;simp only [dz] at hev
  have key:∀ (m:Nat) (st:St) (a:Act) (w:World),loopN (dz call n ax) m st=some (e,st')→At E lo nt μ0 w0 ds st.s st.h a w→Code.roundsIn (F0 ro) 0 E.P y Q m a w:=by
   intro m;induction m with
   | zero=>intro st a w h1; simp [loopN] at h1
   | succ m ihm =>
    intro st a w h1 hat1;rw [roundsIn_succ];simp only [loopN] at h1;split at h1
    ·rename_i st1 h2;exact ih _ _ hx hrd _ _ _ h2 a w _ hat1 fun a' w' hat'=>ihm st1 a' w' h1 hat'
    ·rename_i hne;refine ih _ _ hx hrd _ _ _ h1 a w _ hat1 fun a' w' hat'=>?_
     cases e with
     | normal=>exact absurd h1 (hne _)
     | exit id=>exact hn _ _ hat'
     | ret=>exact hn _ _ hat'
  exact wpIn_loop_rounds n (key n st a w hev hat)
 | next =>
  intro c ac hcc hrd st e st' hev a w Q hat hn;obtain ⟨d,y,r,rfl⟩:=cCode_next hcc;simp [dz] at hev
 | live l x ih =>
  intro c ac hcc hrd st e st' hev a w Q hat hn;simp only [jf] at hcc;rw [ae] at hcc;obtain ⟨ax,hx,rfl⟩:=hcc;simp only [dz] at hev;exact ih _ _ hx hrd _ _ _ hev a w Q (hat.keep l) hn
 | after x l ih =>
  intro c ac hcc hrd st e st' hev a w Q hat hn;simp only [jf] at hcc;rw [ae] at hcc;obtain ⟨ax,hx,rfl⟩:=hcc;simp only [dz] at hev;split at hev
  ·rename_i st1 h1;cases hev;exact ih _ _ hx hrd _ _ _ h1 a w Q hat fun a' w' hat'=>hn _ _ (hat'.keep l)
  ·exact ih _ _ hx hrd _ _ _ hev a w Q hat hn
 | rangeFunc g caps ha hb _ _ =>
  intro c ac hcc hrd st e st' hev a w Q hat hn;cases c <;> simp only [jf] at hcc <;> (try cases hcc)
  split at hcc;case h_2=>cases hcc
  rename_i f' aa ab hf hca hcb;split at hcc;case isFalse=>cases hcc
  rename_i hh;obtain ⟨hin,hps⟩:=hh;cases hcc;have hro':=hro hin;subst hro';have hrnd:=hrd hin _ (fb _);simp only [dz] at hev;split at hev;case h_2=>cases hev
  rename_i fv sl hfv hsl;split at hev;case h_2=>cases hev
  rename_i x h' hcall
  have hevl:Evol (st.h.push (.loop g .ready none sl)) h':=by
   unfold callVal at hcall;split at hcall
   ·exact hev0 _ _ _ _ _ hcall
   ·cases hcall
  exact zw hc hg hf hca hcb hps hrnd hat hfv hsl hcall hev hevl hn
theorem ur {α β:Type} {f:α→Option (List β)}:∀ {l:List α} {ys:List β},flatL f l=some ys→∀ x ∈ l,∃ zs,f x=some zs∧∀ z ∈ zs,z ∈ ys
 | [],ys,h,x,hx=>by cases hx
 | y :: l,ys,h,x,hx=>by
  simp only [flatL] at h;split at h;case h_2=>cases h
  rename_i a b h1 h2;cases h;rcases br.1 hx with rfl | hx
  ·exact ⟨a,h1,fun z hz=>fw _ hz⟩
  ·obtain ⟨zs,k1,k2⟩:=ur h2 x hx;exact ⟨zs,k1,fun z hz=>gx _ (k2 z hz)⟩
theorem outs_sound (hc:CallOK E call) (hev0:CallEvol call) (hg:GidOK E) (hm:E.P.follows .mixedOrders=true) (inR:Bool) (hro:inR=false→ro=none) (n:Nat) :
  ∀ (hint:Hint) (c:Code) (ac:ACode),jf E nt inR hint c=some ac→(inR=false→∀ p ∈ ac.rounds,E.rnd p.1=some p.2)→∀ (st:St) (l:List (AExit × St)),ja call n ac st=some l→∀ (a:Act) (w:World) (Q:Exit→Act→World→Prop),At E lo nt μ0 w0 ds st.s st.h a w →
   (∀ y ∈ l,∀ a' w',At E lo nt μ0 w0 ds y.2.s y.2.h a' w'→Q y.1.toX a' w')→c.wpIn (F0 ro) 0 E.P Q a w:=by
 have base:∀ (hint:Hint) (c:Code) (ac:ACode),jf E nt inR hint c=some ac→(inR=false→∀ p ∈ ac.rounds,E.rnd p.1=some p.2)→∀ (st:St) (l:List (AExit × St)),(dz call n ac st).map (fun x=>[x])=some l→∀ (a:Act) (w:World) (Q:Exit→Act→World→Prop),At E lo nt μ0 w0 ds st.s st.h a w →
   (∀ y ∈ l,∀ a' w',At E lo nt μ0 w0 ds y.2.s y.2.h a' w'→Q y.1.toX a' w')→c.wpIn (F0 ro) 0 E.P Q a w:=by
  intro hint c ac hcc hrd st l hev a w Q hat hn;rw [ae] at hev;obtain ⟨x,hev,rfl⟩:=hev;exact rv hc hev0 hg hm inR hro n hint c ac hcc hrd st x.1 x.2 hev a w Q hat (hn x (fb _))
 intro hint;induction hint with
 | stuck =>
  intro c ac hcc hrd st l hev a w Q hat hn;simp only [jf] at hcc;cases hcc;simp [ja,Opd.ev] at hev
 | leaf =>
  intro c ac hcc hrd st l hev a w Q hat hn;refine base .leaf c ac hcc hrd st l ?_ a w Q hat hn;cases c <;> simp only [jf] at hcc <;> (try cases hcc) <;> exact hev
 | reg segs locs =>
  intro c ac hcc hrd st l hev a w Q hat hn;refine base (.reg segs locs) c ac hcc hrd st l ?_ a w Q hat hn;cases c <;> simp only [jf] at hcc <;> (try cases hcc)
  rw [ae] at hcc;obtain ⟨gs,_,rfl⟩:=hcc;exact hev
 | rangeFunc g caps ha hb _ _ =>
  intro c ac hcc hrd st l hev a w Q hat hn;refine base (.rangeFunc g caps ha hb) c ac hcc hrd st l ?_ a w Q hat hn;cases c <;> simp only [jf] at hcc <;> (try cases hcc)
  split at hcc;case h_2=>cases hcc
  split at hcc;case isFalse=>cases hcc
  cases hcc;exact hev
 | next =>
  intro c ac hcc hrd st l hev a w Q hat hn;cases c <;> simp only [jf] at hcc <;> (try cases hcc)
  rename_i id ops draw;split at hcc;case h_2=>cases hcc
  rename_i dst it ty pos aft rest hops;split at hcc;case isFalse=>cases hcc
  rename_i hd;split at hcc;case h_2=>cases hcc
  rename_i x as hx has;cases hcc;simp only [ja] at hev;split at hev;case h_2=>cases hev
  rename_i l1 h1;apply wpIn_region
  have hsz:ops.size=rest.length+1:=by have:=congrArg List.length hops;simpa using this
  have h0:ops[0]? = some ⟨dst,.next it false,ty,pos,aft,none⟩:=by have:=congrArg (fun l=>l[0]?) hops;simpa using this
  have hdr:ops.toList.drop 1=rest:=by rw [hops]; rfl
  rw [hsz,List.range_eq_range',List.range'_succ];simp only [wpOpsIn,h0,Region.wanted,if_true]
  refine next_sound (o:=⟨dst,.next it false,ty,pos,aft,none⟩) hx rfl (fun t ht=>by have ht':dst=some t:=ht;rw [ht'] at hd;simpa using hd) h1 hat fun y hy hy1 a' w' hat'=>?_
  obtain ⟨zs,k1,k2⟩:=ur hev y hy;obtain ⟨e,st1⟩:=y;simp only at hy1;subst hy1;simp only [dz,ae] at k1;obtain ⟨z,⟨⟨s2,h2⟩,k3,rfl⟩,rfl⟩:=k1
  have k4:evOps call as st1.s st1.h=some (s2,h2):=by
   simp only [j8] at k3;split at k3
   ·rename_i s' h' e1;cases k3;simpa using e1
   ·cases k3
  exact x7 hc hev0 hg rest 1 as _ _ _ _ _ _ hdr has k4 hat' fun a2 w2 hat2=>hn _ (k2 _ (fb _)) _ _ hat2
 | seq x y ihx ihy =>
  intro c ac hcc hrd st l hev a w Q hat hn;cases c <;> simp only [jf] at hcc <;> (try cases hcc)
  split at hcc;case h_2=>cases hcc
  rename_i ax ay hx hy;cases hcc;simp only [ja] at hev;apply wpIn_seq;split at hev;case h_2=>cases hev
  rename_i l1 h1;refine ihx _ _ hx (fun hi p hp=>hrd hi p (by simp [ACode.rounds,hp])) _ _ h1 a w _ hat fun z hz a' w' hat'=>?_
  obtain ⟨zs,k1,k2⟩:=ur hev z hz;obtain ⟨e,st1⟩:=z;cases e with
  | normal=>exact ihy _ _ hy (fun hi p hp=>hrd hi p (by simp [ACode.rounds,hp])) _ _ k1 a' w' Q hat' fun q hq=>hn q (k2 q hq)
  | exit id=>cases k1; exact hn _ (k2 _ (fb _)) _ _ hat'
  | ret=>cases k1; exact hn _ (k2 _ (fb _)) _ _ hat'
 | cond x y ihx ihy =>
  intro c ac hcc hrd st l hev a w Q hat hn;cases c <;> simp only [jf] at hcc <;> (try cases hcc)
  split at hcc;case h_2=>cases hcc
  rename_i c' ax ay hcop hx hy;cases hcc;simp only [ja] at hev;have hat0:=hat;obtain ⟨μ,ν,_,_,k3,_⟩:=hat;split at hev
  ·rename_i hb;have:=df k3 hcop hb;simp only [VRel] at this;exact wpIn_cond_true this (ihx _ _ hx (fun hi p hp=>hrd hi p (by simp [ACode.rounds,hp])) _ _ hev a w Q hat0 hn)
  ·rename_i hb;have:=df k3 hcop hb;simp only [VRel] at this;exact wpIn_cond_false this (ihy _ _ hy (fun hi p hp=>hrd hi p (by simp [ACode.rounds,hp])) _ _ hev a w Q hat0 hn)
  ·cases hev
 | block x ih =>
  intro c ac hcc hrd st l hev a w Q hat hn;cases c <;> simp only [jf] at hcc <;> (try cases hcc)
  rename_i id y;rw [ae] at hcc;obtain ⟨ax,hx,rfl⟩:=hcc;simp only [ja] at hev;apply wpIn_block;rw [ae] at hev;obtain ⟨l1,h1,rfl⟩:=hev;refine ih _ _ hx hrd _ _ h1 a w _ hat fun z hz a' w' hat'=>?_
  have hmem:=o7 (f:=fun x:AExit × St=>match x.1 with
   | .exit j=>if j=id then (AExit.normal,x.2) else (AExit.exit j,x.2)
   | e=>(e,x.2)) hz
  obtain ⟨e,st1⟩:=z;cases e with
  | normal=>exact hn _ hmem _ _ hat'
  | ret=>exact hn _ hmem _ _ hat'
  | exit j =>
   simp only [AExit.toX,Exit.inBlock];simp only at hmem;split
   ·rename_i hj;rw [if_pos hj] at hmem;exact hn _ hmem _ _ hat'
   ·rename_i hj;rw [if_neg hj] at hmem;exact hn _ hmem _ _ hat'
 | loop x ih =>
  intro c ac hcc hrd st l hev a w Q hat hn;cases c <;> simp only [jf] at hcc <;> (try cases hcc)
  rename_i y;rw [ae] at hcc;obtain ⟨ax,hx,rfl⟩:=hcc;simp only [ja] at hev
  have key:∀ (m:Nat) (st:St) (l:List (AExit × St)) (a:Act) (w:World),loopO (ja call n ax) m st=some l→At E lo nt μ0 w0 ds st.s st.h a w→(∀ y ∈ l,∀ a' w',At E lo nt μ0 w0 ds y.2.s y.2.h a' w'→Q y.1.toX a' w')→Code.roundsIn (F0 ro) 0 E.P y Q m a w:=by
   intro m;induction m with
   | zero=>intro st l a w h1; simp [loopO] at h1
   | succ m ihm =>
    intro st l a w h1 hat1 hn1;rw [roundsIn_succ];simp only [loopO] at h1;split at h1;case h_2=>cases h1
    rename_i l1 h2;refine ih _ _ hx hrd _ _ h2 a w _ hat1 fun z hz a' w' hat'=>?_
    obtain ⟨zs,k1,k2⟩:=ur h1 z hz;obtain ⟨e,st1⟩:=z;cases e with
    | normal=>exact ihm st1 zs a' w' k1 hat' fun q hq=>hn1 q (k2 q hq)
    | exit id=>cases k1; exact hn1 _ (k2 _ (fb _)) _ _ hat'
    | ret=>cases k1; exact hn1 _ (k2 _ (fb _)) _ _ hat'
  exact wpIn_loop_rounds n (key n st l a w hev hat hn)
 | live l x ih =>
  intro c ac hcc hrd st ys hev a w Q hat hn;simp only [jf] at hcc;rw [ae] at hcc;obtain ⟨ax,hx,rfl⟩:=hcc;simp only [ja] at hev;exact ih _ _ hx hrd _ _ hev a w Q (hat.keep l) hn
 | after x l ih =>
  intro c ac hcc hrd st ys hev a w Q hat hn;simp only [jf] at hcc;rw [ae] at hcc;obtain ⟨ax,hx,rfl⟩:=hcc;simp only [ja] at hev;rw [ae] at hev;obtain ⟨l1,h1,rfl⟩:=hev;refine ih _ _ hx hrd _ _ h1 a w Q hat fun z hz a' w' hat'=>?_
  have hmem:=o7 (f:=fun x:AExit × St=>match x.1 with
   | .normal=>(AExit.normal,(⟨Abs.keep l x.2.s,x.2.h⟩:St))
   | e=>(e,x.2)) hz
  obtain ⟨e,st1⟩:=z;cases e with
  | normal=>exact hn _ hmem _ _ (hat'.keep l)
  | exit id=>exact hn _ hmem _ _ hat'
  | ret=>exact hn _ hmem _ _ hat'
def resOne (tmps:Array Value):ResultVar→Sem Value
 | .tmp t=>pure (tmps.getD t Go.undef)
 | .cell x t=>do loadVar t (← asAddr (tmps.getD x Go.undef))
theorem res_rel {ν:Fr} {μ:MM} {s:Slots} {h:Heap} {a:Act} {w:World} (hf:FRel E lo ν μ (sget s) a.tmps w) (hr:Rel E μ h w):∀ {rs:List ResultVar} {as:List ARes} {vs:List AVal},cRess E.P rs=some as→resultsL s h as=some vs →
  ∃ l,(rs.mapM (resOne a.tmps)).run E.P w = .ok l w∧VRels E μ vs l
 | [],as,vs,hc,he=>by simp only [cRess] at hc; cases hc;simp only [resultsL] at he; cases he;exact ⟨[],rfl,by simp [VRels]⟩
 | r :: rs,as,vs,hc,he=>by
  simp only [cRess] at hc;split at hc;case h_2=>cases hc
  rename_i a' as' h1 h2;cases hc;simp only [resultsL] at he;split at he;case h_2=>cases he
  rename_i v vs' h3 h4;cases he;obtain ⟨l,k1,k2⟩:=res_rel hf hr h2 h4
  have hone:∃ u,(resOne a.tmps r).run E.P w = .ok u w∧VRel E μ v u:=by
   cases r with
   | tmp t =>
    simp only [cRes] at h1; cases h1;simp only [result1] at h3;split at h3
    ·rename_i v' hs;cases h3;obtain ⟨u,hu,hrel⟩:=hf.val t _ hs;refine ⟨u,?_,hrel⟩;simp [resOne,hu]
    ·cases h3
   | cell x t =>
    simp only [cRes] at h1;rw [ae] at h1;obtain ⟨n,hn,rfl⟩:=h1;simp only [result1] at h3;split at h3;case h_2=>cases h3
    rename_i ad had;unfold loadAt at h3;split at h3;case h_2=>cases h3
    rename_i cs o hcs;have hco:ii E (.tmp x)=some (.tmp x):=rfl;obtain ⟨b,p,c,e,fr,j1,j2,j3,j4⟩:=zh hf hr hco had hcs;obtain ⟨u,j5,j6⟩:=load_rel (P:=E.P) hn j2 j3 j4 h3;refine ⟨u,?_,j6⟩;have j1':a.tmps.getD x Go.undef = .pointer (some ⟨b,p+o,none⟩):=j1;simp only [resOne,j1',asAddr,Sem.run_bind,Sem.run_pure,Result.andThen_ok,j5]
  obtain ⟨u,k3,k4⟩:=hone;refine ⟨u :: l,?_,?_⟩
  ·rw [List.mapM_cons,Sem.run_bind,k3,Result.andThen_ok,Sem.run_bind,k1,Result.andThen_ok];rfl
  ·simp only [VRels]; exact ⟨u,l,rfl,k4,k2⟩
theorem results_rel {ν:Fr} {μ:MM} {s:Slots} {h:Heap} {a:Act} {w:World} (hf:FRel E lo ν μ (sget s) a.tmps w) (hr:Rel E μ h w) {fn:Func} {as:List ARes} {vs:List AVal} (hc:cRess E.P fn.results.toList=some as) (he:resultsL s h as=some vs) :
  ∃ v,(results fn a.tmps).run E.P w = .ok v w∧VRel E μ (tupled vs) v:=by
 obtain ⟨l,k1,k2⟩:=res_rel hf hr hc he;have hl:=k2.length
 have hrun:(results fn a.tmps).run E.P w = .ok (if h:l.toArray.size=1 then l.toArray[0] else .tuple l.toArray) w:=by
  have e:results fn a.tmps=(do
    let vs ← fn.results.mapM (resOne a.tmps)
    pure (if h:vs.size=1 then vs[0] else .tuple vs)):=by
   unfold results;rfl
  rw [e,Array.mapM_eq_mapM_toList,Sem.run_bind,Sem.run_map,k1];rfl
 refine ⟨_,hrun,?_⟩;clear he k1 hrun;match vs,l,hl,k2 with
 | [],[],_,_=>simp [tupled,VRel,VRels]
 | [v],[u],_,k2 =>
  simp only [VRels] at k2;obtain ⟨u',r',e,h1,h2⟩:=k2;cases e;simpa [tupled] using h1
 | v :: v2 :: vs,u :: u2 :: l,_,k2 =>
  have:¬ ((u :: u2 :: l).toArray.size=1):=by simp
  rw [dif_neg this];simp only [tupled,VRel];exact ⟨_,rfl,k2⟩
end
section
theorem ry (h:Heap) (n0:Nat):∀ (f:Nat) (todo acc:List Nat),acc.Nodup→(∀ i ∈ acc,n0≤i)→(reach h n0 f todo acc).Nodup∧∀ i ∈ reach h n0 f todo acc,n0≤i
 | 0,todo,acc,h1,h2=>by simp only [reach]; exact ⟨h1,h2⟩
 | f+1,[],acc,h1,h2=>by simp only [reach]; exact ⟨h1,h2⟩
 | f+1,i :: r,acc,h1,h2=>by
  simp only [reach];split
  ·exact ry h n0 f r acc h1 h2
  ·split
   ·exact ry h n0 f r acc h1 h2
   ·rename_i hi hc;refine ry h n0 f _ _ ?_ fun j hj=>?_
    ·rw [List.nodup_append];refine ⟨h1,by simp,fun a ha b hb=>?_⟩;simp at hb; subst hb;intro e; subst e;simp at hc; exact hc ha
    ·rcases bp.1 hj with hj | hj
     ·exact h2 j hj
     ·simp at hj; omega
theorem idxIn_get:∀ {i:Nat} {l:List Nat},i ∈ l→l[idxIn i l]? = some i
 | i,[],h=>by cases h
 | i,j :: r,h=>by
  simp only [idxIn];split
  ·rename_i e; subst e; rfl
  ·rename_i hne
   have:i ∈ r:=by
    rcases br.1 h with e | e
    ·exact absurd e.symm hne
    ·exact e
   simpa using idxIn_get this
end
end Go.Abs
