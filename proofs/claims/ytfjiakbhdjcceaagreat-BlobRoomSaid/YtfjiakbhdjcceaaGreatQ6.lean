/-
  Texts joined.
-/
import Derived.Test.YtfjiakbhdjcceaaGreatQ0
import Derived.Test.YtfjiakbhdjcceaaGreatQ5
import Derived.ChangeArms
import Derived.Handed
import Derived.Below
import Derived.OpenShut
import Derived.KernelRfl
import Derived.Test.YtfjiakbhdjcceaaGreatQ1
set_option linter.unusedVariables false
set_option linter.unusedSimpArgs false
set_option maxRecDepth 100000
namespace Go.Abs
open Go.RowKit
inductive Sh where
 | bool
 | int (k:IntKind)
 | str
 | slice (e:Sh)
 | struct (fs:List Sh)
mutual
def Sh.size:Sh→Nat
 | .struct fs=>Sh.sizes fs
 | _=>1
def Sh.sizes:List Sh→Nat
 | []=>0
 | s :: r=>s.size+Sh.sizes r
end
inductive Dat where
 | bool (b:Bool)
 | int (n:Int)
 | str (s:List UInt8)
 | nil
 | row (l:List Dat)
 | agg (l:List Dat)
abbrev iu:Nat:=140737488351232
mutual
def Has (h:Heap):Sh→Dat→List AVal→Prop
 | .bool,.bool b,cs=>cs=[.bool b]
 | .int k,.int n,cs=>cs=[.int k n]∧k.min≤n∧n≤k.max
 | .str,.str s,cs=>cs=[.str s]∧s.length≤iu
 | .slice _,.nil,cs=>cs=[.slice none 0 (some 0)]
 | .slice e,.row l,cs=>l.length≤iu∧∃ (i:Nat) (css:List (List AVal)),cs=[.slice (some (i,0)) l.length none]∧i < h.base∧css.length=l.length∧(h.get i=some (.cells e.size css.flatten)∨(l=[]∧h.get i=some .dead)) ∧
   ∀ (k:Nat) (d:Dat) (c:List AVal),l[k]? = some d→css[k]? = some c→Has h e d c
 | .struct fs,.agg l,cs=>HasL h fs l cs
 | _,_,_=>False
def HasL (h:Heap):List Sh→List Dat→List AVal→Prop
 | [],[],cs=>cs=[]
 | s :: r,d :: l,cs=>∃ a b,cs=a++b∧Has h s d a∧HasL h r l b
 | _,_,_=>False
end
mutual
theorem Has.cells {h:Heap}:∀ {s:Sh} {d:Dat} {cs:List AVal},Has h s d cs→cs.length=s.size∧∀ x ∈ cs,x.isOne=true
 | .bool,d,cs,hh=>by cases d <;> simp only [Has] at hh; subst hh; simp [Sh.size,AVal.isOne]
 | .int k,d,cs,hh=>by cases d <;> simp only [Has] at hh; obtain ⟨rfl,_⟩:=hh; simp [Sh.size,AVal.isOne]
 | .str,d,cs,hh=>by cases d <;> simp only [Has] at hh; obtain ⟨rfl,_⟩:=hh; simp [Sh.size,AVal.isOne]
 | .slice e,d,cs,hh=>by
  cases d <;> simp only [Has] at hh
  ·subst hh; simp [Sh.size,AVal.isOne]
  ·obtain ⟨_,_,_,rfl,_⟩:=hh; simp [Sh.size,AVal.isOne]
 | .struct fs,d,cs,hh=>by
  cases d <;> simp only [Has] at hh
  have:=HasL.cells hh;simpa only [Sh.size] using this
theorem HasL.cells {h:Heap}:∀ {fs:List Sh} {l:List Dat} {cs:List AVal},HasL h fs l cs→cs.length=Sh.sizes fs∧∀ x ∈ cs,x.isOne=true
 | [],l,cs,hh=>by cases l <;> simp only [HasL] at hh; subst hh; simp [Sh.sizes]
 | s :: r,l,cs,hh=>by
  cases l <;> simp only [HasL] at hh
  obtain ⟨a,b,rfl,h1,h2⟩:=hh;obtain ⟨k1,k2⟩:=Has.cells h1;obtain ⟨k3,k4⟩:=HasL.cells h2;refine ⟨by simp [Sh.sizes,k1,k3],fun x hx=>?_⟩;rcases bz.1 hx with hx | hx
  ·exact k2 x hx
  ·exact k4 x hx
end
structure Heap.Ext (h h':Heap):Prop where
 base:h.base≤h'.base
 get:∀ i,i < h.base→h'.get i=h.get i
mutual
theorem Has.ext {h h':Heap} (e:h.Ext h'):∀ {s:Sh} {d:Dat} {cs:List AVal},Has h s d cs→Has h' s d cs
 | .bool,d,cs,hh=>by cases d <;> simp only [Has] at hh ⊢ <;> exact hh
 | .int k,d,cs,hh=>by cases d <;> simp only [Has] at hh ⊢ <;> exact hh
 | .str,d,cs,hh=>by cases d <;> simp only [Has] at hh ⊢ <;> exact hh
 | .slice e',d,cs,hh=>by
  cases d <;> simp only [Has] at hh ⊢
  ·exact hh
  ·obtain ⟨h0,i,css,h1,h2,h3,h4,h5⟩:=hh;refine ⟨h0,i,css,h1,fg h2 e.base,h3,?_,fun k d c hd hc=>Has.ext e (h5 k d c hd hc)⟩;rw [e.get i h2]; exact h4
 | .struct fs,d,cs,hh=>by
  cases d <;> simp only [Has] at hh ⊢
  exact HasL.ext e hh
theorem HasL.ext {h h':Heap} (e:h.Ext h'):∀ {fs:List Sh} {l:List Dat} {cs:List AVal},HasL h fs l cs→HasL h' fs l cs
 | [],l,cs,hh=>by cases l <;> simp only [HasL] at hh ⊢; exact hh
 | s :: r,l,cs,hh=>by
  cases l <;> simp only [HasL] at hh ⊢
  obtain ⟨a,b,e1,h1,h2⟩:=hh;exact ⟨a,b,e1,Has.ext e h1,HasL.ext e h2⟩
end
def shFields (P:Program) (g:TypeId→Option Sh):Nat→List Field→Option (List Sh)
 | _,[]=>some []
 | off,f :: r=>match g f.type with
  | some s=>if f.offset=off∧P.cellsOf f.type=s.size then (shFields P g (off+s.size) r).map (s :: ·) else none
  | none=>none
def arrF (P:Program) (k:Nat) (e:TypeId):List Field:=(List.range k).map fun i=>⟨"", e,i*P.cellsOf e,false, "", "", 0⟩
def shOf (P:Program):Nat→TypeId→Option Sh
 | 0,_=>none
 | n+1,t=>match P.underlying t with
  | some .bool=>some .bool
  | some (.int k)=>some (.int k)
  | some .string=>some .str
  | some (.slice e)=>match shOf P n e with
   | some s=>if P.cellsOf e=s.size∧0 < s.size∧0 < P.bytesOf e then some (.slice s) else none
   | none=>none
  | some (.struct fs)=>match shFields P (shOf P n) 0 fs.toList with
   | some ss=>if P.cellsOf t=Sh.sizes ss then some (.struct ss) else none
   | none=>none
  | some (.array k e)=>match shFields P (shOf P n) 0 (arrF P k e) with
   | some ss=>if P.cellsOf t=Sh.sizes ss then some (.struct ss) else none
   | none=>none
  | _=>none
def H0 (os:List AObj):Heap:=⟨os,os.length,os.length⟩
theorem H0_ext (os e:List AObj):(H0 os).Ext (H0 (os++e)) :=
 ⟨by simp [H0],fun i hi=>by simp only [H0,Heap.get] at hi ⊢; rw [ag hi]⟩
section
variable {E:Env}
theorem ORel.base {μ:MM} {b j i:Nat} {w:World} {o:AObj} (h:ORel E μ b i w o) (hi:i < j):ORel E μ j i w o:=by
 cases o with
 | cells esz cs =>
  obtain ⟨m,c,e,fr,h1,h2,p,q,B,C,_⟩:=h;exact ⟨m,c,e,fr,h1,h2,p,q,B,C,fun k=>absurd hi (by omega)⟩
 | _=>exact h
theorem Rel.view {μ:MM} {os:List AObj} {w:World} (hr:Rel E μ (H0 os) w) (o:AObj) (x:Option M) (ho:ORel E (μ++[x]) (os.length+1) os.length w o) (hx:∀ m,x=some m→m.blk < w.heap.size) :
  Rel E (μ++[x]) (H0 (os++[o])) w:=by
 have p:μ.length=os.length:=hr.len;constructor
 ·simp [H0,p]
 ·simp [H0]
 ·intro i B hi;simp only [H0] at hi ⊢;rcases bh i os.length with h1 | h1
  ·rw [ag h1] at hi;refine ((hr.obj i B hi).keep (g9 μ x) fun m hm=>⟨?_,rfl⟩).base (by simp; omega);rw [ag (by omega)]; exact hm
  ·have:=ah hi;simp at this;have e:i=os.length:=by omega
   subst e;simp at hi; subst hi;simpa using ho
 ·intro i j mi mj _ hi q _;have:=ah q;simp [H0] at hi this;omega
 ·intro i m hm;rcases iq hm with h1 | ⟨_,h1⟩
  ·exact hr.lt i m h1
  ·exact hx m h1
 ·exact hr.tab.less fun i m hi hm=>by have:=ah hm;simp [H0] at hi this;omega
theorem VRels.push {μ ν:MM} {aZ:List AVal} {l:List Value} (h:VRels E μ aZ l):VRels E (μ++ν) aZ l :=
 h.later ⟨by simp,fun i hi=>.inl (ag hi)⟩
theorem cell_block {w:World} {a:Addr} {v:Value} (h:w.cell? a=some v):∃ c e fr,w.heap[a.block]? = some (.cells c e fr)∧a.spot=none∧c[a.off]? = some v:=by
 unfold World.cell? at h;split at h
 ·rename_i c e fr hb;split at h
  ·cases h
  ·rename_i hs;exact ⟨c,e,fr,hb,by simpa using hs,h⟩
 ·cases h
theorem add_off {a:Addr} (hs:a.spot=none) (n:Nat):a.add n=⟨a.block,a.off+n,none⟩:=by unfold Addr.add;cases a;simp only at hs;subst hs;split <;> simp_all
theorem yv {sz:Nat}:∀ {j:List (List AVal)} {k:Nat} {v:AVal},(∀ c ∈ j,c.length=sz)→j.flatten[k]? = some v→∃ q r c,k=q*sz+r∧r < sz∧j[q]? = some c∧c[r]? = some v
 | [],k,v,_,h=>by simp at h
 | c :: j,k,v,p,h=>by
  simp only [ou] at h;have hc:=p c (a8 ..);rcases bh k c.length with h1 | h1
  ·rw [ag h1] at h;exact ⟨0,k,c,by omega,by omega,rfl,h⟩
  ·rw [aw h1] at h;obtain ⟨q,r,c',e,hr,h2,B⟩:=yv (fun x hx=>p x (bd _ hx)) h;refine ⟨q+1,r,c',?_,hr,by simpa using h2,B⟩;rw [fm]; omega
theorem yw {sz:Nat}:∀ {e:List (List AVal)},(∀ c ∈ e,c.length=sz)→e.flatten.length=e.length*sz
 | [],_=>by simp
 | c :: e,h=>by rw [ou,au,yw fun x hx=>h x (bd _ hx),h c (a8 ..),cq,fm];omega
variable {H:Type} {enc:TypeId × Value→H} {w:World} {held:Bool}
def Reads (E:Env) (w:World) (sh:Sh) (cs:List Value):Prop :=
 ∀ (μ:MM) (os:List AObj),Rel E μ (H0 os) w→∃ ν zs acs d,Rel E (μ++ν) (H0 (os++zs)) w∧VRels E (μ++ν) acs cs∧Has (H0 (os++zs)) sh d acs
theorem Reads.pure {j:Sh} {cs:List Value} (e:List AVal) (d:Dat) (h1:∀ μ,VRels E μ e cs) (h2:∀ h,Has h j d e):Reads E w j cs:=fun μ os hr =>
 ⟨[],[],e,d,by simpa using hr,h1 _,h2 _⟩
def Fits (P:Program) (t:TypeId) (d:DataW H):Prop:=∀ k ∈ d.weights P t,k≤iu
theorem nq {P:Program} {e:TypeId} {k:Nat}:∀ {l:List (DataW H)} {d:DataW H},d ∈ l→k ∈ d.weights P e→k ∈ DataW.weightsAll P e l
 | x :: l,d,hd,j=>by
  simp only [DataW.weightsAll,bz];rcases cj.1 hd with rfl | hd
  ·exact .inl j
  ·exact .inr (nq hd j)
theorem sv {P:Program} {k:Nat}:∀ {ts:List TypeId} {l:List (DataW H)} {i:Nat} {t:TypeId} {d:DataW H},ts[i]? = some t→l[i]? = some d→k ∈ d.weights P t→k ∈ DataW.weightsEach P ts l
 | [],_,i,t,d,e,_,_=>by simp at e
 | _ :: _,[],i,t,d,_,hd,_=>by simp at hd
 | t' :: ts,x :: l,i,t,d,e,hd,j=>by
  simp only [DataW.weightsEach,bz];cases i with
  | zero=>simp at e hd; subst e; subst hd; exact .inl j
  | succ i=>exact .inr (sv (i:=i) (by simpa using e) (by simpa using hd) j)
theorem rq {g:TypeId→Option Sh} {cs:List Value} (G:∀ t I,g t=some I→∀ n vs x,DataW.trod enc E.P w 0 (fun _=>true) held n t vs=some x→Fits E.P t x.1→Reads E w I vs) :
  ∀ {fl:List Field} {off:Nat} {ss:List Sh},shFields E.P g off fl=some ss→off+Sh.sizes ss≤cs.length→(∀ f ∈ fl,∃ n x,DataW.trod enc E.P w 0 (fun _=>true) held n f.type ((cs.drop f.offset).take (E.P.cellsOf f.type))=some x∧Fits E.P f.type x.1) →
   ∀ (μ:MM) (os:List AObj),Rel E μ (H0 os) w→∃ ν q e l,Rel E (μ++ν) (H0 (os++q)) w∧VRels E (μ++ν) e ((cs.drop off).take (Sh.sizes ss))∧HasL (H0 (os++q)) ss l e
 | [],off,ss,hs,_,_,μ,os,hr=>by simp only [shFields] at hs; cases hs;exact ⟨[],[],[],[],by simpa using hr,by simp [Sh.sizes,VRels],by simp [HasL]⟩
 | f :: fl,off,ss,hs,p,J,μ,os,hr=>by
  simp only [shFields] at hs;split at hs;case h_2=>cases hs
  rename_i s h1;split at hs;case isFalse=>cases hs
  rename_i h2;rw [ae] at hs;obtain ⟨L,N,rfl⟩:=hs;simp only [Sh.sizes] at p ⊢;obtain ⟨n,x,hx,B⟩:=J f (a8 ..);obtain ⟨ν,q,e,d,O,K,U⟩:=G _ _ h1 _ _ _ hx B μ os hr;obtain ⟨W,C,j,l,X,k5,k6⟩:=rq G N (by omega) (fun f' D=>J f' (bd _ D)) _ _ O;refine ⟨ν++W,q++C,e++j,d :: l,by simpa using X,?_,?_⟩
  ·rw [List.take_add];refine VRels.append ?_ ?_
   ·rw [← ba];rw [h2.1,h2.2] at K;exact K.push
   ·rw [jp,← ba];exact k5
  ·simp only [HasL];refine ⟨e,j,rfl,?_,?_⟩
   ·rw [← ba]; exact U.ext (H0_ext _ _)
   ·rw [← ba]; exact k6
theorem reads_row {e:TypeId} {s:Sh} (K:∀ n vs x,DataW.trod enc E.P w 0 (fun _=>true) held n e vs=some x→Fits E.P e x.1→Reads E w s vs) {a:Addr} {sz:Nat} :
  ∀ (m:Nat),(∀ i,i < m→∃ n vs x,w.cells? 0 (a.add (i*sz)) sz=some vs∧DataW.trod enc E.P w 0 (fun _=>true) held n e vs=some x∧Fits E.P e x.1) →
   ∀ (μ:MM) (os:List AObj),Rel E μ (H0 os) w→∃ (ν:MM) (B:List AObj) (j:List (List AVal)) (l:List Dat),Rel E (μ++ν) (H0 (os++B)) w∧j.length=m∧l.length=m ∧
    (∀ i c,j[i]? = some c→∃ vs,w.cells? 0 (a.add (i*sz)) sz=some vs∧VRels E (μ++ν) c vs)∧∀ (k:Nat) (d:Dat) (c:List AVal),l[k]? = some d→j[k]? = some c→Has (H0 (os++B)) s d c
 | 0,_,μ,os,hr=>⟨[],[],[],[],by simpa using hr,rfl,rfl,by simp,by simp⟩
 | m+1,hm,μ,os,hr=>by
  obtain ⟨ν,B,j,l,N,C,L,O,U⟩:=reads_row K m (fun i hi=>hm i (by omega)) μ os hr;obtain ⟨n,vs,x,h1,h2,D⟩:=hm m (by omega);obtain ⟨W,G,I,d,X,j2,j3⟩:=K _ _ _ h2 D _ _ N;refine ⟨ν++W,B++G,j++[I],l++[d],by simpa using X,by simp [C],by simp [L],?_,?_⟩
  ·intro i c hc;rcases bh i j.length with p | p
   ·rw [ag p] at hc;obtain ⟨J,q,h5⟩:=O i c hc;exact ⟨J,q,by rw [← ba]; exact h5.push⟩
   ·have q:=ah hc;simp at q;have e:i=j.length:=by omega
    subst e;simp at hc; subst hc;exact ⟨vs,by rw [C]; exact h1,by rw [← ba]; exact j2⟩
  ·intro k d' c hd hc;rcases bh k j.length with p | p
   ·rw [ag p] at hc;rw [ag (by omega)] at hd;rw [← ba];exact (U k d' c hd hc).ext (H0_ext _ _)
   ·have q:=ah hc;simp at q;have e:k=j.length:=by omega
    subst e;rw [aw (by omega)] at hd;simp at hc; subst hc;simp [C,L] at hd; subst hd;rw [← ba]; exact j3
theorem wo:∀ (f:Nat) (t:TypeId) (X:Sh),shOf E.P f t=some X→∀ (n:Nat) (cs:List Value) (x:DataW H × List MemPlace),DataW.trod enc E.P w 0 (fun _=>true) held n t cs=some x→Fits E.P t x.1→Reads E w X cs
 | 0,t,X,h=>by simp [shOf] at h
 | f+1,t,X,h=>by
  intro n cs x hx G;simp only [shOf] at h;split at h
  ·rename_i I;cases h;obtain ⟨b,rfl,_⟩:=DataW.trod_bool I hx;exact Reads.pure [.bool b] (.bool b) (fun μ=>by simp [VRels,VRel]) fun h=>by simp [Has]
  ·rename_i k I;cases h;obtain ⟨m,rfl,_,hw⟩:=DataW.trod_int I hx;simp [Lit.wf] at hw;exact Reads.pure [.int k m] (.int m) (fun μ=>by simp [VRels,VRel]) fun h=>by simp [Has,hw]
  ·rename_i I;cases h;obtain ⟨s,rfl,p,hw⟩:=DataW.trod_string I hx
   exact Reads.pure [.str s.data.toList] (.str s.data.toList) (fun μ=>by simp [VRels,VRel]) fun h=>by simp only [Has];exact ⟨trivial,G _ (by rw [p]; simp [DataW.weights])⟩
  ·rename_i e I;split at h;case h_2=>cases h
   rename_i s hs;split at h;case isFalse=>cases h
   rename_i K;cases h;rcases DataW.trod_slice I hx with ⟨rfl,_⟩ | ⟨a,len,cap,B,L,n',_,rfl,p,_,ad,ax,cx,h1,h2,_⟩
   ·exact Reads.pure [.slice none 0 (some 0)] .nil (fun μ=>by simp [VRels,VRel]) fun h=>by simp [Has]
   ·obtain ⟨cy,h2⟩:=h2 rfl;rw [K.1] at h1 h2;have hw:=G;unfold Fits at hw;rw [p] at hw;simp only [DataW.weights,I,cj,bz,a7] at hw
    have ay:cap≤iu:=by
     have h3:=hw _ (.inl rfl)
     have h4:cap≤(B.length+L.length)*E.P.bytesOf e:=by
      have h5:B.length+L.length=cap:=by omega
      rw [h5];exact Nat.le_mul_of_pos_right _ K.2.2
     omega
    have b5:∀ y ∈ B,Fits E.P e y.1:=fun y hy k hk=>hw k (.inr (.inl (nq (pg hy) hk)))
    have b6:∀ y ∈ L,Fits E.P e y.1:=fun y hy k hk=>hw k (.inr (.inr (nq (pg hy) hk)))
    have N:∀ i,i < cap→∃ n vs x,w.cells? 0 (a.add (i*s.size)) s.size=some vs∧DataW.trod enc E.P w 0 (fun _=>true) held n e vs=some x∧Fits E.P e x.1:=fun i hi=>by
     rcases bh i len with hl | hl
     ·have h3:=h1 i hl;rw [ai (by omega)] at h3;rw [ic] at h3;obtain ⟨vs,h4,h5⟩:=h3;exact ⟨n',vs,_,h4,h5,b5 _ (List.getElem_mem _)⟩
     ·have h3:=h2 (i - len) (by omega);rw [ai (by omega),show len+(i - len)=i by omega] at h3;rw [ic] at h3;obtain ⟨vs,h4,h5⟩:=h3;exact ⟨n',vs,_,h4,h5,b6 _ (List.getElem_mem _)⟩
    intro μ os hr;obtain ⟨ν,J,O,l,k1,k2,k3,k4,k5⟩:=reads_row (a:=a) (sz:=s.size) (fun n vs x=>wo f e s hs n vs x) len (fun i hi=>N i (by omega)) μ os hr;have j:(μ++ν).length=(os++J).length:=k1.len;rcases Nat.eq_zero_or_pos cap with hc | hc
    ·-- nothing there
     subst hc;have b7:len=0:=by omega
     subst b7;have al:O=[]:=bn k2;have hl:l=[]:=bn k3;subst al; subst hl;refine ⟨ν++[none],J++[.dead],[.slice (some ((os++J).length,0)) 0 none],.row [],?_,?_,?_⟩
     ·have:=k1.view .dead none (show (_++[none]:MM)[_]? = _ by rw [← j]; simp) (by simp);simpa using this
     ·simp only [VRels,VRel];refine ⟨_,[],rfl,⟨a,0,rfl,?_,by simp,by simp,aj _,?_⟩,rfl⟩
      ·rw [← ba,← j]; simp only [au,cq]; omega
      ·intro m hm;rw [← ba,← j] at hm;simp at hm
     ·unfold Has;refine ⟨fk _,(os++J).length,[],rfl,by simp [H0],rfl,.inr ⟨rfl,?_⟩,by simp⟩;rw [← ba];simp [Heap.get,H0]
    ·-- the row
     have bb:=K.2.1;obtain ⟨_,d8,_,c0,_,_⟩:=N 0 hc;obtain ⟨_,d9,bm⟩:=World.cells?_some c0;have c1:=bm 0 bb;rw [ai (by omega)] at c1;have:(a.add (0*s.size)).add 0=a:=by simp [Addr.add]
     rw [this] at c1;obtain ⟨c,te,fr,hb,C,_⟩:=cell_block c1
     have D:∀ i vs,w.cells? 0 (a.add (i*s.size)) s.size=some vs→vs.length=s.size∧∀ r,r < s.size→c[a.off+i*s.size+r]? = vs[r]?:=fun i vs a0=>by obtain ⟨_,e1,e2⟩:=World.cells?_some a0;refine ⟨e1,fun r hr=>?_⟩;have e3:=e2 r hr;rw [add_off C,add_off rfl,mh hb] at e3;exact e3
     have cp:a.off+cap*s.size≤c.size:=by
      obtain ⟨_,vs,_,d1,_,_⟩:=N (cap - 1) (by omega);obtain ⟨d2,d3⟩:=D _ _ d1;have d4:=d3 (s.size - 1) (by omega);rw [ai (by omega)] at d4;have d5:a.off+(cap - 1)*s.size+(s.size - 1) < c.size:=ah (l:=c.toList) (by simpa using d4)
      have d6:cap*s.size=(cap - 1)*s.size+s.size:=by
       conv=>lhs; rw [show cap=(cap - 1)+1 by omega]
       rw [fm]; omega
      omega
     have an:∀ x ∈ O,x.length=s.size:=fun x hx=>by obtain ⟨i,hi⟩:=gu hx;obtain ⟨vs,a0,hv⟩:=k4 i x hi;rw [hv.length,(D i vs a0).1]
     have U:=yw an;have cv:len*s.size≤cap*s.size:=ge _ ad;let m:M:=⟨a.block,a.off,c.size,s.size⟩
     have ao:ORel E ((μ++ν)++[some m]) ((os++J).length+1) (os++J).length w (.cells s.size O.flatten):=by
      refine ⟨m,c,te,fr,by rw [← j]; simp,rfl,hb,rfl,by rw [U,k2]; show a.off+_≤c.size; omega,?_,fun k=>by omega⟩;intro k v hk;obtain ⟨q,r,cc,e1,e2,e3,e4⟩:=yv an hk;obtain ⟨vs,f1,f2⟩:=k4 q cc e3;obtain ⟨v',g1,g2⟩:=f2.get e4;have hq:q < len:=by have:=ah e3; omega
      obtain ⟨dd,bx⟩:∃ dd,l[q]? = some dd:=⟨_,ai (by omega)⟩;refine ⟨((k5 q dd cc bx e3).cells).2 v (br e4),v',?_,g2.later (g9 _ _)⟩;show c[a.off+k]? = _;rw [e1,← lz,(D q vs f1).2 r e2,g1]
     refine ⟨ν++[some m],J++[.cells s.size O.flatten],[.slice (some ((os++J).length,0)) len none],.row l,?_,?_,?_⟩
     ·have:=k1.view _ (some m) ao (by rintro m' h; cases h; exact sk hb);simpa using this
     ·simp only [VRels,VRel];refine ⟨_,[],rfl,⟨a,cap,rfl,⟨?_,ax⟩,fun _=>?_,by simp,ad,?_⟩,rfl⟩
      ·rw [← ba,← j]; simp only [au,cq]; omega
      ·refine ⟨some m,by rw [← ba,← j]; simp,fun m' W=>?_⟩;cases W;cases a;simp only at C;subst C;rfl
      ·intro m' W;rw [← ba,← j] at W;simp at W; subst W;show a.off+0+cap*s.size≤c.size;omega
     ·simp only [Has];refine ⟨by rw [k3]; omega,(os++J).length,O,by rw [k3],by simp [H0],by omega,.inl ?_,fun k d c' hd c4=>?_⟩
      ·rw [← ba];simp [Heap.get,H0]
      ·rw [← ba];exact (k5 k d c' hd c4).ext (H0_ext _ _)
  ·rename_i fs I;split at h;case h_2=>cases h
   rename_i ss hs;split at h;case isFalse=>cases h
   rename_i K;cases h;obtain ⟨xs,n',_,p,hl,c5,U⟩:=DataW.trod_struct I hx;intro μ os hr
   obtain ⟨ν,J,a6,l,k1,k2,k3⟩:=rq (cs:=cs) (fun t X aa n vs x hx=>wo f t X aa n vs x hx) hs (by omega) (fun fd ac=>by
    obtain ⟨i,hi⟩:=gu ac;have:=U i fd (by simpa using hi);have dl:i < fs.size:=by have:=ah hi; simpa using this
    rw [ai (by omega)] at this;refine ⟨n',_,this,fun k hk=>G k ?_⟩;rw [p];simp only [DataW.weights,I];exact sv (i:=i) (by rw [bp,hi]; rfl) (by rw [bp,ai (by omega)]; rfl) hk) μ os hr
   refine ⟨ν,J,a6,.agg l,k1,?_,?_⟩
   ·rw [ff,dg (by omega)] at k2;exact k2
   ·simp only [Has]; exact k3
  ·rename_i k e I;split at h;case h_2=>cases h
   rename_i ss hs;split at h;case isFalse=>cases h
   rename_i K;cases h;obtain ⟨xs,n',_,p,hl,c5,U⟩:=DataW.trod_array I hx;intro μ os hr
   obtain ⟨ν,J,a6,l,k1,k2,k3⟩:=rq (cs:=cs) (fun t X aa n vs x hx=>wo f t X aa n vs x hx) hs (by omega) (fun fd ac=>by obtain ⟨i,hi,rfl⟩:=bt.1 ac;have ci:i < k:=dc.1 hi;have:=U i ci;rw [ai (by omega)] at this;refine ⟨n',_,this,fun q hq=>G q ?_⟩;rw [p];simp only [DataW.weights,I];exact nq (pg (List.getElem_mem _)) hq) μ os hr
   refine ⟨ν,J,a6,.agg l,k1,?_,?_⟩
   ·rw [ff,dg (by omega)] at k2;exact k2
   ·simp only [Has]; exact k3
  ·cases h
def avalOf:Sh→List AVal→AVal
 | .struct _,cs=>.agg cs
 | _,[a]=>a
 | _,cs=>.agg cs
def HasArgs (h:Heap):List Sh→List Dat→List AVal→Prop
 | [],[],aZ=>aZ=[]
 | s :: r,d :: l,aZ=>∃ cs t,aZ=avalOf s cs :: t∧Has h s d cs∧HasArgs h r l t
 | _,_,_=>False
theorem aval_rel {f:Nat} {t:TypeId} {D:Sh} (hs:shOf E.P f t=some D) {r:Reach} {base:Nat} {W:World} {v:Value} (B:Value.okWide E.P W r base t v) {μ:MM} {q:List AVal} (j:VRels E μ q v.cells.toList) {h:Heap} {d:Dat} (J:Has h D d q) :
  VRel E μ (avalOf D q) v:=by
 have p:=J.cells
 have one:∀ {q:List AVal},D.size=1→(∀ fs,D ≠ .struct fs)→q.length=D.size→v.cells = #[v]→VRels E μ q v.cells.toList→VRel E μ (avalOf D q) v:=by
  intro q h1 h2 G K I;rw [K] at I;match q,G with
  | [],G=>rw [h1] at G; simp at G
  | [a],_ =>
   have:avalOf D [a]=a:=by
    cases D <;> simp only [avalOf]
    exact absurd rfl (h2 _)
   rw [this];simp only [VRels] at I;obtain ⟨_,_,e,L,_⟩:=I;cases e;exact L
  | _ :: _ :: _,G=>rw [h1] at G; simp at G
 cases f with
 | zero=>simp [shOf] at hs
 | succ f =>
  simp only [shOf] at hs;unfold Value.okWide at B;split at hs
  ·rename_i C;cases hs;rw [C] at B;simp only [Cell.okWide,Cell.ok,C] at B;exact one rfl (by simp) p.1 (by cases v <;> first | rfl | exact B.elim) j
  ·rename_i k C;cases hs;rw [C] at B;simp only [Cell.okWide,Cell.ok,C] at B;exact one rfl (by simp) p.1 (by cases v <;> first | rfl | exact B.elim) j
  ·rename_i C;cases hs;rw [C] at B;simp only [Cell.okWide,Cell.ok,C] at B;exact one rfl (by simp) p.1 (by cases v <;> first | rfl | exact B.elim) j
  ·rename_i e C;split at hs;case h_2=>cases hs
   split at hs;case isFalse=>cases hs
   cases hs;rw [C] at B;simp only [Cell.okWide,Cell.ok,C] at B;exact one rfl (by simp) p.1 (by cases v <;> first | rfl | exact B.elim) j
  ·rename_i fs C;split at hs;case h_2=>cases hs
   split at hs;case isFalse=>cases hs
   cases hs;rw [C] at B;obtain ⟨cs,rfl,_⟩:=B;simp only [avalOf,VRel];exact ⟨cs,rfl,j,p.2⟩
  ·rename_i k e C;split at hs;case h_2=>cases hs
   split at hs;case isFalse=>cases hs
   cases hs;rw [C] at B;obtain ⟨cs,rfl,_⟩:=B;simp only [avalOf,VRel];exact ⟨cs,rfl,j,p.2⟩
  ·cases hs
def shAll (P:Program) (f:Nat):List TypeId→Option (List Sh)
 | []=>some []
 | t :: r=>match shOf P f t,shAll P f r with
  | some s,some ss=>some (s :: ss)
  | _,_=>none
theorem args_read {f:Nat} {W:World} {r:Reach} {base:Nat}:∀ {ts:List TypeId} {vs:List Value} {ds:List (DataW H)} {ps:List MemPlace} {ss:List Sh},DataW.TrodAll enc E.P w 0 (fun _=>true) held ts vs ds ps→(∀ k ∈ DataW.weightsEach E.P ts ds,k≤iu)→shAll E.P f ts=some ss →
  (∀ (j:Nat) (t:TypeId) (v:Value),ts[j]? = some t→vs[j]? = some v→Value.okWide E.P W r base t v)→∀ (μ:MM) (os:List AObj),Rel E μ (H0 os) w →
   ∃ ν B aZ l,Rel E (μ++ν) (H0 (os++B)) w∧VRels E (μ++ν) aZ vs∧HasArgs (H0 (os++B)) ss l aZ
 | [],[],[],ps,ss,_,_,hs,_,μ,os,hr=>by simp only [shAll] at hs; cases hs;exact ⟨[],[],[],[],by simpa using hr,by simp [VRels],by simp [HasArgs]⟩
 | t :: ts,v :: vs,d :: ds,ps,ss,h,C,hs,J,μ,os,hr=>by
  simp only [DataW.weightsEach,bz] at C;simp only [shAll] at hs;split at hs;case h_2=>cases hs
  rename_i s L h1 h2;cases hs;obtain ⟨p,q,⟨n,N⟩,O,_⟩:=h;obtain ⟨ν,B,e,U,X,k2,K⟩:=wo f t s h1 n _ _ N (fun k D=>C k (.inl D)) μ os hr;obtain ⟨ν',G,aZ,l,k4,k5,k6⟩:=args_read O (fun k D=>C k (.inr D)) h2 (fun j t' v' ht I=>J (j+1) t' v' (by simpa using ht) (by simpa using I)) _ _ X;refine ⟨ν++ν',B++G,avalOf s e :: aZ,U :: l,by simpa using k4,?_,?_⟩
  ·simp only [VRels];refine ⟨v,vs,rfl,?_,by rw [← ba]; exact k5⟩;have:=aval_rel h1 (J 0 t v rfl rfl) k2 K;rw [← ba];exact this.later ⟨by simp,fun i hi=>.inl (ag hi)⟩
  ·simp only [HasArgs];exact ⟨e,aZ,rfl,by rw [← ba]; exact K.ext (H0_ext _ _),by rw [← ba]; exact k6⟩
 | [],_ :: _,_,_,_,h,_,_,_,_,_,_=>by simp [DataW.TrodAll] at h
 | [],[],_ :: _,_,_,h,_,_,_,_,_,_=>by simp [DataW.TrodAll] at h
 | _ :: _,[],_,_,_,h,_,_,_,_,_,_=>by simp [DataW.TrodAll] at h
 | _ :: _,_ :: _,[],_,_,h,_,_,_,_,_,_=>by simp [DataW.TrodAll] at h
theorem rel_none {w:World} (h:Tabs E [] 0 w):Rel E [] (H0 []) w :=
 ⟨rfl,aj _,by simp [H0],by simp,by simp,h.less fun i m _ hm=>by simp at hm⟩
end
end Go.Abs

namespace Go.Abs
attribute [simp] xCode_skip xCode_exit xCode_ret wt xCode_seq zba y7 zbb za jh evOps evQuiet dy evRun c7 ok1 Opd.ev evs sget a9 keep Opd.adr AVal.cells? outcome resultsL result1 tupled
 xFunc enter loadAt cellsAt storeAt part aBin aUn inBounds upTo lowB bounds aSlice eszIs optEv splice qf Heap.get Heap.put Heap.push Heap.size AVal.under AVal.unders fill isVar evLen n8 aMin2 aMins aEqNil il rowIs alen aApp d7 dj AVal.ids AVal.idsL AVal.ren AVal.renL AObj.ids AObj.ren idxIn rep
 ct evPure uq ik lj hide allSeen je clash ldOf okId seenBy slotIds gn ew ef AOp.isCall AOper.reads AOp.reads Opd.reads readsL readsO readsP Slot.ids Did.writes sameAt cellEqb AVal.eqb AVal.eqbL
@[simp] theorem wrapC_false (r:List AVal→Heap→Option (AVal × Heap)):wrapC false r=r:=rfl
@[simp] theorem wrapC_true (r:List AVal→Heap→Option (AVal × Heap)):wrapC true r=evClosed r:=rfl
theorem wrap64 {x:Int} (h1:-9223372036854775808≤x) (h2:x≤9223372036854775807):IntKind.i64.wrap x=x:=by simp only [IntKind.wrap,IntKind.bits,IntKind.signed];simp;omega
theorem jz (h:Heap) (n0 f:Nat) (i:Nat) (r e:List Nat):reach h n0 (f+1) (i :: r) e=if i < n0 then reach h n0 f r e
  else if e.contains i then reach h n0 f r e
  else reach h n0 f (((h.get i).map AObj.ids).getD []++r) (e++[i]):=rfl
theorem j9 (h:Heap) (n0 f:Nat) (e:List Nat):reach h n0 (f+1) [] e=e:=rfl
structure Row {α:Type} (os:List AObj) (e:Nat) (f:α→List AVal) (L:List α) (a:Option (Nat × Nat)):Prop where
 at':L≠[]→∃ b o cs,a=some (b,o)∧os[b]? = some (.cells e cs)∧∀ (j:Nat) (x:α),L[j]? = some x→o+j*e+e≤cs.length∧(cs.drop (o+j*e)).take e=f x
theorem lx {α:Type} {L:List α} {j:Nat} {x:α} (h:L[j]? = some x):L≠[]:=by rintro rfl; simp at h
theorem flat_at {α:Type} (f:α→List AVal) (n:Nat) (e:∀ x,(f x).length=n):∀ (xs:List α) (j:Nat) (x:α),xs[j]? = some x→j*n+n≤(xs.flatMap f).length∧((xs.flatMap f).drop (j*n)).take n=f x
 | [],j,x,h=>by simp at h
 | y :: ys,0,x,h=>by simp at h; subst h;simp only [d0,Nat.zero_mul,ff,au,e];rw [List.take_append_of_le_length (by rw [e]; omega),dg (by rw [e]; omega)];exact ⟨by omega,rfl⟩
 | y :: ys,j+1,x,h=>by
  simp at h;obtain ⟨h1,h2⟩:=flat_at f n e ys j x h
  rw [d0,List.drop_append,e,show (j+1)*n - n=j*n from by rw [fm]; omega,
   dk (by rw [e,fm]; omega),dw,au,e,fm]
  exact ⟨by omega,h2⟩
theorem za5 {α:Type} (f:α→List AVal) (n:Nat) (e:∀ x,(f x).length=n) (xs:List α):(xs.flatMap f).length=xs.length*n:=by
 induction xs with
 | nil=>simp
 | cons x xs ih=>rw [d0,au,e,ih,cq,fm]; omega
theorem Row.mk0 {α:Type} {os:List AObj} {e:Nat} {f:α→List AVal} {L:List α} {b:Nat} (p:∀ x,(f x).length=e) (h:os[b]? = some (.cells e (L.flatMap f))):Row os e f L (some (b,0)) :=
 ⟨fun _=>⟨b,0,_,rfl,h,fun j x hx=>by simpa using flat_at f e p L j x hx⟩⟩
theorem Row.ext {α:Type} {os:List AObj} {e:Nat} {f:α→List AVal} {L:List α} {a:Option (Nat × Nat)} (h:Row os e f L a) (p:List AObj):Row (os++p) e f L a :=
 ⟨fun j=>by obtain ⟨b,o,cs,h1,h2,q⟩:=h.at' j;exact ⟨b,o,cs,h1,by rw [ag (ah h2)]; exact h2,q⟩⟩
theorem Has.row {α:Type} {os:List AObj} {b w:Nat} {e:Sh} {f:α→List AVal} {ok:α→Prop} {d:Dat} {cs:List AVal} (C:∀ d c,Has ⟨os,b,w⟩ e d c→∃ x,c=f x∧ok x) (h:Has ⟨os,b,w⟩ (.slice e) d cs) :
  ∃ (a:Option (Nat × Nat)) (L:List α) (c:Option Nat),cs=[.slice a L.length c]∧Row os e.size f L a∧L.length≤iu∧(∀ x ∈ L,ok x)∧(∀ i o,a=some (i,o)→i < b)∧(a=none→L=[]):=by
 cases d <;> simp only [Has] at h
 ·subst h;exact ⟨none,[],some 0,rfl,⟨fun h=>absurd rfl h⟩,by simp,by simp,by simp,fun _=>rfl⟩
 ·rename_i l;obtain ⟨h0,i,p,rfl,h2,O,I,X⟩:=h
  have:∀ (p:List (List AVal)) (l:List Dat),p.length=l.length→(∀ (k:Nat) (d:Dat) (c:List AVal),l[k]? = some d→p[k]? = some c→Has ⟨os,b,w⟩ e d c) →
    ∃ L:List α,p=L.map f∧∀ x ∈ L,ok x∧(f x).length=e.size:=by
   intro p;induction p with
   | nil=>exact fun _ _ _=>⟨[],rfl,by simp⟩
   | cons c p ih =>
    intro l P U;cases l with
    | nil=>simp at P
    | cons d l =>
     have hc:=U 0 d c rfl rfl;obtain ⟨x,hx,J⟩:=C d c hc;obtain ⟨L,D,G⟩:=ih l (by simpa using P) fun k d' c' hd hc=>U (k+1) d' c' (by simpa using hd) (by simpa using hc)
     refine ⟨x :: L,by rw [bi,← hx,← D],fun y B=>?_⟩;rcases cj.1 B with rfl | B
     ·exact ⟨J,by rw [← hx]; exact hc.cells.1⟩
     ·exact G y B
  obtain ⟨L,D,G⟩:=this p l O X;have q:L.length=l.length:=by rw [← O,D,a7]
  refine ⟨some (i,0),L,none,by rw [q],⟨fun K=>?_⟩,by rw [q]; exact h0,fun x hx=>(G x hx).1,(fun i' o' e=>by cases e; exact h2),by simp⟩;rcases I with I | ⟨rfl,_⟩
  ·refine ⟨i,0,p.flatten,rfl,I,fun j x hx=>?_⟩
   have N:∀ (L:List α),(∀ x ∈ L,(f x).length=e.size)→∀ j x,L[j]? = some x→j*e.size+e.size≤(L.map f).flatten.length∧((L.map f).flatten.drop (j*e.size)).take e.size=f x:=by
    intro L;induction L with
    | nil=>intro _ j x hx; simp at hx
    | cons y L ih =>
     intro W j x hx;have B:=W y (a8 ..);cases j with
     | zero =>
      simp at hx; subst hx;simp only [bi,ou,Nat.zero_mul,ff,au,B];rw [List.take_append_of_le_length (by omega),dg (by omega)];exact ⟨by omega,rfl⟩
     | succ j =>
      simp at hx;obtain ⟨h1,h2⟩:=ih (fun x hx=>W x (bd _ hx)) j x hx
      rw [bi,ou,List.drop_append,B,show (j+1)*e.size - e.size=j*e.size from by rw [fm]; omega,
       dk (by rw [B,fm]; omega),dw,au,B,fm]
      exact ⟨by omega,h2⟩
   have:=N L (fun x hx=>(G x hx).2) j x hx;rw [← D] at this;simpa using this
  ·exact absurd (bn (by rw [q]; rfl)) K
section
variable {h:Heap} {d:Dat} {cs:List AVal}
theorem Has.int {k:IntKind} (e:Has h (.int k) d cs):∃ n,d = .int n∧cs=[.int k n]∧k.min≤n∧n≤k.max:=by
 cases d <;> simp only [Has] at e
 exact ⟨_,rfl,e⟩
theorem HasArgs.cons {s:Sh} {r:List Sh} {l:List Dat} {aZ:List AVal} (e:HasArgs h (s :: r) l aZ):∃ d l' c t,l=d :: l'∧aZ=avalOf s c :: t∧Has h s d c∧HasArgs h r l' t:=by
 cases l <;> simp only [HasArgs] at e
 obtain ⟨a,b,h1,h2,j⟩:=e;exact ⟨_,_,a,b,rfl,h1,h2,j⟩
theorem HasArgs.nil {l:List Dat} {aZ:List AVal} (e:HasArgs h [] l aZ):l=[]∧aZ=[]:=by
 cases l <;> simp only [HasArgs] at e
 exact ⟨rfl,e⟩
end
end Go.Abs

namespace Go.Abs
variable {α β γ:Type}
abbrev Ct (α β:Type):=Inhabited (α→Option β)
abbrev Ct2 (α γ β:Type):=Inhabited (α→γ→Option β)
def andThen (x:Option α) [f:Ct α β]:Option β:=match x with
 | some a=>f.default a
 | none=>none
@[simp] theorem c6 (a:α) (f:α→Option β):andThen (some a) (f:=⟨f⟩)=f a:=eq_of_heq HEq.rfl
@[simp] theorem gl (f:α→Option β):andThen none (f:=⟨f⟩)=none:=eq_of_heq HEq.rfl
def condK (v:Option AVal) [f:Ct Unit β] [g:Ct Unit β]:Option β:=match v with
 | some (.bool true)=>f.default ()
 | some (.bool false)=>g.default ()
 | _=>none
@[simp] theorem condK_t (f g:Unit→Option β):condK (some (.bool true)) (f:=⟨f⟩) (g:=⟨g⟩)=f ():=eq_of_heq HEq.rfl
@[simp] theorem condK_f (f g:Unit→Option β):condK (some (.bool false)) (f:=⟨f⟩) (g:=⟨g⟩)=g ():=eq_of_heq HEq.rfl
def mustK (p:Prop) [Decidable p] [f:Ct Unit β]:Option β:=if p then f.default () else none
@[simp] theorem mustK_t [i:Decidable True] (f:Unit→Option β):mustK True (f:=⟨f⟩)=f ():=by simp [mustK]
@[simp] theorem mustK_f [i:Decidable False] (f:Unit→Option β):mustK False (f:=⟨f⟩)=none:=by simp [mustK]
def nxK (e:AExit) (st:St) [f:Ct St β] [k:Ct2 AExit St β]:Option β:=match e with
 | .normal=>f.default st
 | e=>k.default e st
@[simp] theorem nxK_n (st:St) (f:St→Option β) (k:AExit→St→Option β):nxK .normal st (f:=⟨f⟩) (k:=⟨k⟩)=f st:=eq_of_heq HEq.rfl
@[simp] theorem nxK_e (i:Nat) (st:St) (f:St→Option β) (k:AExit→St→Option β):nxK (.exit i) st (f:=⟨f⟩) (k:=⟨k⟩)=k (.exit i) st:=eq_of_heq HEq.rfl
@[simp] theorem nxK_r (st:St) (f:St→Option β) (k:AExit→St→Option β):nxK .ret st (f:=⟨f⟩) (k:=⟨k⟩)=k .ret st:=eq_of_heq HEq.rfl
def blkE (id:Nat):AExit→AExit
 | .exit j=>if j=id then .normal else .exit j
 | e=>e
@[simp] theorem blkE_n (i:Nat):blkE i .normal = .normal:=rfl
@[simp] theorem blkE_r (i:Nat):blkE i .ret = .ret:=rfl
@[simp] theorem xy (i j:Nat):blkE i (.exit j)=if j=i then .normal else .exit j:=rfl
theorem iltT {a b:Int} (h:a < b):(a < b)=True:=eq_true h
theorem iltF {a b:Int} (h:b≤a):(a < b)=False:=eq_false (by omega)
theorem ileT {a b:Int} (h:a≤b):(a≤b)=True:=eq_true h
theorem nltT {a b:Nat} (h:a < b):(a < b)=True:=eq_true h
theorem nltF {a b:Nat} (h:b≤a):(a < b)=False:=eq_false (by omega)
theorem nleT {a b:Nat} (h:a≤b):(a≤b)=True:=eq_true h
theorem di {x:Int} (h:-9223372036854775808≤x∧x≤9223372036854775807):IntKind.i64.wrap x=x:=wrap64 h.1 h.2
@[simp] theorem take_drop_len (l:List α) (a:Nat):List.take (l.length - a) (l.drop a)=l.drop a:=dg (by simp)
@[simp] theorem get_mid (a c:List α) (x:α):(a++x :: c)[a.length]? = some x:=by simp
@[simp] theorem get_mid1 (a c:List α) (x y:α):(a++y :: x :: c)[a.length+1]? = some x:=by simp
@[simp] theorem set_mid (a c:List α) (x y:α):(a++x :: c).set a.length y=a++y :: c:=by simp
@[simp] theorem take_map_len (f:α→γ) (l:List α):List.take l.length (l.map f)=l.map f:=dg (by simp)
@[simp] theorem get_mid2 (a c:List α) (x y z:α):(a++z :: y :: x :: c)[a.length+2]? = some x:=by simp
@[simp] theorem get_mid3 (a c:List α) (x y z u:α):(a++u :: z :: y :: x :: c)[a.length+3]? = some x:=by simp
@[simp] theorem set_mid1 (a c:List α) (x y z:α):(a++z :: x :: c).set (a.length+1) y=a++z :: y :: c:=by rw [List.set_append_right _ _ (by omega)]; simp
@[simp] theorem idsL_app:∀ a b:List AVal,AVal.idsL (a++b)=AVal.idsL a++AVal.idsL b
 | [],_=>rfl
 | x :: a,b=>by rw [fh];simp only [AVal.idsL,idsL_app a b,ba]
@[simp] theorem renL_app (f:Nat→Nat):∀ a b:List AVal,AVal.renL f (a++b)=AVal.renL f a++AVal.renL f b
 | [],_=>rfl
 | x :: a,b=>by rw [fh];simp only [AVal.renL,renL_app f a b,fh]
@[simp] theorem idsL_strs:∀ L:List (List UInt8),AVal.idsL (L.map AVal.str)=[]
 | []=>rfl
 | x :: L=>by rw [bi];simp only [AVal.idsL,AVal.ids,idsL_strs L];rfl
@[simp] theorem renL_strs (f:Nat→Nat):∀ L:List (List UInt8),AVal.renL f (L.map AVal.str)=L.map AVal.str
 | []=>rfl
 | x :: L=>by rw [bi];simp only [AVal.renL,AVal.ren,renL_strs f L]
def consK (t:Nat) (x:Option Slot) (r:Slots):Slots:=match x with
 | some (.loc _ _)=>r
 | some .gone=>r
 | some x=>(t,x) :: r
 | none=>r
@[simp] theorem consK_v (t:Nat) (v:AVal) (r:Slots):consK t (some (.val v)) r=(t,.val v) :: r:=rfl
@[simp] theorem consK_u (t:Nat) (r:Slots):consK t (some .undef) r=(t,.undef) :: r:=rfl
@[simp] theorem consK_x (t:Nat) (v:List AVal) (r:Slots):consK t (some (.var v)) r=(t,.var v) :: r:=rfl
@[simp] theorem consK_l (t a b:Nat) (r:Slots):consK t (some (.loc a b)) r=r:=rfl
@[simp] theorem consK_g (t:Nat) (r:Slots):consK t (some .gone) r=r:=rfl
@[simp] theorem consK_n (t:Nat) (r:Slots):consK t none r=r:=rfl
def keepK:List Nat→Slots→Slots
 | [],_=>[]
 | t :: l,s=>consK t (sget s t) (keepK l s)
@[simp] theorem keepK_nil (s:Slots):keepK [] s=[]:=rfl
@[simp] theorem keepK_cons (t:Nat) (l:List Nat) (s:Slots):keepK (t :: l) s=consK t (sget s t) (keepK l s):=rfl
theorem pr:∀ (l:List Nat) (s:Slots),keepK l s=keep l s
 | [],_=>rfl
 | t :: l,s=>by
  rw [keepK_cons,pr l s];unfold keep;rw [List.filterMap_cons];unfold consK;cases sget s t with
  | none=>rfl
  | some x=>cases x <;> rfl
def varK:Option Slot→Bool
 | some (.var _)=>true
 | _=>false
@[simp] theorem varK_v (v:AVal):varK (some (.val v))=false:=rfl
@[simp] theorem varK_u:varK (some .undef)=false:=rfl
@[simp] theorem varK_l (a b:Nat):varK (some (.loc a b))=false:=rfl
@[simp] theorem varK_x (v:List AVal):varK (some (.var v))=true:=rfl
@[simp] theorem varK_n:varK none=false:=rfl
def noVar (d:Option Nat) (s:Slots):Bool:=match d with
 | some d=>!varK (sget s d)
 | none=>true
@[simp] theorem noVar_s (d:Nat) (s:Slots):noVar (some d) s = !varK (sget s d):=rfl
@[simp] theorem noVar_n (s:Slots):noVar none s=true:=rfl
theorem za2 (s:Slots) (t:Nat):isVar s t=varK (sget s t):=by
 unfold isVar;cases sget s t with
 | none=>rfl
 | some x=>cases x <;> rfl
theorem noVar_eq (d:Option Nat) (s:Slots):(d.all fun d=>!isVar s d)=noVar d s:=by
 cases d with
 | none=>rfl
 | some d=>rw [Option.all_some,za2]; rfl
def opK (call:CallSem) (d:Option Nat) (op:AOp) (s:Slots) (h:Heap) [k:Ct2 Slots Heap β]:Option β :=
 andThen (c7 call (d.getD 0) op s h) (f:=⟨fun p=>k.default (a9 d p.1 p.2.1) p.2.2⟩)
section
variable {call:CallSem} {d:Option Nat} {s:Slots} {h:Heap} {k:Slots→Heap→Option β}
theorem g8 (x:Option AVal) (f:Slot × Slots × Heap→Option β):andThen (ok1 s h x) (f:=⟨f⟩)=andThen x (f:=⟨fun v=>f (.val v,s,h)⟩):=by cases x <;> rfl
theorem jc (x:Option α) {γ:Type} (g:α→γ) (f:γ→Option β):andThen (x.map g) (f:=⟨f⟩)=andThen x (f:=⟨fun v=>f (g v)⟩):=by cases x <;> rfl
@[simp] theorem opK_val (x:Opd):opK call d (.val x) s h (k:=⟨k⟩)=andThen (x.ev s) (f:=⟨fun v=>k (a9 d (.val v) s) h⟩):=by simp only [opK,c7,g8]
@[simp] theorem opK_pick (c a b:Opd):opK call d (.pick c a b) s h (k:=⟨k⟩)=condK (c.ev s) (f:=⟨fun _=>andThen (a.ev s) (f:=⟨fun v=>k (a9 d (.val v) s) h⟩)⟩) (g:=⟨fun _=>andThen (b.ev s) (f:=⟨fun v=>k (a9 d (.val v) s) h⟩)⟩):=by
 simp only [opK,c7,condK];cases c.ev s with
 | none=>rfl
 | some v =>
  cases v <;> try rfl
  rename_i x; cases x <;> simp only [g8]
@[simp] theorem opK_alloc (e:Nat) (z:List AVal):opK call d (.alloc e z) s h (k:=⟨k⟩)=k (a9 d (.val (.ptr (some (h.size,0)))) s) (h.push (.cells e z)):=eq_of_heq HEq.rfl
@[simp] theorem opK_lalloc (z:List AVal):opK call d (.lalloc z) s h (k:=⟨k⟩)=k (a9 d (.var z) (qf (d.getD 0) s)) h:=eq_of_heq HEq.rfl
@[simp] theorem opK_box (x:Opd):opK call d (.box x) s h (k:=⟨k⟩)=andThen ((x.ev s).bind AVal.cells?) (f:=⟨fun cs=>k (a9 d (.val (.ptr (some (h.size,0)))) s) (h.push (.cells cs.length cs))⟩):=by simp only [opK,c7]; cases (x.ev s).bind AVal.cells? <;> rfl
@[simp] theorem opK_lbox (x:Opd):opK call d (.lbox x) s h (k:=⟨k⟩)=andThen ((x.ev s).bind AVal.cells?) (f:=⟨fun cs=>k (a9 d (.var cs) (qf (d.getD 0) s)) h⟩):=by simp only [opK,c7]; cases (x.ev s).bind AVal.cells? <;> rfl
@[simp] theorem opK_build (z:List AVal) (ps:List (Nat × Nat × Opd)):opK call d (.build z ps) s h (k:=⟨k⟩)=andThen (fill s z ps) (f:=⟨fun cs=>k (a9 d (.val (.agg cs)) s) h⟩):=by simp only [opK,c7,g8,jc]
@[simp] theorem opK_mkslice (e n:Nat) (z:List AVal) (ps:List (Nat × Nat × Opd)):opK call d (.mkslice e n z ps) s h (k:=⟨k⟩)=andThen (fill s z ps) (f:=⟨fun cs=>k (a9 d (.val (.slice (some (h.size,0)) n (some n))) s) (h.push (.cells e cs))⟩):=by simp only [opK,c7]; cases fill s z ps <;> rfl
@[simp] theorem opK_load (n:Option Nat) (a:Opd):opK call d (.load n a) s h (k:=⟨k⟩)=andThen (a.adr s) (f:=⟨fun a=>andThen (loadAt s h a n) (f:=⟨fun v=>k (a9 d (.val v) s) h⟩)⟩):=by simp only [opK,c7]; cases a.adr s <;> simp only [c6,gl,g8]
@[simp] theorem opK_store (n:Nat) (a x:Opd):opK call d (.store n a x) s h (k:=⟨k⟩)=andThen (a.adr s) (f:=⟨fun a=>andThen ((x.ev s).bind AVal.cells?) (f:=⟨fun xs=>mustK (xs.length=n) (f:=⟨fun _=>andThen (storeAt s h a xs) (f:=⟨fun p=>k (a9 d .undef p.1) p.2⟩)⟩)⟩)⟩):=by
 simp only [opK,c7];cases a.adr s with
 | none=>rfl
 | some a =>
  cases (x.ev s).bind AVal.cells? with
  | none=>rfl
  | some xs =>
   simp only [c6,mustK];split
   ·rw [jc]
   ·rfl
@[simp] theorem opK_bin (b:BinOp) (x y:Opd):opK call d (.bin b x y) s h (k:=⟨k⟩)=andThen (x.ev s) (f:=⟨fun u=>andThen (y.ev s) (f:=⟨fun v=>andThen (aBin b u v) (f:=⟨fun r=>k (a9 d (.val r) s) h⟩)⟩)⟩):=by simp only [opK,c7]; cases x.ev s <;> cases y.ev s <;> simp only [c6,gl,g8]
@[simp] theorem opK_un (o:UnOp) (x:Opd):opK call d (.un o x) s h (k:=⟨k⟩)=andThen (x.ev s) (f:=⟨fun u=>andThen (aUn o u) (f:=⟨fun r=>k (a9 d (.val r) s) h⟩)⟩):=by simp only [opK,c7]; cases x.ev s <;> simp only [c6,gl,g8]
@[simp] theorem opK_conv (c:ConvKind) (x:Opd):opK call d (.conv c x) s h (k:=⟨k⟩)=andThen (x.ev s) (f:=⟨fun v=>andThen (n8 c v s h) (f:=⟨fun p=>k (a9 d p.1 p.2.1) p.2.2⟩)⟩):=by simp only [opK,c7]; cases x.ev s <;> rfl
@[simp] theorem opK_mkfunc (g:Nat) (f c:List Opd):opK call d (.mkfunc g f c) s h (k:=⟨k⟩)=andThen (evs s f) (f:=⟨fun f=>andThen (evs s c) (f:=⟨fun c=>k (a9 d (.val (.func g f c)) s) h⟩)⟩):=by simp only [opK,c7]; cases evs s f <;> cases evs s c <;> rfl
@[simp] theorem opK_slice (c:SliceKind) (x:Opd) (lo hi e:Option Opd):opK call d (.slice c x lo hi e) s h (k:=⟨k⟩)=andThen (optEv s lo) (f:=⟨fun lo=>andThen (optEv s hi) (f:=⟨fun hi=>andThen (optEv s e) (f:=⟨fun e=>andThen (aSlice c s h x lo hi e) (f:=⟨fun v=>k (a9 d (.val v) s) h⟩)⟩)⟩)⟩):=by simp only [opK,c7]; cases optEv s lo <;> cases optEv s hi <;> cases optEv s e <;> simp only [c6,gl,g8]
@[simp] theorem opK_field (x:Opd) (o:Nat) (n:Option Nat):opK call d (.field x o n) s h (k:=⟨k⟩)=andThen (x.ev s) (f:=⟨fun v=>andThen (match v with | .agg cs=>part cs o n | _=>none) (f:=⟨fun v=>k (a9 d (.val v) s) h⟩)⟩):=by
 simp only [opK,c7];cases x.ev s with
 | none=>rfl
 | some v=>cases v <;> simp only [c6,gl,g8]
@[simp] theorem opK_iaddr (e:Nat) (x i:Opd):opK call d (.iaddr e x i) s h (k:=⟨k⟩)=andThen (x.ev s) (f:=⟨fun u=>andThen (i.ev s) (f:=⟨fun i=>andThen (match u with | .slice (some (b,o)) n _=>(inBounds n i).map fun j=>AVal.ptr (some (b,o+j*e)) | _=>none) (f:=⟨fun v=>k (a9 d (.val v) s) h⟩)⟩)⟩):=by
 simp only [opK,c7];cases x.ev s with
 | none=>rfl
 | some v =>
  cases i.ev s with
  | none=>(cases v <;> (try rfl)); rename_i a _ _; cases a <;> rfl
  | some i =>
   cases v <;> try rfl
   rename_i a _ _;cases a <;> simp only [c6,gl,g8,jc]
@[simp] theorem opK_index (x i:Opd):opK call d (.index x i) s h (k:=⟨k⟩)=andThen (x.ev s) (f:=⟨fun u=>andThen (i.ev s) (f:=⟨fun i=>andThen (match u with | .str t=>(inBounds t.length i).bind fun j=>(t[j]?).map fun b=>AVal.int .u8 b.toNat | _=>none) (f:=⟨fun v=>k (a9 d (.val v) s) h⟩)⟩)⟩):=by
 simp only [opK,c7];cases x.ev s with
 | none=>rfl
 | some v =>
  cases i.ev s with
  | none=>cases v <;> rfl
  | some i=>cases v <;> simp only [c6,gl,g8]
@[simp] theorem opK_extract (x:Opd) (i:Nat):opK call d (.extract x i) s h (k:=⟨k⟩)=andThen (x.ev s) (f:=⟨fun u=>andThen (match u with | .tuple vs=>vs[i]? | _=>none) (f:=⟨fun v=>k (a9 d (.val v) s) h⟩)⟩):=by
 simp only [opK,c7];cases x.ev s with
 | none=>rfl
 | some v=>cases v <;> simp only [c6,gl,g8]
@[simp] theorem opK_callg (g:Nat) (aZ:List Opd):opK call d (.callg g aZ) s h (k:=⟨k⟩)=andThen (evs s aZ) (f:=⟨fun aZ=>andThen (call g aZ h) (f:=⟨fun p=>k (a9 d (.val p.1) s) p.2⟩)⟩):=by simp only [opK,c7]; cases evs s aZ <;> simp only [c6,gl,jc]
@[simp] theorem opK_call (f:Opd) (aZ:List Opd):opK call d (.call f aZ) s h (k:=⟨k⟩)=andThen (f.ev s) (f:=⟨fun f=>andThen (evs s aZ) (f:=⟨fun aZ=>andThen (match f with
   | .func g first caps=>call g (first++aZ++caps) h
   | .yield i=>match h.get i with
    | some (.loop g _ _ _)=>call g (.ptr (some (i,0)) :: aZ) h
    | _=>none
   | _=>none) (f:=⟨fun p=>k (a9 d (.val p.1) s) p.2⟩)⟩)⟩):=by
 simp only [opK,c7];cases f.ev s with
 | none=>rfl
 | some f =>
  cases evs s aZ with
  | none=>cases f <;> rfl
  | some aZ =>
   cases f <;> simp only [c6,jc] <;> try rfl
   rename_i i;cases h.get i with
   | none=>rfl
   | some o=>cases o <;> simp only [gl,jc]
@[simp] theorem opK_len (c:LenKind) (x:Opd):opK call d (.len c x) s h (k:=⟨k⟩)=andThen (x.ev s) (f:=⟨fun v=>andThen (evLen c v h) (f:=⟨fun v=>k (a9 d (.val v) s) h⟩)⟩):=by simp only [opK,c7]; cases x.ev s <;> simp only [c6,gl,g8]
@[simp] theorem opK_append (e b:Nat) (x y:Opd):opK call d (.append e b x y) s h (k:=⟨k⟩)=andThen (x.ev s) (f:=⟨fun x=>andThen (y.ev s) (f:=⟨fun y=>andThen (d7 e b h x y) (f:=⟨fun p=>k (a9 d (.val p.1) s) p.2⟩)⟩)⟩):=by simp only [opK,c7]; cases x.ev s <;> cases y.ev s <;> simp only [c6,gl,jc]
@[simp] theorem opK_minmax (m:Bool) (xs:List Opd):opK call d (.minmax m xs) s h (k:=⟨k⟩)=andThen (evs s xs) (f:=⟨fun vs=>andThen (match vs with | x :: r=>aMins m x r | []=>none) (f:=⟨fun v=>k (a9 d (.val v) s) h⟩)⟩):=by
 simp only [opK,c7];cases evs s xs with
 | none=>rfl
 | some vs=>cases vs <;> simp only [c6,gl,g8]
@[simp] theorem opK_eqnil (c:NilKind) (e:Bool) (x y:Opd):opK call d (.eqnil c e x y) s h (k:=⟨k⟩)=andThen (x.ev s) (f:=⟨fun x=>andThen (y.ev s) (f:=⟨fun y=>andThen (aEqNil c x y) (f:=⟨fun b=>k (a9 d (.val (.bool (if e then !b else b))) s) h⟩)⟩)⟩):=by simp only [opK,c7]; cases x.ev s <;> cases y.ev s <;> simp only [c6,gl,g8,jc]
@[simp] theorem opK_ext (e:ExtOp) (xs:List Opd):opK call d (.ext e xs) s h (k:=⟨k⟩)=andThen (evs s xs) (f:=⟨fun vs=>andThen (ct e vs h) (f:=⟨fun p=>k (a9 d (.val p.1) s) p.2⟩)⟩):=by simp only [opK,c7]; cases evs s xs <;> simp only [c6,gl,jc]
@[simp] theorem opK_make (e b:Nat) (z:List AVal) (l c:Opd):opK call d (.make e b z l c) s h (k:=⟨k⟩)=andThen (l.ev s) (f:=⟨fun l=>andThen (c.ev s) (f:=⟨fun c=>andThen (match l,c with | .int kl n,.int kc m=>if 0≤n∧n≤m∧m*b≤140737488355328∧m≤9223372036854775807∧kl = .i64∧kc = .i64 then some (n,m) else none | _,_=>none) (f:=⟨fun p=>k (a9 d (.val (.slice (some (h.size,0)) p.1.toNat (some p.2.toNat))) s) (h.push (.cells e (rep p.2.toNat z)))⟩)⟩)⟩):=by
 simp only [opK,c7];cases l.ev s with
 | none=>rfl
 | some l =>
  cases c.ev s with
  | none=>cases l <;> rfl
  | some c =>
   cases l <;> cases c <;> try rfl
   simp only [c6];split <;> rfl
@[simp] theorem opK_faddr (x:Opd) (o:Nat):opK call d (.faddr x o) s h (k:=⟨k⟩)=andThen (x.adr s) (f:=⟨fun a=>match a with
  | .glob i p=>k (a9 d (.val (.ptr (some (i,p+o)))) s) h
  | .loc t p=>mustK (varK (sget s t)=true) (f:=⟨fun _=>k (a9 d (.loc t (p+o)) s) h⟩)⟩):=by
 simp only [opK,c7];cases x.adr s with
 | none=>rfl
 | some a =>
  cases a with
  | glob i p=>rfl
  | loc t p=>simp only [c6,mustK,za2]; split <;> rfl
@[simp] theorem opK_aaddr (n e:Nat) (x i:Opd):opK call d (.aaddr n e x i) s h (k:=⟨k⟩)=andThen (x.adr s) (f:=⟨fun a=>andThen (i.ev s) (f:=⟨fun i=>andThen (inBounds n i) (f:=⟨fun j=>match a with
  | .glob b o=>k (a9 d (.val (.ptr (some (b,o+j*e)))) s) h
  | .loc t o=>mustK (varK (sget s t)=true) (f:=⟨fun _=>k (a9 d (.loc t (o+j*e)) s) h⟩)⟩)⟩)⟩):=by
 simp only [opK,c7];cases x.adr s with
 | none=>rfl
 | some a =>
  cases i.ev s with
  | none=>cases a <;> rfl
  | some i =>
   cases a with
   | glob b o=>simp only [c6,g8,jc]
   | loc t o =>
    simp only [c6];rw [za2]; cases p:varK (sget s t) <;> cases inBounds n i <;> first | rfl | simp [mustK,p]
@[simp] theorem opK_nilcheck (x:Opd):opK call d (.nilcheck x) s h (k:=⟨k⟩)=andThen (match x.ev s with
   | some (.ptr (some a))=>some (Slot.val (.ptr (some a)))
   | _=>match x.adr s with
    | some (.loc t o)=>if isVar s t then some (.loc t o) else none
    | _=>none) (f:=⟨fun v=>k (a9 d v s) h⟩):=by
 simp only [opK,c7]
 have key:∀ y:Option AAddr,andThen (match y with | some (.loc t o)=>if varK (sget s t)=true then some (Slot.loc t o,s,h) else none | _=>none) (f:=⟨fun p=>k (a9 d p.1 p.2.1) p.2.2⟩) =
   andThen (match y with | some (.loc t o)=>if varK (sget s t)=true then some (Slot.loc t o) else none | _=>none) (f:=⟨fun v=>k (a9 d v s) h⟩):=by
  intro y;cases y with
  | none=>rfl
  | some a =>
   cases a with
   | glob _ _=>rfl
   | loc t o=>simp only; split <;> rfl
 cases x.ev s with
 | none=>exact key _
 | some v =>
  cases v with
  | ptr a =>
   cases a with
   | none=>exact key _
   | some a=>rfl
  | _=>exact key _
end
def guardV (x:Option Slot) (want:Bool) [f:Ct Unit β] [g:Ct Unit β]:Option β:=match x with
 | some (.val (.bool b))=>if b=want then f.default () else g.default ()
 | some .undef=>g.default ()
 | _=>none
@[simp] theorem guardV_tt (f g:Unit→Option β):guardV (some (.val (.bool true))) true (f:=⟨f⟩) (g:=⟨g⟩)=f ():=eq_of_heq HEq.rfl
@[simp] theorem guardV_tf (f g:Unit→Option β):guardV (some (.val (.bool true))) false (f:=⟨f⟩) (g:=⟨g⟩)=g ():=eq_of_heq HEq.rfl
@[simp] theorem guardV_ft (f g:Unit→Option β):guardV (some (.val (.bool false))) true (f:=⟨f⟩) (g:=⟨g⟩)=g ():=eq_of_heq HEq.rfl
@[simp] theorem guardV_ff (f g:Unit→Option β):guardV (some (.val (.bool false))) false (f:=⟨f⟩) (g:=⟨g⟩)=f ():=eq_of_heq HEq.rfl
@[simp] theorem guardV_u (w:Bool) (f g:Unit→Option β):guardV (some .undef) w (f:=⟨f⟩) (g:=⟨g⟩)=g ():=eq_of_heq HEq.rfl
def opsK (call:CallSem) (l:List AOper) (s:Slots) (h:Heap) [k:Ct2 Slots Heap β]:Option β:=andThen (evOps call l s h) (f:=⟨fun p=>k.default p.1 p.2⟩)
section
variable {call:CallSem} {s:Slots} {h:Heap} {k:Slots→Heap→Option β}
@[simp] theorem opsK_nil:opsK call [] s h (k:=⟨k⟩)=k s h:=eq_of_heq HEq.rfl
@[simp] theorem opsK_cons (d:Option Nat) (op:AOp) (r:List AOper):opsK call (⟨d,none,op⟩ :: r) s h (k:=⟨k⟩)=opK call d op s h (k:=⟨fun s h=>opsK call r s h (k:=⟨k⟩)⟩):=by simp only [opsK,opK,evOps,dy,evRun];cases c7 call (d.getD 0) op s h <;> rfl
@[simp] theorem opsK_cons' (d:Option Nat) (t:Nat) (j:Bool) (op:AOp) (r:List AOper):opsK call (⟨d,some (t,j),op⟩ :: r) s h (k:=⟨k⟩) =
  guardV (sget s t) j (f:=⟨fun _=>opK call d op s h (k:=⟨fun s h=>opsK call r s h (k:=⟨k⟩)⟩)⟩) (g:=⟨fun _=>opsK call r (a9 d .undef s) h (k:=⟨k⟩)⟩):=by
 simp only [opsK,opK,evOps,dy,evRun,guardV];cases sget s t with
 | none=>rfl
 | some x =>
  cases x <;> try rfl
  rename_i v;cases v <;> try rfl
  rename_i b;by_cases e:b=j
  ·simp only [if_pos e];cases c7 call (d.getD 0) op s h <;> rfl
  ·simp only [if_neg e]
end
def quietK (call:CallSem) (l:List AOper) (s:Slots) (h:Heap) [k:Ct2 Slots Heap β]:Option β:=andThen (evQuiet call l s h) (f:=⟨fun p=>k.default p.1 p.2⟩)
section
variable {call:CallSem} {s:Slots} {h:Heap} {k:Slots→Heap→Option β}
@[simp] theorem quietK_nil:quietK call [] s h (k:=⟨k⟩)=k s h:=eq_of_heq HEq.rfl
@[simp] theorem quietK_cons (d:Option Nat) (g:Option (Nat × Bool)) (op:AOp) (r:List AOper):quietK call (⟨d,g,op⟩ :: r) s h (k:=⟨k⟩) =
  opsK call [⟨d,g,op⟩] s { h with wmin:=h.size } (k:=⟨fun e h'=>mustK (h'.size=h.size∧h'.wmin=h.size∧noVar d s=true) (f:=⟨fun _=>quietK call r e h (k:=⟨k⟩)⟩)⟩):=by
 simp only [quietK,opsK,evQuiet,evOps,noVar_eq];cases dy call ⟨d,g,op⟩ s { h with wmin:=h.size } with
 | none=>rfl
 | some p =>
  simp only [c6,mustK];split <;> rfl
end
def newOp:AOp→Bool
 | .lalloc _=>true
 | _=>false
@[simp] theorem newOp_val (x:Opd):newOp (.val x)=false:=rfl
@[simp] theorem newOp_pick (c a b:Opd):newOp (.pick c a b)=false:=rfl
@[simp] theorem newOp_alloc (esz:Nat) (zero:List AVal):newOp (.alloc esz zero)=false:=rfl
@[simp] theorem newOp_lalloc (zero:List AVal):newOp (.lalloc zero)=true:=rfl
@[simp] theorem newOp_box (x:Opd):newOp (.box x)=false:=rfl
@[simp] theorem newOp_lbox (x:Opd):newOp (.lbox x)=false:=rfl
@[simp] theorem newOp_build (zero:List AVal) (e:List (Nat × Nat × Opd)):newOp (.build zero e)=false:=rfl
@[simp] theorem newOp_mkslice (esz len:Nat) (zero:List AVal) (e:List (Nat × Nat × Opd)):newOp (.mkslice esz len zero e)=false:=rfl
@[simp] theorem newOp_load (n:Option Nat) (a:Opd):newOp (.load n a)=false:=rfl
@[simp] theorem newOp_store (n:Nat) (a x:Opd):newOp (.store n a x)=false:=rfl
@[simp] theorem newOp_bin (op:BinOp) (x y:Opd):newOp (.bin op x y)=false:=rfl
@[simp] theorem newOp_un (op:UnOp) (x:Opd):newOp (.un op x)=false:=rfl
@[simp] theorem newOp_conv (k:ConvKind) (x:Opd):newOp (.conv k x)=false:=rfl
@[simp] theorem newOp_mkfunc (g:Nat) (first caps:List Opd):newOp (.mkfunc g first caps)=false:=rfl
@[simp] theorem newOp_make (esz bytes:Nat) (zero:List AVal) (len cap:Opd):newOp (.make esz bytes zero len cap)=false:=rfl
@[simp] theorem newOp_slice (k:SliceKind) (x:Opd) (lo hi e:Option Opd):newOp (.slice k x lo hi e)=false:=rfl
@[simp] theorem newOp_faddr (x:Opd) (off:Nat):newOp (.faddr x off)=false:=rfl
@[simp] theorem newOp_field (x:Opd) (off:Nat) (n:Option Nat):newOp (.field x off n)=false:=rfl
@[simp] theorem newOp_iaddr (esz:Nat) (x i:Opd):newOp (.iaddr esz x i)=false:=rfl
@[simp] theorem newOp_aaddr (len esz:Nat) (x i:Opd):newOp (.aaddr len esz x i)=false:=rfl
@[simp] theorem newOp_index (x i:Opd):newOp (.index x i)=false:=rfl
@[simp] theorem newOp_aindex (len esz:Nat) (n:Option Nat) (x i:Opd):newOp (.aindex len esz n x i)=false:=rfl
@[simp] theorem newOp_extract (x:Opd) (i:Nat):newOp (.extract x i)=false:=rfl
@[simp] theorem newOp_call (f:Opd) (args:List Opd):newOp (.call f args)=false:=rfl
@[simp] theorem newOp_callg (g:Nat) (args:List Opd):newOp (.callg g args)=false:=rfl
@[simp] theorem newOp_len (k:LenKind) (x:Opd):newOp (.len k x)=false:=rfl
@[simp] theorem newOp_append (esz bytes:Nat) (x y:Opd):newOp (.append esz bytes x y)=false:=rfl
@[simp] theorem newOp_copy (esz:Nat) (d s:Opd):newOp (.copy esz d s)=false:=rfl
@[simp] theorem newOp_minmax (e:Bool) (xs:List Opd):newOp (.minmax e xs)=false:=rfl
@[simp] theorem newOp_nilcheck (x:Opd):newOp (.nilcheck x)=false:=rfl
@[simp] theorem newOp_eqnil (k:NilKind) (e:Bool) (x y:Opd):newOp (.eqnil k e x y)=false:=rfl
@[simp] theorem newOp_beq (e:Bool) (x y:Opd):newOp (.beq e x y)=false:=rfl
@[simp] theorem newOp_ext (k:ExtOp) (xs:List Opd):newOp (.ext k xs)=false:=rfl
@[simp] theorem newOp_nextStr (x:Opd):newOp (.nextStr x)=false:=rfl
def hasNew:List AOper→Bool
 | []=>false
 | o :: r=>(newOp o.op && o.dst.isSome) || hasNew r
@[simp] theorem hasNew_nil:hasNew []=false:=rfl
@[simp] theorem hasNew_cons (d:Option Nat) (g:Option (Nat × Bool)) (op:AOp) (r:List AOper):hasNew (⟨d,g,op⟩ :: r)=((newOp op && d.isSome) || hasNew r):=rfl
theorem xz:∀ l:List AOper,(newVars l=[]) ↔ hasNew l=false
 | []=>by simp [newVars]
 | ⟨d,g,op⟩ :: r=>by
  have e:=xz r;unfold newVars at e ⊢;rw [hasNew_cons,List.filterMap_cons];cases op with
  | lalloc z =>
   cases d with
   | none=>simpa [AOper.news] using e
   | some d=>simp [AOper.news]
  | _=>simpa [AOper.news] using e
@[simp] theorem newVars_nil:newVars []=[]:=rfl
@[simp] theorem newVars_n (g:Option (Nat × Bool)) (op:AOp) (r:List AOper):newVars (⟨none,g,op⟩ :: r)=newVars r:=by unfold newVars;rw [List.filterMap_cons];cases op <;> rfl
@[simp] theorem newVars_s (d:Nat) (g:Option (Nat × Bool)) (op:AOp) (r:List AOper):newVars (⟨some d,g,op⟩ :: r)=if newOp op=true then d :: newVars r else newVars r:=by unfold newVars;rw [List.filterMap_cons];cases op <;> rfl
def looksK (V:List Nat):Option Slot→Nat→Bool
 | some (.loc u _),t=>V.contains t || V.contains u
 | _,t=>V.contains t
@[simp] theorem looksK_v (V:List Nat) (v:AVal) (t:Nat):looksK V (some (.val v)) t=V.contains t:=rfl
@[simp] theorem looksK_x (V:List Nat) (v:List AVal) (t:Nat):looksK V (some (.var v)) t=V.contains t:=rfl
@[simp] theorem looksK_u (V:List Nat) (t:Nat):looksK V (some .undef) t=V.contains t:=rfl
@[simp] theorem looksK_l (V:List Nat) (a b t:Nat):looksK V (some (.loc a b)) t=(V.contains t || V.contains a):=rfl
def allLooks (V:List Nat) (s:Slots):List Nat→Bool
 | []=>true
 | t :: r=>!looksK V (sget s t) t && allLooks V s r
@[simp] theorem allLooks_nil (V:List Nat) (s:Slots):allLooks V s []=true:=rfl
@[simp] theorem allLooks_cons (V:List Nat) (s:Slots) (t:Nat) (r:List Nat):allLooks V s (t :: r)=(!looksK V (sget s t) t && allLooks V s r):=rfl
def okK (V:List Nat) (d:Option Nat) (g:Option (Nat × Bool)) (op:AOp) (s:Slots):Bool:=quietOk V ⟨d,g,op⟩ s
attribute [simp] noLocs
def quietVK (call:CallSem) (V:List Nat) (l:List AOper) (s:Slots) (h:Heap) [k:Ct2 Slots Heap β]:Option β:=andThen (evQuietV call V l s h) (f:=⟨fun p=>k.default p.1 p.2⟩)
section
variable {call:CallSem} {s:Slots} {h:Heap} {V:List Nat} {k:Slots→Heap→Option β}
@[simp] theorem quietVK_nil:quietVK call V [] s h (k:=⟨k⟩)=k s h:=eq_of_heq HEq.rfl
@[simp] theorem quietVK_cons (d:Option Nat) (g:Option (Nat × Bool)) (op:AOp) (r:List AOper):quietVK call V (⟨d,g,op⟩ :: r) s h (k:=⟨k⟩) =
  opsK call [⟨d,g,op⟩] s { h with wmin:=h.size } (k:=⟨fun j h'=>mustK (h'.size=h.size∧h'.wmin=h.size∧okK V d g op s=true) (f:=⟨fun _=>quietVK call V r j h (k:=⟨k⟩)⟩)⟩):=by
 simp only [quietVK,opsK,evQuietV,evOps];cases dy call ⟨d,g,op⟩ s { h with wmin:=h.size } with
 | none=>rfl
 | some p =>
  simp only [c6];unfold mustK okK;by_cases e:p.2.size=h.size∧p.2.wmin=h.size∧quietOk V ⟨d,g,op⟩ s=true
  ·rw [if_pos e,if_pos e]; rfl
  ·rw [if_neg e,if_neg e]; rfl
end
def segsK (call:CallSem) (l:List Seg) (s:Slots) (h:Heap) [k:Ct2 Slots Heap β]:Option β:=andThen (jh call l s h) (f:=⟨fun p=>k.default p.1 p.2⟩)
def openK (call:CallSem) (n0:Nat) (ms:List Nat) (l:List AOper) (ds:List Did) (s:Slots) (h:Heap) [k:Ct2 Slots Heap β]:Option β:=andThen (ik call n0 ms l ds s h) (f:=⟨fun p=>k.default p.1 p.2⟩)
section
variable {call:CallSem} {s:Slots} {h:Heap} {k:Slots→Heap→Option β}
@[simp] theorem segsK_nil:segsK call [] s h (k:=⟨k⟩)=k s h:=eq_of_heq HEq.rfl
@[simp] theorem segsK_f (m:List Nat) (l:List AOper) (r:List Seg):segsK call (⟨false,m,l⟩ :: r) s h (k:=⟨k⟩)=opsK call l s h (k:=⟨fun s h=>segsK call r s h (k:=⟨k⟩)⟩):=by simp only [segsK,opsK,jh,cg,if_false];cases evOps call l s h <;> rfl
theorem segsK_t (l:List AOper) (r:List Seg) (e:hasNew l=false):segsK call (⟨true,[],l⟩ :: r) s h (k:=⟨k⟩)=quietK call l s h (k:=⟨fun s h=>segsK call r s h (k:=⟨k⟩)⟩):=by simp only [segsK,quietK,jh,if_true,evQ];rw [if_pos ((xz l).2 e)];cases evQuiet call l s h <;> rfl
theorem segsK_v (l:List AOper) (r:List Seg) (q:hasNew l=true):segsK call (⟨true,[],l⟩ :: r) s h (k:=⟨k⟩)=mustK (noLocs (newVars l) s=true) (f:=⟨fun _=>quietVK call (newVars l) l s h (k:=⟨fun s h=>segsK call r s h (k:=⟨k⟩)⟩)⟩):=by
 simp only [segsK,quietVK,jh,if_true,evQ];rw [if_neg (fun e=>by rw [(xz l).1 e] at q; cases q)];unfold mustK;split
 ·rename_i j;split at j
  ·rename_i p;rw [if_pos p,j]; rfl
  ·cases j
 ·rename_i j;split at j
  ·rename_i p;rw [if_pos p,j]; rfl
  ·rename_i p; rw [if_neg p]; rfl
theorem segsK_o (m:Nat) (ms:List Nat) (l:List AOper) (r:List Seg):segsK call (⟨true,m :: ms,l⟩ :: r) s h (k:=⟨k⟩)=openK call h.size (m :: ms) l [] s h (k:=⟨fun s h=>segsK call r s h (k:=⟨k⟩)⟩):=by simp only [segsK,openK,jh,uq,if_true,reduceCtorEq,if_false];cases ik call h.size (m :: ms) l [] s h <;> rfl
@[simp] theorem openK_nil (n0:Nat) (ms:List Nat) (ds:List Did):openK call n0 ms [] ds s h (k:=⟨k⟩)=k s h:=by simp [openK,ik]
end
def iteK (p:Prop) [Decidable p] [f:Ct Unit β] [g:Ct Unit β]:Option β:=if p then f.default () else g.default ()
@[simp] theorem iteK_t [i:Decidable True] (f g:Unit→Option β):iteK True (f:=⟨f⟩) (g:=⟨g⟩)=f ():=by simp [iteK]
@[simp] theorem iteK_f [i:Decidable False] (f g:Unit→Option β):iteK False (f:=⟨f⟩) (g:=⟨g⟩)=g ():=by simp [iteK]
@[simp] theorem segsK_q (call:CallSem) (l:List AOper) (r:List Seg) (s:Slots) (h:Heap) (k:Slots→Heap→Option β):segsK call (⟨true,[],l⟩ :: r) s h (k:=⟨k⟩)=iteK (hasNew l=true)
  (f:=⟨fun _=>mustK (noLocs (newVars l) s=true) (f:=⟨fun _=>quietVK call (newVars l) l s h (k:=⟨fun s h=>segsK call r s h (k:=⟨k⟩)⟩)⟩)⟩)
  (g:=⟨fun _=>quietK call l s h (k:=⟨fun s h=>segsK call r s h (k:=⟨k⟩)⟩)⟩):=by
 unfold iteK;split
 ·rename_i e; exact segsK_v l r e
 ·rename_i e; exact segsK_t l r (by simpa using e)
abbrev Ct3 (β:Type):=Inhabited (Slot→Heap→Did→Option β)
def endK (n0 m:Nat) (ds:List Did) (rd:List Nat) (ld:Option (Nat × Nat × Option Nat × AVal)) (y:Slot) (h h':Heap) [k:Ct3 β]:Option β :=
 if h'.size=h.size then
  if h'.wmin < h.size then
   match h'.objs[h'.wmin]? with
   | some ob=>if (y.ids++ob.ids).all (okId n0 m ds)=true then k.default y ⟨h'.objs,h.base,min h.wmin h'.wmin⟩ ⟨false,rd,some h'.wmin,none,h.size,h.size,ld⟩ else none
   | none=>none
  else if h'.wmin=h.size∧y.ids.all (okId n0 m ds)=true then k.default y h ⟨false,rd,none,none,h.size,h.size,ld⟩ else none
 else if h'.size=h.size+1 then
  match h'.objs[h.size]? with
  | some ob =>
   if ob.ids.all (okId n0 m ds) then
    if h'.wmin=h.size then k.default y ⟨h'.objs,h.base,h.wmin⟩ ⟨false,rd,none,none,h.size,h.size+1,ld⟩
    else k.default y ⟨h'.objs,h.base,min h.wmin h'.wmin⟩ ⟨false,rd,some h'.wmin,none,h.size,h.size+1,ld⟩
   else none
  | none=>none
 else none
def endC (n0 m:Nat) (ds:List Did) (y:Slot) (h h':Heap) [k:Ct3 β]:Option β :=
 if h'.wmin < h.size then
  if allSeen m 0 ds then k.default y ⟨h'.objs,h.base,min h.wmin h'.wmin⟩ ⟨true,[],none,some (h'.wmin,h.objs,h'.objs),h.size,h'.size,none⟩ else none
 else if allSeen m 0 ds then k.default y ⟨h'.objs,h.base,h.wmin⟩ ⟨true,[],none,none,h.size,h'.size,none⟩
 else if (y.ids++(h'.objs.drop h.size).flatMap AObj.ids).all (fun i=>okId n0 m ds i || decide (h.size≤i)) then
  k.default y ⟨h.objs++h'.objs.drop h.size,h.base,h.wmin⟩ ⟨true,[],none,none,h.size,h'.size,none⟩
 else none
section
variable {n0 m:Nat} {ds:List Did} {rd:List Nat} {ld:Option (Nat × Nat × Option Nat × AVal)} {y:Slot} {h h':Heap} {k:Slot→Heap→Did→Option β}
@[simp] theorem endK_eq:endK n0 m ds rd ld y h h' (k:=⟨k⟩)=iteK (h'.size=h.size)
  (f:=⟨fun _=>iteK (h'.wmin < h.size)
   (f:=⟨fun _=>andThen (h'.objs[h'.wmin]?) (f:=⟨fun ob=>mustK ((y.ids++ob.ids).all (okId n0 m ds)=true) (f:=⟨fun _=>k y ⟨h'.objs,h.base,min h.wmin h'.wmin⟩ ⟨false,rd,some h'.wmin,none,h.size,h.size,ld⟩⟩)⟩)⟩)
   (g:=⟨fun _=>mustK (h'.wmin=h.size∧y.ids.all (okId n0 m ds)=true) (f:=⟨fun _=>k y h ⟨false,rd,none,none,h.size,h.size,ld⟩⟩)⟩)⟩)
  (g:=⟨fun _=>mustK (h'.size=h.size+1) (f:=⟨fun _=>andThen (h'.objs[h.size]?) (f:=⟨fun ob=>mustK (ob.ids.all (okId n0 m ds)=true) (f:=⟨fun _=>iteK (h'.wmin=h.size)
   (f:=⟨fun _=>k y ⟨h'.objs,h.base,h.wmin⟩ ⟨false,rd,none,none,h.size,h.size+1,ld⟩⟩)
   (g:=⟨fun _=>k y ⟨h'.objs,h.base,min h.wmin h'.wmin⟩ ⟨false,rd,some h'.wmin,none,h.size,h.size+1,ld⟩⟩)⟩)⟩)⟩)⟩):=by
 unfold endK iteK mustK;split
 ·show _=if _ then _ else _
  split
  ·cases h'.objs[h'.wmin]? with
   | none=>rfl
   | some ob=>rfl
  ·rfl
 ·show _=if _ then _ else _
  split
  ·cases h'.objs[h.size]? with
   | none=>rfl
   | some ob =>
    show (if ob.ids.all (okId n0 m ds)=true then _ else none)=if ob.ids.all (okId n0 m ds)=true then _ else none
    split <;> rfl
  ·rfl
@[simp] theorem endC_eq:endC n0 m ds y h h' (k:=⟨k⟩)=iteK (h'.wmin < h.size)
  (f:=⟨fun _=>mustK (allSeen m 0 ds=true) (f:=⟨fun _=>k y ⟨h'.objs,h.base,min h.wmin h'.wmin⟩ ⟨true,[],none,some (h'.wmin,h.objs,h'.objs),h.size,h'.size,none⟩⟩)⟩)
  (g:=⟨fun _=>iteK (allSeen m 0 ds=true) (f:=⟨fun _=>k y ⟨h'.objs,h.base,h.wmin⟩ ⟨true,[],none,none,h.size,h'.size,none⟩⟩)
   (g:=⟨fun _=>mustK ((y.ids++(h'.objs.drop h.size).flatMap AObj.ids).all (fun i=>okId n0 m ds i || decide (h.size≤i))=true) (f:=⟨fun _ =>
    k y ⟨h.objs++h'.objs.drop h.size,h.base,h.wmin⟩ ⟨true,[],none,none,h.size,h'.size,none⟩⟩)⟩)⟩):=by
 unfold endC iteK mustK;split <;> rfl
end
section
variable {call:CallSem} {s:Slots} {h:Heap} {k:Slots→Heap→Option β}
@[simp] theorem openK_cons (n0:Nat) (ms:List Nat) (o:AOper) (r:List AOper) (ds:List Did):openK call n0 ms (o :: r) ds s h (k:=⟨k⟩) =
  mustK ((o.reads.flatMap (slotIds s)++ew o.op s).all (okId n0 (ms.headD 0) ds)=true) (f:=⟨fun _=>iteK (o.op.isCall=true)
   (f:=⟨fun _=>opsK call [o] s ⟨hide (ms.headD 0) 0 ds h.objs,h.base,h.size⟩ (k:=⟨fun e h'=>endC n0 (ms.headD 0) ds (gn o.dst e) h h' (k:=⟨fun y h2 d =>
    mustK (noVar o.dst s=true∧je h2 (ms.headD 0) d 0 ds=true) (f:=⟨fun _=>openK call n0 ms.tail r (ds++[d]) (a9 o.dst y s) h2 (k:=⟨k⟩)⟩)⟩)⟩)⟩)
   (g:=⟨fun _=>opsK noCall [o] s ⟨h.objs,h.base,h.size⟩ (k:=⟨fun e h'=>endK n0 (ms.headD 0) ds (ew o.op s) (ldOf o s (gn o.dst e)) (gn o.dst e) h h' (k:=⟨fun y h2 d =>
    mustK (noVar o.dst s=true∧je h2 (ms.headD 0) d 0 ds=true) (f:=⟨fun _=>openK call n0 ms.tail r (ds++[d]) (a9 o.dst y s) h2 (k:=⟨k⟩)⟩)⟩)⟩)⟩)⟩):=by
 have key:∀ (x:Option (Slot × Heap × Did)),andThen (match x with
   | some (y,h',d)=>if (o.dst.all fun d=>!isVar s d)=true∧je h' (ms.headD 0) d 0 ds=true then ik call n0 ms.tail r (ds++[d]) (a9 o.dst y s) h' else none
   | none=>none) (f:=⟨fun p=>k p.1 p.2⟩)=andThen x (f:=⟨fun p=>if noVar o.dst s=true∧je p.2.1 (ms.headD 0) p.2.2 0 ds=true then andThen (ik call n0 ms.tail r (ds++[p.2.2]) (a9 o.dst p.1 s) p.2.1) (f:=⟨fun p=>k p.1 p.2⟩) else none⟩):=by
  intro x;cases x with
  | none=>rfl
  | some x =>
   obtain ⟨y,h',d⟩:=x;simp only [c6,noVar_eq];split <;> rfl
 unfold openK ik;refine (key _).trans ?_;generalize q:(fun p:Slot × Heap × Did=>if noVar o.dst s=true∧je p.2.1 (ms.headD 0) p.2.2 0 ds=true then andThen (ik call n0 ms.tail r (ds++[p.2.2]) (a9 o.dst p.1 s) p.2.1) (f:=⟨fun p=>k p.1 p.2⟩) else none)=F;have j:∀ y h d,F (y,h,d)=if noVar o.dst s=true∧je h (ms.headD 0) d 0 ds=true then andThen (ik call n0 ms.tail r (ds++[d]) (a9 o.dst y s) h) (f:=⟨fun p=>k p.1 p.2⟩) else none:=fun y h d=>by rw [← q]
 unfold lj mustK iteK opsK;simp only [evOps];cases h1:(o.reads.flatMap (slotIds s)++ew o.op s).all (okId n0 (ms.headD 0) ds) with
 | false=>simp
 | true =>
  simp only [Bool.true_eq_false,if_false,if_true];split
  ·cases dy call o s ⟨hide (ms.headD 0) 0 ds h.objs,h.base,h.size⟩ with
   | none=>rfl
   | some p =>
    obtain ⟨e,h'⟩:=p;simp only [c6];unfold endC;simp only [← j];split
    ·split <;> rfl
    ·split
     ·rfl
     ·split <;> rfl
  ·cases dy noCall o s ⟨h.objs,h.base,h.size⟩ with
   | none=>rfl
   | some p =>
    obtain ⟨e,h'⟩:=p;simp only [c6];unfold endK;simp only [← j];split
    ·split
     ·cases h'.objs[h'.wmin]? with
      | none=>rfl
      | some ob =>
       simp only;split <;> rfl
     ·split <;> rfl
    ·split
     ·cases h'.objs[h.size]? with
      | none=>rfl
      | some ob =>
       simp only;split
       ·split <;> rfl
       ·rfl
     ·rfl
end
def openPK (call:CallSem) (n0:Nat) [k:Ct2 Slots Heap β] [f:Ct Unit β]:Bool→List AOper→Slots→Heap→Option β
 | _,[],s,h=>k.default s h
 | c,o :: r,s,h=>iteK ((o.reads.flatMap (slotIds s)++ew o.op s).all (fun i=>decide (i < n0))=true)
  (f:=⟨fun _=>iteK (o.op.isCall=true)
   (f:=⟨fun _=>iteK (c=true) (f:=f) (g:=⟨fun _=>opsK call [o] s ⟨h.objs,h.base,h.size⟩ (k:=⟨fun s' h' =>
    iteK (h'.size=h.size∧((gn o.dst s').ids.all fun i=>decide (i < n0))=true∧noVar o.dst s=true)
     (f:=⟨fun _=>openPK call n0 (k:=k) (f:=f) true r (a9 o.dst (gn o.dst s') s) ⟨h'.objs,h.base,if h'.wmin < h.size then min h.wmin h'.wmin else h.wmin⟩⟩) (g:=f)⟩)⟩)⟩)
   (g:=⟨fun _=>iteK (ew o.op s=[])
    (f:=⟨fun _=>opsK noCall [o] s ⟨h.objs,h.base,h.size⟩ (k:=⟨fun s' h' =>
     iteK (h'.size=h.size∧h'.wmin=h.size∧((gn o.dst s').ids.all fun i=>decide (i < n0))=true∧noVar o.dst s=true)
      (f:=⟨fun _=>openPK call n0 (k:=k) (f:=f) c r (a9 o.dst (gn o.dst s') s) h⟩) (g:=f)⟩)⟩) (g:=f)⟩)⟩) (g:=f)
def PlainD (c:Bool) (ds:List Did):Prop:=∀ d ∈ ds,d.rd=[]∧d.ch=none∧d.hi≤d.lo∧(c=false→d.isCall=false∧d.wr=none)
theorem za3 {c:Bool} {m:Nat} {os:List AObj}:∀ {ds:List Did} {y:Nat},PlainD c ds→hide m y ds os=os
 | [],_,_=>rfl
 | d :: ds,y,h=>by simp only [hide];rw [if_pos (by simp [(h d (a8 ..)).2.2.1])];exact za3 fun x hx=>h x (bd _ hx)
theorem za4 {c:Bool} {m:Nat}:∀ {ds:List Did} {y:Nat},PlainD c ds→allSeen m y ds=true
 | [],_,_=>rfl
 | d :: ds,y,h=>by simp only [allSeen];rw [za4 fun x hx=>h x (bd _ hx)];simp [(h d (a8 ..)).2.2.1]
theorem qn {j:Heap} {c:Bool} {m:Nat} {x:Did} (hx:x.rd=[]∧x.ch=none∧(c=true→x.isCall=false)):∀ {ds:List Did} {y:Nat},PlainD c ds→je j m x y ds=true
 | [],_,_=>rfl
 | d :: ds,y,h=>by
  simp only [je];rw [qn hx fun x hx=>h x (bd _ hx)];obtain ⟨h1,h2,_,p⟩:=h d (a8 ..);obtain ⟨q,B,C⟩:=hx
  have e:(x.isCall && d.isCall)=false:=by
   cases c with
   | true=>rw [C rfl]; rfl
   | false=>rw [(p rfl).1]; simp
  simp [clash,h1,h2,q,B,e]
theorem u0 {call:CallSem} {n0:Nat} {k:Slots→Heap→Option β} {F:Option β}:∀ (ops:List AOper) (c:Bool) (ms:List Nat) (ds:List Did) (s:Slots) (h:Heap),PlainD c ds→openK call n0 ms ops ds s h (k:=⟨k⟩)=F→openPK call n0 c ops s h (k:=⟨k⟩) (f:=⟨fun _=>F⟩)=F
 | [],c,ms,ds,s,h,hd,e=>by simp only [openPK];rw [← e];simp
 | o :: r,c,ms,ds,s,h,hd,e=>by
  have K:(o.reads.flatMap (slotIds s)++ew o.op s).all (fun i=>decide (i < n0))=true→(o.reads.flatMap (slotIds s)++ew o.op s).all (okId n0 (ms.headD 0) ds)=true:=fun j=>by rw [ap] at j ⊢;intro x hx;have:=j x hx;simp only [okId,c9];exact .inl this
  have D:∀ l:List Nat,(l.all fun i=>decide (i < n0))=true→l.all (okId n0 (ms.headD 0) ds)=true:=fun l j=>by rw [ap] at j ⊢;intro x hx;have:=j x hx;simp only [okId,c9];exact .inl this
  rw [openK_cons] at e;simp only [openPK];unfold iteK;split;case isFalse=>rfl
  rename_i h1;rw [show mustK _ (f:=_)=_ from if_pos (K h1)] at e;simp only at e ⊢;split
  ·rename_i hc;rw [show iteK _ (f:=_) (g:=_)=_ from if_pos hc] at e;split
   ·rfl
   ·rename_i C;have C:c=false:=by simpa using C
    subst C;rw [za3 hd] at e;unfold opsK at e ⊢;cases G:evOps call [o] s ⟨h.objs,h.base,h.size⟩ with
    | none=>rw [G] at e; simpa using e
    | some q =>
     obtain ⟨N,h'⟩:=q;rw [G] at e;simp only [c6] at e ⊢;split;case isFalse=>rfl
     rename_i j;obtain ⟨L,O,J⟩:=j;have p:=za4 (m:=ms.headD 0) (y:=0) hd;have B:∀ j wr,je j (ms.headD 0) ⟨true,[],none,wr,h.size,h'.size,none⟩ 0 ds=true:=fun j wr=>qn (c:=false) ⟨rfl,rfl,fun h=>by cases h⟩ hd
     have I:∀ wr,PlainD true (ds++[⟨true,[],none,wr,h.size,h'.size,none⟩]):=fun wr x hx=>by
      rcases bz.1 hx with hx | hx
      ·obtain ⟨a1,a2,a3,_⟩:=hd x hx;exact ⟨a1,a2,a3,fun h=>by cases h⟩
      ·simp only [bk] at hx;subst hx;exact ⟨rfl,rfl,Nat.le_of_eq L,fun h=>by cases h⟩
     by_cases hw:h'.wmin < h.size
     ·rw [if_pos hw];refine u0 r true ms.tail _ _ _ (I (some (h'.wmin,h.objs,h'.objs))) ?_;rw [← e];unfold endC;rw [if_pos hw,if_pos p];exact (if_pos (c:=noVar o.dst s=true∧je _ (ms.headD 0) ⟨true,[],none,some (h'.wmin,h.objs,h'.objs),h.size,h'.size,none⟩ 0 ds=true) ⟨J,B _ _⟩).symm
     ·rw [if_neg hw];refine u0 r true ms.tail _ _ _ (I none) ?_;rw [← e];unfold endC;rw [if_neg hw,if_pos p];exact (if_pos (c:=noVar o.dst s=true∧je _ (ms.headD 0) ⟨true,[],none,none,h.size,h'.size,none⟩ 0 ds=true) ⟨J,B _ _⟩).symm
  ·rename_i hc;rw [show iteK _ (f:=_) (g:=_)=_ from if_neg hc] at e;split;case isFalse=>rfl
   rename_i hr;unfold opsK at e ⊢;cases G:evOps noCall [o] s ⟨h.objs,h.base,h.size⟩ with
   | none=>rw [G] at e; simpa using e
   | some q =>
    obtain ⟨N,h'⟩:=q;rw [G] at e;simp only [c6] at e ⊢;split;case isFalse=>rfl
    rename_i j;obtain ⟨L,O,J,P⟩:=j;have B:∀ j ld,je j (ms.headD 0) ⟨false,[],none,none,h.size,h.size,ld⟩ 0 ds=true:=fun j ld=>qn (c:=c) ⟨rfl,rfl,fun _=>rfl⟩ hd
    refine u0 r c ms.tail (ds++[⟨false,[],none,none,h.size,h.size,ldOf o s (gn o.dst N)⟩]) _ _ (fun x hx=>?_) ?_
    ·rcases bz.1 hx with hx | hx
     ·exact hd x hx
     ·simp only [bk] at hx;subst hx;exact ⟨rfl,rfl,aj _,fun _=>⟨rfl,rfl⟩⟩
    ·rw [← e];unfold endK;rw [if_pos L,if_neg (by omega),if_pos ⟨O,D _ J⟩,hr];exact (if_pos (c:=noVar o.dst s=true∧je _ (ms.headD 0) ⟨false,[],none,none,h.size,h.size,_⟩ 0 ds=true) ⟨P,B _ _⟩).symm
section
variable {call:CallSem} {n0:Nat} {c:Bool} {s:Slots} {h:Heap} {k:Slots→Heap→Option β} {f:Unit→Option β}
@[simp] theorem openPK_cons (o:AOper) (r:List AOper):openPK call n0 (k:=⟨k⟩) (f:=⟨f⟩) c (o :: r) s h=iteK ((o.reads.flatMap (slotIds s)++ew o.op s).all (fun i=>decide (i < n0))=true)
  (f:=⟨fun _=>iteK (o.op.isCall=true)
   (f:=⟨fun _=>iteK (c=true) (f:=⟨f⟩) (g:=⟨fun _=>opsK call [o] s ⟨h.objs,h.base,h.size⟩ (k:=⟨fun e h' =>
    iteK (h'.size=h.size∧((gn o.dst e).ids.all fun i=>decide (i < n0))=true∧noVar o.dst s=true)
     (f:=⟨fun _=>openPK call n0 (k:=⟨k⟩) (f:=⟨f⟩) true r (a9 o.dst (gn o.dst e) s) ⟨h'.objs,h.base,if h'.wmin < h.size then min h.wmin h'.wmin else h.wmin⟩⟩) (g:=⟨f⟩)⟩)⟩)⟩)
   (g:=⟨fun _=>iteK (ew o.op s=[])
    (f:=⟨fun _=>opsK noCall [o] s ⟨h.objs,h.base,h.size⟩ (k:=⟨fun e h' =>
     iteK (h'.size=h.size∧h'.wmin=h.size∧((gn o.dst e).ids.all fun i=>decide (i < n0))=true∧noVar o.dst s=true)
      (f:=⟨fun _=>openPK call n0 (k:=⟨k⟩) (f:=⟨f⟩) c r (a9 o.dst (gn o.dst e) s) h⟩) (g:=⟨f⟩)⟩)⟩) (g:=⟨f⟩)⟩)⟩) (g:=⟨f⟩):=eq_of_heq HEq.rfl
end
@[simp] theorem segsK_p (call:CallSem) (m:Nat) (ms:List Nat) (l:List AOper) (r:List Seg) (s:Slots) (h:Heap) (k:Slots→Heap→Option β):segsK call (⟨true,m :: ms,l⟩ :: r) s h (k:=⟨k⟩) =
  openPK call h.size false l s h (k:=⟨fun s h=>segsK call r s h (k:=⟨k⟩)⟩) (f:=⟨fun _=>openK call h.size (m :: ms) l [] s h (k:=⟨fun s h=>segsK call r s h (k:=⟨k⟩)⟩)⟩):=by
 rw [segsK_o];exact (u0 l false (m :: ms) [] s h (fun x hx=>by cases hx) rfl).symm
noncomputable def xK (T:Nat→Option AFunc) (c:ACode) (st:St) [k:Ct2 AExit St β]:Option β:=andThen (im T c st) (f:=⟨fun p=>k.default p.1 p.2⟩)
section
variable {T:Nat→Option AFunc} {st:St} {k:AExit→St→Option β}
@[simp] theorem xK_skip:xK T .skip st (k:=⟨k⟩)=k .normal st:=by simp [xK]
@[simp] theorem xK_exit (i:Nat):xK T (.exit i) st (k:=⟨k⟩)=k (.exit i) st:=by simp [xK]
@[simp] theorem xK_ret:xK T .ret st (k:=⟨k⟩)=k .ret st:=by simp [xK]
@[simp] theorem xK_region (e:List Seg):xK T (.region e) st (k:=⟨k⟩)=segsK (xCall T) e st.s st.h (k:=⟨fun s h=>k .normal ⟨s,h⟩⟩):=by simp only [xK,segsK,wt,jc]
@[simp] theorem xK_seq (a b:ACode):xK T (.seq a b) st (k:=⟨k⟩)=xK T a st (k:=⟨fun e st=>nxK e st (f:=⟨fun st=>xK T b st (k:=⟨k⟩)⟩) (k:=⟨k⟩)⟩):=by
 simp only [xK,xCode_seq];cases im T a st with
 | none=>rfl
 | some p =>
  obtain ⟨e,st'⟩:=p;cases e <;> rfl
@[simp] theorem xK_cond (c:Opd) (a b:ACode):xK T (.cond c a b) st (k:=⟨k⟩)=condK (c.ev st.s) (f:=⟨fun _=>xK T a st (k:=⟨k⟩)⟩) (g:=⟨fun _=>xK T b st (k:=⟨k⟩)⟩):=by
 simp only [xK,zba,condK];cases c.ev st.s with
 | none=>rfl
 | some v =>
  cases v <;> try rfl
  rename_i x; cases x <;> rfl
@[simp] theorem xK_block (i:Nat) (c:ACode):xK T (.block i c) st (k:=⟨k⟩)=xK T c st (k:=⟨fun e st=>k (blkE i e) st⟩):=by
 simp only [xK,y7];cases im T c st with
 | none=>rfl
 | some p =>
  obtain ⟨e,st'⟩:=p;cases e <;> simp only [c6,blkE]
  split <;> rfl
@[simp] theorem xK_live (l:List Nat) (c:ACode):xK T (.live l c) st (k:=⟨k⟩)=xK T c ⟨keepK l st.s,st.h⟩ (k:=⟨k⟩):=by simp only [xK,zbb,pr]
@[simp] theorem xK_after (c:ACode) (l:List Nat):xK T (.after c l) st (k:=⟨k⟩)=xK T c st (k:=⟨fun e st=>nxK e st (f:=⟨fun st=>k .normal ⟨keepK l st.s,st.h⟩⟩) (k:=⟨k⟩)⟩):=by
 simp only [xK,za];cases im T c st with
 | none=>rfl
 | some p =>
  obtain ⟨e,st'⟩:=p;cases e <;> first | rfl | (simp only [c6,nxK,pr])
theorem b9 (c:ACode):xK T (.loop c) st (k:=⟨k⟩)=xK T c st (k:=⟨fun e st=>nxK e st (f:=⟨fun st=>xK T (.loop c) st (k:=⟨k⟩)⟩) (k:=⟨k⟩)⟩):=by
 simp only [xK];rw [xCode_loop];cases im T c st with
 | none=>rfl
 | some p =>
  obtain ⟨e,st'⟩:=p;cases e <;> rfl
@[simp] theorem xK_rangeFunc (f:Opd) (g:Nat) (caps ps:List Nat) (a b:ACode):xK T (.rangeFunc f g caps ps a b) st (k:=⟨k⟩)=andThen (f.ev st.s) (f:=⟨fun e=>andThen (capsOf st.s caps) (f:=⟨fun sl =>
  andThen (callVal (xCall T) e [.yield st.h.size] (st.h.push (.loop g .ready none sl))) (f:=⟨fun p=>andThen (loopEnd st.s p.2 st.h.size) (f:=⟨fun q=>k q.1 q.2⟩)⟩)⟩)⟩):=by
 simp only [xK,zw];cases f.ev st.s <;> cases capsOf st.s caps <;> try rfl
 simp only [c6];cases callVal _ _ _ _ <;> rfl
end
def retK (f:AFunc) (h:Heap) (e:AExit) (st:St):Option (AVal × Heap):=match e with
 | .exit _=>none
 | _=>andThen (resultsL st.s st.h f.results) (f:=⟨fun vs=>some (dj h (tupled vs) st.h)⟩)
@[simp] theorem retK_r (f:AFunc) (h:Heap) (st:St):retK f h .ret st=andThen (resultsL st.s st.h f.results) (f:=⟨fun vs=>some (dj h (tupled vs) st.h)⟩):=eq_of_heq HEq.rfl
@[simp] theorem retK_n (f:AFunc) (h:Heap) (st:St):retK f h .normal st=andThen (resultsL st.s st.h f.results) (f:=⟨fun vs=>some (dj h (tupled vs) st.h)⟩):=eq_of_heq HEq.rfl
theorem bg {T:Nat→Option AFunc} {g:Nat} {f:AFunc} (q:T g=some f) (args:List AVal) (h:Heap) (hr:f.round=none:=by rfl) (hc:f.closed=false:=by rfl) (hw:f.wild=false:=by rfl) :
  xCall T g args h=mustK (args.length=f.nargs) (f:=⟨fun _=>xK T f.body ⟨enter 0 args,{ h with wmin:=h.size }⟩ (k:=⟨retK f h⟩)⟩):=by
 rw [o9 T q (hr:=hr) (hw:=hw),hc,wrapC_false];unfold xFunc mustK;by_cases j:args.length=f.nargs
 ·rw [if_pos j,if_pos j];unfold xK outcome;cases im T f.body ⟨enter 0 args,{ h with wmin:=h.size }⟩ with
  | none=>rfl
  | some p =>
   obtain ⟨e,st⟩:=p;cases e with
   | exit i=>rfl
   | normal=>simp only [c6,retK]; cases resultsL st.s st.h f.results <;> rfl
   | ret=>simp only [c6,retK]; cases resultsL st.s st.h f.results <;> rfl
 ·rw [if_neg j,if_neg j]
end Go.Abs

namespace Go.Abs
def Wp (T:Nat→Option AFunc) (c:ACode) (st:St) (Q:AExit→St→Prop):Prop :=
 ∃ n l,eg (du T n) n c st=some l∧l≠[]∧∀ x ∈ l,Q x.1 x.2
section
variable {T:Nat→Option AFunc} {c a b:ACode} {st:St} {Q:AExit→St→Prop}
theorem vd {α β:Type} (f:α→Option (List β)) (x:α):flatL f [x]=f x:=by
 simp only [flatL];cases f x with
 | none=>rfl
 | some a=>simp
theorem loopO_one {call:CallSem} {n:Nat} (j:∀ (st:St) (x:AExit × St),da call n c st=some x→eg call n c st=some [x]):∀ (m:Nat) (st:St) (x:AExit × St),loopN (da call n c) m st=some x→loopO (eg call n c) m st=some [x]
 | 0,st,x,h=>by simp [loopN] at h
 | m+1,st,x,h=>by
  simp only [loopN] at h;simp only [loopO];split at h
  ·rename_i p h1;rw [j _ _ h1];simp only [vd];exact loopO_one j m _ _ h
  ·rename_i q;rw [j _ _ h];simp only [vd];obtain ⟨e,p⟩:=x;cases e with
   | normal=>exact absurd h (q _)
   | exit i=>rfl
   | ret=>rfl
theorem outs_of_code {call:CallSem} {n:Nat}:∀ (c:ACode),c.wild=false→∀ (st:St) (x:AExit × St),da call n c st=some x→eg call n c st=some [x]:=by
 intro c;induction c with
 | skip=>intro _ st x h; simp only [eg,h,b8]
 | region gs=>intro _ st x h; simp only [eg,h,b8]
 | exit id=>intro _ st x h; simp only [eg,h,b8]
 | ret=>intro _ st x h; simp only [eg,h,b8]
 | rangeFunc f g caps ps a b _ _=>intro _ st x h; simp only [eg,h,b8]
 | next d x=>intro h; cases h
 | seq a b iha ihb =>
  intro hw st x h;simp only [ACode.wild,i9] at hw;simp only [da] at h;simp only [eg];split at h
  ·rename_i p h1;rw [iha hw.1 _ _ h1];simp only [vd];exact ihb hw.2 _ _ h
  ·rename_i q;rw [iha hw.1 _ _ h];simp only [vd];obtain ⟨e,p⟩:=x;cases e with
   | normal=>exact absurd h (q _)
   | exit i=>rfl
   | ret=>rfl
 | cond c t e iht ihe =>
  intro hw st x h;simp only [ACode.wild,i9] at hw;simp only [da] at h;simp only [eg];split at h
  ·exact iht hw.1 _ _ h
  ·exact ihe hw.2 _ _ h
  ·cases h
 | block id a ih =>
  intro hw st x h;simp only [ACode.wild] at hw;simp only [da] at h;simp only [eg];split at h
  ·rename_i j p h1;rw [ih hw _ _ h1];simp only [b8,bi,List.map_nil];split at h <;> (rename_i B; cases h; simp [B])
  ·rename_i q;rw [ih hw _ _ h];obtain ⟨e,p⟩:=x;cases e with
   | normal=>rfl
   | exit i=>exact absurd h (q _ _)
   | ret=>rfl
 | loop a ih =>
  intro hw st x h;simp only [ACode.wild] at hw;exact loopO_one (ih hw) n st x h
 | live l a ih=>intro hw st x h; exact ih hw _ _ h
 | after a l ih =>
  intro hw st x h;simp only [ACode.wild] at hw;simp only [da] at h;simp only [eg];split at h
  ·rename_i p h1;cases h;rw [ih hw _ _ h1];rfl
  ·rename_i q;rw [ih hw _ _ h];obtain ⟨e,p⟩:=x;cases e with
   | normal=>exact absurd h (q _)
   | exit i=>rfl
   | ret=>rfl
theorem Wp.mono {j:AExit→St→Prop} (h:Wp T c st Q) (p:∀ e st,Q e st→j e st):Wp T c st j:=by obtain ⟨n,l,h1,h2,q⟩:=h;exact ⟨n,l,h1,h2,fun x hx=>p _ _ (q x hx)⟩
noncomputable def okIf (p:Prop):Option Unit:=by classical exact if p then some () else none
@[simp] theorem okIf_iff {p:Prop}:okIf p=some () ↔ p:=by unfold okIf;by_cases h:p <;> simp [h]
theorem Wp_code (hw:c.wild=false) {e:AExit} {st':St} (h:im T c st=some (e,st')) (j:Q e st'):Wp T c st Q:=by obtain ⟨n,p⟩:=(dh T _ _ _).1 h;exact ⟨n,[(e,st')],outs_of_code c hw _ _ p,by simp,fun x hx=>by rw [bk] at hx; subst hx; exact j⟩
theorem Wp_x (hw:c.wild=false) (h:xK T c st (k:=⟨fun e st=>okIf (Q e st)⟩)=some ()):Wp T c st Q:=by
 unfold xK at h;cases hx:im T c st with
 | none=>rw [hx] at h; cases h
 | some p =>
  rw [hx] at h;exact Wp_code hw hx (okIf_iff.1 h)
theorem zb4 {α β:Type} {F:Nat→α→Option (List β)} (q:∀ n m x,n≤m→Le (F n x) (F m x)) {R:β→Prop}:∀ (l:List α),(∀ x ∈ l,∃ n j,F n x=some j∧j≠[]∧∀ z ∈ j,R z)→∃ n p,flatL (F n) l=some p∧(l≠[]→p≠[])∧∀ y ∈ p,R y
 | [],_=>⟨0,[],rfl,fun h=>absurd rfl h,fun y e=>by cases e⟩
 | x :: l,h=>by
  obtain ⟨n,j,h1,h2,B⟩:=h x (a8 ..);obtain ⟨m,p,C,_,D⟩:=zb4 q l fun y e=>h y (bd _ e)
  have G:=q n (n+m) x (by omega) _ h1;have I:=og (fun x=>q m (n+m) x (by omega)) l _ C;refine ⟨n+m,j++p,by simp only [flatL,G,I],fun _=>by simp [h2],fun y e=>?_⟩;rcases bz.1 e with e | e
  ·exact B y e
  ·exact D y e
theorem xi {n m:Nat} (h:n≤m) (c:ACode) (st:St):Le (eg (du T n) n c st) (eg (du T m) m c st):=x7 (gg T h) h c st
theorem na (h:Wp T a st fun e st'=>match e with | .normal=>Wp T b st' Q | e=>Q e st'):Wp T (.seq a b) st Q:=by
 obtain ⟨n,l,h1,h2,C⟩:=h
 let F:Nat→AExit × St→Option (List (AExit × St)):=fun m x=>match x.1 with
  | .normal=>eg (du T m) m b x.2
  | e=>some [(e,x.2)]
 have B:∀ n m x,n≤m→Le (F n x) (F m x):=fun n m x q=>by
  obtain ⟨e,j⟩:=x;cases e with
  | normal=>exact xi q b j
  | exit i=>exact Le.refl _
  | ret=>exact Le.refl _
 obtain ⟨m,D,G,I,J⟩:=zb4 B (R:=fun y=>Q y.1 y.2) l fun x hx=>by
  have:=C x hx;obtain ⟨e,j⟩:=x;cases e with
  | normal=>exact this
  | exit i=>exact ⟨0,[(.exit i,j)],rfl,by simp,fun z p=>by rw [bk] at p; subst p; exact this⟩
  | ret=>exact ⟨0,[(.ret,j)],rfl,by simp,fun z p=>by rw [bk] at p; subst p; exact this⟩
 refine ⟨n+m,D,?_,I h2,J⟩;simp only [eg,xi (show n≤n+m by omega) a st _ h1];exact og (fun x=>B m (n+m) x (by omega)) l _ G
theorem Wp_block {id:Nat} (h:Wp T c st fun e st'=>Q (blkE id e) st'):Wp T (.block id c) st Q:=by
 obtain ⟨n,l,h1,h2,B⟩:=h
 refine ⟨n,l.map fun x=>match x.1 with
  | .exit j=>if j=id then (.normal,x.2) else (.exit j,x.2)
  | e=>(e,x.2),by simp only [eg,h1,b8]; rfl,by simpa using h2,fun y q=>?_⟩
 rw [bt] at q;obtain ⟨x,hx,rfl⟩:=q;have:=B x hx;obtain ⟨e,C⟩:=x;cases e with
 | normal=>exact this
 | ret=>exact this
 | exit j =>
  simp only [blkE] at this ⊢;split at this
  ·rename_i p; rw [if_pos p]; exact this
  ·rename_i p; rw [if_neg p]; exact this
theorem zae {l:List Nat} (h:Wp T c ⟨keepK l st.s,st.h⟩ Q):Wp T (.live l c) st Q:=by rw [pr] at h;exact h
theorem ul {l:List Nat} (h:Wp T c st fun e st'=>match e with | .normal=>Q .normal ⟨keepK l st'.s,st'.h⟩ | e=>Q e st'):Wp T (.after c l) st Q:=by
 obtain ⟨n,p,h1,h2,q⟩:=h
 refine ⟨n,p.map fun x=>match x.1 with
  | .normal=>(.normal,⟨keep l x.2.s,x.2.h⟩)
  | e=>(e,x.2),by simp only [eg,h1,b8]; rfl,by simpa using h2,fun y j=>?_⟩
 rw [bt] at j;obtain ⟨x,hx,rfl⟩:=j;have:=q x hx;obtain ⟨e,B⟩:=x;cases e with
 | normal=>rw [pr] at this; exact this
 | exit i=>exact this
 | ret=>exact this
theorem zb5 (h:Wp T c st fun e st'=>match e with | .normal=>Wp T (.loop c) st' Q | e=>Q e st'):Wp T (.loop c) st Q:=by
 obtain ⟨n,l,h1,h2,C⟩:=h
 let F:Nat→AExit × St→Option (List (AExit × St)):=fun m x=>match x.1 with
  | .normal=>eg (du T m) m (.loop c) x.2
  | e=>some [(e,x.2)]
 have D:∀ n m x,n≤m→Le (F n x) (F m x):=fun n m x q=>by
  obtain ⟨e,j⟩:=x;cases e with
  | normal=>exact xi q (.loop c) j
  | exit i=>exact Le.refl _
  | ret=>exact Le.refl _
 obtain ⟨m,G,I,J,K⟩:=zb4 D (R:=fun y=>Q y.1 y.2) l fun x hx=>by
  have:=C x hx;obtain ⟨e,j⟩:=x;cases e with
  | normal=>exact this
  | exit i=>exact ⟨0,[(.exit i,j)],rfl,by simp,fun z p=>by rw [bk] at p; subst p; exact this⟩
  | ret=>exact ⟨0,[(.ret,j)],rfl,by simp,fun z p=>by rw [bk] at p; subst p; exact this⟩
 refine ⟨n+m+1,G,?_,J h2,K⟩;simp only [eg,loopO,xi (show n≤n+m+1 by omega) c st _ h1];refine og (fun x r hr=>?_) l _ I;obtain ⟨e,j⟩:=x;cases e with
 | normal =>
  have B:loopO (eg (du T m) m c) m j=some r:=hr;exact v5 (fun st=>xi (show m≤n+m+1 by omega) c st) m (n+m) j (by omega) _ B
 | exit i=>exact hr
 | ret=>exact hr
theorem Wp_loop (Inv:Nat→St→Prop) (step:∀ k st,Inv k st→Wp T c st fun e st'=>match e with | .normal=>∃ j,j < k∧Inv j st' | e=>Q e st'):∀ k st,Inv k st→Wp T (.loop c) st Q:=by
 intro k;induction k using Nat.strongRecOn with
 | _ k ih =>
  intro st h;refine zb5 ((step k st h).mono fun e st' p=>?_);cases e with
  | normal=>obtain ⟨j,h1,h2⟩:=p; exact ih j h1 st' h2
  | exit i=>exact p
  | ret=>exact p
theorem zaf {d:Option Nat} {x:Opd} {i m since last clock:Nat} {seen:List Nat} {es:List (AVal × AVal × Nat)} (hx:x.ev st.s=some (.ptr (some (i,0)))) (hb:st.h.base≤i)
  (hi:st.h.get i=some (.mapIter (some m) since seen last)) (hm:st.h.get m=some (.map es clock)) (hold:∀ e ∈ es,e.2.2 < since) (G:since≤last)
  (h0:(∀ e ∈ es,e.2.2 ∈ seen)→Q .normal ⟨a9 d (.val (.tuple [.bool false])) st.s,st.h.put i .dead⟩)
  (h1:∀ e ∈ es,e.2.2 ∉ seen→Q .normal ⟨a9 d (.val (.tuple [.bool true,e.1,e.2.1])) st.s,st.h.put i (.mapIter (some m) since (seen++[e.2.2]) clock)⟩):Wp T (.next d x) st Q:=by
 have p:∀ n,eg (du T n) n (.next d x) st=nextOuts d x st:=fun n=>rfl
 have q:(es.all fun e=>decide (e.2.2 < since))=true:=by rw [ap]; intro e j; simpa using hold e j
 have C:nextOuts d x st=(match es.filter fun e=>!seen.contains e.2.2 with
   | []=>some [(.normal,⟨a9 d (.val (.tuple [.bool false])) st.s,st.h.put i .dead⟩)]
   | l=>some (l.map fun e=>(.normal,⟨a9 d (.val (.tuple [.bool true,e.1,e.2.1])) st.s,st.h.put i (.mapIter (some m) since (seen++[e.2.2]) clock)⟩))):=by
  unfold nextOuts;simp only [hx,hb,if_true,hi,hm,q,G,and_self];cases es.filter fun e=>!seen.contains e.2.2 <;> rfl
 cases D:es.filter fun e=>!seen.contains e.2.2 with
 | nil =>
  rw [D] at C;refine ⟨0,_,(p 0).trans C,by simp,fun y B=>?_⟩;rw [bk] at B; subst B;refine h0 fun e j=>?_
  have:e ∉ es.filter fun e=>!seen.contains e.2.2:=by rw [D]; simp
  rw [gj] at this;simpa [j] using this
 | cons z zs =>
  rw [D] at C;refine ⟨0,_,(p 0).trans C,by simp,fun y B=>?_⟩;rw [bt] at B;obtain ⟨e,j,rfl⟩:=B;rw [← D,gj] at j;exact h1 e j.1 (by simpa using j.2)
theorem xCallW {g:Nat} {f:AFunc} (p:T g=some f) {args:List AVal} {h:Heap} {r:AVal × Heap} (q:args.length=f.nargs) (B:Wp T f.body ⟨enter 0 args,{ h with wmin:=h.size }⟩ fun e st=>retK f h e st=some r)
  (hw:f.wild=true:=by rfl) (hr:f.round=none:=by rfl) (hc:f.closed=false:=by rfl):xCall T g args h=some r:=by
 obtain ⟨n,l,h1,h2,C⟩:=B;refine xCall_wild T p hr hc hw q h1 h2 fun x hx=>?_
 have:=C x hx;obtain ⟨e,st⟩:=x;cases e with
 | exit i=>simp [retK] at this
 | normal =>
  simp only [retK_n] at this;simp only [funcEnd];cases j:resultsL st.s st.h f.results with
  | none=>rw [j] at this; cases this
  | some vs=>rw [j] at this; simpa using this
 | ret =>
  simp only [retK_r] at this;simp only [funcEnd];cases j:resultsL st.s st.h f.results with
  | none=>rw [j] at this; cases this
  | some vs=>rw [j] at this; simpa using this
end
end Go.Abs

namespace Go.Abs
theorem sq {T j:Nat→Option AFunc} (hs:∀ g f,T g=some f→j g=some f):∀ n,CallLe (du T n) (du j n)
 | 0=>fun _ _ _ r hr=>by simp [du] at hr
 | n+1=>fun g args h=>by
  intro r hr;have p:=sq hs n;simp only [du] at hr ⊢;cases e:T g with
  | none=>rw [e] at hr; cases hr
  | some f =>
   rw [e] at hr;rw [hs g f e];simp only at hr ⊢;split at hr
   ·exact wq p (aj _) _ _ _ _ r hr
   ·exact hr
   ·exact v6 (fun args h=>yy p (aj _) f args h) _ _ _ r hr
theorem cf {T e:Nat→Option AFunc} (hs:∀ g f,T g=some f→e g=some f) {g:Nat} {args:List AVal} {h:Heap} {r:AVal × Heap} (j:xCall T g args h=some r):xCall e g args h=some r:=by rw [jx] at j ⊢;obtain ⟨n,p⟩:=j;exact ⟨n,sq hs n _ _ _ _ p⟩
end Go.Abs

namespace Go.Abs
abbrev Str:=List UInt8
section
variable {κ ν:Type} [DecidableEq κ]
variable {os:List AObj} {b w r:Nat} {A:List (κ × ν)} {kf:κ→AVal} {vf:ν→AVal}
end
theorem jv {α:Type} (a c:List α) (k:Nat):(a++c)[a.length+k]? = c[k]?:=by rw [aw (by omega)]; congr 1; omega
theorem gc {α:Type} (a c:List α):(a++c)[a.length]? = c[0]?:=jv a c 0
theorem set_k {α:Type} (a c:List α) (k:Nat) (y:α):(a++c).set (a.length+k) y=a++c.set k y:=by rw [List.set_append_right _ _ (by omega)]; congr 2; omega
theorem set_k0 {α:Type} (a c:List α) (y:α):(a++c).set a.length y=a++c.set 0 y:=set_k a c 0 y
theorem xRoundK {T:Nat→Option AFunc} {g:Nat} {f:AFunc} {rd:ARound} (p:T g=some f) (hr:f.round=some (.round rd)) (i j:Nat) (a_s:List AVal) (h:Heap) :
  xCall T g (.ptr (some (i,j)) :: a_s) h=mustK (a_s.length=rd.params.length∧h.base≤i) (f:=⟨fun _=>andThen (nd i rd.params a_s h) (f:=⟨fun s=>xK T rd.assign ⟨s,{ h with wmin:=h.size }⟩
   (k:=⟨fun e st=>andThen (mg g i (some (e,st))) (f:=⟨fun st=>xK T rd.body st (k:=⟨fun e st=>roundOut h g i (some (e,st))⟩)⟩)⟩)⟩)⟩):=by
 rw [xRound_eq T p hr];unfold xRound mustK;simp only;split
 ·cases nd i rd.params a_s h with
  | none=>rfl
  | some s =>
   simp only [c6];unfold xK;cases im T rd.assign ⟨s,{ h with wmin:=h.size }⟩ with
   | none=>rfl
   | some x =>
    obtain ⟨e,st⟩:=x;simp only [c6];cases mg g i (some (e,st)) with
    | none=>rfl
    | some st =>
     simp only [c6];cases im T rd.body st with
     | none=>rfl
     | some y=>rfl
 ·rfl
theorem zp {h0 h:Heap} {v:AVal} {k:List Nat} (hw:h0.size≤h.wmin) (j:v.under h0.size=false) (hr:reach h h0.size 1000 v.ids []=k) (e:∀ i ∈ v.ids++k.flatMap fun i=>((h.get i).map AObj.ids).getD [],i < h0.size∨i ∈ k) :
  dj h0 v h=(v.ren (fun i=>if i < h0.size then i else h0.size+idxIn i k),{ h0 with objs:=h0.objs++k.map fun i=>((h.get i).map (AObj.ren fun i=>if i < h0.size then i else h0.size+idxIn i k)).getD .dead }):=by
 unfold dj;rw [if_neg (by omega),j];simp only [cg,if_false,hr];rw [if_pos];rw [ap];intro i hi;rcases e i hi with h1 | h1
 ·rw [decide_eq_true h1]; rfl
 ·simp [h1]
end Go.Abs

namespace Go.Abs
structure FieldU where
 st:Bool
 name:Str
 desc:Str
structure InsU where
 op:Int
 n:Int
 m:Int
 cls:Str
 name:Str
 desc:Str
 text:Str
structure TrapU where
 lo:Int
 hi:Int
 at':Int
 cls:Str
structure MapU where
 at':Int
 locals:List Str
 la:Option (Nat × Nat)
 lc:Option Nat
 stack:List Str
 sa:Option (Nat × Nat)
 sc:Option Nat
structure MethU where
 st:Bool
 name:Str
 desc:Str
 stack:Int
 locals:Int
 code:List InsU
 ca:Option (Nat × Nat)
 cc:Option Nat
 traps:List TrapU
 ta:Option (Nat × Nat)
 tc:Option Nat
 maps:List MapU
 xa:Option (Nat × Nat)
 xc:Option Nat
structure UnitU where
 name:Str
 super:Str
 fields:List FieldU
 fa:Option (Nat × Nat)
 fc:Option Nat
 meths:List MethU
 ma:Option (Nat × Nat)
 mc:Option Nat
def FieldU.cells (f:FieldU):List AVal:=[.bool f.st,.str f.name,.str f.desc]
def InsU.cells (x:InsU):List AVal:=[.int .u8 x.op,.int .i64 x.n,.int .i64 x.m,.str x.cls,.str x.name,.str x.desc,.str x.text]
def TrapU.cells (x:TrapU):List AVal:=[.int .i64 x.lo,.int .i64 x.hi,.int .i64 x.at',.str x.cls]
def MapU.cells (x:MapU):List AVal:=[.int .i64 x.at',.slice x.la x.locals.length x.lc,.slice x.sa x.stack.length x.sc]
def MethU.cells (m:MethU):List AVal:=[.bool m.st,.str m.name,.str m.desc,.int .i64 m.stack,.int .i64 m.locals,.slice m.ca m.code.length m.cc,.slice m.ta m.traps.length m.tc,.slice m.xa m.maps.length m.xc]
def UnitU.cells (u:UnitU):List AVal:=[.str u.name,.str u.super,.slice u.fa u.fields.length u.fc,.slice u.ma u.meths.length u.mc]
def strC (s:Str):List AVal:=[.str s]
abbrev big:Nat:=9223372036854775807
def under (n:Nat) (a:Option (Nat × Nat)):Prop:=∀ i o,a=some (i,o)→i < n
structure MapU.ok (os:List AObj) (x:MapU):Prop where
 l:Row os 1 strC x.locals x.la
 ln:x.locals.length≤big
 lu:under os.length x.la
 s:Row os 1 strC x.stack x.sa
 sn:x.stack.length≤big
 su:under os.length x.sa
 ls:∀ t ∈ x.locals++x.stack,t.length≤big
structure MethU.ok (os:List AObj) (m:MethU):Prop where
 name:m.name.length≤big
 desc:m.desc.length≤big
 c:Row os 7 InsU.cells m.code m.ca
 cn:m.code.length≤big
 cu:under os.length m.ca
 cok:∀ x ∈ m.code,x.cls.length≤big∧x.name.length≤big∧x.desc.length≤big∧x.text.length≤big
 t:Row os 4 TrapU.cells m.traps m.ta
 tn:m.traps.length≤big
 tu:under os.length m.ta
 tok:∀ x ∈ m.traps,x.cls.length≤big
 x:Row os 3 MapU.cells m.maps m.xa
 xn:m.maps.length≤big
 xu:under os.length m.xa
 xok:∀ x ∈ m.maps,x.ok os
structure UnitU.ok (os:List AObj) (u:UnitU):Prop where
 name:u.name.length≤big
 super:u.super.length≤big
 f:Row os 3 FieldU.cells u.fields u.fa
 fn:u.fields.length≤big
 fu:under os.length u.fa
 fok:∀ x ∈ u.fields,x.name.length≤big∧x.desc.length≤big
 m:Row os 8 MethU.cells u.meths u.ma
 mn:u.meths.length≤big
 mu:under os.length u.ma
 mok:∀ x ∈ u.meths,x.ok os
def Pre (os O:List AObj):Prop:=∀ (i:Nat) (o:AObj),os[i]? = some o→O[i]? = some o
theorem Pre.refl (os:List AObj):Pre os os:=fun _ _ h=>h
theorem Pre.trans {A B C:List AObj} (h:Pre A B) (k:Pre B C):Pre A C:=fun i o ho=>k i o (h i o ho)
theorem Pre.app (os X:List AObj):Pre os (os++X):=fun i o h=>by rw [ag (ah h)]; exact h
theorem Pre.set {A B:List AObj} (h:Pre A B) {i:Nat} (o:AObj) (hi:A.length≤i):Pre A (B.set i o):=fun j p e=>by have:=ah e;rw [aq (by omega)]; exact h j p e
theorem Pre.len {A B:List AObj} (h:Pre A B):A.length≤B.length:=by
 rcases bh B.length A.length with h1 | h1
 ·have h2:B.length < A.length:=h1;have:=ah (h B.length A[B.length] (by simp [h2]));omega
 ·exact h1
structure UnitU.low (n:Nat) (u:UnitU):Prop where
 f:under n u.fa
 m:under n u.ma
section
variable {os:List AObj} {w:Nat}
end
end Go.Abs

namespace Go.Abs
theorem row_flat {α:Type} {e:Nat} {f:α→List AVal} {cs:List AVal}:∀ (L:List α) (o:Nat),(∀ (j:Nat) (x:α),L[j]? = some x→o+j*e+e≤cs.length∧(cs.drop (o+j*e)).take e=f x)→(cs.drop o).take (L.length*e)=L.flatMap f
 | [],o,_=>by simp
 | x :: L,o,h=>by
  have h0:=(h 0 x rfl).2;rw [Nat.zero_mul,qg] at h0
  have p:=row_flat L (o+e) fun j y q=>by have:=h (j+1) y q;rw [fm,Nat.one_mul,Nat.add_comm (j*e) e,← lz] at this;exact this
  rw [cq,fm,Nat.one_mul,Nat.add_comm,List.take_add,d0,h0,jp,p]
theorem zb0 {e:Nat} {h:Heap} {a:Option (Nat × Nat)} {c:Option Nat}:il e h (.slice a 0 c)=some []:=by
 cases a with
 | none=>rfl
 | some p=>rfl
theorem zb1 {e n:Nat} {h:Heap} {i:Nat} {cs:List AVal} {c:Option Nat} (q:h.objs[i]? = some (.cells e cs)) (j:cs.length=n*e):il e h (.slice (some (i,0)) n c)=some cs:=by
 unfold il;simp only;split
 ·rename_i h0;subst h0;rw [Nat.zero_mul] at j;rw [bn j]
 ·have p:h.get i=some (.cells e cs):=q;rw [p];simp only;have h2:True∧0+n*e≤cs.length:=⟨trivial,by omega⟩;rw [if_pos h2,ff,← j,List.take_length]
theorem zq (t:Nat):sget [] t=none:=by simp
theorem vj (t:Nat) (x:Slot) (r:Slots):sget ((t,x) :: r) t=some x:=by simp
theorem zr (u t:Nat) (x:Slot) (r:Slots) (h:u≠t):sget ((u,x) :: r) t=sget r t:=by simp [h]
end Go.Abs

namespace Go.Abs.Short
@[reducible] def t (i:Nat):Opd:=.tmp i
@[reducible] def n (i:Int):Opd:=.const (.int .i64 i)
@[reducible] def F:Opd:=.const (.bool false)
@[reducible] def Y:Opd:=.const (.bool true)
@[reducible] def R (l:List Nat) (ops:List AOper):ACode:=.after (.region [⟨false,[],ops⟩]) l
@[reducible] def v (d x:Nat):AOper:=⟨some d,none,.val (.tmp x)⟩
@[reducible] def o (d:Nat) (op:AOp):AOper:=⟨some d,none,op⟩
@[reducible] def u (op:AOp):AOper:=⟨none,none,op⟩
@[reducible] def g (d t:Nat) (w:Bool) (op:AOp):AOper:=⟨some d,some (t,w),op⟩
def noF:AFunc:=⟨false,false,0,0,[],.skip,some (.lib fun _ _=>none)⟩
@[reducible] def Z (l:List Nat):ACode:=.live l .ret
@[reducible] def Lq (i:Nat):AOp:=.load none (.tmp i)
@[reducible] def Fa (i k:Nat):AOp:=.faddr (.tmp i) k
@[reducible] def Sl (i:Nat):AOp:=.len .sl (.tmp i)
@[reducible] def Bt (b:BinOp) (i j:Nat):AOp:=.bin b (.tmp i) (.tmp j)
@[reducible] def Bn (b:BinOp) (i:Nat) (j:Int):AOp:=.bin b (.tmp i) (n j)
@[reducible] def Xt (i k:Nat):AOp:=.extract (.tmp i) k
@[reducible] def Vl (i:Nat):AOp:=.val (.tmp i)
@[reducible] def Ks (s:List UInt8):Opd:=.const (.str s)
@[reducible] def S (a b:ACode):ACode:=.seq a b
end Go.Abs.Short
namespace Go.Abs.ShortH
def r (n:Nat) (l:List Nat):Hint:=.after (.reg [(false,n)] []) l
def l (l:List Nat):Hint:=.live l .leaf
end Go.Abs.ShortH
