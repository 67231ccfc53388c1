/-
  Texts joined.
-/
import Derived.Test.YtfjiakbhdjcceaaGreatQ0
import Derived.Test.YtfjiakbhdjcceaaGreatQ4
import Derived.Test.YtfjiakbhdjcceaaGreatQ2
import Derived.Maps.RangeRun
import Derived.RangeFuncLeaves
set_option linter.unusedVariables false
set_option linter.unusedSimpArgs false
set_option maxRecDepth 100000
namespace Go.Abs
section
variable {E:Env}
theorem Rel.ids {μ:MM} {h:Heap} {w:World} (hr:Rel E μ h w) {i:Nat} {o:AObj} (ho:h.objs[i]? = some o):∀ j ∈ o.ids,j < h.size:=by
 have d:At E w.heap.size 0 μ w [] [] ⟨h.objs,h.base,μ.length⟩ { tmps:=#[],defers:=[] } w :=
  ⟨μ,⟨fun _=>0,[]⟩,Step.refl _ _ _ _,hr.same rfl rfl rfl,⟨by simp [sget],by simp [sget],by simp [sget],by simp [sget],by simp [sget],by simp [sget],by simp,by simp,by simp,hr.tab.1⟩,rfl,rfl,aj _⟩
 exact d.ids.2.1 i o ho
theorem wu {l:List AObj} {o:AObj} {k:Nat} (h:l.length=k):(l++[o])[k]? = some o:=by subst h; simp
def restr (p:Nat→Bool) (s:Slots):Slots:=s.filter fun x=>p x.1
theorem qx (p:Nat→Bool):∀ (s:Slots) (t:Nat),sget (restr p s) t=if p t=true then sget s t else none
 | [],t=>by simp [restr,sget]
 | (u,x) :: s,t=>by
  have j:=qx p s t;unfold restr at j ⊢;rw [List.filter_cons];by_cases d:p u=true
  ·rw [if_pos d];simp only [sget];by_cases e:u=t
   ·subst e; simp [d]
   ·rw [if_neg e,j,if_neg e]
  ·rw [if_neg d,j];simp only [sget];by_cases e:u=t
   ·subst e; simp [d]
   ·rw [if_neg e]
theorem cOper_dst {nt:Nat} {ops:Array Oper} {loc:Bool} {o:Oper} {d:AOper} (h:kr E nt ops loc o=some d):d.dst=o.dst∧∀ t,o.dst=some t→t < nt:=by
 unfold kr at h;split at h;case isFalse=>cases h
 rename_i e;simp only [bc] at e;refine ⟨?_,fun t j=>by have:=e.1; rw [j] at this; simpa using this⟩;split at h
 ·cases h; rfl
 ·split at h
  ·cases h; rfl
  ·cases h
theorem i8 {o:AOp} (h:soft o=true):calm o=true:=by cases o <;> simp_all [soft,calm]
variable {call:CallSem} {n:Nat} {aops:Nat→Option AOper} {ms:Nat→Nat} {S:Nat→Slots} {H:Nat→Heap} {r:Nat→Slot} {D:Nat→Did}
open Txt
noncomputable def memL (D:Nat→Did) (H:Nat→Heap) (n:Nat) (L:Nat→Bool):List AObj:=(List.range (H n).size).map (mem D (sz H) H L n)
theorem jy (L:Nat→Bool):(memL D H n L).length=(H n).size:=by simp [memL]
theorem ie {L:Nat→Bool} {i:Nat} (hi:i < (H n).size):(memL D H n L)[i]? = some (mem D (sz H) H L n i):=by simp [memL,hi]
def okL (H:Nat→Heap) (n:Nat) (L:Nat→Bool) (i:Nat):Prop:=i < (H 0).size∨∃ y,y < n∧L y=true∧(H y).size≤i∧i < (H (y+1)).size
def okA (ms:Nat→Nat) (H:Nat→Heap) (n y i:Nat):Prop:=i < (H 0).size∨∃ z,z < n∧(z=y∨(ms y).testBit z=true)∧(H z).size≤i∧i < (H (z+1)).size
structure Inv (E:Env) (lo nt:Nat) (μ0:MM) (w0:World) (ds:List Deferred) (n:Nat) (ms:Nat→Nat) (H:Nat→Heap) (r:Nat→Slot) (D:Nat→Did) (L:Nat→Bool) (sD:Slots) (a:Act) (w:World):Prop where
 at':At E lo nt μ0 w0 ds sD ⟨memL D H n L,(H 0).base,(H n).wmin⟩ a w
 slots:∀ t y,sget sD t=some y→∀ i ∈ y.ids,okL H n L i
 vars:∀ t cs,sget sD t=some (.var cs)→∀ i ∈ AVal.idsL cs,i < (H 0).size
 down:∀ x y,x < n→L x=true→(ms x).testBit y=true→L y=true
 upds:∀ y,y < n→L y=true→(∀ i o,upd D (sz H) H y i=some o→∀ j ∈ o.ids,okA ms H n y j)∧∀ j ∈ (r y).ids,okA ms H n y j
variable {lo nt:Nat} {μ0:MM} {w0:World} {ds:List Deferred} {ops:Array Oper} {Q:Exit→Act→World→Prop} {ro:Option Nat}
structure Up (n:Nat) (ms:Nat→Nat) (L:Nat→Bool) (x:Nat):Prop where
 lt:x < n
 not:L x=false
 below:∀ y,y < n→(ms x).testBit y=true→L y=true
 above:∀ y,y < n→L y=true→(ms y).testBit x=false
section
variable (T:Txt call n aops ms S H r D) (hev0:CallEvol call)
include T hev0
omit T hev0 in
theorem Inv.objs {L:Nat→Bool} {sD:Slots} {a:Act} {w:World} (h0:∀ (i:Nat) o,(H 0).objs[i]? = some o→∀ j ∈ o.ids,j < (H 0).size) (q:Inv E lo nt μ0 w0 ds n ms H r D L sD a w) (i:Nat):∀ j ∈ (mem D (sz H) H L n i).ids,okL H n L j:=by
 intro j d;rcases tm (D:=D) (sz:=sz H) (H:=H) (L:=L) (i:=i) n with ⟨h1,_⟩ | ⟨y,o,h1,h2,C,G⟩
 ·rw [h1] at d;cases p:(H 0).objs[i]? with
  | none=>rw [p] at d; simp [AObj.ids] at d
  | some o=>rw [p] at d; exact .inl (h0 i o p j d)
 ·rw [G] at d;rcases (q.upds y h1 h2).1 i o C j d with e | ⟨z,A,e,B⟩
  ·exact .inl e
  ·rcases e with rfl | e
   ·exact .inr ⟨z,A,h2,B⟩
   ·exact .inr ⟨z,A,q.down y z h1 h2 e,B⟩
theorem mem_at {L:Nat→Bool} {q i:Nat} (e:q≤n) (h:∀ y,y < n→upd D (sz H) H y i≠none→L y=decide (y < q)):mem D (sz H) H L n i=((H q).objs[i]?).getD .dead:=by rw [← zbk (D:=D) (sz:=sz H) (H:=H) (i:=i) (n:=n) (fun _=>rfl) (fun y d=>(T.evol hev0 d).size) (fun y i d hi hw=>T.unwritten hev0 d hi hw) q e];obtain ⟨k,rfl⟩:∃ k,n=q+k:=⟨n - q,by omega⟩;rw [← zbl q k];exact q9 _ fun y d j=>h y d j
theorem mem_same {L:Nat→Bool} {x i:Nat} (p:Up n ms L x) (h:∀ y,y < n→y≠x→(ms x).testBit y=false→(ms y).testBit x=false→(x < y→L y=true)→upd D (sz H) H y i=none) :
  mem D (sz H) H L n i=((H x).objs[i]?).getD .dead:=by
 have hx:=p.lt;refine mem_at T hev0 (by omega) fun y q A=>?_
 by_cases e:y=x
 ·subst e; rw [p.not]; simp
 ·cases hb:(ms x).testBit y with
  | true =>
   rw [p.below y q hb];have:=T.back x y hx hb;simp [this]
  | false =>
   cases d:(ms y).testBit x with
   | true =>
    have h1:=T.back y x q d;cases j:L y with
    | false=>simp; omega
    | true =>
     have:=p.above y q j;rw [d] at this; cases this
   | false =>
    by_cases j:x < y→L y=true
    ·exact absurd (h y q e hb d j) A
    ·have B:x < y:=Classical.byContradiction fun C=>j fun h=>absurd h C
     have:L y=false:=by
      cases G:L y with
      | false=>rfl
      | true=>exact absurd (fun _=>G) j
     rw [this]; simp; omega
def Late (n:Nat) (H:Nat→Heap) (D:Nat→Did) (L:Nat→Bool) (x y:Nat):Prop:=y < n∧L y=true∧x < y∧benign (H (y+1)) (D y) (D x)=true∧∃ i,i ∈ (D x).rd∧upd D (sz H) H y i≠none
omit T hev0 in
theorem late_max {L:Nat→Bool} {x:Nat}:∀ (k y:Nat),n - y≤k→Late n H D L x y→∃ z,Late n H D L x z∧∀ u,z < u→¬ Late n H D L x u
 | 0,y,j,h=>absurd h.1 (by omega)
 | k+1,y,j,h=>by
  by_cases e:∃ u,y < u∧Late n H D L x u
  ·obtain ⟨u,h1,h2⟩:=e;exact late_max k u (by have:=h2.1; omega) h2
  ·exact ⟨y,h,fun u d p=>e ⟨u,d,p⟩⟩
theorem wv {L:Nat→Bool} {x i:Nat} {o:AObj} (d:Up n ms L x) (e:upd D (sz H) H x i=some o):mem D (sz H) H (fun y=>y == x || L y) n i=o:=by
 refine zbm d.lt e fun y j p q=>?_
 refine T.cww hev0 d.lt j (by omega) ?_ (d.above y j q) (by rw [e]; simp);cases hb:(ms x).testBit y with
 | false=>rfl
 | true=>have:=T.back x y d.lt hb; omega
theorem okL_new {L:Nat→Bool} {x i:Nat} (d:Up n ms L x) (h:okL H n L i):¬ ((H x).size≤i∧i < (H (x+1)).size):=by
 rintro ⟨h1,h2⟩;rcases h with h | ⟨y,j,e,p,q⟩
 ·have:=T.mono hev0 (fk x) (by have:=d.lt; omega); omega
 ·have:=T.apart hev0 d.lt j h1 h2 p q;subst this;rw [d.not] at e; cases e
theorem okL_lt {L:Nat→Bool} {i:Nat} (h:okL H n L i):i < (H n).size:=by
 rcases h with h | ⟨y,d,j,p,e⟩
 ·exact fg h (T.mono hev0 (fk n) (aj _))
 ·exact fg e (T.mono hev0 d (aj _))
omit hev0 in
theorem Inv.next {L:Nat→Bool} {sD:Slots} {a G:Act} {w w':World} {x:Nat} {A:AOper} (I:Up n ms L x) (ho:aops x=some A) (q:Inv E lo nt μ0 w0 ds n ms H r D L sD a w)
  (B:At E lo nt μ0 w0 ds (a9 A.dst (r x) sD) ⟨memL D H n (fun y=>y == x || L y),(H 0).base,(H n).wmin⟩ G w')
  (hr:∀ j ∈ (r x).ids,okA ms H n x j) (J:∀ i o,upd D (sz H) H x i=some o→∀ j ∈ o.ids,okA ms H n x j) (C:∀ cs,r x ≠ .var cs):Inv E lo nt μ0 w0 ds n ms H r D (fun y=>y == x || L y) (a9 A.dst (r x) sD) G w':=by
 have up:∀ {i},okL H n L i→okL H n (fun y=>y == x || L y) i:=fun h=>by
  rcases h with h | ⟨y,d,e,K⟩
  ·exact .inl h
  ·exact .inr ⟨y,d,by simp [e],K⟩
 have dn:∀ {j},okA ms H n x j→okL H n (fun y=>y == x || L y) j:=fun h=>by
  rcases h with h | ⟨z,p,h1,h2⟩
  ·exact .inl h
  ·rcases h1 with rfl | h1
   ·exact .inr ⟨z,p,by simp,h2⟩
   ·exact .inr ⟨z,p,by simp [I.below z p h1],h2⟩
 refine ⟨B,fun t y d i hi=>?_,fun t cs d i hi=>?_,fun y z d e hb=>?_,fun y d e=>?_⟩
 ·rw [el] at d;split at d
  ·cases d; exact dn (hr i hi)
  ·exact up (q.slots t y d i hi)
 ·rw [el] at d;split at d
  ·exact absurd (ce d) (C cs)
  ·exact q.vars t cs d i hi
 ·simp only [c9,beq_iff_eq] at e ⊢;rcases e with rfl | e
  ·by_cases p:z < n
   ·exact .inr (I.below z p hb)
   ·have:=T.back y z d hb; omega
  ·exact .inr (q.down y z d e hb)
 ·simp only [c9,beq_iff_eq] at e;rcases e with rfl | e
  ·exact ⟨J,hr⟩
  ·exact q.upds y d e
theorem mem_new {L:Nat→Bool} {x i:Nat} (j:Up n ms L x) (h1:(H x).size≤i) (h2:i < (H (x+1)).size):mem D (sz H) H L n i = .dead:=by
 have hx:=j.lt
 have G:upd D (sz H) H x i≠none:=by unfold upd;rw [if_pos (show touched D (sz H) x i from ⟨h2,.inl h1⟩),ai (show i < (H (x+1)).objs.length from h2)];simp
 rcases tm (D:=D) (sz:=sz H) (H:=H) (L:=L) (i:=i) n with ⟨d,_⟩ | ⟨y,o,d,p,C,_⟩
 ·rw [d,bw]
  ·rfl
  ·have:=T.mono hev0 (fk x) (by omega);show (H 0).size≤i;omega
 ·exfalso;have q:y≠x:=fun e=>by subst e; rw [j.not] at p; cases p
  have A:=j.above y d p;cases hb:(ms x).testBit y with
  | false =>
   have:=T.cww hev0 hx d q hb A G;rw [C] at this; cases this
  | true =>
   have B:=T.back x y hx hb;obtain ⟨I,_⟩:=qz (D:=D) (H:=H) (x:=y) (i:=i) (by rw [C]; simp);have:=T.mono hev0 (show y+1≤x from B) (by omega);omega
omit T hev0 in
theorem load_run {call:CallSem} {o:AOper} {d:Nat} {k:Option Nat} {a:Opd} {s:Slots} {h:Heap} {i off:Nat} {v:AVal} (h1:o.guard=none) (h2:o.dst=some d) (e:o.op = .load k a) (j:a.adr s=some (.glob i off)) (p:loadAt [] h (.glob i off) k=some v) :
  dy call o s h=some (a9 o.dst (.val v) s,h):=by
 unfold dy evRun;rw [h1,e];simp only [c7,j];have:loadAt s h (.glob i off) k=some v:=p;rw [this]; rfl
omit T hev0 in
theorem load_keeps {call:CallSem} {o:AOper} {k:Option Nat} {a:Opd} {s p:Slots} {h h':Heap} (h1:o.guard=none) (q:o.op = .load k a) (e:dy call o s h=some (p,h')):h'=h:=by
 unfold dy evRun at e;rw [h1,q] at e;simp only [c7] at e;cases d:a.adr s with
 | none=>rw [d] at e; cases e
 | some ad =>
  rw [d] at e;cases j:loadAt s h ad k with
  | none=>simp [ok1,j] at e
  | some v=>simp [ok1,j] at e; exact e.2.symm
theorem soft_late (hg:GidOK E) (h0:∀ (i:Nat) o,(H 0).objs[i]? = some o→∀ j ∈ o.ids,j < (H 0).size) (f2:μ0.length≤(H 0).size) (d2:(H 0).base≤(H 0).size) {L:Nat→Bool} {sD:Slots} {a:Act} {w:World} {x:Nat} {loc:Bool} {o:Oper} {q:AOper} (hU:Up n ms L x)
  (ho:aops x=some q) (d4:kr E nt ops loc o=some q) (hc:q.op.isCall=false) (d5:∀ cs,r x ≠ .var cs) (bm:Agree (S x) sD q.reads) (hI:Inv E lo nt μ0 w0 ds n ms H r D L sD a w)
  (next:Act→World→Prop) (hn:∀ a' w',Inv E lo nt μ0 w0 ds n ms H r D (fun y=>y == x || L y) (a9 q.dst (r x) sD) a' w'→next a' w')
  (hP:∃ y,Late n H D L x y) :
  if Region.wanted o (yielded ops a.tmps) then o.wpIn (F0 ro) 0 E.P a w next Q else next (a.put o.dst Go.undef) w:=by
 have hx:=hU.lt;obtain ⟨y0,d6⟩:=hP;obtain ⟨y,hl,bx⟩:=late_max n y0 (by omega) d6;obtain ⟨hy,c4,f3,d8,O,U,d9⟩:=hl;obtain ⟨f4,f5,c5,f6,p⟩:=yf d8;have hb:(H (y+1)).base=(H 0).base:=T.base hev0 (by omega);have ey:(H 0).size≤(H x).size:=T.mono hev0 (fk x) (by omega);obtain ⟨aa,f7,dd,dl⟩:=T.form hev0 hx ho hc;obtain ⟨⟨ez,e0⟩,_,_,_,e6⟩:=T.spec hev0 hx ho;have C:=T.soft x q hx ho
 have a0:OneSoft (H 0).size (ms x) (dsl D x) q (S x) (H x) (r x) (H (x+1)) (D x):=by
  rcases e6 with h | h
  ·rw [h.isc] at hc; cases hc
  ·exact h
 obtain ⟨_,ac,e7,e8⟩:=qy C a0
 have e9:∃ d k a i off v,q.guard=none∧q.dst=some d∧q.op = .load k a∧a.adr (S x)=some (.glob i off)∧r x = .val v∧loadAt [] (H (y+1)) (.glob i off) k=some v:=by
  have h1:=a0.ld;rw [h1] at p;unfold ldOf at p;split at p;case h_2=>simp [again] at p
  rename_i k a A;split at p;case h_2=>simp [again] at p
  rename_i d X ad;split at p;case h_2=>simp [again] at p
  rename_i i off v B al;simp only [again] at p;split at p;case h_2=>cases p
  rename_i u I;have:=AVal.eq_of p;subst this;exact ⟨d,k,a,i,off,u,X,ad,A,B,al,I⟩
 obtain ⟨d,k,a,i,off,v,X,ad,A,B,al,an⟩:=e9
 have J:ew q.op (S x)=[i]:=by
  unfold Opd.adr at B;split at B;case h_2=>cases B
  rename_i t;split at B <;> cases B
  rename_i hs;rw [A];simp [ew,ef,Opd.ev,hs,AVal.ids]
 have ea:O=i:=by rw [dd,J] at U;simpa using U
 subst ea;have a6:=(T.okId_iff hev0 hx).1 (e0 O (by rw [J]; simp));have ao:∀ {s' h'},dy noCall q (S x) ⟨(H x).objs,(H x).base,(H x).size⟩=some (s',h')→h'=⟨(H x).objs,(H x).base,(H x).size⟩:=fun e=>load_keeps X A e
 have ax:H (x+1)=H x∧(D x).ch=none:=by
  rcases aa with ⟨x0,e1,e2,e3,K⟩ | ⟨ob,f,hf,e1,e2,e3,K⟩ | ⟨j,ob,f,hf,hi,eb,ec,e1,e2,e3,K,e5⟩ | ⟨j,ob,v,hi,eb,ec,e1,e2,e3,K,e5⟩
  ·exact ⟨e3,K⟩
  ·exfalso; have:=congrArg Heap.size (ao e1); simp [Heap.size,Heap.push] at this
  ·rw [c5] at K; cases K
  ·rw [c5] at K; cases K
 obtain ⟨e3,K⟩:=ax
 have ay:∀ j,upd D (sz H) H x j=none:=fun j=>by
  cases I:upd D (sz H) H x j with
  | none=>rfl
  | some o2 =>
   exfalso;obtain ⟨u1,u2⟩:=qz (D:=D) (H:=H) (x:=x) (i:=j) (by rw [I]; simp);rw [e3] at u1;rcases u2 with u2 | u2
   ·omega
   ·simp [Did.writes,K,dl] at u2
 have ci:mem D (sz H) H L n O=((H (y+1)).objs[O]?).getD .dead:=by
  refine mem_at T hev0 (by omega) fun z N I=>?_
  by_cases cp:z=x
  ·subst cp; exact absurd (ay O) I
  ·rcases bh y z with cv | cv
   ·rw [decide_eq_false (by omega)];cases G:L z with
    | false=>rfl
    | true =>
     exfalso;have b2:=hU.above z N G
     have b1:(ms x).testBit z=false:=by
      cases hq:(ms x).testBit z with
      | false=>rfl
      | true=>have:=T.back x z hx hq; omega
     by_cases b5:x < z∧benign (H (z+1)) (D z) (D x)=true
     ·exact bx z cv ⟨N,G,b5.1,b5.2,O,U,I⟩
     ·exact I (T.crd hev0 hx N cp b1 b2 U a6 b5)
   ·rw [decide_eq_true (by omega)];cases G:L z with
    | true=>rfl
    | false =>
     exfalso;have ee:z≠y:=fun e=>by rw [e,c4] at G; cases G
     have b1:(ms y).testBit z=false:=by
      cases hq:(ms y).testBit z with
      | false=>rfl
      | true=>have:=hI.down y z hy c4 hq; rw [G] at this; cases this
     have b2:(ms z).testBit y=false:=by
      cases hq:(ms z).testBit y with
      | false=>rfl
      | true=>have:=T.back z y N hq; omega
     exact I (T.cww hev0 hy N ee b1 b2 d9)
 have eh:O < (H (y+1)).size:=by
  have h1:O < (H x).size:=by
   rcases a6 with hv | ⟨z,N,_,_,h4⟩
   ·omega
   ·have:=T.mono hev0 (show z+1≤x from N) (by omega); omega
  have:=T.mono hev0 (show x≤y+1 by omega) (by omega);omega
 have f0:(H (y+1)).size≤(H n).size:=T.mono hev0 hy (aj _);let W:=max (H n).size (H n).wmin
 have hW:(H n).wmin≤W:=Nat.le_max_right _ _
 have b6:∀ {sX:Slots},ew q.op sX=ew q.op (S x)→∀ z ∈ ef q.op,∀ v,z.ev sX=some v→∀ i ∈ v.ids,(⟨memL D H n L,(H 0).base,W⟩:Heap).get i=(⟨(H (y+1)).objs,(H (y+1)).base,(H (y+1)).size⟩:Heap).get i:=by
  intro sX ei z N v hv j hj;have h1:j ∈ ew q.op (S x):=by rw [← ei]; exact rdIds_mem N hv hj
  rw [J] at h1;have:j=O:=by simpa using h1
  subst this;simp only [Heap.get];rw [ie (by omega),ci];have ej:j < (H (y+1)).objs.length:=eh;rw [ai ej]; rfl
 have cx:=zb (o:=q.op) (S:=S x) (S2:=sD) (bm.sub fun t ht=>dr _ ht);have e1:dy noCall q (S x) ⟨(H (y+1)).objs,(H (y+1)).base,(H (y+1)).size⟩=some (a9 q.dst (.val v) (S x),⟨(H (y+1)).objs,(H (y+1)).base,(H (y+1)).size⟩):=load_run X ad A B an;obtain ⟨x1,c1,c2,_⟩:=iz (i8 C) bm e1
 have ek:∀ {i},okId (H 0).size (ms x) (dsl D x) i=true→okA ms H n x i:=fun h=>by
  rcases (T.okId_iff hev0 hx).1 h with h | ⟨z,N,em,h2⟩
  ·exact .inl h
  ·exact .inr ⟨z,by omega,.inr em,h2⟩
 rcases pn (h1:=⟨(H (y+1)).objs,(H (y+1)).base,(H (y+1)).size⟩) (h2:=⟨memL D H n L,(H 0).base,W⟩) C hc hb.symm (b6 cx) c2 with ⟨x2,d1,_,d3⟩ | ⟨ob,f,_,_,d3,_⟩ | ⟨j,ob,f,_,_,_,_,_,d3,_⟩ | ⟨j,ob,_,_,et,_,_,d3,_⟩
 ·refine rb hg d4 d3 hW hI.at' fun a' w' cy=>hn a' w' ?_
  have b7:memL D H n (fun y=>y == x || L y)=memL D H n L:=by unfold memL;apply pf;intro j _;exact jg (ay j)
  have bb:a9 q.dst (r x) sD=a9 q.dst x2 sD:=by
   have:a9 q.dst (r x) sD=a9 q.dst (gn q.dst (a9 q.dst (.val v) (S x))) sD:=by rw [al,nf]
   rw [this,c1,nf,d1]
  exact Inv.next T hU ho hI (by rw [b7,bb]; exact cy) (fun j hj=>ek (ac (by rw [e3]) j hj)) (fun j o2 I=>by rw [ay j] at I; cases I) d5
 ·exfalso; have:=congrArg Heap.size d3; simp [Heap.size,Heap.push] at this
 ·exfalso; have:=congrArg Heap.size d3; simp [Heap.size,Heap.push,Heap.put] at this
 ·exfalso;have:=congrArg Heap.wmin d3;have f1:j < (H (y+1)).size:=et;simp only [Heap.put] at this;omega
theorem soft_up (hg:GidOK E) (h0:∀ (i:Nat) o,(H 0).objs[i]? = some o→∀ j ∈ o.ids,j < (H 0).size) (ee:μ0.length≤(H 0).size) (cx:(H 0).base≤(H 0).size) {L:Nat→Bool} {sD:Slots} {a:Act} {w:World} {x:Nat} {loc:Bool} {o:Oper} {U:AOper} (hU:Up n ms L x)
  (ho:aops x=some U) (b7:kr E nt ops loc o=some U) (hc:U.op.isCall=false) (bm:∀ cs,r x ≠ .var cs) (bb:Agree (S x) sD U.reads) (hI:Inv E lo nt μ0 w0 ds n ms H r D L sD a w)
  (next:Act→World→Prop) (hn:∀ a' w',Inv E lo nt μ0 w0 ds n ms H r D (fun y=>y == x || L y) (a9 U.dst (r x) sD) a' w'→next a' w') :
  if Region.wanted o (yielded ops a.tmps) then o.wpIn (F0 ro) 0 E.P a w next Q else next (a.put o.dst Go.undef) w:=by
 have hx:=hU.lt;have hb:(H x).base=(H 0).base:=T.base hev0 (by omega);have f1:(H x).size≤(H (x+1)).size:=(T.evol hev0 hx).size;have f3:(H (x+1)).size≤(H n).size:=T.mono hev0 hx (aj _);have f6:(H 0).size≤(H x).size:=T.mono hev0 (fk x) (by omega);have bx:(H 0).base≤(H x).size:=by omega
 obtain ⟨dl,f7,cy,d5⟩:=T.form hev0 hx ho hc;obtain ⟨⟨f4,eh⟩,_,_,_,ei⟩:=T.spec hev0 hx ho;have q:=T.soft x U hx ho
 have e9:OneSoft (H 0).size (ms x) (dsl D x) U (S x) (H x) (r x) (H (x+1)) (D x):=by
  rcases ei with h | h
  ·rw [h.isc] at hc; cases hc
  ·exact h
 obtain ⟨_,c4,c5,e0⟩:=qy q e9
 have ci:∀ {i},okId (H 0).size (ms x) (dsl D x) i=true→okA ms H n x i:=fun h=>by
  rcases (T.okId_iff hev0 hx).1 h with h | ⟨z,hz,e6,h2⟩
  ·exact .inl h
  ·exact .inr ⟨z,by omega,.inr e6,h2⟩
 have d9:∀ {i},okId (H 0).size (ms x) (dsl D x) i=true→okL H n L i:=fun h=>by
  rcases (T.okId_iff hev0 hx).1 h with h | ⟨z,hz,e6,h2⟩
  ·exact .inl h
  ·exact .inr ⟨z,by omega,hU.below z (by omega) e6,h2⟩
 by_cases hP:∃ y,Late n H D L x y
 ·exact soft_late T hev0 hg h0 ee cx hU ho b7 hc bm bb hI next hn hP
 have e7:∀ i ∈ (D x).rd,i < (H x).size∧mem D (sz H) H L n i=((H x).objs[i]?).getD .dead:=fun i hi=>by
  rw [cy] at hi;have hv:=(T.okId_iff hev0 hx).1 (eh i hi);refine ⟨?_,mem_same T hev0 hU fun y hy ad h1 h2 em=>?_⟩;rotate_left
  ·by_cases d6:x < y∧benign (H (y+1)) (D y) (D x)=true
   ·cases X:upd D (sz H) H y i with
    | none=>rfl
    | some o=>exact absurd ⟨y,hy,em d6.1,d6.1,d6.2,i,by rw [cy]; exact hi,by rw [X]; simp⟩ hP
   ·exact T.crd hev0 hx hy ad h1 h2 (by rw [cy]; exact hi) hv d6
  rcases hv with hv | ⟨z,hz,_,_,h4⟩
  ·omega
  ·have:=T.mono hev0 (show z+1≤x from hz) (by omega); omega
 have ac:∀ {sX:Slots},ew U.op sX=ew U.op (S x)→∀ y ∈ ef U.op,∀ v,y.ev sX=some v→∀ i ∈ v.ids,(⟨memL D H n L,(H 0).base,(H n).size⟩:Heap).get i=(⟨(H x).objs,(H x).base,(H x).size⟩:Heap).get i:=by
  intro sX et y hy v hv i hi;have h1:i ∈ (D x).rd:=by rw [cy,← et]; exact rdIds_mem hy hv hi
  obtain ⟨h2,h3⟩:=e7 i h1;simp only [Heap.get];rw [ie (by omega),h3];have d8:i < (H x).objs.length:=h2;rw [ai d8]; rfl
 have b6:=zb (o:=U.op) (S:=S x) (S2:=sD) (bb.sub fun t ht=>dr _ ht);have f8:(H n).wmin≤(H (x+1)).wmin:=T.wmin hev0 hx (aj _);let W:=max (H n).size (H n).wmin
 have hW:(H n).wmin≤W:=Nat.le_max_right _ _;have al:(memL D H n L).length=(H n).size:=jy L;have ad:∀ {i},(H x).size < (H (x+1)).size→okL H n L i→i < (H n).size∧i≠(H x).size:=fun h1 h=>⟨okL_lt T hev0 h,fun e=>okL_new T hev0 hU h ⟨by omega,by omega⟩⟩
 have dd:∀ (k:Nat) (ob:AObj),(memL D H n L)[k]? = some ob→∀ i ∈ ob.ids,okL H n L i:=fun k ob hk i hi=>by
  have ey:k < (H n).size:=by rw [← al]; exact ah hk
  rw [ie ey] at hk; cases hk;exact hI.objs h0 k i hi
 have f5:=cOper_dst b7;rcases dl with ⟨x0,e1,e2,e3,e4⟩ | ⟨ob,f,hf,e1,e2,e3,e4⟩ | ⟨i,ob,f,hf,hi,ez,f0,e1,e2,e3,e4,e5⟩ | ⟨i,ob,v,hi,ez,f0,e1,e2,e3,e4,e5⟩
 ·-- nothing is made
  obtain ⟨x1,c1,c2,_⟩:=iz (i8 q) bb e1;rcases pn (h1:=⟨(H x).objs,(H x).base,(H x).size⟩) (h2:=⟨memL D H n L,(H 0).base,W⟩) q hc hb.symm (ac b6) c2 with ⟨x2,d1,_,K⟩ | ⟨ob,f,_,_,K,_⟩ | ⟨i,ob,f,_,_,_,_,_,K,_⟩ | ⟨i,ob,_,_,a0,_,_,K,_⟩
  ·refine rb hg b7 K hW hI.at' fun a' w' G=>hn a' w' ?_
   have ea:∀ j,upd D (sz H) H x j=none:=fun j=>by
    cases X:upd D (sz H) H x j with
    | none=>rfl
    | some o2 =>
     exfalso;obtain ⟨u1,u2⟩:=qz (D:=D) (H:=H) (x:=x) (i:=j) (by rw [X]; simp);rw [e3] at u1;rcases u2 with u2 | u2
     ·omega
     ·simp [Did.writes,e4,d5] at u2
   have a6:memL D H n (fun y=>y == x || L y)=memL D H n L:=by unfold memL;apply pf;intro j _;exact jg (ea j)
   have J:a9 U.dst (r x) sD=a9 U.dst x2 sD:=by rw [e2,c1,nf,d1]
   refine Inv.next T hU ho hI (by rw [a6,J]; exact G) (fun j C=>ci (c4 (by rw [e3]) j C)) (fun j o2 X=>by rw [ea j] at X; cases X) bm
  ·exfalso; have:=congrArg Heap.size K; simp [Heap.size,Heap.push] at this
  ·exfalso; have:=congrArg Heap.size K; simp [Heap.size,Heap.push,Heap.put] at this
  ·exfalso;have:=congrArg Heap.wmin K;have cp:i < (H x).size:=a0;simp only [Heap.put] at this;omega
 ·-- an object is made
  have I:(H (x+1)).size=(H x).size+1:=by simp [Heap.size,e3]
  obtain ⟨x1,c1,c2,_⟩:=iz (i8 q) bb e1;rcases pn (h1:=⟨(H x).objs,(H x).base,(H x).size⟩) (h2:=⟨memL D H n L,(H 0).base,W⟩) q hc hb.symm (ac b6) c2 with ⟨x2,_,d2,_⟩ | ⟨p,f2,aa,d1,K,d4⟩ | ⟨O,p,f2,_,_,a0,_,_,K,_⟩ | ⟨O,p,_,_,a0,_,_,K,_⟩
  ·exfalso; have:=congrArg Heap.size d2; simp [Heap.size,Heap.push] at this
  ·have cv:p=ob:=by have:=congrArg Heap.objs K;simp [Heap.push] at this;exact this.symm
   subst cv
   have B:∀ j,upd D (sz H) H x j=if j=(H x).size then some p else none:=fun j=>by
    unfold upd touched;by_cases C:j=(H x).size
    ·subst C;rw [if_pos ⟨by rw [show sz H (x+1)=(H (x+1)).size from rfl,I]; omega,.inl (aj _)⟩,if_pos rfl,e3]; exact wu rfl
    ·rw [if_neg C,if_neg];rintro ⟨h1,h2 | h2⟩
     ·have eb:j < (H (x+1)).size:=h1;have d8:(H x).size≤j:=h2;omega
     ·simp [Did.writes,e4,d5] at h2
   have A:=c5 p I (by rw [e3]; exact wu rfl)
   have J:a9 U.dst (r x) sD=a9 U.dst (f2 (H x).size) sD:=by rw [e2,c1,nf,d1]; rfl
   refine rb hg b7 d4 (by simp only [Heap.push]; exact hW) hI.at' fun a' w' G=>hn a' w' ?_
   have ao:=At.move (N:=(H n).size) (r:=(H x).size) (h:=⟨memL D H n L,(H 0).base,(H n).wmin⟩) (x:=f2 (H n).size) (ob:=p) (wm:=(H n).wmin) (d:=U.dst) (s:=sD) (by
     have:(⟨memL D H n L,(H 0).base,W⟩:Heap).size=(H n).size:=al;rw [this] at G; exact G) al (by rw [ie (by omega),mem_new T hev0 hU (aj _) (by omega)]) (by
     have:(H 0).base≤(H x).size:=bx;exact this) (by omega) (fun t y hy i hi=>ad (by omega) (hI.slots t y hy i hi)) (fun v hv i hi=>by
     have:=aa.ids (H n).size;rw [hv] at this;simp only [Slot.ids] at this;rw [this] at hi;simp at hi; omega) (fun cs=>aa.novar _ cs) (fun i hi=>ad (by omega) (d9 (A i hi))) (fun k o2 hk i hi=>ad (by omega) (dd k o2 hk i hi))
   rw [aa.ren,← J] at ao
   have a6:(memL D H n L).set (H x).size p=memL D H n (fun y=>y == x || L y):=by
    apply jj;intro j;rcases bh j (H n).size with C | C
    ·rw [ie C];by_cases ej:j=(H x).size
     ·subst ej;rw [ii,if_pos rfl,if_pos (by omega),wv T hev0 hU (by rw [B,if_pos rfl])]
     ·rw [aq (fun e=>ej e.symm),ie C,jg (by rw [B,if_neg ej])]
    ·rw [bw (by simp [al]; exact C),bw (by rw [jy]; exact C)]
   simp only [a6] at ao;refine Inv.next T hU ho hI ao (fun j C=>?_) (fun j o2 X k hk=>?_) bm
   ·refine .inr ⟨x,hx,.inl rfl,?_⟩
    have:r x=f (H x).size∨r x = .undef:=by
     rw [e2];cases U.dst with
     | none=>exact .inr rfl
     | some d=>exact .inl (by simp [gn,a9,sget])
    rcases this with e | e
    ·rw [e,hf.ids] at C; simp at C; omega
    ·rw [e] at C; simp [Slot.ids] at C
   ·rw [B] at X;split at X
    ·cases X; exact ci (A k hk)
    ·cases X
  ·exfalso;have:=congrArg Heap.wmin K;have cp:O < (H x).size:=a0;simp [Heap.push,Heap.put] at this;omega
  ·exfalso; have:=congrArg Heap.size K; simp [Heap.size,Heap.push,Heap.put] at this
 ·-- an object is made,another one is gone
  have I:(H (x+1)).size=(H x).size+1:=by simp [Heap.size,e3]
  obtain ⟨x1,c1,c2,_⟩:=iz (i8 q) bb e1;rcases pn (h1:=⟨(H x).objs,(H x).base,(H x).size⟩) (h2:=⟨memL D H n L,(H 0).base,W⟩) q hc hb.symm (ac b6) c2 with ⟨x2,_,d2,_⟩ | ⟨p,f2,aa,d1,K,d4⟩ | ⟨O,p,f2,aa,_,a0,_,d1,K,d4⟩ | ⟨O,p,_,_,a0,_,_,K,_⟩
  ·exfalso; have:=congrArg Heap.size d2; simp [Heap.size,Heap.push,Heap.put] at this
  ·exfalso;have:=congrArg Heap.wmin K;simp [Heap.push,Heap.put] at this;omega
  rotate_left
  ·exfalso; have:=congrArg Heap.size K; simp [Heap.size,Heap.push,Heap.put] at this
  ·have cp:O < (H x).size:=a0
   have e8:O=i:=by have:=congrArg Heap.wmin K;simp [Heap.push,Heap.put] at this;omega
   subst e8
   have cv:p=ob:=by have:=congrArg Heap.objs K;simp [Heap.push,Heap.put] at this;exact this.symm
   subst cv
   have B:∀ j,upd D (sz H) H x j=if j=(H x).size then some p else if j=O then some .dead else none:=fun j=>by
    unfold upd touched;by_cases C:j=(H x).size
    ·subst C;rw [if_pos ⟨by rw [show sz H (x+1)=(H (x+1)).size from rfl,I]; omega,.inl (aj _)⟩,if_pos rfl,e3]; exact wu (az ..)
    ·rw [if_neg C];by_cases ax:j=O
     ·subst ax;rw [if_pos ⟨by rw [show sz H (x+1)=(H (x+1)).size from rfl,I]; omega,.inr (by simp [Did.writes,e4])⟩,if_pos rfl,e3];have ay:j < (H x).objs.length:=a0;rw [ag (by simpa using ay),ii,if_pos rfl,if_pos ay]
     ·rw [if_neg ax,if_neg];rintro ⟨h1,h2 | h2⟩
      ·have eb:j < (H (x+1)).size:=h1;have d8:(H x).size≤j:=h2;omega
      ·simp [Did.writes,e4,d5] at h2;exact ax h2.symm
   have A:=c5 p I (by rw [e3]; exact wu (az ..))
   have J:a9 U.dst (r x) sD=a9 U.dst (f2 (H x).size) sD:=by rw [e2,c1,nf,d1]; rfl
   refine rb hg b7 d4 (by simp only [Heap.push,Heap.put]; omega) hI.at' fun a' w' G=>hn a' w' ?_
   have ec:((memL D H n L).set O .dead).length=(H n).size:=by rw [az]; exact al
   have ao:=At.move (N:=(H n).size) (r:=(H x).size) (h:=⟨(memL D H n L).set O .dead,(H 0).base,(H n).wmin⟩) (x:=f2 (H n).size) (ob:=p) (wm:=(H n).wmin) (d:=U.dst) (s:=sD) (by
     have:(⟨memL D H n L,(H 0).base,W⟩:Heap).size=(H n).size:=al;rw [this] at G; exact G) ec (by rw [aq (by omega),ie (by omega),mem_new T hev0 hU (aj _) (by omega)]) (by
     have:(H 0).base≤(H x).size:=bx;exact this) (by omega) (fun t y hy i hi=>ad (by omega) (hI.slots t y hy i hi)) (fun v hv i hi=>by
     have:=aa.ids (H n).size;rw [hv] at this;simp only [Slot.ids] at this;rw [this] at hi;simp at hi; omega) (fun cs=>aa.novar _ cs) (fun i hi=>ad (by omega) (d9 (A i hi))) (fun k o2 hk i hi=>by
     by_cases ek:O=k
     ·subst ek;rw [ii,if_pos rfl] at hk;split at hk
      ·cases hk; simp [AObj.ids] at hi
      ·cases hk
     ·rw [aq ek] at hk;exact ad (by omega) (dd k o2 hk i hi))
   rw [aa.ren,← J] at ao
   have a6:((memL D H n L).set O .dead).set (H x).size p=memL D H n (fun y=>y == x || L y):=by
    apply jj;intro j;rcases bh j (H n).size with C | C
    ·rw [ie C];by_cases ej:j=(H x).size
     ·subst ej;rw [ii,if_pos rfl,if_pos (by omega),wv T hev0 hU (by rw [B,if_pos rfl])]
     ·rw [aq (fun e=>ej e.symm)];by_cases b5:j=O
      ·subst b5;rw [ii,if_pos rfl,if_pos (by omega),wv T hev0 hU (by rw [B,if_neg ej,if_pos rfl])]
      ·rw [aq (fun e=>b5 e.symm),ie C,jg (by rw [B,if_neg ej,if_neg b5])]
    ·rw [bw (by simp [al]; exact C),bw (by rw [jy]; exact C)]
   simp only [a6] at ao;refine Inv.next T hU ho hI ao (fun j C=>?_) (fun j o2 X k hk=>?_) bm
   ·refine .inr ⟨x,hx,.inl rfl,?_⟩
    have:r x=f (H x).size∨r x = .undef:=by
     rw [e2];cases U.dst with
     | none=>exact .inr rfl
     | some d=>exact .inl (by simp [gn,a9,sget])
    rcases this with e | e
    ·rw [e,hf.ids] at C; simp at C; omega
    ·rw [e] at C; simp [Slot.ids] at C
   ·rw [B] at X;split at X
    ·cases X; exact ci (A k hk)
    ·split at X
     ·cases X; simp [AObj.ids] at hk
     ·cases X
 ·-- an object is changed
  have I:(H (x+1)).size=(H x).size:=by simp [Heap.size,e3]
  obtain ⟨x1,c1,c2,_⟩:=iz (i8 q) bb e1;rcases pn (h1:=⟨(H x).objs,(H x).base,(H x).size⟩) (h2:=⟨memL D H n L,(H 0).base,W⟩) q hc hb.symm (ac b6) c2 with ⟨x2,_,d2,_⟩ | ⟨p,f2,aa,d1,K,d4⟩ | ⟨O,p,f2,aa,_,a0,_,d1,K,d4⟩ | ⟨O,p,v2,_,a0,_,d1,K,d4⟩
  ·exfalso;have:=congrArg Heap.wmin d2;simp [Heap.put] at this;omega
  ·exfalso; have:=congrArg Heap.size K; simp [Heap.size,Heap.push,Heap.put] at this
  ·exfalso; have:=congrArg Heap.size K; simp [Heap.size,Heap.push,Heap.put] at this
  ·have cp:O < (H x).size:=a0
   have e8:O=i:=by have:=congrArg Heap.wmin K;simp [Heap.put] at this;omega
   subst e8;have ay:O < (H x).objs.length:=hi
   have cv:p=ob:=by have:=congrArg (fun h:Heap=>h.objs[O]?) K;simp only [Heap.put] at this;rw [ii,if_pos rfl,if_pos ay,ii,if_pos rfl,if_pos ay] at this;exact (ce this).symm
   subst cv
   have B:∀ j,upd D (sz H) H x j=if j=O then some p else none:=fun j=>by
    unfold upd touched;by_cases ax:j=O
    ·subst ax;rw [if_pos ⟨by rw [show sz H (x+1)=(H (x+1)).size from rfl,I]; omega,.inr (by simp [Did.writes,e4])⟩,if_pos rfl,e3];rw [ii,if_pos rfl,if_pos ay]
    ·rw [if_neg ax,if_neg];rintro ⟨h1,h2 | h2⟩
     ·have eb:j < (H (x+1)).size:=h1;have d8:(H x).size≤j:=h2;omega
     ·simp [Did.writes,e4,d5] at h2;exact ax h2.symm
   have A:=e0 O p I e4 (by rw [e3,ii,if_pos rfl,if_pos ay])
   have J:a9 U.dst (r x) sD=a9 U.dst (.val v2) sD:=by rw [e2,c1,nf,d1]
   rw [d1] at d4;refine rb hg b7 d4 (by simp only [Heap.put]; omega) hI.at' fun a' w' G=>hn a' w' ?_
   rw [← J] at G
   have a6:(memL D H n L).set O p=memL D H n (fun y=>y == x || L y):=by
    apply jj;intro j;rcases bh j (H n).size with C | C
    ·rw [ie C];by_cases b5:j=O
     ·subst b5;rw [ii,if_pos rfl,if_pos (by omega),wv T hev0 hU (by rw [B,if_pos rfl])]
     ·rw [aq (fun e=>b5 e.symm),ie C,jg (by rw [B,if_neg b5])]
    ·rw [bw (by simp [al]; exact C),bw (by rw [jy]; exact C)]
   simp only [Heap.put,a6] at G;refine Inv.next T hU ho hI G (fun j C=>ci (c4 I j C)) (fun j o2 X k hk=>?_) bm
   rw [B] at X;split at X
   ·cases X; exact ci (A k hk)
   ·cases X
end
end
end Go.Abs

namespace Go.Abs
section
variable {E:Env} {call:CallSem} {n:Nat} {aops:Nat→Option AOper} {ms:Nat→Nat} {S:Nat→Slots} {H:Nat→Heap} {r:Nat→Slot} {D:Nat→Did}
variable {lo nt:Nat} {μ0:MM} {w0:World} {ds:List Deferred} {ops:Array Oper} {Q:Exit→Act→World→Prop} {ro:Option Nat}
open Txt
section
variable (T:Txt call n aops ms S H r D) (hev0:CallEvol call)
include T hev0
theorem ye {x i:Nat} (hx:x < n) (h:Vis ms H x i):i < (H x).size:=by
 rcases h with h | ⟨y,d,_,_,e⟩
 ·exact fg h (T.mono hev0 (fk x) (by omega))
 ·exact fg e (T.mono hev0 d (by omega))
theorem hid_iff {x i:Nat} (hx:x < n) (hi:i < (H x).size):Hid (ms x) 0 (dsl D x) i ↔ ¬ Vis ms H x i:=by
 constructor
 ·rintro ⟨y,d,h1,h2,p,q⟩ e;have j:y < x:=by have:=ah h1; rwa [zbj] at this
  rw [sg j] at h1; cases h1;rw [T.lo hev0 (by omega)] at p;rw [T.hi hev0 (by omega)] at q;rw [dq] at h2;rcases e with e | ⟨z,C,hb,A,B⟩
  ·have:=T.mono hev0 (fk y) (by omega); omega
  ·have:=T.apart hev0 (by omega) (by omega) A B p q;subst this;rw [hb] at h2; cases h2
 ·intro e
  have h0:(H 0).size≤i:=by
   rcases bh i (H 0).size with h | h
   ·exact absurd (.inl h) e
   ·exact h
  obtain ⟨y,j,h1,h2⟩:=inRange h0 (x:=x) (aj x) hi;refine ⟨y,D y,sg j,?_,by rw [T.lo hev0 (by omega)]; exact h1,by rw [T.hi hev0 (by omega)]; exact h2⟩;rw [dq];cases hb:(ms x).testBit y with
  | false=>rfl
  | true=>exact absurd (.inr ⟨y,j,hb,h1,h2⟩) e
theorem all_vis {x i:Nat} (hx:x < n) (d:allSeen (ms x) 0 (dsl D x)=true) (hi:i < (H x).size):Vis ms H x i:=by
 rcases bh i (H 0).size with h | h
 ·exact .inl h
 ·obtain ⟨y,e,h1,h2⟩:=inRange h (x:=x) (aj x) hi;have:=tl _ 0 d y (D y) (sg e);rw [dq,T.lo hev0 (by omega),T.hi hev0 (by omega)] at this;rcases this with j | j
  ·exact .inr ⟨y,e,j,h1,h2⟩
  ·omega
theorem call_up (ec:CallOK E call) (hg:GidOK E) (h0:∀ (i:Nat) o,(H 0).objs[i]? = some o→∀ j ∈ o.ids,j < (H 0).size) (f5:μ0.length≤(H 0).size) (eb:(H 0).base≤(H 0).size) {L:Nat→Bool} {sD:Slots} {a:Act} {w:World} {x:Nat} {loc:Bool} {o:Oper} {W:AOper} (hU:Up n ms L x)
  (ho:aops x=some W) (cp:kr E nt ops loc o=some W) (hc:W.op.isCall=true) (ee:∀ cs,r x ≠ .var cs) (bm:Agree (S x) sD W.reads) (hI:Inv E lo nt μ0 w0 ds n ms H r D L sD a w)
  (next:Act→World→Prop) (hn:∀ a' w',Inv E lo nt μ0 w0 ds n ms H r D (fun y=>y == x || L y) (a9 W.dst (r x) sD) a' w'→next a' w') :
  if Region.wanted o (yielded ops a.tmps) then o.wpIn (F0 ro) 0 E.P a w next Q else next (a.put o.dst Go.undef) w:=by
 have hx:=hU.lt;have hb:(H x).base=(H 0).base:=T.base hev0 (by omega);have cv:(H x).size≤(H (x+1)).size:=(T.evol hev0 hx).size;have cx:(H (x+1)).size≤(H n).size:=T.mono hev0 hx (aj _);have f6:(H 0).size≤(H x).size:=T.mono hev0 (fk x) (by omega);have cy:(H n).wmin≤(H (x+1)).wmin:=T.wmin hev0 hx (aj _);obtain ⟨⟨d5,_⟩,_,_,_,eh⟩:=T.spec hev0 hx ho
 have ax:OneCall call (H 0).size (ms x) (dsl D x) W (S x) (H x) (r x) (H (x+1)) (D x):=by
  rcases eh with h | h
  ·exact h
  ·rw [h.isc] at hc; cases hc
 obtain ⟨X,f7,ei⟩:=ax.did;obtain ⟨s1,g,he,d6,d8,bx⟩:=ax.run;have a0:=cOper_dst cp;have a6:(memL D H n L).length=(H n).size:=jy L;have ay:=me hev0 he;have ej:g.base=(H 0).base:=ay.base.trans hb;have d9:∀ {i},Vis ms H x i→mem D (sz H) H L n i=((H x).objs[i]?).getD .dead:=fun B=>mem_same T hev0 hU fun y I c4 h1 h2 _=>T.cvis hev0 hx I c4 h1 h2 X B
 have J:∀ {i},Vis ms H x i→(memL D H n L)[i]? = (H x).objs[i]?:=fun {i} B=>by have hi:=ye T hev0 hx B;have O:i < (H x).objs.length:=hi;rw [ie (by omega),d9 B,ai O]; rfl
 have aa:∀ i,Vis ms H x i→∀ j ∈ (mem D (sz H) H L n i).ids,Vis ms H x j:=fun i B j A=>by
  rcases tm (D:=D) (sz:=sz H) (H:=H) (L:=L) (i:=i) n with ⟨h1,_⟩ | ⟨y,ob,h1,h2,h3,h4⟩
  ·rw [h1] at A;cases hq:(H 0).objs[i]? with
   | none=>rw [hq] at A; simp [AObj.ids] at A
   | some ob=>rw [hq] at A; exact .inl (h0 i ob hq j A)
  ·rw [h4] at A;have c4:y≠x:=fun e=>by subst e; rw [hU.not] at h2; cases h2
   have b5:(ms x).testBit y=true:=by
    cases hb:(ms x).testBit y with
    | true=>rfl
    | false =>
     have:=T.cvis hev0 hx h1 c4 hb (hU.above y h1 h2) X B;rw [h3] at this; cases this
   rcases (hI.upds y h1 h2).1 i ob h3 j A with h5 | ⟨z,hz,h5,h6⟩
   ·exact .inl h5
   ·have dd:(ms x).testBit z=true:=by
     rcases h5 with rfl | h5
     ·exact b5
     ·exact T.trans x y z hx b5 h5
    exact .inr ⟨z,T.back x z hx dd,dd,h6⟩
 obtain ⟨μ,ν,k1,k2,k3,k4,k5,k6⟩:=hI.at';have ek:(H x).size≤μ.length:=by rw [k2.len]; simp only [a6]; omega
 have K:∀ i,i < (H x).size→(Vis ms H x i→(hide (ms x) 0 (dsl D x) (H x).objs)[i]? = (H x).objs[i]?)∧(¬ Vis ms H x i→(hide (ms x) 0 (dsl D x) (H x).objs)[i]? = some .dead):=fun i hi=>by have O:i < (H x).objs.length:=hi;obtain ⟨q1,q2⟩:=hide_get (m:=ms x) (i:=i) (dsl D x) 0 (H x).objs;refine ⟨fun B=>q2 fun h=>(hid_iff T hev0 hx hi).1 h B,fun B=>?_⟩;rw [q1 ((hid_iff T hev0 hx hi).2 B),ai O]; rfl
 have em:Rel E (maskM (Vis ms H x) (H x).size μ) ⟨hide (ms x) 0 (dsl D x) (H x).objs,(H x).base,(H x).size⟩ w:=by
  have:=k2.mask (vis:=Vis ms H x) (k:=(H x).size) (os:=hide (ms x) 0 (dsl D x) (H x).objs) (wm':=(H x).size) (by rw [a6]; omega) (by omega) (ky ..) (fun i hi B=>by rw [(K i hi).1 B]; exact (J B).symm) (fun i hi B=>(K i hi).2 B) (fun i ob hi B C j A=>by rw [ie (by omega)] at C; cases C;have:=aa i B j A;exact ⟨ye T hev0 hx this,this⟩)
  rw [hb]; exact this
 let p:Nat→Bool:=fun t=>W.reads.contains t || isVar sD t
 have dl:Agree (S x) (restr p sD) W.reads:=by
  refine Agree.of (fun t U=>?_) (fun t cs=>?_)
  ·rw [qx,if_pos (by simp [p,U])]; exact bm.at_ t U
  ·rw [bm.var t cs id,qx];constructor
   ·intro h; rw [if_pos (by simp [p,isVar,h])]; exact h
   ·intro h; split at h
    ·exact h
    ·cases h
 have et:FRel E lo ν (maskM (Vis ms H x) (H x).size μ) (sget (restr p sD)) a.tmps w:=by
  have c5:FRel E lo ν μ (sget (restr p sD)) a.tmps w:=k3.less fun t y I=>by
   rw [qx] at I; split at I
   ·exact I
   ·cases I
  refine c5.mask ek fun t y I i hi=>?_
  rw [qx] at I;split at I;case isFalse=>cases I
  rename_i hp
  have B:Vis ms H x i:=by
   simp only [p,c9,sy,decide_eq_true_eq] at hp;rcases hp with hp | hp
   ·refine (T.okId_iff hev0 hx).1 (d5 t hp i ?_);unfold slotIds;rw [bm.at_ t hp,I]; exact hi
   ·unfold isVar at hp;rw [I] at hp;cases y with
    | var cs=>exact .inl (hI.vars t cs I i hi)
    | _=>simp at hp
  exact ⟨ye T hev0 hx B,B⟩
 obtain ⟨x1,c1,c2,_⟩:=iz (i8 (T.soft x W hx ho)) dl he;refine call_step ec hg cp hc c2 et em fun x2 v w' μ' d1 d2 d3 d4=>?_
 have ac:g.size=(H (x+1)).size:=d8.symm;have ad:∀ {i:Nat} {ob:AObj},g.objs[i]? = some ob→∀ j ∈ ob.ids,j < (H (x+1)).size:=fun ey j A=>by rw [← ac]; exact d4.ids ey j A
 have ez:∃ v',SlotIs E μ' (r x) v'∧a.put o.dst v=a.put W.dst v':=by
  rw [← a0.1];cases hd:W.dst with
  | none=>exact ⟨Go.undef,.inl ⟨by rw [d6,hd]; rfl,rfl⟩,rfl⟩
  | some d =>
   refine ⟨v,?_,rfl⟩
   have e1:x1=x2:=by rw [hd] at d1;simp only [a9] at d1;injection d1 with d1 _;injection d1
   have e2:r x=x1:=by rw [d6,c1,hd]; simp [gn,a9,sget]
   rw [e2,e1]; exact d2
 obtain ⟨v',e0,e3⟩:=ez;rw [e3]
 have b6:∀ j ∈ (r x).ids,j < (H (x+1)).size:=fun j A=>by
  rcases e0 with ⟨e,_⟩ | ⟨u,e,hu⟩
  ·rw [e] at A; simp [Slot.ids] at A
  ·rw [e] at A;have:=hu.ids_lt j A;rw [d4.len] at this;have h2:g.objs.length=g.size:=rfl;omega
 have ci:(∀ i,i < (H (x+1)).size→(Now (Vis ms H x) (H x).size (H (x+1)).size i)→(H (x+1)).objs[i]? = g.objs[i]?)∧(∀ i,(D x).writes i=true→i < (H x).size→Vis ms H x i) ∧
   (∀ i ob,Now (Vis ms H x) (H x).size (H (x+1)).size i→g.objs[i]? = some ob→∀ j ∈ ob.ids,Now (Vis ms H x) (H x).size (H (x+1)).size j)∧(∀ j ∈ (r x).ids,Now (Vis ms H x) (H x).size (H (x+1)).size j)∧((H n).wmin≤g.wmin∨(H x).size≤g.wmin):=by
  have b7:allSeen (ms x) 0 (dsl D x)=true→(H (x+1)).objs=g.objs→((H n).wmin≤g.wmin∨(H x).size≤g.wmin)→_:=fun bb al hw=>by
   have q:∀ j,j < (H (x+1)).size→Now (Vis ms H x) (H x).size (H (x+1)).size j:=fun j A=>by
    rcases bh j (H x).size with h | h
    ·exact .inl ⟨h,all_vis T hev0 hx bb h⟩
    ·exact .inr ⟨h,A⟩
   exact And.intro (fun (i:Nat) (_:i < (H (x+1)).size) (_:Now (Vis ms H x) (H x).size (H (x+1)).size i)=>congrArg (fun l=>l[i]?) al) (And.intro (fun (i:Nat) (_:(D x).writes i=true) (hi:i < (H x).size)=>all_vis T hev0 hx bb hi)
    (And.intro (fun (i:Nat) (ob:AObj) (_:Now (Vis ms H x) (H x).size (H (x+1)).size i) (C:g.objs[i]? = some ob) j A=>q j (ad C j A)) (And.intro (fun j A=>q j (b6 j A)) hw)))
  rcases bx with ⟨q1,q2,q3,q4⟩ | ⟨q1,q2,q3,q4⟩ | ⟨q1,q2,q3,q4⟩
  ·refine b7 q1 (by rw [q4]) (.inl ?_);rw [q4] at cy;have:(H n).wmin≤min (H x).wmin g.wmin:=cy;omega
  ·exact b7 q1 (by rw [q4]) (.inr q2)
  ·have an:∀ i,i < (H x).size→g.objs[i]? = (hide (ms x) 0 (dsl D x) (H x).objs)[i]?:=fun i hi=>by have:=ay.objs i (by simp only [Heap.size,ky]; exact hi) (by omega);exact this
   have al:(H (x+1)).objs=(H x).objs++g.objs.drop (H x).size:=by rw [q4]
   refine ⟨fun i hi q=>?_,fun i hw hi=>?_,fun i ob q C j A=>?_,fun j A=>?_,.inr q1⟩
   ·rw [al];rcases bh i (H x).size with h | h
    ·have h':i < (H x).objs.length:=h;rw [ag h',an i h];refine ((K i h).1 ?_).symm;rcases q with h2 | h2
     ·exact h2.2
     ·omega
    ·have h':(H x).objs.length≤i:=h;rw [aw h',dt];congr 1;show (H x).size+(i - (H x).size)=i;omega
   ·simp [Did.writes,ei,q2] at hw
   ·have f0:=ad C j A;rcases bh i (H x).size with h | h
    ·have B:Vis ms H x i:=by
      rcases q with h2 | h2
      ·exact h2.2
      ·omega
     rw [an i h,(K i h).1 B,← J B,ie (by omega)] at C;cases C;have:=aa i B j A;exact .inl ⟨ye T hev0 hx this,this⟩
    ·have ao:ob ∈ g.objs.drop (H x).size:=by refine br (i:=i - (H x).size) ?_;rw [dt,show (H x).size+(i - (H x).size)=i by omega]; exact C
     rcases q3 j (gb _ (dx.2 ⟨ob,ao,A⟩)) with h2 | h2
     ·have:=(T.okId_iff hev0 hx).1 h2;exact .inl ⟨ye T hev0 hx this,this⟩
     ·exact .inr ⟨h2,f0⟩
   ·rcases q3 j (dr _ A) with h2 | h2
    ·have:=(T.okId_iff hev0 hx).1 h2;exact .inl ⟨ye T hev0 hx this,this⟩
    ·exact .inr ⟨h2,b6 j A⟩
 obtain ⟨e4,f1,e5,e6,f2⟩:=ci
 have N:∀ i,touched D (sz H) x i→Now (Vis ms H x) (H x).size (H (x+1)).size i:=fun i ⟨t1,t2⟩=>by
  have f3:i < (H (x+1)).size:=t1;rcases bh i (H x).size with h | h
  ·rcases t2 with t2 | t2
   ·have f8:(H x).size≤i:=t2;omega
   ·exact .inl ⟨h,f1 i t2 h⟩
  ·exact .inr ⟨h,f3⟩
 have G:∀ i,Now (Vis ms H x) (H x).size (H (x+1)).size i→i < (H (x+1)).size:=fun i h=>by rcases h with h | h <;> omega
 have ao:∀ i,Now (Vis ms H x) (H x).size (H (x+1)).size i→(memL D H n fun y=>y == x || L y)[i]? = (H (x+1)).objs[i]?:=fun i q=>by
  have hi:=G i q;have O:i < (H (x+1)).objs.length:=hi;rw [ie (by omega)];by_cases U:touched D (sz H) x i
  ·have hu:upd D (sz H) H x i=some ((H (x+1)).objs[i]):=by unfold upd; rw [if_pos U,ai O]
   rw [wv T hev0 hU hu,ai O]
  ·have hu:upd D (sz H) H x i=none:=by unfold upd; rw [if_neg U]
   rw [jg hu]
   have e7:i < (H x).size:=by
    rcases bh i (H x).size with h | h
    ·exact h
    ·exact absurd ⟨hi,.inl h⟩ U
   have B:Vis ms H x i:=by
    rcases q with h | h
    ·exact h.2
    ·omega
   have hw:(D x).writes i=false:=by
    cases hq:(D x).writes i with
    | false=>rfl
    | true=>exact absurd ⟨hi,.inr hq⟩ U
   rw [d9 B,T.unwritten hev0 hx e7 hw];have e8:i < (H x).objs.length:=e7;rw [ai e8]; rfl
 have e9:=At.join (E:=E) (lo:=lo) (nt:=nt) (ds:=ds) (objs:=memL D H n L) (objs':=memL D H n fun y=>y == x || L y) (base:=(H 0).base) (wF:=(H n).wmin) (lo1:=(H x).size) (hi1:=(H (x+1)).size) (vis:=Vis ms H x) (d:=W.dst) (x:=r x) (v:=v')
  k1 k2 k3 k4 k5 k6 cv (by rw [a6]; exact cx) (by omega) d3 d4 ac ej (fun i hi B=>by
   rcases bh i (H 0).size with h | h
   ·exact absurd (.inl h) B
   ·omega) ⟨by omega,fun i hi=>.inl (by omega)⟩ f2 (fun i h1 h2=>by rw [ie (by omega),mem_new T hev0 hU h1 h2]) (by rw [jy,jy]) (fun i q=>by rw [ao i q,e4 i (G i q) q])
  (fun i hi q=>by
   rw [a6] at hi;rw [ie hi,ie hi,jg];unfold upd;rw [if_neg fun U=>q (N i U)]) e5 (fun i ob C j A=>okL_new T hev0 hU (by
   have hi:i < (H n).size:=by rw [← a6]; exact ah C
   rw [ie hi] at C; cases C;exact hI.objs h0 i j A)) (fun t y I j A=>okL_new T hev0 hU (hI.slots t y I j A)) e0 e6 (fun t U=>a0.2 t (by rw [← a0.1]; exact U))
 have ea:∀ j,Now (Vis ms H x) (H x).size (H (x+1)).size j→okA ms H n x j:=fun j h=>by
  rcases h with h | h
  ·rcases h.2 with h2 | ⟨z,hz,f4,h2⟩
   ·exact .inl h2
   ·exact .inr ⟨z,by omega,.inr f4,h2⟩
  ·exact .inr ⟨x,hx,.inl rfl,h⟩
 refine hn _ _ (Inv.next T hU ho hI e9 (fun j A=>ea j (e6 j A)) (fun i ob hu j A=>?_) ee);unfold upd at hu;split at hu
 ·rename_i U;have q:=N i U;rw [e4 i (G i q) q] at hu;exact ea j (e5 i ob q hu j A)
 ·cases hu
end
end
end Go.Abs

namespace Go.Abs
section
variable {E:Env} {lo nt:Nat} {μ0:MM} {w0:World} {ds:List Deferred} {s:Slots} {h:Heap} {call:CallSem} {ops:Array Oper} {locs:List Nat} {aZ:List AOper} {Q:Exit→Act→World→Prop} {ro:Option Nat}
open Txt
theorem At.lower {a:Act} {w:World} {os:List AObj} {base wm wm':Nat} (d:At E lo nt μ0 w0 ds s ⟨os,base,wm⟩ a w) (hw:wm'≤wm):At E lo nt μ0 w0 ds s ⟨os,base,wm'⟩ a w:=by obtain ⟨μ,ν,e,j,p⟩:=d;exact ⟨μ,ν,e.weaken hw fun _ h _=>h,j.same rfl rfl rfl,p⟩
theorem open_any (hc:CallOK E call) (hev0:CallEvol call) (hg:GidOK E) (ac:ll E nt ops locs 0 ops.toList=some aZ) (hb:edgesBack ops=true)
  {p n:Nat} {h1:Heap} {s1:Slots} (cx:p+n≤aZ.length) (cy:waits (befs ops.toList []) (p+n)=true)
  (d1:∀ x y oi oj,x < n→y < n→aZ[p+x]? = some oi→aZ[p+y]? = some oj→apart (befs ops.toList []) (p+x) (p+y) oi oj=true)
  (C:∀ x o,x < n→aZ[p+x]? = some o→soft o.op=true) {ms:List Nat} (d2:∀ x,x < n→ms.getD x 0=(befs ops.toList []).getD (p+x) 0 >>> p)
  (d3:uq call ms ((aZ.drop p).take n) s h=some (s1,h1))
  (hk:∀ q a' w',Exact ops q (p+n)→At E lo nt μ0 w0 ds s1 h1 a' w'→wpAnyIn (F0 ro) 0 E.P .any ops Q (ops.size - (p+n)) q a' w') :
  ∀ B a w,Exact ops B p→At E lo nt μ0 w0 ds s h a w→wpAnyIn (F0 ro) 0 E.P .any ops Q (ops.size - p) B a w:=by
 intro B a w d4 X;obtain ⟨q1,q2⟩:=kj _ _ _ ac;simp only [gd] at q1;have G:=m9 (ops:=ops) ops.toList [] (by simp) (fun k i hk=>by simp at hk);have ad:=chain_bit hb ops.toList [] (by simp) (fun k i hk=>by simp at hk);have al:∀ x,x < n→((aZ.drop p).take n)[x]? = aZ[p+x]?:=fun x hx=>by rw [fp hx,dt]
 have a0:((aZ.drop p).take n).length=n:=by simp; omega
 obtain ⟨S,H,r,D,b1,b2,b3,b4,b5⟩:=open_text _ _ _ _ _ _ _ d3;rw [a0] at b3 b4
 have an:∀ x,x < n→∃ o J,ops[p+x]? = some o∧aZ[p+x]? = some J∧kr E nt ops (locs.contains (p+x)) o=some J:=by
  intro x hx;have ao:p+x < ops.size:=by omega
  obtain ⟨J,h2,O⟩:=q2 (p+x) ops[p+x] (by simp [ao]);exact ⟨ops[p+x],J,by simp [ao],h2,by simpa using O⟩
 have tb:∀ x y,x < n→((ms.getD x 0).testBit y=true ↔ ((befs ops.toList []).getD (p+x) 0).testBit (p+y)=true):=fun x y hx=>by rw [d2 x hx,Nat.testBit_shiftRight]
 have T:Txt call n (fun x=>aZ[p+x]?) (fun x=>ms.getD x 0) S H r D:=by
  refine ⟨fun x o hx ho=>?_,fun x hx=>?_,fun x o hx ho=>C x o hx ho,fun x y hx A=>?_,fun x y z hx A hz=>?_⟩
  ·have:=b5 x o (by rw [al x hx]; exact ho);simp only [dw] at this;rw [← b2] at this;exact this
  ·obtain ⟨_,J,_,h2,_⟩:=an x hx;exact ⟨J,h2⟩
  ·have:=zbf hb (G _ _ ((tb x y hx).1 A)); omega
  ·have h2:=G _ _ ((tb x y hx).1 A);have dl:=zbf hb h2;have d5:y < n:=by omega
   have O:=G _ _ ((tb y z d5).1 hz);exact (tb x z hx).2 (ad _ _ (by simp; omega) (chain_trans h2 O))
 have ax:=X.ids;obtain ⟨W,ay,b6⟩:=ax;have I:H 0=h:=b2
 have N:(H 0).base≤(H 0).size:=by obtain ⟨_,_,_,k2,_⟩:=X;rw [I]; exact k2.bs
 have b7:(H 0).size≤(H n).size:=T.mono hev0 (fk n) (aj _);have h0:∀ (i:Nat) o,(H 0).objs[i]? = some o→∀ j ∈ o.ids,j < (H 0).size:=by rw [I]; exact ay
 have bb:μ0.length≤(H 0).size:=by rw [I]; exact b6
 refine any_order ac hb cx cy d1 S r b1 (fun x J hx ho=>?_) (Inv E lo nt μ0 w0 ds n (fun x=>ms.getD x 0) H r D) (fun L sD a w x o J hx h2 O h4 hL bm bx c4 hI next hn=>?_) (fun q sD a' w' c5 d6 hI=>?_) B a w d4 ?_
 ·obtain ⟨t1,t2,t3,_⟩:=T.one x J hx ho;refine ⟨t2,fun cs e=>?_,t3⟩;obtain ⟨_,_,_,_,hs | hs⟩:=T.spec hev0 hx ho
  ·obtain ⟨s2,g,he,A,_⟩:=hs.run;obtain ⟨x0,c1,_,c3⟩:=iz (S2:=S x) (i8 (C x J hx ho)) (Agree.of (fun _ _=>rfl) (fun _ _=>Iff.rfl)) he;rw [A,c1] at e;cases hd:J.dst with
   | none=>rw [hd] at e; cases e
   | some d=>rw [hd] at e; simp [gn,a9,sget] at e; exact c3 cs e
  ·obtain ⟨s2,g,he,A,_⟩:=hs.run;obtain ⟨x0,c1,_,c3⟩:=iz (S2:=S x) (i8 (C x J hx ho)) (Agree.of (fun _ _=>rfl) (fun _ _=>Iff.rfl)) he;rw [A,c1] at e;cases hd:J.dst with
   | none=>rw [hd] at e; cases e
   | some d=>rw [hd] at e; simp [gn,a9,sget] at e; exact c3 cs e
 ·have hU:Up n (fun x=>ms.getD x 0) L x:=⟨hx,hL,fun y A d8=>bm y A ((tb x y hx).1 d8),fun y A hl=>by
   cases hq:(ms.getD y 0).testBit x with
   | false=>rfl
   | true =>
    have:=(tb y x A).1 hq;rw [bx y A hl] at this; cases this⟩
  have ci:∀ cs,r x ≠ .var cs:=by
   intro cs e;obtain ⟨_,_,_,_,hs | hs⟩:=T.spec hev0 hx O
   ·obtain ⟨s2,g,he,A,_⟩:=hs.run;obtain ⟨x0,c1,_,c3⟩:=iz (S2:=S x) (i8 (C x J hx O)) (Agree.of (fun _ _=>rfl) (fun _ _=>Iff.rfl)) he;rw [A,c1] at e;cases hd:J.dst with
    | none=>rw [hd] at e; cases e
    | some d=>rw [hd] at e; simp [gn,a9,sget] at e; exact c3 cs e
   ·obtain ⟨s2,g,he,A,_⟩:=hs.run;obtain ⟨x0,c1,_,c3⟩:=iz (S2:=S x) (i8 (C x J hx O)) (Agree.of (fun _ _=>rfl) (fun _ _=>Iff.rfl)) he;rw [A,c1] at e;cases hd:J.dst with
    | none=>rw [hd] at e; cases e
    | some d=>rw [hd] at e; simp [gn,a9,sget] at e; exact c3 cs e
  cases cp:J.op.isCall with
  | true=>exact call_up T hev0 hc hg h0 bb N hU O h4 cp ci c4 hI next hn
  | false=>exact soft_up T hev0 hg h0 bb N hU O h4 cp ci c4 hI next hn
 ·refine hk q a' w' c5 ?_
  have cv:memL D H n (fun x=>decide (x < n))=(H n).objs:=by
   apply jj;intro j;rcases bh j (H n).size with U | U
   ·have d9:j < (H n).objs.length:=U;rw [ie U,q9 (L':=fun _=>true) n fun y A _=>decide_eq_true A,zbk (n:=n) (fun _=>rfl) (fun y A=>(T.evol hev0 A).size) (fun y i A hi hw=>T.unwritten hev0 A hi hw) n (aj _),ai d9];rfl
   ·rw [bw (by rw [jy]; exact U),bw U]
  have dd:(⟨memL D H n (fun x=>decide (x < n)),(H 0).base,(H n).wmin⟩:Heap)=h1:=by rw [cv,← T.base hev0 (aj n),b4]
  have:=hI.at';rw [dd] at this;obtain ⟨μ,ν,k1,k2,k3,k4⟩:=this;exact ⟨μ,ν,k1,k2,k3.congr fun t=>by rw [d6 t,b3],k4⟩
 ·have a6:memL D H n (fun _=>false)=h.objs++List.replicate ((H n).size - h.size) .dead:=by
   apply jj;intro j
   have hm:∀ k,mem D (sz H) H (fun _=>false) k j=((H 0).objs[j]?).getD .dead:=by
    intro k;induction k with
    | zero=>rfl
    | succ k ih=>simp only [mem]; rw [if_neg (by simp),ih]
   rcases bh j (H n).size with U | U
   ·rw [ie U,hm n,I];rcases bh j h.size with aa | aa
    ·have K:j < h.objs.length:=aa;rw [ag K,ai K]; rfl
    ·have K:h.objs.length≤j:=aa;rw [aw K,bw K,ft,if_pos]
     ·rfl
     ·show j - h.size < (H n).size - h.size
      omega
   ·rw [bw (by rw [jy]; exact U),bw];rw [I] at b7;have:h.objs.length=h.size:=rfl;simp; omega
  refine ⟨?_,fun t y A i hi=>.inl (by rw [I]; exact W t y A i hi),fun t cs A i hi=>by rw [I]; exact W t (.var cs) A i hi,(fun _ _ _ h _=>absurd h (by simp)),(fun _ _ h=>absurd h (by simp))⟩;rw [a6];have h2:=(X.reserve ((H n).size - h.size)).lower (wm':=(H n).wmin) (by rw [← I]; exact T.wmin hev0 (fk n) (aj _));rw [I];exact h2
end
end Go.Abs

namespace Go.Abs
section
variable {E:Env} {lo nt:Nat} {μ0:MM} {w0:World} {ds:List Deferred} {call:CallSem} {ro:Option Nat} {V:List Nat}
theorem zo {h0:Heap}:∀ (d:List AOper) (s s1:Slots) (h1:Heap),evQuietV call V d s h0=some (s1,h1) →
  h1=h0∧∃ (S:Nat→Slots),S 0=s∧S d.length=s1∧∀ (x:Nat) (o:AOper),d[x]? = some o →
   (∃ h',dy call o (S x) { h0 with wmin:=h0.size }=some (S (x+1),h')∧h'.size=h0.size∧h'.wmin=h0.size)∧quietOk V o (S x)=true
 | [],s,s1,h1,e=>by simp only [evQuietV] at e; cases e;exact ⟨rfl,fun _=>s,rfl,rfl,fun x o hx=>by simp at hx⟩
 | o :: d,s,s1,h1,e=>by
  simp only [evQuietV] at e;split at e;case h_2=>cases e
  rename_i j h2 p;split at e;case isFalse=>cases e
  rename_i q;obtain ⟨a1,a2,a3⟩:=q;obtain ⟨b1,S,b2,b3,b4⟩:=zo d j s1 h1 e;refine ⟨b1,fun x=>match x with | 0=>s | x+1=>S x,rfl,by simpa using b3,fun x y hx=>?_⟩;cases x with
  | zero =>
   simp at hx; subst hx;exact ⟨⟨h2,by simp only [b2]; exact p,a1,a2⟩,a3⟩
  | succ x =>
   simp at hx;exact b4 x y hx
def NoLoc (V:List Nat) (S:Slots):Prop:=∀ t u o,sget S t=some (.loc u o)→V.contains u=false
theorem xh:∀ (s:Slots),noLocs V s=true→NoLoc V s
 | [],_=>fun t u o e=>by cases e
 | (d,x) :: r,h=>by
  intro t u o e;simp only [sget] at e;split at e
  ·cases e;simp only [noLocs,bc,ep] at h;exact h.1
  ·refine xh r ?_ t u o e;cases x <;> simp only [noLocs] at h <;> first | exact h | (simp only [bc] at h; exact h.2)
theorem sets_calm {o:AOper} (h:calm o.op=true):o.sets V=o.dst:=by
 unfold AOper.sets;split
 ·rename_i d; rw [d] at h; cases h
 ·rfl
theorem quietOk_calm {o:AOper} {S:Slots} (h:calm o.op=true):quietOk V o S=((o.dst.all fun d=>!isVar S d && !V.contains d) && (o.reads.all fun u=>!looksAt V S u)):=by
 unfold quietOk;split
 ·rename_i e; rw [e] at h; cases h
 ·rename_i e; rw [e] at h; cases h
 ·rfl
theorem adr_inV {S:Slots} {x:Opd} (d:∀ u ∈ x.reads,looksAt V S u=false) {t o:Nat} (h:x.adr S=some (.loc t o)):V.contains t=false:=by
 cases x with
 | const v=>cases h
 | tmp u =>
  have h1:=d u (by simp [Opd.reads]);unfold looksAt at h1;simp only [i9] at h1;simp only [Opd.adr] at h;split at h
  ·cases h
  ·cases h; exact h1.1
  ·rename_i t' e hs; cases h; rw [hs] at h1; exact h1.2
  ·cases h
theorem pm {S:Slots} {h:Heap} {v:Option AVal} {x:Slot} {d:Slots} {h':Heap} (e:ok1 S h v=some (x,d,h')) {t o:Nat} (hx:x = .loc t o):False:=by obtain ⟨u,rfl,rfl,rfl,rfl⟩:=fo e;cases hx
theorem op_loc {S:Slots} {h:Heap} {o:AOp} {d:Nat} {x:Slot} {A:Slots} {h':Heap} (hc:calm o=true) (q:∀ u ∈ o.reads,looksAt V S u=false) (e:c7 call d o S h=some (x,A,h')) :
  ∀ t off,x = .loc t off→V.contains t=false:=by
 intro t off hx;have y:∀ v:AVal,x ≠ .val v:=fun v e=>by rw [hx] at e; cases e
 cases o with
 | faddr a n =>
  simp only [c7] at e;split at e
  ·exact (pm e hx).elim
  ·rename_i p;split at e
   ·cases e; cases hx; exact adr_inV q p
   ·cases e
  ·cases e
 | aaddr n k a i =>
  simp only [c7] at e;split at e
  ·exact (pm e hx).elim
  ·rename_i p _;split at e
   ·rw [ae] at e;obtain ⟨j,_,e⟩:=e;cases e; cases hx;exact adr_inV (fun u B=>q u (by simp only [AOp.reads,bz]; exact .inl B)) p
   ·cases e
  ·cases e
 | nilcheck a =>
  simp only [c7] at e;split at e
  ·exact (pm e hx).elim
  ·split at e
   ·rename_i p;split at e
    ·cases e; cases hx; exact adr_inV q p
    ·cases e
   ·cases e
 | lalloc z=>cases hc
 | lbox a=>cases hc
 | store n a b=>cases hc
 | copy C G s1=>cases hc
 | conv k a =>
  simp only [c7] at e;split at e
  ·unfold n8 at e;cases k <;> simp only at e
   ·split at e
    ·exact (pm e hx).elim
    ·cases e
   ·split at e
    ·exact (pm e hx).elim
    ·cases e
   ·split at e
    ·split at e
     ·cases e; cases hx
     ·cases e
    ·cases e
   ·split at e
    ·split at e
     ·exact (pm e hx).elim
     ·cases e
    ·cases e
   ·split at e
    ·split at e
     ·split at e
      ·cases e; cases hx
      ·cases e
     ·cases e
    ·cases e
  ·cases e
 | nextStr a=>cases e
 | _ =>
  simp only [c7] at e
  first
   | exact (pm e hx).elim
   | (cases e; cases hx)
   | (split at e <;> first
     | exact (pm e hx).elim
     | (cases e; done)
     | (cases e; cases hx)
     | (rw [ae] at e; obtain ⟨_,_,e⟩:=e; cases e; cases hx)
     | (split at e <;> first
       | exact (pm e hx).elim
       | (cases e; done)
       | (cases e; cases hx)
       | (rw [ae] at e; obtain ⟨_,_,e⟩:=e; cases e; cases hx)))
theorem oper_loc {S:Slots} {h:Heap} {o:AOper} {x:Slot} {h':Heap} (hc:calm o.op=true) (A:∀ u ∈ o.reads,looksAt V S u=false) (e:dy call o S h=some (a9 o.dst x S,h')) (q:NoLoc V S) :
  NoLoc V (a9 o.dst x S):=by
 have run:∀ p h',evRun call o S h=some (p,h')→NoLoc V p:=by
  intro p h' e;unfold evRun at e;split at e;case h_2=>cases e
  rename_i x1 s1 h1 y;cases e;intro t u off d;obtain ⟨B,_,_⟩:=op_congr (V:=fun _=>False) (S2:=S) hc (Agree.of (fun _ _=>rfl) (fun _ _=>Iff.rfl)) _ _ _ y;subst B;rw [el] at d;split at d
  ·cases d;exact op_loc hc (fun u C=>A u (by unfold AOper.reads; exact dr _ C)) y _ _ rfl
  ·exact q _ _ _ d
 have j:NoLoc V (a9 o.dst .undef S):=by
  intro t u off d;rw [el] at d;split at d
  ·cases d
  ·exact q _ _ _ d
 unfold dy at e;split at e
 ·exact run _ _ e
 ·split at e
  ·split at e
   ·exact run _ _ e
   ·have:=congrArg Prod.fst (ce e); exact (show a9 o.dst .undef S=a9 o.dst x S from this) ▸ j
  ·have:=congrArg Prod.fst (ce e); exact (show a9 o.dst .undef S=a9 o.dst x S from this) ▸ j
  ·cases e
theorem operV {o:AOper} {S sD S':Slots} {h h':Heap} (hv:quietV V o=true) (q:quietOk V o S=true) (e:dy call o S h=some (S',h')) (hn:NoLoc V S) (an:NoLoc V sD)
  (N:∀ t ∈ o.reads,sget S t=sget sD t) (aa:∀ t cs,V.contains t=false→(sget S t=some (.var cs) ↔ sget sD t=some (.var cs))) :
  ∃ ac,dy call o sD h=some (ac,h')∧(∀ u,sget ac u=if o.sets V=some u then sget S' u else sget sD u)∧(∀ u,o.sets V≠some u→sget S' u=sget S u)∧NoLoc V S' ∧
   (∀ d cs,o.sets V=some d→V.contains d=false→sget S' d≠some (.var cs)∧sget S d≠some (.var cs)):=by
 have O:∀ {A:Slots} (d:Nat),V.contains d=true→NoLoc V A→∀ t,sget (qf d A) t=sget A t:=by
  intro A d hd hA t;rw [wa];split
  ·rename_i t' off y;have:=hA _ _ _ y;rw [if_neg (fun e=>by subst e; rw [hd] at this; cases this),y]
  ·rfl
 by_cases hc:calm o.op=true
 ·rw [quietOk_calm hc] at q;simp only [bc,ap,ep] at q;obtain ⟨P,ad⟩:=q
  have ao:AgreeV (fun t=>V.contains t=true) S sD o.reads:=⟨N,fun t cs y=>aa t cs (by simpa using y),fun t y=>by have:=ad t y;unfold looksAt at this;simp only [i9] at this;refine ⟨(fun q=>by rw [this.1] at q; cases q),fun t' off hs q=>?_⟩;rw [hs] at this;have h2:V.contains t'=false:=this.2;rw [h2] at q; cases q⟩
  obtain ⟨x,c1,c2,c3⟩:=iz hc ao e;rw [sets_calm hc];subst c1;refine ⟨_,c2,fun u=>?_,fun u J=>by rw [el,if_neg J],oper_loc hc ad e hn,fun d cs hd ax=>?_⟩
  ·rw [el];split
   ·rename_i J; rw [el,if_pos J]
   ·rfl
  ·rw [hd] at P;simp only [Option.all_some,bc,ep] at P;refine ⟨by rw [el,if_pos hd]; intro e; exact c3 cs (ce e),fun e=>?_⟩;have:=P.1;unfold isVar at this;rw [e] at this;cases this
 ·unfold quietV at hv;split at hv
  ·-- a variable is made
   rename_i z p;unfold quietOk at q;rw [p] at q;simp only [bc,Option.isNone_iff_eq_none] at q;obtain ⟨hg,hd⟩:=q;cases C:o.dst with
   | none=>rw [C] at hd; cases hd
   | some d =>
    rw [C] at hd;simp only at hd;have j:o.sets V=some d:=by unfold AOper.sets; rw [p]; exact C
    unfold dy at e;rw [hg] at e;simp only [evRun,p,c7,C,ed,a9] at e;cases e;refine ⟨(d,.var z) :: qf d sD,by unfold dy; rw [hg]; simp only [evRun,p,c7,C,ed,a9],fun u=>?_,fun u J=>?_,?_,fun d' cs G hV=>?_⟩
    ·rw [j];simp only [sget,fq];split
     ·rfl
     ·exact O d hd an u
    ·rw [j] at J;simp only [sget];rw [if_neg (fun e=>J (by rw [e]))];exact O d hd hn u
    ·intro t u off y;simp only [sget] at y;split at y
     ·cases y
     ·rw [O d hd hn t] at y; exact hn _ _ _ y
    ·rw [j] at G; cases G; rw [hd] at hV; cases hV
  ·-- one is set
   rename_i n t x p;unfold quietOk at q;rw [p] at q;simp only [bc,Option.isNone_iff_eq_none,ap,ep] at q;obtain ⟨⟨⟨⟨hg,hd⟩,_⟩,U⟩,ay⟩:=q;have j:o.sets V=some t:=by unfold AOper.sets; rw [p]; simp only; rw [if_pos hv]
   have B:o.reads=t :: x.reads:=by unfold AOper.reads; rw [p,hg]; simp [AOp.reads,Opd.reads]
   have y:sget S t=sget sD t:=N t (by rw [B]; exact a8 ..)
   have hx:x.ev sD=x.ev S:=by
    cases x with
    | const v=>rfl
    | tmp u=>simp only [Opd.ev,← N u (by rw [B]; simp [Opd.reads])]
   unfold isVar at U;split at U;case h_2=>cases U
   rename_i cs W;have L:sget sD t=some (.var cs):=by rw [← y]; exact W
   have al:(Opd.tmp t).adr S=some (.loc t 0):=by simp only [Opd.adr,W]
   have X:(Opd.tmp t).adr sD=some (.loc t 0):=by simp only [Opd.adr,L]
   unfold dy at e;rw [hg] at e;simp only [evRun,p,c7,al] at e;cases a0:(x.ev S).bind AVal.cells? with
   | none=>rw [a0] at e; cases e
   | some xs =>
    rw [a0] at e;simp only [storeAt,W] at e;by_cases I:xs.length=n
    ·rw [if_pos I] at e;by_cases a6:0+xs.length≤cs.length
     ·rw [if_pos a6] at e;simp only [b8,hd,a9] at e;cases e;refine ⟨(t,.var (splice cs 0 xs)) :: sD,?_,fun u=>?_,fun u J=>?_,?_,fun d' cs' G hV=>?_⟩
      ·unfold dy;rw [hg];simp only [evRun,p,c7,X,hx,a0,storeAt,L];rw [if_pos I,if_pos a6];simp only [b8,hd,a9]
      ·rw [j];simp only [sget,fq];split <;> rfl
      ·rw [j] at J;simp only [sget];rw [if_neg (fun e=>J (by rw [e]))]
      ·intro t1 u off K;simp only [sget] at K;split at K
       ·cases K
       ·exact hn _ _ _ K
      ·rw [j] at G; cases G; rw [hv] at hV; cases hV
     ·rw [if_neg a6] at e; cases e
    ·rw [if_neg I] at e; cases e
  ·exact absurd hv hc
end
section
variable {E:Env} {lo nt:Nat} {μ0:MM} {w0:World} {ds:List Deferred} {s:Slots} {h:Heap} {a:Act} {w:World} {call:CallSem} {ops:Array Oper} {locs:List Nat} {aZ:List AOper} {Q:Exit→Act→World→Prop} {ro:Option Nat} {V:List Nat}
theorem quietV_any (hc:CallOK E call) (hev0:CallEvol call) (hg:GidOK E) (e6:ll E nt ops locs 0 ops.toList=some aZ) (hb:edgesBack ops=true)
  {p n:Nat} {h1:Heap} {s1:Slots} (f1:p+n≤aZ.length) (e7:waits (befs ops.toList []) (p+n)=true)
  (e8:∀ x y oi oj,x < n→y < n→aZ[p+x]? = some oi→aZ[p+y]? = some oj→apartV V (befs ops.toList []) (p+x) (p+y) oi oj=true)
  (d5:∀ x o,x < n→aZ[p+x]? = some o→quietV V o=true) (d6:NoLoc V s)
  (e9:evQuietV call V ((aZ.drop p).take n) s h=some (s1,h1))
  (hk:∀ X a' w',Exact ops X (p+n)→At E lo nt μ0 w0 ds s1 h1 a' w'→wpAnyIn (F0 ro) 0 E.P .any ops Q (ops.size - (p+n)) X a' w') :
  ∀ q a w,Exact ops q p→At E lo nt μ0 w0 ds s h a w→wpAnyIn (F0 ro) 0 E.P .any ops Q (ops.size - p) q a w:=by
 obtain ⟨q1,q2⟩:=kj _ _ _ e6;simp only [gd] at q1;have O:=m9 (ops:=ops) ops.toList [] (by simp) (fun k i hk=>by simp at hk);have b6:=kz ops.toList [];simp only [eq,dq,gd] at b6;have d8:∀ x,x < n→((aZ.drop p).take n)[x]? = aZ[p+x]?:=fun x hx=>by rw [fp hx,dt]
 have d1:((aZ.drop p).take n).length=n:=by simp; omega
 obtain ⟨e1,S,b2,b3,b4⟩:=zo _ _ _ _ e9;subst e1;rw [d1] at b3
 have a0:∀ x,x < n→∃ o A,ops[p+x]? = some o∧aZ[p+x]? = some A∧kr E nt ops (locs.contains (p+x)) o=some A:=by
  intro x hx;have ci:p+x < ops.size:=by omega
  obtain ⟨A,h2,h3⟩:=q2 (p+x) ops[p+x] (by simp [ci]);exact ⟨ops[p+x],A,by simp [ci],h2,by simpa using h3⟩
 have text:∀ x A,x < n→aZ[p+x]? = some A→(∃ h',dy call A (S x) { h1 with wmin:=h1.size }=some (S (x+1),h')∧h'.size=h1.size∧h'.wmin=h1.size)∧quietOk V A (S x)=true :=
  fun x A hx ho=>b4 x A (by rw [d8 x hx]; exact ho)
 have a6:∀ x y oi oj d,x < n→y < n→x≠y→aZ[p+x]? = some oi→aZ[p+y]? = some oj→oj.sets V=some d→(oi.sets V=some d∨d ∈ oi.reads) →
   (y < x∧((befs ops.toList []).getD (p+x) 0).testBit (p+y)=true)∨(x < y∧((befs ops.toList []).getD (p+y) 0).testBit (p+x)=true):=by
  intro x y oi oj d hx hy d9 hi hj hd ea;have:=e8 x y oi oj hx hy hi hj;unfold apartV at this;rw [hd] at this;simp only [bc,c9,beq_iff_eq,bne_iff_ne,decide_eq_true_eq,ep,sy,decide_eq_false_iff_not] at this;rcases this with ((h2 | h2) | h2) | h2
  ·omega
  ·rcases ea with h3 | h3
   ·exact absurd h3 h2.1
   ·exact absurd h3 h2.2
  ·exact .inl ⟨by omega,h2.2⟩
  ·exact .inr ⟨by omega,h2.2⟩
 have b7:∀ x A,x < n→aZ[p+x]? = some A→NoLoc V (S x)→(∀ u,A.sets V≠some u→sget (S (x+1)) u=sget (S x) u)∧NoLoc V (S (x+1)) ∧
   (∀ d cs,A.sets V=some d→V.contains d=false→sget (S (x+1)) d≠some (.var cs)∧sget (S x) d≠some (.var cs)):=by
  intro x A hx ho hn;obtain ⟨⟨h',t1,_,_⟩,t2⟩:=text x A hx ho;obtain ⟨_,_,_,c3,c4,c5⟩:=operV (d5 x A hx ho) t2 t1 hn hn (fun _ _=>rfl) (fun _ _ _=>Iff.rfl);exact ⟨c3,c4,c5⟩
 have text_no:∀ x,x≤n→NoLoc V (S x):=by
  intro x;induction x with
  | zero=>intro _; rw [b2]; exact d6
  | succ x ih =>
   intro hx;obtain ⟨_,A,_,K,_⟩:=a0 x (by omega);exact (b7 x A (by omega) K (ih (by omega))).2.1
 have text_step:∀ x A u,x < n→aZ[p+x]? = some A→A.sets V≠some u→sget (S (x+1)) u=sget (S x) u:=fun x A u hx ho=>(b7 x A hx ho (text_no x (by omega))).1 u
 have text_last:∀ x t y,y < x→x≤n→(∀ z o,y < z→z < x→aZ[p+z]? = some o→o.sets V≠some t)→sget (S x) t=sget (S (y+1)) t:=by
  intro x;induction x with
  | zero=>intro t y hy; omega
  | succ x ih =>
   intro t y hy hx bb;by_cases e:y=x
   ·subst e; rfl
   ·obtain ⟨_,A,_,K,_⟩:=a0 x (by omega);rw [text_step x A t (by omega) K (bb x A (by omega) (by omega) K)];exact ih t y (by omega) (by omega) fun z o h2 h3=>bb z o h2 (by omega)
 have text_miss:∀ x t,x≤n→(∀ y o,y < x→aZ[p+y]? = some o→o.sets V≠some t)→sget (S x) t=sget s t:=by
  intro x;induction x with
  | zero=>intro t _ _; rw [b2]
  | succ x ih =>
   intro t hx bb;obtain ⟨_,A,_,K,_⟩:=a0 x (by omega);rw [text_step x A t (by omega) K (bb x A (by omega) K)];exact ih t (by omega) fun y o hy=>bb y o (by omega)
 have text_var:∀ x t cs,x≤n→V.contains t=false→(sget (S x) t=some (.var cs) ↔ sget s t=some (.var cs)):=by
  intro x;induction x with
  | zero=>intro t cs _ _; rw [b2]
  | succ x ih =>
   intro t cs hx G;obtain ⟨_,A,_,K,_⟩:=a0 x (by omega);by_cases e:A.sets V=some t
   ·obtain ⟨n1,n2⟩:=(b7 x A (by omega) K (text_no x (by omega))).2.2 t cs e G;rw [← ih t cs (by omega) G];exact ⟨fun e=>absurd e n1,fun e=>absurd e n2⟩
   ·rw [text_step x A t (by omega) K e];exact ih t cs (by omega) G
 have dd:∀ (k:Nat) (q:Array Bool) (sD:Slots) (a:Act) (w:World),q.size=ops.size→Down ops q→(∀ i,i < p→q[i]? = some true)→(∀ i,p+n≤i→i < ops.size→q[i]? = some false) →
   ((List.range n).filter fun x=>q[p+x]? == some false).length=k →
   (∀ t,(∃ y o,y < n∧aZ[p+y]? = some o∧o.sets V=some t∧q[p+y]? = some true∧(∀ z oz,z < n→aZ[p+z]? = some oz→oz.sets V=some t→q[p+z]? = some true→z≤y)∧sget sD t=sget (S (y+1)) t) ∨
    ((∀ y o,y < n→aZ[p+y]? = some o→o.sets V=some t→q[p+y]?≠some true)∧sget sD t=sget s t)) →
   At E lo nt μ0 w0 ds sD h1 a w→wpAnyIn (F0 ro) 0 E.P .any ops Q (ops.size - (p+n)+k) q a w:=by
  intro k;induction k with
  | zero =>
   intro q sD a w ay b5 ax an B N bm
   have bx:∀ x,x < n→q[p+x]? = some true:=by
    intro x hx;have ci:p+x < q.size:=by omega
    have aa:x ∉ (List.range n).filter fun x=>q[p+x]? == some false:=by rw [bn B]; simp
    rw [gj] at aa;have h2:¬ (q[p+x]? = some false):=fun h2=>aa ⟨dc.2 hx,by simp [h2]⟩
    rw [lf ci] at h2 ⊢;cases hv:q[p+x] with
    | true=>rfl
    | false=>rw [hv] at h2; exact absurd rfl h2
   have ac:Exact ops q (p+n):=by
    refine ⟨ay,fun i hi=>?_⟩;rcases bh i p with h2 | h2
    ·rw [ax i h2]; simp; omega
    ·rcases bh i (p+n) with h3 | h3
     ·have:=bx (i - p) (by omega);rw [show p+(i - p)=i by omega] at this;rw [this]; simp [h3]
     ·rw [an i h3 hi]; simp; omega
   refine hk q a w ac ?_;obtain ⟨μ,ν,k1,k2,k3,k4⟩:=bm;refine ⟨μ,ν,k1,k2,k3.congr fun t=>?_,k4⟩;rw [← b3];rcases N t with ⟨y,o,i1,i2,i3,i4,i5,i6⟩ | ⟨i1,i2⟩
   ·rw [i6];refine text_last n t y i1 (aj _) fun z oz hz dl I hs=>?_
    have:=i5 z oz dl I hs (bx z dl);omega
   ·rw [i2];exact text_miss n t (aj _) fun y o hy ho hs=>i1 y o hy ho hs (bx y hy)
  | succ k ih =>
   intro q sD a w ay b5 ax an B N bm
   have d2:∃ x,x < n∧q[p+x]? = some false:=by
    have d9:(List.range n).filter (fun x=>q[p+x]? == some false)≠[]:=fun e=>by rw [e] at B; simp at B
    obtain ⟨x,hx⟩:=vg _ d9;rw [gj,dc] at hx;exact ⟨x,hx.1,by simpa using hx.2⟩
   obtain ⟨xu,f2,e0⟩:=d2;refine ⟨fun hr=>?_,fun i hi=>?_⟩
   ·have:=qc hb ay hr (p+xu) (by omega);rw [e0] at this; cases this
   ·obtain ⟨oi,k1,k2,k3⟩:=ot ay hi;have e2:i < ops.size:=ah (l:=ops.toList) (by simpa using k1)
    have f3:p≤i:=by
     rcases bh i p with h2 | h2
     ·rw [ax i h2] at k2; cases k2
     ·exact h2
    have f4:i < p+n:=by
     rcases bh i (p+n) with h2 | h2
     ·exact h2
     ·exfalso;have ad:=ui e7 (j:=i) (i:=p+xu) (by rw [b6]; exact e2) h2 (by omega);have hl:=ij b5 (O _ _ ad) fun o e ho he al=>by rw [k1] at ho; cases ho; exact k3 e he al
      rw [e0] at hl; cases hl
    obtain ⟨x,rfl⟩:∃ x,i=p+x:=⟨i - p,by omega⟩;have ao:x < n:=by omega
    obtain ⟨o,A,h2,h3,h4⟩:=a0 x ao;rw [h2] at k1; cases k1;obtain ⟨⟨h',t1,eb,ec⟩,t2⟩:=text x A ao h3
    have cp:∀ j,(((befs ops.toList []).getD (p+x) 0).testBit j=true)→q[j]? = some true:=fun j ad =>
     ij b5 (O _ _ ad) fun o2 e ho he al=>by rw [h2] at ho; cases ho; exact k3 e he al
    have cv:∀ j i,q[j]? = some true→(((befs ops.toList []).getD j 0).testBit i=true)→q[i]? = some true:=fun j i hl ad =>
     ij b5 (O _ _ ad) fun o2 e ho he al=>b5 _ _ _ hl ho he al
    have low:∀ t y J,t ∈ A.reads→y < n→aZ[p+y]? = some J→J.sets V=some t→y < x→q[p+y]? = some true:=by
     intro t y J G hy U hs f5;rcases a6 x y A J t ao hy (by omega) h3 U hs (.inr G) with ⟨_,h6⟩ | ⟨h5,_⟩
     ·exact cp _ h6
     ·omega
    have cy:∀ t y J,(A.sets V=some t∨t ∈ A.reads)→y < n→aZ[p+y]? = some J→J.sets V=some t→q[p+y]? = some true→y < x:=by
     intro t y J G hy U hs hl;rcases Nat.lt_trichotomy y x with h5 | h5 | h5
     ·exact h5
     ·subst h5; rw [k2] at hl; cases hl
     ·exfalso;rcases a6 x y A J t ao hy (by omega) h3 U hs G with ⟨h6,_⟩ | ⟨_,h6⟩
      ·omega
      ·have:=cv _ _ hl h6;rw [k2] at this; cases this
    have eh:∀ t ∈ A.reads,sget (S x) t=sget sD t:=by
     intro t G;rcases N t with ⟨y,J,i1,i2,i3,i4,i5,i6⟩ | ⟨i1,i2⟩
     ·rw [i6];refine text_last x t y (cy t y J (.inr G) i1 i2 i3 i4) (by omega) fun z oz hz ei I hs=>?_
      have:=i5 z oz (by omega) I hs (low t z oz G (by omega) I hs ei);omega
     ·rw [i2];exact text_miss x t (by omega) fun y J hy U hs=>i1 y J (by omega) U hs (low t y J G (by omega) U hs hy)
    have e3:∀ t cs,V.contains t=false→(sget (S x) t=some (.var cs) ↔ sget sD t=some (.var cs)):=by
     intro t cs G;rw [text_var x t cs (by omega) G];rcases N t with ⟨y,J,i1,i2,i3,i4,i5,i6⟩ | ⟨i1,i2⟩
     ·rw [i6]; exact (text_var (y+1) t cs (by omega) G).symm
     ·rw [i2]
    have ek:NoLoc V sD:=by
     intro t u off G;rcases N t with ⟨y,J,i1,i2,i3,i4,i5,i6⟩ | ⟨i1,i2⟩
     ·rw [i6] at G; exact text_no (y+1) (by omega) _ _ _ G
     ·rw [i2] at G; exact d6 _ _ _ G
    obtain ⟨em,c1,c2,_,_,_⟩:=operV (d5 x A ao h3) t2 t1 (text_no x (by omega)) ek eh e3;refine xg h2 (zby hc hev0 hg h4 c1 eb ec bm fun a' w' e4=>?_);have C:∀ j,j≠p+x→(q.setIfInBounds (p+x) true)[j]? = q[j]?:=fun j hj=>dm (fun e=>hj e.symm)
    have W:(q.setIfInBounds (p+x) true)[p+x]? = some true:=by simp [ay,e2]
    refine ih (q.setIfInBounds (p+x) true) em a' w' (by simp [ay]) ?_ ?_ ?_ ?_ ?_ e4
    ·intro j oj e hj d3 he al;by_cases ej:j=p+x
     ·subst ej;rw [h2] at d3; cases d3;have:=k3 e he al;by_cases ee:e.on=p+x
      ·rw [ee]; exact W
      ·rw [C _ ee]; exact this
     ·rw [C _ ej] at hj;have:=b5 j oj e hj d3 he al;by_cases ee:e.on=p+x
      ·rw [ee]; exact W
      ·rw [C _ ee]; exact this
    ·intro j hj; rw [C j (by omega)]; exact ax j hj
    ·intro j hj et; rw [C j (by omega)]; exact an j hj et
    ·-- one less is to come
     have d4:((List.range n).filter fun y=>(q.setIfInBounds (p+x) true)[p+y]? == some false)=((List.range n).filter fun y=>q[p+y]? == some false).filter fun y=>y != x:=by
      rw [List.filter_filter];apply List.filter_congr;intro y _;by_cases ey:y=x
      ·subst ey; rw [W]; simp
      ·rw [C _ (by omega)]; simp [ey]
     rw [d4]
     have aa:x ∈ (List.range n).filter fun y=>q[p+y]? == some false:=by rw [gj]; exact ⟨dc.2 ao,by simp [k2]⟩
     have e5:((List.range n).filter fun y=>q[p+y]? == some false).Nodup:=List.nodup_range.sublist List.filter_sublist;generalize (List.range n).filter (fun y=>q[p+y]? == some false)=L at B aa e5;have cx:L.filter (fun y=>y != x)=L.erase x:=(e5.erase_eq_filter x).symm;rw [cx,List.length_erase_of_mem aa,B];rfl
    ·intro t;rw [c2 t];by_cases G:A.sets V=some t
     ·rw [if_pos G];refine .inl ⟨x,A,ao,h3,G,W,fun z oz hz I hs hl=>?_,rfl⟩;by_cases ez:z=x
      ·omega
      ·rw [C _ (by omega)] at hl;have:=cy t z oz (.inl G) hz I hs hl;omega
     ·rw [if_neg G]
      have ne:∀ z oz,aZ[p+z]? = some oz→oz.sets V=some t→z≠x:=by intro z oz I hs e;subst e; rw [h3] at I; cases I; exact G hs
      rcases N t with ⟨y,J,i1,i2,i3,i4,i5,i6⟩ | ⟨i1,i2⟩
      ·refine .inl ⟨y,J,i1,i2,i3,?_,fun z oz hz I hs hl=>?_,i6⟩
       ·rw [C _ (by have:=ne y J i2 i3; omega)]; exact i4
       ·rw [C _ (by have:=ne z oz I hs; omega)] at hl;exact i5 z oz hz I hs hl
      ·refine .inr ⟨fun y J hy U hs=>?_,i2⟩;rw [C _ (by have:=ne y J U hs; omega)];exact i1 y J hy U hs
 intro q a w ac bm
 have B:((List.range n).filter fun x=>q[p+x]? == some false).length=n:=by
  have:(List.range n).filter (fun x=>q[p+x]? == some false)=List.range n:=by rw [List.filter_eq_self];intro x hx;rw [dc] at hx;rw [ac.2 (p+x) (by omega)];simp
  rw [this,mb]
 have:=dd n q s a w ac.1 (ac.down hb) (fun i hi=>by rw [ac.2 i (by omega)]; simp [hi]) (fun i hi f0=>by rw [ac.2 i f0]; simp; omega) B
  (fun t=>.inr ⟨fun y o hy ho hs hl=>by have h5:=ac.2 (p+y) (by omega);rw [hl] at h5;have h6:=of_decide_eq_true (ce h5).symm;omega,rfl⟩) bm
 rwa [show ops.size - (p+n)+n=ops.size - p by omega] at this
end
end Go.Abs

namespace Go.Abs
section
variable {E:Env} {lo nt:Nat} {μ0:MM} {w0:World} {ds:List Deferred} {s:Slots} {h:Heap} {a:Act} {w:World} {call:CallSem} {ops:Array Oper} {locs:List Nat} {aZ:List AOper} {Q:Exit→Act→World→Prop} {ro:Option Nat}
theorem zbe (hc:CallOK E call) (hev0:CallEvol call) (hg:GidOK E) (A:ll E nt ops locs 0 ops.toList=some aZ) (hb:edgesBack ops=true) :
  ∀ (W:List (Bool × Nat)) (p:Nat) (gs:List Seg) (s:Slots) (h:Heap) (s1:Slots) (h1:Heap) (d:Array Bool) (a:Act) (w:World),segsOk aZ (befs ops.toList []) p W=true→splitSegs (befs ops.toList []) p W (aZ.drop p)=some gs →
  jh call gs s h=some (s1,h1)→Exact ops d p→At E lo nt μ0 w0 ds s h a w→(∀ O w',At E lo nt μ0 w0 ds s1 h1 O w'→Q .normal O w')→wpAnyIn (F0 ro) 0 E.P .any ops Q (ops.size - p) d a w
 | [],p,gs,s,h,s1,h1,d,a,w,C,e,q,B,G,hn=>by
  obtain ⟨q1,_⟩:=kj _ _ _ A;simp only [gd] at q1;simp only [segsOk,beq_iff_eq] at C;have hp:p=ops.size:=by omega
  subst hp;rw [qh];unfold splitSegs at e;split at e
  ·cases e;simp only [jh] at q; cases q;refine ⟨?_,hn _ _ G⟩;apply List.eq_nil_iff_forall_not_mem.2;intro i hi;obtain ⟨o,k1,k2,_⟩:=ot B.1 hi;have aa:i < ops.size:=ah (l:=ops.toList) (by simpa using k1);rw [B.2 i aa] at k2;simp [aa] at k2
  ·cases e
  ·contradiction
 | (true,n) :: r,p,gs,s,h,s1,h1,d,a,w,C,e,q,B,G,hn=>by
  obtain ⟨q1,_⟩:=kj _ _ _ A;simp only [gd] at q1;have I:=kz ops.toList [];simp only [eq,dq,gd] at I;simp only [segsOk,bc,decide_eq_true_eq] at C;obtain ⟨⟨⟨a1,a2⟩,J⟩,a5⟩:=C;simp only [splitSegs] at e;split at e;case isFalse=>cases e
  rw [ae] at e;obtain ⟨X,e,rfl⟩:=e;rw [jp] at e;simp only [jh,if_true] at q;split at q;case h_2=>cases q
  rename_i s2 h2 K
  have a0:∀ j O w',Exact ops j (p+n)→At E lo nt μ0 w0 ds s2 h2 O w'→wpAnyIn (F0 ro) 0 E.P .any ops Q (ops.size - (p+n)) j O w':=fun j O w' L N =>
   zbe hc hev0 hg A hb r (p+n) X s2 h2 s1 h1 j O w' a5 e q L N hn
  unfold quietSeg at J;split at J
  case isFalse a6 =>
   simp only [bc] at J;obtain ⟨⟨al,a3⟩,a4⟩:=J;rw [if_pos (by simpa using al)] at K;unfold evQ at K;rw [if_neg a6] at K;split at K;case isFalse=>cases K
   rename_i an;refine quietV_any hc hev0 hg A hb a2 (uj (by omega) r (p+n) a5) (fun x y oi oj hx hy hi hj=>?_) (fun x o hx ho=>?_) (xh _ an) K a0 d a w B G
   ·rw [ap] at a3;have:=a3 x (dc.2 hx);rw [ap] at this;have:=this y (dc.2 hy);rw [hi,hj] at this;exact this
   ·rw [ap] at a4;have:=a4 x (dc.2 hx);rw [ho] at this;exact this
  rename_i a6;simp only [bc] at J;obtain ⟨a3,a4⟩:=J
  have ac:∀ x y oi oj,x < n→y < n→aZ[p+x]? = some oi→aZ[p+y]? = some oj→apart (befs ops.toList []) (p+x) (p+y) oi oj=true:=fun x y oi oj hx hy hi hj=>by rw [ap] at a3;have:=a3 x (dc.2 hx);rw [ap] at this;have:=this y (dc.2 hy);rw [hi,hj] at this;exact this
  have ad:∀ x o,x < n→aZ[p+x]? = some o→calm o.op=true∧(rn (befs ops.toList []) p ((aZ.drop p).take n)=[]∨soft o.op=true):=fun x o hx ho=>by rw [ap] at a4;have:=a4 x (dc.2 hx);rw [ho] at this;simpa using this
  unfold evQ at K;rw [if_pos a6] at K;split at K
  ·exact quiet_any hc hev0 hg A hb a2 (uj (by omega) r (p+n) a5) ac (fun x o hx ho=>(ad x o hx ho).1) K a0 d a w B G
  ·rename_i U;refine open_any hc hev0 hg A hb a2 (uj (by omega) r (p+n) a5) ac (fun x o hx ho=>(ad x o hx ho).2.resolve_left U) (fun x hx=>?_) K a0 d a w B G;unfold rn at U ⊢;split at U
   ·rename_i hm;rw [if_pos hm];have hl:((aZ.drop p).take n).length=n:=by simp; omega
    rw [hl,jb,bp,List.getElem?_range hx];rfl
   ·exact absurd rfl U
 | (false,n) :: r,p,gs,s,h,s1,h1,d,a,w,C,e,q,B,G,hn=>by
  obtain ⟨q1,_⟩:=kj _ _ _ A;simp only [gd] at q1;have I:=kz ops.toList [];simp only [eq,dq,gd] at I;simp only [segsOk,bc,decide_eq_true_eq] at C;obtain ⟨⟨a2,a3⟩,a5⟩:=C;simp only [splitSegs] at e;split at e;case isFalse=>cases e
  rw [ae] at e;obtain ⟨X,e,rfl⟩:=e;rw [jp] at e;simp only [jh,cg,if_false] at q;split at q;case h_2=>cases q
  rename_i s2 h2 K;refine seq_any hc hev0 hg A hb n p s h s2 h2 d a w a2 (fun x hx=>?_) K B G (fun j O w' L N=>?_)
  ·rcases bh x n with h3 | h3
   ·rw [ap] at a3;exact a3 x (dc.2 h3)
   ·have:x=n:=by omega
    subst this;exact uj (by omega) r (p+x) a5
  ·exact zbe hc hev0 hg A hb r (p+n) X s2 h2 s1 h1 j O w' a5 e q L N hn
theorem region_sound (hc:CallOK E call) (hev0:CallEvol call) (G:GidOK E) (hm:E.P.follows .mixedOrders=true) {p:List (Bool × Nat)} {e:Bool} {B:List Seg} {id:Nat} {s1:Slots} {h1:Heap}
  (d:cRegion E nt p locs ops e=some B) (j:jh call B s h=some (s1,h1)) (q:At E lo nt μ0 w0 ds s h a w) (I:∀ J w',At E lo nt μ0 w0 ds s1 h1 J w'→Q .normal J w') :
  (Code.region id ops e).wpIn (F0 ro) 0 E.P Q a w:=by
 unfold cRegion at d;split at d;case h_2=>cases d
 rename_i aZ y;split at d
 ·rename_i hd;subst hd;split at d;case isFalse=>cases d
  rename_i C;simp only [bc] at C;apply wpIn_region_any hm
  have A:At E lo nt μ0 w0 ds s h a { w with drawn:=w.drawn+1 }:=by obtain ⟨μ,ν,K,L,N,O,U,W⟩:=q;exact ⟨μ,ν,K.heap rfl rfl rfl rfl,L.same rfl rfl rfl,N.heap rfl,O,U,W⟩
  exact zbe hc hev0 G y C.1 p 0 B s h s1 h1 _ _ _ C.2 (by simpa using d) j ⟨by simp,fun i hi=>by simp [hi]⟩ A I
 ·rename_i hd;have:e=false:=by simpa using hd
  subst this;cases d;simp only [jh,cg,if_false] at j;split at j;case h_2=>cases j
  rename_i s2 h2 X;cases j;apply wpIn_region;have:=yg (ro:=ro) (Q:=Q) hc hev0 G ops.toList 0 aZ s h s1 h1 a w rfl y X q I;rw [List.range_eq_range'];simpa using this
end
end Go.Abs

namespace Go.Abs
def AExit.toX:AExit→Exit
 | .normal=>.normal
 | .exit id=>.exit id
 | .ret=>.ret
section
variable {E:Env} {lo nt:Nat} {μ0:MM} {w0:World} {ds:List Deferred} {call:CallSem} {ro:Option Nat}
theorem At.keep {s:Slots} {h:Heap} {a:Act} {w:World} (d:At E lo nt μ0 w0 ds s h a w) (l:List Nat):At E lo nt μ0 w0 ds (Abs.keep l s) h a w:=by obtain ⟨μ,ν,e,j,p,q⟩:=d;exact ⟨μ,ν,e,j,p.less fun t x hx=>sget_keep l s t x hx,q⟩
theorem Step.alloc {X:Nat→Prop} {wm:Nat} {μ:MM} {w:World} (B:Obj):Step X wm μ w μ (w.alloc B) :=
 ⟨rfl,rfl,rfl,by simp,fun k d _ _=>by
  show (w.heap.push B)[k]? = _
  rw [c8,if_neg (by omega)],aj _,fun _ _=>.inl rfl,fun i m hi hm=>absurd (ah hm) (by omega)⟩
theorem zbc {ν:Fr} {μ:MM} {s:Slots} {tmps:Array Value} {w:World} (e:FRel E lo ν μ (sget s) tmps w):∀ {caps:List Nat} {sl:List (Nat × AVal)},capsOf s caps=some sl→∀ (k:Nat) (x:Nat × AVal),sl[k]? = some x→∃ v',tmps[x.1]? = some v'∧VRel E μ x.2 v'
 | [],sl,h,k,x,d=>by simp only [capsOf] at h; cases h; simp at d
 | t :: caps,sl,h,k,x,d=>by
  simp only [capsOf] at h;split at h;case h_2=>cases h
  rename_i v l hs j;cases h;cases k with
  | zero=>simp at d; subst d; exact e.val t v hs
  | succ k=>exact zbc e j k x (by simpa using d)
theorem next_sound {it:Operand} {x:Opd} (hx:gq E it=some x) {o:Oper} (ho:o.op = .next it false) (hd:∀ t,o.dst=some t→t < nt) {st:St} {l:List (AExit × St)} (d:nextOuts o.dst x st=some l) {a:Act} {w:World}
  (b7:At E lo nt μ0 w0 ds st.s st.h a w) {next:Act→World→Prop} {Q:Exit→Act→World→Prop} (hn:∀ y ∈ l,y.1 = .normal→∀ a' w',At E lo nt μ0 w0 ds y.2.s y.2.h a' w'→next a' w'):o.wpIn (F0 ro) 0 E.P a w next Q:=by
 obtain ⟨s,h⟩:=st;obtain ⟨μ,ν,k1,k2,k3,k4,k5,k6⟩:=b7;refine ⟨fun _ _=>trivial,?_⟩;rw [Oper.semAt_eq _ _ _ (fun c ax=>by rw [ho] at ax; cases ax)]
 have I:∀ (v:Value) (w':World),(Instr.next (a.eval it) false o.type).run E.P w = .ok v w'→(execOp a.eval o).run E.P w = .ok (.value v) w':=fun v w' e=>by simp only [execOp,ho];exact nh e
 unfold nextOuts at d;split at d;case h_2=>cases d
 rename_i i bb;have ay:=cd k3 hx bb;simp only [VRel] at ay;obtain ⟨ad,N,mo,O,b5⟩:=ay;split at d;case isFalse=>cases d
 rename_i hb;simp only at hb d
 have over:∀ (m:M),μ[i]? = some (some m)→At E lo nt μ0 w0 ds (a9 o.dst (.val (.tuple [.bool false])) s) (h.put i .dead) (a.put o.dst (.tuple #[.bool false])) w:=by
  intro m hm;refine ⟨μ.set i none,ν,?_,k2.kill i,?_,by rw [nu]; exact k4,by rw [li]; exact k5,k6⟩
  ·exact k1.trans (Step.kill μ w (fj _ _)) (cr _ _)
  ·rw [ig];refine (FRel.setVal ?_ (fun y L=>by rw [k4]; exact hd y L) (by simp only [VRel]; exact ⟨_,rfl,by simp [VRels,VRel]⟩)).congr fun t=>ir _ _ _ _
   exact k3.keep (ni μ i) (fun t cs hv=>rfl) (fun t cs j m' hv hj a0=>absurd (ah a0) (by simp; omega)) fun r hr=>⟨rfl,fun j m' hj a0=>absurd (ah a0) (by simp; omega)⟩
 split at d
 ·rename_i since seen last a6;cases d;obtain ⟨mi,r',⟨J,p⟩,q2,q3⟩:=k2.obj _ _ a6;rw [J] at O; cases O;have K:=b5 mi rfl;subst K;simp only [VRel] at q3;have aa:r'=none:=by simpa using q3
  subst aa
  have C:(Instr.next (a.eval it) false o.type).run E.P w = .ok (.tuple #[.bool false]) w:=by rw [N];simp [Instr.next,getObj,Sem.run,q2,Result.andThen,p]
  rw [I _ _ C];exact hn _ (dp _) rfl _ _ (over mi J)
 ·rename_i m since seen last a6;split at d;case h_2=>cases d
  rename_i es clock bx;split at d;case isFalse=>cases d
  rename_i hh;obtain ⟨hold,c4⟩:=hh;obtain ⟨mi,r',⟨J,p⟩,q2,q3⟩:=k2.obj _ _ a6;rw [J] at O; cases O;have K:=b5 mi rfl;subst K;rw [p] at N;obtain ⟨mm,es',p1,p2,p3,p4⟩:=k2.obj _ _ bx;have aa:=q3;simp only [VRel] at q3;obtain ⟨bm,xo,e1,e2,e3⟩:=q3;rw [p1] at e2; cases e2;have e3:=e3 mm rfl;subst e3;have e1:r'=some mm.blk:=by simpa using e1
  subst e1
  have at_:∀ (k:Nat) (y:MapEntry),es'.toList[k]? = some y→∃ z,es[k]? = some z∧VRel E μ z.1 y.key∧VRel E μ z.2.1 y.val∧y.born=z.2.2:=by
   intro k y U;have ac:=ah U;simp only [gd] at ac;obtain ⟨z,W⟩:∃ z,es[k]? = some z:=⟨_,ai (by omega)⟩;obtain ⟨y',y1,y2,y3,y4⟩:=p4 k z W
   have:y'=y:=by rw [← lm,U] at y1;exact (ce y1).symm
   subst this;exact ⟨z,W,y2,y3,y4⟩
  have al:∀ y ∈ es'.toList,y.born < since:=by intro y L;obtain ⟨k,U⟩:=gu L;obtain ⟨z,z1,_,_,z4⟩:=at_ k y U;rw [ap] at hold;have:=hold z (br z1);rw [z4];simpa using this
  have c5:∀ (k:Nat) (z:AVal × AVal × Nat),es[k]? = some z→(!seen.contains z.2.2)=true→(leftOf es' seen.toArray).size≠0:=by
   intro k z W hs h0;obtain ⟨y,y1,_,_,y4⟩:=p4 k z W
   have X:y ∈ leftOf es' seen.toArray:=by unfold leftOf;rw [Array.mem_filter];refine ⟨Array.mem_of_getElem? y1,?_⟩;rw [y4];simpa using hs
   rw [Array.eq_empty_of_size_eq_zero h0] at X;simp at X
  rcases run_next_at (P:=E.P) w o.type mi.blk mm.blk since last seen.toArray es' clock q2 p2 al c4 with ⟨h0,C⟩ | ⟨y,L,w1,ci,C⟩
  ·-- nothing is left
   rw [I _ _ (by rw [N]; exact C)];split at d
   ·cases d;exact hn _ (dp _) rfl _ _ (over mi J)
   ·rename_i cp;exfalso;cases hf:es.filter fun e=>!seen.contains e.2.2 with
    | nil=>exact cp hf
    | cons z zs =>
     have W:z ∈ es.filter fun e=>!seen.contains e.2.2:=by rw [hf]; exact a8 ..
     rw [gj] at W;obtain ⟨k,U⟩:=gu W.1;exact c5 k z U W.2 h0
  ·-- an entry
   have b6:y ∈ es'.toList∧(!seen.contains y.born)=true:=by unfold leftOf at L;rw [Array.mem_toList_iff,Array.mem_filter] at L;exact ⟨Array.mem_toList_iff.2 L.1,by simpa using L.2⟩
   obtain ⟨k,U⟩:=gu b6.1;obtain ⟨z,z1,z2,z3,z4⟩:=at_ k y U
   have ao:z ∈ es.filter fun e=>!seen.contains e.2.2:=by rw [gj];exact ⟨br z1,by rw [← z4]; exact b6.2⟩
   rw [I _ _ (by rw [N]; exact C)];split at d
   ·rename_i hf;rw [hf] at ao; cases ao
   ·cases d;refine hn _ (pg ao) rfl _ _ ?_;have G:w1.heap=w.heap∧w1.os=w.os∧w1.tape=w.tape∧w1.output=w.output:=by rcases ci with rfl | rfl <;> exact ⟨rfl,rfl,rfl,rfl⟩
    let B:Obj:=.mapIter (some mm.blk) since (seen.toArray.push y.born) clock
    have ac:=k2.lt i mi J
    have A:(Go.ChangeMaps.setBlock w1 mi.blk B).heap=(cz w mi.blk B).heap:=by simp [Go.ChangeMaps.setBlock,cz,G.1]
    refine ⟨μ,ν,?_,?_,?_,by rw [nu]; exact k4,by rw [li]; exact k5,?_⟩
    ·have hB:Step (fun k=>lo≤k) (h.put i (.mapIter (some m) since (seen++[z.2.2]) clock)).wmin μ w μ (cz w mi.blk B):=Step.put J (fj _ _) _;exact (k1.trans hB (cr _ _)).heap A G.2.1 G.2.2.1 G.2.2.2
    ·refine (k2.put hb J (B:=B) ?_).same rfl rfl A;exact ⟨mi,some mm.blk,⟨J,p⟩,by rw [gp ac]; simp [B,z4],aa⟩
    ·rw [ig];refine (FRel.setVal ?_ (fun y L=>by rw [k4]; exact hd y L) (by simp only [VRel]; exact ⟨_,rfl,by simp only [VRels]; exact ⟨_,_,rfl,by simp only [VRel],_,_,rfl,z2,_,_,rfl,z3,rfl⟩⟩)).congr fun t=>ir _ _ _ _
     refine (k3.keep (w':=cz w mi.blk B) (Later.refl _) (fun t cs' hv=>bo (k3.sepm t cs' i mi hv J)) (fun t cs' j m' _ hj hm=>absurd (ah hm) (by omega)) fun q hq=>⟨bo ((k3.sepd q hq).1 i mi J),fun j m' hj hm=>absurd (ah hm) (by omega)⟩).heap A
    ·show lo≤(Go.ChangeMaps.setBlock w1 mi.blk B).heap.size
     rw [A];simpa [cz] using k6
 ·cases d
theorem zx (hc:CallOK E call) (hg:GidOK E) {f:Operand} {ps:Array Tmp} {ax bx:Code} {f':Opd} {g:Nat} {caps:List Nat} {aa ab:ACode} {ha hb:Hint} (hf:gq E f=some f') (c5:co E nt true ha ax=some aa) (ci:co E nt true hb bx=some ab) (ao:(ps.all fun t=>decide (t < nt))=true)
  (ay:E.rnd g=some ⟨ps.toList,aa,ab⟩) {s:Slots} {h:Heap} {a:Act} {w:World} (cv:At E lo nt μ0 w0 ds s h a w) {fv:AVal} {sl:List (Nat × AVal)} (cx:f'.ev s=some fv) (cy:capsOf s caps=some sl) {x:AVal} {h':Heap}
  (A:callVal call fv [.yield h.size] (h.push (.loop g .ready none sl))=some (x,h')) {e:AExit} {st':St} (y:loopEnd s h' h.size=some (e,st')) (b5:Evol (h.push (.loop g .ready none sl)) h') {Q:Exit→Act→World→Prop}
  (hn:∀ a' w',At E lo nt μ0 w0 ds st'.s st'.h a' w'→Q e.toX a' w'):(Code.rangeFunc f ps ax bx).wpIn (F0 none) 0 E.P Q a w:=by
 obtain ⟨μ,ν,k1,k2,B,k4,k5,k6⟩:=cv;unfold callVal at A;split at A;case h_2=>cases A
 rename_i gf first cp
 have b6:=cd B hf cx;simp only [VRel] at b6;obtain ⟨a0,f1,c1,e1,e2,e3,e4⟩:=b6;have L:h.size=μ.length:=k2.len.symm;refine wpIn_rangeFunc fun fn _=>?_
 let rec0:Loop:={ state:=.ready,pending:=none,fn:=fn,tmps:=a.tmps,params:=ps,assign:=ax,body:=bx,defers:=w.heap.size }
 let w1:World:=w.alloc (.deferred (some []))
 let N:World:=w1.alloc (.loop rec0)
 let m:M:=⟨w.heap.size+1,0,0,0⟩
 let μ1:MM:=μ++[some m]
 have b7:w1.heap.size=w.heap.size+1:=by simp [w1]
 have dl:N.heap.size=w.heap.size+2:=by simp [N,w1]
 have a6:VRels E μ1 (first++[.yield h.size]++cp) (f1 ++ #[Value.func (.yield (w.heap.size+1)) #[] #[]]++c1).toList:=by
  have hy:VRel E μ1 (.yield h.size) (.func (.yield (w.heap.size+1)) #[] #[]):=by simp only [VRel];exact ⟨w.heap.size+1,some m,rfl,by rw [L]; simp [μ1],fun m' d=>by cases d; rfl⟩
  have:=((e3.later (g9 μ (some m))).append (show VRels E μ1 [.yield h.size] [_] from by simp only [VRels]; exact ⟨_,[],rfl,hy,rfl⟩)).append (e4.later (g9 μ (some m)));simpa using this
 have ac:Later μ μ1:=g9 μ _
 have d1:Rel E μ h w1:=k2.keep (by omega) (fun i m' d=>by
  have:=k2.lt i m' d;show (w.heap.push _)[m'.blk]? = _;rw [c8,if_neg (by omega)]) fun k _ hk=>by
  show (w.heap.push _)[k]? = _
  rw [c8,if_neg (by omega)]
 have d2:Rel E μ1 (h.push (.loop g .ready none sl)) N:=by
  refine d1.push _ (.loop rec0) m (by simp [m,b7]) ⟨m,rec0,by simp,by show (w1.heap.push _)[w.heap.size+1]? = _; rw [c8,if_pos (by omega)],⟨⟨⟨ps.toList,aa,ab⟩,ha,hb,ay,rfl,fun t ht=>?_,by rw [show rec0.tmps.size=nt from k4]; exact c5,by rw [show rec0.tmps.size=nt from k4]; exact ci⟩,rfl,rfl,fun k x hk=>?_⟩⟩
  ·rw [Array.all_eq_true_iff_forall_mem] at ao;have:=ao t (by simpa using ht);rw [show rec0.tmps.size=nt from k4];simpa using this
  ·obtain ⟨v',h1,h2⟩:=zbc B cy k x hk;exact ⟨v',h1,h2.later ac⟩
 let ν1:Fr:=⟨ν.v,w.heap.size :: ν.ds⟩
 have I:∀ b,b < w.heap.size→N.heap[b]? = w.heap[b]?:=fun b hb=>by
  show ((w.heap.push _).push _)[b]? = _
  rw [c8,if_neg (by simp; omega),c8,if_neg (by omega)]
 have G:∀ (i:Nat) (m':M),μ1[i]? = some (some m')→m'.blk < w.heap.size∨m'.blk=w.heap.size+1:=fun i m' d=>by
  rcases iq d with q | ⟨_,q⟩
  ·exact .inl (k2.lt i m' q)
  ·cases q; exact .inr rfl
 have hold:∀ (i:Nat) (m':M),μ1[i]? = some (some m')→m'.blk < w.heap.size→μ[i]? = some (some m'):=fun i m' d d3=>by
  rcases iq d with q | ⟨_,q⟩
  ·exact q
  ·cases q;have dd:w.heap.size+1 < w.heap.size:=d3;omega
 have d4:FRel E lo ν1 μ1 (sget s) a.tmps N:=by
  refine ⟨fun t v K=>?_,B.undef,fun t cs K=>?_,B.loc,B.sepv,fun t cs i m' K d=>?_,fun r hr=>?_,fun r hr=>⟨fun i m' d=>?_,fun t cs K=>?_⟩,?_⟩
  ·obtain ⟨v',h1,h2⟩:=B.val t v K;exact ⟨v',h1,h2.later ac⟩
  ·obtain ⟨h1,h2,c,e,fr,h3,h4,h5,h6⟩:=B.var t cs K;exact ⟨h1,h2,c,e,fr,(I _ (B.lt K)).trans h3,h4,h5.later ac,h6⟩
  ·have:=B.lt K;rcases G i m' d with q | q
   ·exact B.sepm t cs i m' K (hold i m' d q)
   ·intro e;have e':m'.blk=ν t:=e;omega
  ·rcases cj.1 hr with rfl | hr
   ·refine ⟨k6,?_⟩;show ((w.heap.push _).push _)[w.heap.size]? = _;rw [c8,if_neg (by simp),c8,if_pos rfl]
   ·obtain ⟨h1,h2⟩:=B.ds r hr;exact ⟨h1,(I r (B.lt_ds hr)).trans h2⟩
  ·rcases cj.1 hr with rfl | hr
   ·rcases G i m' d with q | q <;> omega
   ·have:=B.lt_ds hr;rcases G i m' d with q | q
    ·exact (B.sepd r hr).1 i m' (hold i m' d q)
    ·omega
  ·rcases cj.1 hr with rfl | hr
   ·have:=B.lt K;intro e;have e':ν t=w.heap.size:=e;omega
   ·exact (B.sepd r hr).2 t cs K
  ·exact ⟨List.nodup_cons.2 ⟨fun h=>by have:=B.lt_ds h; omega,B.nodup.1⟩,B.nodup.2⟩
 have d5:Step (fun k=>lo≤k) h.wmin μ0 w0 μ1 N:=(k1.trans (Step.alloc _) (aj _)).trans (Step.push (X:=fun k=>lo≤k) h.wmin μ w1 (.loop rec0) m (by simp [m,b7])) (aj _);refine ⟨w.heap.size+1,[markOf w.heap.size],N,{ target:=.fn (.func a0) c1,args:=f1 ++ #[Value.func (.yield (w.heap.size+1)) #[] #[]] },N,a0,f1 ++ #[Value.func (.yield (w.heap.size+1)) #[] #[]]++c1,N,run_enterLoop_outer fn a.tmps ps ax bx,?_,fun _ _=>trivial,?_,fun hh=>by simp [F0,Fence.wide] at hh,?_⟩
 ·simp only [resolve];rw [e1];simp [Deferred.ofValue,Act.eval]
 ·have:=jd hg e2 (f1 ++ #[Value.func (.yield (w.heap.size+1)) #[] #[]]++c1) N;simpa [invoke] using this
 ·refine CallsIn.mono (F:=F0 none) (n:=0) (hc.fn gf _ _ x h' A a0 e2 μ1 N _ a6 d2) ?_;rintro c4 w3 ⟨v',W,rfl,j1,j2,j3⟩;unfold loopEnd at y;split at y;case h_2=>cases y
  rename_i g2 st p e5 d6;split at y
  ·cases y
  rename_i ad;cases y;obtain ⟨m3,r3,O,q2,q3⟩:=j3.obj _ _ d6;have hi1:h.size < μ1.length:=by rw [L]; simp [μ1]
  have d8:m3=m:=by
   rcases j1.old h.size hi1 with q | ⟨_,q⟩
   ·rw [q] at O;have:μ1[h.size]? = some (some m):=by rw [L]; simp [μ1]
    rw [this] at O;cases O; rfl
   ·rw [q] at O; cases O
  subst d8
  have bb:r3.state ≠ .busy:=by
   have:=q3.st;cases st <;> simp only [LoopSt.is] at this <;> rw [this]
   ·simp
   ·exact absurd rfl ad
   ·simp
  let U:World:=w3.putObj (w.heap.size+1) (.loop { r3 with state:=.exhausted })
  have al:FRel E lo ν1 W (sget s) a.tmps w3:=d4.step j1 fun _ _ h=>h
  have bm:h'.wmin≤h.wmin:=b5.wmin
  have J:At E lo nt μ0 w0 ds s (h'.put h.size .dead) { a with defers:=[markOf w.heap.size]++a.defers } U:=by
   have C:U=cz w3 m.blk (.loop { r3 with state:=.exhausted }):=rfl;refine ⟨W.set h.size none,ν1,?_,?_,?_,k4,?_,?_⟩
   ·have hA:=d5.trans (j1.weaken (Y:=fun k=>lo≤k) (aj _) fun b h _=>h.elim) bm;have hB:Step (fun k=>lo≤k) (h'.put h.size .dead).wmin W w3 W U:=by rw [C]; exact Step.put O (fj _ _) _
    have hC:Step (fun k=>lo≤k) (h'.put h.size .dead).wmin W U (W.set h.size none) U:=Step.kill W U (fj _ _);exact (hA.trans hB (cr _ _)).trans hC (aj _)
   ·have an:=j3.kill h.size;refine an.keep (by simp [U]) (fun j m' d=>?_) fun k hk _=>by rw [C]; exact bo (by have:=k2.tab.1; simp [m]; omega)
    rw [C];refine bo ?_;rw [n5] at d;split at d
    ·split at d <;> cases d
    ·rename_i d9;refine j3.sep h.size j m m' d9 ?_ O d;have h1:=j3.bs;rw [b5.base];have:=k2.bs;show h.base≤h.objs.length;exact this
   ·refine al.keep (ni W h.size) (fun t cs K=>by rw [C]; exact bo (al.sepm t cs h.size m K O)) (fun t cs j m' K hj d=>absurd (ah d) (by simp; omega)) fun r hr=>⟨by rw [C]; exact bo ((al.sepd r hr).1 h.size m O),fun j m' hj d=>absurd (ah d) (by simp; omega)⟩
   ·show [markOf w.heap.size]++a.defers=_
    rw [k5]; rfl
   ·have:=j1.size;simp only [U,World.putObj_size]; omega
  refine ⟨r3.pending,U,run_endLoop q2 bb,?_⟩;rw [q3.pend];cases p with
  | none=>exact hn _ _ J
  | some e0 =>
   cases e0 with
   | normal=>exact wpIn_skip (hn _ _ J)
   | exit id=>exact wpIn_exit (hn _ _ J)
   | ret=>exact wpIn_ret (hn _ _ J)
theorem l8 {e:Bool} {c:Code} {j:ACode} (h:co E nt e .next c=some j):∃ d y r,j = .seq (.next d y) r:=by
 cases c <;> simp only [co] at h <;> (try cases h)
 split at h
 ·split at h
  ·split at h
   ·cases h;exact ⟨_,_,_,rfl⟩
   ·cases h
  ·cases h
 ·cases h
theorem pu (hc:CallOK E call) (hev0:CallEvol call) (hg:GidOK E) (hm:E.P.follows .mixedOrders=true) (a6:Bool) (b5:a6=false→ro=none) (n:Nat) :
  ∀ (hint:Hint) (c:Code) (K:ACode),co E nt a6 hint c=some K→(a6=false→∀ p ∈ K.rounds,E.rnd p.1=some p.2)→∀ (st:St) (e:AExit) (st':St),da call n K st=some (e,st')→∀ (a:Act) (w:World) (Q:Exit→Act→World→Prop),At E lo nt μ0 w0 ds st.s st.h a w →
   (∀ L w',At E lo nt μ0 w0 ds st'.s st'.h L w'→Q e.toX L w')→c.wpIn (F0 ro) 0 E.P Q a w:=by
 intro hint;induction hint with
 | stuck =>
  intro c K A G st e st' q a w Q C I;simp only [co] at A;cases A;simp [da,Opd.ev] at q
 | leaf =>
  intro c K A G st e st' q a w Q C I;cases c <;> simp only [co] at A <;> (try cases A)
  ·simp only [da] at q; cases q;exact wpIn_skip (I _ _ C)
  ·simp only [da] at q; cases q;exact wpIn_exit (I _ _ C)
  ·simp only [da] at q; cases q;exact wpIn_ret (I _ _ C)
 | reg segs locs =>
  intro c K A G st e st' q a w Q C I;cases c <;> simp only [co] at A <;> (try cases A)
  rw [ae] at A;obtain ⟨gs,b6,rfl⟩:=A;simp only [da] at q;rw [ae] at q;obtain ⟨⟨s1,h1⟩,q,he⟩:=q;cases he;exact region_sound hc hev0 hg hm b6 q C I
 | seq x y ihx ihy =>
  intro c K A G st e st' q a w Q C I;cases c <;> simp only [co] at A <;> (try cases A)
  split at A;case h_2=>cases A
  rename_i ax ay hx hy;cases A;simp only [da] at q;apply wpIn_seq;split at q
  ·rename_i O h1;exact ihx _ _ hx (fun hi p U=>G hi p (by simp [ACode.rounds,U])) _ _ _ h1 a w _ C fun L w' B=>ihy _ _ hy (fun hi p U=>G hi p (by simp [ACode.rounds,U])) _ _ _ q L w' Q B I
  ·rename_i N;refine ihx _ _ hx (fun hi p U=>G hi p (by simp [ACode.rounds,U])) _ _ _ q a w _ C fun L w' B=>?_
   cases e with
   | normal=>exact absurd q (N _)
   | exit id=>exact I _ _ B
   | ret=>exact I _ _ B
 | cond x y ihx ihy =>
  intro c K A G st e st' q a w Q C I;cases c <;> simp only [co] at A <;> (try cases A)
  split at A;case h_2=>cases A
  rename_i c' ax ay W hx hy;cases A;simp only [da] at q;have X:=C;obtain ⟨μ,ν,_,_,k3,_⟩:=C;split at q
  ·rename_i hb;have:=cd k3 W hb;simp only [VRel] at this;exact wpIn_cond_true this (ihx _ _ hx (fun hi p U=>G hi p (by simp [ACode.rounds,U])) _ _ _ q a w Q X I)
  ·rename_i hb;have:=cd k3 W hb;simp only [VRel] at this;exact wpIn_cond_false this (ihy _ _ hy (fun hi p U=>G hi p (by simp [ACode.rounds,U])) _ _ _ q a w Q X I)
  ·cases q
 | block x ih =>
  intro c K A G st e st' q a w Q C I;cases c <;> simp only [co] at A <;> (try cases A)
  rw [ae] at A;obtain ⟨ax,hx,rfl⟩:=A;simp only [da] at q;apply wpIn_block;split at q
  ·rename_i j O h1;refine ih _ _ hx G _ _ _ h1 a w _ C fun L w' B=>?_
   simp only [AExit.toX,Exit.inBlock];split at q
   ·rename_i hj;cases q;rw [if_pos hj];exact I _ _ B
   ·rename_i hj;cases q;rw [if_neg hj];exact I _ _ B
  ·rename_i N;refine ih _ _ hx G _ _ _ q a w _ C fun L w' B=>?_
   cases e with
   | normal=>exact I _ _ B
   | exit id=>exact absurd q (N _ _)
   | ret=>exact I _ _ B
 | loop x ih =>
  intro c K A G st e st' q a w Q C I;cases c <;> simp only [co] at A <;> (try cases A)
  rename_i y;rw [ae] at A;obtain ⟨ax,hx,rfl⟩:=A;simp only [da] at q
  have key:∀ (m:Nat) (st:St) (a:Act) (w:World),loopN (da call n ax) m st=some (e,st')→At E lo nt μ0 w0 ds st.s st.h a w→Code.roundsIn (F0 ro) 0 E.P y Q m a w:=by
   intro m;induction m with
   | zero=>intro st a w h1; simp [loopN] at h1
   | succ m ihm =>
    intro st a w h1 a0;rw [roundsIn_succ];simp only [loopN] at h1;split at h1
    ·rename_i O h2;exact ih _ _ hx G _ _ _ h2 a w _ a0 fun L w' B=>ihm O L w' h1 B
    ·rename_i N;refine ih _ _ hx G _ _ _ h1 a w _ a0 fun L w' B=>?_
     cases e with
     | normal=>exact absurd h1 (N _)
     | exit id=>exact I _ _ B
     | ret=>exact I _ _ B
  exact wpIn_loop_rounds n (key n st a w q C)
 | next =>
  intro c K A G st e st' q a w Q C I;obtain ⟨d,y,r,rfl⟩:=l8 A;simp [da] at q
 | live l x ih =>
  intro c K A G st e st' q a w Q C I;simp only [co] at A;rw [ae] at A;obtain ⟨ax,hx,rfl⟩:=A;simp only [da] at q;exact ih _ _ hx G _ _ _ q a w Q (C.keep l) I
 | after x l ih =>
  intro c K A G st e st' q a w Q C I;simp only [co] at A;rw [ae] at A;obtain ⟨ax,hx,rfl⟩:=A;simp only [da] at q;split at q
  ·rename_i O h1;cases q;exact ih _ _ hx G _ _ _ h1 a w Q C fun L w' B=>I _ _ (B.keep l)
  ·exact ih _ _ hx G _ _ _ q a w Q C I
 | rangeFunc g caps ha hb _ _ =>
  intro c K A G st e st' q a w Q C I;cases c <;> simp only [co] at A <;> (try cases A)
  split at A;case h_2=>cases A
  rename_i f' aa ab hf b7 bb;split at A;case isFalse=>cases A
  rename_i hh;obtain ⟨ad,bm⟩:=hh;cases A;have al:=b5 ad;subst al;have an:=G ad _ (dp _);simp only [da] at q;split at q;case h_2=>cases q
  rename_i fv sl bx c4;split at q;case h_2=>cases q
  rename_i x h' J
  have ao:Evol (st.h.push (.loop g .ready none sl)) h':=by
   unfold callVal at J;split at J
   ·exact hev0 _ _ _ _ _ J
   ·cases J
  exact zx hc hg hf b7 bb bm an C bx c4 J q ao I
theorem u9 {α β:Type} {f:α→Option (List β)}:∀ {l:List α} {d:List β},flatL f l=some d→∀ x ∈ l,∃ e,f x=some e∧∀ z ∈ e,z ∈ d
 | [],d,h,x,hx=>by cases hx
 | y :: l,d,h,x,hx=>by
  simp only [flatL] at h;split at h;case h_2=>cases h
  rename_i a b h1 h2;cases h;rcases cj.1 hx with rfl | hx
  ·exact ⟨a,h1,fun z j=>dr _ j⟩
  ·obtain ⟨e,p,q⟩:=u9 h2 x hx;exact ⟨e,p,fun z j=>gb _ (q z j)⟩
theorem zbd (hc:CallOK E call) (hev0:CallEvol call) (hg:GidOK E) (hm:E.P.follows .mixedOrders=true) (O:Bool) (b6:O=false→ro=none) (n:Nat) :
  ∀ (hint:Hint) (c:Code) (K:ACode),co E nt O hint c=some K→(O=false→∀ p ∈ K.rounds,E.rnd p.1=some p.2)→∀ (st:St) (l:List (AExit × St)),eg call n K st=some l→∀ (a:Act) (w:World) (Q:Exit→Act→World→Prop),At E lo nt μ0 w0 ds st.s st.h a w →
   (∀ y ∈ l,∀ L w',At E lo nt μ0 w0 ds y.2.s y.2.h L w'→Q y.1.toX L w')→c.wpIn (F0 ro) 0 E.P Q a w:=by
 have base:∀ (hint:Hint) (c:Code) (K:ACode),co E nt O hint c=some K→(O=false→∀ p ∈ K.rounds,E.rnd p.1=some p.2)→∀ (st:St) (l:List (AExit × St)),(da call n K st).map (fun x=>[x])=some l→∀ (a:Act) (w:World) (Q:Exit→Act→World→Prop),At E lo nt μ0 w0 ds st.s st.h a w →
   (∀ y ∈ l,∀ L w',At E lo nt μ0 w0 ds y.2.s y.2.h L w'→Q y.1.toX L w')→c.wpIn (F0 ro) 0 E.P Q a w:=by
  intro hint c K d C st l A a w Q G J;rw [ae] at A;obtain ⟨x,A,rfl⟩:=A;exact pu hc hev0 hg hm O b6 n hint c K d C st x.1 x.2 A a w Q G (J x (dp _))
 intro hint;induction hint with
 | stuck =>
  intro c K d C st l A a w Q G J;simp only [co] at d;cases d;simp [eg,Opd.ev] at A
 | leaf =>
  intro c K d C st l A a w Q G J;refine base .leaf c K d C st l ?_ a w Q G J;cases c <;> simp only [co] at d <;> (try cases d) <;> exact A
 | reg segs locs =>
  intro c K d C st l A a w Q G J;refine base (.reg segs locs) c K d C st l ?_ a w Q G J;cases c <;> simp only [co] at d <;> (try cases d)
  rw [ae] at d;obtain ⟨gs,_,rfl⟩:=d;exact A
 | rangeFunc g caps ha hb _ _ =>
  intro c K d C st l A a w Q G J;refine base (.rangeFunc g caps ha hb) c K d C st l ?_ a w Q G J;cases c <;> simp only [co] at d <;> (try cases d)
  split at d;case h_2=>cases d
  split at d;case isFalse=>cases d
  cases d;exact A
 | next =>
  intro c K d C st l A a w Q G J;cases c <;> simp only [co] at d <;> (try cases d)
  rename_i id ops c4;split at d;case h_2=>cases d
  rename_i dst it ty ad al U W;split at d;case isFalse=>cases d
  rename_i hd;split at d;case h_2=>cases d
  rename_i x aZ hx b7;cases d;simp only [eg] at A;split at A;case h_2=>cases A
  rename_i l1 h1;apply wpIn_region
  have bb:ops.size=U.length+1:=by have:=congrArg List.length W;simpa using this
  have h0:ops[0]? = some ⟨dst,.next it false,ty,ad,al,none⟩:=by have:=congrArg (fun l=>l[0]?) W;simpa using this
  have bm:ops.toList.drop 1=U:=by rw [W]; rfl
  rw [bb,List.range_eq_range',List.range'_succ];simp only [wpOpsIn,h0,Region.wanted,if_true]
  refine next_sound (o:=⟨dst,.next it false,ty,ad,al,none⟩) hx rfl (fun t ht=>by have bx:dst=some t:=ht;rw [bx] at hd;simpa using hd) h1 G fun y hy an L w' B=>?_
  obtain ⟨zs,X,k2⟩:=u9 A y hy;obtain ⟨e,N⟩:=y;simp only at an;subst an;simp only [da,ae] at X;obtain ⟨z,⟨⟨s2,h2⟩,k3,rfl⟩,rfl⟩:=X
  have k4:evOps call aZ N.s N.h=some (s2,h2):=by
   simp only [jh] at k3;split at k3
   ·rename_i s' h' e1;cases k3;simpa using e1
   ·cases k3
  exact yg hc hev0 hg U 1 aZ _ _ _ _ _ _ bm b7 k4 B fun a2 w2 ao=>J _ (k2 _ (dp _)) _ _ ao
 | seq x y ihx ihy =>
  intro c K d C st l A a w Q G J;cases c <;> simp only [co] at d <;> (try cases d)
  split at d;case h_2=>cases d
  rename_i ax ay hx hy;cases d;simp only [eg] at A;apply wpIn_seq;split at A;case h_2=>cases A
  rename_i l1 h1;refine ihx _ _ hx (fun hi p hp=>C hi p (by simp [ACode.rounds,hp])) _ _ h1 a w _ G fun z hz L w' B=>?_
  obtain ⟨zs,X,k2⟩:=u9 A z hz;obtain ⟨e,N⟩:=z;cases e with
  | normal=>exact ihy _ _ hy (fun hi p hp=>C hi p (by simp [ACode.rounds,hp])) _ _ X L w' Q B fun q hq=>J q (k2 q hq)
  | exit id=>cases X; exact J _ (k2 _ (dp _)) _ _ B
  | ret=>cases X; exact J _ (k2 _ (dp _)) _ _ B
 | cond x y ihx ihy =>
  intro c K d C st l A a w Q G J;cases c <;> simp only [co] at d <;> (try cases d)
  split at d;case h_2=>cases d
  rename_i c' ax ay a0 hx hy;cases d;simp only [eg] at A;have a6:=G;obtain ⟨μ,ν,_,_,k3,_⟩:=G;split at A
  ·rename_i hb;have:=cd k3 a0 hb;simp only [VRel] at this;exact wpIn_cond_true this (ihx _ _ hx (fun hi p hp=>C hi p (by simp [ACode.rounds,hp])) _ _ A a w Q a6 J)
  ·rename_i hb;have:=cd k3 a0 hb;simp only [VRel] at this;exact wpIn_cond_false this (ihy _ _ hy (fun hi p hp=>C hi p (by simp [ACode.rounds,hp])) _ _ A a w Q a6 J)
  ·cases A
 | block x ih =>
  intro c K d C st l A a w Q G J;cases c <;> simp only [co] at d <;> (try cases d)
  rename_i id y;rw [ae] at d;obtain ⟨ax,hx,rfl⟩:=d;simp only [eg] at A;apply wpIn_block;rw [ae] at A;obtain ⟨l1,h1,rfl⟩:=A;refine ih _ _ hx C _ _ h1 a w _ G fun z hz L w' B=>?_
  have I:=pg (f:=fun x:AExit × St=>match x.1 with
   | .exit j=>if j=id then (AExit.normal,x.2) else (AExit.exit j,x.2)
   | e=>(e,x.2)) hz
  obtain ⟨e,N⟩:=z;cases e with
  | normal=>exact J _ I _ _ B
  | ret=>exact J _ I _ _ B
  | exit j =>
   simp only [AExit.toX,Exit.inBlock];simp only at I;split
   ·rename_i hj;rw [if_pos hj] at I;exact J _ I _ _ B
   ·rename_i hj;rw [if_neg hj] at I;exact J _ I _ _ B
 | loop x ih =>
  intro c K d C st l A a w Q G J;cases c <;> simp only [co] at d <;> (try cases d)
  rename_i y;rw [ae] at d;obtain ⟨ax,hx,rfl⟩:=d;simp only [eg] at A
  have key:∀ (m:Nat) (st:St) (l:List (AExit × St)) (a:Act) (w:World),loopO (eg call n ax) m st=some l→At E lo nt μ0 w0 ds st.s st.h a w→(∀ y ∈ l,∀ L w',At E lo nt μ0 w0 ds y.2.s y.2.h L w'→Q y.1.toX L w')→Code.roundsIn (F0 ro) 0 E.P y Q m a w:=by
   intro m;induction m with
   | zero=>intro st l a w h1; simp [loopO] at h1
   | succ m ihm =>
    intro st l a w h1 b5 aa;rw [roundsIn_succ];simp only [loopO] at h1;split at h1;case h_2=>cases h1
    rename_i l1 h2;refine ih _ _ hx C _ _ h2 a w _ b5 fun z hz L w' B=>?_
    obtain ⟨zs,X,k2⟩:=u9 h1 z hz;obtain ⟨e,N⟩:=z;cases e with
    | normal=>exact ihm N zs L w' X B fun q hq=>aa q (k2 q hq)
    | exit id=>cases X; exact aa _ (k2 _ (dp _)) _ _ B
    | ret=>cases X; exact aa _ (k2 _ (dp _)) _ _ B
  exact wpIn_loop_rounds n (key n st l a w A G J)
 | live l x ih =>
  intro c K d C st ys A a w Q G J;simp only [co] at d;rw [ae] at d;obtain ⟨ax,hx,rfl⟩:=d;simp only [eg] at A;exact ih _ _ hx C _ _ A a w Q (G.keep l) J
 | after x l ih =>
  intro c K d C st ys A a w Q G J;simp only [co] at d;rw [ae] at d;obtain ⟨ax,hx,rfl⟩:=d;simp only [eg] at A;rw [ae] at A;obtain ⟨l1,h1,rfl⟩:=A;refine ih _ _ hx C _ _ h1 a w Q G fun z hz L w' B=>?_
  have I:=pg (f:=fun x:AExit × St=>match x.1 with
   | .normal=>(AExit.normal,(⟨Abs.keep l x.2.s,x.2.h⟩:St))
   | e=>(e,x.2)) hz
  obtain ⟨e,N⟩:=z;cases e with
  | normal=>exact J _ I _ _ (B.keep l)
  | exit id=>exact J _ I _ _ B
  | ret=>exact J _ I _ _ B
def resOne (tmps:Array Value):ResultVar→Sem Value
 | .tmp t=>pure (tmps.getD t Go.undef)
 | .cell x t=>do loadVar t (← asAddr (tmps.getD x Go.undef))
theorem res_rel {ν:Fr} {μ:MM} {s:Slots} {h:Heap} {a:Act} {w:World} (A:FRel E lo ν μ (sget s) a.tmps w) (hr:Rel E μ h w):∀ {B:List ResultVar} {aZ:List ARes} {vs:List AVal},cRess E.P B=some aZ→resultsL s h aZ=some vs →
  ∃ l,(B.mapM (resOne a.tmps)).run E.P w = .ok l w∧VRels E μ vs l
 | [],aZ,vs,hc,j=>by simp only [cRess] at hc; cases hc;simp only [resultsL] at j; cases j;exact ⟨[],rfl,by simp [VRels]⟩
 | r :: B,aZ,vs,hc,j=>by
  simp only [cRess] at hc;split at hc;case h_2=>cases hc
  rename_i a' aZ' h1 h2;cases hc;simp only [resultsL] at j;split at j;case h_2=>cases j
  rename_i v K d L;cases j;obtain ⟨l,N,O⟩:=res_rel A hr h2 L
  have q:∃ u,(resOne a.tmps r).run E.P w = .ok u w∧VRel E μ v u:=by
   cases r with
   | tmp t =>
    simp only [cRes] at h1; cases h1;simp only [result1] at d;split at d
    ·rename_i v' hs;cases d;obtain ⟨u,U,y⟩:=A.val t _ hs;refine ⟨u,?_,y⟩;simp [resOne,U]
    ·cases d
   | cell x t =>
    simp only [cRes] at h1;rw [ae] at h1;obtain ⟨n,W,rfl⟩:=h1;simp only [result1] at d;split at d;case h_2=>cases d
    rename_i ad C;unfold loadAt at d;split at d;case h_2=>cases d
    rename_i cs o G;have I:gq E (.tmp x)=some (.tmp x):=rfl;obtain ⟨b,p,c,e,fr,X,j2,j3,j4⟩:=zj A hr I C G;obtain ⟨u,j5,j6⟩:=load_rel (P:=E.P) W j2 j3 j4 d;refine ⟨u,?_,j6⟩;have J:a.tmps.getD x Go.undef = .pointer (some ⟨b,p+o,none⟩):=X;simp only [resOne,J,asAddr,Sem.run_bind,Sem.run_pure,Result.andThen_ok,j5]
  obtain ⟨u,k3,k4⟩:=q;refine ⟨u :: l,?_,?_⟩
  ·rw [List.mapM_cons,Sem.run_bind,k3,Result.andThen_ok,Sem.run_bind,N,Result.andThen_ok];rfl
  ·simp only [VRels]; exact ⟨u,l,rfl,k4,O⟩
theorem results_rel {ν:Fr} {μ:MM} {s:Slots} {h:Heap} {a:Act} {w:World} (y:FRel E lo ν μ (sget s) a.tmps w) (hr:Rel E μ h w) {fn:Func} {aZ:List ARes} {vs:List AVal} (hc:cRess E.P fn.results.toList=some aZ) (p:resultsL s h aZ=some vs) :
  ∃ v,(results fn a.tmps).run E.P w = .ok v w∧VRel E μ (tupled vs) v:=by
 obtain ⟨l,q,j⟩:=res_rel y hr hc p;have A:=j.length
 have d:(results fn a.tmps).run E.P w = .ok (if h:l.toArray.size=1 then l.toArray[0] else .tuple l.toArray) w:=by
  have e:results fn a.tmps=(do
    let vs ← fn.results.mapM (resOne a.tmps)
    pure (if h:vs.size=1 then vs[0] else .tuple vs)):=by
   unfold results;rfl
  rw [e,Array.mapM_eq_mapM_toList,Sem.run_bind,Sem.run_map,q];rfl
 refine ⟨_,d,?_⟩;clear p q d;match vs,l,A,j with
 | [],[],_,_=>simp [tupled,VRel,VRels]
 | [v],[u],_,j =>
  simp only [VRels] at j;obtain ⟨C,G,e,h1,h2⟩:=j;cases e;simpa [tupled] using h1
 | v :: I :: vs,u :: B :: l,_,j =>
  have:¬ ((u :: B :: l).toArray.size=1):=by simp
  rw [dif_neg this];simp only [tupled,VRel];exact ⟨_,rfl,j⟩
end
section
theorem sf (h:Heap) (n0:Nat):∀ (f:Nat) (p d:List Nat),d.Nodup→(∀ i ∈ d,n0≤i)→(reach h n0 f p d).Nodup∧∀ i ∈ reach h n0 f p d,n0≤i
 | 0,p,d,h1,h2=>by simp only [reach]; exact ⟨h1,h2⟩
 | f+1,[],d,h1,h2=>by simp only [reach]; exact ⟨h1,h2⟩
 | f+1,i :: r,d,h1,h2=>by
  simp only [reach];split
  ·exact sf h n0 f r d h1 h2
  ·split
   ·exact sf h n0 f r d h1 h2
   ·rename_i hi hc;refine sf h n0 f _ _ ?_ fun j q=>?_
    ·rw [z7];refine ⟨h1,by simp,fun a ha b hb=>?_⟩;simp at hb; subst hb;intro e; subst e;simp at hc; exact hc ha
    ·rcases bz.1 q with q | q
     ·exact h2 j q
     ·simp at q; omega
theorem idxIn_get:∀ {i:Nat} {l:List Nat},i ∈ l→l[idxIn i l]? = some i
 | i,[],h=>by cases h
 | i,j :: r,h=>by
  simp only [idxIn];split
  ·rename_i e; subst e; rfl
  ·rename_i d
   have:i ∈ r:=by
    rcases cj.1 h with e | e
    ·exact absurd e.symm d
    ·exact e
   simpa using idxIn_get this
end
end Go.Abs

namespace Go.Abs
section
variable {E:Env}
theorem LoopRel.ren {μ μ':MM} {g:Nat} {st:LoopSt} {p:Option AExit} {sl:List (Nat × AVal)} {r:Loop} (h:LoopRel E μ g st p sl r) (F:Nat→Nat) (hm:∀ j ∈ AObj.ids (.loop g st p sl),j < μ.length→μ'[F j]? = μ[j]?) :
  LoopRel E μ' g st p (sl.map fun x=>(x.1,x.2.ren F)) r:=by
 refine ⟨h.code,h.st,h.pend,fun k x d=>?_⟩;rw [bp,ae] at d;obtain ⟨y,e,rfl⟩:=d;obtain ⟨v',h1,h2⟩:=h.slots k y e;refine ⟨v',h1,ql F (fun i hi q=>hm i ?_ q) h2⟩;simp only [AObj.ids];exact n6 (k:=k) (by rw [bp,e]; rfl) hi
theorem rt {lo:Nat} {μ0 μ:MM} {h0 h:Heap} {w0 w:World} {v:AVal} {v':Value} (bx:lo=w0.heap.size) (C:Rel E μ0 h0 w0) (ao:Step (fun k=>lo≤k) h.wmin μ0 w0 μ w) (hr:Rel E μ h w)
  (hv:VRel E μ v v') (ac:Evol { h0 with wmin:=h0.size } h) :
  ∃ μ',Step (fun _=>False) (dj h0 v h).2.wmin μ0 w0 μ' w∧VRel E μ' (dj h0 v h).1 v'∧Rel E μ' (dj h0 v h).2 w:=by
 have hX:∀ b,lo≤b→b < w0.heap.size→False:=fun b h1 h2=>by omega
 have ax:μ0.length=h0.size:=C.len;unfold dj;split
 ·exact ⟨μ,ao.weaken (fj _ _) hX,hv,hr.same rfl rfl rfl⟩
 ·rename_i hw;have d:Step (fun _=>False) μ0.length μ0 w0 μ w:=ao.weaken (by omega) hX;have I:∀ i,i < μ0.length→μ[i]? = μ0[i]?:=fun i hi=>(d.old i hi).resolve_right fun ⟨a,_⟩=>by omega
  have a6:∀ (i:Nat) (m:M),μ0[i]? = some (some m)→w.heap[m.blk]? = w0.heap[m.blk]?:=fun i m hm=>by
   refine d.block _ (C.lt i m hm) (fun h=>h) fun j mj hj B=>?_
   exact absurd (ah B) (by omega)
  split
  ·rename_i hu;refine ⟨μ0,⟨d.os,d.tape,d.output,d.size,?_,aj _,fun _ _=>.inl rfl,fun i m hi hm=>absurd (ah hm) (by omega)⟩,yl (fun i hi=>I i (by omega)) hu hv,C.keep d.size a6 fun k _ U=>d.block k U (fun h=>h) fun j mj hj B=>absurd (ah B) (by omega)⟩;intro k U hx _;exact d.block k U hx fun j mj hj B=>absurd (ah B) (by omega)
  ·simp only;split
   ·rename_i ad;generalize hK:reach h h0.size 1000 v.ids []=K at ad ⊢;have W:=sf h h0.size 1000 v.ids [] (by simp) (by simp);rw [hK] at W;obtain ⟨b7,ay⟩:=W;rw [ap] at ad
    have aa:∀ i ∈ v.ids++K.flatMap fun i=>((h.get i).map AObj.ids).getD [],i < h0.size∨i ∈ K:=fun i hi=>by have:=ad i hi;simpa using this
    let F:Nat→Nat:=fun i=>if i < h0.size then i else h0.size+idxIn i K
    let μ2:MM:=μ0++K.map fun i=>(μ[i]?).getD none
    have hold:∀ i,i < h0.size→μ2[i]? = μ0[i]?:=fun i hi=>ag (by omega)
    have L:∀ j,μ2[h0.size+j]? = (K[j]?).map fun i=>(μ[i]?).getD none:=fun j=>by
     show (μ0++_)[_]? = _
     rw [aw (by omega),ax,iw,bp]
    have A:∀ (i:Nat) (m:M),μ2[i]? = some (some m)→∃ p,μ[p]? = some (some m)∧((i < h0.size∧p=i)∨(h0.size≤i∧h0.size≤p∧K[i - h0.size]? = some p)):=fun i m hm=>by
     rcases bh i h0.size with hi | hi
     ·exact ⟨i,by rw [I i (by omega),← hold i hi]; exact hm,.inl ⟨hi,rfl⟩⟩
     ·obtain ⟨j,rfl⟩:=Nat.exists_eq_add_of_le hi;rw [L] at hm;rw [ae] at hm;obtain ⟨p,J,hm⟩:=hm;refine ⟨p,?_,.inr ⟨by omega,ay p (br J),by rw [iw]; exact J⟩⟩;cases hq:μ[p]? with
      | none=>rw [hq] at hm; cases hm
      | some x=>rw [hq] at hm; simp at hm; rw [hm]
    have hF:∀ i,(i < h0.size∨i ∈ K)→i < μ.length→μ2[F i]? = μ[i]?:=fun i hi N=>by
     by_cases h1:i < h0.size
     ·show μ2[if i < h0.size then i else _]? = _
      rw [if_pos h1,hold i h1,I i (by omega)]
     ·have h2:i ∈ K:=hi.resolve_left h1;show μ2[if i < h0.size then i else _]? = _;rw [if_neg h1,L,idxIn_get h2];simp [ai N]
    have b5:Later μ0 μ2:=⟨by simp [μ2],fun i hi=>.inl (hold i (by omega))⟩;refine ⟨μ2,?_,?_,?_⟩
    ·refine ⟨d.os,d.tape,d.output,d.size,?_,b5.len,fun i hi=>.inl (hold i (by omega)),?_⟩
     ·intro k U hx _;exact d.block k U hx fun j mj hj B=>absurd (ah B) (by omega)
     ·intro i m hi hm;obtain ⟨p,J,h1 | h1⟩:=A i m hm
      ·omega
      ·rcases d.new p m (by omega) J with h2 | ⟨r,m0,h2,h3,_⟩
       ·exact .inl h2
       ·exact absurd (ah h3) (by omega)
    ·exact ql F (fun i hi N=>hF i (aa i (dr _ hi)) N) hv
    ·constructor
     ·simp [μ2,ax,Heap.size]
     ·have:=C.bs; simp; omega
     ·intro i o ho;simp only at ho;rcases bh i h0.size with hi | hi
      ·rw [ag hi] at ho;refine (C.obj i o ho).keep b5 fun m hm=>⟨by rw [hold i hi]; exact hm,a6 i m hm⟩
      ·obtain ⟨j,rfl⟩:=Nat.exists_eq_add_of_le hi;rw [aw hi,show h0.size+j - h0.objs.length=j from iw ..,bp,ae] at ho;obtain ⟨p,J,ho⟩:=ho;have c4:=ay p (br J);have al:=C.bs;have X:h.base=h0.base:=ac.base;have bm:h0.base≤h0.size:=al;cases hq:h.get p with
       | none =>
        rw [hq] at ho;simp at ho; subst ho;have a0:h.objs[p]? = none:=hq
        have:μ[p]? = none:=by rw [List.getElem?_eq_none_iff] at a0 ⊢;rw [hr.len]; exact a0
        show μ2[_]? = _
        rw [L,J]; simp [this]
       | some o' =>
        rw [hq] at ho;simp at ho; subst ho;have G:∀ i ∈ o'.ids,i < μ.length→μ2[F i]? = μ[i]?:=fun i hi N=>hF i (aa i (gb _ (dx.2 ⟨p,br J,by rw [hq]; simpa using hi⟩))) N
        have O:∀ x,μ[p]? = some x→μ2[h0.size+j]? = some x:=fun x hx=>by rw [L,J]; simp [hx]
        have P:=hr.obj p o' hq;cases o' with
        | dead=>exact O _ P
        | cells esz cs =>
         obtain ⟨m,c,e,fr,h1,h2,h3,h4,h5,h6,h7⟩:=P;refine ⟨m,c,e,fr,O _ h1,h2,h3,h4,by rw [zm]; exact h5,?_,fun _=>h7 (by omega)⟩;intro k x U;change (AVal.renL F cs)[k]? = _ at U;rw [renL_get,ae] at U;obtain ⟨y,hy,rfl⟩:=U;obtain ⟨k1,y',k2,k3⟩:=h6 k y hy;refine ⟨(isOne_ren F y).trans k1,y',k2,ql F (fun i hi N=>G i (n6 hy hi) N) k3⟩
        | map es clock =>
         obtain ⟨m,es',h1,h2,h3,h4⟩:=P;refine ⟨m,es',O _ h1,h2,by rw [a7]; exact h3,?_⟩;intro k x U;rw [bp,ae] at U;obtain ⟨y,hy,rfl⟩:=U;obtain ⟨y',k1,k2,k3,k4⟩:=h4 k y hy
         have b6:∀ i,i ∈ y.1.ids∨i ∈ y.2.1.ids→i ∈ AObj.ids (.map es clock):=fun i hi=>by simp only [AObj.ids,dx,bz];exact ⟨y,br hy,hi⟩
         exact ⟨y',k1,ql F (fun i hi N=>G i (b6 i (.inl hi)) N) k2,ql F (fun i hi N=>G i (b6 i (.inr hi)) N) k3,k4⟩
        | iter s pos =>
         obtain ⟨m,h1,h2⟩:=P;exact ⟨m,O _ h1,h2⟩
        | mapIter r a b c =>
         obtain ⟨m,r',⟨h1,h0⟩,h2,h3⟩:=P;refine ⟨m,r',⟨O _ h1,h0⟩,h2,?_⟩;have h4:=ql F (fun i hi N=>G i (by cases r <;> exact hi) N) h3;cases r <;> simpa [AVal.ren] using h4
        | loop g st pd sl =>
         obtain ⟨m,r,h1,h2,h3⟩:=P;exact ⟨m,r,O _ h1,h2,h3.ren F G⟩
     ·intro i j mi mj c5 hi bb B;obtain ⟨p,J,an⟩:=A i mi bb;obtain ⟨q,hq,a0⟩:=A j mj B;have al:h0.base≤h0.size:=C.bs;have X:h.base=h0.base:=ac.base;refine hr.sep p q mi mj ?_ (by simp only at hi; omega) J hq;intro e;rcases an with ⟨a1,a2⟩ | ⟨a1,a2,a3⟩ <;> rcases a0 with ⟨b1,b2⟩ | ⟨b1,b2,b3⟩
      ·omega
      ·omega
      ·omega
      ·subst e;have:=(List.getElem?_inj (ah a3) b7).1 (a3.trans b3.symm);omega
     ·intro i m hm;obtain ⟨p,J,_⟩:=A i m hm;exact hr.lt p m J
     ·refine hr.tab.less fun i m hi hm=>?_
      obtain ⟨p,J,an⟩:=A i m hm;have al:h0.base≤h0.size:=C.bs;have X:h.base=h0.base:=ac.base;simp only at hi;exact ⟨p,m,by rcases an with ⟨a1,a2⟩ | ⟨a1,a2,a3⟩ <;> omega,J,rfl⟩
   ·refine ⟨μ,?_,hv,hr.same rfl rfl rfl⟩;exact d.fresh _
theorem x6:∀ (args:List AVal) (i t:Nat),sget (enter i args) t=if i≤t then (args[t - i]?).map Slot.val else none
 | [],i,t=>by simp [enter,sget]
 | v :: r,i,t=>by
  simp only [enter,sget];split
  ·rename_i e; subst e; simp
  ·rename_i d;rw [x6 r (i+1) t];by_cases h1:i+1≤t
   ·rw [if_pos h1,if_pos (by omega),show t - i=(t - (i+1))+1 by omega,List.getElem?_cons_succ]
   ·rw [if_neg h1,if_neg (by omega)]
def RndOK (E:Env):List (Nat × ARound)→Prop
 | []=>True
 | p :: r=>E.rnd p.1=some p.2∧RndOK E r
theorem RndOK.of {l:List (Nat × ARound)} (h:RndOK E l):∀ p ∈ l,E.rnd p.1=some p.2:=by
 induction l with
 | nil=>simp
 | cons a r ih =>
  intro p d;rcases cj.1 d with rfl | d
  ·exact h.1
  ·exact ih h.2 p d
structure LibOK (E:Env) (f:FuncId) (fn:Func) (F:List AVal→Heap→Option (AVal × List (Nat × AObj) × List AObj)):Prop where
 name:fn.name ≠ "runtime.NumGoroutine"
 body:fn.body.isSome=true
 run:∀ args h v ps xs,F args h=some (v,ps,xs)→∀ (μ:MM) (w:World) (args':Array Value),VRels E μ args args'.toList→Rel E μ h w→Calls E.P f args' w (Ends E μ w v (h.puts ps xs))
structure ByOK (E:Env) (T:Nat→Option AFunc) (f g:Nat) (fn:Func):Prop where
 name:fn.name ≠ "runtime.NumGoroutine"
 body:fn.body.isSome=true
 run:∀ args h v h',xCall T g args h=some (v,h')→∀ (μ:MM) (w:World) (args':Array Value),VRels E μ args args'.toList→Rel E μ h w→Calls E.P f args' w (Ends E μ w v h')
def FnOK (E:Env) (T:Nat→Option AFunc) (f g:Nat):Prop :=
 (∃ fn,E.P.funcs[f]? = some fn∧ByOK E T f g fn) ∨
 (∃ fn closed hint af,E.P.funcs[f]? = some fn∧T g=some af∧uo E closed hint fn=some af∧RndOK E af.body.rounds) ∨
 (∃ fn af F,E.P.funcs[f]? = some fn∧T g=some af∧af.round=some (.lib F)∧LibOK E f fn F)
structure Agrees (E:Env) (T:Nat→Option AFunc):Prop where
 fn:∀ f g,E.gid f=some g→FnOK E T f g
 rnd:∀ g ar,E.rnd g=some ar→∃ af,T g=some af∧af.round=some (.round ar)
def AgreesL (E:Env) (T:Nat→Option AFunc):List (Nat × Nat)→Prop
 | []=>True
 | p :: r=>FnOK E T p.1 p.2∧AgreesL E T r
def ASpec.rnd:ASpec→Option ARound
 | .round r=>some r
 | .lib _=>none
def rndOf (T:Nat→Option AFunc) (g:Nat):Option ARound:=(T g).bind fun f=>f.round.bind ASpec.rnd
theorem agrees_of {P:Program} {T:Nat→Option AFunc} {l:List (Nat × Nat)} {room glob:Nat} {tabs:List (Nat × (Obj→Prop))} (h:AgreesL ⟨P,fun f=>List.lookup f l,rndOf T,room,glob,tabs⟩ T l):Agrees ⟨P,fun f=>List.lookup f l,rndOf T,room,glob,tabs⟩ T:=by
 constructor
 ·intro f g d;simp only at d
  have:∀ {r:List (Nat × Nat)},AgreesL ⟨P,fun f=>List.lookup f l,rndOf T,room,glob,tabs⟩ T r→List.lookup f r=some g→FnOK ⟨P,fun f=>List.lookup f l,rndOf T,room,glob,tabs⟩ T f g:=by
   intro r;induction r with
   | nil=>intro _ h1; simp at h1
   | cons p r ih =>
    intro h1 h2;obtain ⟨a,b⟩:=p;simp only [AgreesL] at h1;rw [List.lookup_cons] at h2;split at h2
    ·rename_i e;rw [beq_iff_eq] at e;subst e;cases h2;exact h1.1
    ·exact ih h1.2 h2
  exact this h d
 ·intro g ar d;simp only [rndOf,ic] at d;obtain ⟨af,h1,s,h2,j⟩:=d;cases s with
  | round r=>cases j; exact ⟨af,h1,h2⟩
  | lib _=>cases j
theorem Agrees.gid {T:Nat→Option AFunc} (h:Agrees E T):GidOK E:=fun f g j=>by
 rcases h.fn f g j with ⟨fn,h1,e⟩ | ⟨fn,closed,hint,af,h1,h2,d,_⟩ | ⟨fn,af,F,h1,_,_,e⟩;case inl=>exact ⟨fn,h1,e.name,e.body⟩
 case inr.inr=>exact ⟨fn,h1,e.name,e.body⟩
 refine ⟨fn,h1,?_⟩;unfold uo at d;split at d;case h_2=>cases d
 rename_i c hb;split at d;case h_2=>cases d
 split at d;case isFalse=>cases d
 rename_i p;exact ⟨p.2,by rw [hb]; rfl⟩
theorem cFunc_round {closed:Bool} {hint:Hint} {fn:Func} {af:AFunc} (h:uo E closed hint fn=some af):af.round=none:=by
 unfold uo at h;split at h;case h_2=>cases h
 split at h;case h_2=>cases h
 split at h;case isFalse=>cases h
 cases h;rfl
theorem ru {lo:Nat} {μ μ0:MM} {w0:World} {s:Slots} {h:Heap} {a:Act} {fn:Func} {K:List ARes} {vs:List AVal} (A:cRess E.P fn.results.toList=some K) (B:resultsL s h K=some vs) {R:Ending→World→Prop}
  (L:∀ v' w',VRel E μ (tupled vs) v'→Step (fun k=>lo≤k) h.wmin μ0 w0 μ w'→Rel E μ h w'→R (.returned v') w') :
  ∀ (l:List Nat) (νv:Nat→Nat) (w:World),Step (fun k=>lo≤k) h.wmin μ0 w0 μ w→Rel E μ h w→FRel E lo ⟨νv,l⟩ μ (sget s) a.tmps w→LeavesInM (F0 none) 0 E.P fn a.tmps R (l.map markOf) .returning w
 | [],νv,w,y,hr,d=>by obtain ⟨v',O,U⟩:=results_rel d hr A B;exact ⟨v',O,L v' w U y hr⟩
 | r :: l,νv,w,y,hr,d=>by
  have j:r ∈ (⟨νv,r :: l⟩:Fr).ds:=a8 ..;have I:=d.nodup.1;have p:=List.nodup_cons.1 I;obtain ⟨J,C⟩:=d.ds r j;have hw:w.putObj r (.deferred none)=cz w r (.deferred none):=rfl;refine ⟨by simp,.inl ⟨r,w.putObj r (.deferred none),rfl,run_takeDeferred C,ru A B L l νv _ ?_ ?_ ?_⟩⟩
  ·refine y.trans (Step.mk rfl rfl rfl (by simp) (fun k W hx _=>?_) (aj _) (fun _ _=>.inl rfl) fun i m hi hm=>absurd (ah hm) (by omega)) (aj _);rw [hw];exact bo (by intro e; subst e; exact hx J)
  ·exact hr.keep (by simp) (fun i m hm=>by rw [hw]; exact bo ((d.sepd r j).1 i m hm).symm) fun k W _=>by rw [hw]; exact bo (by have:=d.nodup.2; omega)
  ·refine ⟨d.val,d.undef,fun t cs N=>?_,d.loc,d.sepv,d.sepm,fun q G=>⟨(d.ds q (bd _ G)).1,?_⟩,fun q G=>d.sepd q (bd _ G),p.2,d.nodup.2⟩
   ·obtain ⟨h1,h2,c,e,fr,X,h4⟩:=d.var t cs N;refine ⟨h1,h2,c,e,fr,?_,h4⟩;rw [hw];exact (bo ((d.sepd r j).2 t cs N).symm).trans X
   ·rw [hw];refine (bo ?_).trans (d.ds q (bd _ G)).2;intro e; subst e; exact p.1 G
theorem eqbE_eq:∀ {l m:List (AVal × AVal × Nat)},eqbE l m=true→l=m
 | [],[],_=>rfl
 | [],_ :: _,h=>by simp [eqbE] at h
 | _ :: _,[],h=>by simp [eqbE] at h
 | (k,v,b) :: r,(k',v',d) :: e,h=>by simp only [eqbE,bc,decide_eq_true_eq] at h;rw [AVal.eq_of h.1.1.1,AVal.eq_of h.1.1.2,h.1.2,eqbE_eq h.2]
theorem eqbS_eq:∀ {l m:List (Nat × AVal)},eqbS l m=true→l=m
 | [],[],_=>rfl
 | [],_ :: _,h=>by simp [eqbS] at h
 | _ :: _,[],h=>by simp [eqbS] at h
 | (k,v) :: r,(k',v') :: d,h=>by simp only [eqbS,bc,decide_eq_true_eq] at h;rw [h.1.1,AVal.eq_of h.1.2,eqbS_eq h.2]
theorem AObj.eq_of {a b:AObj} (h:a.eqb b=true):a=b:=by
 cases a <;> cases b <;> simp only [AObj.eqb,bc,decide_eq_true_eq,cg] at h
 ·rfl
 ·rw [h.1,AVal.eqL_of h.2]
 ·rw [eqbE_eq h.1,h.2]
 ·rw [h.1,h.2]
 ·rw [h.1.1.1,h.1.1.2,h.1.2,h.2]
 ·rw [h.1.1.1,h.1.1.2,h.1.2,eqbS_eq h.2]
theorem eqbO_eq:∀ {l m:List AObj},eqbO l m=true→l=m
 | [],[],_=>rfl
 | [],_ :: _,h=>by simp [eqbO] at h
 | _ :: _,[],h=>by simp [eqbO] at h
 | a :: r,b :: d,h=>by simp only [eqbO,bc] at h;rw [AObj.eq_of h.1,eqbO_eq h.2]
theorem eqbR_eq {x y:AVal × Heap} (h:eqbR x y=true):x=y:=by obtain ⟨v,o,b,w⟩:=x;obtain ⟨v',d,e,w'⟩:=y;simp only [eqbR,bc,decide_eq_true_eq] at h;rw [AVal.eq_of h.1.1.1,eqbO_eq h.1.1.2,h.1.2,h.2]
theorem allSame_all {l:List (Option (AVal × Heap))} {r:AVal × Heap} (h:allSame l=some r):∀ x ∈ l,x=some r:=by
 unfold allSame at h;split at h;case h_2=>cases h
 split at h;case isFalse=>cases h
 rename_i d;cases h;rw [ap] at d;intro x hx;rcases cj.1 hx with rfl | hx
 ·rfl
 ·have:=d x hx;split at this
  ·rw [eqbR_eq this]
  ·cases this
theorem func_sound {call:CallSem} {n:Nat} (hc:CallOK E call) (hev0:CallEvol call) (hg:GidOK E) (hm:E.P.follows .mixedOrders=true) {f:FuncId} {fn:Func} {closed:Bool} {hint:Hint} {af:AFunc} (hf:E.P.funcs[f]? = some fn) (p:uo E closed hint fn=some af) (G:RndOK E af.body.rounds)
  {args:List AVal} {h:Heap} {v:AVal} {h':Heap} (d:evFunc call n af args h=some (v,h')) {μ:MM} {w:World} {args':Array Value} (ha:VRels E μ args args'.toList) (hr:Rel E μ h w) :
  CallsIn (F0 none) 0 E.P f args' w (Ends E μ w v h'):=by
 unfold uo at p;split at p;case h_2=>cases p
 rename_i c hb;split at p;case h_2=>cases p
 rename_i ac rs I N;split at p;case isFalse=>cases p
 rename_i a0;cases p;unfold evFunc at d;split at d;case isFalse=>cases d
 rename_i J;simp only at J d;have a6:args'.size=args.length:=by have:=ha.length; simp at this; exact this.symm
 have K:At E w.heap.size fn.ntmps μ w [] (enter 0 args) { h with wmin:=h.size } { tmps:=args'++Array.replicate (fn.ntmps - args'.size) undef,defers:=[] } w:=by
  refine ⟨μ,⟨fun _=>0,[]⟩,Step.refl _ _ _ _,hr.same rfl rfl rfl,?_,?_,rfl,aj _⟩
  ·have j:∀ (t:Nat) (x:Slot),sget (enter 0 args) t=some x→∃ v,x = .val v∧args[t]? = some v:=fun t x hx=>by rw [x6] at hx;simp at hx;obtain ⟨v,h1,h2⟩:=hx;exact ⟨v,h2.symm,h1⟩
   constructor
   ·intro t v hv;obtain ⟨v1,e,h1⟩:=j t _ hv;cases e;obtain ⟨v',h2,O⟩:=ha.get h1;refine ⟨v',?_,O⟩;have aa:=ah h1;rw [s9 (by omega)];simpa using h2
   ·intro t hx; obtain ⟨_,e,_⟩:=j t _ hx; cases e
   ·intro t cs hx; obtain ⟨_,e,_⟩:=j t _ hx; cases e
   ·intro t t' o cs hx; obtain ⟨_,e,_⟩:=j t _ hx; cases e
   ·intro t t' cs cs' _ hx; obtain ⟨_,e,_⟩:=j t _ hx; cases e
   ·intro t cs i m hx; obtain ⟨_,e,_⟩:=j t _ hx; cases e
   ·intro r hr; cases hr
   ·intro r hr; cases hr
   ·exact ⟨List.nodup_nil,hr.tab.1⟩
  ·simp; omega
 refine callsIn_of_wp_marks hf hb trivial ?_
 have A:∀ (y:AExit × St),Evol { h with wmin:=h.size } y.2.h→funcEnd ⟨closed,ac.wild,fn.params.size+fn.nfree,fn.ntmps,rs,ac,none⟩ h y=some (v,h')→∀ B w',At E w.heap.size fn.ntmps μ w [] y.2.s y.2.h B w' →
   bodyPostM (F0 none) 0 E.P fn (Ends E μ w v h') y.1.toX B w':=by
  intro y C U B w' q
  have key:((resultsL y.2.s y.2.h rs).map fun vs=>dj h (tupled vs) y.2.h)=some (v,h')→LeavesInM (F0 none) 0 E.P fn B.tmps (Ends E μ w v h') B.defers .returning w':=by intro h2;rw [ae] at h2;obtain ⟨vs,h2,O⟩:=h2;obtain ⟨μ1,ν1,k1,k2,k3,k4,k5,k6⟩:=q;rw [k5,gt];refine ru N h2 (fun v' w2 r2 W X=>?_) ν1.ds ν1.v w' k1 k2 k3;obtain ⟨μ2,s1,s2,s3⟩:=rt rfl hr W X r2 C;rw [O] at s1 s2 s3;exact ⟨v',μ2,rfl,s1,s2,s3⟩
  obtain ⟨x,st⟩:=y;cases x with
  | normal=>exact key U
  | ret=>exact key U
  | exit id=>simp [funcEnd] at U
 split at d
 ·split at d;case h_2=>cases d
  rename_i l hl;refine zbd hc hev0 hg hm false (fun _=>rfl) n _ _ _ I (fun _=>G.of) _ _ hl _ _ _ K fun y hy B w' q=>?_
  have L:=allSame_all d;exact A y (yk hev0 n _ _ _ hl y hy) (L _ (pg hy)) B w' q
 ·split at d;case h_2=>cases d
  rename_i x hx;exact pu hc hev0 hg hm false (fun _=>rfl) n _ _ _ I (fun _=>G.of) _ _ _ hx _ _ _ K fun B w' q=>A x (nk hev0 n _ _ _ _ hx) d B w' q
def Holds (E:Env) (μ:MM) (s:Slots) (tmps:Array Value):Prop :=
 ∀ (t:Nat) (x:Slot),sget s t=some x→∃ v,x = .val v∧∃ v',tmps[t]? = some v'∧VRel E μ v v'
theorem za6 {μ:MM} {tmps:Array Value}:∀ {sl:List (Nat × AVal)},(∀ (k:Nat) (x:Nat × AVal),sl[k]? = some x→∃ v',tmps[x.1]? = some v'∧VRel E μ x.2 v')→Holds E μ (ofCaps sl) tmps
 | [],_,t,x,h=>by simp [ofCaps,sget] at h
 | (u,v) :: sl,hs,t,x,h=>by
  simp only [ofCaps,sget] at h;split at h
  ·rename_i e;cases h;obtain ⟨v',h1,h2⟩:=hs 0 (u,v) rfl;simp only at h1;exact ⟨v,rfl,v',by rw [← e]; exact h1,h2⟩
  ·exact za6 (fun k x d=>hs (k+1) x (by simpa using d)) t x h
theorem za7 {μ:MM}:∀ {ps:List Nat} {aZ:List AVal} {aZ':List Value} {s:Slots} {tmps:Array Value},VRels E μ aZ aZ'→(∀ t ∈ ps,t < tmps.size)→Holds E μ s tmps →
  Holds E μ (setArgs ps aZ s) ((ps.zip aZ').foldl (fun tmps (t,a)=>tmps.setIfInBounds t a) tmps)∧((ps.zip aZ').foldl (fun tmps (t,a)=>tmps.setIfInBounds t a) tmps).size=tmps.size
 | [],aZ,aZ',s,tmps,_,_,h=>by cases aZ <;> exact ⟨h,rfl⟩
 | t :: ts,[],aZ',s,tmps,ha,_,h=>by simp only [VRels] at ha;subst ha;exact ⟨h,rfl⟩
 | t :: ts,v :: vs,aZ',s,tmps,ha,j,h=>by
  simp only [VRels] at ha;obtain ⟨v',p,rfl,h1,h2⟩:=ha;simp only [setArgs,List.zip_cons_cons,jw];have:=za7 (ps:=ts) (aZ:=vs) (aZ':=p) (s:=(t,.val v) :: s) (tmps:=tmps.setIfInBounds t v') h2 (fun u q=>by simp; exact j u (bd _ q)) (fun u x hx=>?_)
  ·refine ⟨this.1,this.2.trans (by simp)⟩
  ·simp only [sget] at hx;have y:=j t (a8 ..);split at hx
   ·rename_i e;cases hx;subst e;exact ⟨v,rfl,v',by simp [y],h1⟩
   ·rename_i d;obtain ⟨A,B,C,G,I⟩:=h u x hx;exact ⟨A,B,C,by rw [dm d]; exact G,I⟩
theorem At.record {lo nt:Nat} {μ0:MM} {w0:World} {ds:List Deferred} {s:Slots} {h:Heap} {a:Act} {w:World} (G:At E lo nt μ0 w0 ds s h a w) {i g:Nat} {st:LoopSt} {p:Option AExit} {sl:List (Nat × AVal)} (hi:h.get i=some (.loop g st p sl)) (hb:h.base≤i)
  {m0:M} (A:μ0[i]? = some (some m0)) (L:Nat) (B:LoopSt) (N:Option AExit) (C:List (Nat × AVal)) :
  ∃ r,w.heap[m0.blk]? = some (.loop r)∧st.is r.state∧∀ y:Loop,(∀ μ,LoopRel E μ g st p sl r→LoopRel E μ L B N C y)→At E lo nt μ0 w0 ds s (h.put i (.loop L B N C)) a (w.putObj m0.blk (.loop y)):=by
 obtain ⟨μ,ν,O,I,J,W,X,k6⟩:=G;obtain ⟨m,r,d,q2,P⟩:=I.obj i _ hi
 have hm:m=m0:=by
  rcases O.old i (ah A) with q | ⟨_,q⟩
  ·rw [q,A] at d; cases d; rfl
  ·rw [q] at d; cases d
 subst hm;refine ⟨r,q2,P.st,fun y K=>?_⟩;have hw:w.putObj m.blk (.loop y)=cz w m.blk (.loop y):=rfl;rw [hw];refine ⟨μ,ν,(O.trans (Step.put d (fj _ _) _) (cr _ _)),I.put hb d ?_,?_,W,X,by simpa [cz] using k6⟩
 ·exact ⟨m,y,d,gp (I.lt i m d),K μ P⟩
 ·refine J.keep (Later.refl μ) (fun t cs U=>bo (J.sepm t cs i m U d)) (fun t cs j m' U hj e=>absurd (ah e) (by omega)) fun r hr=>⟨bo ((J.sepd r hr).1 i m d),fun j m' hj e=>absurd (ah e) (by omega)⟩
theorem round_sound {call:CallSem} {n g:Nat} (hc:CallOK E call) (hev0:CallEvol call) (hg:GidOK E) (hm:E.P.follows .mixedOrders=true) {ar:ARound} (W:E.rnd g=some ar) {i k:Nat} {args:List AVal} {h:Heap} {v:AVal} {h':Heap} {st:LoopSt} {p:Option AExit} {sl:List (Nat × AVal)}
  (d:evRound call n g ar (.ptr (some (i,k)) :: args) h=some (v,h')) (hi:h.get i=some (.loop g st p sl)) {μ:MM} {w:World} {args':Array Value} (ha:VRels E μ args args'.toList) (hr:Rel E μ h w) :
  ∃ (m:M) (r:Loop),μ[i]? = some (some m)∧w.heap[m.blk]? = some (.loop r)∧args'.size=r.params.size ∧
   RoundIn (F0 none) 0 E.P m.blk r.fn ((r.params.zip args').foldl (fun tmps (t,a)=>tmps.setIfInBounds t a) r.tmps) r.assign r.body w (Ends E μ w v h'):=by
 obtain ⟨m,r,q1,q2,q3⟩:=hr.obj i _ hi;obtain ⟨c5,ci,cp,e1,e2,e3,e4,e5⟩:=q3.code;rw [W] at e1;cases e1;have ax:args'.size=args.length:=by have:=ha.length; simp at this; exact this.symm
 unfold evRound at d;simp only at d;split at d;case isFalse=>cases d
 rename_i B;split at d;case h_2=>cases d
 rename_i s hs;split at d;case h_2=>cases d
 rename_i cv y
 have ay:r.params.size=args'.size:=by rw [ax,B.1,← e2]; simp
 refine ⟨m,r,q1,q2,ay.symm,?_⟩
 have b5:s=setArgs ar.params args (ofCaps sl):=by unfold nd at hs;rw [hi] at hs;cases hs; rfl
 subst b5
 have L:(r.params.zip args').foldl (fun tmps (t,a)=>tmps.setIfInBounds t a) r.tmps=(ar.params.zip args'.toList).foldl (fun tmps (t,a)=>tmps.setIfInBounds t a) r.tmps:=by rw [← e2,← Array.foldl_toList,Array.toList_zip]
 obtain ⟨C,N⟩:=za7 ha e3 (za6 q3.slots);rw [← L] at C N;generalize (r.params.zip args').foldl (fun tmps (t,a)=>tmps.setIfInBounds t a) r.tmps=tmps at C N ⊢
 have b6:At E w.heap.size r.tmps.size μ w [] (setArgs ar.params args (ofCaps sl)) { h with wmin:=h.size } { tmps:=tmps,defers:=[] } w:=by
  refine ⟨μ,⟨fun _=>0,[]⟩,Step.refl _ _ _ _,hr.same rfl rfl rfl,?_,N,rfl,aj _⟩;constructor
  ·intro t v hv;obtain ⟨v1,e,h1⟩:=C t _ hv;cases e;exact h1
  ·intro t hx; obtain ⟨_,e,_⟩:=C t _ hx; cases e
  ·intro t cs hx; obtain ⟨_,e,_⟩:=C t _ hx; cases e
  ·intro t t' o cs hx; obtain ⟨_,e,_⟩:=C t _ hx; cases e
  ·intro t t' cs cs' _ hx; obtain ⟨_,e,_⟩:=C t _ hx; cases e
  ·intro t cs i m hx; obtain ⟨_,e,_⟩:=C t _ hx; cases e
  ·intro r hr; cases hr
  ·intro r hr; cases hr
  ·exact ⟨List.nodup_nil,hr.tab.1⟩
 refine roundIn_of_wpIn trivial ?_;show Code.wpIn (F0 (some m.blk)) 0 E.P r.assign _ _ _;unfold mg at y;split at y;case h_2=>cases y
 rename_i b7 X;split at y;case h_2=>cases y
 rename_i g' p' bb bm;split at y;case isFalse=>cases y
 rename_i O;subst O;cases y;have G:=nk hev0 n _ _ _ _ X;refine pu hc hev0 hg hm true (fun h=>by cases h) n _ _ _ e4 (fun h=>by cases h) _ _ _ X _ _ _ b6 fun a1 w1 a0=>?_
 have a6:b7.h.base≤i:=by rw [G.base]; exact B.2
 obtain ⟨r1,f1,f2,f3⟩:=a0.record bm a6 q1 g' .busy p' bb;refine ⟨_,run_beginRound f1 f2,?_⟩;have aa:=f3 { r1 with state:=.busy } fun μ q=>⟨q.code,rfl,q.pend,q.slots⟩
 show Code.wpIn (F0 (some m.blk)) 0 E.P r.body _ _ _
 unfold roundOut at d;split at d;case h_2=>cases d
 rename_i e ac ad;split at d;case h_2=>cases d
 rename_i g3 cx p4 bx c4;split at d;case isFalse=>cases d
 rename_i O;subst O;have I:=ce d;have J:=nk hev0 n _ _ _ _ ad;refine pu hc hev0 hg hm true (fun h=>by cases h) n _ _ _ e5 (fun h=>by cases h) _ _ _ ad _ _ _ aa fun a3 w3 al=>?_
 have an:ac.h.base≤i:=by rw [J.base]; exact a6
 obtain ⟨r3,j1,j2,j3⟩:=al.record c4 an q1 g3 (if e = .normal then .ready else .done) (if e = .normal then none else some e) bx
 have A:∀ (j:Option Code) (U:LoopSt) (p5:Option AExit),U=(if e = .normal then .ready else .done)→p5=(if e = .normal then none else some e)→j=p5.map AExit.code→j.isNone=decide (e = .normal) →
   ∃ v1 w',(Instr.endRound m.blk j).run E.P w3 = .ok v1 w'∧Ends E μ w v h' (.returned v1) w':=by
  intro j U p5 h1 h2 h3 h4;rw [← h1,← h2] at I;refine ⟨_,_,run_endRound j j1,?_⟩
  have ao:U.is (if j.isNone then .ready else .done:LoopState):=by rw [h4,h1];by_cases hn:e = .normal <;> simp [hn,LoopSt.is]
  have K:=j3 { r3 with state:=if j.isNone then .ready else .done,pending:=j } fun μ q=>⟨q.code,by rw [← h1]; exact ao,by rw [← h2]; exact h3,q.slots⟩
  rw [← h1,← h2] at K;obtain ⟨μ5,ν5,l1,l2,l3,l4,l5,l6⟩:=K;have hv:VRel E μ5 (.bool (decide (e = .normal))) (.bool j.isNone):=by rw [h4]; simp [VRel]
  have hx:Evol { h with wmin:=h.size } ac.h:=(Evol.trans G (Evol.put _ _ _)).trans J;obtain ⟨μ6,s1,s2,s3⟩:=rt rfl hr l1 l2 hv (hx.trans (Evol.put _ _ _));rw [I] at s1 s2 s3;exact ⟨_,μ6,rfl,s1,s2,s3⟩
 cases e with
 | normal=>exact A none _ _ rfl rfl rfl rfl
 | ret=>exact A (some .ret) _ _ rfl rfl rfl rfl
 | exit id=>exact A (some (.exit id)) _ _ rfl rfl rfl rfl
theorem oe {T:Nat→Option AFunc} (d:Agrees E T) (hm:E.P.follows .mixedOrders=true):∀ n,CallOK E (du T n)
 | 0=>⟨by intro g args h v h' e; simp [du] at e,by intro g i k args h v h' st p sl e; simp [du] at e⟩
 | n+1=>by
  constructor
  ·intro g args h v h' e f J μ w args' ha hr;rcases d.fn f g J with ⟨fn,h1,q⟩ | ⟨fn,closed,hint,af,h1,h2,j,q⟩ | ⟨fn,af,F,h1,h2,j,q⟩;case inl=>exact callsIn_wide.2 (q.run _ _ _ _ ((jx T _ _ _ _).2 ⟨n+1,e⟩) _ _ _ ha hr)
   case inr.inr =>
    simp only [du,h2,j,ae] at e;obtain ⟨⟨K,ps,xs⟩,B,C⟩:=e;cases C;exact callsIn_wide.2 (q.run _ _ _ _ _ B _ _ _ ha hr)
   simp only [du,h2,cFunc_round j] at e
   have key:∀ (args:List AVal) (h:Heap) (v:AVal) (h':Heap),evFunc (du T n) n af args h=some (v,h')→∀ (μ:MM) (w:World) (args':Array Value),VRels E μ args args'.toList→Rel E μ h w →
     CallsIn (F0 none) 0 E.P f args' w (Ends E μ w v h'):=fun args h v h' e μ w args' ha hr =>
    func_sound (oe d hm n) (ki T n) d.gid hm h1 j q e ha hr
   cases y:af.closed with
   | false=>rw [y] at e; exact key _ _ _ _ e _ _ _ ha hr
   | true =>
    rw [y] at e;simp only [wrapC,evClosed,if_true] at e;split at e;case isFalse=>cases e
    rename_i L;split at e;case h_2=>cases e
    rename_i K h0 N;split at e;case isFalse=>cases e
    rename_i G;cases e;have I:Rel E [] ⟨[],0,0⟩ w:=⟨rfl,aj _,by simp,by simp,by simp,hr.tab.less fun i m _ hm=>by simp at hm⟩;refine CallsIn.mono (F:=F0 none) (n:=0) (key _ _ _ _ N [] w args' (oq (n:=0) (fun i hi=>absurd hi (by omega)) L ha) I) fun e w' ⟨v',μ',h1,h2,j,_⟩=>?_
    have hb:∀ k,k < w.heap.size→w'.heap[k]? = w.heap[k]?:=fun k A=>h2.block k A (fun h=>h) fun i m _ hm=>by simp at hm
    refine ⟨v',μ,h1,⟨h2.os,h2.tape,h2.output,h2.size,fun k A _ _=>hb k A,aj _,fun _ _=>.inl rfl,fun i m hi hm=>absurd (ah hm) (by omega)⟩,
     yl (n:=0) (fun i hi=>absurd hi (by omega)) G j,hr.keep h2.size (fun i m hm=>hb _ (hr.lt i m hm)) fun k _ A=>hb k A⟩
  ·intro g i k args h v h' st p sl e hi μ w args' ha hr;obtain ⟨m,r,W,X,O⟩:=hr.obj i _ hi;obtain ⟨ar,_,_,B,_⟩:=O.code;obtain ⟨af,C,U⟩:=d.rnd g ar B;simp only [du,C,U] at e;exact round_sound (oe d hm n) (ki T n) d.gid hm B e hi ha hr
end
end Go.Abs
