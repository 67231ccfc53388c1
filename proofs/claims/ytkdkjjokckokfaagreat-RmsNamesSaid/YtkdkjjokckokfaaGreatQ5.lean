/-
  Texts joined.
-/
import Derived.Test.YtkdkjjokckokfaaGreatQ0
import Derived.Test.YtkdkjjokckokfaaGreatQ4
import Derived.Test.YtkdkjjokckokfaaGreatQ2
import Derived.Maps.RangeRun
import Derived.RangeFuncLeaves
set_option linter.unusedVariables false
set_option linter.unusedSimpArgs false
set_option maxRecDepth 100000
namespace Go.Abs
section
variable {E:Env}
theorem Rel.ids {μ:MM} {h:Heap} {w:World} (hr:Rel E μ h w) {i:Nat} {o:AObj} (ho:h.objs[i]? = some o):∀ j ∈ o.ids,j < h.size:=by
 have hat:At E w.heap.size 0 μ w [] [] ⟨h.objs,h.base,μ.length⟩ { tmps:=#[],defers:=[] } w :=
  ⟨μ,⟨fun _=>0,[]⟩,Step.refl _ _ _ _,hr.same rfl rfl rfl,⟨by simp [sget],by simp [sget],by simp [sget],by simp [sget],by simp [sget],by simp [sget],by simp,by simp,by simp,hr.tab.1⟩,rfl,rfl,aj _⟩
 exact hat.ids.2.1 i o ho
theorem u7 {l:List AObj} {o:AObj} {k:Nat} (h:l.length=k):(l++[o])[k]? = some o:=by subst h; simp
def restr (p:Nat→Bool) (s:Slots):Slots:=s.filter fun x=>p x.1
theorem qe (p:Nat→Bool):∀ (s:Slots) (t:Nat),sget (restr p s) t=if p t=true then sget s t else none
 | [],t=>by simp [restr,sget]
 | (u,x) :: s,t=>by
  have ih:=qe p s t;unfold restr at ih ⊢;rw [List.filter_cons];by_cases hu:p u=true
  ·rw [if_pos hu];simp only [sget];by_cases e:u=t
   ·subst e; simp [hu]
   ·rw [if_neg e,ih,if_neg e]
  ·rw [if_neg hu,ih];simp only [sget];by_cases e:u=t
   ·subst e; simp [hu]
   ·rw [if_neg e]
theorem cOper_dst {nt:Nat} {ops:Array Oper} {loc:Bool} {o:Oper} {o':AOper} (h:ky E nt ops loc o=some o'):o'.dst=o.dst∧∀ t,o.dst=some t→t < nt:=by
 unfold ky at h;split at h;case isFalse=>cases h
 rename_i hh;simp only [a7] at hh;refine ⟨?_,fun t ht=>by have:=hh.1; rw [ht] at this; simpa using this⟩;split at h
 ·cases h; rfl
 ·split at h
  ·cases h; rfl
  ·cases h
theorem jl {o:AOp} (h:soft o=true):calm o=true:=by cases o <;> simp_all [soft,calm]
variable {call:CallSem} {n:Nat} {aops:Nat→Option AOper} {ms:Nat→Nat} {S:Nat→Slots} {H:Nat→Heap} {r:Nat→Slot} {D:Nat→Did}
open Txt
noncomputable def memL (D:Nat→Did) (H:Nat→Heap) (n:Nat) (L:Nat→Bool):List AObj:=(List.range (H n).size).map (mem D (sz H) H L n)
theorem ki (L:Nat→Bool):(memL D H n L).length=(H n).size:=by simp [memL]
theorem ir {L:Nat→Bool} {i:Nat} (hi:i < (H n).size):(memL D H n L)[i]? = some (mem D (sz H) H L n i):=by simp [memL,hi]
def okL (H:Nat→Heap) (n:Nat) (L:Nat→Bool) (i:Nat):Prop:=i < (H 0).size∨∃ y,y < n∧L y=true∧(H y).size≤i∧i < (H (y+1)).size
def okA (ms:Nat→Nat) (H:Nat→Heap) (n y i:Nat):Prop:=i < (H 0).size∨∃ z,z < n∧(z=y∨(ms y).testBit z=true)∧(H z).size≤i∧i < (H (z+1)).size
structure Inv (E:Env) (lo nt:Nat) (μ0:MM) (w0:World) (ds:List Deferred) (n:Nat) (ms:Nat→Nat) (H:Nat→Heap) (r:Nat→Slot) (D:Nat→Did) (L:Nat→Bool) (sD:Slots) (a:Act) (w:World):Prop where
 at':At E lo nt μ0 w0 ds sD ⟨memL D H n L,(H 0).base,(H n).wmin⟩ a w
 slots:∀ t y,sget sD t=some y→∀ i ∈ y.ids,okL H n L i
 vars:∀ t cs,sget sD t=some (.var cs)→∀ i ∈ AVal.idsL cs,i < (H 0).size
 down:∀ x y,x < n→L x=true→(ms x).testBit y=true→L y=true
 upds:∀ y,y < n→L y=true→(∀ i o,upd D (sz H) H y i=some o→∀ j ∈ o.ids,okA ms H n y j)∧∀ j ∈ (r y).ids,okA ms H n y j
variable {lo nt:Nat} {μ0:MM} {w0:World} {ds:List Deferred} {ops:Array Oper} {Q:Exit→Act→World→Prop} {ro:Option Nat}
structure Up (n:Nat) (ms:Nat→Nat) (L:Nat→Bool) (x:Nat):Prop where
 lt:x < n
 not:L x=false
 below:∀ y,y < n→(ms x).testBit y=true→L y=true
 above:∀ y,y < n→L y=true→(ms y).testBit x=false
section
variable (T:Txt call n aops ms S H r D) (hev0:CallEvol call)
include T hev0
omit T hev0 in
theorem Inv.objs {L:Nat→Bool} {sD:Slots} {a:Act} {w:World} (h0:∀ (i:Nat) o,(H 0).objs[i]? = some o→∀ j ∈ o.ids,j < (H 0).size) (hI:Inv E lo nt μ0 w0 ds n ms H r D L sD a w) (i:Nat):∀ j ∈ (mem D (sz H) H L n i).ids,okL H n L j:=by
 intro j hj;rcases sf (D:=D) (sz:=sz H) (H:=H) (L:=L) (i:=i) n with ⟨h1,_⟩ | ⟨y,o,h1,h2,h3,h4⟩
 ·rw [h1] at hj;cases hq:(H 0).objs[i]? with
  | none=>rw [hq] at hj; simp [AObj.ids] at hj
  | some o=>rw [hq] at hj; exact .inl (h0 i o hq j hj)
 ·rw [h4] at hj;rcases (hI.upds y h1 h2).1 i o h3 j hj with h5 | ⟨z,hz,h5,h6⟩
  ·exact .inl h5
  ·rcases h5 with rfl | h5
   ·exact .inr ⟨z,hz,h2,h6⟩
   ·exact .inr ⟨z,hz,hI.down y z h1 h2 h5,h6⟩
theorem mem_at {L:Nat→Bool} {q i:Nat} (hq:q≤n) (h:∀ y,y < n→upd D (sz H) H y i≠none→L y=decide (y < q)):mem D (sz H) H L n i=((H q).objs[i]?).getD .dead:=by rw [← zad (D:=D) (sz:=sz H) (H:=H) (i:=i) (n:=n) (fun _=>rfl) (fun y hy=>(T.evol hev0 hy).size) (fun y i hy hi hw=>T.unwritten hev0 hy hi hw) q hq];obtain ⟨k,rfl⟩:∃ k,n=q+k:=⟨n - q,by omega⟩;rw [← zae q k];exact qh _ fun y hy hu=>h y hy hu
theorem mem_same {L:Nat→Bool} {x i:Nat} (hU:Up n ms L x) (h:∀ y,y < n→y≠x→(ms x).testBit y=false→(ms y).testBit x=false→(x < y→L y=true)→upd D (sz H) H y i=none) :
  mem D (sz H) H L n i=((H x).objs[i]?).getD .dead:=by
 have hx:=hU.lt;refine mem_at T hev0 (by omega) fun y hy hu=>?_
 by_cases e:y=x
 ·subst e; rw [hU.not]; simp
 ·cases hb:(ms x).testBit y with
  | true =>
   rw [hU.below y hy hb];have:=T.back x y hx hb;simp [this]
  | false =>
   cases hb2:(ms y).testBit x with
   | true =>
    have h1:=T.back y x hy hb2;cases hl:L y with
    | false=>simp; omega
    | true =>
     have:=hU.above y hy hl;rw [hb2] at this; cases this
   | false =>
    by_cases hl:x < y→L y=true
    ·exact absurd (h y hy e hb hb2 hl) hu
    ·have hxy:x < y:=Classical.byContradiction fun hh=>hl fun h=>absurd h hh
     have:L y=false:=by
      cases hq:L y with
      | false=>rfl
      | true=>exact absurd (fun _=>hq) hl
     rw [this]; simp; omega
def Late (n:Nat) (H:Nat→Heap) (D:Nat→Did) (L:Nat→Bool) (x y:Nat):Prop:=y < n∧L y=true∧x < y∧benign (H (y+1)) (D y) (D x)=true∧∃ i,i ∈ (D x).rd∧upd D (sz H) H y i≠none
omit T hev0 in
theorem late_max {L:Nat→Bool} {x:Nat}:∀ (k y:Nat),n - y≤k→Late n H D L x y→∃ z,Late n H D L x z∧∀ u,z < u→¬ Late n H D L x u
 | 0,y,hk,h=>absurd h.1 (by omega)
 | k+1,y,hk,h=>by
  by_cases hu:∃ u,y < u∧Late n H D L x u
  ·obtain ⟨u,h1,h2⟩:=hu;exact late_max k u (by have:=h2.1; omega) h2
  ·exact ⟨y,h,fun u hyu hl=>hu ⟨u,hyu,hl⟩⟩
theorem u9 {L:Nat→Bool} {x i:Nat} {o:AObj} (hU:Up n ms L x) (hu:upd D (sz H) H x i=some o):mem D (sz H) H (fun y=>y == x || L y) n i=o:=by
 refine zaf hU.lt hu fun y hy hxy hl=>?_
 refine T.cww hev0 hU.lt hy (by omega) ?_ (hU.above y hy hl) (by rw [hu]; simp);cases hb:(ms x).testBit y with
 | false=>rfl
 | true=>have:=T.back x y hU.lt hb; omega
theorem okL_new {L:Nat→Bool} {x i:Nat} (hU:Up n ms L x) (h:okL H n L i):¬ ((H x).size≤i∧i < (H (x+1)).size):=by
 rintro ⟨h1,h2⟩;rcases h with h | ⟨y,hy,hl,h3,h4⟩
 ·have:=T.mono hev0 (ge x) (by have:=hU.lt; omega); omega
 ·have:=T.apart hev0 hU.lt hy h1 h2 h3 h4;subst this;rw [hU.not] at hl; cases hl
theorem okL_lt {L:Nat→Bool} {i:Nat} (h:okL H n L i):i < (H n).size:=by
 rcases h with h | ⟨y,hy,hl,h3,h4⟩
 ·exact fg h (T.mono hev0 (ge n) (aj _))
 ·exact fg h4 (T.mono hev0 hy (aj _))
omit hev0 in
theorem Inv.next {L:Nat→Bool} {sD:Slots} {a a':Act} {w w':World} {x:Nat} {o':AOper} (hU:Up n ms L x) (ho:aops x=some o') (hI:Inv E lo nt μ0 w0 ds n ms H r D L sD a w)
  (hat:At E lo nt μ0 w0 ds (a8 o'.dst (r x) sD) ⟨memL D H n (fun y=>y == x || L y),(H 0).base,(H n).wmin⟩ a' w')
  (hr:∀ j ∈ (r x).ids,okA ms H n x j) (hu:∀ i o,upd D (sz H) H x i=some o→∀ j ∈ o.ids,okA ms H n x j) (hrv:∀ cs,r x ≠ .var cs):Inv E lo nt μ0 w0 ds n ms H r D (fun y=>y == x || L y) (a8 o'.dst (r x) sD) a' w':=by
 have up:∀ {i},okL H n L i→okL H n (fun y=>y == x || L y) i:=fun h=>by
  rcases h with h | ⟨y,hy,hl,h3⟩
  ·exact .inl h
  ·exact .inr ⟨y,hy,by simp [hl],h3⟩
 have dn:∀ {j},okA ms H n x j→okL H n (fun y=>y == x || L y) j:=fun h=>by
  rcases h with h | ⟨z,hz,h1,h2⟩
  ·exact .inl h
  ·rcases h1 with rfl | h1
   ·exact .inr ⟨z,hz,by simp,h2⟩
   ·exact .inr ⟨z,hz,by simp [hU.below z hz h1],h2⟩
 refine ⟨hat,fun t y hy i hi=>?_,fun t cs hy i hi=>?_,fun y z hy hl hb=>?_,fun y hy hl=>?_⟩
 ·rw [fo] at hy;split at hy
  ·cases hy; exact dn (hr i hi)
  ·exact up (hI.slots t y hy i hi)
 ·rw [fo] at hy;split at hy
  ·exact absurd (dr hy) (hrv cs)
  ·exact hI.vars t cs hy i hi
 ·simp only [dt,beq_iff_eq] at hl ⊢;rcases hl with rfl | hl
  ·by_cases hz:z < n
   ·exact .inr (hU.below z hz hb)
   ·have:=T.back y z hy hb; omega
  ·exact .inr (hI.down y z hy hl hb)
 ·simp only [dt,beq_iff_eq] at hl;rcases hl with rfl | hl
  ·exact ⟨hu,hr⟩
  ·exact hI.upds y hy hl
theorem mem_new {L:Nat→Bool} {x i:Nat} (hU:Up n ms L x) (h1:(H x).size≤i) (h2:i < (H (x+1)).size):mem D (sz H) H L n i = .dead:=by
 have hx:=hU.lt
 have hu:upd D (sz H) H x i≠none:=by unfold upd;rw [if_pos (show touched D (sz H) x i from ⟨h2,.inl h1⟩),ai (show i < (H (x+1)).objs.length from h2)];simp
 rcases sf (D:=D) (sz:=sz H) (H:=H) (L:=L) (i:=i) n with ⟨h3,_⟩ | ⟨y,o,h3,h4,h5,_⟩
 ·rw [h3,bv]
  ·rfl
  ·have:=T.mono hev0 (ge x) (by omega);show (H 0).size≤i;omega
 ·exfalso;have hne:y≠x:=fun e=>by subst e; rw [hU.not] at h4; cases h4
  have hb2:=hU.above y h3 h4;cases hb:(ms x).testBit y with
  | false =>
   have:=T.cww hev0 hx h3 hne hb hb2 hu;rw [h5] at this; cases this
  | true =>
   have hyx:=T.back x y hx hb;obtain ⟨u1,_⟩:=qg (D:=D) (H:=H) (x:=y) (i:=i) (by rw [h5]; simp);have:=T.mono hev0 (show y+1≤x from hyx) (by omega);omega
omit T hev0 in
theorem load_run {call:CallSem} {o:AOper} {d:Nat} {k:Option Nat} {a:Opd} {s:Slots} {h:Heap} {i off:Nat} {v:AVal} (h1:o.guard=none) (h2:o.dst=some d) (h3:o.op = .load k a) (h4:a.adr s=some (.glob i off)) (h5:loadAt [] h (.glob i off) k=some v) :
  fe call o s h=some (a8 o.dst (.val v) s,h):=by
 unfold fe evRun;rw [h1,h3];simp only [df,h4];have:loadAt s h (.glob i off) k=some v:=h5;rw [this]; rfl
omit T hev0 in
theorem load_keeps {call:CallSem} {o:AOper} {k:Option Nat} {a:Opd} {s s':Slots} {h h':Heap} (h1:o.guard=none) (h3:o.op = .load k a) (e:fe call o s h=some (s',h')):h'=h:=by
 unfold fe evRun at e;rw [h1,h3] at e;simp only [df] at e;cases hq:a.adr s with
 | none=>rw [hq] at e; cases e
 | some ad =>
  rw [hq] at e;cases hl:loadAt s h ad k with
  | none=>simp [ok1,hl] at e
  | some v=>simp [ok1,hl] at e; exact e.2.symm
theorem soft_late (hg:GidOK E) (h0:∀ (i:Nat) o,(H 0).objs[i]? = some o→∀ j ∈ o.ids,j < (H 0).size) (hμ0:μ0.length≤(H 0).size) (hbase0:(H 0).base≤(H 0).size) {L:Nat→Bool} {sD:Slots} {a:Act} {w:World} {x:Nat} {loc:Bool} {o:Oper} {o':AOper} (hU:Up n ms L x)
  (ho:aops x=some o') (hop:ky E nt ops loc o=some o') (hc:o'.op.isCall=false) (hrv:∀ cs,r x ≠ .var cs) (hag:Agree (S x) sD o'.reads) (hI:Inv E lo nt μ0 w0 ds n ms H r D L sD a w)
  (next:Act→World→Prop) (hn:∀ a' w',Inv E lo nt μ0 w0 ds n ms H r D (fun y=>y == x || L y) (a8 o'.dst (r x) sD) a' w'→next a' w')
  (hP:∃ y,Late n H D L x y) :
  if Region.wanted o (yielded ops a.tmps) then o.wpIn (F0 ro) 0 E.P a w next Q else next (a.put o.dst Go.undef) w:=by
 have hx:=hU.lt;obtain ⟨y0,hl0⟩:=hP;obtain ⟨y,hl,hmax⟩:=late_max n y0 (by omega) hl0;obtain ⟨hy,hLy,hxy,hbn,i0,hi0,hu0⟩:=hl;obtain ⟨hcl,hnc,hch,hwr,hag2⟩:=ww hbn;have hb:(H (y+1)).base=(H 0).base:=T.base hev0 (by omega);have hsz0:(H 0).size≤(H x).size:=T.mono hev0 (ge x) (by omega);obtain ⟨hform,hd1,hd2,hd3⟩:=T.form hev0 hx ho hc;obtain ⟨⟨hrok,hrd⟩,_,_,_,hsp⟩:=T.spec hev0 hx ho;have hsoft:=T.soft x o' hx ho
 have hone:OneSoft (H 0).size (ms x) (dsl D x) o' (S x) (H x) (r x) (H (x+1)) (D x):=by
  rcases hsp with h | h
  ·rw [h.isc] at hc; cases hc
  ·exact h
 obtain ⟨_,hids1,hids2,hids3⟩:=qf hsoft hone
 have hld:∃ d k a i off v,o'.guard=none∧o'.dst=some d∧o'.op = .load k a∧a.adr (S x)=some (.glob i off)∧r x = .val v∧loadAt [] (H (y+1)) (.glob i off) k=some v:=by
  have h1:=hone.ld;rw [h1] at hag2;unfold ldOf at hag2;split at hag2;case h_2=>simp [again] at hag2
  rename_i k a hop';split at hag2;case h_2=>simp [again] at hag2
  rename_i d hg' hd';split at hag2;case h_2=>simp [again] at hag2
  rename_i i off v had hrx;simp only [again] at hag2;split at hag2;case h_2=>cases hag2
  rename_i u hu;have:=AVal.eq_of hag2;subst this;exact ⟨d,k,a,i,off,u,hg',hd',hop',had,hrx,hu⟩
 obtain ⟨d,k,a,i,off,v,hg',hd',hop',had,hrx,hload⟩:=hld
 have hrds:fj o'.op (S x)=[i]:=by
  unfold Opd.adr at had;split at had;case h_2=>cases had
  rename_i t;split at had <;> cases had
  rename_i hs;rw [hop'];simp [fj,fk,Opd.ev,hs,AVal.ids]
 have hii:i0=i:=by rw [hd2,hrds] at hi0;simpa using hi0
 subst hii;have hvis:=(T.okId_iff hev0 hx).1 (hrd i0 (by rw [hrds]; simp));have hkeep:∀ {s' h'},fe noCall o' (S x) ⟨(H x).objs,(H x).base,(H x).size⟩=some (s',h')→h'=⟨(H x).objs,(H x).base,(H x).size⟩:=fun e=>load_keeps hg' hop' e
 have hnone:H (x+1)=H x∧(D x).ch=none:=by
  rcases hform with ⟨x0,e1,e2,e3,e4⟩ | ⟨ob,f,hf,e1,e2,e3,e4⟩ | ⟨j,ob,f,hf,hi,hib,hir,e1,e2,e3,e4,e5⟩ | ⟨j,ob,v,hi,hib,hir,e1,e2,e3,e4,e5⟩
  ·exact ⟨e3,e4⟩
  ·exfalso; have:=congrArg Heap.size (hkeep e1); simp [Heap.size,Heap.push] at this
  ·rw [hch] at e4; cases e4
  ·rw [hch] at e4; cases e4
 obtain ⟨e3,e4⟩:=hnone
 have hno:∀ j,upd D (sz H) H x j=none:=fun j=>by
  cases hu:upd D (sz H) H x j with
  | none=>rfl
  | some o2 =>
   exfalso;obtain ⟨u1,u2⟩:=qg (D:=D) (H:=H) (x:=x) (i:=j) (by rw [hu]; simp);rw [e3] at u1;rcases u2 with u2 | u2
   ·omega
   ·simp [Did.writes,e4,hd3] at u2
 have hmem:mem D (sz H) H L n i0=((H (y+1)).objs[i0]?).getD .dead:=by
  refine mem_at T hev0 (by omega) fun z hz hu=>?_
  by_cases hzx:z=x
  ·subst hzx; exact absurd (hno i0) hu
  ·rcases bi y z with hyz | hyz
   ·rw [decide_eq_false (by omega)];cases hLz:L z with
    | false=>rfl
    | true =>
     exfalso;have b2:=hU.above z hz hLz
     have b1:(ms x).testBit z=false:=by
      cases hq:(ms x).testBit z with
      | false=>rfl
      | true=>have:=T.back x z hx hq; omega
     by_cases hnb:x < z∧benign (H (z+1)) (D z) (D x)=true
     ·exact hmax z hyz ⟨hz,hLz,hnb.1,hnb.2,i0,hi0,hu⟩
     ·exact hu (T.crd hev0 hx hz hzx b1 b2 hi0 hvis hnb)
   ·rw [decide_eq_true (by omega)];cases hLz:L z with
    | true=>rfl
    | false =>
     exfalso;have hzy:z≠y:=fun e=>by rw [e,hLy] at hLz; cases hLz
     have b1:(ms y).testBit z=false:=by
      cases hq:(ms y).testBit z with
      | false=>rfl
      | true=>have:=hI.down y z hy hLy hq; rw [hLz] at this; cases this
     have b2:(ms z).testBit y=false:=by
      cases hq:(ms z).testBit y with
      | false=>rfl
      | true=>have:=T.back z y hz hq; omega
     exact hu (T.cww hev0 hy hz hzy b1 b2 hu0)
 have hlt:i0 < (H (y+1)).size:=by
  have h1:i0 < (H x).size:=by
   rcases hvis with hv | ⟨z,hz,_,_,h4⟩
   ·omega
   ·have:=T.mono hev0 (show z+1≤x from hz) (by omega); omega
  have:=T.mono hev0 (show x≤y+1 by omega) (by omega);omega
 have hszn:(H (y+1)).size≤(H n).size:=T.mono hev0 hy (aj _);let W:=max (H n).size (H n).wmin
 have hW:(H n).wmin≤W:=Nat.le_max_right _ _
 have hheap:∀ {sX:Slots},fj o'.op sX=fj o'.op (S x)→∀ z ∈ fk o'.op,∀ v,z.ev sX=some v→∀ i ∈ v.ids,(⟨memL D H n L,(H 0).base,W⟩:Heap).get i=(⟨(H (y+1)).objs,(H (y+1)).base,(H (y+1)).size⟩:Heap).get i:=by
  intro sX hr' z hz v hv j hj;have h1:j ∈ fj o'.op (S x):=by rw [← hr']; exact rdIds_mem hz hv hj
  rw [hrds] at h1;have:j=i0:=by simpa using h1
  subst this;simp only [Heap.get];rw [ir (by omega),hmem];have h2':j < (H (y+1)).objs.length:=hlt;rw [ai h2']; rfl
 have hrd':=xz (o:=o'.op) (S:=S x) (S2:=sD) (hag.sub fun t ht=>e9 _ ht);have e1:fe noCall o' (S x) ⟨(H (y+1)).objs,(H (y+1)).base,(H (y+1)).size⟩=some (a8 o'.dst (.val v) (S x),⟨(H (y+1)).objs,(H (y+1)).base,(H (y+1)).size⟩):=load_run hg' hd' hop' had hload;obtain ⟨x1,c1,c2,_⟩:=jj (jl hsoft) hag e1
 have okV:∀ {i},okId (H 0).size (ms x) (dsl D x) i=true→okA ms H n x i:=fun h=>by
  rcases (T.okId_iff hev0 hx).1 h with h | ⟨z,hz,hb',h2⟩
  ·exact .inl h
  ·exact .inr ⟨z,by omega,.inr hb',h2⟩
 rcases pg (h1:=⟨(H (y+1)).objs,(H (y+1)).base,(H (y+1)).size⟩) (h2:=⟨memL D H n L,(H 0).base,W⟩) hsoft hc hb.symm (hheap hrd') c2 with ⟨x2,d1,_,d3⟩ | ⟨ob,f,_,_,d3,_⟩ | ⟨j,ob,f,_,_,_,_,_,d3,_⟩ | ⟨j,ob,_,_,hi2,_,_,d3,_⟩
 ·refine qi hg hop d3 hW hI.at' fun a' w' hat'=>hn a' w' ?_
  have hmemL:memL D H n (fun y=>y == x || L y)=memL D H n L:=by unfold memL;apply List.map_congr_left;intro j _;exact jv (hno j)
  have hslot:a8 o'.dst (r x) sD=a8 o'.dst x2 sD:=by
   have:a8 o'.dst (r x) sD=a8 o'.dst (gw o'.dst (a8 o'.dst (.val v) (S x))) sD:=by rw [hrx,na]
   rw [this,c1,na,d1]
  exact Inv.next T hU ho hI (by rw [hmemL,hslot]; exact hat') (fun j hj=>okV (hids1 (by rw [e3]) j hj)) (fun j o2 hu=>by rw [hno j] at hu; cases hu) hrv
 ·exfalso; have:=congrArg Heap.size d3; simp [Heap.size,Heap.push] at this
 ·exfalso; have:=congrArg Heap.size d3; simp [Heap.size,Heap.push,Heap.put] at this
 ·exfalso;have:=congrArg Heap.wmin d3;have hi2':j < (H (y+1)).size:=hi2;simp only [Heap.put] at this;omega
theorem soft_up (hg:GidOK E) (h0:∀ (i:Nat) o,(H 0).objs[i]? = some o→∀ j ∈ o.ids,j < (H 0).size) (hμ0:μ0.length≤(H 0).size) (hbase0:(H 0).base≤(H 0).size) {L:Nat→Bool} {sD:Slots} {a:Act} {w:World} {x:Nat} {loc:Bool} {o:Oper} {o':AOper} (hU:Up n ms L x)
  (ho:aops x=some o') (hop:ky E nt ops loc o=some o') (hc:o'.op.isCall=false) (hrv:∀ cs,r x ≠ .var cs) (hag:Agree (S x) sD o'.reads) (hI:Inv E lo nt μ0 w0 ds n ms H r D L sD a w)
  (next:Act→World→Prop) (hn:∀ a' w',Inv E lo nt μ0 w0 ds n ms H r D (fun y=>y == x || L y) (a8 o'.dst (r x) sD) a' w'→next a' w') :
  if Region.wanted o (yielded ops a.tmps) then o.wpIn (F0 ro) 0 E.P a w next Q else next (a.put o.dst Go.undef) w:=by
 have hx:=hU.lt;have hb:(H x).base=(H 0).base:=T.base hev0 (by omega);have hszx:(H x).size≤(H (x+1)).size:=(T.evol hev0 hx).size;have hszn:(H (x+1)).size≤(H n).size:=T.mono hev0 hx (aj _);have h0x:(H 0).size≤(H x).size:=T.mono hev0 (ge x) (by omega);have hbase:(H 0).base≤(H x).size:=by omega
 obtain ⟨hform,hd1,hd2,hd3⟩:=T.form hev0 hx ho hc;obtain ⟨⟨hrok,hrd⟩,_,_,_,hsp⟩:=T.spec hev0 hx ho;have hsoft:=T.soft x o' hx ho
 have hone:OneSoft (H 0).size (ms x) (dsl D x) o' (S x) (H x) (r x) (H (x+1)) (D x):=by
  rcases hsp with h | h
  ·rw [h.isc] at hc; cases hc
  ·exact h
 obtain ⟨_,hids1,hids2,hids3⟩:=qf hsoft hone
 have okV:∀ {i},okId (H 0).size (ms x) (dsl D x) i=true→okA ms H n x i:=fun h=>by
  rcases (T.okId_iff hev0 hx).1 h with h | ⟨z,hz,hb',h2⟩
  ·exact .inl h
  ·exact .inr ⟨z,by omega,.inr hb',h2⟩
 have okVL:∀ {i},okId (H 0).size (ms x) (dsl D x) i=true→okL H n L i:=fun h=>by
  rcases (T.okId_iff hev0 hx).1 h with h | ⟨z,hz,hb',h2⟩
  ·exact .inl h
  ·exact .inr ⟨z,by omega,hU.below z (by omega) hb',h2⟩
 by_cases hP:∃ y,Late n H D L x y
 ·exact soft_late T hev0 hg h0 hμ0 hbase0 hU ho hop hc hrv hag hI next hn hP
 have hlook:∀ i ∈ (D x).rd,i < (H x).size∧mem D (sz H) H L n i=((H x).objs[i]?).getD .dead:=fun i hi=>by
  rw [hd2] at hi;have hv:=(T.okId_iff hev0 hx).1 (hrd i hi);refine ⟨?_,mem_same T hev0 hU fun y hy hne h1 h2 hxl=>?_⟩;rotate_left
  ·by_cases hnb:x < y∧benign (H (y+1)) (D y) (D x)=true
   ·cases hu:upd D (sz H) H y i with
    | none=>rfl
    | some o=>exact absurd ⟨y,hy,hxl hnb.1,hnb.1,hnb.2,i,by rw [hd2]; exact hi,by rw [hu]; simp⟩ hP
   ·exact T.crd hev0 hx hy hne h1 h2 (by rw [hd2]; exact hi) hv hnb
  rcases hv with hv | ⟨z,hz,_,_,h4⟩
  ·omega
  ·have:=T.mono hev0 (show z+1≤x from hz) (by omega); omega
 have hheap:∀ {sX:Slots},fj o'.op sX=fj o'.op (S x)→∀ y ∈ fk o'.op,∀ v,y.ev sX=some v→∀ i ∈ v.ids,(⟨memL D H n L,(H 0).base,(H n).size⟩:Heap).get i=(⟨(H x).objs,(H x).base,(H x).size⟩:Heap).get i:=by
  intro sX hr' y hy v hv i hi;have h1:i ∈ (D x).rd:=by rw [hd2,← hr']; exact rdIds_mem hy hv hi
  obtain ⟨h2,h3⟩:=hlook i h1;simp only [Heap.get];rw [ir (by omega),h3];have h2':i < (H x).objs.length:=h2;rw [ai h2']; rfl
 have hrd':=xz (o:=o'.op) (S:=S x) (S2:=sD) (hag.sub fun t ht=>e9 _ ht);have hwn:(H n).wmin≤(H (x+1)).wmin:=T.wmin hev0 hx (aj _);let W:=max (H n).size (H n).wmin
 have hW:(H n).wmin≤W:=Nat.le_max_right _ _;have hml:(memL D H n L).length=(H n).size:=ki L;have hne:∀ {i},(H x).size < (H (x+1)).size→okL H n L i→i < (H n).size∧i≠(H x).size:=fun h1 h=>⟨okL_lt T hev0 h,fun e=>okL_new T hev0 hU h ⟨by omega,by omega⟩⟩
 have hobj:∀ (k:Nat) (ob:AObj),(memL D H n L)[k]? = some ob→∀ i ∈ ob.ids,okL H n L i:=fun k ob hk i hi=>by
  have hk':k < (H n).size:=by rw [← hml]; exact ah hk
  rw [ir hk'] at hk; cases hk;exact hI.objs h0 k i hi
 have hdst:=cOper_dst hop;rcases hform with ⟨x0,e1,e2,e3,e4⟩ | ⟨ob,f,hf,e1,e2,e3,e4⟩ | ⟨i,ob,f,hf,hi,hib,hir,e1,e2,e3,e4,e5⟩ | ⟨i,ob,v,hi,hib,hir,e1,e2,e3,e4,e5⟩
 ·-- nothing is made
  obtain ⟨x1,c1,c2,_⟩:=jj (jl hsoft) hag e1;rcases pg (h1:=⟨(H x).objs,(H x).base,(H x).size⟩) (h2:=⟨memL D H n L,(H 0).base,W⟩) hsoft hc hb.symm (hheap hrd') c2 with ⟨x2,d1,_,d3⟩ | ⟨ob,f,_,_,d3,_⟩ | ⟨i,ob,f,_,_,_,_,_,d3,_⟩ | ⟨i,ob,_,_,hi2,_,_,d3,_⟩
  ·refine qi hg hop d3 hW hI.at' fun a' w' hat'=>hn a' w' ?_
   have hno:∀ j,upd D (sz H) H x j=none:=fun j=>by
    cases hu:upd D (sz H) H x j with
    | none=>rfl
    | some o2 =>
     exfalso;obtain ⟨u1,u2⟩:=qg (D:=D) (H:=H) (x:=x) (i:=j) (by rw [hu]; simp);rw [e3] at u1;rcases u2 with u2 | u2
     ·omega
     ·simp [Did.writes,e4,hd3] at u2
   have hmem:memL D H n (fun y=>y == x || L y)=memL D H n L:=by unfold memL;apply List.map_congr_left;intro j _;exact jv (hno j)
   have hslot:a8 o'.dst (r x) sD=a8 o'.dst x2 sD:=by rw [e2,c1,na,d1]
   refine Inv.next T hU ho hI (by rw [hmem,hslot]; exact hat') (fun j hj=>okV (hids1 (by rw [e3]) j hj)) (fun j o2 hu=>by rw [hno j] at hu; cases hu) hrv
  ·exfalso; have:=congrArg Heap.size d3; simp [Heap.size,Heap.push] at this
  ·exfalso; have:=congrArg Heap.size d3; simp [Heap.size,Heap.push,Heap.put] at this
  ·exfalso;have:=congrArg Heap.wmin d3;have hi2':i < (H x).size:=hi2;simp only [Heap.put] at this;omega
 ·-- an object is made
  have hsz1:(H (x+1)).size=(H x).size+1:=by simp [Heap.size,e3]
  obtain ⟨x1,c1,c2,_⟩:=jj (jl hsoft) hag e1;rcases pg (h1:=⟨(H x).objs,(H x).base,(H x).size⟩) (h2:=⟨memL D H n L,(H 0).base,W⟩) hsoft hc hb.symm (hheap hrd') c2 with ⟨x2,_,d2,_⟩ | ⟨ob2,f2,hf2,d1,d3,d4⟩ | ⟨i2,ob2,f2,_,_,hi2,_,_,d3,_⟩ | ⟨i2,ob2,_,_,hi2,_,_,d3,_⟩
  ·exfalso; have:=congrArg Heap.size d2; simp [Heap.size,Heap.push] at this
  ·have hob:ob2=ob:=by have:=congrArg Heap.objs d3;simp [Heap.push] at this;exact this.symm
   subst hob
   have hupd:∀ j,upd D (sz H) H x j=if j=(H x).size then some ob2 else none:=fun j=>by
    unfold upd touched;by_cases hj:j=(H x).size
    ·subst hj;rw [if_pos ⟨by rw [show sz H (x+1)=(H (x+1)).size from rfl,hsz1]; omega,.inl (aj _)⟩,if_pos rfl,e3]; exact u7 rfl
    ·rw [if_neg hj,if_neg];rintro ⟨h1,h2 | h2⟩
     ·have h1':j < (H (x+1)).size:=h1;have h2':(H x).size≤j:=h2;omega
     ·simp [Did.writes,e4,hd3] at h2
   have hobids:=hids2 ob2 hsz1 (by rw [e3]; exact u7 rfl)
   have hslot:a8 o'.dst (r x) sD=a8 o'.dst (f2 (H x).size) sD:=by rw [e2,c1,na,d1]; rfl
   refine qi hg hop d4 (by simp only [Heap.push]; exact hW) hI.at' fun a' w' hat'=>hn a' w' ?_
   have hmv:=At.move (N:=(H n).size) (r:=(H x).size) (h:=⟨memL D H n L,(H 0).base,(H n).wmin⟩) (x:=f2 (H n).size) (ob:=ob2) (wm:=(H n).wmin) (d:=o'.dst) (s:=sD) (by
     have:(⟨memL D H n L,(H 0).base,W⟩:Heap).size=(H n).size:=hml;rw [this] at hat'; exact hat') hml (by rw [ir (by omega),mem_new T hev0 hU (aj _) (by omega)]) (by
     have:(H 0).base≤(H x).size:=hbase;exact this) (by omega) (fun t y hy i hi=>hne (by omega) (hI.slots t y hy i hi)) (fun v hv i hi=>by
     have:=hf2.ids (H n).size;rw [hv] at this;simp only [Slot.ids] at this;rw [this] at hi;simp at hi; omega) (fun cs=>hf2.novar _ cs) (fun i hi=>hne (by omega) (okVL (hobids i hi))) (fun k o2 hk i hi=>hne (by omega) (hobj k o2 hk i hi))
   rw [hf2.ren,← hslot] at hmv
   have hmem:(memL D H n L).set (H x).size ob2=memL D H n (fun y=>y == x || L y):=by
    apply jh;intro j;rcases bi j (H n).size with hj | hj
    ·rw [ir hj];by_cases ej:j=(H x).size
     ·subst ej;rw [iy,if_pos rfl,if_pos (by omega),u9 T hev0 hU (by rw [hupd,if_pos rfl])]
     ·rw [av (fun e=>ej e.symm),ir hj,jv (by rw [hupd,if_neg ej])]
    ·rw [bv (by simp [hml]; exact hj),bv (by rw [ki]; exact hj)]
   simp only [hmem] at hmv;refine Inv.next T hU ho hI hmv (fun j hj=>?_) (fun j o2 hu k hk=>?_) hrv
   ·refine .inr ⟨x,hx,.inl rfl,?_⟩
    have:r x=f (H x).size∨r x = .undef:=by
     rw [e2];cases o'.dst with
     | none=>exact .inr rfl
     | some d=>exact .inl (by simp [gw,a8,sget])
    rcases this with e | e
    ·rw [e,hf.ids] at hj; simp at hj; omega
    ·rw [e] at hj; simp [Slot.ids] at hj
   ·rw [hupd] at hu;split at hu
    ·cases hu; exact okV (hobids k hk)
    ·cases hu
  ·exfalso;have:=congrArg Heap.wmin d3;have hi2':i2 < (H x).size:=hi2;simp [Heap.push,Heap.put] at this;omega
  ·exfalso; have:=congrArg Heap.size d3; simp [Heap.size,Heap.push,Heap.put] at this
 ·-- an object is made,another one is gone
  have hsz1:(H (x+1)).size=(H x).size+1:=by simp [Heap.size,e3]
  obtain ⟨x1,c1,c2,_⟩:=jj (jl hsoft) hag e1;rcases pg (h1:=⟨(H x).objs,(H x).base,(H x).size⟩) (h2:=⟨memL D H n L,(H 0).base,W⟩) hsoft hc hb.symm (hheap hrd') c2 with ⟨x2,_,d2,_⟩ | ⟨ob2,f2,hf2,d1,d3,d4⟩ | ⟨i2,ob2,f2,hf2,_,hi2,_,d1,d3,d4⟩ | ⟨i2,ob2,_,_,hi2,_,_,d3,_⟩
  ·exfalso; have:=congrArg Heap.size d2; simp [Heap.size,Heap.push,Heap.put] at this
  ·exfalso;have:=congrArg Heap.wmin d3;simp [Heap.push,Heap.put] at this;omega
  rotate_left
  ·exfalso; have:=congrArg Heap.size d3; simp [Heap.size,Heap.push,Heap.put] at this
  ·have hi2':i2 < (H x).size:=hi2
   have hii:i2=i:=by have:=congrArg Heap.wmin d3;simp [Heap.push,Heap.put] at this;omega
   subst hii
   have hob:ob2=ob:=by have:=congrArg Heap.objs d3;simp [Heap.push,Heap.put] at this;exact this.symm
   subst hob
   have hupd:∀ j,upd D (sz H) H x j=if j=(H x).size then some ob2 else if j=i2 then some .dead else none:=fun j=>by
    unfold upd touched;by_cases hj:j=(H x).size
    ·subst hj;rw [if_pos ⟨by rw [show sz H (x+1)=(H (x+1)).size from rfl,hsz1]; omega,.inl (aj _)⟩,if_pos rfl,e3]; exact u7 (bf ..)
    ·rw [if_neg hj];by_cases hj2:j=i2
     ·subst hj2;rw [if_pos ⟨by rw [show sz H (x+1)=(H (x+1)).size from rfl,hsz1]; omega,.inr (by simp [Did.writes,e4])⟩,if_pos rfl,e3];have hlt:j < (H x).objs.length:=hi2;rw [ag (by simpa using hlt),iy,if_pos rfl,if_pos hlt]
     ·rw [if_neg hj2,if_neg];rintro ⟨h1,h2 | h2⟩
      ·have h1':j < (H (x+1)).size:=h1;have h2':(H x).size≤j:=h2;omega
      ·simp [Did.writes,e4,hd3] at h2;exact hj2 h2.symm
   have hobids:=hids2 ob2 hsz1 (by rw [e3]; exact u7 (bf ..))
   have hslot:a8 o'.dst (r x) sD=a8 o'.dst (f2 (H x).size) sD:=by rw [e2,c1,na,d1]; rfl
   refine qi hg hop d4 (by simp only [Heap.push,Heap.put]; omega) hI.at' fun a' w' hat'=>hn a' w' ?_
   have hml2:((memL D H n L).set i2 .dead).length=(H n).size:=by rw [bf]; exact hml
   have hmv:=At.move (N:=(H n).size) (r:=(H x).size) (h:=⟨(memL D H n L).set i2 .dead,(H 0).base,(H n).wmin⟩) (x:=f2 (H n).size) (ob:=ob2) (wm:=(H n).wmin) (d:=o'.dst) (s:=sD) (by
     have:(⟨memL D H n L,(H 0).base,W⟩:Heap).size=(H n).size:=hml;rw [this] at hat'; exact hat') hml2 (by rw [av (by omega),ir (by omega),mem_new T hev0 hU (aj _) (by omega)]) (by
     have:(H 0).base≤(H x).size:=hbase;exact this) (by omega) (fun t y hy i hi=>hne (by omega) (hI.slots t y hy i hi)) (fun v hv i hi=>by
     have:=hf2.ids (H n).size;rw [hv] at this;simp only [Slot.ids] at this;rw [this] at hi;simp at hi; omega) (fun cs=>hf2.novar _ cs) (fun i hi=>hne (by omega) (okVL (hobids i hi))) (fun k o2 hk i hi=>by
     by_cases ek:i2=k
     ·subst ek;rw [iy,if_pos rfl] at hk;split at hk
      ·cases hk; simp [AObj.ids] at hi
      ·cases hk
     ·rw [av ek] at hk;exact hne (by omega) (hobj k o2 hk i hi))
   rw [hf2.ren,← hslot] at hmv
   have hmem:((memL D H n L).set i2 .dead).set (H x).size ob2=memL D H n (fun y=>y == x || L y):=by
    apply jh;intro j;rcases bi j (H n).size with hj | hj
    ·rw [ir hj];by_cases ej:j=(H x).size
     ·subst ej;rw [iy,if_pos rfl,if_pos (by omega),u9 T hev0 hU (by rw [hupd,if_pos rfl])]
     ·rw [av (fun e=>ej e.symm)];by_cases ej2:j=i2
      ·subst ej2;rw [iy,if_pos rfl,if_pos (by omega),u9 T hev0 hU (by rw [hupd,if_neg ej,if_pos rfl])]
      ·rw [av (fun e=>ej2 e.symm),ir hj,jv (by rw [hupd,if_neg ej,if_neg ej2])]
    ·rw [bv (by simp [hml]; exact hj),bv (by rw [ki]; exact hj)]
   simp only [hmem] at hmv;refine Inv.next T hU ho hI hmv (fun j hj=>?_) (fun j o2 hu k hk=>?_) hrv
   ·refine .inr ⟨x,hx,.inl rfl,?_⟩
    have:r x=f (H x).size∨r x = .undef:=by
     rw [e2];cases o'.dst with
     | none=>exact .inr rfl
     | some d=>exact .inl (by simp [gw,a8,sget])
    rcases this with e | e
    ·rw [e,hf.ids] at hj; simp at hj; omega
    ·rw [e] at hj; simp [Slot.ids] at hj
   ·rw [hupd] at hu;split at hu
    ·cases hu; exact okV (hobids k hk)
    ·split at hu
     ·cases hu; simp [AObj.ids] at hk
     ·cases hu
 ·-- an object is changed
  have hsz1:(H (x+1)).size=(H x).size:=by simp [Heap.size,e3]
  obtain ⟨x1,c1,c2,_⟩:=jj (jl hsoft) hag e1;rcases pg (h1:=⟨(H x).objs,(H x).base,(H x).size⟩) (h2:=⟨memL D H n L,(H 0).base,W⟩) hsoft hc hb.symm (hheap hrd') c2 with ⟨x2,_,d2,_⟩ | ⟨ob2,f2,hf2,d1,d3,d4⟩ | ⟨i2,ob2,f2,hf2,_,hi2,_,d1,d3,d4⟩ | ⟨i2,ob2,v2,_,hi2,_,d1,d3,d4⟩
  ·exfalso;have:=congrArg Heap.wmin d2;simp [Heap.put] at this;omega
  ·exfalso; have:=congrArg Heap.size d3; simp [Heap.size,Heap.push,Heap.put] at this
  ·exfalso; have:=congrArg Heap.size d3; simp [Heap.size,Heap.push,Heap.put] at this
  ·have hi2':i2 < (H x).size:=hi2
   have hii:i2=i:=by have:=congrArg Heap.wmin d3;simp [Heap.put] at this;omega
   subst hii;have hlt:i2 < (H x).objs.length:=hi
   have hob:ob2=ob:=by have:=congrArg (fun h:Heap=>h.objs[i2]?) d3;simp only [Heap.put] at this;rw [iy,if_pos rfl,if_pos hlt,iy,if_pos rfl,if_pos hlt] at this;exact (dr this).symm
   subst hob
   have hupd:∀ j,upd D (sz H) H x j=if j=i2 then some ob2 else none:=fun j=>by
    unfold upd touched;by_cases hj2:j=i2
    ·subst hj2;rw [if_pos ⟨by rw [show sz H (x+1)=(H (x+1)).size from rfl,hsz1]; omega,.inr (by simp [Did.writes,e4])⟩,if_pos rfl,e3];rw [iy,if_pos rfl,if_pos hlt]
    ·rw [if_neg hj2,if_neg];rintro ⟨h1,h2 | h2⟩
     ·have h1':j < (H (x+1)).size:=h1;have h2':(H x).size≤j:=h2;omega
     ·simp [Did.writes,e4,hd3] at h2;exact hj2 h2.symm
   have hobids:=hids3 i2 ob2 hsz1 e4 (by rw [e3,iy,if_pos rfl,if_pos hlt])
   have hslot:a8 o'.dst (r x) sD=a8 o'.dst (.val v2) sD:=by rw [e2,c1,na,d1]
   rw [d1] at d4;refine qi hg hop d4 (by simp only [Heap.put]; omega) hI.at' fun a' w' hat'=>hn a' w' ?_
   rw [← hslot] at hat'
   have hmem:(memL D H n L).set i2 ob2=memL D H n (fun y=>y == x || L y):=by
    apply jh;intro j;rcases bi j (H n).size with hj | hj
    ·rw [ir hj];by_cases ej2:j=i2
     ·subst ej2;rw [iy,if_pos rfl,if_pos (by omega),u9 T hev0 hU (by rw [hupd,if_pos rfl])]
     ·rw [av (fun e=>ej2 e.symm),ir hj,jv (by rw [hupd,if_neg ej2])]
    ·rw [bv (by simp [hml]; exact hj),bv (by rw [ki]; exact hj)]
   simp only [Heap.put,hmem] at hat';refine Inv.next T hU ho hI hat' (fun j hj=>okV (hids1 hsz1 j hj)) (fun j o2 hu k hk=>?_) hrv
   rw [hupd] at hu;split at hu
   ·cases hu; exact okV (hobids k hk)
   ·cases hu
end
end
end Go.Abs

namespace Go.Abs
section
variable {E:Env} {call:CallSem} {n:Nat} {aops:Nat→Option AOper} {ms:Nat→Nat} {S:Nat→Slots} {H:Nat→Heap} {r:Nat→Slot} {D:Nat→Did}
variable {lo nt:Nat} {μ0:MM} {w0:World} {ds:List Deferred} {ops:Array Oper} {Q:Exit→Act→World→Prop} {ro:Option Nat}
open Txt
section
variable (T:Txt call n aops ms S H r D) (hev0:CallEvol call)
include T hev0
theorem wv {x i:Nat} (hx:x < n) (h:Vis ms H x i):i < (H x).size:=by
 rcases h with h | ⟨y,hy,_,_,h4⟩
 ·exact fg h (T.mono hev0 (ge x) (by omega))
 ·exact fg h4 (T.mono hev0 hy (by omega))
theorem hid_iff {x i:Nat} (hx:x < n) (hi:i < (H x).size):Hid (ms x) 0 (dsl D x) i ↔ ¬ Vis ms H x i:=by
 constructor
 ·rintro ⟨y,d,h1,h2,h3,h4⟩ hv;have hy:y < x:=by have:=ah h1; rwa [zac] at this
  rw [rg hy] at h1; cases h1;rw [T.lo hev0 (by omega)] at h3;rw [T.hi hev0 (by omega)] at h4;rw [ed] at h2;rcases hv with hv | ⟨z,hz,hb,h5,h6⟩
  ·have:=T.mono hev0 (ge y) (by omega); omega
  ·have:=T.apart hev0 (by omega) (by omega) h5 h6 h3 h4;subst this;rw [hb] at h2; cases h2
 ·intro hv
  have h0:(H 0).size≤i:=by
   rcases bi i (H 0).size with h | h
   ·exact absurd (.inl h) hv
   ·exact h
  obtain ⟨y,hy,h1,h2⟩:=inRange h0 (x:=x) (aj x) hi;refine ⟨y,D y,rg hy,?_,by rw [T.lo hev0 (by omega)]; exact h1,by rw [T.hi hev0 (by omega)]; exact h2⟩;rw [ed];cases hb:(ms x).testBit y with
  | false=>rfl
  | true=>exact absurd (.inr ⟨y,hy,hb,h1,h2⟩) hv
theorem all_vis {x i:Nat} (hx:x < n) (hall:allSeen (ms x) 0 (dsl D x)=true) (hi:i < (H x).size):Vis ms H x i:=by
 rcases bi i (H 0).size with h | h
 ·exact .inl h
 ·obtain ⟨y,hy,h1,h2⟩:=inRange h (x:=x) (aj x) hi;have:=se _ 0 hall y (D y) (rg hy);rw [ed,T.lo hev0 (by omega),T.hi hev0 (by omega)] at this;rcases this with h3 | h3
  ·exact .inr ⟨y,hy,h3,h1,h2⟩
  ·omega
theorem call_up (hc0:CallOK E call) (hg:GidOK E) (h0:∀ (i:Nat) o,(H 0).objs[i]? = some o→∀ j ∈ o.ids,j < (H 0).size) (hμ0:μ0.length≤(H 0).size) (hbase0:(H 0).base≤(H 0).size) {L:Nat→Bool} {sD:Slots} {a:Act} {w:World} {x:Nat} {loc:Bool} {o:Oper} {o':AOper} (hU:Up n ms L x)
  (ho:aops x=some o') (hop:ky E nt ops loc o=some o') (hc:o'.op.isCall=true) (hrv:∀ cs,r x ≠ .var cs) (hag:Agree (S x) sD o'.reads) (hI:Inv E lo nt μ0 w0 ds n ms H r D L sD a w)
  (next:Act→World→Prop) (hn:∀ a' w',Inv E lo nt μ0 w0 ds n ms H r D (fun y=>y == x || L y) (a8 o'.dst (r x) sD) a' w'→next a' w') :
  if Region.wanted o (yielded ops a.tmps) then o.wpIn (F0 ro) 0 E.P a w next Q else next (a.put o.dst Go.undef) w:=by
 have hx:=hU.lt;have hb:(H x).base=(H 0).base:=T.base hev0 (by omega);have hszx:(H x).size≤(H (x+1)).size:=(T.evol hev0 hx).size;have hszn:(H (x+1)).size≤(H n).size:=T.mono hev0 hx (aj _);have h0x:(H 0).size≤(H x).size:=T.mono hev0 (ge x) (by omega);have hwn:(H n).wmin≤(H (x+1)).wmin:=T.wmin hev0 hx (aj _);obtain ⟨⟨hrok,_⟩,_,_,_,hsp⟩:=T.spec hev0 hx ho
 have hone:OneCall call (H 0).size (ms x) (dsl D x) o' (S x) (H x) (r x) (H (x+1)) (D x):=by
  rcases hsp with h | h
  ·exact h
  ·rw [h.isc] at hc; cases hc
 obtain ⟨hcall,hrd,hch⟩:=hone.did;obtain ⟨s1,g,he,hry,hgsz,hrest⟩:=hone.run;have hdst:=cOper_dst hop;have hml:(memL D H n L).length=(H n).size:=ki L;have hevg:=me hev0 he;have hgb:g.base=(H 0).base:=hevg.base.trans hb;have hms:∀ {i},Vis ms H x i→mem D (sz H) H L n i=((H x).objs[i]?).getD .dead:=fun hv=>mem_same T hev0 hU fun y hy hne h1 h2 _=>T.cvis hev0 hx hy hne h1 h2 hcall hv
 have hmsome:∀ {i},Vis ms H x i→(memL D H n L)[i]? = (H x).objs[i]?:=fun {i} hv=>by have hi:=wv T hev0 hx hv;have hi':i < (H x).objs.length:=hi;rw [ir (by omega),hms hv,ai hi']; rfl
 have hclos:∀ i,Vis ms H x i→∀ j ∈ (mem D (sz H) H L n i).ids,Vis ms H x j:=fun i hv j hj=>by
  rcases sf (D:=D) (sz:=sz H) (H:=H) (L:=L) (i:=i) n with ⟨h1,_⟩ | ⟨y,ob,h1,h2,h3,h4⟩
  ·rw [h1] at hj;cases hq:(H 0).objs[i]? with
   | none=>rw [hq] at hj; simp [AObj.ids] at hj
   | some ob=>rw [hq] at hj; exact .inl (h0 i ob hq j hj)
  ·rw [h4] at hj;have hne:y≠x:=fun e=>by subst e; rw [hU.not] at h2; cases h2
   have hbit:(ms x).testBit y=true:=by
    cases hb:(ms x).testBit y with
    | true=>rfl
    | false =>
     have:=T.cvis hev0 hx h1 hne hb (hU.above y h1 h2) hcall hv;rw [h3] at this; cases this
   rcases (hI.upds y h1 h2).1 i ob h3 j hj with h5 | ⟨z,hz,h5,h6⟩
   ·exact .inl h5
   ·have hbz:(ms x).testBit z=true:=by
     rcases h5 with rfl | h5
     ·exact hbit
     ·exact T.trans x y z hx hbit h5
    exact .inr ⟨z,T.back x z hx hbz,hbz,h6⟩
 obtain ⟨μ,ν,k1,k2,k3,k4,k5,k6⟩:=hI.at';have hkl:(H x).size≤μ.length:=by rw [k2.len]; simp only [hml]; omega
 have hvis:∀ i,i < (H x).size→(Vis ms H x i→(hide (ms x) 0 (dsl D x) (H x).objs)[i]? = (H x).objs[i]?)∧(¬ Vis ms H x i→(hide (ms x) 0 (dsl D x) (H x).objs)[i]? = some .dead):=fun i hi=>by have hi':i < (H x).objs.length:=hi;obtain ⟨q1,q2⟩:=hide_get (m:=ms x) (i:=i) (dsl D x) 0 (H x).objs;refine ⟨fun hv=>q2 fun h=>(hid_iff T hev0 hx hi).1 h hv,fun hv=>?_⟩;rw [q1 ((hid_iff T hev0 hx hi).2 hv),ai hi']; rfl
 have hrm:Rel E (maskM (Vis ms H x) (H x).size μ) ⟨hide (ms x) 0 (dsl D x) (H x).objs,(H x).base,(H x).size⟩ w:=by
  have:=k2.mask (vis:=Vis ms H x) (k:=(H x).size) (os:=hide (ms x) 0 (dsl D x) (H x).objs) (wm':=(H x).size) (by rw [hml]; omega) (by omega) (lh ..) (fun i hi hv=>by rw [(hvis i hi).1 hv]; exact (hmsome hv).symm) (fun i hi hv=>(hvis i hi).2 hv) (fun i ob hi hv hob j hj=>by rw [ir (by omega)] at hob; cases hob;have:=hclos i hv j hj;exact ⟨wv T hev0 hx this,this⟩)
  rw [hb]; exact this
 let p:Nat→Bool:=fun t=>o'.reads.contains t || isVar sD t
 have hag0:Agree (S x) (restr p sD) o'.reads:=by
  refine Agree.of (fun t ht=>?_) (fun t cs=>?_)
  ·rw [qe,if_pos (by simp [p,ht])]; exact hag.at_ t ht
  ·rw [hag.var t cs id,qe];constructor
   ·intro h; rw [if_pos (by simp [p,isVar,h])]; exact h
   ·intro h; split at h
    ·exact h
    ·cases h
 have hfm:FRel E lo ν (maskM (Vis ms H x) (H x).size μ) (sget (restr p sD)) a.tmps w:=by
  have hless:FRel E lo ν μ (sget (restr p sD)) a.tmps w:=k3.less fun t y hy=>by
   rw [qe] at hy; split at hy
   ·exact hy
   ·cases hy
  refine hless.mask hkl fun t y hy i hi=>?_
  rw [qe] at hy;split at hy;case isFalse=>cases hy
  rename_i hp
  have hv:Vis ms H x i:=by
   simp only [p,dt,List.contains_eq_mem,decide_eq_true_eq] at hp;rcases hp with hp | hp
   ·refine (T.okId_iff hev0 hx).1 (hrok t hp i ?_);unfold slotIds;rw [hag.at_ t hp,hy]; exact hi
   ·unfold isVar at hp;rw [hy] at hp;cases y with
    | var cs=>exact .inl (hI.vars t cs hy i hi)
    | _=>simp at hp
  exact ⟨wv T hev0 hx hv,hv⟩
 obtain ⟨x1,c1,c2,_⟩:=jj (jl (T.soft x o' hx ho)) hag0 he;refine call_step hc0 hg hop hc c2 hfm hrm fun x2 v w' μ' d1 d2 d3 d4=>?_
 have hgsz':g.size=(H (x+1)).size:=hgsz.symm;have hgobj:∀ {i:Nat} {ob:AObj},g.objs[i]? = some ob→∀ j ∈ ob.ids,j < (H (x+1)).size:=fun ho' j hj=>by rw [← hgsz']; exact d4.ids ho' j hj
 have hrx:∃ v',SlotIs E μ' (r x) v'∧a.put o.dst v=a.put o'.dst v':=by
  rw [← hdst.1];cases hd:o'.dst with
  | none=>exact ⟨Go.undef,.inl ⟨by rw [hry,hd]; rfl,rfl⟩,rfl⟩
  | some d =>
   refine ⟨v,?_,rfl⟩
   have e1:x1=x2:=by rw [hd] at d1;simp only [a8] at d1;injection d1 with d1 _;injection d1
   have e2:r x=x1:=by rw [hry,c1,hd]; simp [gw,a8,sget]
   rw [e2,e1]; exact d2
 obtain ⟨v',hsl,hput⟩:=hrx;rw [hput]
 have hrlt:∀ j ∈ (r x).ids,j < (H (x+1)).size:=fun j hj=>by
  rcases hsl with ⟨e,_⟩ | ⟨u,e,hu⟩
  ·rw [e] at hj; simp [Slot.ids] at hj
  ·rw [e] at hj;have:=hu.ids_lt j hj;rw [d4.len] at this;have h2:g.objs.length=g.size:=rfl;omega
 have hcase:(∀ i,i < (H (x+1)).size→(Now (Vis ms H x) (H x).size (H (x+1)).size i)→(H (x+1)).objs[i]? = g.objs[i]?)∧(∀ i,(D x).writes i=true→i < (H x).size→Vis ms H x i) ∧
   (∀ i ob,Now (Vis ms H x) (H x).size (H (x+1)).size i→g.objs[i]? = some ob→∀ j ∈ ob.ids,Now (Vis ms H x) (H x).size (H (x+1)).size j)∧(∀ j ∈ (r x).ids,Now (Vis ms H x) (H x).size (H (x+1)).size j)∧((H n).wmin≤g.wmin∨(H x).size≤g.wmin):=by
  have full:allSeen (ms x) 0 (dsl D x)=true→(H (x+1)).objs=g.objs→((H n).wmin≤g.wmin∨(H x).size≤g.wmin)→_:=fun hall hobj hw=>by
   have hnow:∀ j,j < (H (x+1)).size→Now (Vis ms H x) (H x).size (H (x+1)).size j:=fun j hj=>by
    rcases bi j (H x).size with h | h
    ·exact .inl ⟨h,all_vis T hev0 hx hall h⟩
    ·exact .inr ⟨h,hj⟩
   exact And.intro (fun (i:Nat) (_:i < (H (x+1)).size) (_:Now (Vis ms H x) (H x).size (H (x+1)).size i)=>congrArg (fun l=>l[i]?) hobj) (And.intro (fun (i:Nat) (_:(D x).writes i=true) (hi:i < (H x).size)=>all_vis T hev0 hx hall hi)
    (And.intro (fun (i:Nat) (ob:AObj) (_:Now (Vis ms H x) (H x).size (H (x+1)).size i) (hob:g.objs[i]? = some ob) j hj=>hnow j (hgobj hob j hj)) (And.intro (fun j hj=>hnow j (hrlt j hj)) hw)))
  rcases hrest with ⟨q1,q2,q3,q4⟩ | ⟨q1,q2,q3,q4⟩ | ⟨q1,q2,q3,q4⟩
  ·refine full q1 (by rw [q4]) (.inl ?_);rw [q4] at hwn;have:(H n).wmin≤min (H x).wmin g.wmin:=hwn;omega
  ·exact full q1 (by rw [q4]) (.inr q2)
  ·have hgold:∀ i,i < (H x).size→g.objs[i]? = (hide (ms x) 0 (dsl D x) (H x).objs)[i]?:=fun i hi=>by have:=hevg.objs i (by simp only [Heap.size,lh]; exact hi) (by omega);exact this
   have hobj:(H (x+1)).objs=(H x).objs++g.objs.drop (H x).size:=by rw [q4]
   refine ⟨fun i hi hnow=>?_,fun i hw hi=>?_,fun i ob hnow hob j hj=>?_,fun j hj=>?_,.inr q1⟩
   ·rw [hobj];rcases bi i (H x).size with h | h
    ·have h':i < (H x).objs.length:=h;rw [ag h',hgold i h];refine ((hvis i h).1 ?_).symm;rcases hnow with h2 | h2
     ·exact h2.2
     ·omega
    ·have h':(H x).objs.length≤i:=h;rw [aw h',ef];congr 1;show (H x).size+(i - (H x).size)=i;omega
   ·simp [Did.writes,hch,q2] at hw
   ·have hjl:=hgobj hob j hj;rcases bi i (H x).size with h | h
    ·have hv:Vis ms H x i:=by
      rcases hnow with h2 | h2
      ·exact h2.2
      ·omega
     rw [hgold i h,(hvis i h).1 hv,← hmsome hv,ir (by omega)] at hob;cases hob;have:=hclos i hv j hj;exact .inl ⟨wv T hev0 hx this,this⟩
    ·have hmem:ob ∈ g.objs.drop (H x).size:=by refine bn (i:=i - (H x).size) ?_;rw [ef,show (H x).size+(i - (H x).size)=i by omega]; exact hob
     rcases q3 j (gc _ (dz.2 ⟨ob,hmem,hj⟩)) with h2 | h2
     ·have:=(T.okId_iff hev0 hx).1 h2;exact .inl ⟨wv T hev0 hx this,this⟩
     ·exact .inr ⟨h2,hjl⟩
   ·rcases q3 j (e9 _ hj) with h2 | h2
    ·have:=(T.okId_iff hev0 hx).1 h2;exact .inl ⟨wv T hev0 hx this,this⟩
    ·exact .inr ⟨h2,hrlt j hj⟩
 obtain ⟨hc1,hc2,hc3,hc4,hc5⟩:=hcase
 have htouch:∀ i,touched D (sz H) x i→Now (Vis ms H x) (H x).size (H (x+1)).size i:=fun i ⟨t1,t2⟩=>by
  have t1':i < (H (x+1)).size:=t1;rcases bi i (H x).size with h | h
  ·rcases t2 with t2 | t2
   ·have t2':(H x).size≤i:=t2;omega
   ·exact .inl ⟨h,hc2 i t2 h⟩
  ·exact .inr ⟨h,t1'⟩
 have hnowlt:∀ i,Now (Vis ms H x) (H x).size (H (x+1)).size i→i < (H (x+1)).size:=fun i h=>by rcases h with h | h <;> omega
 have hmem:∀ i,Now (Vis ms H x) (H x).size (H (x+1)).size i→(memL D H n fun y=>y == x || L y)[i]? = (H (x+1)).objs[i]?:=fun i hnow=>by
  have hi:=hnowlt i hnow;have hi':i < (H (x+1)).objs.length:=hi;rw [ir (by omega)];by_cases ht:touched D (sz H) x i
  ·have hu:upd D (sz H) H x i=some ((H (x+1)).objs[i]):=by unfold upd; rw [if_pos ht,ai hi']
   rw [u9 T hev0 hU hu,ai hi']
  ·have hu:upd D (sz H) H x i=none:=by unfold upd; rw [if_neg ht]
   rw [jv hu]
   have hlt:i < (H x).size:=by
    rcases bi i (H x).size with h | h
    ·exact h
    ·exact absurd ⟨hi,.inl h⟩ ht
   have hv:Vis ms H x i:=by
    rcases hnow with h | h
    ·exact h.2
    ·omega
   have hw:(D x).writes i=false:=by
    cases hq:(D x).writes i with
    | false=>rfl
    | true=>exact absurd ⟨hi,.inr hq⟩ ht
   rw [hms hv,T.unwritten hev0 hx hlt hw];have hlt':i < (H x).objs.length:=hlt;rw [ai hlt']; rfl
 have hatj:=At.join (E:=E) (lo:=lo) (nt:=nt) (ds:=ds) (objs:=memL D H n L) (objs':=memL D H n fun y=>y == x || L y) (base:=(H 0).base) (wF:=(H n).wmin) (lo1:=(H x).size) (hi1:=(H (x+1)).size) (vis:=Vis ms H x) (d:=o'.dst) (x:=r x) (v:=v')
  k1 k2 k3 k4 k5 k6 hszx (by rw [hml]; exact hszn) (by omega) d3 d4 hgsz' hgb (fun i hi hv=>by
   rcases bi i (H 0).size with h | h
   ·exact absurd (.inl h) hv
   ·omega) ⟨by omega,fun i hi=>.inl (by omega)⟩ hc5 (fun i h1 h2=>by rw [ir (by omega),mem_new T hev0 hU h1 h2]) (by rw [ki,ki]) (fun i hnow=>by rw [hmem i hnow,hc1 i (hnowlt i hnow) hnow])
  (fun i hi hnow=>by
   rw [hml] at hi;rw [ir hi,ir hi,jv];unfold upd;rw [if_neg fun ht=>hnow (htouch i ht)]) hc3 (fun i ob hob j hj=>okL_new T hev0 hU (by
   have hi:i < (H n).size:=by rw [← hml]; exact ah hob
   rw [ir hi] at hob; cases hob;exact hI.objs h0 i j hj)) (fun t y hy j hj=>okL_new T hev0 hU (hI.slots t y hy j hj)) hsl hc4 (fun t ht=>hdst.2 t (by rw [← hdst.1]; exact ht))
 have okN:∀ j,Now (Vis ms H x) (H x).size (H (x+1)).size j→okA ms H n x j:=fun j h=>by
  rcases h with h | h
  ·rcases h.2 with h2 | ⟨z,hz,hb',h2⟩
   ·exact .inl h2
   ·exact .inr ⟨z,by omega,.inr hb',h2⟩
  ·exact .inr ⟨x,hx,.inl rfl,h⟩
 refine hn _ _ (Inv.next T hU ho hI hatj (fun j hj=>okN j (hc4 j hj)) (fun i ob hu j hj=>?_) hrv);unfold upd at hu;split at hu
 ·rename_i ht;have hnow:=htouch i ht;rw [hc1 i (hnowlt i hnow) hnow] at hu;exact okN j (hc3 i ob hnow hu j hj)
 ·cases hu
end
end
end Go.Abs

namespace Go.Abs
section
variable {E:Env} {lo nt:Nat} {μ0:MM} {w0:World} {ds:List Deferred} {s:Slots} {h:Heap} {call:CallSem} {ops:Array Oper} {locs:List Nat} {aZ:List AOper} {Q:Exit→Act→World→Prop} {ro:Option Nat}
open Txt
theorem At.lower {a:Act} {w:World} {os:List AObj} {base wm wm':Nat} (hat:At E lo nt μ0 w0 ds s ⟨os,base,wm⟩ a w) (hw:wm'≤wm):At E lo nt μ0 w0 ds s ⟨os,base,wm'⟩ a w:=by obtain ⟨μ,ν,k1,k2,k3⟩:=hat;exact ⟨μ,ν,k1.weaken hw fun _ h _=>h,k2.same rfl rfl rfl,k3⟩
theorem open_any (hc:CallOK E call) (hev0:CallEvol call) (hg:GidOK E) (has:lq E nt ops locs 0 ops.toList=some aZ) (hb:edgesBack ops=true)
  {p n:Nat} {h1:Heap} {s1:Slots} (hpn:p+n≤aZ.length) (hw1:waits (befs ops.toList []) (p+n)=true)
  (hap:∀ x y oi oj,x < n→y < n→aZ[p+x]? = some oi→aZ[p+y]? = some oj→apart (befs ops.toList []) (p+x) (p+y) oi oj=true)
  (hsoft:∀ x o,x < n→aZ[p+x]? = some o→soft o.op=true) {ms:List Nat} (hms:∀ x,x < n→ms.getD x 0=(befs ops.toList []).getD (p+x) 0 >>> p)
  (hev:tr call ms ((aZ.drop p).take n) s h=some (s1,h1))
  (hk:∀ listed' a' w',Exact ops listed' (p+n)→At E lo nt μ0 w0 ds s1 h1 a' w'→wpAnyIn (F0 ro) 0 E.P .any ops Q (ops.size - (p+n)) listed' a' w') :
  ∀ listed a w,Exact ops listed p→At E lo nt μ0 w0 ds s h a w→wpAnyIn (F0 ro) 0 E.P .any ops Q (ops.size - p) listed a w:=by
 intro listed a w hex hat;obtain ⟨q1,q2⟩:=kx _ _ _ has;simp only [gr] at q1;have hchain:=m7 (ops:=ops) ops.toList [] (by simp) (fun k i hk=>by simp at hk);have hbit:=chain_bit hb ops.toList [] (by simp) (fun k i hk=>by simp at hk);have hseg:∀ x,x < n→((aZ.drop p).take n)[x]? = aZ[p+x]?:=fun x hx=>by rw [gj hx,ef]
 have hslen:((aZ.drop p).take n).length=n:=by simp; omega
 obtain ⟨S,H,r,D,b1,b2,b3,b4,b5⟩:=open_text _ _ _ _ _ _ _ hev;rw [hslen] at b3 b4
 have opat:∀ x,x < n→∃ o o',ops[p+x]? = some o∧aZ[p+x]? = some o'∧ky E nt ops (locs.contains (p+x)) o=some o':=by
  intro x hx;have hlt:p+x < ops.size:=by omega
  obtain ⟨o',h2,h3⟩:=q2 (p+x) ops[p+x] (by simp [hlt]);exact ⟨ops[p+x],o',by simp [hlt],h2,by simpa using h3⟩
 have tb:∀ x y,x < n→((ms.getD x 0).testBit y=true ↔ ((befs ops.toList []).getD (p+x) 0).testBit (p+y)=true):=fun x y hx=>by rw [hms x hx,Nat.testBit_shiftRight]
 have T:Txt call n (fun x=>aZ[p+x]?) (fun x=>ms.getD x 0) S H r D:=by
  refine ⟨fun x o hx ho=>?_,fun x hx=>?_,fun x o hx ho=>hsoft x o hx ho,fun x y hx hy=>?_,fun x y z hx hy hz=>?_⟩
  ·have:=b5 x o (by rw [hseg x hx]; exact ho);simp only [ff] at this;rw [← b2] at this;exact this
  ·obtain ⟨_,o',_,h2,_⟩:=opat x hx;exact ⟨o',h2⟩
  ·have:=z6 hb (hchain _ _ ((tb x y hx).1 hy)); omega
  ·have h2:=hchain _ _ ((tb x y hx).1 hy);have hyx:=z6 hb h2;have hyn:y < n:=by omega
   have h3:=hchain _ _ ((tb y z hyn).1 hz);exact (tb x z hx).2 (hbit _ _ (by simp; omega) (chain_trans h2 h3))
 have hids:=hat.ids;obtain ⟨hid1,hid2,hid3⟩:=hids;have hH0:H 0=h:=b2
 have hbase0:(H 0).base≤(H 0).size:=by obtain ⟨_,_,_,k2,_⟩:=hat;rw [hH0]; exact k2.bs
 have hsz0:(H 0).size≤(H n).size:=T.mono hev0 (ge n) (aj _);have h0:∀ (i:Nat) o,(H 0).objs[i]? = some o→∀ j ∈ o.ids,j < (H 0).size:=by rw [hH0]; exact hid2
 have hμ0:μ0.length≤(H 0).size:=by rw [hH0]; exact hid3
 refine any_order has hb hpn hw1 hap S r b1 (fun x o' hx ho=>?_) (Inv E lo nt μ0 w0 ds n (fun x=>ms.getD x 0) H r D) (fun L sD a w x o o' hx h2 h3 h4 hL hbel habv hag hI next hn=>?_) (fun listed' sD a' w' hex' hsD hI=>?_) listed a w hex ?_
 ·obtain ⟨t1,t2,t3,_⟩:=T.one x o' hx ho;refine ⟨t2,fun cs e=>?_,t3⟩;obtain ⟨_,_,_,_,hs | hs⟩:=T.spec hev0 hx ho
  ·obtain ⟨s2,g,he,hy,_⟩:=hs.run;obtain ⟨x0,c1,_,c3⟩:=jj (S2:=S x) (jl (hsoft x o' hx ho)) (Agree.of (fun _ _=>rfl) (fun _ _=>Iff.rfl)) he;rw [hy,c1] at e;cases hd:o'.dst with
   | none=>rw [hd] at e; cases e
   | some d=>rw [hd] at e; simp [gw,a8,sget] at e; exact c3 cs e
  ·obtain ⟨s2,g,he,hy,_⟩:=hs.run;obtain ⟨x0,c1,_,c3⟩:=jj (S2:=S x) (jl (hsoft x o' hx ho)) (Agree.of (fun _ _=>rfl) (fun _ _=>Iff.rfl)) he;rw [hy,c1] at e;cases hd:o'.dst with
   | none=>rw [hd] at e; cases e
   | some d=>rw [hd] at e; simp [gw,a8,sget] at e; exact c3 cs e
 ·have hU:Up n (fun x=>ms.getD x 0) L x:=⟨hx,hL,fun y hy hbt=>hbel y hy ((tb x y hx).1 hbt),fun y hy hl=>by
   cases hq:(ms.getD y 0).testBit x with
   | false=>rfl
   | true =>
    have:=(tb y x hy).1 hq;rw [habv y hy hl] at this; cases this⟩
  have hrv:∀ cs,r x ≠ .var cs:=by
   intro cs e;obtain ⟨_,_,_,_,hs | hs⟩:=T.spec hev0 hx h3
   ·obtain ⟨s2,g,he,hy,_⟩:=hs.run;obtain ⟨x0,c1,_,c3⟩:=jj (S2:=S x) (jl (hsoft x o' hx h3)) (Agree.of (fun _ _=>rfl) (fun _ _=>Iff.rfl)) he;rw [hy,c1] at e;cases hd:o'.dst with
    | none=>rw [hd] at e; cases e
    | some d=>rw [hd] at e; simp [gw,a8,sget] at e; exact c3 cs e
   ·obtain ⟨s2,g,he,hy,_⟩:=hs.run;obtain ⟨x0,c1,_,c3⟩:=jj (S2:=S x) (jl (hsoft x o' hx h3)) (Agree.of (fun _ _=>rfl) (fun _ _=>Iff.rfl)) he;rw [hy,c1] at e;cases hd:o'.dst with
    | none=>rw [hd] at e; cases e
    | some d=>rw [hd] at e; simp [gw,a8,sget] at e; exact c3 cs e
  cases hcl:o'.op.isCall with
  | true=>exact call_up T hev0 hc hg h0 hμ0 hbase0 hU h3 h4 hcl hrv hag hI next hn
  | false=>exact soft_up T hev0 hg h0 hμ0 hbase0 hU h3 h4 hcl hrv hag hI next hn
 ·refine hk listed' a' w' hex' ?_
  have hmem:memL D H n (fun x=>decide (x < n))=(H n).objs:=by
   apply jh;intro j;rcases bi j (H n).size with hj | hj
   ·have hj':j < (H n).objs.length:=hj;rw [ir hj,qh (L':=fun _=>true) n fun y hy _=>decide_eq_true hy,zad (n:=n) (fun _=>rfl) (fun y hy=>(T.evol hev0 hy).size) (fun y i hy hi hw=>T.unwritten hev0 hy hi hw) n (aj _),ai hj'];rfl
   ·rw [bv (by rw [ki]; exact hj),bv hj]
  have hHn:(⟨memL D H n (fun x=>decide (x < n)),(H 0).base,(H n).wmin⟩:Heap)=h1:=by rw [hmem,← T.base hev0 (aj n),b4]
  have:=hI.at';rw [hHn] at this;obtain ⟨μ,ν,k1,k2,k3,k4⟩:=this;exact ⟨μ,ν,k1,k2,k3.congr fun t=>by rw [hsD t,b3],k4⟩
 ·have hnone:memL D H n (fun _=>false)=h.objs++List.replicate ((H n).size - h.size) .dead:=by
   apply jh;intro j
   have hm:∀ k,mem D (sz H) H (fun _=>false) k j=((H 0).objs[j]?).getD .dead:=by
    intro k;induction k with
    | zero=>rfl
    | succ k ih=>simp only [mem]; rw [if_neg (by simp),ih]
   rcases bi j (H n).size with hj | hj
   ·rw [ir hj,hm n,hH0];rcases bi j h.size with hj2 | hj2
    ·have hj2':j < h.objs.length:=hj2;rw [ag hj2',ai hj2']; rfl
    ·have hj2':h.objs.length≤j:=hj2;rw [aw hj2',bv hj2',gn,if_pos]
     ·rfl
     ·show j - h.size < (H n).size - h.size
      omega
   ·rw [bv (by rw [ki]; exact hj),bv];rw [hH0] at hsz0;have:h.objs.length=h.size:=rfl;simp; omega
  refine ⟨?_,fun t y hy i hi=>.inl (by rw [hH0]; exact hid1 t y hy i hi),fun t cs hy i hi=>by rw [hH0]; exact hid1 t (.var cs) hy i hi,(fun _ _ _ h _=>absurd h (by simp)),(fun _ _ h=>absurd h (by simp))⟩;rw [hnone];have h2:=(hat.reserve ((H n).size - h.size)).lower (wm':=(H n).wmin) (by rw [← hH0]; exact T.wmin hev0 (ge n) (aj _));rw [hH0];exact h2
end
end Go.Abs

namespace Go.Abs
section
variable {E:Env} {lo nt:Nat} {μ0:MM} {w0:World} {ds:List Deferred} {call:CallSem} {ro:Option Nat} {V:List Nat}
theorem yo {h0:Heap}:∀ (seg:List AOper) (s s1:Slots) (h1:Heap),evQuietV call V seg s h0=some (s1,h1) →
  h1=h0∧∃ (S:Nat→Slots),S 0=s∧S seg.length=s1∧∀ (x:Nat) (o:AOper),seg[x]? = some o →
   (∃ h',fe call o (S x) { h0 with wmin:=h0.size }=some (S (x+1),h')∧h'.size=h0.size∧h'.wmin=h0.size)∧quietOk V o (S x)=true
 | [],s,s1,h1,e=>by simp only [evQuietV] at e; cases e;exact ⟨rfl,fun _=>s,rfl,rfl,fun x o hx=>by simp at hx⟩
 | o :: seg,s,s1,h1,e=>by
  simp only [evQuietV] at e;split at e;case h_2=>cases e
  rename_i s2 h2 he;split at e;case isFalse=>cases e
  rename_i hh;obtain ⟨a1,a2,a3⟩:=hh;obtain ⟨b1,S,b2,b3,b4⟩:=yo seg s2 s1 h1 e;refine ⟨b1,fun x=>match x with | 0=>s | x+1=>S x,rfl,by simpa using b3,fun x o1 hx=>?_⟩;cases x with
  | zero =>
   simp at hx; subst hx;exact ⟨⟨h2,by simp only [b2]; exact he,a1,a2⟩,a3⟩
  | succ x =>
   simp at hx;exact b4 x o1 hx
def NoLoc (V:List Nat) (S:Slots):Prop:=∀ t u o,sget S t=some (.loc u o)→V.contains u=false
theorem vw:∀ (s:Slots),noLocs V s=true→NoLoc V s
 | [],_=>fun t u o e=>by cases e
 | (d,x) :: r,h=>by
  intro t u o e;simp only [sget] at e;split at e
  ·cases e;simp only [noLocs,a7,fp] at h;exact h.1
  ·refine vw r ?_ t u o e;cases x <;> simp only [noLocs] at h <;> first | exact h | (simp only [a7] at h; exact h.2)
theorem sets_calm {o:AOper} (h:calm o.op=true):o.sets V=o.dst:=by
 unfold AOper.sets;split
 ·rename_i hop; rw [hop] at h; cases h
 ·rfl
theorem quietOk_calm {o:AOper} {S:Slots} (h:calm o.op=true):quietOk V o S=((o.dst.all fun d=>!isVar S d && !V.contains d) && (o.reads.all fun u=>!looksAt V S u)):=by
 unfold quietOk;split
 ·rename_i hop; rw [hop] at h; cases h
 ·rename_i hop; rw [hop] at h; cases h
 ·rfl
theorem adr_inV {S:Slots} {x:Opd} (hl:∀ u ∈ x.reads,looksAt V S u=false) {t o:Nat} (h:x.adr S=some (.loc t o)):V.contains t=false:=by
 cases x with
 | const v=>cases h
 | tmp u =>
  have h1:=hl u (by simp [Opd.reads]);unfold looksAt at h1;simp only [om] at h1;simp only [Opd.adr] at h;split at h
  ·cases h
  ·cases h; exact h1.1
  ·rename_i t' o' hs; cases h; rw [hs] at h1; exact h1.2
  ·cases h
theorem pe {S:Slots} {h:Heap} {v:Option AVal} {x:Slot} {s':Slots} {h':Heap} (e:ok1 S h v=some (x,s',h')) {t o:Nat} (hx:x = .loc t o):False:=by obtain ⟨u,rfl,rfl,rfl,rfl⟩:=gd e;cases hx
theorem op_loc {S:Slots} {h:Heap} {o:AOp} {d:Nat} {x:Slot} {s':Slots} {h':Heap} (hc:calm o=true) (hl:∀ u ∈ o.reads,looksAt V S u=false) (e:df call d o S h=some (x,s',h')) :
  ∀ t off,x = .loc t off→V.contains t=false:=by
 intro t off hx;have hval:∀ v:AVal,x ≠ .val v:=fun v e=>by rw [hx] at e; cases e
 cases o with
 | faddr a n =>
  simp only [df] at e;split at e
  ·exact (pe e hx).elim
  ·rename_i had;split at e
   ·cases e; cases hx; exact adr_inV hl had
   ·cases e
  ·cases e
 | aaddr n k a i =>
  simp only [df] at e;split at e
  ·exact (pe e hx).elim
  ·rename_i had _;split at e
   ·rw [ae] at e;obtain ⟨j,_,e⟩:=e;cases e; cases hx;exact adr_inV (fun u hu=>hl u (by simp only [AOp.reads,bw]; exact .inl hu)) had
   ·cases e
  ·cases e
 | nilcheck a =>
  simp only [df] at e;split at e
  ·exact (pe e hx).elim
  ·split at e
   ·rename_i had;split at e
    ·cases e; cases hx; exact adr_inV hl had
    ·cases e
   ·cases e
 | lalloc z=>cases hc
 | lbox a=>cases hc
 | store n a b=>cases hc
 | copy e1 d1 s1=>cases hc
 | conv k a =>
  simp only [df] at e;split at e
  ·unfold n7 at e;cases k <;> simp only at e
   ·split at e
    ·exact (pe e hx).elim
    ·cases e
   ·split at e
    ·exact (pe e hx).elim
    ·cases e
   ·split at e
    ·split at e
     ·cases e; cases hx
     ·cases e
    ·cases e
   ·split at e
    ·split at e
     ·exact (pe e hx).elim
     ·cases e
    ·cases e
   ·split at e
    ·split at e
     ·split at e
      ·cases e; cases hx
      ·cases e
     ·cases e
    ·cases e
  ·cases e
 | nextStr a=>cases e
 | _ =>
  simp only [df] at e
  first
   | exact (pe e hx).elim
   | (cases e; cases hx)
   | (split at e <;> first
     | exact (pe e hx).elim
     | (cases e; done)
     | (cases e; cases hx)
     | (rw [ae] at e; obtain ⟨_,_,e⟩:=e; cases e; cases hx)
     | (split at e <;> first
       | exact (pe e hx).elim
       | (cases e; done)
       | (cases e; cases hx)
       | (rw [ae] at e; obtain ⟨_,_,e⟩:=e; cases e; cases hx)))
theorem oper_loc {S:Slots} {h:Heap} {o:AOper} {x:Slot} {h':Heap} (hc:calm o.op=true) (hl:∀ u ∈ o.reads,looksAt V S u=false) (e:fe call o S h=some (a8 o.dst x S,h')) (hn:NoLoc V S) :
  NoLoc V (a8 o.dst x S):=by
 have run:∀ s' h',evRun call o S h=some (s',h')→NoLoc V s':=by
  intro s' h' e;unfold evRun at e;split at e;case h_2=>cases e
  rename_i x1 s1 h1 he;cases e;intro t u off ht;obtain ⟨e1,_,_⟩:=op_congr (V:=fun _=>False) (S2:=S) hc (Agree.of (fun _ _=>rfl) (fun _ _=>Iff.rfl)) _ _ _ he;subst e1;rw [fo] at ht;split at ht
  ·cases ht;exact op_loc hc (fun u hu=>hl u (by unfold AOper.reads; exact e9 _ hu)) he _ _ rfl
  ·exact hn _ _ _ ht
 have und:NoLoc V (a8 o.dst .undef S):=by
  intro t u off ht;rw [fo] at ht;split at ht
  ·cases ht
  ·exact hn _ _ _ ht
 unfold fe at e;split at e
 ·exact run _ _ e
 ·split at e
  ·split at e
   ·exact run _ _ e
   ·have:=congrArg Prod.fst (dr e); exact (show a8 o.dst .undef S=a8 o.dst x S from this) ▸ und
  ·have:=congrArg Prod.fst (dr e); exact (show a8 o.dst .undef S=a8 o.dst x S from this) ▸ und
  ·cases e
theorem operV {o:AOper} {S sD S':Slots} {h h':Heap} (hv:quietV V o=true) (hq:quietOk V o S=true) (e:fe call o S h=some (S',h')) (hn:NoLoc V S) (hnD:NoLoc V sD)
  (hat:∀ t ∈ o.reads,sget S t=sget sD t) (hvar:∀ t cs,V.contains t=false→(sget S t=some (.var cs) ↔ sget sD t=some (.var cs))) :
  ∃ sD',fe call o sD h=some (sD',h')∧(∀ u,sget sD' u=if o.sets V=some u then sget S' u else sget sD u)∧(∀ u,o.sets V≠some u→sget S' u=sget S u)∧NoLoc V S' ∧
   (∀ d cs,o.sets V=some d→V.contains d=false→sget S' d≠some (.var cs)∧sget S d≠some (.var cs)):=by
 have unl:∀ {A:Slots} (d:Nat),V.contains d=true→NoLoc V A→∀ t,sget (px d A) t=sget A t:=by
  intro A d hd hA t;rw [uo];split
  ·rename_i t' off ht;have:=hA _ _ _ ht;rw [if_neg (fun e=>by subst e; rw [hd] at this; cases this),ht]
  ·rfl
 by_cases hc:calm o.op=true
 ·rw [quietOk_calm hc] at hq;simp only [a7,au,fp] at hq;obtain ⟨hq1,hq2⟩:=hq
  have hag:AgreeV (fun t=>V.contains t=true) S sD o.reads:=⟨hat,fun t cs ht=>hvar t cs (by simpa using ht),fun t ht=>by have:=hq2 t ht;unfold looksAt at this;simp only [om] at this;refine ⟨(fun hq=>by rw [this.1] at hq; cases hq),fun t' off hs hq=>?_⟩;rw [hs] at this;have h2:V.contains t'=false:=this.2;rw [h2] at hq; cases hq⟩
  obtain ⟨x,c1,c2,c3⟩:=jj hc hag e;rw [sets_calm hc];subst c1;refine ⟨_,c2,fun u=>?_,fun u hu=>by rw [fo,if_neg hu],oper_loc hc hq2 e hn,fun d cs hd hdV=>?_⟩
  ·rw [fo];split
   ·rename_i hu; rw [fo,if_pos hu]
   ·rfl
  ·rw [hd] at hq1;simp only [Option.all_some,a7,fp] at hq1;refine ⟨by rw [fo,if_pos hd]; intro e; exact c3 cs (dr e),fun e=>?_⟩;have:=hq1.1;unfold isVar at this;rw [e] at this;cases this
 ·unfold quietV at hv;split at hv
  ·-- a variable is made
   rename_i z hop;unfold quietOk at hq;rw [hop] at hq;simp only [a7,Option.isNone_iff_eq_none] at hq;obtain ⟨hg,hd⟩:=hq;cases hdd:o.dst with
   | none=>rw [hdd] at hd; cases hd
   | some d =>
    rw [hdd] at hd;simp only at hd;have hset:o.sets V=some d:=by unfold AOper.sets; rw [hop]; exact hdd
    unfold fe at e;rw [hg] at e;simp only [evRun,hop,df,hdd,gh,a8] at e;cases e;refine ⟨(d,.var z) :: px d sD,by unfold fe; rw [hg]; simp only [evRun,hop,df,hdd,gh,a8],fun u=>?_,fun u hu=>?_,?_,fun d' cs hd' hV=>?_⟩
    ·rw [hset];simp only [sget,eu];split
     ·rfl
     ·exact unl d hd hnD u
    ·rw [hset] at hu;simp only [sget];rw [if_neg (fun e=>hu (by rw [e]))];exact unl d hd hn u
    ·intro t u off ht;simp only [sget] at ht;split at ht
     ·cases ht
     ·rw [unl d hd hn t] at ht; exact hn _ _ _ ht
    ·rw [hset] at hd'; cases hd'; rw [hd] at hV; cases hV
  ·-- one is set
   rename_i n t x hop;unfold quietOk at hq;rw [hop] at hq;simp only [a7,Option.isNone_iff_eq_none,au,fp] at hq;obtain ⟨⟨⟨⟨hg,hd⟩,_⟩,hvr⟩,hlk⟩:=hq;have hset:o.sets V=some t:=by unfold AOper.sets; rw [hop]; simp only; rw [if_pos hv]
   have hreads:o.reads=t :: x.reads:=by unfold AOper.reads; rw [hop,hg]; simp [AOp.reads,Opd.reads]
   have ht:sget S t=sget sD t:=hat t (by rw [hreads]; exact bg ..)
   have hx:x.ev sD=x.ev S:=by
    cases x with
    | const v=>rfl
    | tmp u=>simp only [Opd.ev,← hat u (by rw [hreads]; simp [Opd.reads])]
   unfold isVar at hvr;split at hvr;case h_2=>cases hvr
   rename_i cs hcs;have hcsD:sget sD t=some (.var cs):=by rw [← ht]; exact hcs
   have hadr:(Opd.tmp t).adr S=some (.loc t 0):=by simp only [Opd.adr,hcs]
   have hadrD:(Opd.tmp t).adr sD=some (.loc t 0):=by simp only [Opd.adr,hcsD]
   unfold fe at e;rw [hg] at e;simp only [evRun,hop,df,hadr] at e;cases hxs:(x.ev S).bind AVal.cells? with
   | none=>rw [hxs] at e; cases e
   | some xs =>
    rw [hxs] at e;simp only [storeAt,hcs] at e;by_cases hlen:xs.length=n
    ·rw [if_pos hlen] at e;by_cases hle:0+xs.length≤cs.length
     ·rw [if_pos hle] at e;simp only [b9,hd,a8] at e;cases e;refine ⟨(t,.var (splice cs 0 xs)) :: sD,?_,fun u=>?_,fun u hu=>?_,?_,fun d' cs' hd' hV=>?_⟩
      ·unfold fe;rw [hg];simp only [evRun,hop,df,hadrD,hx,hxs,storeAt,hcsD];rw [if_pos hlen,if_pos hle];simp only [b9,hd,a8]
      ·rw [hset];simp only [sget,eu];split <;> rfl
      ·rw [hset] at hu;simp only [sget];rw [if_neg (fun e=>hu (by rw [e]))]
      ·intro t1 u off ht1;simp only [sget] at ht1;split at ht1
       ·cases ht1
       ·exact hn _ _ _ ht1
      ·rw [hset] at hd'; cases hd'; rw [hv] at hV; cases hV
     ·rw [if_neg hle] at e; cases e
    ·rw [if_neg hlen] at e; cases e
  ·exact absurd hv hc
end
section
variable {E:Env} {lo nt:Nat} {μ0:MM} {w0:World} {ds:List Deferred} {s:Slots} {h:Heap} {a:Act} {w:World} {call:CallSem} {ops:Array Oper} {locs:List Nat} {aZ:List AOper} {Q:Exit→Act→World→Prop} {ro:Option Nat} {V:List Nat}
theorem quietV_any (hc:CallOK E call) (hev0:CallEvol call) (hg:GidOK E) (has:lq E nt ops locs 0 ops.toList=some aZ) (hb:edgesBack ops=true)
  {p n:Nat} {h1:Heap} {s1:Slots} (hpn:p+n≤aZ.length) (hw1:waits (befs ops.toList []) (p+n)=true)
  (hap:∀ x y oi oj,x < n→y < n→aZ[p+x]? = some oi→aZ[p+y]? = some oj→apartV V (befs ops.toList []) (p+x) (p+y) oi oj=true)
  (hqv:∀ x o,x < n→aZ[p+x]? = some o→quietV V o=true) (hnl:NoLoc V s)
  (hev:evQuietV call V ((aZ.drop p).take n) s h=some (s1,h1))
  (hk:∀ listed' a' w',Exact ops listed' (p+n)→At E lo nt μ0 w0 ds s1 h1 a' w'→wpAnyIn (F0 ro) 0 E.P .any ops Q (ops.size - (p+n)) listed' a' w') :
  ∀ listed a w,Exact ops listed p→At E lo nt μ0 w0 ds s h a w→wpAnyIn (F0 ro) 0 E.P .any ops Q (ops.size - p) listed a w:=by
 obtain ⟨q1,q2⟩:=kx _ _ _ has;simp only [gr] at q1;have hchain:=m7 (ops:=ops) ops.toList [] (by simp) (fun k i hk=>by simp at hk);have hblen:=li ops.toList [];simp only [ep,ed,gr] at hblen;have hseg:∀ x,x < n→((aZ.drop p).take n)[x]? = aZ[p+x]?:=fun x hx=>by rw [gj hx,ef]
 have hslen:((aZ.drop p).take n).length=n:=by simp; omega
 obtain ⟨e1,S,b2,b3,b4⟩:=yo _ _ _ _ hev;subst e1;rw [hslen] at b3
 have opat:∀ x,x < n→∃ o o',ops[p+x]? = some o∧aZ[p+x]? = some o'∧ky E nt ops (locs.contains (p+x)) o=some o':=by
  intro x hx;have hlt:p+x < ops.size:=by omega
  obtain ⟨o',h2,h3⟩:=q2 (p+x) ops[p+x] (by simp [hlt]);exact ⟨ops[p+x],o',by simp [hlt],h2,by simpa using h3⟩
 have text:∀ x o',x < n→aZ[p+x]? = some o'→(∃ h',fe call o' (S x) { h1 with wmin:=h1.size }=some (S (x+1),h')∧h'.size=h1.size∧h'.wmin=h1.size)∧quietOk V o' (S x)=true :=
  fun x o' hx ho=>b4 x o' (by rw [hseg x hx]; exact ho)
 have ordered:∀ x y oi oj d,x < n→y < n→x≠y→aZ[p+x]? = some oi→aZ[p+y]? = some oj→oj.sets V=some d→(oi.sets V=some d∨d ∈ oi.reads) →
   (y < x∧((befs ops.toList []).getD (p+x) 0).testBit (p+y)=true)∨(x < y∧((befs ops.toList []).getD (p+y) 0).testBit (p+x)=true):=by
  intro x y oi oj d hx hy hne hi hj hd hor;have:=hap x y oi oj hx hy hi hj;unfold apartV at this;rw [hd] at this;simp only [a7,dt,beq_iff_eq,bne_iff_ne,decide_eq_true_eq,fp,List.contains_eq_mem,decide_eq_false_iff_not] at this;rcases this with ((h2 | h2) | h2) | h2
  ·omega
  ·rcases hor with h3 | h3
   ·exact absurd h3 h2.1
   ·exact absurd h3 h2.2
  ·exact .inl ⟨by omega,h2.2⟩
  ·exact .inr ⟨by omega,h2.2⟩
 have self:∀ x o',x < n→aZ[p+x]? = some o'→NoLoc V (S x)→(∀ u,o'.sets V≠some u→sget (S (x+1)) u=sget (S x) u)∧NoLoc V (S (x+1)) ∧
   (∀ d cs,o'.sets V=some d→V.contains d=false→sget (S (x+1)) d≠some (.var cs)∧sget (S x) d≠some (.var cs)):=by
  intro x o' hx ho hn;obtain ⟨⟨h',t1,_,_⟩,t2⟩:=text x o' hx ho;obtain ⟨_,_,_,c3,c4,c5⟩:=operV (hqv x o' hx ho) t2 t1 hn hn (fun _ _=>rfl) (fun _ _ _=>Iff.rfl);exact ⟨c3,c4,c5⟩
 have text_no:∀ x,x≤n→NoLoc V (S x):=by
  intro x;induction x with
  | zero=>intro _; rw [b2]; exact hnl
  | succ x ih =>
   intro hx;obtain ⟨_,o',_,ho',_⟩:=opat x (by omega);exact (self x o' (by omega) ho' (ih (by omega))).2.1
 have text_step:∀ x o' u,x < n→aZ[p+x]? = some o'→o'.sets V≠some u→sget (S (x+1)) u=sget (S x) u:=fun x o' u hx ho=>(self x o' hx ho (text_no x (by omega))).1 u
 have text_last:∀ x t y,y < x→x≤n→(∀ z o,y < z→z < x→aZ[p+z]? = some o→o.sets V≠some t)→sget (S x) t=sget (S (y+1)) t:=by
  intro x;induction x with
  | zero=>intro t y hy; omega
  | succ x ih =>
   intro t y hy hx hno;by_cases e:y=x
   ·subst e; rfl
   ·obtain ⟨_,o',_,ho',_⟩:=opat x (by omega);rw [text_step x o' t (by omega) ho' (hno x o' (by omega) (by omega) ho')];exact ih t y (by omega) (by omega) fun z o h2 h3=>hno z o h2 (by omega)
 have text_miss:∀ x t,x≤n→(∀ y o,y < x→aZ[p+y]? = some o→o.sets V≠some t)→sget (S x) t=sget s t:=by
  intro x;induction x with
  | zero=>intro t _ _; rw [b2]
  | succ x ih =>
   intro t hx hno;obtain ⟨_,o',_,ho',_⟩:=opat x (by omega);rw [text_step x o' t (by omega) ho' (hno x o' (by omega) ho')];exact ih t (by omega) fun y o hy=>hno y o (by omega)
 have text_var:∀ x t cs,x≤n→V.contains t=false→(sget (S x) t=some (.var cs) ↔ sget s t=some (.var cs)):=by
  intro x;induction x with
  | zero=>intro t cs _ _; rw [b2]
  | succ x ih =>
   intro t cs hx ht;obtain ⟨_,o',_,ho',_⟩:=opat x (by omega);by_cases e:o'.sets V=some t
   ·obtain ⟨n1,n2⟩:=(self x o' (by omega) ho' (text_no x (by omega))).2.2 t cs e ht;rw [← ih t cs (by omega) ht];exact ⟨fun e=>absurd e n1,fun e=>absurd e n2⟩
   ·rw [text_step x o' t (by omega) ho' e];exact ih t cs (by omega) ht
 have main:∀ (k:Nat) (listed:Array Bool) (sD:Slots) (a:Act) (w:World),listed.size=ops.size→Down ops listed→(∀ i,i < p→listed[i]? = some true)→(∀ i,p+n≤i→i < ops.size→listed[i]? = some false) →
   ((List.range n).filter fun x=>listed[p+x]? == some false).length=k →
   (∀ t,(∃ y o,y < n∧aZ[p+y]? = some o∧o.sets V=some t∧listed[p+y]? = some true∧(∀ z oz,z < n→aZ[p+z]? = some oz→oz.sets V=some t→listed[p+z]? = some true→z≤y)∧sget sD t=sget (S (y+1)) t) ∨
    ((∀ y o,y < n→aZ[p+y]? = some o→o.sets V=some t→listed[p+y]?≠some true)∧sget sD t=sget s t)) →
   At E lo nt μ0 w0 ds sD h1 a w→wpAnyIn (F0 ro) 0 E.P .any ops Q (ops.size - (p+n)+k) listed a w:=by
  intro k;induction k with
  | zero =>
   intro listed sD a w hsz hdn hlow hhigh hcount hinv hat
   have hall:∀ x,x < n→listed[p+x]? = some true:=by
    intro x hx;have hlt:p+x < listed.size:=by omega
    have hmem:x ∉ (List.range n).filter fun x=>listed[p+x]? == some false:=by rw [cg hcount]; simp
    rw [gi] at hmem;have h2:¬ (listed[p+x]? = some false):=fun h2=>hmem ⟨dw.2 hx,by simp [h2]⟩
    rw [lj hlt] at h2 ⊢;cases hv:listed[p+x] with
    | true=>rfl
    | false=>rw [hv] at h2; exact absurd rfl h2
   have hex:Exact ops listed (p+n):=by
    refine ⟨hsz,fun i hi=>?_⟩;rcases bi i p with h2 | h2
    ·rw [hlow i h2]; simp; omega
    ·rcases bi i (p+n) with h3 | h3
     ·have:=hall (i - p) (by omega);rw [show p+(i - p)=i by omega] at this;rw [this]; simp [h3]
     ·rw [hhigh i h3 hi]; simp; omega
   refine hk listed a w hex ?_;obtain ⟨μ,ν,k1,k2,k3,k4⟩:=hat;refine ⟨μ,ν,k1,k2,k3.congr fun t=>?_,k4⟩;rw [← b3];rcases hinv t with ⟨y,o,i1,i2,i3,i4,i5,i6⟩ | ⟨i1,i2⟩
   ·rw [i6];refine text_last n t y i1 (aj _) fun z oz hz hzn hoz hs=>?_
    have:=i5 z oz hzn hoz hs (hall z hzn);omega
   ·rw [i2];exact text_miss n t (aj _) fun y o hy ho hs=>i1 y o hy ho hs (hall y hy)
  | succ k ih =>
   intro listed sD a w hsz hdn hlow hhigh hcount hinv hat
   have hsome:∃ x,x < n∧listed[p+x]? = some false:=by
    have hne:(List.range n).filter (fun x=>listed[p+x]? == some false)≠[]:=fun e=>by rw [e] at hcount; simp at hcount
    obtain ⟨x,hx⟩:=List.exists_mem_of_ne_nil _ hne;rw [gi,dw] at hx;exact ⟨x,hx.1,by simpa using hx.2⟩
   obtain ⟨xu,hxu,hxf⟩:=hsome;refine ⟨fun hr=>?_,fun i hi=>?_⟩
   ·have:=pq hb hsz hr (p+xu) (by omega);rw [hxf] at this; cases this
   ·obtain ⟨oi,k1,k2,k3⟩:=og hsz hi;have his:i < ops.size:=ah (l:=ops.toList) (by simpa using k1)
    have hip:p≤i:=by
     rcases bi i p with h2 | h2
     ·rw [hlow i h2] at k2; cases k2
     ·exact h2
    have hin:i < p+n:=by
     rcases bi i (p+n) with h2 | h2
     ·exact h2
     ·exfalso;have hbit:=tg hw1 (j:=i) (i:=p+xu) (by rw [hblen]; exact his) h2 (by omega);have hl:=iz hdn (hchain _ _ hbit) fun o e ho he hbb=>by rw [k1] at ho; cases ho; exact k3 e he hbb
      rw [hxf] at hl; cases hl
    obtain ⟨x,rfl⟩:∃ x,i=p+x:=⟨i - p,by omega⟩;have hxn:x < n:=by omega
    obtain ⟨o,o',h2,h3,h4⟩:=opat x hxn;rw [h2] at k1; cases k1;obtain ⟨⟨h',t1,t1a,t1b⟩,t2⟩:=text x o' hxn h3
    have waitsl:∀ j,(((befs ops.toList []).getD (p+x) 0).testBit j=true)→listed[j]? = some true:=fun j hbit =>
     iz hdn (hchain _ _ hbit) fun o2 e ho he hbb=>by rw [h2] at ho; cases ho; exact k3 e he hbb
    have waitsd:∀ j i,listed[j]? = some true→(((befs ops.toList []).getD j 0).testBit i=true)→listed[i]? = some true:=fun j i hl hbit =>
     iz hdn (hchain _ _ hbit) fun o2 e ho he hbb=>hdn _ _ _ hl ho he hbb
    have low:∀ t y oy,t ∈ o'.reads→y < n→aZ[p+y]? = some oy→oy.sets V=some t→y < x→listed[p+y]? = some true:=by
     intro t y oy ht hy hoy hs hyx;rcases ordered x y o' oy t hxn hy (by omega) h3 hoy hs (.inr ht) with ⟨_,h6⟩ | ⟨h5,_⟩
     ·exact waitsl _ h6
     ·omega
    have high:∀ t y oy,(o'.sets V=some t∨t ∈ o'.reads)→y < n→aZ[p+y]? = some oy→oy.sets V=some t→listed[p+y]? = some true→y < x:=by
     intro t y oy ht hy hoy hs hl;rcases zc y x with h5 | h5 | h5
     ·exact h5
     ·subst h5; rw [k2] at hl; cases hl
     ·exfalso;rcases ordered x y o' oy t hxn hy (by omega) h3 hoy hs ht with ⟨h6,_⟩ | ⟨_,h6⟩
      ·omega
      ·have:=waitsd _ _ hl h6;rw [k2] at this; cases this
    have hag:∀ t ∈ o'.reads,sget (S x) t=sget sD t:=by
     intro t ht;rcases hinv t with ⟨y,oy,i1,i2,i3,i4,i5,i6⟩ | ⟨i1,i2⟩
     ·rw [i6];refine text_last x t y (high t y oy (.inr ht) i1 i2 i3 i4) (by omega) fun z oz hz hzx hoz hs=>?_
      have:=i5 z oz (by omega) hoz hs (low t z oz ht (by omega) hoz hs hzx);omega
     ·rw [i2];exact text_miss x t (by omega) fun y oy hy hoy hs=>i1 y oy (by omega) hoy hs (low t y oy ht (by omega) hoy hs hy)
    have hvar:∀ t cs,V.contains t=false→(sget (S x) t=some (.var cs) ↔ sget sD t=some (.var cs)):=by
     intro t cs ht;rw [text_var x t cs (by omega) ht];rcases hinv t with ⟨y,oy,i1,i2,i3,i4,i5,i6⟩ | ⟨i1,i2⟩
     ·rw [i6]; exact (text_var (y+1) t cs (by omega) ht).symm
     ·rw [i2]
    have hnD:NoLoc V sD:=by
     intro t u off ht;rcases hinv t with ⟨y,oy,i1,i2,i3,i4,i5,i6⟩ | ⟨i1,i2⟩
     ·rw [i6] at ht; exact text_no (y+1) (by omega) _ _ _ ht
     ·rw [i2] at ht; exact hnl _ _ _ ht
    obtain ⟨sD',c1,c2,_,_,_⟩:=operV (hqv x o' hxn h3) t2 t1 (text_no x (by omega)) hnD hag hvar;refine vu h2 (zar hc hev0 hg h4 c1 t1a t1b hat fun a' w' hat'=>?_);have hset:∀ j,j≠p+x→(listed.setIfInBounds (p+x) true)[j]? = listed[j]?:=fun j hj=>eh (fun e=>hj e.symm)
    have hself:(listed.setIfInBounds (p+x) true)[p+x]? = some true:=by simp [hsz,his]
    refine ih (listed.setIfInBounds (p+x) true) sD' a' w' (by simp [hsz]) ?_ ?_ ?_ ?_ ?_ hat'
    ·intro j oj e hj hoj he hbb;by_cases ej:j=p+x
     ·subst ej;rw [h2] at hoj; cases hoj;have:=k3 e he hbb;by_cases ee:e.on=p+x
      ·rw [ee]; exact hself
      ·rw [hset _ ee]; exact this
     ·rw [hset _ ej] at hj;have:=hdn j oj e hj hoj he hbb;by_cases ee:e.on=p+x
      ·rw [ee]; exact hself
      ·rw [hset _ ee]; exact this
    ·intro j hj; rw [hset j (by omega)]; exact hlow j hj
    ·intro j hj hj'; rw [hset j (by omega)]; exact hhigh j hj hj'
    ·-- one less is to come
     have hperm:((List.range n).filter fun y=>(listed.setIfInBounds (p+x) true)[p+y]? == some false)=((List.range n).filter fun y=>listed[p+y]? == some false).filter fun y=>y != x:=by
      rw [List.filter_filter];apply List.filter_congr;intro y _;by_cases ey:y=x
      ·subst ey; rw [hself]; simp
      ·rw [hset _ (by omega)]; simp [ey]
     rw [hperm]
     have hmem:x ∈ (List.range n).filter fun y=>listed[p+y]? == some false:=by rw [gi]; exact ⟨dw.2 hxn,by simp [k2]⟩
     have hnd:((List.range n).filter fun y=>listed[p+y]? == some false).Nodup:=List.nodup_range.sublist List.filter_sublist;generalize (List.range n).filter (fun y=>listed[p+y]? == some false)=L at hcount hmem hnd;have herase:L.filter (fun y=>y != x)=L.erase x:=(hnd.erase_eq_filter x).symm;rw [herase,List.length_erase_of_mem hmem,hcount];rfl
    ·intro t;rw [c2 t];by_cases ht:o'.sets V=some t
     ·rw [if_pos ht];refine .inl ⟨x,o',hxn,h3,ht,hself,fun z oz hz hoz hs hl=>?_,rfl⟩;by_cases ez:z=x
      ·omega
      ·rw [hset _ (by omega)] at hl;have:=high t z oz (.inl ht) hz hoz hs hl;omega
     ·rw [if_neg ht]
      have ne:∀ z oz,aZ[p+z]? = some oz→oz.sets V=some t→z≠x:=by intro z oz hoz hs e;subst e; rw [h3] at hoz; cases hoz; exact ht hs
      rcases hinv t with ⟨y,oy,i1,i2,i3,i4,i5,i6⟩ | ⟨i1,i2⟩
      ·refine .inl ⟨y,oy,i1,i2,i3,?_,fun z oz hz hoz hs hl=>?_,i6⟩
       ·rw [hset _ (by have:=ne y oy i2 i3; omega)]; exact i4
       ·rw [hset _ (by have:=ne z oz hoz hs; omega)] at hl;exact i5 z oz hz hoz hs hl
      ·refine .inr ⟨fun y oy hy hoy hs=>?_,i2⟩;rw [hset _ (by have:=ne y oy hoy hs; omega)];exact i1 y oy hy hoy hs
 intro listed a w hex hat
 have hcount:((List.range n).filter fun x=>listed[p+x]? == some false).length=n:=by
  have:(List.range n).filter (fun x=>listed[p+x]? == some false)=List.range n:=by rw [ud];intro x hx;rw [dw] at hx;rw [hex.2 (p+x) (by omega)];simp
  rw [this,kr]
 have:=main n listed s a w hex.1 (hex.down hb) (fun i hi=>by rw [hex.2 i (by omega)]; simp [hi]) (fun i hi hi'=>by rw [hex.2 i hi']; simp; omega) hcount
  (fun t=>.inr ⟨fun y o hy ho hs hl=>by have h5:=hex.2 (p+y) (by omega);rw [hl] at h5;have h6:=of_decide_eq_true (dr h5).symm;omega,rfl⟩) hat
 rwa [show ops.size - (p+n)+n=ops.size - p by omega] at this
end
end Go.Abs

namespace Go.Abs
section
variable {E:Env} {lo nt:Nat} {μ0:MM} {w0:World} {ds:List Deferred} {s:Slots} {h:Heap} {a:Act} {w:World} {call:CallSem} {ops:Array Oper} {locs:List Nat} {aZ:List AOper} {Q:Exit→Act→World→Prop} {ro:Option Nat}
theorem z5 (hc:CallOK E call) (hev0:CallEvol call) (hg:GidOK E) (has:lq E nt ops locs 0 ops.toList=some aZ) (hb:edgesBack ops=true) :
  ∀ (segs:List (Bool × Nat)) (p:Nat) (gs:List Seg) (s:Slots) (h:Heap) (s1:Slots) (h1:Heap) (listed:Array Bool) (a:Act) (w:World),segsOk aZ (befs ops.toList []) p segs=true→splitSegs (befs ops.toList []) p segs (aZ.drop p)=some gs →
  jq call gs s h=some (s1,h1)→Exact ops listed p→At E lo nt μ0 w0 ds s h a w→(∀ a' w',At E lo nt μ0 w0 ds s1 h1 a' w'→Q .normal a' w')→wpAnyIn (F0 ro) 0 E.P .any ops Q (ops.size - p) listed a w
 | [],p,gs,s,h,s1,h1,listed,a,w,hok,hsp,hev,hex,hat,hn=>by
  obtain ⟨q1,_⟩:=kx _ _ _ has;simp only [gr] at q1;simp only [segsOk,beq_iff_eq] at hok;have hp:p=ops.size:=by omega
  subst hp;rw [mw];unfold splitSegs at hsp;split at hsp
  ·cases hsp;simp only [jq] at hev; cases hev;refine ⟨?_,hn _ _ hat⟩;apply List.eq_nil_iff_forall_not_mem.2;intro i hi;obtain ⟨o,k1,k2,_⟩:=og hex.1 hi;have his:i < ops.size:=ah (l:=ops.toList) (by simpa using k1);rw [hex.2 i his] at k2;simp [his] at k2
  ·cases hsp
  ·contradiction
 | (true,n) :: r,p,gs,s,h,s1,h1,listed,a,w,hok,hsp,hev,hex,hat,hn=>by
  obtain ⟨q1,_⟩:=kx _ _ _ has;simp only [gr] at q1;have hblen:=li ops.toList [];simp only [ep,ed,gr] at hblen;simp only [segsOk,a7,decide_eq_true_eq] at hok;obtain ⟨⟨⟨a1,a2⟩,a34⟩,a5⟩:=hok;simp only [splitSegs] at hsp;split at hsp;case isFalse=>cases hsp
  rw [ae] at hsp;obtain ⟨gs',hsp,rfl⟩:=hsp;rw [iq] at hsp;simp only [jq,if_true] at hev;split at hev;case h_2=>cases hev
  rename_i s2 h2 he
  have hgo:∀ listed' a' w',Exact ops listed' (p+n)→At E lo nt μ0 w0 ds s2 h2 a' w'→wpAnyIn (F0 ro) 0 E.P .any ops Q (ops.size - (p+n)) listed' a' w':=fun listed' a' w' hex' hat' =>
   z5 hc hev0 hg has hb r (p+n) gs' s2 h2 s1 h1 listed' a' w' a5 hsp hev hex' hat' hn
  unfold quietSeg at a34;split at a34
  case isFalse hnv =>
   simp only [a7] at a34;obtain ⟨⟨hsm,a3⟩,a4⟩:=a34;rw [if_pos (by simpa using hsm)] at he;unfold evQ at he;rw [if_neg hnv] at he;split at he;case isFalse=>cases he
   rename_i hnl;refine quietV_any hc hev0 hg has hb a2 (th (by omega) r (p+n) a5) (fun x y oi oj hx hy hi hj=>?_) (fun x o hx ho=>?_) (vw _ hnl) he hgo listed a w hex hat
   ·rw [au] at a3;have:=a3 x (dw.2 hx);rw [au] at this;have:=this y (dw.2 hy);rw [hi,hj] at this;exact this
   ·rw [au] at a4;have:=a4 x (dw.2 hx);rw [ho] at this;exact this
  rename_i hnv;simp only [a7] at a34;obtain ⟨a3,a4⟩:=a34
  have hap:∀ x y oi oj,x < n→y < n→aZ[p+x]? = some oi→aZ[p+y]? = some oj→apart (befs ops.toList []) (p+x) (p+y) oi oj=true:=fun x y oi oj hx hy hi hj=>by rw [au] at a3;have:=a3 x (dw.2 hx);rw [au] at this;have:=this y (dw.2 hy);rw [hi,hj] at this;exact this
  have hcs:∀ x o,x < n→aZ[p+x]? = some o→calm o.op=true∧(qu (befs ops.toList []) p ((aZ.drop p).take n)=[]∨soft o.op=true):=fun x o hx ho=>by rw [au] at a4;have:=a4 x (dw.2 hx);rw [ho] at this;simpa using this
  unfold evQ at he;rw [if_pos hnv] at he;split at he
  ·exact quiet_any hc hev0 hg has hb a2 (th (by omega) r (p+n) a5) hap (fun x o hx ho=>(hcs x o hx ho).1) he hgo listed a w hex hat
  ·rename_i hne;refine open_any hc hev0 hg has hb a2 (th (by omega) r (p+n) a5) hap (fun x o hx ho=>(hcs x o hx ho).2.resolve_left hne) (fun x hx=>?_) he hgo listed a w hex hat;unfold qu at hne ⊢;split at hne
   ·rename_i hm;rw [if_pos hm];have hl:((aZ.drop p).take n).length=n:=by simp; omega
    rw [hl,jm,bk,List.getElem?_range hx];rfl
   ·exact absurd rfl hne
 | (false,n) :: r,p,gs,s,h,s1,h1,listed,a,w,hok,hsp,hev,hex,hat,hn=>by
  obtain ⟨q1,_⟩:=kx _ _ _ has;simp only [gr] at q1;have hblen:=li ops.toList [];simp only [ep,ed,gr] at hblen;simp only [segsOk,a7,decide_eq_true_eq] at hok;obtain ⟨⟨a2,a3⟩,a5⟩:=hok;simp only [splitSegs] at hsp;split at hsp;case isFalse=>cases hsp
  rw [ae] at hsp;obtain ⟨gs',hsp,rfl⟩:=hsp;rw [iq] at hsp;simp only [jq,de,if_false] at hev;split at hev;case h_2=>cases hev
  rename_i s2 h2 he;refine seq_any hc hev0 hg has hb n p s h s2 h2 listed a w a2 (fun x hx=>?_) he hex hat (fun listed' a' w' hex' hat'=>?_)
  ·rcases bi x n with h3 | h3
   ·rw [au] at a3;exact a3 x (dw.2 h3)
   ·have:x=n:=by omega
    subst this;exact th (by omega) r (p+x) a5
  ·exact z5 hc hev0 hg has hb r (p+n) gs' s2 h2 s1 h1 listed' a' w' a5 hsp hev hex' hat' hn
theorem region_sound (hc:CallOK E call) (hev0:CallEvol call) (hg:GidOK E) (hm:E.P.follows .mixedOrders=true) {segs:List (Bool × Nat)} {draw:Bool} {gs:List Seg} {id:Nat} {s1:Slots} {h1:Heap}
  (hcr:cRegion E nt segs locs ops draw=some gs) (hev:jq call gs s h=some (s1,h1)) (hat:At E lo nt μ0 w0 ds s h a w) (hn:∀ a' w',At E lo nt μ0 w0 ds s1 h1 a' w'→Q .normal a' w') :
  (Code.region id ops draw).wpIn (F0 ro) 0 E.P Q a w:=by
 unfold cRegion at hcr;split at hcr;case h_2=>cases hcr
 rename_i aZ has;split at hcr
 ·rename_i hd;subst hd;split at hcr;case isFalse=>cases hcr
  rename_i hh;simp only [a7] at hh;apply wpIn_region_any hm
  have hat':At E lo nt μ0 w0 ds s h a { w with drawn:=w.drawn+1 }:=by obtain ⟨μ,ν,k1,k2,k3,k4,k5,k6⟩:=hat;exact ⟨μ,ν,k1.heap rfl rfl rfl rfl,k2.same rfl rfl rfl,k3.heap rfl,k4,k5,k6⟩
  exact z5 hc hev0 hg has hh.1 segs 0 gs s h s1 h1 _ _ _ hh.2 (by simpa using hcr) hev ⟨by simp,fun i hi=>by simp [hi]⟩ hat' hn
 ·rename_i hd;have:draw=false:=by simpa using hd
  subst this;cases hcr;simp only [jq,de,if_false] at hev;split at hev;case h_2=>cases hev
  rename_i s2 h2 he;cases hev;apply wpIn_region;have:=wx (ro:=ro) (Q:=Q) hc hev0 hg ops.toList 0 aZ s h s1 h1 a w rfl has he hat hn;rw [List.range_eq_range'];simpa using this
end
end Go.Abs

namespace Go.Abs
def AExit.toX:AExit→Exit
 | .normal=>.normal
 | .exit id=>.exit id
 | .ret=>.ret
section
variable {E:Env} {lo nt:Nat} {μ0:MM} {w0:World} {ds:List Deferred} {call:CallSem} {ro:Option Nat}
theorem At.keep {s:Slots} {h:Heap} {a:Act} {w:World} (hat:At E lo nt μ0 w0 ds s h a w) (l:List Nat):At E lo nt μ0 w0 ds (Abs.keep l s) h a w:=by obtain ⟨μ,ν,k1,k2,k3,k4⟩:=hat;exact ⟨μ,ν,k1,k2,k3.less fun t x hx=>sget_keep l s t x hx,k4⟩
theorem Step.alloc {X:Nat→Prop} {wm:Nat} {μ:MM} {w:World} (B:Obj):Step X wm μ w μ (w.alloc B) :=
 ⟨rfl,rfl,rfl,by simp,fun k hk _ _=>by
  show (w.heap.push B)[k]? = _
  rw [di,if_neg (by omega)],aj _,fun _ _=>.inl rfl,fun i m hi hm=>absurd (ah hm) (by omega)⟩
theorem zx {ν:Fr} {μ:MM} {s:Slots} {tmps:Array Value} {w:World} (hf:FRel E lo ν μ (sget s) tmps w):∀ {caps:List Nat} {sl:List (Nat × AVal)},capsOf s caps=some sl→∀ (k:Nat) (x:Nat × AVal),sl[k]? = some x→∃ v',tmps[x.1]? = some v'∧VRel E μ x.2 v'
 | [],sl,h,k,x,hk=>by simp only [capsOf] at h; cases h; simp at hk
 | t :: caps,sl,h,k,x,hk=>by
  simp only [capsOf] at h;split at h;case h_2=>cases h
  rename_i v l hs hl;cases h;cases k with
  | zero=>simp at hk; subst hk; exact hf.val t v hs
  | succ k=>exact zx hf hl k x (by simpa using hk)
theorem next_sound {it:Operand} {x:Opd} (hx:g8 E it=some x) {o:Oper} (ho:o.op = .next it false) (hd:∀ t,o.dst=some t→t < nt) {st:St} {l:List (AExit × St)} (hev:nextOuts o.dst x st=some l) {a:Act} {w:World}
  (hat:At E lo nt μ0 w0 ds st.s st.h a w) {next:Act→World→Prop} {Q:Exit→Act→World→Prop} (hn:∀ y ∈ l,y.1 = .normal→∀ a' w',At E lo nt μ0 w0 ds y.2.s y.2.h a' w'→next a' w'):o.wpIn (F0 ro) 0 E.P a w next Q:=by
 obtain ⟨s,h⟩:=st;obtain ⟨μ,ν,k1,k2,k3,k4,k5,k6⟩:=hat;refine ⟨fun _ _=>trivial,?_⟩;rw [Oper.semAt_eq _ _ _ (fun c hc'=>by rw [ho] at hc'; cases hc')]
 have exec:∀ (v:Value) (w':World),(Instr.next (a.eval it) false o.type).run E.P w = .ok v w'→(execOp a.eval o).run E.P w = .ok (.value v) w':=fun v w' e=>by simp only [execOp,ho];exact nh e
 unfold nextOuts at hev;split at hev;case h_2=>cases hev
 rename_i i hxv;have hix:=ce k3 hx hxv;simp only [VRel] at hix;obtain ⟨ad,hit,mo,hmo,had⟩:=hix;split at hev;case isFalse=>cases hev
 rename_i hb;simp only at hb hev
 have over:∀ (m:M),μ[i]? = some (some m)→At E lo nt μ0 w0 ds (a8 o.dst (.val (.tuple [.bool false])) s) (h.put i .dead) (a.put o.dst (.tuple #[.bool false])) w:=by
  intro m hm;refine ⟨μ.set i none,ν,?_,k2.kill i,?_,by rw [np]; exact k4,by rw [ll]; exact k5,k6⟩
  ·exact k1.trans (Step.kill μ w (fz _ _)) (cz _ _)
  ·rw [iu];refine (FRel.setVal ?_ (fun y hy=>by rw [k4]; exact hd y hy) (by simp only [VRel]; exact ⟨_,rfl,by simp [VRels,VRel]⟩)).congr fun t=>je _ _ _ _
   exact k3.keep (ni μ i) (fun t cs hv=>rfl) (fun t cs j m' hv hj hm'=>absurd (ah hm') (by simp; omega)) fun r hr=>⟨rfl,fun j m' hj hm'=>absurd (ah hm') (by simp; omega)⟩
 split at hev
 ·rename_i since seen last hgi;cases hev;obtain ⟨mi,r',⟨q1,hbase⟩,q2,q3⟩:=k2.obj _ _ hgi;rw [q1] at hmo; cases hmo;have had':=had mi rfl;subst had';simp only [VRel] at q3;have q3':r'=none:=by simpa using q3
  subst q3'
  have hrun:(Instr.next (a.eval it) false o.type).run E.P w = .ok (.tuple #[.bool false]) w:=by rw [hit];simp [Instr.next,getObj,Sem.run,q2,Result.andThen,hbase]
  rw [exec _ _ hrun];exact hn _ (eo _) rfl _ _ (over mi q1)
 ·rename_i m since seen last hgi;split at hev;case h_2=>cases hev
  rename_i es clock hgm;split at hev;case isFalse=>cases hev
  rename_i hh;obtain ⟨hold,hsc⟩:=hh;obtain ⟨mi,r',⟨q1,hbase⟩,q2,q3⟩:=k2.obj _ _ hgi;rw [q1] at hmo; cases hmo;have had':=had mi rfl;subst had';rw [hbase] at hit;obtain ⟨mm,es',p1,p2,p3,p4⟩:=k2.obj _ _ hgm;have q3':=q3;simp only [VRel] at q3;obtain ⟨bm,xo,e1,e2,e3⟩:=q3;rw [p1] at e2; cases e2;have e3:=e3 mm rfl;subst e3;have e1:r'=some mm.blk:=by simpa using e1
  subst e1
  have at_:∀ (k:Nat) (y:MapEntry),es'.toList[k]? = some y→∃ z,es[k]? = some z∧VRel E μ z.1 y.key∧VRel E μ z.2.1 y.val∧y.born=z.2.2:=by
   intro k y hk;have hlt:=ah hk;simp only [gr] at hlt;obtain ⟨z,hz⟩:∃ z,es[k]? = some z:=⟨_,ai (by omega)⟩;obtain ⟨y',y1,y2,y3,y4⟩:=p4 k z hz
   have:y'=y:=by rw [← lr,hk] at y1;exact (dr y1).symm
   subst this;exact ⟨z,hz,y2,y3,y4⟩
  have hold':∀ y ∈ es'.toList,y.born < since:=by intro y hy;obtain ⟨k,hk⟩:=ig hy;obtain ⟨z,z1,_,_,z4⟩:=at_ k y hk;rw [au] at hold;have:=hold z (bn z1);rw [z4];simpa using this
  have hin:∀ (k:Nat) (z:AVal × AVal × Nat),es[k]? = some z→(!seen.contains z.2.2)=true→(leftOf es' seen.toArray).size≠0:=by
   intro k z hz hs h0;obtain ⟨y,y1,_,_,y4⟩:=p4 k z hz
   have hmem:y ∈ leftOf es' seen.toArray:=by unfold leftOf;rw [Array.mem_filter];refine ⟨Array.mem_of_getElem? y1,?_⟩;rw [y4];simpa using hs
   rw [Array.eq_empty_of_size_eq_zero h0] at hmem;simp at hmem
  rcases run_next_at (P:=E.P) w o.type mi.blk mm.blk since last seen.toArray es' clock q2 p2 hold' hsc with ⟨h0,hrun⟩ | ⟨y,hy,w1,hw1,hrun⟩
  ·-- nothing is left
   rw [exec _ _ (by rw [hit]; exact hrun)];split at hev
   ·cases hev;exact hn _ (eo _) rfl _ _ (over mi q1)
   ·rename_i hne;exfalso;cases hf:es.filter fun e=>!seen.contains e.2.2 with
    | nil=>exact hne hf
    | cons z zs =>
     have hz:z ∈ es.filter fun e=>!seen.contains e.2.2:=by rw [hf]; exact bg ..
     rw [gi] at hz;obtain ⟨k,hk⟩:=ig hz.1;exact hin k z hk hz.2 h0
  ·-- an entry
   have hy':y ∈ es'.toList∧(!seen.contains y.born)=true:=by unfold leftOf at hy;rw [Array.mem_toList_iff,Array.mem_filter] at hy;exact ⟨Array.mem_toList_iff.2 hy.1,by simpa using hy.2⟩
   obtain ⟨k,hk⟩:=ig hy'.1;obtain ⟨z,z1,z2,z3,z4⟩:=at_ k y hk
   have hzf:z ∈ es.filter fun e=>!seen.contains e.2.2:=by rw [gi];exact ⟨bn z1,by rw [← z4]; exact hy'.2⟩
   rw [exec _ _ (by rw [hit]; exact hrun)];split at hev
   ·rename_i hf;rw [hf] at hzf; cases hzf
   ·cases hev;refine hn _ (ml hzf) rfl _ _ ?_;have hw1h:w1.heap=w.heap∧w1.os=w.os∧w1.tape=w.tape∧w1.output=w.output:=by rcases hw1 with rfl | rfl <;> exact ⟨rfl,rfl,rfl,rfl⟩
    let B:Obj:=.mapIter (some mm.blk) since (seen.toArray.push y.born) clock
    have hlt:=k2.lt i mi q1
    have hheap:(Go.ChangeMaps.setBlock w1 mi.blk B).heap=(ct w mi.blk B).heap:=by simp [Go.ChangeMaps.setBlock,ct,hw1h.1]
    refine ⟨μ,ν,?_,?_,?_,by rw [np]; exact k4,by rw [ll]; exact k5,?_⟩
    ·have hB:Step (fun k=>lo≤k) (h.put i (.mapIter (some m) since (seen++[z.2.2]) clock)).wmin μ w μ (ct w mi.blk B):=Step.put q1 (fz _ _) _;exact (k1.trans hB (cz _ _)).heap hheap hw1h.2.1 hw1h.2.2.1 hw1h.2.2.2
    ·refine (k2.put hb q1 (B:=B) ?_).same rfl rfl hheap;exact ⟨mi,some mm.blk,⟨q1,hbase⟩,by rw [g7 hlt]; simp [B,z4],q3'⟩
    ·rw [iu];refine (FRel.setVal ?_ (fun y hy=>by rw [k4]; exact hd y hy) (by simp only [VRel]; exact ⟨_,rfl,by simp only [VRels]; exact ⟨_,_,rfl,by simp only [VRel],_,_,rfl,z2,_,_,rfl,z3,rfl⟩⟩)).congr fun t=>je _ _ _ _
     refine (k3.keep (w':=ct w mi.blk B) (Later.refl _) (fun t cs' hv=>bp (k3.sepm t cs' i mi hv q1)) (fun t cs' j m' _ hj hm=>absurd (ah hm) (by omega)) fun q hq=>⟨bp ((k3.sepd q hq).1 i mi q1),fun j m' hj hm=>absurd (ah hm) (by omega)⟩).heap hheap
    ·show lo≤(Go.ChangeMaps.setBlock w1 mi.blk B).heap.size
     rw [hheap];simpa [ct] using k6
 ·cases hev
theorem y6 (hc:CallOK E call) (hg:GidOK E) {f:Operand} {ps:Array Tmp} {ax bx:Code} {f':Opd} {g:Nat} {caps:List Nat} {aa ab:ACode} {ha hb:Hint} (hf:g8 E f=some f') (hca:cj E nt true ha ax=some aa) (hcb:cj E nt true hb bx=some ab) (hps:(ps.all fun t=>decide (t < nt))=true)
  (hrnd:E.rnd g=some ⟨ps.toList,aa,ab⟩) {s:Slots} {h:Heap} {a:Act} {w:World} (hat:At E lo nt μ0 w0 ds s h a w) {fv:AVal} {sl:List (Nat × AVal)} (hfv:f'.ev s=some fv) (hsl:capsOf s caps=some sl) {x:AVal} {h':Heap}
  (hcall:callVal call fv [.yield h.size] (h.push (.loop g .ready none sl))=some (x,h')) {e:AExit} {st':St} (hend:loopEnd s h' h.size=some (e,st')) (hev:Evol (h.push (.loop g .ready none sl)) h') {Q:Exit→Act→World→Prop}
  (hn:∀ a' w',At E lo nt μ0 w0 ds st'.s st'.h a' w'→Q e.toX a' w'):(Code.rangeFunc f ps ax bx).wpIn (F0 none) 0 E.P Q a w:=by
 obtain ⟨μ,ν,k1,k2,k3,k4,k5,k6⟩:=hat;unfold callVal at hcall;split at hcall;case h_2=>cases hcall
 rename_i gf first cp
 have hfr:=ce k3 hf hfv;simp only [VRel] at hfr;obtain ⟨fid,f1,c1,e1,e2,e3,e4⟩:=hfr;have hlen:h.size=μ.length:=k2.len.symm;refine wpIn_rangeFunc fun fn _=>?_
 let rec0:Loop:={ state:=.ready,pending:=none,fn:=fn,tmps:=a.tmps,params:=ps,assign:=ax,body:=bx,defers:=w.heap.size }
 let w1:World:=w.alloc (.deferred (some []))
 let w2:World:=w1.alloc (.loop rec0)
 let m:M:=⟨w.heap.size+1,0,0,0⟩
 let μ1:MM:=μ++[some m]
 have hw1:w1.heap.size=w.heap.size+1:=by simp [w1]
 have hw2:w2.heap.size=w.heap.size+2:=by simp [w2,w1]
 have hargs:VRels E μ1 (first++[.yield h.size]++cp) (f1 ++ #[Value.func (.yield (w.heap.size+1)) #[] #[]]++c1).toList:=by
  have hy:VRel E μ1 (.yield h.size) (.func (.yield (w.heap.size+1)) #[] #[]):=by simp only [VRel];exact ⟨w.heap.size+1,some m,rfl,by rw [hlen]; simp [μ1],fun m' hm'=>by cases hm'; rfl⟩
  have:=((e3.later (ij μ (some m))).append (show VRels E μ1 [.yield h.size] [_] from by simp only [VRels]; exact ⟨_,[],rfl,hy,rfl⟩)).append (e4.later (ij μ (some m)));simpa using this
 have hl1:Later μ μ1:=ij μ _
 have hr1:Rel E μ h w1:=k2.keep (by omega) (fun i m' hm'=>by
  have:=k2.lt i m' hm';show (w.heap.push _)[m'.blk]? = _;rw [di,if_neg (by omega)]) fun k _ hk=>by
  show (w.heap.push _)[k]? = _
  rw [di,if_neg (by omega)]
 have hr2:Rel E μ1 (h.push (.loop g .ready none sl)) w2:=by
  refine hr1.push _ (.loop rec0) m (by simp [m,hw1]) ⟨m,rec0,by simp,by show (w1.heap.push _)[w.heap.size+1]? = _; rw [di,if_pos (by omega)],⟨⟨⟨ps.toList,aa,ab⟩,ha,hb,hrnd,rfl,fun t ht=>?_,by rw [show rec0.tmps.size=nt from k4]; exact hca,by rw [show rec0.tmps.size=nt from k4]; exact hcb⟩,rfl,rfl,fun k x hk=>?_⟩⟩
  ·rw [Array.all_eq_true_iff_forall_mem] at hps;have:=hps t (by simpa using ht);rw [show rec0.tmps.size=nt from k4];simpa using this
  ·obtain ⟨v',h1,h2⟩:=zx k3 hsl k x hk;exact ⟨v',h1,h2.later hl1⟩
 let ν1:Fr:=⟨ν.v,w.heap.size :: ν.ds⟩
 have hblk12:∀ b,b < w.heap.size→w2.heap[b]? = w.heap[b]?:=fun b hb=>by
  show ((w.heap.push _).push _)[b]? = _
  rw [di,if_neg (by simp; omega),di,if_neg (by omega)]
 have hnewm:∀ (i:Nat) (m':M),μ1[i]? = some (some m')→m'.blk < w.heap.size∨m'.blk=w.heap.size+1:=fun i m' hm'=>by
  rcases jd hm' with q | ⟨_,q⟩
  ·exact .inl (k2.lt i m' q)
  ·cases q; exact .inr rfl
 have hold:∀ (i:Nat) (m':M),μ1[i]? = some (some m')→m'.blk < w.heap.size→μ[i]? = some (some m'):=fun i m' hm' hlt=>by
  rcases jd hm' with q | ⟨_,q⟩
  ·exact q
  ·cases q;have hlt':w.heap.size+1 < w.heap.size:=hlt;omega
 have hf2:FRel E lo ν1 μ1 (sget s) a.tmps w2:=by
  refine ⟨fun t v hv=>?_,k3.undef,fun t cs hv=>?_,k3.loc,k3.sepv,fun t cs i m' hv hm'=>?_,fun r hr=>?_,fun r hr=>⟨fun i m' hm'=>?_,fun t cs hv=>?_⟩,?_⟩
  ·obtain ⟨v',h1,h2⟩:=k3.val t v hv;exact ⟨v',h1,h2.later hl1⟩
  ·obtain ⟨h1,h2,c,e,fr,h3,h4,h5,h6⟩:=k3.var t cs hv;exact ⟨h1,h2,c,e,fr,(hblk12 _ (k3.lt hv)).trans h3,h4,h5.later hl1,h6⟩
  ·have:=k3.lt hv;rcases hnewm i m' hm' with q | q
   ·exact k3.sepm t cs i m' hv (hold i m' hm' q)
   ·intro e;have e':m'.blk=ν t:=e;omega
  ·rcases dy.1 hr with rfl | hr
   ·refine ⟨k6,?_⟩;show ((w.heap.push _).push _)[w.heap.size]? = _;rw [di,if_neg (by simp),di,if_pos rfl]
   ·obtain ⟨h1,h2⟩:=k3.ds r hr;exact ⟨h1,(hblk12 r (k3.lt_ds hr)).trans h2⟩
  ·rcases dy.1 hr with rfl | hr
   ·rcases hnewm i m' hm' with q | q <;> omega
   ·have:=k3.lt_ds hr;rcases hnewm i m' hm' with q | q
    ·exact (k3.sepd r hr).1 i m' (hold i m' hm' q)
    ·omega
  ·rcases dy.1 hr with rfl | hr
   ·have:=k3.lt hv;intro e;have e':ν t=w.heap.size:=e;omega
   ·exact (k3.sepd r hr).2 t cs hv
  ·exact ⟨ux.2 ⟨fun h=>by have:=k3.lt_ds h; omega,k3.nodup.1⟩,k3.nodup.2⟩
 have hs2:Step (fun k=>lo≤k) h.wmin μ0 w0 μ1 w2:=(k1.trans (Step.alloc _) (aj _)).trans (Step.push (X:=fun k=>lo≤k) h.wmin μ w1 (.loop rec0) m (by simp [m,hw1])) (aj _);refine ⟨w.heap.size+1,[markOf w.heap.size],w2,{ target:=.fn (.func fid) c1,args:=f1 ++ #[Value.func (.yield (w.heap.size+1)) #[] #[]] },w2,fid,f1 ++ #[Value.func (.yield (w.heap.size+1)) #[] #[]]++c1,w2,run_enterLoop_outer fn a.tmps ps ax bx,?_,fun _ _=>trivial,?_,fun hh=>by simp [F0,Fence.wide] at hh,?_⟩
 ·simp only [resolve];rw [e1];simp [Deferred.ofValue,Act.eval]
 ·have:=jo hg e2 (f1 ++ #[Value.func (.yield (w.heap.size+1)) #[] #[]]++c1) w2;simpa [invoke] using this
 ·refine CallsIn.mono (F:=F0 none) (n:=0) (hc.fn gf _ _ x h' hcall fid e2 μ1 w2 _ hargs hr2) ?_;rintro ending w3 ⟨v',μ3,rfl,j1,j2,j3⟩;unfold loopEnd at hend;split at hend;case h_2=>cases hend
  rename_i g2 st p sl2 hgi;split at hend
  ·cases hend
  rename_i hbusy;cases hend;obtain ⟨m3,r3,q1,q2,q3⟩:=j3.obj _ _ hgi;have hi1:h.size < μ1.length:=by rw [hlen]; simp [μ1]
  have hm3:m3=m:=by
   rcases j1.old h.size hi1 with q | ⟨_,q⟩
   ·rw [q] at q1;have:μ1[h.size]? = some (some m):=by rw [hlen]; simp [μ1]
    rw [this] at q1;cases q1; rfl
   ·rw [q] at q1; cases q1
  subst hm3
  have hst3:r3.state ≠ .busy:=by
   have:=q3.st;cases st <;> simp only [LoopSt.is] at this <;> rw [this]
   ·simp
   ·exact absurd rfl hbusy
   ·simp
  let w4:World:=w3.putObj (w.heap.size+1) (.loop { r3 with state:=.exhausted })
  have hf3:FRel E lo ν1 μ3 (sget s) a.tmps w3:=hf2.step j1 fun _ _ h=>h
  have hwle:h'.wmin≤h.wmin:=hev.wmin
  have hat4:At E lo nt μ0 w0 ds s (h'.put h.size .dead) { a with defers:=[markOf w.heap.size]++a.defers } w4:=by
   have hput:w4=ct w3 m.blk (.loop { r3 with state:=.exhausted }):=rfl;refine ⟨μ3.set h.size none,ν1,?_,?_,?_,k4,?_,?_⟩
   ·have hA:=hs2.trans (j1.weaken (Y:=fun k=>lo≤k) (aj _) fun b h _=>h.elim) hwle;have hB:Step (fun k=>lo≤k) (h'.put h.size .dead).wmin μ3 w3 μ3 w4:=by rw [hput]; exact Step.put q1 (fz _ _) _
    have hC:Step (fun k=>lo≤k) (h'.put h.size .dead).wmin μ3 w4 (μ3.set h.size none) w4:=Step.kill μ3 w4 (fz _ _);exact (hA.trans hB (cz _ _)).trans hC (aj _)
   ·have hkill:=j3.kill h.size;refine hkill.keep (by simp [w4]) (fun j m' hm'=>?_) fun k hk _=>by rw [hput]; exact bp (by have:=k2.tab.1; simp [m]; omega)
    rw [hput];refine bp ?_;rw [nw] at hm';split at hm'
    ·split at hm' <;> cases hm'
    ·rename_i hne;refine j3.sep h.size j m m' hne ?_ q1 hm';have h1:=j3.bs;rw [hev.base];have:=k2.bs;show h.base≤h.objs.length;exact this
   ·refine hf3.keep (ni μ3 h.size) (fun t cs hv=>by rw [hput]; exact bp (hf3.sepm t cs h.size m hv q1)) (fun t cs j m' hv hj hm'=>absurd (ah hm') (by simp; omega)) fun r hr=>⟨by rw [hput]; exact bp ((hf3.sepd r hr).1 h.size m q1),fun j m' hj hm'=>absurd (ah hm') (by simp; omega)⟩
   ·show [markOf w.heap.size]++a.defers=_
    rw [k5]; rfl
   ·have:=j1.size;simp only [w4,World.putObj_size]; omega
  refine ⟨r3.pending,w4,run_endLoop q2 hst3,?_⟩;rw [q3.pend];cases p with
  | none=>exact hn _ _ hat4
  | some e0 =>
   cases e0 with
   | normal=>exact wpIn_skip (hn _ _ hat4)
   | exit id=>exact wpIn_exit (hn _ _ hat4)
   | ret=>exact wpIn_ret (hn _ _ hat4)
theorem l7 {inR:Bool} {c:Code} {ac:ACode} (h:cj E nt inR .next c=some ac):∃ d y r,ac = .seq (.next d y) r:=by
 cases c <;> simp only [cj] at h <;> (try cases h)
 split at h
 ·split at h
  ·split at h
   ·cases h;exact ⟨_,_,_,rfl⟩
   ·cases h
  ·cases h
 ·cases h
theorem pj (hc:CallOK E call) (hev0:CallEvol call) (hg:GidOK E) (hm:E.P.follows .mixedOrders=true) (inR:Bool) (hro:inR=false→ro=none) (n:Nat) :
  ∀ (hint:Hint) (c:Code) (ac:ACode),cj E nt inR hint c=some ac→(inR=false→∀ p ∈ ac.rounds,E.rnd p.1=some p.2)→∀ (st:St) (e:AExit) (st':St),dm call n ac st=some (e,st')→∀ (a:Act) (w:World) (Q:Exit→Act→World→Prop),At E lo nt μ0 w0 ds st.s st.h a w →
   (∀ a' w',At E lo nt μ0 w0 ds st'.s st'.h a' w'→Q e.toX a' w')→c.wpIn (F0 ro) 0 E.P Q a w:=by
 intro hint;induction hint with
 | stuck =>
  intro c ac hcc hrd st e st' hev a w Q hat hn;simp only [cj] at hcc;cases hcc;simp [dm,Opd.ev] at hev
 | leaf =>
  intro c ac hcc hrd st e st' hev a w Q hat hn;cases c <;> simp only [cj] at hcc <;> (try cases hcc)
  ·simp only [dm] at hev; cases hev;exact wpIn_skip (hn _ _ hat)
  ·simp only [dm] at hev; cases hev;exact wpIn_exit (hn _ _ hat)
  ·simp only [dm] at hev; cases hev;exact wpIn_ret (hn _ _ hat)
 | reg segs locs =>
  intro c ac hcc hrd st e st' hev a w Q hat hn;cases c <;> simp only [cj] at hcc <;> (try cases hcc)
  rw [ae] at hcc;obtain ⟨gs,hgs,rfl⟩:=hcc;simp only [dm] at hev;rw [ae] at hev;obtain ⟨⟨s1,h1⟩,hev,he⟩:=hev;cases he;exact region_sound hc hev0 hg hm hgs hev hat hn
 | seq x y ihx ihy =>
  intro c ac hcc hrd st e st' hev a w Q hat hn;cases c <;> simp only [cj] at hcc <;> (try cases hcc)
  split at hcc;case h_2=>cases hcc
  rename_i ax ay hx hy;cases hcc;simp only [dm] at hev;apply wpIn_seq;split at hev
  ·rename_i st1 h1;exact ihx _ _ hx (fun hi p hp=>hrd hi p (by simp [ACode.rounds,hp])) _ _ _ h1 a w _ hat fun a' w' hat'=>ihy _ _ hy (fun hi p hp=>hrd hi p (by simp [ACode.rounds,hp])) _ _ _ hev a' w' Q hat' hn
  ·rename_i hne;refine ihx _ _ hx (fun hi p hp=>hrd hi p (by simp [ACode.rounds,hp])) _ _ _ hev a w _ hat fun a' w' hat'=>?_
   cases e with
   | normal=>exact absurd hev (hne _)
   | exit id=>exact hn _ _ hat'
   | ret=>exact hn _ _ hat'
 | cond x y ihx ihy =>
  intro c ac hcc hrd st e st' hev a w Q hat hn;cases c <;> simp only [cj] at hcc <;> (try cases hcc)
  split at hcc;case h_2=>cases hcc
  rename_i c' ax ay hcop hx hy;cases hcc;simp only [dm] at hev;have hat0:=hat;obtain ⟨μ,ν,_,_,k3,_⟩:=hat;split at hev
  ·rename_i hb;have:=ce k3 hcop hb;simp only [VRel] at this;exact wpIn_cond_true this (ihx _ _ hx (fun hi p hp=>hrd hi p (by simp [ACode.rounds,hp])) _ _ _ hev a w Q hat0 hn)
  ·rename_i hb;have:=ce k3 hcop hb;simp only [VRel] at this;exact wpIn_cond_false this (ihy _ _ hy (fun hi p hp=>hrd hi p (by simp [ACode.rounds,hp])) _ _ _ hev a w Q hat0 hn)
  ·cases hev
 | block x ih =>
  intro c ac hcc hrd st e st' hev a w Q hat hn;cases c <;> simp only [cj] at hcc <;> (try cases hcc)
  rw [ae] at hcc;obtain ⟨ax,hx,rfl⟩:=hcc;simp only [dm] at hev;apply wpIn_block;split at hev
  ·rename_i j st1 h1;refine ih _ _ hx hrd _ _ _ h1 a w _ hat fun a' w' hat'=>?_
   simp only [AExit.toX,Exit.inBlock];split at hev
   ·rename_i hj;cases hev;rw [if_pos hj];exact hn _ _ hat'
   ·rename_i hj;cases hev;rw [if_neg hj];exact hn _ _ hat'
  ·rename_i hne;refine ih _ _ hx hrd _ _ _ hev a w _ hat fun a' w' hat'=>?_
   cases e with
   | normal=>exact hn _ _ hat'
   | exit id=>exact absurd hev (hne _ _)
   | ret=>exact hn _ _ hat'
 | loop x ih =>
  intro c ac hcc hrd st e st' hev a w Q hat hn;cases c <;> simp only [cj] at hcc <;> (try cases hcc)
  rename_i y;rw [ae] at hcc;obtain ⟨ax,hx,rfl⟩:=hcc;simp only [dm] at hev
  have key:∀ (m:Nat) (st:St) (a:Act) (w:World),loopN (dm call n ax) m st=some (e,st')→At E lo nt μ0 w0 ds st.s st.h a w→Code.roundsIn (F0 ro) 0 E.P y Q m a w:=by
   intro m;induction m with
   | zero=>intro st a w h1; simp [loopN] at h1
   | succ m ihm =>
    intro st a w h1 hat1;rw [roundsIn_succ];simp only [loopN] at h1;split at h1
    ·rename_i st1 h2;exact ih _ _ hx hrd _ _ _ h2 a w _ hat1 fun a' w' hat'=>ihm st1 a' w' h1 hat'
    ·rename_i hne;refine ih _ _ hx hrd _ _ _ h1 a w _ hat1 fun a' w' hat'=>?_
     cases e with
     | normal=>exact absurd h1 (hne _)
     | exit id=>exact hn _ _ hat'
     | ret=>exact hn _ _ hat'
  exact wpIn_loop_rounds n (key n st a w hev hat)
 | next =>
  intro c ac hcc hrd st e st' hev a w Q hat hn;obtain ⟨d,y,r,rfl⟩:=l7 hcc;simp [dm] at hev
 | live l x ih =>
  intro c ac hcc hrd st e st' hev a w Q hat hn;simp only [cj] at hcc;rw [ae] at hcc;obtain ⟨ax,hx,rfl⟩:=hcc;simp only [dm] at hev;exact ih _ _ hx hrd _ _ _ hev a w Q (hat.keep l) hn
 | after x l ih =>
  intro c ac hcc hrd st e st' hev a w Q hat hn;simp only [cj] at hcc;rw [ae] at hcc;obtain ⟨ax,hx,rfl⟩:=hcc;simp only [dm] at hev;split at hev
  ·rename_i st1 h1;cases hev;exact ih _ _ hx hrd _ _ _ h1 a w Q hat fun a' w' hat'=>hn _ _ (hat'.keep l)
  ·exact ih _ _ hx hrd _ _ _ hev a w Q hat hn
 | rangeFunc g caps ha hb _ _ =>
  intro c ac hcc hrd st e st' hev a w Q hat hn;cases c <;> simp only [cj] at hcc <;> (try cases hcc)
  split at hcc;case h_2=>cases hcc
  rename_i f' aa ab hf hca hcb;split at hcc;case isFalse=>cases hcc
  rename_i hh;obtain ⟨hin,hps⟩:=hh;cases hcc;have hro':=hro hin;subst hro';have hrnd:=hrd hin _ (eo _);simp only [dm] at hev;split at hev;case h_2=>cases hev
  rename_i fv sl hfv hsl;split at hev;case h_2=>cases hev
  rename_i x h' hcall
  have hevl:Evol (st.h.push (.loop g .ready none sl)) h':=by
   unfold callVal at hcall;split at hcall
   ·exact hev0 _ _ _ _ _ hcall
   ·cases hcall
  exact y6 hc hg hf hca hcb hps hrnd hat hfv hsl hcall hev hevl hn
theorem tt {α β:Type} {f:α→Option (List β)}:∀ {l:List α} {ys:List β},flatL f l=some ys→∀ x ∈ l,∃ zs,f x=some zs∧∀ z ∈ zs,z ∈ ys
 | [],ys,h,x,hx=>by cases hx
 | y :: l,ys,h,x,hx=>by
  simp only [flatL] at h;split at h;case h_2=>cases h
  rename_i a b h1 h2;cases h;rcases dy.1 hx with rfl | hx
  ·exact ⟨a,h1,fun z hz=>e9 _ hz⟩
  ·obtain ⟨zs,k1,k2⟩:=tt h2 x hx;exact ⟨zs,k1,fun z hz=>gc _ (k2 z hz)⟩
theorem zy (hc:CallOK E call) (hev0:CallEvol call) (hg:GidOK E) (hm:E.P.follows .mixedOrders=true) (inR:Bool) (hro:inR=false→ro=none) (n:Nat) :
  ∀ (hint:Hint) (c:Code) (ac:ACode),cj E nt inR hint c=some ac→(inR=false→∀ p ∈ ac.rounds,E.rnd p.1=some p.2)→∀ (st:St) (l:List (AExit × St)),fm call n ac st=some l→∀ (a:Act) (w:World) (Q:Exit→Act→World→Prop),At E lo nt μ0 w0 ds st.s st.h a w →
   (∀ y ∈ l,∀ a' w',At E lo nt μ0 w0 ds y.2.s y.2.h a' w'→Q y.1.toX a' w')→c.wpIn (F0 ro) 0 E.P Q a w:=by
 have base:∀ (hint:Hint) (c:Code) (ac:ACode),cj E nt inR hint c=some ac→(inR=false→∀ p ∈ ac.rounds,E.rnd p.1=some p.2)→∀ (st:St) (l:List (AExit × St)),(dm call n ac st).map (fun x=>[x])=some l→∀ (a:Act) (w:World) (Q:Exit→Act→World→Prop),At E lo nt μ0 w0 ds st.s st.h a w →
   (∀ y ∈ l,∀ a' w',At E lo nt μ0 w0 ds y.2.s y.2.h a' w'→Q y.1.toX a' w')→c.wpIn (F0 ro) 0 E.P Q a w:=by
  intro hint c ac hcc hrd st l hev a w Q hat hn;rw [ae] at hev;obtain ⟨x,hev,rfl⟩:=hev;exact pj hc hev0 hg hm inR hro n hint c ac hcc hrd st x.1 x.2 hev a w Q hat (hn x (eo _))
 intro hint;induction hint with
 | stuck =>
  intro c ac hcc hrd st l hev a w Q hat hn;simp only [cj] at hcc;cases hcc;simp [fm,Opd.ev] at hev
 | leaf =>
  intro c ac hcc hrd st l hev a w Q hat hn;refine base .leaf c ac hcc hrd st l ?_ a w Q hat hn;cases c <;> simp only [cj] at hcc <;> (try cases hcc) <;> exact hev
 | reg segs locs =>
  intro c ac hcc hrd st l hev a w Q hat hn;refine base (.reg segs locs) c ac hcc hrd st l ?_ a w Q hat hn;cases c <;> simp only [cj] at hcc <;> (try cases hcc)
  rw [ae] at hcc;obtain ⟨gs,_,rfl⟩:=hcc;exact hev
 | rangeFunc g caps ha hb _ _ =>
  intro c ac hcc hrd st l hev a w Q hat hn;refine base (.rangeFunc g caps ha hb) c ac hcc hrd st l ?_ a w Q hat hn;cases c <;> simp only [cj] at hcc <;> (try cases hcc)
  split at hcc;case h_2=>cases hcc
  split at hcc;case isFalse=>cases hcc
  cases hcc;exact hev
 | next =>
  intro c ac hcc hrd st l hev a w Q hat hn;cases c <;> simp only [cj] at hcc <;> (try cases hcc)
  rename_i id ops draw;split at hcc;case h_2=>cases hcc
  rename_i dst it ty pos aft rest hops;split at hcc;case isFalse=>cases hcc
  rename_i hd;split at hcc;case h_2=>cases hcc
  rename_i x aZ hx has;cases hcc;simp only [fm] at hev;split at hev;case h_2=>cases hev
  rename_i l1 h1;apply wpIn_region
  have hsz:ops.size=rest.length+1:=by have:=congrArg List.length hops;simpa using this
  have h0:ops[0]? = some ⟨dst,.next it false,ty,pos,aft,none⟩:=by have:=congrArg (fun l=>l[0]?) hops;simpa using this
  have hdr:ops.toList.drop 1=rest:=by rw [hops]; rfl
  rw [hsz,List.range_eq_range',List.range'_succ];simp only [wpOpsIn,h0,Region.wanted,if_true]
  refine next_sound (o:=⟨dst,.next it false,ty,pos,aft,none⟩) hx rfl (fun t ht=>by have ht':dst=some t:=ht;rw [ht'] at hd;simpa using hd) h1 hat fun y hy hy1 a' w' hat'=>?_
  obtain ⟨zs,k1,k2⟩:=tt hev y hy;obtain ⟨e,st1⟩:=y;simp only at hy1;subst hy1;simp only [dm,ae] at k1;obtain ⟨z,⟨⟨s2,h2⟩,k3,rfl⟩,rfl⟩:=k1
  have k4:evOps call aZ st1.s st1.h=some (s2,h2):=by
   simp only [jq] at k3;split at k3
   ·rename_i s' h' e1;cases k3;simpa using e1
   ·cases k3
  exact wx hc hev0 hg rest 1 aZ _ _ _ _ _ _ hdr has k4 hat' fun a2 w2 hat2=>hn _ (k2 _ (eo _)) _ _ hat2
 | seq x y ihx ihy =>
  intro c ac hcc hrd st l hev a w Q hat hn;cases c <;> simp only [cj] at hcc <;> (try cases hcc)
  split at hcc;case h_2=>cases hcc
  rename_i ax ay hx hy;cases hcc;simp only [fm] at hev;apply wpIn_seq;split at hev;case h_2=>cases hev
  rename_i l1 h1;refine ihx _ _ hx (fun hi p hp=>hrd hi p (by simp [ACode.rounds,hp])) _ _ h1 a w _ hat fun z hz a' w' hat'=>?_
  obtain ⟨zs,k1,k2⟩:=tt hev z hz;obtain ⟨e,st1⟩:=z;cases e with
  | normal=>exact ihy _ _ hy (fun hi p hp=>hrd hi p (by simp [ACode.rounds,hp])) _ _ k1 a' w' Q hat' fun q hq=>hn q (k2 q hq)
  | exit id=>cases k1; exact hn _ (k2 _ (eo _)) _ _ hat'
  | ret=>cases k1; exact hn _ (k2 _ (eo _)) _ _ hat'
 | cond x y ihx ihy =>
  intro c ac hcc hrd st l hev a w Q hat hn;cases c <;> simp only [cj] at hcc <;> (try cases hcc)
  split at hcc;case h_2=>cases hcc
  rename_i c' ax ay hcop hx hy;cases hcc;simp only [fm] at hev;have hat0:=hat;obtain ⟨μ,ν,_,_,k3,_⟩:=hat;split at hev
  ·rename_i hb;have:=ce k3 hcop hb;simp only [VRel] at this;exact wpIn_cond_true this (ihx _ _ hx (fun hi p hp=>hrd hi p (by simp [ACode.rounds,hp])) _ _ hev a w Q hat0 hn)
  ·rename_i hb;have:=ce k3 hcop hb;simp only [VRel] at this;exact wpIn_cond_false this (ihy _ _ hy (fun hi p hp=>hrd hi p (by simp [ACode.rounds,hp])) _ _ hev a w Q hat0 hn)
  ·cases hev
 | block x ih =>
  intro c ac hcc hrd st l hev a w Q hat hn;cases c <;> simp only [cj] at hcc <;> (try cases hcc)
  rename_i id y;rw [ae] at hcc;obtain ⟨ax,hx,rfl⟩:=hcc;simp only [fm] at hev;apply wpIn_block;rw [ae] at hev;obtain ⟨l1,h1,rfl⟩:=hev;refine ih _ _ hx hrd _ _ h1 a w _ hat fun z hz a' w' hat'=>?_
  have hmem:=ml (f:=fun x:AExit × St=>match x.1 with
   | .exit j=>if j=id then (AExit.normal,x.2) else (AExit.exit j,x.2)
   | e=>(e,x.2)) hz
  obtain ⟨e,st1⟩:=z;cases e with
  | normal=>exact hn _ hmem _ _ hat'
  | ret=>exact hn _ hmem _ _ hat'
  | exit j =>
   simp only [AExit.toX,Exit.inBlock];simp only at hmem;split
   ·rename_i hj;rw [if_pos hj] at hmem;exact hn _ hmem _ _ hat'
   ·rename_i hj;rw [if_neg hj] at hmem;exact hn _ hmem _ _ hat'
 | loop x ih =>
  intro c ac hcc hrd st l hev a w Q hat hn;cases c <;> simp only [cj] at hcc <;> (try cases hcc)
  rename_i y;rw [ae] at hcc;obtain ⟨ax,hx,rfl⟩:=hcc;simp only [fm] at hev
  have key:∀ (m:Nat) (st:St) (l:List (AExit × St)) (a:Act) (w:World),loopO (fm call n ax) m st=some l→At E lo nt μ0 w0 ds st.s st.h a w→(∀ y ∈ l,∀ a' w',At E lo nt μ0 w0 ds y.2.s y.2.h a' w'→Q y.1.toX a' w')→Code.roundsIn (F0 ro) 0 E.P y Q m a w:=by
   intro m;induction m with
   | zero=>intro st l a w h1; simp [loopO] at h1
   | succ m ihm =>
    intro st l a w h1 hat1 hn1;rw [roundsIn_succ];simp only [loopO] at h1;split at h1;case h_2=>cases h1
    rename_i l1 h2;refine ih _ _ hx hrd _ _ h2 a w _ hat1 fun z hz a' w' hat'=>?_
    obtain ⟨zs,k1,k2⟩:=tt h1 z hz;obtain ⟨e,st1⟩:=z;cases e with
    | normal=>exact ihm st1 zs a' w' k1 hat' fun q hq=>hn1 q (k2 q hq)
    | exit id=>cases k1; exact hn1 _ (k2 _ (eo _)) _ _ hat'
    | ret=>cases k1; exact hn1 _ (k2 _ (eo _)) _ _ hat'
  exact wpIn_loop_rounds n (key n st l a w hev hat hn)
 | live l x ih =>
  intro c ac hcc hrd st ys hev a w Q hat hn;simp only [cj] at hcc;rw [ae] at hcc;obtain ⟨ax,hx,rfl⟩:=hcc;simp only [fm] at hev;exact ih _ _ hx hrd _ _ hev a w Q (hat.keep l) hn
 | after x l ih =>
  intro c ac hcc hrd st ys hev a w Q hat hn;simp only [cj] at hcc;rw [ae] at hcc;obtain ⟨ax,hx,rfl⟩:=hcc;simp only [fm] at hev;rw [ae] at hev;obtain ⟨l1,h1,rfl⟩:=hev;refine ih _ _ hx hrd _ _ h1 a w Q hat fun z hz a' w' hat'=>?_
  have hmem:=ml (f:=fun x:AExit × St=>match x.1 with
   | .normal=>(AExit.normal,(⟨Abs.keep l x.2.s,x.2.h⟩:St))
   | e=>(e,x.2)) hz
  obtain ⟨e,st1⟩:=z;cases e with
  | normal=>exact hn _ hmem _ _ (hat'.keep l)
  | exit id=>exact hn _ hmem _ _ hat'
  | ret=>exact hn _ hmem _ _ hat'
def resOne (tmps:Array Value):ResultVar→Sem Value
 | .tmp t=>pure (tmps.getD t Go.undef)
 | .cell x t=>do loadVar t (← asAddr (tmps.getD x Go.undef))
theorem res_rel {ν:Fr} {μ:MM} {s:Slots} {h:Heap} {a:Act} {w:World} (hf:FRel E lo ν μ (sget s) a.tmps w) (hr:Rel E μ h w):∀ {rs:List ResultVar} {aZ:List ARes} {vs:List AVal},cRess E.P rs=some aZ→resultsL s h aZ=some vs →
  ∃ l,(rs.mapM (resOne a.tmps)).run E.P w = .ok l w∧VRels E μ vs l
 | [],aZ,vs,hc,he=>by simp only [cRess] at hc; cases hc;simp only [resultsL] at he; cases he;exact ⟨[],rfl,by simp [VRels]⟩
 | r :: rs,aZ,vs,hc,he=>by
  simp only [cRess] at hc;split at hc;case h_2=>cases hc
  rename_i a' aZ' h1 h2;cases hc;simp only [resultsL] at he;split at he;case h_2=>cases he
  rename_i v vs' h3 h4;cases he;obtain ⟨l,k1,k2⟩:=res_rel hf hr h2 h4
  have hone:∃ u,(resOne a.tmps r).run E.P w = .ok u w∧VRel E μ v u:=by
   cases r with
   | tmp t =>
    simp only [cRes] at h1; cases h1;simp only [result1] at h3;split at h3
    ·rename_i v' hs;cases h3;obtain ⟨u,hu,hrel⟩:=hf.val t _ hs;refine ⟨u,?_,hrel⟩;simp [resOne,hu]
    ·cases h3
   | cell x t =>
    simp only [cRes] at h1;rw [ae] at h1;obtain ⟨n,hn,rfl⟩:=h1;simp only [result1] at h3;split at h3;case h_2=>cases h3
    rename_i ad had;unfold loadAt at h3;split at h3;case h_2=>cases h3
    rename_i cs o hcs;have hco:g8 E (.tmp x)=some (.tmp x):=rfl;obtain ⟨b,p,c,e,fr,j1,j2,j3,j4⟩:=yj hf hr hco had hcs;obtain ⟨u,j5,j6⟩:=load_rel (P:=E.P) hn j2 j3 j4 h3;refine ⟨u,?_,j6⟩;have j1':a.tmps.getD x Go.undef = .pointer (some ⟨b,p+o,none⟩):=j1;simp only [resOne,j1',asAddr,Sem.run_bind,Sem.run_pure,Result.andThen_ok,j5]
  obtain ⟨u,k3,k4⟩:=hone;refine ⟨u :: l,?_,?_⟩
  ·rw [List.mapM_cons,Sem.run_bind,k3,Result.andThen_ok,Sem.run_bind,k1,Result.andThen_ok];rfl
  ·simp only [VRels]; exact ⟨u,l,rfl,k4,k2⟩
theorem results_rel {ν:Fr} {μ:MM} {s:Slots} {h:Heap} {a:Act} {w:World} (hf:FRel E lo ν μ (sget s) a.tmps w) (hr:Rel E μ h w) {fn:Func} {aZ:List ARes} {vs:List AVal} (hc:cRess E.P fn.results.toList=some aZ) (he:resultsL s h aZ=some vs) :
  ∃ v,(results fn a.tmps).run E.P w = .ok v w∧VRel E μ (tupled vs) v:=by
 obtain ⟨l,k1,k2⟩:=res_rel hf hr hc he;have hl:=k2.length
 have hrun:(results fn a.tmps).run E.P w = .ok (if h:l.toArray.size=1 then l.toArray[0] else .tuple l.toArray) w:=by
  have e:results fn a.tmps=(do
    let vs ← fn.results.mapM (resOne a.tmps)
    pure (if h:vs.size=1 then vs[0] else .tuple vs)):=by
   unfold results;rfl
  rw [e,Array.mapM_eq_mapM_toList,Sem.run_bind,Sem.run_map,k1];rfl
 refine ⟨_,hrun,?_⟩;clear he k1 hrun;match vs,l,hl,k2 with
 | [],[],_,_=>simp [tupled,VRel,VRels]
 | [v],[u],_,k2 =>
  simp only [VRels] at k2;obtain ⟨u',r',e,h1,h2⟩:=k2;cases e;simpa [tupled] using h1
 | v :: v2 :: vs,u :: u2 :: l,_,k2 =>
  have:¬ ((u :: u2 :: l).toArray.size=1):=by simp
  rw [dif_neg this];simp only [tupled,VRel];exact ⟨_,rfl,k2⟩
end
section
theorem rf (h:Heap) (n0:Nat):∀ (f:Nat) (todo acc:List Nat),acc.Nodup→(∀ i ∈ acc,n0≤i)→(reach h n0 f todo acc).Nodup∧∀ i ∈ reach h n0 f todo acc,n0≤i
 | 0,todo,acc,h1,h2=>by simp only [reach]; exact ⟨h1,h2⟩
 | f+1,[],acc,h1,h2=>by simp only [reach]; exact ⟨h1,h2⟩
 | f+1,i :: r,acc,h1,h2=>by
  simp only [reach];split
  ·exact rf h n0 f r acc h1 h2
  ·split
   ·exact rf h n0 f r acc h1 h2
   ·rename_i hi hc;refine rf h n0 f _ _ ?_ fun j hj=>?_
    ·rw [List.nodup_append];refine ⟨h1,by simp,fun a ha b hb=>?_⟩;simp at hb; subst hb;intro e; subst e;simp at hc; exact hc ha
    ·rcases bw.1 hj with hj | hj
     ·exact h2 j hj
     ·simp at hj; omega
theorem idxIn_get:∀ {i:Nat} {l:List Nat},i ∈ l→l[idxIn i l]? = some i
 | i,[],h=>by cases h
 | i,j :: r,h=>by
  simp only [idxIn];split
  ·rename_i e; subst e; rfl
  ·rename_i hne
   have:i ∈ r:=by
    rcases dy.1 h with e | e
    ·exact absurd e.symm hne
    ·exact e
   simpa using idxIn_get this
end
end Go.Abs

namespace Go.Abs
section
variable {E:Env}
theorem LoopRel.ren {μ μ':MM} {g:Nat} {st:LoopSt} {p:Option AExit} {sl:List (Nat × AVal)} {r:Loop} (h:LoopRel E μ g st p sl r) (F:Nat→Nat) (hm:∀ j ∈ AObj.ids (.loop g st p sl),j < μ.length→μ'[F j]? = μ[j]?) :
  LoopRel E μ' g st p (sl.map fun x=>(x.1,x.2.ren F)) r:=by
 refine ⟨h.code,h.st,h.pend,fun k x hk=>?_⟩;rw [bk,ae] at hk;obtain ⟨y,hy,rfl⟩:=hk;obtain ⟨v',h1,h2⟩:=h.slots k y hy;refine ⟨v',h1,pz F (fun i hi hl=>hm i ?_ hl) h2⟩;simp only [AObj.ids];exact ny (k:=k) (by rw [bk,hy]; rfl) hi
theorem qx {lo:Nat} {μ0 μ:MM} {h0 h:Heap} {w0 w:World} {v:AVal} {v':Value} (hlo:lo=w0.heap.size) (hr0:Rel E μ0 h0 w0) (hst:Step (fun k=>lo≤k) h.wmin μ0 w0 μ w) (hr:Rel E μ h w)
  (hv:VRel E μ v v') (hev:Evol { h0 with wmin:=h0.size } h) :
  ∃ μ',Step (fun _=>False) (dk h0 v h).2.wmin μ0 w0 μ' w∧VRel E μ' (dk h0 v h).1 v'∧Rel E μ' (dk h0 v h).2 w:=by
 have hX:∀ b,lo≤b→b < w0.heap.size→False:=fun b h1 h2=>by omega
 have hn0:μ0.length=h0.size:=hr0.len;unfold dk;split
 ·exact ⟨μ,hst.weaken (fz _ _) hX,hv,hr.same rfl rfl rfl⟩
 ·rename_i hw;have hst1:Step (fun _=>False) μ0.length μ0 w0 μ w:=hst.weaken (by omega) hX;have hkeep:∀ i,i < μ0.length→μ[i]? = μ0[i]?:=fun i hi=>(hst1.old i hi).resolve_right fun ⟨a,_⟩=>by omega
  have hblk:∀ (i:Nat) (m:M),μ0[i]? = some (some m)→w.heap[m.blk]? = w0.heap[m.blk]?:=fun i m hm=>by
   refine hst1.block _ (hr0.lt i m hm) (fun h=>h) fun j mj hj hmj=>?_
   exact absurd (ah hmj) (by omega)
  split
  ·rename_i hu;refine ⟨μ0,⟨hst1.os,hst1.tape,hst1.output,hst1.size,?_,aj _,fun _ _=>.inl rfl,fun i m hi hm=>absurd (ah hm) (by omega)⟩,w9 (fun i hi=>hkeep i (by omega)) hu hv,hr0.keep hst1.size hblk fun k _ hk=>hst1.block k hk (fun h=>h) fun j mj hj hmj=>absurd (ah hmj) (by omega)⟩;intro k hk hx _;exact hst1.block k hk hx fun j mj hj hmj=>absurd (ah hmj) (by omega)
  ·simp only;split
   ·rename_i hok;generalize hK:reach h h0.size 1000 v.ids []=K at hok ⊢;have hspec:=rf h h0.size 1000 v.ids [] (by simp) (by simp);rw [hK] at hspec;obtain ⟨hnd,hge⟩:=hspec;rw [au] at hok
    have hok':∀ i ∈ v.ids++K.flatMap fun i=>((h.get i).map AObj.ids).getD [],i < h0.size∨i ∈ K:=fun i hi=>by have:=hok i hi;simpa using this
    let F:Nat→Nat:=fun i=>if i < h0.size then i else h0.size+idxIn i K
    let μ2:MM:=μ0++K.map fun i=>(μ[i]?).getD none
    have hold:∀ i,i < h0.size→μ2[i]? = μ0[i]?:=fun i hi=>ag (by omega)
    have hnew:∀ j,μ2[h0.size+j]? = (K[j]?).map fun i=>(μ[i]?).getD none:=fun j=>by
     show (μ0++_)[_]? = _
     rw [aw (by omega),hn0,ji,bk]
    have hpull:∀ (i:Nat) (m:M),μ2[i]? = some (some m)→∃ p,μ[p]? = some (some m)∧((i < h0.size∧p=i)∨(h0.size≤i∧h0.size≤p∧K[i - h0.size]? = some p)):=fun i m hm=>by
     rcases bi i h0.size with hi | hi
     ·exact ⟨i,by rw [hkeep i (by omega),← hold i hi]; exact hm,.inl ⟨hi,rfl⟩⟩
     ·obtain ⟨j,rfl⟩:=Nat.exists_eq_add_of_le hi;rw [hnew] at hm;rw [ae] at hm;obtain ⟨p,hp,hm⟩:=hm;refine ⟨p,?_,.inr ⟨by omega,hge p (bn hp),by rw [ji]; exact hp⟩⟩;cases hq:μ[p]? with
      | none=>rw [hq] at hm; cases hm
      | some x=>rw [hq] at hm; simp at hm; rw [hm]
    have hF:∀ i,(i < h0.size∨i ∈ K)→i < μ.length→μ2[F i]? = μ[i]?:=fun i hi hl=>by
     by_cases h1:i < h0.size
     ·show μ2[if i < h0.size then i else _]? = _
      rw [if_pos h1,hold i h1,hkeep i (by omega)]
     ·have h2:i ∈ K:=hi.resolve_left h1;show μ2[if i < h0.size then i else _]? = _;rw [if_neg h1,hnew,idxIn_get h2];simp [ai hl]
    have hl2:Later μ0 μ2:=⟨by simp [μ2],fun i hi=>.inl (hold i (by omega))⟩;refine ⟨μ2,?_,?_,?_⟩
    ·refine ⟨hst1.os,hst1.tape,hst1.output,hst1.size,?_,hl2.len,fun i hi=>.inl (hold i (by omega)),?_⟩
     ·intro k hk hx _;exact hst1.block k hk hx fun j mj hj hmj=>absurd (ah hmj) (by omega)
     ·intro i m hi hm;obtain ⟨p,hp,h1 | h1⟩:=hpull i m hm
      ·omega
      ·rcases hst1.new p m (by omega) hp with h2 | ⟨r,m0,h2,h3,_⟩
       ·exact .inl h2
       ·exact absurd (ah h3) (by omega)
    ·exact pz F (fun i hi hl=>hF i (hok' i (e9 _ hi)) hl) hv
    ·constructor
     ·simp [μ2,hn0,Heap.size]
     ·have:=hr0.bs; simp; omega
     ·intro i o ho;simp only at ho;rcases bi i h0.size with hi | hi
      ·rw [ag hi] at ho;refine (hr0.obj i o ho).keep hl2 fun m hm=>⟨by rw [hold i hi]; exact hm,hblk i m hm⟩
      ·obtain ⟨j,rfl⟩:=Nat.exists_eq_add_of_le hi;rw [aw hi,show h0.size+j - h0.objs.length=j from ji ..,bk,ae] at ho;obtain ⟨p,hp,ho⟩:=ho;have hpg:=hge p (bn hp);have hbs:=hr0.bs;have hbase:h.base=h0.base:=hev.base;have hbs':h0.base≤h0.size:=hbs;cases hq:h.get p with
       | none =>
        rw [hq] at ho;simp at ho; subst ho;have hq':h.objs[p]? = none:=hq
        have:μ[p]? = none:=by rw [List.getElem?_eq_none_iff] at hq' ⊢;rw [hr.len]; exact hq'
        show μ2[_]? = _
        rw [hnew,hp]; simp [this]
       | some o' =>
        rw [hq] at ho;simp at ho; subst ho;have hids:∀ i ∈ o'.ids,i < μ.length→μ2[F i]? = μ[i]?:=fun i hi hl=>hF i (hok' i (gc _ (dz.2 ⟨p,bn hp,by rw [hq]; simpa using hi⟩))) hl
        have hm2:∀ x,μ[p]? = some x→μ2[h0.size+j]? = some x:=fun x hx=>by rw [hnew,hp]; simp [hx]
        have hor:=hr.obj p o' hq;cases o' with
        | dead=>exact hm2 _ hor
        | cells esz cs =>
         obtain ⟨m,c,e,fr,h1,h2,h3,h4,h5,h6,h7⟩:=hor;refine ⟨m,c,e,fr,hm2 _ h1,h2,h3,h4,by rw [ym]; exact h5,?_,fun _=>h7 (by omega)⟩;intro k x hk;change (AVal.renL F cs)[k]? = _ at hk;rw [renL_get,ae] at hk;obtain ⟨y,hy,rfl⟩:=hk;obtain ⟨k1,y',k2,k3⟩:=h6 k y hy;refine ⟨(isOne_ren F y).trans k1,y',k2,pz F (fun i hi hl=>hids i (ny hy hi) hl) k3⟩
        | map es clock =>
         obtain ⟨m,es',h1,h2,h3,h4⟩:=hor;refine ⟨m,es',hm2 _ h1,h2,by rw [bh]; exact h3,?_⟩;intro k x hk;rw [bk,ae] at hk;obtain ⟨y,hy,rfl⟩:=hk;obtain ⟨y',k1,k2,k3,k4⟩:=h4 k y hy
         have hin:∀ i,i ∈ y.1.ids∨i ∈ y.2.1.ids→i ∈ AObj.ids (.map es clock):=fun i hi=>by simp only [AObj.ids,dz,bw];exact ⟨y,bn hy,hi⟩
         exact ⟨y',k1,pz F (fun i hi hl=>hids i (hin i (.inl hi)) hl) k2,pz F (fun i hi hl=>hids i (hin i (.inr hi)) hl) k3,k4⟩
        | iter s pos =>
         obtain ⟨m,h1,h2⟩:=hor;exact ⟨m,hm2 _ h1,h2⟩
        | mapIter r a b c =>
         obtain ⟨m,r',⟨h1,h0⟩,h2,h3⟩:=hor;refine ⟨m,r',⟨hm2 _ h1,h0⟩,h2,?_⟩;have h4:=pz F (fun i hi hl=>hids i (by cases r <;> exact hi) hl) h3;cases r <;> simpa [AVal.ren] using h4
        | loop g st pd sl =>
         obtain ⟨m,r,h1,h2,h3⟩:=hor;exact ⟨m,r,hm2 _ h1,h2,h3.ren F hids⟩
     ·intro i j mi mj hij hi hmi hmj;obtain ⟨p,hp,hp'⟩:=hpull i mi hmi;obtain ⟨q,hq,hq'⟩:=hpull j mj hmj;have hbs:h0.base≤h0.size:=hr0.bs;have hbase:h.base=h0.base:=hev.base;refine hr.sep p q mi mj ?_ (by simp only at hi; omega) hp hq;intro e;rcases hp' with ⟨a1,a2⟩ | ⟨a1,a2,a3⟩ <;> rcases hq' with ⟨b1,b2⟩ | ⟨b1,b2,b3⟩
      ·omega
      ·omega
      ·omega
      ·subst e;have:=(List.getElem?_inj (ah a3) hnd).1 (a3.trans b3.symm);omega
     ·intro i m hm;obtain ⟨p,hp,_⟩:=hpull i m hm;exact hr.lt p m hp
     ·refine hr.tab.less fun i m hi hm=>?_
      obtain ⟨p,hp,hp'⟩:=hpull i m hm;have hbs:h0.base≤h0.size:=hr0.bs;have hbase:h.base=h0.base:=hev.base;simp only at hi;exact ⟨p,m,by rcases hp' with ⟨a1,a2⟩ | ⟨a1,a2,a3⟩ <;> omega,hp,rfl⟩
   ·refine ⟨μ,?_,hv,hr.same rfl rfl rfl⟩;exact hst1.fresh _
theorem ws:∀ (args:List AVal) (i t:Nat),sget (enter i args) t=if i≤t then (args[t - i]?).map Slot.val else none
 | [],i,t=>by simp [enter,sget]
 | v :: r,i,t=>by
  simp only [enter,sget];split
  ·rename_i e; subst e; simp
  ·rename_i hne;rw [ws r (i+1) t];by_cases h1:i+1≤t
   ·rw [if_pos h1,if_pos (by omega),show t - i=(t - (i+1))+1 by omega,List.getElem?_cons_succ]
   ·rw [if_neg h1,if_neg (by omega)]
def RndOK (E:Env):List (Nat × ARound)→Prop
 | []=>True
 | p :: r=>E.rnd p.1=some p.2∧RndOK E r
theorem RndOK.of {l:List (Nat × ARound)} (h:RndOK E l):∀ p ∈ l,E.rnd p.1=some p.2:=by
 induction l with
 | nil=>simp
 | cons a r ih =>
  intro p hp;rcases dy.1 hp with rfl | hp
  ·exact h.1
  ·exact ih h.2 p hp
structure LibOK (E:Env) (f:FuncId) (fn:Func) (F:List AVal→Heap→Option (AVal × List (Nat × AObj) × List AObj)):Prop where
 name:fn.name ≠ "runtime.NumGoroutine"
 body:fn.body.isSome=true
 run:∀ args h v ps xs,F args h=some (v,ps,xs)→∀ (μ:MM) (w:World) (args':Array Value),VRels E μ args args'.toList→Rel E μ h w→Calls E.P f args' w (Ends E μ w v (h.puts ps xs))
theorem LibOK.pure {E:Env} {f:FuncId} {fn:Func} {F:List AVal→Heap→Option AVal} (name:fn.name ≠ "runtime.NumGoroutine") (body:fn.body.isSome=true)
  (run:∀ args h v,F args h=some v→∀ (μ:MM) (w:World) (args':Array Value),VRels E μ args args'.toList→Rel E μ h w→Calls E.P f args' w (Ends E μ w v h)):LibOK E f fn (pureF F) :=
 ⟨name,body,fun args h v ps xs e μ w args' ha hr=>by unfold pureF at e;rw [ae] at e;obtain ⟨u,e,e'⟩:=e;cases e';exact run args h v e μ w args' ha hr⟩
structure ByOK (E:Env) (T:Nat→Option AFunc) (f g:Nat) (fn:Func):Prop where
 name:fn.name ≠ "runtime.NumGoroutine"
 body:fn.body.isSome=true
 run:∀ args h v h',xCall T g args h=some (v,h')→∀ (μ:MM) (w:World) (args':Array Value),VRels E μ args args'.toList→Rel E μ h w→Calls E.P f args' w (Ends E μ w v h')
def FnOK (E:Env) (T:Nat→Option AFunc) (f g:Nat):Prop :=
 (∃ fn,E.P.funcs[f]? = some fn∧ByOK E T f g fn) ∨
 (∃ fn closed hint af,E.P.funcs[f]? = some fn∧T g=some af∧tq E closed hint fn=some af∧RndOK E af.body.rounds) ∨
 (∃ fn af F,E.P.funcs[f]? = some fn∧T g=some af∧af.round=some (.lib F)∧LibOK E f fn F)
structure Agrees (E:Env) (T:Nat→Option AFunc):Prop where
 fn:∀ f g,E.gid f=some g→FnOK E T f g
 rnd:∀ g ar,E.rnd g=some ar→∃ af,T g=some af∧af.round=some (.round ar)
def AgreesL (E:Env) (T:Nat→Option AFunc):List (Nat × Nat)→Prop
 | []=>True
 | p :: r=>FnOK E T p.1 p.2∧AgreesL E T r
def ASpec.rnd:ASpec→Option ARound
 | .round r=>some r
 | .lib _=>none
def rndOf (T:Nat→Option AFunc) (g:Nat):Option ARound:=(T g).bind fun f=>f.round.bind ASpec.rnd
theorem agrees_of {P:Program} {T:Nat→Option AFunc} {l:List (Nat × Nat)} {room glob:Nat} {tabs:List (Nat × (Obj→Prop))} (h:AgreesL ⟨P,fun f=>List.lookup f l,rndOf T,room,glob,tabs⟩ T l):Agrees ⟨P,fun f=>List.lookup f l,rndOf T,room,glob,tabs⟩ T:=by
 constructor
 ·intro f g hg;simp only at hg
  have:∀ {r:List (Nat × Nat)},AgreesL ⟨P,fun f=>List.lookup f l,rndOf T,room,glob,tabs⟩ T r→List.lookup f r=some g→FnOK ⟨P,fun f=>List.lookup f l,rndOf T,room,glob,tabs⟩ T f g:=by
   intro r;induction r with
   | nil=>intro _ h1; simp at h1
   | cons p r ih =>
    intro h1 h2;obtain ⟨a,b⟩:=p;simp only [AgreesL] at h1;rw [List.lookup_cons] at h2;split at h2
    ·rename_i e;rw [beq_iff_eq] at e;subst e;cases h2;exact h1.1
    ·exact ih h1.2 h2
  exact this h hg
 ·intro g ar hg;simp only [rndOf,ip] at hg;obtain ⟨af,h1,s,h2,h3⟩:=hg;cases s with
  | round r=>cases h3; exact ⟨af,h1,h2⟩
  | lib _=>cases h3
theorem Agrees.gid {T:Nat→Option AFunc} (h:Agrees E T):GidOK E:=fun f g hg=>by
 rcases h.fn f g hg with ⟨fn,h1,h4⟩ | ⟨fn,closed,hint,af,h1,h2,h3,_⟩ | ⟨fn,af,F,h1,_,_,h4⟩;case inl=>exact ⟨fn,h1,h4.name,h4.body⟩
 case inr.inr=>exact ⟨fn,h1,h4.name,h4.body⟩
 refine ⟨fn,h1,?_⟩;unfold tq at h3;split at h3;case h_2=>cases h3
 rename_i c hb;split at h3;case h_2=>cases h3
 split at h3;case isFalse=>cases h3
 rename_i hn;exact ⟨hn.2,by rw [hb]; rfl⟩
theorem cFunc_round {closed:Bool} {hint:Hint} {fn:Func} {af:AFunc} (h:tq E closed hint fn=some af):af.round=none:=by
 unfold tq at h;split at h;case h_2=>cases h
 split at h;case h_2=>cases h
 split at h;case isFalse=>cases h
 cases h;rfl
theorem qy {lo:Nat} {μ μ0:MM} {w0:World} {s:Slots} {h:Heap} {a:Act} {fn:Func} {rs:List ARes} {vs:List AVal} (hrs:cRess E.P fn.results.toList=some rs) (hvs:resultsL s h rs=some vs) {R:Ending→World→Prop}
  (hR:∀ v' w',VRel E μ (tupled vs) v'→Step (fun k=>lo≤k) h.wmin μ0 w0 μ w'→Rel E μ h w'→R (.returned v') w') :
  ∀ (l:List Nat) (νv:Nat→Nat) (w:World),Step (fun k=>lo≤k) h.wmin μ0 w0 μ w→Rel E μ h w→FRel E lo ⟨νv,l⟩ μ (sget s) a.tmps w→LeavesInM (F0 none) 0 E.P fn a.tmps R (l.map markOf) .returning w
 | [],νv,w,hst,hr,hf=>by obtain ⟨v',r1,r2⟩:=results_rel hf hr hrs hvs;exact ⟨v',r1,hR v' w r2 hst hr⟩
 | r :: l,νv,w,hst,hr,hf=>by
  have hmem:r ∈ (⟨νv,r :: l⟩:Fr).ds:=bg ..;have hnd:=hf.nodup.1;have hnd':=ux.1 hnd;obtain ⟨hlo,hblk⟩:=hf.ds r hmem;have hw:w.putObj r (.deferred none)=ct w r (.deferred none):=rfl;refine ⟨by simp,.inl ⟨r,w.putObj r (.deferred none),rfl,run_takeDeferred hblk,qy hrs hvs hR l νv _ ?_ ?_ ?_⟩⟩
  ·refine hst.trans (Step.mk rfl rfl rfl (by simp) (fun k hk hx _=>?_) (aj _) (fun _ _=>.inl rfl) fun i m hi hm=>absurd (ah hm) (by omega)) (aj _);rw [hw];exact bp (by intro e; subst e; exact hx hlo)
  ·exact hr.keep (by simp) (fun i m hm=>by rw [hw]; exact bp ((hf.sepd r hmem).1 i m hm).symm) fun k hk _=>by rw [hw]; exact bp (by have:=hf.nodup.2; omega)
  ·refine ⟨hf.val,hf.undef,fun t cs hv=>?_,hf.loc,hf.sepv,hf.sepm,fun q hq=>⟨(hf.ds q (bj _ hq)).1,?_⟩,fun q hq=>hf.sepd q (bj _ hq),hnd'.2,hf.nodup.2⟩
   ·obtain ⟨h1,h2,c,e,fr,h3,h4⟩:=hf.var t cs hv;refine ⟨h1,h2,c,e,fr,?_,h4⟩;rw [hw];exact (bp ((hf.sepd r hmem).2 t cs hv).symm).trans h3
   ·rw [hw];refine (bp ?_).trans (hf.ds q (bj _ hq)).2;intro e; subst e; exact hnd'.1 hq
theorem eqbE_eq:∀ {l m:List (AVal × AVal × Nat)},eqbE l m=true→l=m
 | [],[],_=>rfl
 | [],_ :: _,h=>by simp [eqbE] at h
 | _ :: _,[],h=>by simp [eqbE] at h
 | (k,v,b) :: r,(k',v',b') :: r',h=>by simp only [eqbE,a7,decide_eq_true_eq] at h;rw [AVal.eq_of h.1.1.1,AVal.eq_of h.1.1.2,h.1.2,eqbE_eq h.2]
theorem eqbS_eq:∀ {l m:List (Nat × AVal)},eqbS l m=true→l=m
 | [],[],_=>rfl
 | [],_ :: _,h=>by simp [eqbS] at h
 | _ :: _,[],h=>by simp [eqbS] at h
 | (k,v) :: r,(k',v') :: r',h=>by simp only [eqbS,a7,decide_eq_true_eq] at h;rw [h.1.1,AVal.eq_of h.1.2,eqbS_eq h.2]
theorem AObj.eq_of {a b:AObj} (h:a.eqb b=true):a=b:=by
 cases a <;> cases b <;> simp only [AObj.eqb,a7,decide_eq_true_eq,de] at h
 ·rfl
 ·rw [h.1,AVal.eqL_of h.2]
 ·rw [eqbE_eq h.1,h.2]
 ·rw [h.1,h.2]
 ·rw [h.1.1.1,h.1.1.2,h.1.2,h.2]
 ·rw [h.1.1.1,h.1.1.2,h.1.2,eqbS_eq h.2]
theorem eqbO_eq:∀ {l m:List AObj},eqbO l m=true→l=m
 | [],[],_=>rfl
 | [],_ :: _,h=>by simp [eqbO] at h
 | _ :: _,[],h=>by simp [eqbO] at h
 | a :: r,b :: r',h=>by simp only [eqbO,a7] at h;rw [AObj.eq_of h.1,eqbO_eq h.2]
theorem eqbR_eq {x y:AVal × Heap} (h:eqbR x y=true):x=y:=by obtain ⟨v,o,b,w⟩:=x;obtain ⟨v',o',b',w'⟩:=y;simp only [eqbR,a7,decide_eq_true_eq] at h;rw [AVal.eq_of h.1.1.1,eqbO_eq h.1.1.2,h.1.2,h.2]
theorem allSame_all {l:List (Option (AVal × Heap))} {r:AVal × Heap} (h:allSame l=some r):∀ x ∈ l,x=some r:=by
 unfold allSame at h;split at h;case h_2=>cases h
 split at h;case isFalse=>cases h
 rename_i hh;cases h;rw [au] at hh;intro x hx;rcases dy.1 hx with rfl | hx
 ·rfl
 ·have:=hh x hx;split at this
  ·rw [eqbR_eq this]
  ·cases this
theorem func_sound {call:CallSem} {n:Nat} (hc:CallOK E call) (hev0:CallEvol call) (hg:GidOK E) (hm:E.P.follows .mixedOrders=true) {f:FuncId} {fn:Func} {closed:Bool} {hint:Hint} {af:AFunc} (hf:E.P.funcs[f]? = some fn) (hcf:tq E closed hint fn=some af) (hrd:RndOK E af.body.rounds)
  {args:List AVal} {h:Heap} {v:AVal} {h':Heap} (hev:evFunc call n af args h=some (v,h')) {μ:MM} {w:World} {args':Array Value} (ha:VRels E μ args args'.toList) (hr:Rel E μ h w) :
  CallsIn (F0 none) 0 E.P f args' w (Ends E μ w v h'):=by
 unfold tq at hcf;split at hcf;case h_2=>cases hcf
 rename_i c hb;split at hcf;case h_2=>cases hcf
 rename_i ac rs hac hrs;split at hcf;case isFalse=>cases hcf
 rename_i hsz;cases hcf;unfold evFunc at hev;split at hev;case isFalse=>cases hev
 rename_i hlen;simp only at hlen hev;have hal:args'.size=args.length:=by have:=ha.length; simp at this; exact this.symm
 have hat:At E w.heap.size fn.ntmps μ w [] (enter 0 args) { h with wmin:=h.size } { tmps:=args'++Array.replicate (fn.ntmps - args'.size) undef,defers:=[] } w:=by
  refine ⟨μ,⟨fun _=>0,[]⟩,Step.refl _ _ _ _,hr.same rfl rfl rfl,?_,?_,rfl,aj _⟩
  ·have hval:∀ (t:Nat) (x:Slot),sget (enter 0 args) t=some x→∃ v,x = .val v∧args[t]? = some v:=fun t x hx=>by rw [ws] at hx;simp at hx;obtain ⟨v,h1,h2⟩:=hx;exact ⟨v,h2.symm,h1⟩
   constructor
   ·intro t v hv;obtain ⟨v1,e,h1⟩:=hval t _ hv;cases e;obtain ⟨v',h2,h3⟩:=ha.get h1;refine ⟨v',?_,h3⟩;have hlt:=ah h1;rw [r9 (by omega)];simpa using h2
   ·intro t hx; obtain ⟨_,e,_⟩:=hval t _ hx; cases e
   ·intro t cs hx; obtain ⟨_,e,_⟩:=hval t _ hx; cases e
   ·intro t t' o cs hx; obtain ⟨_,e,_⟩:=hval t _ hx; cases e
   ·intro t t' cs cs' _ hx; obtain ⟨_,e,_⟩:=hval t _ hx; cases e
   ·intro t cs i m hx; obtain ⟨_,e,_⟩:=hval t _ hx; cases e
   ·intro r hr; cases hr
   ·intro r hr; cases hr
   ·exact ⟨List.nodup_nil,hr.tab.1⟩
  ·simp; omega
 refine callsIn_of_wp_marks hf hb trivial ?_
 have leave:∀ (y:AExit × St),Evol { h with wmin:=h.size } y.2.h→funcEnd ⟨closed,ac.wild,fn.params.size+fn.nfree,fn.ntmps,rs,ac,none⟩ h y=some (v,h')→∀ a' w',At E w.heap.size fn.ntmps μ w [] y.2.s y.2.h a' w' →
   bodyPostM (F0 none) 0 E.P fn (Ends E μ w v h') y.1.toX a' w':=by
  intro y hevol he a' w' hat'
  have key:((resultsL y.2.s y.2.h rs).map fun vs=>dk h (tupled vs) y.2.h)=some (v,h')→LeavesInM (F0 none) 0 E.P fn a'.tmps (Ends E μ w v h') a'.defers .returning w':=by intro h2;rw [ae] at h2;obtain ⟨vs,h2,h3⟩:=h2;obtain ⟨μ1,ν1,k1,k2,k3,k4,k5,k6⟩:=hat';rw [k5,gq];refine qy hrs h2 (fun v' w2 r2 k1' k2'=>?_) ν1.ds ν1.v w' k1 k2 k3;obtain ⟨μ2,s1,s2,s3⟩:=qx rfl hr k1' k2' r2 hevol;rw [h3] at s1 s2 s3;exact ⟨v',μ2,rfl,s1,s2,s3⟩
  obtain ⟨x,st⟩:=y;cases x with
  | normal=>exact key he
  | ret=>exact key he
  | exit id=>simp [funcEnd] at he
 split at hev
 ·split at hev;case h_2=>cases hev
  rename_i l hl;refine zy hc hev0 hg hm false (fun _=>rfl) n _ _ _ hac (fun _=>hrd.of) _ _ hl _ _ _ hat fun y hy a' w' hat'=>?_
  have hall:=allSame_all hev;exact leave y (w8 hev0 n _ _ _ hl y hy) (hall _ (ml hy)) a' w' hat'
 ·split at hev;case h_2=>cases hev
  rename_i x hx;exact pj hc hev0 hg hm false (fun _=>rfl) n _ _ _ hac (fun _=>hrd.of) _ _ _ hx _ _ _ hat fun a' w' hat'=>leave x (nk hev0 n _ _ _ _ hx) hev a' w' hat'
def Holds (E:Env) (μ:MM) (s:Slots) (tmps:Array Value):Prop :=
 ∀ (t:Nat) (x:Slot),sget s t=some x→∃ v,x = .val v∧∃ v',tmps[t]? = some v'∧VRel E μ v v'
theorem zp {μ:MM} {tmps:Array Value}:∀ {sl:List (Nat × AVal)},(∀ (k:Nat) (x:Nat × AVal),sl[k]? = some x→∃ v',tmps[x.1]? = some v'∧VRel E μ x.2 v')→Holds E μ (ofCaps sl) tmps
 | [],_,t,x,h=>by simp [ofCaps,sget] at h
 | (u,v) :: sl,hs,t,x,h=>by
  simp only [ofCaps,sget] at h;split at h
  ·rename_i e;cases h;obtain ⟨v',h1,h2⟩:=hs 0 (u,v) rfl;simp only at h1;exact ⟨v,rfl,v',by rw [← e]; exact h1,h2⟩
  ·exact zp (fun k x hk=>hs (k+1) x (by simpa using hk)) t x h
theorem zq {μ:MM}:∀ {ps:List Nat} {aZ:List AVal} {aZ':List Value} {s:Slots} {tmps:Array Value},VRels E μ aZ aZ'→(∀ t ∈ ps,t < tmps.size)→Holds E μ s tmps →
  Holds E μ (setArgs ps aZ s) ((ps.zip aZ').foldl (fun tmps (t,a)=>tmps.setIfInBounds t a) tmps)∧((ps.zip aZ').foldl (fun tmps (t,a)=>tmps.setIfInBounds t a) tmps).size=tmps.size
 | [],aZ,aZ',s,tmps,_,_,h=>by cases aZ <;> exact ⟨h,rfl⟩
 | t :: ts,[],aZ',s,tmps,ha,_,h=>by simp only [VRels] at ha;subst ha;exact ⟨h,rfl⟩
 | t :: ts,v :: vs,aZ',s,tmps,ha,hp,h=>by
  simp only [VRels] at ha;obtain ⟨v',r',rfl,h1,h2⟩:=ha;simp only [setArgs,List.zip_cons_cons,kz];have:=zq (ps:=ts) (aZ:=vs) (aZ':=r') (s:=(t,.val v) :: s) (tmps:=tmps.setIfInBounds t v') h2 (fun u hu=>by simp; exact hp u (bj _ hu)) (fun u x hx=>?_)
  ·refine ⟨this.1,this.2.trans (by simp)⟩
  ·simp only [sget] at hx;have ht:=hp t (bg ..);split at hx
   ·rename_i e;cases hx;subst e;exact ⟨v,rfl,v',by simp [ht],h1⟩
   ·rename_i hne;obtain ⟨v2,e2,v3,h3,h4⟩:=h u x hx;exact ⟨v2,e2,v3,by rw [eh hne]; exact h3,h4⟩
theorem At.record {lo nt:Nat} {μ0:MM} {w0:World} {ds:List Deferred} {s:Slots} {h:Heap} {a:Act} {w:World} (hat:At E lo nt μ0 w0 ds s h a w) {i g:Nat} {st:LoopSt} {p:Option AExit} {sl:List (Nat × AVal)} (hi:h.get i=some (.loop g st p sl)) (hb:h.base≤i)
  {m0:M} (hm0:μ0[i]? = some (some m0)) (g2:Nat) (st2:LoopSt) (p2:Option AExit) (sl2:List (Nat × AVal)) :
  ∃ r,w.heap[m0.blk]? = some (.loop r)∧st.is r.state∧∀ r2:Loop,(∀ μ,LoopRel E μ g st p sl r→LoopRel E μ g2 st2 p2 sl2 r2)→At E lo nt μ0 w0 ds s (h.put i (.loop g2 st2 p2 sl2)) a (w.putObj m0.blk (.loop r2)):=by
 obtain ⟨μ,ν,k1,k2,k3,k4,k5,k6⟩:=hat;obtain ⟨m,r,q1,q2,q3⟩:=k2.obj i _ hi
 have hm:m=m0:=by
  rcases k1.old i (ah hm0) with q | ⟨_,q⟩
  ·rw [q,hm0] at q1; cases q1; rfl
  ·rw [q] at q1; cases q1
 subst hm;refine ⟨r,q2,q3.st,fun r2 hr2=>?_⟩;have hw:w.putObj m.blk (.loop r2)=ct w m.blk (.loop r2):=rfl;rw [hw];refine ⟨μ,ν,(k1.trans (Step.put q1 (fz _ _) _) (cz _ _)),k2.put hb q1 ?_,?_,k4,k5,by simpa [ct] using k6⟩
 ·exact ⟨m,r2,q1,g7 (k2.lt i m q1),hr2 μ q3⟩
 ·refine k3.keep (Later.refl μ) (fun t cs hv=>bp (k3.sepm t cs i m hv q1)) (fun t cs j m' hv hj hm'=>absurd (ah hm') (by omega)) fun r hr=>⟨bp ((k3.sepd r hr).1 i m q1),fun j m' hj hm'=>absurd (ah hm') (by omega)⟩
theorem round_sound {call:CallSem} {n g:Nat} (hc:CallOK E call) (hev0:CallEvol call) (hg:GidOK E) (hm:E.P.follows .mixedOrders=true) {ar:ARound} (hrnd:E.rnd g=some ar) {i k:Nat} {args:List AVal} {h:Heap} {v:AVal} {h':Heap} {st:LoopSt} {p:Option AExit} {sl:List (Nat × AVal)}
  (hev:evRound call n g ar (.ptr (some (i,k)) :: args) h=some (v,h')) (hi:h.get i=some (.loop g st p sl)) {μ:MM} {w:World} {args':Array Value} (ha:VRels E μ args args'.toList) (hr:Rel E μ h w) :
  ∃ (m:M) (r:Loop),μ[i]? = some (some m)∧w.heap[m.blk]? = some (.loop r)∧args'.size=r.params.size ∧
   RoundIn (F0 none) 0 E.P m.blk r.fn ((r.params.zip args').foldl (fun tmps (t,a)=>tmps.setIfInBounds t a) r.tmps) r.assign r.body w (Ends E μ w v h'):=by
 obtain ⟨m,r,q1,q2,q3⟩:=hr.obj i _ hi;obtain ⟨ar',ha1,hb1,e1,e2,e3,e4,e5⟩:=q3.code;rw [hrnd] at e1;cases e1;have hal:args'.size=args.length:=by have:=ha.length; simp at this; exact this.symm
 unfold evRound at hev;simp only at hev;split at hev;case isFalse=>cases hev
 rename_i hlen;split at hev;case h_2=>cases hev
 rename_i s hs;split at hev;case h_2=>cases hev
 rename_i st1 hst1
 have hps:r.params.size=args'.size:=by rw [hal,hlen.1,← e2]; simp
 refine ⟨m,r,q1,q2,hps.symm,?_⟩
 have hs':s=setArgs ar.params args (ofCaps sl):=by unfold ol at hs;rw [hi] at hs;cases hs; rfl
 subst hs'
 have hfold:(r.params.zip args').foldl (fun tmps (t,a)=>tmps.setIfInBounds t a) r.tmps=(ar.params.zip args'.toList).foldl (fun tmps (t,a)=>tmps.setIfInBounds t a) r.tmps:=by rw [← e2,← Array.foldl_toList,Array.toList_zip]
 obtain ⟨hh,hsz⟩:=zq ha e3 (zp q3.slots);rw [← hfold] at hh hsz;generalize (r.params.zip args').foldl (fun tmps (t,a)=>tmps.setIfInBounds t a) r.tmps=tmps at hh hsz ⊢
 have hat:At E w.heap.size r.tmps.size μ w [] (setArgs ar.params args (ofCaps sl)) { h with wmin:=h.size } { tmps:=tmps,defers:=[] } w:=by
  refine ⟨μ,⟨fun _=>0,[]⟩,Step.refl _ _ _ _,hr.same rfl rfl rfl,?_,hsz,rfl,aj _⟩;constructor
  ·intro t v hv;obtain ⟨v1,e,h1⟩:=hh t _ hv;cases e;exact h1
  ·intro t hx; obtain ⟨_,e,_⟩:=hh t _ hx; cases e
  ·intro t cs hx; obtain ⟨_,e,_⟩:=hh t _ hx; cases e
  ·intro t t' o cs hx; obtain ⟨_,e,_⟩:=hh t _ hx; cases e
  ·intro t t' cs cs' _ hx; obtain ⟨_,e,_⟩:=hh t _ hx; cases e
  ·intro t cs i m hx; obtain ⟨_,e,_⟩:=hh t _ hx; cases e
  ·intro r hr; cases hr
  ·intro r hr; cases hr
  ·exact ⟨List.nodup_nil,hr.tab.1⟩
 refine roundIn_of_wpIn trivial ?_;show Code.wpIn (F0 (some m.blk)) 0 E.P r.assign _ _ _;unfold my at hst1;split at hst1;case h_2=>cases hst1
 rename_i st2 he1;split at hst1;case h_2=>cases hst1
 rename_i g' p' sl' hgi;split at hst1;case isFalse=>cases hst1
 rename_i hgg;subst hgg;cases hst1;have hevA:=nk hev0 n _ _ _ _ he1;refine pj hc hev0 hg hm true (fun h=>by cases h) n _ _ _ e4 (fun h=>by cases h) _ _ _ he1 _ _ _ hat fun a1 w1 hat1=>?_
 have hbi:st2.h.base≤i:=by rw [hevA.base]; exact hlen.2
 obtain ⟨r1,f1,f2,f3⟩:=hat1.record hgi hbi q1 g' .busy p' sl';refine ⟨_,run_beginRound f1 f2,?_⟩;have hat2:=f3 { r1 with state:=.busy } fun μ q=>⟨q.code,rfl,q.pend,q.slots⟩
 show Code.wpIn (F0 (some m.blk)) 0 E.P r.body _ _ _
 unfold roundOut at hev;split at hev;case h_2=>cases hev
 rename_i e st3 he2;split at hev;case h_2=>cases hev
 rename_i g3 st4 p4 sl4 hg4;split at hev;case isFalse=>cases hev
 rename_i hgg;subst hgg;have hfin:=dr hev;have hevB:=nk hev0 n _ _ _ _ he2;refine pj hc hev0 hg hm true (fun h=>by cases h) n _ _ _ e5 (fun h=>by cases h) _ _ _ he2 _ _ _ hat2 fun a3 w3 hat3=>?_
 have hbi3:st3.h.base≤i:=by rw [hevB.base]; exact hbi
 obtain ⟨r3,j1,j2,j3⟩:=hat3.record hg4 hbi3 q1 g3 (if e = .normal then .ready else .done) (if e = .normal then none else some e) sl4
 have hend:∀ (jump:Option Code) (st5:LoopSt) (p5:Option AExit),st5=(if e = .normal then .ready else .done)→p5=(if e = .normal then none else some e)→jump=p5.map AExit.code→jump.isNone=decide (e = .normal) →
   ∃ v1 w',(Instr.endRound m.blk jump).run E.P w3 = .ok v1 w'∧Ends E μ w v h' (.returned v1) w':=by
  intro jump st5 p5 h1 h2 h3 h4;rw [← h1,← h2] at hfin;refine ⟨_,_,run_endRound jump j1,?_⟩
  have hst5:st5.is (if jump.isNone then .ready else .done:LoopState):=by rw [h4,h1];by_cases hn:e = .normal <;> simp [hn,LoopSt.is]
  have hat4:=j3 { r3 with state:=if jump.isNone then .ready else .done,pending:=jump } fun μ q=>⟨q.code,by rw [← h1]; exact hst5,by rw [← h2]; exact h3,q.slots⟩
  rw [← h1,← h2] at hat4;obtain ⟨μ5,ν5,l1,l2,l3,l4,l5,l6⟩:=hat4;have hv:VRel E μ5 (.bool (decide (e = .normal))) (.bool jump.isNone):=by rw [h4]; simp [VRel]
  have hx:Evol { h with wmin:=h.size } st3.h:=(Evol.trans hevA (Evol.put _ _ _)).trans hevB;obtain ⟨μ6,s1,s2,s3⟩:=qx rfl hr l1 l2 hv (hx.trans (Evol.put _ _ _));rw [hfin] at s1 s2 s3;exact ⟨_,μ6,rfl,s1,s2,s3⟩
 cases e with
 | normal=>exact hend none _ _ rfl rfl rfl rfl
 | ret=>exact hend (some .ret) _ _ rfl rfl rfl rfl
 | exit id=>exact hend (some (.exit id)) _ _ rfl rfl rfl rfl
theorem n8 {T:Nat→Option AFunc} (hT:Agrees E T) (hm:E.P.follows .mixedOrders=true):∀ n,CallOK E (e7 T n)
 | 0=>⟨by intro g args h v h' e; simp [e7] at e,by intro g i k args h v h' st p sl e; simp [e7] at e⟩
 | n+1=>by
  constructor
  ·intro g args h v h' e f hf μ w args' ha hr;rcases hT.fn f g hf with ⟨fn,h1,h4⟩ | ⟨fn,closed,hint,af,h1,h2,h3,h4⟩ | ⟨fn,af,F,h1,h2,h3,h4⟩;case inl=>exact callsIn_wide.2 (h4.run _ _ _ _ ((kh T _ _ _ _).2 ⟨n+1,e⟩) _ _ _ ha hr)
   case inr.inr =>
    simp only [e7,h2,h3,ae] at e;obtain ⟨⟨v0,ps,xs⟩,e1,e2⟩:=e;cases e2;exact callsIn_wide.2 (h4.run _ _ _ _ _ e1 _ _ _ ha hr)
   simp only [e7,h2,cFunc_round h3] at e
   have key:∀ (args:List AVal) (h:Heap) (v:AVal) (h':Heap),evFunc (e7 T n) n af args h=some (v,h')→∀ (μ:MM) (w:World) (args':Array Value),VRels E μ args args'.toList→Rel E μ h w →
     CallsIn (F0 none) 0 E.P f args' w (Ends E μ w v h'):=fun args h v h' e μ w args' ha hr =>
    func_sound (n8 hT hm n) (kw T n) hT.gid hm h1 h3 h4 e ha hr
   cases hcl:af.closed with
   | false=>rw [hcl] at e; exact key _ _ _ _ e _ _ _ ha hr
   | true =>
    rw [hcl] at e;simp only [wrapC,evClosed,if_true] at e;split at e;case isFalse=>cases e
    rename_i hu;split at e;case h_2=>cases e
    rename_i v0 h0 he;split at e;case isFalse=>cases e
    rename_i hv0;cases e;have hr0:Rel E [] ⟨[],0,0⟩ w:=⟨rfl,aj _,by simp,by simp,by simp,hr.tab.less fun i m _ hm=>by simp at hm⟩;refine CallsIn.mono (F:=F0 none) (n:=0) (key _ _ _ _ he [] w args' (oe (n:=0) (fun i hi=>absurd hi (by omega)) hu ha) hr0) fun e w' ⟨v',μ',h1,h2,h3,_⟩=>?_
    have hb:∀ k,k < w.heap.size→w'.heap[k]? = w.heap[k]?:=fun k hk=>h2.block k hk (fun h=>h) fun i m _ hm=>by simp at hm
    refine ⟨v',μ,h1,⟨h2.os,h2.tape,h2.output,h2.size,fun k hk _ _=>hb k hk,aj _,fun _ _=>.inl rfl,fun i m hi hm=>absurd (ah hm) (by omega)⟩,
     w9 (n:=0) (fun i hi=>absurd hi (by omega)) hv0 h3,hr.keep h2.size (fun i m hm=>hb _ (hr.lt i m hm)) fun k _ hk=>hb k hk⟩
  ·intro g i k args h v h' st p sl e hi μ w args' ha hr;obtain ⟨m,r,q1,q2,q3⟩:=hr.obj i _ hi;obtain ⟨ar,_,_,e1,_⟩:=q3.code;obtain ⟨af,e2,e3⟩:=hT.rnd g ar e1;simp only [e7,e2,e3] at e;exact round_sound (n8 hT hm n) (kw T n) hT.gid hm e1 e hi ha hr
end
end Go.Abs
