/-
  Texts joined.
-/
import Derived.Test.YtjmnbfijplhkfaaGreatDoorP0
import Derived.Test.YtjmnbfijplhkfaaGreatDoorP2
import Derived.Test.YtjmnbfijplhkfaaGreatDoorP3
import Derived.RangeFuncLeaves
import Derived.ChangeArms
import Derived.Handed
import Derived.Below
import Derived.KernelRfl
import Derived.Test.YtjmnbfijplhkfaaGreatDoorP1
set_option linter.unusedVariables false
set_option linter.unusedSimpArgs false
set_option maxRecDepth 100000
namespace Go.Abs
section
variable {E:Env}
theorem LoopRel.ren {μ μ':MM} {g:Nat} {st:LoopSt} {p:Option AExit} {sl:List (Nat × AVal)} {r:Loop} (h:LoopRel E μ g st p sl r) (F:Nat→Nat) (hm:∀ j ∈ AObj.ids (.loop g st p sl),j < μ.length→μ'[F j]? = μ[j]?) :
  LoopRel E μ' g st p (sl.map fun x=>(x.1,x.2.ren F)) r:=by
 refine ⟨h.code,h.st,h.pend,fun k x hk=>?_⟩;rw [cz,ae] at hk;obtain ⟨y,hy,rfl⟩:=hk;obtain ⟨v',h1,h2⟩:=h.slots k y hy;refine ⟨v',h1,qc F (fun i hi hl=>hm i ?_ hl) h2⟩;simp only [AObj.ids];exact nu (k:=k) (by rw [cz,hy]; rfl) hi
theorem wh {lo:Nat} {μ0 μ:MM} {h0 h:Heap} {w0 w:World} {v:AVal} {v':Value} (hlo:lo=w0.heap.size) (hr0:Rel E μ0 h0 w0) (hst:Step (fun k=>lo≤k) h.wmin μ0 w0 μ w) (hr:Rel E μ h w)
  (hv:VRel E μ v v') (hev:Evol { h0 with wmin:=h0.size } h) :
  ∃ μ',Step (fun _=>False) (dy h0 v h).2.wmin μ0 w0 μ' w∧VRel E μ' (dy h0 v h).1 v'∧Rel E μ' (dy h0 v h).2 w:=by
 have hX:∀ b,lo≤b→b < w0.heap.size→False:=fun b h1 h2=>by omega
 have hn0:μ0.length=h0.size:=hr0.len;unfold dy;split
 ·exact ⟨μ,hst.weaken (gc _ _) hX,hv,hr.same rfl rfl rfl⟩
 ·rename_i hw;have hst1:Step (fun _=>False) μ0.length μ0 w0 μ w:=hst.weaken (by omega) hX;have hkeep:∀ i,i < μ0.length→μ[i]? = μ0[i]?:=fun i hi=>(hst1.old i hi).resolve_right fun ⟨a,_⟩=>by omega
  have hblk:∀ (i:Nat) (m:M),μ0[i]? = some (some m)→w.heap[m.blk]? = w0.heap[m.blk]?:=fun i m hm=>by
   refine hst1.block _ (hr0.lt i m hm) (fun h=>h) fun j mj hj hmj=>?_
   exact absurd (aj hmj) (by omega)
  split
  ·rename_i hu;refine ⟨μ0,⟨hst1.os,hst1.tape,hst1.output,hst1.size,?_,ai _,fun _ _=>.inl rfl,fun i m hi hm=>absurd (aj hm) (by omega)⟩,yf (fun i hi=>hkeep i (by omega)) hu hv,hr0.keep hst1.size hblk⟩;intro k hk hx _;exact hst1.block k hk hx fun j mj hj hmj=>absurd (aj hmj) (by omega)
  ·simp only;split
   ·rename_i hok;generalize hK:reach h h0.size 1000 v.ids []=K at hok ⊢;have hspec:=ry h h0.size 1000 v.ids [] (by simp) (by simp);rw [hK] at hspec;obtain ⟨hnd,hge⟩:=hspec;rw [al] at hok
    have hok':∀ i ∈ v.ids++K.flatMap fun i=>((h.get i).map AObj.ids).getD [],i < h0.size∨i ∈ K:=fun i hi=>by have:=hok i hi;simpa using this
    let F:Nat→Nat:=fun i=>if i < h0.size then i else h0.size+idxIn i K
    let μ2:MM:=μ0++K.map fun i=>(μ[i]?).getD none
    have hold:∀ i,i < h0.size→μ2[i]? = μ0[i]?:=fun i hi=>ag (by omega)
    have hnew:∀ j,μ2[h0.size+j]? = (K[j]?).map fun i=>(μ[i]?).getD none:=fun j=>by
     show (μ0++_)[_]? = _
     rw [ak (by omega),hn0,pg,cz]
    have hpull:∀ (i:Nat) (m:M),μ2[i]? = some (some m)→∃ p,μ[p]? = some (some m)∧((i < h0.size∧p=i)∨(h0.size≤i∧h0.size≤p∧K[i - h0.size]? = some p)):=fun i m hm=>by
     rcases bi i h0.size with hi | hi
     ·exact ⟨i,by rw [hkeep i (by omega),← hold i hi]; exact hm,.inl ⟨hi,rfl⟩⟩
     ·obtain ⟨j,rfl⟩:=Nat.exists_eq_add_of_le hi;rw [hnew] at hm;rw [ae] at hm;obtain ⟨p,hp,hm⟩:=hm;refine ⟨p,?_,.inr ⟨by omega,hge p (bz hp),by rw [pg]; exact hp⟩⟩;cases hq:μ[p]? with
      | none=>rw [hq] at hm; cases hm
      | some x=>rw [hq] at hm; simp at hm; rw [hm]
    have hF:∀ i,(i < h0.size∨i ∈ K)→i < μ.length→μ2[F i]? = μ[i]?:=fun i hi hl=>by
     by_cases h1:i < h0.size
     ·show μ2[if i < h0.size then i else _]? = _
      rw [if_pos h1,hold i h1,hkeep i (by omega)]
     ·have h2:i ∈ K:=hi.resolve_left h1;show μ2[if i < h0.size then i else _]? = _;rw [if_neg h1,hnew,idxIn_get h2];simp [ah hl]
    have hl2:Later μ0 μ2:=⟨by simp [μ2],fun i hi=>.inl (hold i (by omega))⟩;refine ⟨μ2,?_,?_,?_⟩
    ·refine ⟨hst1.os,hst1.tape,hst1.output,hst1.size,?_,hl2.len,fun i hi=>.inl (hold i (by omega)),?_⟩
     ·intro k hk hx _;exact hst1.block k hk hx fun j mj hj hmj=>absurd (aj hmj) (by omega)
     ·intro i m hi hm;obtain ⟨p,hp,h1 | h1⟩:=hpull i m hm
      ·omega
      ·rcases hst1.new p m (by omega) hp with h2 | ⟨r,m0,h2,h3,_⟩
       ·exact .inl h2
       ·exact absurd (aj h3) (by omega)
    ·exact qc F (fun i hi hl=>hF i (hok' i (fw _ hi)) hl) hv
    ·constructor
     ·simp [μ2,hn0,Heap.size]
     ·have:=hr0.bs; simp; omega
     ·intro i o ho;simp only at ho;rcases bi i h0.size with hi | hi
      ·rw [ag hi] at ho;refine (hr0.obj i o ho).keep hl2 fun m hm=>⟨by rw [hold i hi]; exact hm,hblk i m hm⟩
      ·obtain ⟨j,rfl⟩:=Nat.exists_eq_add_of_le hi;rw [ak hi,show h0.size+j - h0.objs.length=j from pg ..,cz,ae] at ho;obtain ⟨p,hp,ho⟩:=ho;have hpg:=hge p (bz hp);have hbs:=hr0.bs;have hbase:h.base=h0.base:=hev.base;have hbs':h0.base≤h0.size:=hbs;cases hq:h.get p with
       | none =>
        rw [hq] at ho;simp at ho; subst ho;have hq':h.objs[p]? = none:=hq
        have:μ[p]? = none:=by rw [List.getElem?_eq_none_iff] at hq' ⊢;rw [hr.len]; exact hq'
        show μ2[_]? = _
        rw [hnew,hp]; simp [this]
       | some o' =>
        rw [hq] at ho;simp at ho; subst ho;have hids:∀ i ∈ o'.ids,i < μ.length→μ2[F i]? = μ[i]?:=fun i hi hl=>hF i (hok' i (gx _ (eu.2 ⟨p,bz hp,by rw [hq]; simpa using hi⟩))) hl
        have hm2:∀ x,μ[p]? = some x→μ2[h0.size+j]? = some x:=fun x hx=>by rw [hnew,hp]; simp [hx]
        have hor:=hr.obj p o' hq;cases o' with
        | dead=>exact hm2 _ hor
        | cells esz cs =>
         obtain ⟨m,c,e,fr,h1,h2,h3,h4,h5,h6,h7⟩:=hor;refine ⟨m,c,e,fr,hm2 _ h1,h2,h3,h4,by rw [zk]; exact h5,?_,fun _=>h7 (by omega)⟩;intro k x hk;change (AVal.renL F cs)[k]? = _ at hk;rw [renL_get,ae] at hk;obtain ⟨y,hy,rfl⟩:=hk;obtain ⟨k1,y',k2,k3⟩:=h6 k y hy;refine ⟨(isOne_ren F y).trans k1,y',k2,qc F (fun i hi hl=>hids i (nu hy hi) hl) k3⟩
        | map es clock =>
         obtain ⟨m,es',h1,h2,h3,h4⟩:=hor;refine ⟨m,es',hm2 _ h1,h2,by rw [gk]; exact h3,?_⟩;intro k x hk;rw [cz,ae] at hk;obtain ⟨y,hy,rfl⟩:=hk;obtain ⟨y',k1,k2,k3,k4⟩:=h4 k y hy
         have hin:∀ i,i ∈ y.1.ids∨i ∈ y.2.1.ids→i ∈ AObj.ids (.map es clock):=fun i hi=>by simp only [AObj.ids,eu,bp];exact ⟨y,bz hy,hi⟩
         exact ⟨y',k1,qc F (fun i hi hl=>hids i (hin i (.inl hi)) hl) k2,qc F (fun i hi hl=>hids i (hin i (.inr hi)) hl) k3,k4⟩
        | iter s pos =>
         obtain ⟨m,h1,h2⟩:=hor;exact ⟨m,hm2 _ h1,h2⟩
        | mapIter r a b c =>
         obtain ⟨m,r',⟨h1,h0⟩,h2,h3⟩:=hor;refine ⟨m,r',⟨hm2 _ h1,h0⟩,h2,?_⟩;have h4:=qc F (fun i hi hl=>hids i (by cases r <;> exact hi) hl) h3;cases r <;> simpa [AVal.ren] using h4
        | loop g st pd sl =>
         obtain ⟨m,r,h1,h2,h3⟩:=hor;exact ⟨m,r,hm2 _ h1,h2,h3.ren F hids⟩
     ·intro i j mi mj hij hi hmi hmj;obtain ⟨p,hp,hp'⟩:=hpull i mi hmi;obtain ⟨q,hq,hq'⟩:=hpull j mj hmj;have hbs:h0.base≤h0.size:=hr0.bs;have hbase:h.base=h0.base:=hev.base;refine hr.sep p q mi mj ?_ (by simp only at hi; omega) hp hq;intro e;rcases hp' with ⟨a1,a2⟩ | ⟨a1,a2,a3⟩ <;> rcases hq' with ⟨b1,b2⟩ | ⟨b1,b2,b3⟩
      ·omega
      ·omega
      ·omega
      ·subst e;have:=(List.getElem?_inj (aj a3) hnd).1 (a3.trans b3.symm);omega
     ·intro i m hm;obtain ⟨p,hp,_⟩:=hpull i m hm;exact hr.lt p m hp
   ·refine ⟨μ,?_,hv,hr.same rfl rfl rfl⟩;exact hst1.fresh _
theorem enter_get:∀ (args:List AVal) (i t:Nat),sget (enter i args) t=if i≤t then (args[t - i]?).map Slot.val else none
 | [],i,t=>by simp [enter,sget]
 | v :: r,i,t=>by
  simp only [enter,sget];split
  ·rename_i e; subst e; simp
  ·rename_i hne;rw [enter_get r (i+1) t];by_cases h1:i+1≤t
   ·rw [if_pos h1,if_pos (by omega),show t - i=(t - (i+1))+1 by omega,jq]
   ·rw [if_neg h1,if_neg (by omega)]
def RndOK (E:Env):List (Nat × ARound)→Prop
 | []=>True
 | p :: r=>E.rnd p.1=some p.2∧RndOK E r
theorem RndOK.of {l:List (Nat × ARound)} (h:RndOK E l):∀ p ∈ l,E.rnd p.1=some p.2:=by
 induction l with
 | nil=>simp
 | cons a r ih =>
  intro p hp;rcases br.1 hp with rfl | hp
  ·exact h.1
  ·exact ih h.2 p hp
structure LibOK (E:Env) (f:FuncId) (fn:Func) (F:List AVal→Heap→Option (AVal × List (Nat × AObj) × List AObj)):Prop where
 name:fn.name ≠ "runtime.NumGoroutine"
 body:fn.body.isSome=true
 run:∀ args h v ps xs,F args h=some (v,ps,xs)→∀ (μ:MM) (w:World) (args':Array Value),VRels E μ args args'.toList→Rel E μ h w→Calls E.P f args' w (Ends E μ w v (h.puts ps xs))
structure ByOK (E:Env) (T:Nat→Option AFunc) (f g:Nat) (fn:Func):Prop where
 name:fn.name ≠ "runtime.NumGoroutine"
 body:fn.body.isSome=true
 run:∀ args h v h',xCall T g args h=some (v,h')→∀ (μ:MM) (w:World) (args':Array Value),VRels E μ args args'.toList→Rel E μ h w→Calls E.P f args' w (Ends E μ w v h')
def FnOK (E:Env) (T:Nat→Option AFunc) (f g:Nat):Prop :=
 (∃ fn,E.P.funcs[f]? = some fn∧ByOK E T f g fn) ∨
 (∃ fn closed hint af,E.P.funcs[f]? = some fn∧T g=some af∧td E closed hint fn=some af∧RndOK E af.body.rounds) ∨
 (∃ fn af F,E.P.funcs[f]? = some fn∧T g=some af∧af.round=some (.lib F)∧LibOK E f fn F)
structure Agrees (E:Env) (T:Nat→Option AFunc):Prop where
 fn:∀ f g,E.gid f=some g→FnOK E T f g
 rnd:∀ g ar,E.rnd g=some ar→∃ af,T g=some af∧af.round=some (.round ar)
def AgreesL (E:Env) (T:Nat→Option AFunc):List (Nat × Nat)→Prop
 | []=>True
 | p :: r=>FnOK E T p.1 p.2∧AgreesL E T r
def ASpec.rnd:ASpec→Option ARound
 | .round r=>some r
 | .lib _=>none
def rndOf (T:Nat→Option AFunc) (g:Nat):Option ARound:=(T g).bind fun f=>f.round.bind ASpec.rnd
theorem agrees_of {P:Program} {T:Nat→Option AFunc} {l:List (Nat × Nat)} {room:Nat} (h:AgreesL ⟨P,fun f=>List.lookup f l,rndOf T,room⟩ T l):Agrees ⟨P,fun f=>List.lookup f l,rndOf T,room⟩ T:=by
 constructor
 ·intro f g hg;simp only at hg
  have:∀ {r:List (Nat × Nat)},AgreesL ⟨P,fun f=>List.lookup f l,rndOf T,room⟩ T r→List.lookup f r=some g→FnOK ⟨P,fun f=>List.lookup f l,rndOf T,room⟩ T f g:=by
   intro r;induction r with
   | nil=>intro _ h1; simp at h1
   | cons p r ih =>
    intro h1 h2;obtain ⟨a,b⟩:=p;simp only [AgreesL] at h1;rw [List.lookup_cons] at h2;split at h2
    ·rename_i e;rw [beq_iff_eq] at e;subst e;cases h2;exact h1.1
    ·exact ih h1.2 h2
  exact this h hg
 ·intro g ar hg;simp only [rndOf,jr] at hg;obtain ⟨af,h1,s,h2,h3⟩:=hg;cases s with
  | round r=>cases h3; exact ⟨af,h1,h2⟩
  | lib _=>cases h3
theorem Agrees.gid {T:Nat→Option AFunc} (h:Agrees E T):GidOK E:=fun f g hg=>by
 rcases h.fn f g hg with ⟨fn,h1,h4⟩ | ⟨fn,closed,hint,af,h1,h2,h3,_⟩ | ⟨fn,af,F,h1,_,_,h4⟩;case inl=>exact ⟨fn,h1,h4.name,h4.body⟩
 case inr.inr=>exact ⟨fn,h1,h4.name,h4.body⟩
 refine ⟨fn,h1,?_⟩;unfold td at h3;split at h3;case h_2=>cases h3
 rename_i c hb;split at h3;case h_2=>cases h3
 split at h3;case isFalse=>cases h3
 rename_i hn;exact ⟨hn.2,by rw [hb]; rfl⟩
theorem cFunc_round {closed:Bool} {hint:Hint} {fn:Func} {af:AFunc} (h:td E closed hint fn=some af):af.round=none:=by
 unfold td at h;split at h;case h_2=>cases h
 split at h;case h_2=>cases h
 split at h;case isFalse=>cases h
 cases h;rfl
theorem wi {lo:Nat} {μ μ0:MM} {w0:World} {s:Slots} {h:Heap} {a:Act} {fn:Func} {rs:List ARes} {vs:List AVal} (hrs:cRess E.P fn.results.toList=some rs) (hvs:resultsL s h rs=some vs) {R:Ending→World→Prop}
  (hR:∀ v' w',VRel E μ (tupled vs) v'→Step (fun k=>lo≤k) h.wmin μ0 w0 μ w'→Rel E μ h w'→R (.returned v') w') :
  ∀ (l:List Nat) (νv:Nat→Nat) (w:World),Step (fun k=>lo≤k) h.wmin μ0 w0 μ w→Rel E μ h w→FRel E lo ⟨νv,l⟩ μ (sget s) a.tmps w→LeavesInM (F0 none) 0 E.P fn a.tmps R (l.map markOf) .returning w
 | [],νv,w,hst,hr,hf=>by obtain ⟨v',r1,r2⟩:=results_rel hf hr hrs hvs;exact ⟨v',r1,hR v' w r2 hst hr⟩
 | r :: l,νv,w,hst,hr,hf=>by
  have hmem:r ∈ (⟨νv,r :: l⟩:Fr).ds:=bh ..;have hnd:=hf.nodup;have hnd':=wd.1 hnd;obtain ⟨hlo,hblk⟩:=hf.ds r hmem;have hw:w.putObj r (.deferred none)=di w r (.deferred none):=rfl;refine ⟨by simp,.inl ⟨r,w.putObj r (.deferred none),rfl,run_takeDeferred hblk,wi hrs hvs hR l νv _ ?_ ?_ ?_⟩⟩
  ·refine hst.trans (Step.mk rfl rfl rfl (by simp) (fun k hk hx _=>?_) (ai _) (fun _ _=>.inl rfl) fun i m hi hm=>absurd (aj hm) (by omega)) (ai _);rw [hw];exact da (by intro e; subst e; exact hx hlo)
  ·exact hr.keep (by simp) fun i m hm=>by rw [hw]; exact da ((hf.sepd r hmem).1 i m hm).symm
  ·refine ⟨hf.val,hf.undef,fun t cs hv=>?_,hf.loc,hf.sepv,hf.sepm,fun q hq=>⟨(hf.ds q (bu _ hq)).1,?_⟩,fun q hq=>hf.sepd q (bu _ hq),hnd'.2⟩
   ·obtain ⟨h1,h2,c,e,fr,h3,h4⟩:=hf.var t cs hv;refine ⟨h1,h2,c,e,fr,?_,h4⟩;rw [hw];exact (da ((hf.sepd r hmem).2 t cs hv).symm).trans h3
   ·rw [hw];refine (da ?_).trans (hf.ds q (bu _ hq)).2;intro e; subst e; exact hnd'.1 hq
theorem eqbE_eq:∀ {l m:List (AVal × AVal × Nat)},eqbE l m=true→l=m
 | [],[],_=>rfl
 | [],_ :: _,h=>by simp [eqbE] at h
 | _ :: _,[],h=>by simp [eqbE] at h
 | (k,v,b) :: r,(k',v',b') :: r',h=>by simp only [eqbE,av,decide_eq_true_eq] at h;rw [AVal.eq_of h.1.1.1,AVal.eq_of h.1.1.2,h.1.2,eqbE_eq h.2]
theorem eqbS_eq:∀ {l m:List (Nat × AVal)},eqbS l m=true→l=m
 | [],[],_=>rfl
 | [],_ :: _,h=>by simp [eqbS] at h
 | _ :: _,[],h=>by simp [eqbS] at h
 | (k,v) :: r,(k',v') :: r',h=>by simp only [eqbS,av,decide_eq_true_eq] at h;rw [h.1.1,AVal.eq_of h.1.2,eqbS_eq h.2]
theorem AObj.eq_of {a b:AObj} (h:a.eqb b=true):a=b:=by
 cases a <;> cases b <;> simp only [AObj.eqb,av,decide_eq_true_eq,am] at h
 ·rfl
 ·rw [h.1,AVal.eqL_of h.2]
 ·rw [eqbE_eq h.1,h.2]
 ·rw [h.1,h.2]
 ·rw [h.1.1.1,h.1.1.2,h.1.2,h.2]
 ·rw [h.1.1.1,h.1.1.2,h.1.2,eqbS_eq h.2]
theorem eqbO_eq:∀ {l m:List AObj},eqbO l m=true→l=m
 | [],[],_=>rfl
 | [],_ :: _,h=>by simp [eqbO] at h
 | _ :: _,[],h=>by simp [eqbO] at h
 | a :: r,b :: r',h=>by simp only [eqbO,av] at h;rw [AObj.eq_of h.1,eqbO_eq h.2]
theorem eqbR_eq {x y:AVal × Heap} (h:eqbR x y=true):x=y:=by obtain ⟨v,o,b,w⟩:=x;obtain ⟨v',o',b',w'⟩:=y;simp only [eqbR,av,decide_eq_true_eq] at h;rw [AVal.eq_of h.1.1.1,eqbO_eq h.1.1.2,h.1.2,h.2]
theorem allSame_all {l:List (Option (AVal × Heap))} {r:AVal × Heap} (h:allSame l=some r):∀ x ∈ l,x=some r:=by
 unfold allSame at h;split at h;case h_2=>cases h
 split at h;case isFalse=>cases h
 rename_i hh;cases h;rw [al] at hh;intro x hx;rcases br.1 hx with rfl | hx
 ·rfl
 ·have:=hh x hx;split at this
  ·rw [eqbR_eq this]
  ·cases this
theorem func_sound {call:CallSem} {n:Nat} (hc:CallOK E call) (hev0:CallEvol call) (hg:GidOK E) (hm:E.P.follows .mixedOrders=true) {f:FuncId} {fn:Func} {closed:Bool} {hint:Hint} {af:AFunc} (hf:E.P.funcs[f]? = some fn) (hcf:td E closed hint fn=some af) (hrd:RndOK E af.body.rounds)
  {args:List AVal} {h:Heap} {v:AVal} {h':Heap} (hev:evFunc call n af args h=some (v,h')) {μ:MM} {w:World} {args':Array Value} (ha:VRels E μ args args'.toList) (hr:Rel E μ h w) :
  CallsIn (F0 none) 0 E.P f args' w (Ends E μ w v h'):=by
 unfold td at hcf;split at hcf;case h_2=>cases hcf
 rename_i c hb;split at hcf;case h_2=>cases hcf
 rename_i ac rs hac hrs;split at hcf;case isFalse=>cases hcf
 rename_i hsz;cases hcf;unfold evFunc at hev;split at hev;case isFalse=>cases hev
 rename_i hlen;simp only at hlen hev;have hal:args'.size=args.length:=by have:=ha.length; simp at this; exact this.symm
 have hat:At E w.heap.size fn.ntmps μ w [] (enter 0 args) { h with wmin:=h.size } { tmps:=args'++Array.replicate (fn.ntmps - args'.size) undef,defers:=[] } w:=by
  refine ⟨μ,⟨fun _=>0,[]⟩,Step.refl _ _ _ _,hr.same rfl rfl rfl,?_,?_,rfl,ai _⟩
  ·have hval:∀ (t:Nat) (x:Slot),sget (enter 0 args) t=some x→∃ v,x = .val v∧args[t]? = some v:=fun t x hx=>by rw [enter_get] at hx;simp at hx;obtain ⟨v,h1,h2⟩:=hx;exact ⟨v,h2.symm,h1⟩
   constructor
   ·intro t v hv;obtain ⟨v1,e,h1⟩:=hval t _ hv;cases e;obtain ⟨v',h2,h3⟩:=ha.get h1;refine ⟨v',?_,h3⟩;have hlt:=aj h1;rw [nh (by omega)];simpa using h2
   ·intro t hx; obtain ⟨_,e,_⟩:=hval t _ hx; cases e
   ·intro t cs hx; obtain ⟨_,e,_⟩:=hval t _ hx; cases e
   ·intro t t' o cs hx; obtain ⟨_,e,_⟩:=hval t _ hx; cases e
   ·intro t t' cs cs' _ hx; obtain ⟨_,e,_⟩:=hval t _ hx; cases e
   ·intro t cs i m hx; obtain ⟨_,e,_⟩:=hval t _ hx; cases e
   ·intro r hr; cases hr
   ·intro r hr; cases hr
   ·exact List.nodup_nil
  ·simp; omega
 refine callsIn_of_wp_marks hf hb trivial ?_
 have leave:∀ (y:AExit × St),Evol { h with wmin:=h.size } y.2.h→funcEnd ⟨closed,ac.wild,fn.params.size+fn.nfree,fn.ntmps,rs,ac,none⟩ h y=some (v,h')→∀ a' w',At E w.heap.size fn.ntmps μ w [] y.2.s y.2.h a' w' →
   bodyPostM (F0 none) 0 E.P fn (Ends E μ w v h') y.1.toX a' w':=by
  intro y hevol he a' w' hat'
  have key:((resultsL y.2.s y.2.h rs).map fun vs=>dy h (tupled vs) y.2.h)=some (v,h')→LeavesInM (F0 none) 0 E.P fn a'.tmps (Ends E μ w v h') a'.defers .returning w':=by intro h2;rw [ae] at h2;obtain ⟨vs,h2,h3⟩:=h2;obtain ⟨μ1,ν1,k1,k2,k3,k4,k5,k6⟩:=hat';rw [k5,co];refine wi hrs h2 (fun v' w2 r2 k1' k2'=>?_) ν1.ds ν1.v w' k1 k2 k3;obtain ⟨μ2,s1,s2,s3⟩:=wh rfl hr k1' k2' r2 hevol;rw [h3] at s1 s2 s3;exact ⟨v',μ2,rfl,s1,s2,s3⟩
  obtain ⟨x,st⟩:=y;cases x with
  | normal=>exact key he
  | ret=>exact key he
  | exit id=>simp [funcEnd] at he
 split at hev
 ·split at hev;case h_2=>cases hev
  rename_i l hl;refine outs_sound hc hev0 hg hm false (fun _=>rfl) n _ _ _ hac (fun _=>hrd.of) _ _ hl _ _ _ hat fun y hy a' w' hat'=>?_
  have hall:=allSame_all hev;exact leave y (outs_evol hev0 n _ _ _ hl y hy) (hall _ (o7 hy)) a' w' hat'
 ·split at hev;case h_2=>cases hev
  rename_i x hx;exact rv hc hev0 hg hm false (fun _=>rfl) n _ _ _ hac (fun _=>hrd.of) _ _ _ hx _ _ _ hat fun a' w' hat'=>leave x (od hev0 n _ _ _ _ hx) hev a' w' hat'
def Holds (E:Env) (μ:MM) (s:Slots) (tmps:Array Value):Prop :=
 ∀ (t:Nat) (x:Slot),sget s t=some x→∃ v,x = .val v∧∃ v',tmps[t]? = some v'∧VRel E μ v v'
theorem zaj {μ:MM} {tmps:Array Value}:∀ {sl:List (Nat × AVal)},(∀ (k:Nat) (x:Nat × AVal),sl[k]? = some x→∃ v',tmps[x.1]? = some v'∧VRel E μ x.2 v')→Holds E μ (ofCaps sl) tmps
 | [],_,t,x,h=>by simp [ofCaps,sget] at h
 | (u,v) :: sl,hs,t,x,h=>by
  simp only [ofCaps,sget] at h;split at h
  ·rename_i e;cases h;obtain ⟨v',h1,h2⟩:=hs 0 (u,v) rfl;simp only at h1;exact ⟨v,rfl,v',by rw [← e]; exact h1,h2⟩
  ·exact zaj (fun k x hk=>hs (k+1) x (by simpa using hk)) t x h
theorem zak {μ:MM}:∀ {ps:List Nat} {as:List AVal} {as':List Value} {s:Slots} {tmps:Array Value},VRels E μ as as'→(∀ t ∈ ps,t < tmps.size)→Holds E μ s tmps →
  Holds E μ (setArgs ps as s) ((ps.zip as').foldl (fun tmps (t,a)=>tmps.setIfInBounds t a) tmps)∧((ps.zip as').foldl (fun tmps (t,a)=>tmps.setIfInBounds t a) tmps).size=tmps.size
 | [],as,as',s,tmps,_,_,h=>by cases as <;> exact ⟨h,rfl⟩
 | t :: ts,[],as',s,tmps,ha,_,h=>by simp only [VRels] at ha;subst ha;exact ⟨h,rfl⟩
 | t :: ts,v :: vs,as',s,tmps,ha,hp,h=>by
  simp only [VRels] at ha;obtain ⟨v',r',rfl,h1,h2⟩:=ha;simp only [setArgs,List.zip_cons_cons,List.foldl_cons];have:=zak (ps:=ts) (as:=vs) (as':=r') (s:=(t,.val v) :: s) (tmps:=tmps.setIfInBounds t v') h2 (fun u hu=>by simp; exact hp u (bu _ hu)) (fun u x hx=>?_)
  ·refine ⟨this.1,this.2.trans (by simp)⟩
  ·simp only [sget] at hx;have ht:=hp t (bh ..);split at hx
   ·rename_i e;cases hx;subst e;exact ⟨v,rfl,v',by simp [ht],h1⟩
   ·rename_i hne;obtain ⟨v2,e2,v3,h3,h4⟩:=h u x hx;exact ⟨v2,e2,v3,by rw [dx hne]; exact h3,h4⟩
theorem At.record {lo nt:Nat} {μ0:MM} {w0:World} {ds:List Deferred} {s:Slots} {h:Heap} {a:Act} {w:World} (hat:At E lo nt μ0 w0 ds s h a w) {i g:Nat} {st:LoopSt} {p:Option AExit} {sl:List (Nat × AVal)} (hi:h.get i=some (.loop g st p sl)) (hb:h.base≤i)
  {m0:M} (hm0:μ0[i]? = some (some m0)) (g2:Nat) (st2:LoopSt) (p2:Option AExit) (sl2:List (Nat × AVal)) :
  ∃ r,w.heap[m0.blk]? = some (.loop r)∧st.is r.state∧∀ r2:Loop,(∀ μ,LoopRel E μ g st p sl r→LoopRel E μ g2 st2 p2 sl2 r2)→At E lo nt μ0 w0 ds s (h.put i (.loop g2 st2 p2 sl2)) a (w.putObj m0.blk (.loop r2)):=by
 obtain ⟨μ,ν,k1,k2,k3,k4,k5,k6⟩:=hat;obtain ⟨m,r,q1,q2,q3⟩:=k2.obj i _ hi
 have hm:m=m0:=by
  rcases k1.old i (aj hm0) with q | ⟨_,q⟩
  ·rw [q,hm0] at q1; cases q1; rfl
  ·rw [q] at q1; cases q1
 subst hm;refine ⟨r,q2,q3.st,fun r2 hr2=>?_⟩;have hw:w.putObj m.blk (.loop r2)=di w m.blk (.loop r2):=rfl;rw [hw];refine ⟨μ,ν,(k1.trans (Step.put q1 (gc _ _) _) (km _ _)),k2.put hb q1 ?_,?_,k4,k5,by simpa [di] using k6⟩
 ·exact ⟨m,r2,q1,ga (k2.lt i m q1),hr2 μ q3⟩
 ·refine k3.keep (Later.refl μ) (fun t cs hv=>da (k3.sepm t cs i m hv q1)) (fun t cs j m' hv hj hm'=>absurd (aj hm') (by omega)) fun r hr=>⟨da ((k3.sepd r hr).1 i m q1),fun j m' hj hm'=>absurd (aj hm') (by omega)⟩
theorem round_sound {call:CallSem} {n g:Nat} (hc:CallOK E call) (hev0:CallEvol call) (hg:GidOK E) (hm:E.P.follows .mixedOrders=true) {ar:ARound} (hrnd:E.rnd g=some ar) {i k:Nat} {args:List AVal} {h:Heap} {v:AVal} {h':Heap} {st:LoopSt} {p:Option AExit} {sl:List (Nat × AVal)}
  (hev:evRound call n g ar (.ptr (some (i,k)) :: args) h=some (v,h')) (hi:h.get i=some (.loop g st p sl)) {μ:MM} {w:World} {args':Array Value} (ha:VRels E μ args args'.toList) (hr:Rel E μ h w) :
  ∃ (m:M) (r:Loop),μ[i]? = some (some m)∧w.heap[m.blk]? = some (.loop r)∧args'.size=r.params.size ∧
   RoundIn (F0 none) 0 E.P m.blk r.fn ((r.params.zip args').foldl (fun tmps (t,a)=>tmps.setIfInBounds t a) r.tmps) r.assign r.body w (Ends E μ w v h'):=by
 obtain ⟨m,r,q1,q2,q3⟩:=hr.obj i _ hi;obtain ⟨ar',ha1,hb1,e1,e2,e3,e4,e5⟩:=q3.code;rw [hrnd] at e1;cases e1;have hal:args'.size=args.length:=by have:=ha.length; simp at this; exact this.symm
 unfold evRound at hev;simp only at hev;split at hev;case isFalse=>cases hev
 rename_i hlen;split at hev;case h_2=>cases hev
 rename_i s hs;split at hev;case h_2=>cases hev
 rename_i st1 hst1
 have hps:r.params.size=args'.size:=by rw [hal,hlen.1,← e2]; simp
 refine ⟨m,r,q1,q2,hps.symm,?_⟩
 have hs':s=setArgs ar.params args (ofCaps sl):=by unfold kk at hs;rw [hi] at hs;cases hs; rfl
 subst hs'
 have hfold:(r.params.zip args').foldl (fun tmps (t,a)=>tmps.setIfInBounds t a) r.tmps=(ar.params.zip args'.toList).foldl (fun tmps (t,a)=>tmps.setIfInBounds t a) r.tmps:=by rw [← e2,← Array.foldl_toList,Array.toList_zip]
 obtain ⟨hh,hsz⟩:=zak ha e3 (zaj q3.slots);rw [← hfold] at hh hsz;generalize (r.params.zip args').foldl (fun tmps (t,a)=>tmps.setIfInBounds t a) r.tmps=tmps at hh hsz ⊢
 have hat:At E w.heap.size r.tmps.size μ w [] (setArgs ar.params args (ofCaps sl)) { h with wmin:=h.size } { tmps:=tmps,defers:=[] } w:=by
  refine ⟨μ,⟨fun _=>0,[]⟩,Step.refl _ _ _ _,hr.same rfl rfl rfl,?_,hsz,rfl,ai _⟩;constructor
  ·intro t v hv;obtain ⟨v1,e,h1⟩:=hh t _ hv;cases e;exact h1
  ·intro t hx; obtain ⟨_,e,_⟩:=hh t _ hx; cases e
  ·intro t cs hx; obtain ⟨_,e,_⟩:=hh t _ hx; cases e
  ·intro t t' o cs hx; obtain ⟨_,e,_⟩:=hh t _ hx; cases e
  ·intro t t' cs cs' _ hx; obtain ⟨_,e,_⟩:=hh t _ hx; cases e
  ·intro t cs i m hx; obtain ⟨_,e,_⟩:=hh t _ hx; cases e
  ·intro r hr; cases hr
  ·intro r hr; cases hr
  ·exact List.nodup_nil
 refine roundIn_of_wpIn trivial ?_;show Code.wpIn (F0 (some m.blk)) 0 E.P r.assign _ _ _;unfold ku at hst1;split at hst1;case h_2=>cases hst1
 rename_i st2 he1;split at hst1;case h_2=>cases hst1
 rename_i g' p' sl' hgi;split at hst1;case isFalse=>cases hst1
 rename_i hgg;subst hgg;cases hst1;have hevA:=od hev0 n _ _ _ _ he1;refine rv hc hev0 hg hm true (fun h=>by cases h) n _ _ _ e4 (fun h=>by cases h) _ _ _ he1 _ _ _ hat fun a1 w1 hat1=>?_
 have hbi:st2.h.base≤i:=by rw [hevA.base]; exact hlen.2
 obtain ⟨r1,f1,f2,f3⟩:=hat1.record hgi hbi q1 g' .busy p' sl';refine ⟨_,run_beginRound f1 f2,?_⟩;have hat2:=f3 { r1 with state:=.busy } fun μ q=>⟨q.code,rfl,q.pend,q.slots⟩
 show Code.wpIn (F0 (some m.blk)) 0 E.P r.body _ _ _
 unfold roundOut at hev;split at hev;case h_2=>cases hev
 rename_i e st3 he2;split at hev;case h_2=>cases hev
 rename_i g3 st4 p4 sl4 hg4;split at hev;case isFalse=>cases hev
 rename_i hgg;subst hgg;have hfin:=dg hev;have hevB:=od hev0 n _ _ _ _ he2;refine rv hc hev0 hg hm true (fun h=>by cases h) n _ _ _ e5 (fun h=>by cases h) _ _ _ he2 _ _ _ hat2 fun a3 w3 hat3=>?_
 have hbi3:st3.h.base≤i:=by rw [hevB.base]; exact hbi
 obtain ⟨r3,j1,j2,j3⟩:=hat3.record hg4 hbi3 q1 g3 (if e = .normal then .ready else .done) (if e = .normal then none else some e) sl4
 have hend:∀ (jump:Option Code) (st5:LoopSt) (p5:Option AExit),st5=(if e = .normal then .ready else .done)→p5=(if e = .normal then none else some e)→jump=p5.map AExit.code→jump.isNone=decide (e = .normal) →
   ∃ v1 w',(Instr.endRound m.blk jump).run E.P w3 = .ok v1 w'∧Ends E μ w v h' (.returned v1) w':=by
  intro jump st5 p5 h1 h2 h3 h4;rw [← h1,← h2] at hfin;refine ⟨_,_,run_endRound jump j1,?_⟩
  have hst5:st5.is (if jump.isNone then .ready else .done:LoopState):=by rw [h4,h1];by_cases hn:e = .normal <;> simp [hn,LoopSt.is]
  have hat4:=j3 { r3 with state:=if jump.isNone then .ready else .done,pending:=jump } fun μ q=>⟨q.code,by rw [← h1]; exact hst5,by rw [← h2]; exact h3,q.slots⟩
  rw [← h1,← h2] at hat4;obtain ⟨μ5,ν5,l1,l2,l3,l4,l5,l6⟩:=hat4;have hv:VRel E μ5 (.bool (decide (e = .normal))) (.bool jump.isNone):=by rw [h4]; simp [VRel]
  have hx:Evol { h with wmin:=h.size } st3.h:=(Evol.trans hevA (Evol.put _ _ _)).trans hevB;obtain ⟨μ6,s1,s2,s3⟩:=wh rfl hr l1 l2 hv (hx.trans (Evol.put _ _ _));rw [hfin] at s1 s2 s3;exact ⟨_,μ6,rfl,s1,s2,s3⟩
 cases e with
 | normal=>exact hend none _ _ rfl rfl rfl rfl
 | ret=>exact hend (some .ret) _ _ rfl rfl rfl rfl
 | exit id=>exact hend (some (.exit id)) _ _ rfl rfl rfl rfl
theorem vh {T:Nat→Option AFunc} (hT:Agrees E T) (hm:E.P.follows .mixedOrders=true):∀ n,CallOK E (fj T n)
 | 0=>⟨by intro g args h v h' e; simp [fj] at e,by intro g i k args h v h' st p sl e; simp [fj] at e⟩
 | n+1=>by
  constructor
  ·intro g args h v h' e f hf μ w args' ha hr;rcases hT.fn f g hf with ⟨fn,h1,h4⟩ | ⟨fn,closed,hint,af,h1,h2,h3,h4⟩ | ⟨fn,af,F,h1,h2,h3,h4⟩;case inl=>exact callsIn_wide.2 (h4.run _ _ _ _ ((li T _ _ _ _).2 ⟨n+1,e⟩) _ _ _ ha hr)
   case inr.inr =>
    simp only [fj,h2,h3,ae] at e;obtain ⟨⟨v0,ps,xs⟩,e1,e2⟩:=e;cases e2;exact callsIn_wide.2 (h4.run _ _ _ _ _ e1 _ _ _ ha hr)
   simp only [fj,h2,cFunc_round h3] at e
   have key:∀ (args:List AVal) (h:Heap) (v:AVal) (h':Heap),evFunc (fj T n) n af args h=some (v,h')→∀ (μ:MM) (w:World) (args':Array Value),VRels E μ args args'.toList→Rel E μ h w →
     CallsIn (F0 none) 0 E.P f args' w (Ends E μ w v h'):=fun args h v h' e μ w args' ha hr =>
    func_sound (vh hT hm n) (uu T n) hT.gid hm h1 h3 h4 e ha hr
   cases hcl:af.closed with
   | false=>rw [hcl] at e; exact key _ _ _ _ e _ _ _ ha hr
   | true =>
    rw [hcl] at e;simp only [wrapC,evClosed,if_true] at e;split at e;case isFalse=>cases e
    rename_i hu;split at e;case h_2=>cases e
    rename_i v0 h0 he;split at e;case isFalse=>cases e
    rename_i hv0;cases e;have hr0:Rel E [] ⟨[],0,0⟩ w:=⟨rfl,ai _,by simp,by simp,by simp⟩;refine CallsIn.mono (F:=F0 none) (n:=0) (key _ _ _ _ he [] w args' (oe (n:=0) (fun i hi=>absurd hi (by omega)) hu ha) hr0) fun e w' ⟨v',μ',h1,h2,h3,_⟩=>?_
    have hb:∀ k,k < w.heap.size→w'.heap[k]? = w.heap[k]?:=fun k hk=>h2.block k hk (fun h=>h) fun i m _ hm=>by simp at hm
    refine ⟨v',μ,h1,⟨h2.os,h2.tape,h2.output,h2.size,fun k hk _ _=>hb k hk,ai _,fun _ _=>.inl rfl,fun i m hi hm=>absurd (aj hm) (by omega)⟩,
     yf (n:=0) (fun i hi=>absurd hi (by omega)) hv0 h3,hr.keep h2.size fun i m hm=>hb _ (hr.lt i m hm)⟩
  ·intro g i k args h v h' st p sl e hi μ w args' ha hr;obtain ⟨m,r,q1,q2,q3⟩:=hr.obj i _ hi;obtain ⟨ar,_,_,e1,_⟩:=q3.code;obtain ⟨af,e2,e3⟩:=hT.rnd g ar e1;simp only [fj,e2,e3] at e;exact round_sound (vh hT hm n) (uu T n) hT.gid hm e1 e hi ha hr
theorem x_sound {T:Nat→Option AFunc} (hT:Agrees E T) (hm:E.P.follows .mixedOrders=true) {g:Nat} {args:List AVal} {h:Heap} {v:AVal} {h':Heap} (e:xCall T g args h=some (v,h')) {f:FuncId} (hf:E.gid f=some g) {μ:MM} {w:World} {args':Array Value} (ha:VRels E μ args args'.toList) (hr:Rel E μ h w) :
  Calls E.P f args' w (Ends E μ w v h'):=by
 obtain ⟨n,hn⟩:=(li T _ _ _ _).1 e;exact callsIn_wide.1 ((vh hT hm n).fn g args h v h' hn f hf μ w args' ha hr)
end
end Go.Abs

namespace Go.Abs
open Go.RowKit
inductive Sh where
 | bool
 | int (k:IntKind)
 | str
 | slice (e:Sh)
 | struct (fs:List Sh)
mutual
def Sh.size:Sh→Nat
 | .struct fs=>Sh.sizes fs
 | _=>1
def Sh.sizes:List Sh→Nat
 | []=>0
 | s :: r=>s.size+Sh.sizes r
end
inductive Dat where
 | bool (b:Bool)
 | int (n:Int)
 | str (s:List UInt8)
 | nil
 | row (l:List Dat)
 | agg (l:List Dat)
abbrev gt:Nat:=140737488351232
mutual
def Has (h:Heap):Sh→Dat→List AVal→Prop
 | .bool,.bool b,cs=>cs=[.bool b]
 | .int k,.int n,cs=>cs=[.int k n]∧k.min≤n∧n≤k.max
 | .str,.str s,cs=>cs=[.str s]∧s.length≤gt
 | .slice _,.nil,cs=>cs=[.slice none 0 (some 0)]
 | .slice e,.row l,cs=>l.length≤gt∧∃ (i:Nat) (css:List (List AVal)),cs=[.slice (some (i,0)) l.length none]∧i < h.base∧css.length=l.length∧(h.get i=some (.cells e.size css.flatten)∨(l=[]∧h.get i=some .dead)) ∧
   ∀ (k:Nat) (d:Dat) (c:List AVal),l[k]? = some d→css[k]? = some c→Has h e d c
 | .struct fs,.agg l,cs=>HasL h fs l cs
 | _,_,_=>False
def HasL (h:Heap):List Sh→List Dat→List AVal→Prop
 | [],[],cs=>cs=[]
 | s :: r,d :: l,cs=>∃ a b,cs=a++b∧Has h s d a∧HasL h r l b
 | _,_,_=>False
end
mutual
theorem Has.cells {h:Heap}:∀ {s:Sh} {d:Dat} {cs:List AVal},Has h s d cs→cs.length=s.size∧∀ x ∈ cs,x.isOne=true
 | .bool,d,cs,hh=>by cases d <;> simp only [Has] at hh; subst hh; simp [Sh.size,AVal.isOne]
 | .int k,d,cs,hh=>by cases d <;> simp only [Has] at hh; obtain ⟨rfl,_⟩:=hh; simp [Sh.size,AVal.isOne]
 | .str,d,cs,hh=>by cases d <;> simp only [Has] at hh; obtain ⟨rfl,_⟩:=hh; simp [Sh.size,AVal.isOne]
 | .slice e,d,cs,hh=>by
  cases d <;> simp only [Has] at hh
  ·subst hh; simp [Sh.size,AVal.isOne]
  ·obtain ⟨_,_,_,rfl,_⟩:=hh; simp [Sh.size,AVal.isOne]
 | .struct fs,d,cs,hh=>by
  cases d <;> simp only [Has] at hh
  have:=HasL.cells hh;simpa only [Sh.size] using this
theorem HasL.cells {h:Heap}:∀ {fs:List Sh} {l:List Dat} {cs:List AVal},HasL h fs l cs→cs.length=Sh.sizes fs∧∀ x ∈ cs,x.isOne=true
 | [],l,cs,hh=>by cases l <;> simp only [HasL] at hh; subst hh; simp [Sh.sizes]
 | s :: r,l,cs,hh=>by
  cases l <;> simp only [HasL] at hh
  obtain ⟨a,b,rfl,h1,h2⟩:=hh;obtain ⟨k1,k2⟩:=Has.cells h1;obtain ⟨k3,k4⟩:=HasL.cells h2;refine ⟨by simp [Sh.sizes,k1,k3],fun x hx=>?_⟩;rcases bp.1 hx with hx | hx
  ·exact k2 x hx
  ·exact k4 x hx
end
structure Heap.Ext (h h':Heap):Prop where
 base:h.base≤h'.base
 get:∀ i,i < h.base→h'.get i=h.get i
mutual
theorem Has.ext {h h':Heap} (e:h.Ext h'):∀ {s:Sh} {d:Dat} {cs:List AVal},Has h s d cs→Has h' s d cs
 | .bool,d,cs,hh=>by cases d <;> simp only [Has] at hh ⊢ <;> exact hh
 | .int k,d,cs,hh=>by cases d <;> simp only [Has] at hh ⊢ <;> exact hh
 | .str,d,cs,hh=>by cases d <;> simp only [Has] at hh ⊢ <;> exact hh
 | .slice e',d,cs,hh=>by
  cases d <;> simp only [Has] at hh ⊢
  ·exact hh
  ·obtain ⟨h0,i,css,h1,h2,h3,h4,h5⟩:=hh;refine ⟨h0,i,css,h1,gl h2 e.base,h3,?_,fun k d c hd hc=>Has.ext e (h5 k d c hd hc)⟩;rw [e.get i h2]; exact h4
 | .struct fs,d,cs,hh=>by
  cases d <;> simp only [Has] at hh ⊢
  exact HasL.ext e hh
theorem HasL.ext {h h':Heap} (e:h.Ext h'):∀ {fs:List Sh} {l:List Dat} {cs:List AVal},HasL h fs l cs→HasL h' fs l cs
 | [],l,cs,hh=>by cases l <;> simp only [HasL] at hh ⊢; exact hh
 | s :: r,l,cs,hh=>by
  cases l <;> simp only [HasL] at hh ⊢
  obtain ⟨a,b,e1,h1,h2⟩:=hh;exact ⟨a,b,e1,Has.ext e h1,HasL.ext e h2⟩
end
def shFields (P:Program) (g:TypeId→Option Sh):Nat→List Field→Option (List Sh)
 | _,[]=>some []
 | off,f :: r=>match g f.type with
  | some s=>if f.offset=off∧P.cellsOf f.type=s.size then (shFields P g (off+s.size) r).map (s :: ·) else none
  | none=>none
def shOf (P:Program):Nat→TypeId→Option Sh
 | 0,_=>none
 | n+1,t=>match P.underlying t with
  | some .bool=>some .bool
  | some (.int k)=>some (.int k)
  | some .string=>some .str
  | some (.slice e)=>match shOf P n e with
   | some s=>if P.cellsOf e=s.size∧0 < s.size∧0 < P.bytesOf e then some (.slice s) else none
   | none=>none
  | some (.struct fs)=>match shFields P (shOf P n) 0 fs.toList with
   | some ss=>if P.cellsOf t=Sh.sizes ss then some (.struct ss) else none
   | none=>none
  | _=>none
def H0 (os:List AObj):Heap:=⟨os,os.length,os.length⟩
theorem H0_ext (os zs:List AObj):(H0 os).Ext (H0 (os++zs)) :=
 ⟨by simp [H0],fun i hi=>by simp only [H0,Heap.get] at hi ⊢; rw [ag hi]⟩
section
variable {E:Env}
theorem ORel.base {μ:MM} {b b' i:Nat} {w:World} {o:AObj} (h:ORel E μ b i w o) (hi:i < b'):ORel E μ b' i w o:=by
 cases o with
 | cells esz cs =>
  obtain ⟨m,c,e,fr,h1,h2,h3,h4,h5,h6,_⟩:=h;exact ⟨m,c,e,fr,h1,h2,h3,h4,h5,h6,fun k=>absurd hi (by omega)⟩
 | _=>exact h
theorem Rel.view {μ:MM} {os:List AObj} {w:World} (hr:Rel E μ (H0 os) w) (o:AObj) (x:Option M) (ho:ORel E (μ++[x]) (os.length+1) os.length w o) (hx:∀ m,x=some m→m.blk < w.heap.size) :
  Rel E (μ++[x]) (H0 (os++[o])) w:=by
 have hlen:μ.length=os.length:=hr.len;constructor
 ·simp [H0,hlen]
 ·simp [H0]
 ·intro i o' hi;simp only [H0] at hi ⊢;rcases bi i os.length with h1 | h1
  ·rw [ag h1] at hi;refine ((hr.obj i o' hi).keep (ix μ x) fun m hm=>⟨?_,rfl⟩).base (by simp; omega);rw [ag (by omega)]; exact hm
  ·have:=aj hi;simp at this;have e:i=os.length:=by omega
   subst e;simp at hi; subst hi;simpa using ho
 ·intro i j mi mj _ hi hmi _;have:=aj hmi;simp [H0] at hi this;omega
 ·intro i m hm;rcases kh hm with h1 | ⟨_,h1⟩
  ·exact hr.lt i m h1
  ·exact hx m h1
theorem VRels.push {μ ν:MM} {as:List AVal} {l:List Value} (h:VRels E μ as l):VRels E (μ++ν) as l :=
 h.later ⟨by simp,fun i hi=>.inl (ag hi)⟩
theorem cell_block {w:World} {a:Addr} {v:Value} (h:w.cell? a=some v):∃ c e fr,w.heap[a.block]? = some (.cells c e fr)∧a.spot=none∧c[a.off]? = some v:=by
 unfold World.cell? at h;split at h
 ·rename_i c e fr hb;split at h
  ·cases h
  ·rename_i hs;exact ⟨c,e,fr,hb,by simpa using hs,h⟩
 ·cases h
theorem add_off {a:Addr} (hs:a.spot=none) (n:Nat):a.add n=⟨a.block,a.off+n,none⟩:=by unfold Addr.add;cases a;simp only at hs;subst hs;split <;> simp_all
theorem zn {sz:Nat}:∀ {css:List (List AVal)} {k:Nat} {v:AVal},(∀ c ∈ css,c.length=sz)→css.flatten[k]? = some v→∃ q r c,k=q*sz+r∧r < sz∧css[q]? = some c∧c[r]? = some v
 | [],k,v,_,h=>by simp at h
 | c :: css,k,v,hl,h=>by
  simp only [oq] at h;have hc:=hl c (bh ..);rcases bi k c.length with h1 | h1
  ·rw [ag h1] at h;exact ⟨0,k,c,by omega,by omega,rfl,h⟩
  ·rw [ak h1] at h;obtain ⟨q,r,c',e,hr,h2,h3⟩:=zn (fun x hx=>hl x (bu _ hx)) h;refine ⟨q+1,r,c',?_,hr,by simpa using h2,h3⟩;rw [gg]; omega
theorem zo {sz:Nat}:∀ {css:List (List AVal)},(∀ c ∈ css,c.length=sz)→css.flatten.length=css.length*sz
 | [],_=>by simp
 | c :: css,h=>by rw [oq,aq,zo fun x hx=>h x (bu _ hx),h c (bh ..),az,gg];omega
variable {H:Type} {enc:TypeId × Value→H} {w:World} {held:Bool}
def Reads (E:Env) (w:World) (sh:Sh) (cs:List Value):Prop :=
 ∀ (μ:MM) (os:List AObj),Rel E μ (H0 os) w→∃ ν zs acs d,Rel E (μ++ν) (H0 (os++zs)) w∧VRels E (μ++ν) acs cs∧Has (H0 (os++zs)) sh d acs
theorem Reads.pure {sh:Sh} {cs:List Value} (acs:List AVal) (d:Dat) (h1:∀ μ,VRels E μ acs cs) (h2:∀ h,Has h sh d acs):Reads E w sh cs:=fun μ os hr =>
 ⟨[],[],acs,d,by simpa using hr,h1 _,h2 _⟩
def Fits (P:Program) (t:TypeId) (d:DataW H):Prop:=∀ k ∈ d.weights P t,k≤gt
theorem pq {P:Program} {e:TypeId} {k:Nat}:∀ {l:List (DataW H)} {d:DataW H},d ∈ l→k ∈ d.weights P e→k ∈ DataW.weightsAll P e l
 | x :: l,d,hd,hk=>by
  simp only [DataW.weightsAll,bp];rcases br.1 hd with rfl | hd
  ·exact .inl hk
  ·exact .inr (pq hd hk)
theorem s8 {P:Program} {k:Nat}:∀ {ts:List TypeId} {l:List (DataW H)} {i:Nat} {t:TypeId} {d:DataW H},ts[i]? = some t→l[i]? = some d→k ∈ d.weights P t→k ∈ DataW.weightsEach P ts l
 | [],_,i,t,d,ht,_,_=>by simp at ht
 | _ :: _,[],i,t,d,_,hd,_=>by simp at hd
 | t' :: ts,x :: l,i,t,d,ht,hd,hk=>by
  simp only [DataW.weightsEach,bp];cases i with
  | zero=>simp at ht hd; subst ht; subst hd; exact .inl hk
  | succ i=>exact .inr (s8 (i:=i) (by simpa using ht) (by simpa using hd) hk)
theorem xf {g:TypeId→Option Sh} {cs:List Value} (hg:∀ t sh,g t=some sh→∀ n vs x,DataW.trod enc E.P w 0 (fun _=>true) held n t vs=some x→Fits E.P t x.1→Reads E w sh vs) :
  ∀ {fl:List Field} {off:Nat} {ss:List Sh},shFields E.P g off fl=some ss→off+Sh.sizes ss≤cs.length→(∀ f ∈ fl,∃ n x,DataW.trod enc E.P w 0 (fun _=>true) held n f.type ((cs.drop f.offset).take (E.P.cellsOf f.type))=some x∧Fits E.P f.type x.1) →
   ∀ (μ:MM) (os:List AObj),Rel E μ (H0 os) w→∃ ν zs acs l,Rel E (μ++ν) (H0 (os++zs)) w∧VRels E (μ++ν) acs ((cs.drop off).take (Sh.sizes ss))∧HasL (H0 (os++zs)) ss l acs
 | [],off,ss,hs,_,_,μ,os,hr=>by simp only [shFields] at hs; cases hs;exact ⟨[],[],[],[],by simpa using hr,by simp [Sh.sizes,VRels],by simp [HasL]⟩
 | f :: fl,off,ss,hs,hlen,hf,μ,os,hr=>by
  simp only [shFields] at hs;split at hs;case h_2=>cases hs
  rename_i s h1;split at hs;case isFalse=>cases hs
  rename_i h2;rw [ae] at hs;obtain ⟨ss',h3,rfl⟩:=hs;simp only [Sh.sizes] at hlen ⊢;obtain ⟨n,x,hx,hfx⟩:=hf f (bh ..);obtain ⟨ν,zs,acs,d,k1,k2,k3⟩:=hg _ _ h1 _ _ _ hx hfx μ os hr;obtain ⟨ν',zs',acs',l,k4,k5,k6⟩:=xf hg h3 (by omega) (fun f' hf'=>hf f' (bu _ hf')) _ _ k1;refine ⟨ν++ν',zs++zs',acs++acs',d :: l,by simpa using k4,?_,?_⟩
  ·rw [List.take_add];refine VRels.append ?_ ?_
   ·rw [← ba];rw [h2.1,h2.2] at k2;exact k2.push
   ·rw [lk,← ba];exact k5
  ·simp only [HasL];refine ⟨acs,acs',rfl,?_,?_⟩
   ·rw [← ba]; exact k3.ext (H0_ext _ _)
   ·rw [← ba]; exact k6
theorem reads_row {e:TypeId} {s:Sh} (hg:∀ n vs x,DataW.trod enc E.P w 0 (fun _=>true) held n e vs=some x→Fits E.P e x.1→Reads E w s vs) {a:Addr} {sz:Nat} :
  ∀ (m:Nat),(∀ i,i < m→∃ n vs x,w.cells? 0 (a.add (i*sz)) sz=some vs∧DataW.trod enc E.P w 0 (fun _=>true) held n e vs=some x∧Fits E.P e x.1) →
   ∀ (μ:MM) (os:List AObj),Rel E μ (H0 os) w→∃ (ν:MM) (zs:List AObj) (css:List (List AVal)) (l:List Dat),Rel E (μ++ν) (H0 (os++zs)) w∧css.length=m∧l.length=m ∧
    (∀ i c,css[i]? = some c→∃ vs,w.cells? 0 (a.add (i*sz)) sz=some vs∧VRels E (μ++ν) c vs)∧∀ (k:Nat) (d:Dat) (c:List AVal),l[k]? = some d→css[k]? = some c→Has (H0 (os++zs)) s d c
 | 0,_,μ,os,hr=>⟨[],[],[],[],by simpa using hr,rfl,rfl,by simp,by simp⟩
 | m+1,hm,μ,os,hr=>by
  obtain ⟨ν,zs,css,l,k1,k2,k3,k4,k5⟩:=reads_row hg m (fun i hi=>hm i (by omega)) μ os hr;obtain ⟨n,vs,x,h1,h2,h2f⟩:=hm m (by omega);obtain ⟨ν',zs',acs,d,j1,j2,j3⟩:=hg _ _ _ h2 h2f _ _ k1;refine ⟨ν++ν',zs++zs',css++[acs],l++[d],by simpa using j1,by simp [k2],by simp [k3],?_,?_⟩
  ·intro i c hc;rcases bi i css.length with h3 | h3
   ·rw [ag h3] at hc;obtain ⟨vs',h4,h5⟩:=k4 i c hc;exact ⟨vs',h4,by rw [← ba]; exact h5.push⟩
   ·have h4:=aj hc;simp at h4;have e:i=css.length:=by omega
    subst e;simp at hc; subst hc;exact ⟨vs,by rw [k2]; exact h1,by rw [← ba]; exact j2⟩
  ·intro k d' c hd hc;rcases bi k css.length with h3 | h3
   ·rw [ag h3] at hc;rw [ag (by omega)] at hd;rw [← ba];exact (k5 k d' c hd hc).ext (H0_ext _ _)
   ·have h4:=aj hc;simp at h4;have e:k=css.length:=by omega
    subst e;rw [ak (by omega)] at hd;simp at hc; subst hc;simp [k2,k3] at hd; subst hd;rw [← ba]; exact j3
theorem zbl:∀ (f:Nat) (t:TypeId) (sh:Sh),shOf E.P f t=some sh→∀ (n:Nat) (cs:List Value) (x:DataW H × List MemPlace),DataW.trod enc E.P w 0 (fun _=>true) held n t cs=some x→Fits E.P t x.1→Reads E w sh cs
 | 0,t,sh,h=>by simp [shOf] at h
 | f+1,t,sh,h=>by
  intro n cs x hx hfit;simp only [shOf] at h;split at h
  ·rename_i hu;cases h;obtain ⟨b,rfl,_⟩:=DataW.trod_bool hu hx;exact Reads.pure [.bool b] (.bool b) (fun μ=>by simp [VRels,VRel]) fun h=>by simp [Has]
  ·rename_i k hu;cases h;obtain ⟨m,rfl,_,hw⟩:=DataW.trod_int hu hx;simp [Lit.wf] at hw;exact Reads.pure [.int k m] (.int m) (fun μ=>by simp [VRels,VRel]) fun h=>by simp [Has,hw]
  ·rename_i hu;cases h;obtain ⟨s,rfl,hxe,hw⟩:=DataW.trod_string hu hx
   exact Reads.pure [.str s.data.toList] (.str s.data.toList) (fun μ=>by simp [VRels,VRel]) fun h=>by simp only [Has];exact ⟨trivial,hfit _ (by rw [hxe]; simp [DataW.weights])⟩
  ·rename_i e hu;split at h;case h_2=>cases h
   rename_i s hs;split at h;case isFalse=>cases h
   rename_i hsz;cases h;rcases DataW.trod_slice hu hx with ⟨rfl,_⟩ | ⟨a,len,cap,elems,rest,n',_,rfl,hxe,_,hlc,hcm,hel,h1,h2,_⟩
   ·exact Reads.pure [.slice none 0 (some 0)] .nil (fun μ=>by simp [VRels,VRel]) fun h=>by simp [Has]
   ·obtain ⟨hrl,h2⟩:=h2 rfl;rw [hsz.1] at h1 h2;have hw:=hfit;unfold Fits at hw;rw [hxe] at hw;simp only [DataW.weights,hu,br,bp,gk] at hw
    have hcapw:cap≤gt:=by
     have h3:=hw _ (.inl rfl)
     have h4:cap≤(elems.length+rest.length)*E.P.bytesOf e:=by
      have h5:elems.length+rest.length=cap:=by omega
      rw [h5];exact Nat.le_mul_of_pos_right _ hsz.2.2
     omega
    have hfe:∀ y ∈ elems,Fits E.P e y.1:=fun y hy k hk=>hw k (.inr (.inl (pq (o7 hy) hk)))
    have hfr:∀ y ∈ rest,Fits E.P e y.1:=fun y hy k hk=>hw k (.inr (.inr (pq (o7 hy) hk)))
    have hall:∀ i,i < cap→∃ n vs x,w.cells? 0 (a.add (i*s.size)) s.size=some vs∧DataW.trod enc E.P w 0 (fun _=>true) held n e vs=some x∧Fits E.P e x.1:=fun i hi=>by
     rcases bi i len with hl | hl
     ·have h3:=h1 i hl;rw [ah (by omega)] at h3;rw [jr] at h3;obtain ⟨vs,h4,h5⟩:=h3;exact ⟨n',vs,_,h4,h5,hfe _ (List.getElem_mem _)⟩
     ·have h3:=h2 (i - len) (by omega);rw [ah (by omega),show len+(i - len)=i by omega] at h3;rw [jr] at h3;obtain ⟨vs,h4,h5⟩:=h3;exact ⟨n',vs,_,h4,h5,hfr _ (List.getElem_mem _)⟩
    intro μ os hr;obtain ⟨ν,zs,css,l,k1,k2,k3,k4,k5⟩:=reads_row (a:=a) (sz:=s.size) (fun n vs x=>zbl f e s hs n vs x) len (fun i hi=>hall i (by omega)) μ os hr;have hlen:(μ++ν).length=(os++zs).length:=k1.len;rcases xt cap with hc | hc
    ·-- nothing there
     subst hc;have hl0:len=0:=by omega
     subst hl0;have hcss:css=[]:=bq k2;have hl:l=[]:=bq k3;subst hcss; subst hl;refine ⟨ν++[none],zs++[.dead],[.slice (some ((os++zs).length,0)) 0 none],.row [],?_,?_,?_⟩
     ·have:=k1.view .dead none (show (_++[none]:MM)[_]? = _ by rw [← hlen]; simp) (by simp);simpa using this
     ·simp only [VRels,VRel];refine ⟨_,[],rfl,⟨a,0,rfl,?_,by simp,by simp,ai _,?_⟩,rfl⟩
      ·rw [← ba,← hlen]; simp only [aq,az]; omega
      ·intro m hm;rw [← ba,← hlen] at hm;simp at hm
     ·unfold Has;refine ⟨dt _,(os++zs).length,[],rfl,by simp [H0],rfl,.inr ⟨rfl,?_⟩,by simp⟩;rw [← ba];simp [Heap.get,H0]
    ·-- the row
     have hsp:=hsz.2.1;obtain ⟨_,vs0,_,c0,_,_⟩:=hall 0 hc;obtain ⟨_,cl0,cg0⟩:=World.cells?_some c0;have c1:=cg0 0 hsp;rw [ah (by omega)] at c1;have:(a.add (0*s.size)).add 0=a:=by simp [Addr.add]
     rw [this] at c1;obtain ⟨c,te,fr,hb,hspot,_⟩:=cell_block c1
     have hcell:∀ i vs,w.cells? 0 (a.add (i*s.size)) s.size=some vs→vs.length=s.size∧∀ r,r < s.size→c[a.off+i*s.size+r]? = vs[r]?:=fun i vs hvs=>by obtain ⟨_,e1,e2⟩:=World.cells?_some hvs;refine ⟨e1,fun r hr=>?_⟩;have e3:=e2 r hr;rw [add_off hspot,add_off rfl,ji hb] at e3;exact e3
     have hcap:a.off+cap*s.size≤c.size:=by
      obtain ⟨_,vs,_,d1,_,_⟩:=hall (cap - 1) (by omega);obtain ⟨d2,d3⟩:=hcell _ _ d1;have d4:=d3 (s.size - 1) (by omega);rw [ah (by omega)] at d4;have d5:a.off+(cap - 1)*s.size+(s.size - 1) < c.size:=aj (l:=c.toList) (by simpa using d4)
      have d6:cap*s.size=(cap - 1)*s.size+s.size:=by
       conv=>lhs; rw [show cap=(cap - 1)+1 by omega]
       rw [gg]; omega
      omega
     have hcl:∀ x ∈ css,x.length=s.size:=fun x hx=>by obtain ⟨i,hi⟩:=je hx;obtain ⟨vs,hvs,hv⟩:=k4 i x hi;rw [hv.length,(hcell i vs hvs).1]
     have hfl:=zo hcl;have hlec:len*s.size≤cap*s.size:=im _ hlc;let m:M:=⟨a.block,a.off,c.size,s.size⟩
     have hrel:ORel E ((μ++ν)++[some m]) ((os++zs).length+1) (os++zs).length w (.cells s.size css.flatten):=by
      refine ⟨m,c,te,fr,by rw [← hlen]; simp,rfl,hb,rfl,by rw [hfl,k2]; show a.off+_≤c.size; omega,?_,fun k=>by omega⟩;intro k v hk;obtain ⟨q,r,cc,e1,e2,e3,e4⟩:=zn hcl hk;obtain ⟨vs,f1,f2⟩:=k4 q cc e3;obtain ⟨v',g1,g2⟩:=f2.get e4;have hq:q < len:=by have:=aj e3; omega
      obtain ⟨dd,hdd⟩:∃ dd,l[q]? = some dd:=⟨_,ah (by omega)⟩;refine ⟨((k5 q dd cc hdd e3).cells).2 v (bz e4),v',?_,g2.later (ix _ _)⟩;show c[a.off+k]? = _;rw [e1,← bo,(hcell q vs f1).2 r e2,g1]
     refine ⟨ν++[some m],zs++[.cells s.size css.flatten],[.slice (some ((os++zs).length,0)) len none],.row l,?_,?_,?_⟩
     ·have:=k1.view _ (some m) hrel (by rintro m' h; cases h; exact sf hb);simpa using this
     ·simp only [VRels,VRel];refine ⟨_,[],rfl,⟨a,cap,rfl,⟨?_,hcm⟩,fun _=>?_,by simp,hlc,?_⟩,rfl⟩
      ·rw [← ba,← hlen]; simp only [aq,az]; omega
      ·refine ⟨some m,by rw [← ba,← hlen]; simp,fun m' hm'=>?_⟩;cases hm';cases a;simp only at hspot;subst hspot;rfl
      ·intro m' hm';rw [← ba,← hlen] at hm';simp at hm'; subst hm';show a.off+0+cap*s.size≤c.size;omega
     ·simp only [Has];refine ⟨by rw [k3]; omega,(os++zs).length,css,by rw [k3],by simp [H0],by omega,.inl ?_,fun k d c' hd hc'=>?_⟩
      ·rw [← ba];simp [Heap.get,H0]
      ·rw [← ba];exact (k5 k d c' hd hc').ext (H0_ext _ _)
  ·rename_i fs hu;split at h;case h_2=>cases h
   rename_i ss hs;split at h;case isFalse=>cases h
   rename_i hsz;cases h;obtain ⟨xs,n',_,hxe,hl,hxl,hfl⟩:=DataW.trod_struct hu hx;intro μ os hr
   obtain ⟨ν,zs,acs,l,k1,k2,k3⟩:=xf (cs:=cs) (fun t sh hsh n vs x hx=>zbl f t sh hsh n vs x hx) hs (by omega) (fun fd hfd=>by
    obtain ⟨i,hi⟩:=je hfd;have:=hfl i fd (by simpa using hi);have hlt:i < fs.size:=by have:=aj hi; simpa using this
    rw [ah (by omega)] at this;refine ⟨n',_,this,fun k hk=>hfit k ?_⟩;rw [hxe];simp only [DataW.weights,hu];exact s8 (i:=i) (by rw [cz,hi]; rfl) (by rw [cz,ah (by omega)]; rfl) hk) μ os hr
   refine ⟨ν,zs,acs,.agg l,k1,?_,?_⟩
   ·rw [eo,ff (by omega)] at k2;exact k2
   ·simp only [Has]; exact k3
  ·cases h
def avalOf:Sh→List AVal→AVal
 | .struct _,cs=>.agg cs
 | _,[a]=>a
 | _,cs=>.agg cs
def HasArgs (h:Heap):List Sh→List Dat→List AVal→Prop
 | [],[],as=>as=[]
 | s :: r,d :: l,as=>∃ cs t,as=avalOf s cs :: t∧Has h s d cs∧HasArgs h r l t
 | _,_,_=>False
theorem aval_rel {f:Nat} {t:TypeId} {sh:Sh} (hs:shOf E.P f t=some sh) {r:Reach} {base:Nat} {W:World} {v:Value} (hv:Value.okWide E.P W r base t v) {μ:MM} {acs:List AVal} (hrel:VRels E μ acs v.cells.toList) {h:Heap} {d:Dat} (hh:Has h sh d acs) :
  VRel E μ (avalOf sh acs) v:=by
 have hone:=hh.cells
 have one:∀ {acs:List AVal},sh.size=1→(∀ fs,sh ≠ .struct fs)→acs.length=sh.size→v.cells = #[v]→VRels E μ acs v.cells.toList→VRel E μ (avalOf sh acs) v:=by
  intro acs h1 h2 h3 h4 h5;rw [h4] at h5;match acs,h3 with
  | [],h3=>rw [h1] at h3; simp at h3
  | [a],_ =>
   have:avalOf sh [a]=a:=by
    cases sh <;> simp only [avalOf]
    exact absurd rfl (h2 _)
   rw [this];simp only [VRels] at h5;obtain ⟨_,_,e,h6,_⟩:=h5;cases e;exact h6
  | _ :: _ :: _,h3=>rw [h1] at h3; simp at h3
 cases f with
 | zero=>simp [shOf] at hs
 | succ f =>
  simp only [shOf] at hs;unfold Value.okWide at hv;split at hs
  ·rename_i hu;cases hs;rw [hu] at hv;simp only [Cell.okWide,Cell.ok,hu] at hv;exact one rfl (by simp) hone.1 (by cases v <;> first | rfl | exact hv.elim) hrel
  ·rename_i k hu;cases hs;rw [hu] at hv;simp only [Cell.okWide,Cell.ok,hu] at hv;exact one rfl (by simp) hone.1 (by cases v <;> first | rfl | exact hv.elim) hrel
  ·rename_i hu;cases hs;rw [hu] at hv;simp only [Cell.okWide,Cell.ok,hu] at hv;exact one rfl (by simp) hone.1 (by cases v <;> first | rfl | exact hv.elim) hrel
  ·rename_i e hu;split at hs;case h_2=>cases hs
   split at hs;case isFalse=>cases hs
   cases hs;rw [hu] at hv;simp only [Cell.okWide,Cell.ok,hu] at hv;exact one rfl (by simp) hone.1 (by cases v <;> first | rfl | exact hv.elim) hrel
  ·rename_i fs hu;split at hs;case h_2=>cases hs
   split at hs;case isFalse=>cases hs
   cases hs;rw [hu] at hv;obtain ⟨cs,rfl,_⟩:=hv;simp only [avalOf,VRel];exact ⟨cs,rfl,hrel,hone.2⟩
  ·cases hs
def shAll (P:Program) (f:Nat):List TypeId→Option (List Sh)
 | []=>some []
 | t :: r=>match shOf P f t,shAll P f r with
  | some s,some ss=>some (s :: ss)
  | _,_=>none
theorem args_read {f:Nat} {W:World} {r:Reach} {base:Nat}:∀ {ts:List TypeId} {vs:List Value} {ds:List (DataW H)} {ps:List MemPlace} {ss:List Sh},DataW.TrodAll enc E.P w 0 (fun _=>true) held ts vs ds ps→(∀ k ∈ DataW.weightsEach E.P ts ds,k≤gt)→shAll E.P f ts=some ss →
  (∀ (j:Nat) (t:TypeId) (v:Value),ts[j]? = some t→vs[j]? = some v→Value.okWide E.P W r base t v)→∀ (μ:MM) (os:List AObj),Rel E μ (H0 os) w →
   ∃ ν zs as l,Rel E (μ++ν) (H0 (os++zs)) w∧VRels E (μ++ν) as vs∧HasArgs (H0 (os++zs)) ss l as
 | [],[],[],ps,ss,_,_,hs,_,μ,os,hr=>by simp only [shAll] at hs; cases hs;exact ⟨[],[],[],[],by simpa using hr,by simp [VRels],by simp [HasArgs]⟩
 | t :: ts,v :: vs,d :: ds,ps,ss,h,hz,hs,hv,μ,os,hr=>by
  simp only [DataW.weightsEach,bp] at hz;simp only [shAll] at hs;split at hs;case h_2=>cases hs
  rename_i s ss' h1 h2;cases hs;obtain ⟨p,q,⟨n,h3⟩,h4,_⟩:=h;obtain ⟨ν,zs,acs,d',k1,k2,k3⟩:=zbl f t s h1 n _ _ h3 (fun k hk=>hz k (.inl hk)) μ os hr;obtain ⟨ν',zs',as,l,k4,k5,k6⟩:=args_read h4 (fun k hk=>hz k (.inr hk)) h2 (fun j t' v' ht hv'=>hv (j+1) t' v' (by simpa using ht) (by simpa using hv')) _ _ k1;refine ⟨ν++ν',zs++zs',avalOf s acs :: as,d' :: l,by simpa using k4,?_,?_⟩
  ·simp only [VRels];refine ⟨v,vs,rfl,?_,by rw [← ba]; exact k5⟩;have:=aval_rel h1 (hv 0 t v rfl rfl) k2 k3;rw [← ba];exact this.later ⟨by simp,fun i hi=>.inl (ag hi)⟩
  ·simp only [HasArgs];exact ⟨acs,as,rfl,by rw [← ba]; exact k3.ext (H0_ext _ _),by rw [← ba]; exact k6⟩
 | [],_ :: _,_,_,_,h,_,_,_,_,_,_=>by simp [DataW.TrodAll] at h
 | [],[],_ :: _,_,_,h,_,_,_,_,_,_=>by simp [DataW.TrodAll] at h
 | _ :: _,[],_,_,_,h,_,_,_,_,_,_=>by simp [DataW.TrodAll] at h
 | _ :: _,_ :: _,[],_,_,h,_,_,_,_,_,_=>by simp [DataW.TrodAll] at h
theorem rel_none (w:World):Rel E [] (H0 []) w :=
 ⟨rfl,ai _,by simp [H0],by simp,by simp⟩
theorem law_calls {T:Nat→Option AFunc} (hT:Agrees E T) (hm:E.P.follows .mixedOrders=true) {f:FuncId} {g:Nat} (hg:E.gid f=some g) {n:Nat} {ts:List TypeId} {ss:List Sh} (hss:shAll E.P n ts=some ss)
  (hlaw:∀ (h:Heap) (l:List Dat) (as:List AVal),HasArgs h ss l as→h.base=h.size→h.wmin=h.size→xCall T g as h=some (.bool true,h))
  {W:World} {r:Reach} {base:Nat} {args:Array Value} {ds:List (DataW H)} {ps:List MemPlace} (ht:DataW.TrodAll enc E.P W 0 (fun _=>true) held ts args.toList ds ps) (hz:∀ k ∈ DataW.weightsEach E.P ts ds,k≤gt)
  (hv:∀ (j:Nat) (t:TypeId) (v:Value),ts[j]? = some t→args.toList[j]? = some v→Value.okWide E.P W r base t v) :
  Calls E.P f args W fun e W'=>e = .returned (.bool true)∧Below W.heap.size W W':=by
 obtain ⟨ν,zs,as,l,k1,k2,k3⟩:=args_read ht hz hss hv [] [] (rel_none W);have hx:=hlaw _ l as k3 rfl rfl;refine (x_sound hT hm hx hg k2 k1).mono fun e W' ⟨v',μ',he,hst,hvr,_⟩=>?_
 simp only [VRel] at hvr;subst hvr;refine ⟨he,hst.os,hst.tape,hst.output,hst.size,fun k hk=>hst.block k hk (fun h=>h) fun i m hi hm=>?_⟩;have h1:=aj hm;have h2:([]++ν:MM).length=([]++zs).length:=k1.len;simp only [H0] at hi;omega
end
end Go.Abs

namespace Go.Abs
attribute [simp] xCode_skip xCode_exit xCode_ret wn xCode_seq zao y7 zap y8 j8 evOps evQuiet ew evRun dm ok1 Opd.ev evs sget a8 keep Opd.adr AVal.cells? outcome resultsL result1 tupled
 xFunc enter loadAt cellsAt storeAt part aBin aUn inBounds upTo lowB bounds aSlice eszIs optEv splice py Heap.get Heap.put Heap.push Heap.size AVal.under AVal.unders fill isVar evLen om aMin2 aMins aEqNil il rowIs alen aApp eb dy AVal.ids AVal.idsL AVal.ren AVal.renL AObj.ids AObj.ren idxIn rep
 dl evPure um jb lg hide allSeen jy clash ldOf okId seenBy slotIds gr gm fk AOp.isCall AOper.reads AOp.reads Opd.reads readsL readsO readsP Slot.ids Did.writes sameAt cellEqb AVal.eqb AVal.eqbL
@[simp] theorem wrapC_false (r:List AVal→Heap→Option (AVal × Heap)):wrapC false r=r:=rfl
@[simp] theorem wrapC_true (r:List AVal→Heap→Option (AVal × Heap)):wrapC true r=evClosed r:=rfl
theorem pp {x:Int} (h1:-9223372036854775808≤x) (h2:x≤9223372036854775807):IntKind.i64.wrap x=x:=by simp only [IntKind.wrap,IntKind.bits,IntKind.signed];simp;omega
theorem q9 {i n:Nat} (h:i < n) (hn:n≤9223372036854775807):IntKind.i64.wrap ((i:Int)+1)=((i+1:Nat):Int):=by rw [pp (by omega) (by omega)]; omega
theorem jd (h:Heap) (n0 f:Nat) (i:Nat) (r acc:List Nat):reach h n0 (f+1) (i :: r) acc=if i < n0 then reach h n0 f r acc
  else if acc.contains i then reach h n0 f r acc
  else reach h n0 f (((h.get i).map AObj.ids).getD []++r) (acc++[i]):=rfl
theorem lf (h:Heap) (n0 f:Nat) (acc:List Nat):reach h n0 (f+1) [] acc=acc:=rfl
structure Row {α:Type} (os:List AObj) (e:Nat) (f:α→List AVal) (L:List α) (a:Option (Nat × Nat)):Prop where
 at':L≠[]→∃ b o cs,a=some (b,o)∧os[b]? = some (.cells e cs)∧∀ (j:Nat) (x:α),L[j]? = some x→o+j*e+e≤cs.length∧(cs.drop (o+j*e)).take e=f x
theorem ux {α:Type} {L:List α} {j:Nat} {x:α} (h:L[j]? = some x):L≠[]:=by rintro rfl; simp at h
theorem zbj {α:Type} {L:List α} {j:Nat} {x:α} (h:L[j]? = some x):j < L.length:=aj h
theorem flat_at {α:Type} (f:α→List AVal) (n:Nat) (hf:∀ x,(f x).length=n):∀ (xs:List α) (j:Nat) (x:α),xs[j]? = some x→j*n+n≤(xs.flatMap f).length∧((xs.flatMap f).drop (j*n)).take n=f x
 | [],j,x,h=>by simp at h
 | y :: ys,0,x,h=>by simp at h; subst h;simp only [ci,Nat.zero_mul,eo,aq,hf];rw [List.take_append_of_le_length (by rw [hf]; omega),ff (by rw [hf]; omega)];exact ⟨by omega,rfl⟩
 | y :: ys,j+1,x,h=>by
  simp at h;obtain ⟨h1,h2⟩:=flat_at f n hf ys j x h
  rw [ci,List.drop_append,hf,show (j+1)*n - n=j*n from by rw [gg]; omega,
   b0 (by rw [hf,gg]; omega),bj,aq,hf,gg]
  exact ⟨by omega,h2⟩
theorem lx {α:Type} (f:α→List AVal) (n:Nat) (hf:∀ x,(f x).length=n) (xs:List α):(xs.flatMap f).length=xs.length*n:=by
 induction xs with
 | nil=>simp
 | cons x xs ih=>rw [ci,aq,hf,ih,az,gg]; omega
theorem Row.mk0 {α:Type} {os:List AObj} {e:Nat} {f:α→List AVal} {L:List α} {b:Nat} (hf:∀ x,(f x).length=e) (h:os[b]? = some (.cells e (L.flatMap f))):Row os e f L (some (b,0)) :=
 ⟨fun _=>⟨b,0,_,rfl,h,fun j x hx=>by simpa using flat_at f e hf L j x hx⟩⟩
theorem Has.row {α:Type} {os:List AObj} {b w:Nat} {e:Sh} {f:α→List AVal} {ok:α→Prop} {d:Dat} {cs:List AVal} (hconv:∀ d c,Has ⟨os,b,w⟩ e d c→∃ x,c=f x∧ok x) (h:Has ⟨os,b,w⟩ (.slice e) d cs) :
  ∃ (a:Option (Nat × Nat)) (L:List α) (c:Option Nat),cs=[.slice a L.length c]∧Row os e.size f L a∧L.length≤gt∧(∀ x ∈ L,ok x)∧(∀ i o,a=some (i,o)→i < b)∧(a=none→L=[]):=by
 cases d <;> simp only [Has] at h
 ·subst h;exact ⟨none,[],some 0,rfl,⟨fun h=>absurd rfl h⟩,by simp,by simp,by simp,fun _=>rfl⟩
 ·rename_i l;obtain ⟨h0,i,css,rfl,h2,h3,h4,h5⟩:=h
  have:∀ (css:List (List AVal)) (l:List Dat),css.length=l.length→(∀ (k:Nat) (d:Dat) (c:List AVal),l[k]? = some d→css[k]? = some c→Has ⟨os,b,w⟩ e d c) →
    ∃ L:List α,css=L.map f∧∀ x ∈ L,ok x∧(f x).length=e.size:=by
   intro css;induction css with
   | nil=>exact fun _ _ _=>⟨[],rfl,by simp⟩
   | cons c css ih =>
    intro l hl hh;cases l with
    | nil=>simp at hl
    | cons d l =>
     have hc:=hh 0 d c rfl rfl;obtain ⟨x,hx,hok⟩:=hconv d c hc;obtain ⟨L,e1,e2⟩:=ih l (by simpa using hl) fun k d' c' hd hc=>hh (k+1) d' c' (by simpa using hd) (by simpa using hc)
     refine ⟨x :: L,by rw [cf,← hx,← e1],fun y hy=>?_⟩;rcases br.1 hy with rfl | hy
     ·exact ⟨hok,by rw [← hx]; exact hc.cells.1⟩
     ·exact e2 y hy
  obtain ⟨L,e1,e2⟩:=this css l h3 h5;have hlen:L.length=l.length:=by rw [← h3,e1,gk]
  refine ⟨some (i,0),L,none,by rw [hlen],⟨fun hne=>?_⟩,by rw [hlen]; exact h0,fun x hx=>(e2 x hx).1,(fun i' o' e=>by cases e; exact h2),by simp⟩;rcases h4 with h4 | ⟨rfl,_⟩
  ·refine ⟨i,0,css.flatten,rfl,h4,fun j x hx=>?_⟩
   have hfl:∀ (L:List α),(∀ x ∈ L,(f x).length=e.size)→∀ j x,L[j]? = some x→j*e.size+e.size≤(L.map f).flatten.length∧((L.map f).flatten.drop (j*e.size)).take e.size=f x:=by
    intro L;induction L with
    | nil=>intro _ j x hx; simp at hx
    | cons y L ih =>
     intro hL j x hx;have hy:=hL y (bh ..);cases j with
     | zero =>
      simp at hx; subst hx;simp only [cf,oq,Nat.zero_mul,eo,aq,hy];rw [List.take_append_of_le_length (by omega),ff (by omega)];exact ⟨by omega,rfl⟩
     | succ j =>
      simp at hx;obtain ⟨h1,h2⟩:=ih (fun x hx=>hL x (bu _ hx)) j x hx
      rw [cf,oq,List.drop_append,hy,show (j+1)*e.size - e.size=j*e.size from by rw [gg]; omega,
       b0 (by rw [hy,gg]; omega),bj,aq,hy,gg]
      exact ⟨by omega,h2⟩
   have:=hfl L (fun x hx=>(e2 x hx).2) j x hx;rw [← e1] at this;simpa using this
  ·exact absurd (bq (by rw [hlen]; rfl)) hne
section
variable {h:Heap} {d:Dat} {cs:List AVal}
theorem Has.int {k:IntKind} (hh:Has h (.int k) d cs):∃ n,d = .int n∧cs=[.int k n]∧k.min≤n∧n≤k.max:=by
 cases d <;> simp only [Has] at hh
 exact ⟨_,rfl,hh⟩
theorem Has.str (hh:Has h .str d cs):∃ s,d = .str s∧cs=[.str s]∧s.length≤gt:=by
 cases d <;> simp only [Has] at hh
 exact ⟨_,rfl,hh⟩
theorem Has.struct {fs:List Sh} (hh:Has h (.struct fs) d cs):∃ l,d = .agg l∧HasL h fs l cs:=by
 cases d <;> simp only [Has] at hh
 exact ⟨_,rfl,hh⟩
theorem HasL.cons {s:Sh} {r:List Sh} {l:List Dat} (hh:HasL h (s :: r) l cs):∃ d l' a b,l=d :: l'∧cs=a++b∧Has h s d a∧HasL h r l' b:=by
 cases l <;> simp only [HasL] at hh
 obtain ⟨a,b,h1,h2,h3⟩:=hh;exact ⟨_,_,a,b,rfl,h1,h2,h3⟩
theorem HasL.nil {l:List Dat} (hh:HasL h [] l cs):l=[]∧cs=[]:=by
 cases l <;> simp only [HasL] at hh
 exact ⟨rfl,hh⟩
theorem HasArgs.cons {s:Sh} {r:List Sh} {l:List Dat} {as:List AVal} (hh:HasArgs h (s :: r) l as):∃ d l' c t,l=d :: l'∧as=avalOf s c :: t∧Has h s d c∧HasArgs h r l' t:=by
 cases l <;> simp only [HasArgs] at hh
 obtain ⟨a,b,h1,h2,h3⟩:=hh;exact ⟨_,_,a,b,rfl,h1,h2,h3⟩
theorem HasArgs.nil {l:List Dat} {as:List AVal} (hh:HasArgs h [] l as):l=[]∧as=[]:=by
 cases l <;> simp only [HasArgs] at hh
 exact ⟨rfl,hh⟩
end
theorem loop_run {T:Nat→Option AFunc} {c:ACode} {e:AExit} {st':St} (st:Nat→St) (n:Nat) (hs:∀ i,i < n→ir T c (st i)=some (.normal,st (i+1))) (he:e ≠ .normal) (hx:ir T c (st n)=some (e,st')) :
  ∀ k,k≤n→ir T (.loop c) (st (n - k))=some (e,st')
 | 0,_=>by rw [vl,Nat.sub_zero,hx];cases e <;> first | rfl | exact absurd rfl he
 | k+1,hk=>by rw [vl,hs (n - (k+1)) (by omega)];simp only;rw [show n - (k+1)+1=n - k by omega];exact loop_run st n hs he hx k (by omega)
theorem zbk {T:Nat→Option AFunc} {c:ACode} {e:AExit} {st':St} (st:Nat→St) (n:Nat) (hs:∀ i,i < n→ir T c (st i)=some (.normal,st (i+1))) (he:e ≠ .normal) (hx:ir T c (st n)=some (e,st')) :
  ir T (.loop c) (st 0)=some (e,st'):=by
 have:=loop_run st n hs he hx n (ai _);rwa [Nat.sub_self] at this
theorem first_bad {α:Type} (p:α→Prop) [DecidablePred p]:∀ L:List α,(∀ x ∈ L,p x)∨∃ (j:Nat) (x:α),L[j]? = some x∧¬ p x∧∀ i:Nat,i < j→∀ y,L[i]? = some y→p y
 | []=>.inl (by simp)
 | x :: L=>by
  by_cases hx:p x
  ·rcases first_bad p L with h | ⟨j,y,h1,h2,h3⟩
   ·exact .inl fun z hz=>by
     rcases br.1 hz with rfl | hz
     ·exact hx
     ·exact h z hz
   ·refine .inr ⟨j+1,y,by simpa using h1,h2,fun i hi z hz=>?_⟩;cases i with
    | zero=>simp at hz; subst hz; exact hx
    | succ i=>exact h3 i (by omega) z (by simpa using hz)
  ·exact .inr ⟨0,x,rfl,hx,fun i hi=>absurd hi (by omega)⟩
theorem closed_run {T:Nat→Option AFunc} {g:Nat} {f:AFunc} (hT:T g=some f) (hc:f.closed=true) (n:Nat) {args:List AVal} {v:AVal} {h':Heap} (ha:AVal.unders 0 args=true) (hv:v.under 0=true)
  (he:evFunc (fj T n) n f args ⟨[],0,0⟩=some (v,h')) (h:Heap) (hr:f.round=none:=by rfl) (hw:f.wild=false:=by rfl):xCall T g args h=some (v,h):=by
 rw [ea T hT (hr:=hr) (hw:=hw),hc];simp only [wrapC,evClosed,if_true];rw [if_pos ha,(uq T f args _ _ hw).2 ⟨n,he⟩];simp [hv]
end Go.Abs

namespace Go.Abs
variable {α β γ:Type}
abbrev Ct (α β:Type):=Inhabited (α→Option β)
abbrev Ct2 (α γ β:Type):=Inhabited (α→γ→Option β)
def andThen (x:Option α) [f:Ct α β]:Option β:=match x with
 | some a=>f.default a
 | none=>none
@[simp] theorem dr (a:α) (f:α→Option β):andThen (some a) (f:=⟨f⟩)=f a:=eq_of_heq HEq.rfl
@[simp] theorem gp (f:α→Option β):andThen none (f:=⟨f⟩)=none:=eq_of_heq HEq.rfl
def condK (v:Option AVal) [f:Ct Unit β] [g:Ct Unit β]:Option β:=match v with
 | some (.bool true)=>f.default ()
 | some (.bool false)=>g.default ()
 | _=>none
@[simp] theorem condK_t (f g:Unit→Option β):condK (some (.bool true)) (f:=⟨f⟩) (g:=⟨g⟩)=f ():=eq_of_heq HEq.rfl
@[simp] theorem condK_f (f g:Unit→Option β):condK (some (.bool false)) (f:=⟨f⟩) (g:=⟨g⟩)=g ():=eq_of_heq HEq.rfl
def mustK (p:Prop) [Decidable p] [f:Ct Unit β]:Option β:=if p then f.default () else none
@[simp] theorem mustK_t [i:Decidable True] (f:Unit→Option β):mustK True (f:=⟨f⟩)=f ():=by simp [mustK]
@[simp] theorem mustK_f [i:Decidable False] (f:Unit→Option β):mustK False (f:=⟨f⟩)=none:=by simp [mustK]
def nxK (e:AExit) (st:St) [f:Ct St β] [k:Ct2 AExit St β]:Option β:=match e with
 | .normal=>f.default st
 | e=>k.default e st
@[simp] theorem nxK_n (st:St) (f:St→Option β) (k:AExit→St→Option β):nxK .normal st (f:=⟨f⟩) (k:=⟨k⟩)=f st:=eq_of_heq HEq.rfl
@[simp] theorem nxK_e (i:Nat) (st:St) (f:St→Option β) (k:AExit→St→Option β):nxK (.exit i) st (f:=⟨f⟩) (k:=⟨k⟩)=k (.exit i) st:=eq_of_heq HEq.rfl
@[simp] theorem nxK_r (st:St) (f:St→Option β) (k:AExit→St→Option β):nxK .ret st (f:=⟨f⟩) (k:=⟨k⟩)=k .ret st:=eq_of_heq HEq.rfl
def blkE (id:Nat):AExit→AExit
 | .exit j=>if j=id then .normal else .exit j
 | e=>e
@[simp] theorem blkE_n (i:Nat):blkE i .normal = .normal:=rfl
@[simp] theorem blkE_r (i:Nat):blkE i .ret = .ret:=rfl
@[simp] theorem blkE_e (i j:Nat):blkE i (.exit j)=if j=i then .normal else .exit j:=rfl
theorem iltT {a b:Int} (h:a < b):(a < b)=True:=eq_true h
theorem iltF {a b:Int} (h:b≤a):(a < b)=False:=eq_false (by omega)
theorem ileT {a b:Int} (h:a≤b):(a≤b)=True:=eq_true h
theorem ileF {a b:Int} (h:b < a):(a≤b)=False:=eq_false (by omega)
theorem ieqT {a b:Int} (h:a=b):(a=b)=True:=eq_true h
theorem ieqF {a b:Int} (h:a≠b):(a=b)=False:=eq_false h
theorem nltT {a b:Nat} (h:a < b):(a < b)=True:=eq_true h
theorem nltF {a b:Nat} (h:b≤a):(a < b)=False:=eq_false (by omega)
theorem nleT {a b:Nat} (h:a≤b):(a≤b)=True:=eq_true h
theorem nleF {a b:Nat} (h:b < a):(a≤b)=False:=eq_false (by omega)
theorem neqT {a b:Nat} (h:a=b):(a=b)=True:=eq_true h
theorem de {x:Int} (h:-9223372036854775808≤x∧x≤9223372036854775807):IntKind.i64.wrap x=x:=pp h.1 h.2
@[simp] theorem me (l:List α) (a:Nat):List.take (l.length - a) (l.drop a)=l.drop a:=ff (by simp)
@[simp] theorem get_mid (a c:List α) (x:α):(a++x :: c)[a.length]? = some x:=by simp
@[simp] theorem get_mid1 (a c:List α) (x y:α):(a++y :: x :: c)[a.length+1]? = some x:=by simp
@[simp] theorem set_mid (a c:List α) (x y:α):(a++x :: c).set a.length y=a++y :: c:=by simp
@[simp] theorem take_map_len (f:α→γ) (l:List α):List.take l.length (l.map f)=l.map f:=ff (by simp)
@[simp] theorem get_mid2 (a c:List α) (x y z:α):(a++z :: y :: x :: c)[a.length+2]? = some x:=by simp
@[simp] theorem get_mid3 (a c:List α) (x y z u:α):(a++u :: z :: y :: x :: c)[a.length+3]? = some x:=by simp
@[simp] theorem set_mid1 (a c:List α) (x y z:α):(a++z :: x :: c).set (a.length+1) y=a++z :: y :: c:=by rw [List.set_append_right _ _ (by omega)]; simp
@[simp] theorem ov:∀ a b:List AVal,AVal.idsL (a++b)=AVal.idsL a++AVal.idsL b
 | [],_=>rfl
 | x :: a,b=>by rw [bl];simp only [AVal.idsL,ov a b,ba]
@[simp] theorem xg (f:Nat→Nat):∀ a b:List AVal,AVal.renL f (a++b)=AVal.renL f a++AVal.renL f b
 | [],_=>rfl
 | x :: a,b=>by rw [bl];simp only [AVal.renL,xg f a b,bl]
@[simp] theorem idsL_strs:∀ L:List (List UInt8),AVal.idsL (L.map AVal.str)=[]
 | []=>rfl
 | x :: L=>by rw [cf];simp only [AVal.idsL,AVal.ids,idsL_strs L];rfl
@[simp] theorem renL_strs (f:Nat→Nat):∀ L:List (List UInt8),AVal.renL f (L.map AVal.str)=L.map AVal.str
 | []=>rfl
 | x :: L=>by rw [cf];simp only [AVal.renL,AVal.ren,renL_strs f L]
def consK (t:Nat) (x:Option Slot) (r:Slots):Slots:=match x with
 | some (.loc _ _)=>r
 | some .gone=>r
 | some x=>(t,x) :: r
 | none=>r
@[simp] theorem consK_v (t:Nat) (v:AVal) (r:Slots):consK t (some (.val v)) r=(t,.val v) :: r:=rfl
@[simp] theorem consK_u (t:Nat) (r:Slots):consK t (some .undef) r=(t,.undef) :: r:=rfl
@[simp] theorem consK_x (t:Nat) (v:List AVal) (r:Slots):consK t (some (.var v)) r=(t,.var v) :: r:=rfl
@[simp] theorem consK_l (t a b:Nat) (r:Slots):consK t (some (.loc a b)) r=r:=rfl
@[simp] theorem consK_g (t:Nat) (r:Slots):consK t (some .gone) r=r:=rfl
@[simp] theorem consK_n (t:Nat) (r:Slots):consK t none r=r:=rfl
def keepK:List Nat→Slots→Slots
 | [],_=>[]
 | t :: l,s=>consK t (sget s t) (keepK l s)
@[simp] theorem keepK_nil (s:Slots):keepK [] s=[]:=rfl
@[simp] theorem keepK_cons (t:Nat) (l:List Nat) (s:Slots):keepK (t :: l) s=consK t (sget s t) (keepK l s):=rfl
theorem zbm:∀ (l:List Nat) (s:Slots),keepK l s=keep l s
 | [],_=>rfl
 | t :: l,s=>by
  rw [keepK_cons,zbm l s];unfold keep;rw [List.filterMap_cons];unfold consK;cases sget s t with
  | none=>rfl
  | some x=>cases x <;> rfl
def varK:Option Slot→Bool
 | some (.var _)=>true
 | _=>false
@[simp] theorem varK_v (v:AVal):varK (some (.val v))=false:=rfl
@[simp] theorem varK_u:varK (some .undef)=false:=rfl
@[simp] theorem varK_l (a b:Nat):varK (some (.loc a b))=false:=rfl
@[simp] theorem varK_x (v:List AVal):varK (some (.var v))=true:=rfl
@[simp] theorem varK_n:varK none=false:=rfl
def noVar (d:Option Nat) (s:Slots):Bool:=match d with
 | some d=>!varK (sget s d)
 | none=>true
@[simp] theorem noVar_s (d:Nat) (s:Slots):noVar (some d) s = !varK (sget s d):=rfl
@[simp] theorem noVar_n (s:Slots):noVar none s=true:=rfl
theorem uf (s:Slots) (t:Nat):isVar s t=varK (sget s t):=by
 unfold isVar;cases sget s t with
 | none=>rfl
 | some x=>cases x <;> rfl
theorem noVar_eq (d:Option Nat) (s:Slots):(d.all fun d=>!isVar s d)=noVar d s:=by
 cases d with
 | none=>rfl
 | some d=>rw [Option.all_some,uf]; rfl
def opK (call:CallSem) (d:Option Nat) (op:AOp) (s:Slots) (h:Heap) [k:Ct2 Slots Heap β]:Option β :=
 andThen (dm call (d.getD 0) op s h) (f:=⟨fun p=>k.default (a8 d p.1 p.2.1) p.2.2⟩)
section
variable {call:CallSem} {d:Option Nat} {s:Slots} {h:Heap} {k:Slots→Heap→Option β}
theorem iq (x:Option AVal) (f:Slot × Slots × Heap→Option β):andThen (ok1 s h x) (f:=⟨f⟩)=andThen x (f:=⟨fun v=>f (.val v,s,h)⟩):=by cases x <;> rfl
theorem jw (x:Option α) {γ:Type} (g:α→γ) (f:γ→Option β):andThen (x.map g) (f:=⟨f⟩)=andThen x (f:=⟨fun v=>f (g v)⟩):=by cases x <;> rfl
@[simp] theorem opK_val (x:Opd):opK call d (.val x) s h (k:=⟨k⟩)=andThen (x.ev s) (f:=⟨fun v=>k (a8 d (.val v) s) h⟩):=by simp only [opK,dm,iq]
@[simp] theorem opK_pick (c a b:Opd):opK call d (.pick c a b) s h (k:=⟨k⟩)=condK (c.ev s) (f:=⟨fun _=>andThen (a.ev s) (f:=⟨fun v=>k (a8 d (.val v) s) h⟩)⟩) (g:=⟨fun _=>andThen (b.ev s) (f:=⟨fun v=>k (a8 d (.val v) s) h⟩)⟩):=by
 simp only [opK,dm,condK];cases c.ev s with
 | none=>rfl
 | some v =>
  cases v <;> try rfl
  rename_i x; cases x <;> simp only [iq]
@[simp] theorem opK_alloc (e:Nat) (z:List AVal):opK call d (.alloc e z) s h (k:=⟨k⟩)=k (a8 d (.val (.ptr (some (h.size,0)))) s) (h.push (.cells e z)):=eq_of_heq HEq.rfl
@[simp] theorem opK_lalloc (z:List AVal):opK call d (.lalloc z) s h (k:=⟨k⟩)=k (a8 d (.var z) (py (d.getD 0) s)) h:=eq_of_heq HEq.rfl
@[simp] theorem opK_box (x:Opd):opK call d (.box x) s h (k:=⟨k⟩)=andThen ((x.ev s).bind AVal.cells?) (f:=⟨fun cs=>k (a8 d (.val (.ptr (some (h.size,0)))) s) (h.push (.cells cs.length cs))⟩):=by simp only [opK,dm]; cases (x.ev s).bind AVal.cells? <;> rfl
@[simp] theorem opK_lbox (x:Opd):opK call d (.lbox x) s h (k:=⟨k⟩)=andThen ((x.ev s).bind AVal.cells?) (f:=⟨fun cs=>k (a8 d (.var cs) (py (d.getD 0) s)) h⟩):=by simp only [opK,dm]; cases (x.ev s).bind AVal.cells? <;> rfl
@[simp] theorem opK_build (z:List AVal) (ps:List (Nat × Nat × Opd)):opK call d (.build z ps) s h (k:=⟨k⟩)=andThen (fill s z ps) (f:=⟨fun cs=>k (a8 d (.val (.agg cs)) s) h⟩):=by simp only [opK,dm,iq,jw]
@[simp] theorem opK_mkslice (e n:Nat) (z:List AVal) (ps:List (Nat × Nat × Opd)):opK call d (.mkslice e n z ps) s h (k:=⟨k⟩)=andThen (fill s z ps) (f:=⟨fun cs=>k (a8 d (.val (.slice (some (h.size,0)) n (some n))) s) (h.push (.cells e cs))⟩):=by simp only [opK,dm]; cases fill s z ps <;> rfl
@[simp] theorem opK_load (n:Option Nat) (a:Opd):opK call d (.load n a) s h (k:=⟨k⟩)=andThen (a.adr s) (f:=⟨fun a=>andThen (loadAt s h a n) (f:=⟨fun v=>k (a8 d (.val v) s) h⟩)⟩):=by simp only [opK,dm]; cases a.adr s <;> simp only [dr,gp,iq]
@[simp] theorem opK_store (n:Nat) (a x:Opd):opK call d (.store n a x) s h (k:=⟨k⟩)=andThen (a.adr s) (f:=⟨fun a=>andThen ((x.ev s).bind AVal.cells?) (f:=⟨fun xs=>mustK (xs.length=n) (f:=⟨fun _=>andThen (storeAt s h a xs) (f:=⟨fun p=>k (a8 d .undef p.1) p.2⟩)⟩)⟩)⟩):=by
 simp only [opK,dm];cases a.adr s with
 | none=>rfl
 | some a =>
  cases (x.ev s).bind AVal.cells? with
  | none=>rfl
  | some xs =>
   simp only [dr,mustK];split
   ·rw [jw]
   ·rfl
@[simp] theorem opK_bin (b:BinOp) (x y:Opd):opK call d (.bin b x y) s h (k:=⟨k⟩)=andThen (x.ev s) (f:=⟨fun u=>andThen (y.ev s) (f:=⟨fun v=>andThen (aBin b u v) (f:=⟨fun r=>k (a8 d (.val r) s) h⟩)⟩)⟩):=by simp only [opK,dm]; cases x.ev s <;> cases y.ev s <;> simp only [dr,gp,iq]
@[simp] theorem opK_un (o:UnOp) (x:Opd):opK call d (.un o x) s h (k:=⟨k⟩)=andThen (x.ev s) (f:=⟨fun u=>andThen (aUn o u) (f:=⟨fun r=>k (a8 d (.val r) s) h⟩)⟩):=by simp only [opK,dm]; cases x.ev s <;> simp only [dr,gp,iq]
@[simp] theorem opK_conv (c:ConvKind) (x:Opd):opK call d (.conv c x) s h (k:=⟨k⟩)=andThen (x.ev s) (f:=⟨fun v=>andThen (om c v s h) (f:=⟨fun p=>k (a8 d p.1 p.2.1) p.2.2⟩)⟩):=by simp only [opK,dm]; cases x.ev s <;> rfl
@[simp] theorem opK_mkfunc (g:Nat) (f c:List Opd):opK call d (.mkfunc g f c) s h (k:=⟨k⟩)=andThen (evs s f) (f:=⟨fun f=>andThen (evs s c) (f:=⟨fun c=>k (a8 d (.val (.func g f c)) s) h⟩)⟩):=by simp only [opK,dm]; cases evs s f <;> cases evs s c <;> rfl
@[simp] theorem opK_slice (c:SliceKind) (x:Opd) (lo hi mx:Option Opd):opK call d (.slice c x lo hi mx) s h (k:=⟨k⟩)=andThen (optEv s lo) (f:=⟨fun lo=>andThen (optEv s hi) (f:=⟨fun hi=>andThen (optEv s mx) (f:=⟨fun mx=>andThen (aSlice c s h x lo hi mx) (f:=⟨fun v=>k (a8 d (.val v) s) h⟩)⟩)⟩)⟩):=by simp only [opK,dm]; cases optEv s lo <;> cases optEv s hi <;> cases optEv s mx <;> simp only [dr,gp,iq]
@[simp] theorem opK_field (x:Opd) (o:Nat) (n:Option Nat):opK call d (.field x o n) s h (k:=⟨k⟩)=andThen (x.ev s) (f:=⟨fun v=>andThen (match v with | .agg cs=>part cs o n | _=>none) (f:=⟨fun v=>k (a8 d (.val v) s) h⟩)⟩):=by
 simp only [opK,dm];cases x.ev s with
 | none=>rfl
 | some v=>cases v <;> simp only [dr,gp,iq]
@[simp] theorem opK_iaddr (e:Nat) (x i:Opd):opK call d (.iaddr e x i) s h (k:=⟨k⟩)=andThen (x.ev s) (f:=⟨fun u=>andThen (i.ev s) (f:=⟨fun i=>andThen (match u with | .slice (some (b,o)) n _=>(inBounds n i).map fun j=>AVal.ptr (some (b,o+j*e)) | _=>none) (f:=⟨fun v=>k (a8 d (.val v) s) h⟩)⟩)⟩):=by
 simp only [opK,dm];cases x.ev s with
 | none=>rfl
 | some v =>
  cases i.ev s with
  | none=>(cases v <;> (try rfl)); rename_i a _ _; cases a <;> rfl
  | some i =>
   cases v <;> try rfl
   rename_i a _ _;cases a <;> simp only [dr,gp,iq,jw]
@[simp] theorem opK_index (x i:Opd):opK call d (.index x i) s h (k:=⟨k⟩)=andThen (x.ev s) (f:=⟨fun u=>andThen (i.ev s) (f:=⟨fun i=>andThen (match u with | .str t=>(inBounds t.length i).bind fun j=>(t[j]?).map fun b=>AVal.int .u8 b.toNat | _=>none) (f:=⟨fun v=>k (a8 d (.val v) s) h⟩)⟩)⟩):=by
 simp only [opK,dm];cases x.ev s with
 | none=>rfl
 | some v =>
  cases i.ev s with
  | none=>cases v <;> rfl
  | some i=>cases v <;> simp only [dr,gp,iq]
@[simp] theorem opK_aindex (n e:Nat) (c:Option Nat) (x i:Opd):opK call d (.aindex n e c x i) s h (k:=⟨k⟩)=andThen (x.ev s) (f:=⟨fun u=>andThen (i.ev s) (f:=⟨fun i=>andThen (match u with | .agg cs=>(inBounds n i).bind fun j=>part cs (j*e) c | _=>none) (f:=⟨fun v=>k (a8 d (.val v) s) h⟩)⟩)⟩):=by
 simp only [opK,dm];cases x.ev s with
 | none=>rfl
 | some v =>
  cases i.ev s with
  | none=>cases v <;> rfl
  | some i=>cases v <;> simp only [dr,gp,iq]
@[simp] theorem opK_extract (x:Opd) (i:Nat):opK call d (.extract x i) s h (k:=⟨k⟩)=andThen (x.ev s) (f:=⟨fun u=>andThen (match u with | .tuple vs=>vs[i]? | _=>none) (f:=⟨fun v=>k (a8 d (.val v) s) h⟩)⟩):=by
 simp only [opK,dm];cases x.ev s with
 | none=>rfl
 | some v=>cases v <;> simp only [dr,gp,iq]
@[simp] theorem opK_callg (g:Nat) (as:List Opd):opK call d (.callg g as) s h (k:=⟨k⟩)=andThen (evs s as) (f:=⟨fun as=>andThen (call g as h) (f:=⟨fun p=>k (a8 d (.val p.1) s) p.2⟩)⟩):=by simp only [opK,dm]; cases evs s as <;> simp only [dr,gp,jw]
@[simp] theorem opK_call (f:Opd) (as:List Opd):opK call d (.call f as) s h (k:=⟨k⟩)=andThen (f.ev s) (f:=⟨fun f=>andThen (evs s as) (f:=⟨fun as=>andThen (match f with
   | .func g first caps=>call g (first++as++caps) h
   | .yield i=>match h.get i with
    | some (.loop g _ _ _)=>call g (.ptr (some (i,0)) :: as) h
    | _=>none
   | _=>none) (f:=⟨fun p=>k (a8 d (.val p.1) s) p.2⟩)⟩)⟩):=by
 simp only [opK,dm];cases f.ev s with
 | none=>rfl
 | some f =>
  cases evs s as with
  | none=>cases f <;> rfl
  | some as =>
   cases f <;> simp only [dr,jw] <;> try rfl
   rename_i i;cases h.get i with
   | none=>rfl
   | some o=>cases o <;> simp only [gp,jw]
@[simp] theorem opK_len (c:LenKind) (x:Opd):opK call d (.len c x) s h (k:=⟨k⟩)=andThen (x.ev s) (f:=⟨fun v=>andThen (evLen c v h) (f:=⟨fun v=>k (a8 d (.val v) s) h⟩)⟩):=by simp only [opK,dm]; cases x.ev s <;> simp only [dr,gp,iq]
@[simp] theorem opK_append (e b:Nat) (x y:Opd):opK call d (.append e b x y) s h (k:=⟨k⟩)=andThen (x.ev s) (f:=⟨fun x=>andThen (y.ev s) (f:=⟨fun y=>andThen (eb e b h x y) (f:=⟨fun p=>k (a8 d (.val p.1) s) p.2⟩)⟩)⟩):=by simp only [opK,dm]; cases x.ev s <;> cases y.ev s <;> simp only [dr,gp,jw]
@[simp] theorem opK_eqnil (c:NilKind) (neg:Bool) (x y:Opd):opK call d (.eqnil c neg x y) s h (k:=⟨k⟩)=andThen (x.ev s) (f:=⟨fun x=>andThen (y.ev s) (f:=⟨fun y=>andThen (aEqNil c x y) (f:=⟨fun b=>k (a8 d (.val (.bool (if neg then !b else b))) s) h⟩)⟩)⟩):=by simp only [opK,dm]; cases x.ev s <;> cases y.ev s <;> simp only [dr,gp,iq,jw]
@[simp] theorem opK_beq (neg:Bool) (x y:Opd):opK call d (.beq neg x y) s h (k:=⟨k⟩)=andThen (x.ev s) (f:=⟨fun x=>andThen (y.ev s) (f:=⟨fun y=>andThen (match x,y with | .bool a,.bool b=>some (if neg then !decide (a=b) else decide (a=b)) | _,_=>none) (f:=⟨fun b=>k (a8 d (.val (.bool b)) s) h⟩)⟩)⟩):=by
 simp only [opK,dm];cases x.ev s with
 | none=>rfl
 | some x =>
  cases y.ev s with
  | none=>cases x <;> rfl
  | some y=>cases x <;> cases y <;> rfl
@[simp] theorem opK_ext (e:ExtOp) (xs:List Opd):opK call d (.ext e xs) s h (k:=⟨k⟩)=andThen (evs s xs) (f:=⟨fun vs=>andThen (dl e vs h) (f:=⟨fun p=>k (a8 d (.val p.1) s) p.2⟩)⟩):=by simp only [opK,dm]; cases evs s xs <;> simp only [dr,gp,jw]
@[simp] theorem opK_faddr (x:Opd) (o:Nat):opK call d (.faddr x o) s h (k:=⟨k⟩)=andThen (x.adr s) (f:=⟨fun a=>match a with
  | .glob i p=>k (a8 d (.val (.ptr (some (i,p+o)))) s) h
  | .loc t p=>mustK (varK (sget s t)=true) (f:=⟨fun _=>k (a8 d (.loc t (p+o)) s) h⟩)⟩):=by
 simp only [opK,dm];cases x.adr s with
 | none=>rfl
 | some a =>
  cases a with
  | glob i p=>rfl
  | loc t p=>simp only [dr,mustK,uf]; split <;> rfl
@[simp] theorem opK_aaddr (n e:Nat) (x i:Opd):opK call d (.aaddr n e x i) s h (k:=⟨k⟩)=andThen (x.adr s) (f:=⟨fun a=>andThen (i.ev s) (f:=⟨fun i=>andThen (inBounds n i) (f:=⟨fun j=>match a with
  | .glob b o=>k (a8 d (.val (.ptr (some (b,o+j*e)))) s) h
  | .loc t o=>mustK (varK (sget s t)=true) (f:=⟨fun _=>k (a8 d (.loc t (o+j*e)) s) h⟩)⟩)⟩)⟩):=by
 simp only [opK,dm];cases x.adr s with
 | none=>rfl
 | some a =>
  cases i.ev s with
  | none=>cases a <;> rfl
  | some i =>
   cases a with
   | glob b o=>simp only [dr,iq,jw]
   | loc t o =>
    simp only [dr];rw [uf]; cases hv:varK (sget s t) <;> cases inBounds n i <;> first | rfl | simp [mustK,hv]
@[simp] theorem opK_nilcheck (x:Opd):opK call d (.nilcheck x) s h (k:=⟨k⟩)=andThen (match x.ev s with
   | some (.ptr (some a))=>some (Slot.val (.ptr (some a)))
   | _=>match x.adr s with
    | some (.loc t o)=>if isVar s t then some (.loc t o) else none
    | _=>none) (f:=⟨fun v=>k (a8 d v s) h⟩):=by
 simp only [opK,dm]
 have key:∀ y:Option AAddr,andThen (match y with | some (.loc t o)=>if varK (sget s t)=true then some (Slot.loc t o,s,h) else none | _=>none) (f:=⟨fun p=>k (a8 d p.1 p.2.1) p.2.2⟩) =
   andThen (match y with | some (.loc t o)=>if varK (sget s t)=true then some (Slot.loc t o) else none | _=>none) (f:=⟨fun v=>k (a8 d v s) h⟩):=by
  intro y;cases y with
  | none=>rfl
  | some a =>
   cases a with
   | glob _ _=>rfl
   | loc t o=>simp only; split <;> rfl
 cases x.ev s with
 | none=>exact key _
 | some v =>
  cases v with
  | ptr a =>
   cases a with
   | none=>exact key _
   | some a=>rfl
  | _=>exact key _
end
def guardV (x:Option Slot) (want:Bool) [f:Ct Unit β] [g:Ct Unit β]:Option β:=match x with
 | some (.val (.bool b))=>if b=want then f.default () else g.default ()
 | some .undef=>g.default ()
 | _=>none
@[simp] theorem guardV_tt (f g:Unit→Option β):guardV (some (.val (.bool true))) true (f:=⟨f⟩) (g:=⟨g⟩)=f ():=eq_of_heq HEq.rfl
@[simp] theorem guardV_tf (f g:Unit→Option β):guardV (some (.val (.bool true))) false (f:=⟨f⟩) (g:=⟨g⟩)=g ():=eq_of_heq HEq.rfl
@[simp] theorem guardV_ft (f g:Unit→Option β):guardV (some (.val (.bool false))) true (f:=⟨f⟩) (g:=⟨g⟩)=g ():=eq_of_heq HEq.rfl
@[simp] theorem guardV_ff (f g:Unit→Option β):guardV (some (.val (.bool false))) false (f:=⟨f⟩) (g:=⟨g⟩)=f ():=eq_of_heq HEq.rfl
@[simp] theorem guardV_u (w:Bool) (f g:Unit→Option β):guardV (some .undef) w (f:=⟨f⟩) (g:=⟨g⟩)=g ():=eq_of_heq HEq.rfl
def opsK (call:CallSem) (l:List AOper) (s:Slots) (h:Heap) [k:Ct2 Slots Heap β]:Option β:=andThen (evOps call l s h) (f:=⟨fun p=>k.default p.1 p.2⟩)
section
variable {call:CallSem} {s:Slots} {h:Heap} {k:Slots→Heap→Option β}
@[simp] theorem opsK_nil:opsK call [] s h (k:=⟨k⟩)=k s h:=eq_of_heq HEq.rfl
@[simp] theorem opsK_cons (d:Option Nat) (op:AOp) (r:List AOper):opsK call (⟨d,none,op⟩ :: r) s h (k:=⟨k⟩)=opK call d op s h (k:=⟨fun s h=>opsK call r s h (k:=⟨k⟩)⟩):=by simp only [opsK,opK,evOps,ew,evRun];cases dm call (d.getD 0) op s h <;> rfl
@[simp] theorem opsK_cons' (d:Option Nat) (t:Nat) (want:Bool) (op:AOp) (r:List AOper):opsK call (⟨d,some (t,want),op⟩ :: r) s h (k:=⟨k⟩) =
  guardV (sget s t) want (f:=⟨fun _=>opK call d op s h (k:=⟨fun s h=>opsK call r s h (k:=⟨k⟩)⟩)⟩) (g:=⟨fun _=>opsK call r (a8 d .undef s) h (k:=⟨k⟩)⟩):=by
 simp only [opsK,opK,evOps,ew,evRun,guardV];cases sget s t with
 | none=>rfl
 | some x =>
  cases x <;> try rfl
  rename_i v;cases v <;> try rfl
  rename_i b;by_cases e:b=want
  ·simp only [if_pos e];cases dm call (d.getD 0) op s h <;> rfl
  ·simp only [if_neg e]
end
def quietK (call:CallSem) (l:List AOper) (s:Slots) (h:Heap) [k:Ct2 Slots Heap β]:Option β:=andThen (evQuiet call l s h) (f:=⟨fun p=>k.default p.1 p.2⟩)
section
variable {call:CallSem} {s:Slots} {h:Heap} {k:Slots→Heap→Option β}
@[simp] theorem quietK_nil:quietK call [] s h (k:=⟨k⟩)=k s h:=eq_of_heq HEq.rfl
@[simp] theorem quietK_cons (d:Option Nat) (g:Option (Nat × Bool)) (op:AOp) (r:List AOper):quietK call (⟨d,g,op⟩ :: r) s h (k:=⟨k⟩) =
  opsK call [⟨d,g,op⟩] s { h with wmin:=h.size } (k:=⟨fun s' h'=>mustK (h'.size=h.size∧h'.wmin=h.size∧noVar d s=true) (f:=⟨fun _=>quietK call r s' h (k:=⟨k⟩)⟩)⟩):=by
 simp only [quietK,opsK,evQuiet,evOps,noVar_eq];cases ew call ⟨d,g,op⟩ s { h with wmin:=h.size } with
 | none=>rfl
 | some p =>
  simp only [dr,mustK];split <;> rfl
end
def newOp:AOp→Bool
 | .lalloc _=>true
 | _=>false
@[simp] theorem newOp_val (x:Opd):newOp (.val x)=false:=rfl
@[simp] theorem newOp_pick (c a b:Opd):newOp (.pick c a b)=false:=rfl
@[simp] theorem newOp_alloc (esz:Nat) (zero:List AVal):newOp (.alloc esz zero)=false:=rfl
@[simp] theorem newOp_lalloc (zero:List AVal):newOp (.lalloc zero)=true:=rfl
@[simp] theorem newOp_box (x:Opd):newOp (.box x)=false:=rfl
@[simp] theorem newOp_lbox (x:Opd):newOp (.lbox x)=false:=rfl
@[simp] theorem newOp_build (zero:List AVal) (parts:List (Nat × Nat × Opd)):newOp (.build zero parts)=false:=rfl
@[simp] theorem newOp_mkslice (esz len:Nat) (zero:List AVal) (parts:List (Nat × Nat × Opd)):newOp (.mkslice esz len zero parts)=false:=rfl
@[simp] theorem newOp_load (n:Option Nat) (a:Opd):newOp (.load n a)=false:=rfl
@[simp] theorem newOp_store (n:Nat) (a x:Opd):newOp (.store n a x)=false:=rfl
@[simp] theorem newOp_bin (op:BinOp) (x y:Opd):newOp (.bin op x y)=false:=rfl
@[simp] theorem newOp_un (op:UnOp) (x:Opd):newOp (.un op x)=false:=rfl
@[simp] theorem newOp_conv (k:ConvKind) (x:Opd):newOp (.conv k x)=false:=rfl
@[simp] theorem newOp_mkfunc (g:Nat) (first caps:List Opd):newOp (.mkfunc g first caps)=false:=rfl
@[simp] theorem newOp_make (esz bytes:Nat) (zero:List AVal) (len cap:Opd):newOp (.make esz bytes zero len cap)=false:=rfl
@[simp] theorem newOp_slice (k:SliceKind) (x:Opd) (lo hi mx:Option Opd):newOp (.slice k x lo hi mx)=false:=rfl
@[simp] theorem newOp_faddr (x:Opd) (off:Nat):newOp (.faddr x off)=false:=rfl
@[simp] theorem newOp_field (x:Opd) (off:Nat) (n:Option Nat):newOp (.field x off n)=false:=rfl
@[simp] theorem newOp_iaddr (esz:Nat) (x i:Opd):newOp (.iaddr esz x i)=false:=rfl
@[simp] theorem newOp_aaddr (len esz:Nat) (x i:Opd):newOp (.aaddr len esz x i)=false:=rfl
@[simp] theorem newOp_index (x i:Opd):newOp (.index x i)=false:=rfl
@[simp] theorem newOp_aindex (len esz:Nat) (n:Option Nat) (x i:Opd):newOp (.aindex len esz n x i)=false:=rfl
@[simp] theorem newOp_extract (x:Opd) (i:Nat):newOp (.extract x i)=false:=rfl
@[simp] theorem newOp_call (f:Opd) (args:List Opd):newOp (.call f args)=false:=rfl
@[simp] theorem newOp_callg (g:Nat) (args:List Opd):newOp (.callg g args)=false:=rfl
@[simp] theorem newOp_len (k:LenKind) (x:Opd):newOp (.len k x)=false:=rfl
@[simp] theorem newOp_append (esz bytes:Nat) (x y:Opd):newOp (.append esz bytes x y)=false:=rfl
@[simp] theorem newOp_copy (esz:Nat) (d s:Opd):newOp (.copy esz d s)=false:=rfl
@[simp] theorem newOp_minmax (isMax:Bool) (xs:List Opd):newOp (.minmax isMax xs)=false:=rfl
@[simp] theorem newOp_nilcheck (x:Opd):newOp (.nilcheck x)=false:=rfl
@[simp] theorem newOp_eqnil (k:NilKind) (neg:Bool) (x y:Opd):newOp (.eqnil k neg x y)=false:=rfl
@[simp] theorem newOp_beq (neg:Bool) (x y:Opd):newOp (.beq neg x y)=false:=rfl
@[simp] theorem newOp_ext (k:ExtOp) (xs:List Opd):newOp (.ext k xs)=false:=rfl
@[simp] theorem newOp_nextStr (x:Opd):newOp (.nextStr x)=false:=rfl
def hasNew:List AOper→Bool
 | []=>false
 | o :: r=>(newOp o.op && o.dst.isSome) || hasNew r
@[simp] theorem hasNew_nil:hasNew []=false:=rfl
@[simp] theorem hasNew_cons (d:Option Nat) (g:Option (Nat × Bool)) (op:AOp) (r:List AOper):hasNew (⟨d,g,op⟩ :: r)=((newOp op && d.isSome) || hasNew r):=rfl
theorem yj:∀ l:List AOper,(newVars l=[]) ↔ hasNew l=false
 | []=>by simp [newVars]
 | ⟨d,g,op⟩ :: r=>by
  have ih:=yj r;unfold newVars at ih ⊢;rw [hasNew_cons,List.filterMap_cons];cases op with
  | lalloc z =>
   cases d with
   | none=>simpa [AOper.news] using ih
   | some d=>simp [AOper.news]
  | _=>simpa [AOper.news] using ih
@[simp] theorem newVars_nil:newVars []=[]:=rfl
@[simp] theorem newVars_n (g:Option (Nat × Bool)) (op:AOp) (r:List AOper):newVars (⟨none,g,op⟩ :: r)=newVars r:=by unfold newVars;rw [List.filterMap_cons];cases op <;> rfl
@[simp] theorem newVars_s (d:Nat) (g:Option (Nat × Bool)) (op:AOp) (r:List AOper):newVars (⟨some d,g,op⟩ :: r)=if newOp op=true then d :: newVars r else newVars r:=by unfold newVars;rw [List.filterMap_cons];cases op <;> rfl
def looksK (V:List Nat):Option Slot→Nat→Bool
 | some (.loc u _),t=>V.contains t || V.contains u
 | _,t=>V.contains t
@[simp] theorem looksK_v (V:List Nat) (v:AVal) (t:Nat):looksK V (some (.val v)) t=V.contains t:=rfl
@[simp] theorem looksK_x (V:List Nat) (v:List AVal) (t:Nat):looksK V (some (.var v)) t=V.contains t:=rfl
@[simp] theorem looksK_u (V:List Nat) (t:Nat):looksK V (some .undef) t=V.contains t:=rfl
@[simp] theorem looksK_l (V:List Nat) (a b t:Nat):looksK V (some (.loc a b)) t=(V.contains t || V.contains a):=rfl
theorem looksK_eq (V:List Nat) (s:Slots) (t:Nat):looksAt V s t=looksK V (sget s t) t:=by
 unfold looksAt looksK;cases sget s t with
 | none=>simp
 | some x=>cases x <;> simp
def allLooks (V:List Nat) (s:Slots):List Nat→Bool
 | []=>true
 | t :: r=>!looksK V (sget s t) t && allLooks V s r
@[simp] theorem allLooks_nil (V:List Nat) (s:Slots):allLooks V s []=true:=rfl
@[simp] theorem allLooks_cons (V:List Nat) (s:Slots) (t:Nat) (r:List Nat):allLooks V s (t :: r)=(!looksK V (sget s t) t && allLooks V s r):=rfl
theorem ug (V:List Nat) (s:Slots):∀ l:List Nat,(l.all fun u=>!looksAt V s u)=allLooks V s l
 | []=>rfl
 | t :: r=>by rw [dv,ug V s r,looksK_eq]; rfl
def okK (V:List Nat) (d:Option Nat) (g:Option (Nat × Bool)) (op:AOp) (s:Slots):Bool:=quietOk V ⟨d,g,op⟩ s
@[simp] theorem okK_lalloc (V:List Nat) (d:Nat) (z:List AVal) (s:Slots):okK V (some d) none (.lalloc z) s=V.contains d:=by simp [okK,quietOk]
@[simp] theorem okK_store (V:List Nat) (n t:Nat) (x:Opd) (s:Slots):okK V none none (.store n (.tmp t) x) s=(V.contains t && varK (sget s t) && allLooks V s x.reads):=by simp only [okK,quietOk,uf,ug,Option.isNone_none,dh]
theorem pr (V:List Nat) (d:Nat) (g:Option (Nat × Bool)) (op:AOp) (s:Slots) (h:newOp op=false) (h2:∀ n a x,op ≠ .store n a x) :
  okK V (some d) g op s=(!varK (sget s d) && !V.contains d && allLooks V s (AOper.reads ⟨some d,g,op⟩)):=by
 unfold okK quietOk;split
 ·rename_i z hz; rw [show op = .lalloc z from hz] at h; cases h
 ·rename_i n t x hx; exact absurd hx (h2 _ _ _)
 ·rw [ug];simp only [Option.all_some,uf]
@[simp] theorem okK_val (V:List Nat) (d:Nat) (g:Option (Nat × Bool)) (s:Slots) (x':Opd):okK V (some d) g (.val x') s=(!varK (sget s d) && !V.contains d && allLooks V s (AOper.reads ⟨some d,g,.val x'⟩)):=pr _ _ _ _ _ rfl (fun _ _ _ e=>by cases e)
@[simp] theorem okK_build (V:List Nat) (d:Nat) (g:Option (Nat × Bool)) (s:Slots) (zero':List AVal) (parts':List (Nat × Nat × Opd)):okK V (some d) g (.build zero' parts') s=(!varK (sget s d) && !V.contains d && allLooks V s (AOper.reads ⟨some d,g,.build zero' parts'⟩)):=pr _ _ _ _ _ rfl (fun _ _ _ e=>by cases e)
@[simp] theorem okK_load (V:List Nat) (d:Nat) (g:Option (Nat × Bool)) (s:Slots) (n':Option Nat) (a':Opd):okK V (some d) g (.load n' a') s=(!varK (sget s d) && !V.contains d && allLooks V s (AOper.reads ⟨some d,g,.load n' a'⟩)):=pr _ _ _ _ _ rfl (fun _ _ _ e=>by cases e)
@[simp] theorem okK_faddr (V:List Nat) (d:Nat) (g:Option (Nat × Bool)) (s:Slots) (x':Opd) (off':Nat):okK V (some d) g (.faddr x' off') s=(!varK (sget s d) && !V.contains d && allLooks V s (AOper.reads ⟨some d,g,.faddr x' off'⟩)):=pr _ _ _ _ _ rfl (fun _ _ _ e=>by cases e)
@[simp] theorem okK_extract (V:List Nat) (d:Nat) (g:Option (Nat × Bool)) (s:Slots) (x':Opd) (i':Nat):okK V (some d) g (.extract x' i') s=(!varK (sget s d) && !V.contains d && allLooks V s (AOper.reads ⟨some d,g,.extract x' i'⟩)):=pr _ _ _ _ _ rfl (fun _ _ _ e=>by cases e)
@[simp] theorem okK_nilcheck (V:List Nat) (d:Nat) (g:Option (Nat × Bool)) (s:Slots) (x':Opd):okK V (some d) g (.nilcheck x') s=(!varK (sget s d) && !V.contains d && allLooks V s (AOper.reads ⟨some d,g,.nilcheck x'⟩)):=pr _ _ _ _ _ rfl (fun _ _ _ e=>by cases e)
@[simp] theorem okK_ext (V:List Nat) (d:Nat) (g:Option (Nat × Bool)) (s:Slots) (k':ExtOp) (xs':List Opd):okK V (some d) g (.ext k' xs') s=(!varK (sget s d) && !V.contains d && allLooks V s (AOper.reads ⟨some d,g,.ext k' xs'⟩)):=pr _ _ _ _ _ rfl (fun _ _ _ e=>by cases e)
attribute [simp] noLocs
def quietVK (call:CallSem) (V:List Nat) (l:List AOper) (s:Slots) (h:Heap) [k:Ct2 Slots Heap β]:Option β:=andThen (evQuietV call V l s h) (f:=⟨fun p=>k.default p.1 p.2⟩)
section
variable {call:CallSem} {s:Slots} {h:Heap} {V:List Nat} {k:Slots→Heap→Option β}
@[simp] theorem quietVK_nil:quietVK call V [] s h (k:=⟨k⟩)=k s h:=eq_of_heq HEq.rfl
@[simp] theorem quietVK_cons (d:Option Nat) (g:Option (Nat × Bool)) (op:AOp) (r:List AOper):quietVK call V (⟨d,g,op⟩ :: r) s h (k:=⟨k⟩) =
  opsK call [⟨d,g,op⟩] s { h with wmin:=h.size } (k:=⟨fun s' h'=>mustK (h'.size=h.size∧h'.wmin=h.size∧okK V d g op s=true) (f:=⟨fun _=>quietVK call V r s' h (k:=⟨k⟩)⟩)⟩):=by
 simp only [quietVK,opsK,evQuietV,evOps];cases ew call ⟨d,g,op⟩ s { h with wmin:=h.size } with
 | none=>rfl
 | some p =>
  simp only [dr];unfold mustK okK;by_cases e:p.2.size=h.size∧p.2.wmin=h.size∧quietOk V ⟨d,g,op⟩ s=true
  ·rw [if_pos e,if_pos e]; rfl
  ·rw [if_neg e,if_neg e]; rfl
end
def segsK (call:CallSem) (l:List Seg) (s:Slots) (h:Heap) [k:Ct2 Slots Heap β]:Option β:=andThen (j8 call l s h) (f:=⟨fun p=>k.default p.1 p.2⟩)
def openK (call:CallSem) (n0:Nat) (ms:List Nat) (l:List AOper) (ds:List Did) (s:Slots) (h:Heap) [k:Ct2 Slots Heap β]:Option β:=andThen (jb call n0 ms l ds s h) (f:=⟨fun p=>k.default p.1 p.2⟩)
section
variable {call:CallSem} {s:Slots} {h:Heap} {k:Slots→Heap→Option β}
@[simp] theorem segsK_nil:segsK call [] s h (k:=⟨k⟩)=k s h:=eq_of_heq HEq.rfl
@[simp] theorem segsK_f (m:List Nat) (l:List AOper) (r:List Seg):segsK call (⟨false,m,l⟩ :: r) s h (k:=⟨k⟩)=opsK call l s h (k:=⟨fun s h=>segsK call r s h (k:=⟨k⟩)⟩):=by simp only [segsK,opsK,j8,am,if_false];cases evOps call l s h <;> rfl
theorem segsK_t (l:List AOper) (r:List Seg) (hn:hasNew l=false):segsK call (⟨true,[],l⟩ :: r) s h (k:=⟨k⟩)=quietK call l s h (k:=⟨fun s h=>segsK call r s h (k:=⟨k⟩)⟩):=by simp only [segsK,quietK,j8,if_true,evQ];rw [if_pos ((yj l).2 hn)];cases evQuiet call l s h <;> rfl
theorem segsK_v (l:List AOper) (r:List Seg) (hn:hasNew l=true):segsK call (⟨true,[],l⟩ :: r) s h (k:=⟨k⟩)=mustK (noLocs (newVars l) s=true) (f:=⟨fun _=>quietVK call (newVars l) l s h (k:=⟨fun s h=>segsK call r s h (k:=⟨k⟩)⟩)⟩):=by
 simp only [segsK,quietVK,j8,if_true,evQ];rw [if_neg (fun e=>by rw [(yj l).1 e] at hn; cases hn)];unfold mustK;split
 ·rename_i he;split at he
  ·rename_i hl;rw [if_pos hl,he]; rfl
  ·cases he
 ·rename_i he;split at he
  ·rename_i hl;rw [if_pos hl,he]; rfl
  ·rename_i hl; rw [if_neg hl]; rfl
theorem segsK_o (m:Nat) (ms:List Nat) (l:List AOper) (r:List Seg):segsK call (⟨true,m :: ms,l⟩ :: r) s h (k:=⟨k⟩)=openK call h.size (m :: ms) l [] s h (k:=⟨fun s h=>segsK call r s h (k:=⟨k⟩)⟩):=by simp only [segsK,openK,j8,um,if_true,reduceCtorEq,if_false];cases jb call h.size (m :: ms) l [] s h <;> rfl
@[simp] theorem openK_nil (n0:Nat) (ms:List Nat) (ds:List Did):openK call n0 ms [] ds s h (k:=⟨k⟩)=k s h:=by simp [openK,jb]
end
def iteK (p:Prop) [Decidable p] [f:Ct Unit β] [g:Ct Unit β]:Option β:=if p then f.default () else g.default ()
@[simp] theorem iteK_t [i:Decidable True] (f g:Unit→Option β):iteK True (f:=⟨f⟩) (g:=⟨g⟩)=f ():=by simp [iteK]
@[simp] theorem iteK_f [i:Decidable False] (f g:Unit→Option β):iteK False (f:=⟨f⟩) (g:=⟨g⟩)=g ():=by simp [iteK]
@[simp] theorem segsK_q (call:CallSem) (l:List AOper) (r:List Seg) (s:Slots) (h:Heap) (k:Slots→Heap→Option β):segsK call (⟨true,[],l⟩ :: r) s h (k:=⟨k⟩)=iteK (hasNew l=true)
  (f:=⟨fun _=>mustK (noLocs (newVars l) s=true) (f:=⟨fun _=>quietVK call (newVars l) l s h (k:=⟨fun s h=>segsK call r s h (k:=⟨k⟩)⟩)⟩)⟩)
  (g:=⟨fun _=>quietK call l s h (k:=⟨fun s h=>segsK call r s h (k:=⟨k⟩)⟩)⟩):=by
 unfold iteK;split
 ·rename_i hn; exact segsK_v l r hn
 ·rename_i hn; exact segsK_t l r (by simpa using hn)
abbrev Ct3 (β:Type):=Inhabited (Slot→Heap→Did→Option β)
def endK (n0 m:Nat) (ds:List Did) (rd:List Nat) (ld:Option (Nat × Nat × Option Nat × AVal)) (y:Slot) (h h':Heap) [k:Ct3 β]:Option β :=
 if h'.size=h.size then
  if h'.wmin < h.size then
   match h'.objs[h'.wmin]? with
   | some ob=>if (y.ids++ob.ids).all (okId n0 m ds)=true then k.default y ⟨h'.objs,h.base,min h.wmin h'.wmin⟩ ⟨false,rd,some h'.wmin,none,h.size,h.size,ld⟩ else none
   | none=>none
  else if h'.wmin=h.size∧y.ids.all (okId n0 m ds)=true then k.default y h ⟨false,rd,none,none,h.size,h.size,ld⟩ else none
 else if h'.size=h.size+1 then
  match h'.objs[h.size]? with
  | some ob =>
   if ob.ids.all (okId n0 m ds) then
    if h'.wmin=h.size then k.default y ⟨h'.objs,h.base,h.wmin⟩ ⟨false,rd,none,none,h.size,h.size+1,ld⟩
    else k.default y ⟨h'.objs,h.base,min h.wmin h'.wmin⟩ ⟨false,rd,some h'.wmin,none,h.size,h.size+1,ld⟩
   else none
  | none=>none
 else none
def endC (n0 m:Nat) (ds:List Did) (y:Slot) (h h':Heap) [k:Ct3 β]:Option β :=
 if h'.wmin < h.size then
  if allSeen m 0 ds then k.default y ⟨h'.objs,h.base,min h.wmin h'.wmin⟩ ⟨true,[],none,some (h'.wmin,h.objs,h'.objs),h.size,h'.size,none⟩ else none
 else if allSeen m 0 ds then k.default y ⟨h'.objs,h.base,h.wmin⟩ ⟨true,[],none,none,h.size,h'.size,none⟩
 else if (y.ids++(h'.objs.drop h.size).flatMap AObj.ids).all (fun i=>okId n0 m ds i || decide (h.size≤i)) then
  k.default y ⟨h.objs++h'.objs.drop h.size,h.base,h.wmin⟩ ⟨true,[],none,none,h.size,h'.size,none⟩
 else none
section
variable {n0 m:Nat} {ds:List Did} {rd:List Nat} {ld:Option (Nat × Nat × Option Nat × AVal)} {y:Slot} {h h':Heap} {k:Slot→Heap→Did→Option β}
@[simp] theorem endK_eq:endK n0 m ds rd ld y h h' (k:=⟨k⟩)=iteK (h'.size=h.size)
  (f:=⟨fun _=>iteK (h'.wmin < h.size)
   (f:=⟨fun _=>andThen (h'.objs[h'.wmin]?) (f:=⟨fun ob=>mustK ((y.ids++ob.ids).all (okId n0 m ds)=true) (f:=⟨fun _=>k y ⟨h'.objs,h.base,min h.wmin h'.wmin⟩ ⟨false,rd,some h'.wmin,none,h.size,h.size,ld⟩⟩)⟩)⟩)
   (g:=⟨fun _=>mustK (h'.wmin=h.size∧y.ids.all (okId n0 m ds)=true) (f:=⟨fun _=>k y h ⟨false,rd,none,none,h.size,h.size,ld⟩⟩)⟩)⟩)
  (g:=⟨fun _=>mustK (h'.size=h.size+1) (f:=⟨fun _=>andThen (h'.objs[h.size]?) (f:=⟨fun ob=>mustK (ob.ids.all (okId n0 m ds)=true) (f:=⟨fun _=>iteK (h'.wmin=h.size)
   (f:=⟨fun _=>k y ⟨h'.objs,h.base,h.wmin⟩ ⟨false,rd,none,none,h.size,h.size+1,ld⟩⟩)
   (g:=⟨fun _=>k y ⟨h'.objs,h.base,min h.wmin h'.wmin⟩ ⟨false,rd,some h'.wmin,none,h.size,h.size+1,ld⟩⟩)⟩)⟩)⟩)⟩):=by
 unfold endK iteK mustK;split
 ·show _=if _ then _ else _
  split
  ·cases h'.objs[h'.wmin]? with
   | none=>rfl
   | some ob=>rfl
  ·rfl
 ·show _=if _ then _ else _
  split
  ·cases h'.objs[h.size]? with
   | none=>rfl
   | some ob =>
    show (if ob.ids.all (okId n0 m ds)=true then _ else none)=if ob.ids.all (okId n0 m ds)=true then _ else none
    split <;> rfl
  ·rfl
@[simp] theorem endC_eq:endC n0 m ds y h h' (k:=⟨k⟩)=iteK (h'.wmin < h.size)
  (f:=⟨fun _=>mustK (allSeen m 0 ds=true) (f:=⟨fun _=>k y ⟨h'.objs,h.base,min h.wmin h'.wmin⟩ ⟨true,[],none,some (h'.wmin,h.objs,h'.objs),h.size,h'.size,none⟩⟩)⟩)
  (g:=⟨fun _=>iteK (allSeen m 0 ds=true) (f:=⟨fun _=>k y ⟨h'.objs,h.base,h.wmin⟩ ⟨true,[],none,none,h.size,h'.size,none⟩⟩)
   (g:=⟨fun _=>mustK ((y.ids++(h'.objs.drop h.size).flatMap AObj.ids).all (fun i=>okId n0 m ds i || decide (h.size≤i))=true) (f:=⟨fun _ =>
    k y ⟨h.objs++h'.objs.drop h.size,h.base,h.wmin⟩ ⟨true,[],none,none,h.size,h'.size,none⟩⟩)⟩)⟩):=by
 unfold endC iteK mustK;split <;> rfl
end
section
variable {call:CallSem} {s:Slots} {h:Heap} {k:Slots→Heap→Option β}
@[simp] theorem openK_cons (n0:Nat) (ms:List Nat) (o:AOper) (r:List AOper) (ds:List Did):openK call n0 ms (o :: r) ds s h (k:=⟨k⟩) =
  mustK ((o.reads.flatMap (slotIds s)++gm o.op s).all (okId n0 (ms.headD 0) ds)=true) (f:=⟨fun _=>iteK (o.op.isCall=true)
   (f:=⟨fun _=>opsK call [o] s ⟨hide (ms.headD 0) 0 ds h.objs,h.base,h.size⟩ (k:=⟨fun s' h'=>endC n0 (ms.headD 0) ds (gr o.dst s') h h' (k:=⟨fun y h2 d =>
    mustK (noVar o.dst s=true∧jy h2 (ms.headD 0) d 0 ds=true) (f:=⟨fun _=>openK call n0 ms.tail r (ds++[d]) (a8 o.dst y s) h2 (k:=⟨k⟩)⟩)⟩)⟩)⟩)
   (g:=⟨fun _=>opsK noCall [o] s ⟨h.objs,h.base,h.size⟩ (k:=⟨fun s' h'=>endK n0 (ms.headD 0) ds (gm o.op s) (ldOf o s (gr o.dst s')) (gr o.dst s') h h' (k:=⟨fun y h2 d =>
    mustK (noVar o.dst s=true∧jy h2 (ms.headD 0) d 0 ds=true) (f:=⟨fun _=>openK call n0 ms.tail r (ds++[d]) (a8 o.dst y s) h2 (k:=⟨k⟩)⟩)⟩)⟩)⟩)⟩):=by
 have key:∀ (x:Option (Slot × Heap × Did)),andThen (match x with
   | some (y,h',d)=>if (o.dst.all fun d=>!isVar s d)=true∧jy h' (ms.headD 0) d 0 ds=true then jb call n0 ms.tail r (ds++[d]) (a8 o.dst y s) h' else none
   | none=>none) (f:=⟨fun p=>k p.1 p.2⟩)=andThen x (f:=⟨fun p=>if noVar o.dst s=true∧jy p.2.1 (ms.headD 0) p.2.2 0 ds=true then andThen (jb call n0 ms.tail r (ds++[p.2.2]) (a8 o.dst p.1 s) p.2.1) (f:=⟨fun p=>k p.1 p.2⟩) else none⟩):=by
  intro x;cases x with
  | none=>rfl
  | some x =>
   obtain ⟨y,h',d⟩:=x;simp only [dr,noVar_eq];split <;> rfl
 unfold openK jb;refine (key _).trans ?_;generalize hF:(fun p:Slot × Heap × Did=>if noVar o.dst s=true∧jy p.2.1 (ms.headD 0) p.2.2 0 ds=true then andThen (jb call n0 ms.tail r (ds++[p.2.2]) (a8 o.dst p.1 s) p.2.1) (f:=⟨fun p=>k p.1 p.2⟩) else none)=F;have hF':∀ y h d,F (y,h,d)=if noVar o.dst s=true∧jy h (ms.headD 0) d 0 ds=true then andThen (jb call n0 ms.tail r (ds++[d]) (a8 o.dst y s) h) (f:=⟨fun p=>k p.1 p.2⟩) else none:=fun y h d=>by rw [← hF]
 unfold lg mustK iteK opsK;simp only [evOps];cases h1:(o.reads.flatMap (slotIds s)++gm o.op s).all (okId n0 (ms.headD 0) ds) with
 | false=>simp
 | true =>
  simp only [Bool.true_eq_false,if_false,if_true];split
  ·cases ew call o s ⟨hide (ms.headD 0) 0 ds h.objs,h.base,h.size⟩ with
   | none=>rfl
   | some p =>
    obtain ⟨s',h'⟩:=p;simp only [dr];unfold endC;simp only [← hF'];split
    ·split <;> rfl
    ·split
     ·rfl
     ·split <;> rfl
  ·cases ew noCall o s ⟨h.objs,h.base,h.size⟩ with
   | none=>rfl
   | some p =>
    obtain ⟨s',h'⟩:=p;simp only [dr];unfold endK;simp only [← hF'];split
    ·split
     ·cases h'.objs[h'.wmin]? with
      | none=>rfl
      | some ob =>
       simp only;split <;> rfl
     ·split <;> rfl
    ·split
     ·cases h'.objs[h.size]? with
      | none=>rfl
      | some ob =>
       simp only;split
       ·split <;> rfl
       ·rfl
     ·rfl
end
def openPK (call:CallSem) (n0:Nat) [k:Ct2 Slots Heap β] [f:Ct Unit β]:Bool→List AOper→Slots→Heap→Option β
 | _,[],s,h=>k.default s h
 | c,o :: r,s,h=>iteK ((o.reads.flatMap (slotIds s)++gm o.op s).all (fun i=>decide (i < n0))=true)
  (f:=⟨fun _=>iteK (o.op.isCall=true)
   (f:=⟨fun _=>iteK (c=true) (f:=f) (g:=⟨fun _=>opsK call [o] s ⟨h.objs,h.base,h.size⟩ (k:=⟨fun s' h' =>
    iteK (h'.size=h.size∧((gr o.dst s').ids.all fun i=>decide (i < n0))=true∧noVar o.dst s=true)
     (f:=⟨fun _=>openPK call n0 (k:=k) (f:=f) true r (a8 o.dst (gr o.dst s') s) ⟨h'.objs,h.base,if h'.wmin < h.size then min h.wmin h'.wmin else h.wmin⟩⟩) (g:=f)⟩)⟩)⟩)
   (g:=⟨fun _=>iteK (gm o.op s=[])
    (f:=⟨fun _=>opsK noCall [o] s ⟨h.objs,h.base,h.size⟩ (k:=⟨fun s' h' =>
     iteK (h'.size=h.size∧h'.wmin=h.size∧((gr o.dst s').ids.all fun i=>decide (i < n0))=true∧noVar o.dst s=true)
      (f:=⟨fun _=>openPK call n0 (k:=k) (f:=f) c r (a8 o.dst (gr o.dst s') s) h⟩) (g:=f)⟩)⟩) (g:=f)⟩)⟩) (g:=f)
def PlainD (c:Bool) (ds:List Did):Prop:=∀ d ∈ ds,d.rd=[]∧d.ch=none∧d.hi≤d.lo∧(c=false→d.isCall=false∧d.wr=none)
theorem zbn {c:Bool} {m:Nat} {os:List AObj}:∀ {ds:List Did} {y:Nat},PlainD c ds→hide m y ds os=os
 | [],_,_=>rfl
 | d :: ds,y,h=>by simp only [hide];rw [if_pos (by simp [(h d (bh ..)).2.2.1])];exact zbn fun x hx=>h x (bu _ hx)
theorem zbo {c:Bool} {m:Nat}:∀ {ds:List Did} {y:Nat},PlainD c ds→allSeen m y ds=true
 | [],_,_=>rfl
 | d :: ds,y,h=>by simp only [allSeen];rw [zbo fun x hx=>h x (bu _ hx)];simp [(h d (bh ..)).2.2.1]
theorem qg {hh:Heap} {c:Bool} {m:Nat} {x:Did} (hx:x.rd=[]∧x.ch=none∧(c=true→x.isCall=false)):∀ {ds:List Did} {y:Nat},PlainD c ds→jy hh m x y ds=true
 | [],_,_=>rfl
 | d :: ds,y,h=>by
  simp only [jy];rw [qg hx fun x hx=>h x (bu _ hx)];obtain ⟨h1,h2,_,h4⟩:=h d (bh ..);obtain ⟨k1,k2,k3⟩:=hx
  have hcc:(x.isCall && d.isCall)=false:=by
   cases c with
   | true=>rw [k3 rfl]; rfl
   | false=>rw [(h4 rfl).1]; simp
  simp [clash,h1,h2,k1,k2,hcc]
theorem uy {call:CallSem} {n0:Nat} {k:Slots→Heap→Option β} {F:Option β}:∀ (ops:List AOper) (c:Bool) (ms:List Nat) (ds:List Did) (s:Slots) (h:Heap),PlainD c ds→openK call n0 ms ops ds s h (k:=⟨k⟩)=F→openPK call n0 c ops s h (k:=⟨k⟩) (f:=⟨fun _=>F⟩)=F
 | [],c,ms,ds,s,h,hd,hF=>by simp only [openPK];rw [← hF];simp
 | o :: r,c,ms,ds,s,h,hd,hF=>by
  have hok:(o.reads.flatMap (slotIds s)++gm o.op s).all (fun i=>decide (i < n0))=true→(o.reads.flatMap (slotIds s)++gm o.op s).all (okId n0 (ms.headD 0) ds)=true:=fun hh=>by rw [al] at hh ⊢;intro x hx;have:=hh x hx;simp only [okId,ep];exact .inl this
  have hok2:∀ l:List Nat,(l.all fun i=>decide (i < n0))=true→l.all (okId n0 (ms.headD 0) ds)=true:=fun l hh=>by rw [al] at hh ⊢;intro x hx;have:=hh x hx;simp only [okId,ep];exact .inl this
  rw [openK_cons] at hF;simp only [openPK];unfold iteK;split;case isFalse=>rfl
  rename_i h1;rw [show mustK _ (f:=_)=_ from if_pos (hok h1)] at hF;simp only at hF ⊢;split
  ·rename_i hc;rw [show iteK _ (f:=_) (g:=_)=_ from if_pos hc] at hF;split
   ·rfl
   ·rename_i hcf;have hcf:c=false:=by simpa using hcf
    subst hcf;rw [zbn hd] at hF;unfold opsK at hF ⊢;cases he:evOps call [o] s ⟨h.objs,h.base,h.size⟩ with
    | none=>rw [he] at hF; simpa using hF
    | some q =>
     obtain ⟨s',h'⟩:=q;rw [he] at hF;simp only [dr] at hF ⊢;split;case isFalse=>rfl
     rename_i hh;obtain ⟨g1,g2,g3⟩:=hh;have hseen:=zbo (m:=ms.headD 0) (y:=0) hd;have hnc:∀ hh wr,jy hh (ms.headD 0) ⟨true,[],none,wr,h.size,h'.size,none⟩ 0 ds=true:=fun hh wr=>qg (c:=false) ⟨rfl,rfl,fun h=>by cases h⟩ hd
     have hd2:∀ wr,PlainD true (ds++[⟨true,[],none,wr,h.size,h'.size,none⟩]):=fun wr x hx=>by
      rcases bp.1 hx with hx | hx
      ·obtain ⟨a1,a2,a3,_⟩:=hd x hx;exact ⟨a1,a2,a3,fun h=>by cases h⟩
      ·simp only [d9] at hx;subst hx;exact ⟨rfl,rfl,Nat.le_of_eq g1,fun h=>by cases h⟩
     by_cases hw:h'.wmin < h.size
     ·rw [if_pos hw];refine uy r true ms.tail _ _ _ (hd2 (some (h'.wmin,h.objs,h'.objs))) ?_;rw [← hF];unfold endC;rw [if_pos hw,if_pos hseen];exact (if_pos (c:=noVar o.dst s=true∧jy _ (ms.headD 0) ⟨true,[],none,some (h'.wmin,h.objs,h'.objs),h.size,h'.size,none⟩ 0 ds=true) ⟨g3,hnc _ _⟩).symm
     ·rw [if_neg hw];refine uy r true ms.tail _ _ _ (hd2 none) ?_;rw [← hF];unfold endC;rw [if_neg hw,if_pos hseen];exact (if_pos (c:=noVar o.dst s=true∧jy _ (ms.headD 0) ⟨true,[],none,none,h.size,h'.size,none⟩ 0 ds=true) ⟨g3,hnc _ _⟩).symm
  ·rename_i hc;rw [show iteK _ (f:=_) (g:=_)=_ from if_neg hc] at hF;split;case isFalse=>rfl
   rename_i hr;unfold opsK at hF ⊢;cases he:evOps noCall [o] s ⟨h.objs,h.base,h.size⟩ with
   | none=>rw [he] at hF; simpa using hF
   | some q =>
    obtain ⟨s',h'⟩:=q;rw [he] at hF;simp only [dr] at hF ⊢;split;case isFalse=>rfl
    rename_i hh;obtain ⟨g1,g2,g3,g4⟩:=hh;have hnc:∀ hh ld,jy hh (ms.headD 0) ⟨false,[],none,none,h.size,h.size,ld⟩ 0 ds=true:=fun hh ld=>qg (c:=c) ⟨rfl,rfl,fun _=>rfl⟩ hd
    refine uy r c ms.tail (ds++[⟨false,[],none,none,h.size,h.size,ldOf o s (gr o.dst s')⟩]) _ _ (fun x hx=>?_) ?_
    ·rcases bp.1 hx with hx | hx
     ·exact hd x hx
     ·simp only [d9] at hx;subst hx;exact ⟨rfl,rfl,ai _,fun _=>⟨rfl,rfl⟩⟩
    ·rw [← hF];unfold endK;rw [if_pos g1,if_neg (by omega),if_pos ⟨g2,hok2 _ g3⟩,hr];exact (if_pos (c:=noVar o.dst s=true∧jy _ (ms.headD 0) ⟨false,[],none,none,h.size,h.size,_⟩ 0 ds=true) ⟨g4,hnc _ _⟩).symm
section
variable {call:CallSem} {n0:Nat} {c:Bool} {s:Slots} {h:Heap} {k:Slots→Heap→Option β} {f:Unit→Option β}
@[simp] theorem openPK_cons (o:AOper) (r:List AOper):openPK call n0 (k:=⟨k⟩) (f:=⟨f⟩) c (o :: r) s h=iteK ((o.reads.flatMap (slotIds s)++gm o.op s).all (fun i=>decide (i < n0))=true)
  (f:=⟨fun _=>iteK (o.op.isCall=true)
   (f:=⟨fun _=>iteK (c=true) (f:=⟨f⟩) (g:=⟨fun _=>opsK call [o] s ⟨h.objs,h.base,h.size⟩ (k:=⟨fun s' h' =>
    iteK (h'.size=h.size∧((gr o.dst s').ids.all fun i=>decide (i < n0))=true∧noVar o.dst s=true)
     (f:=⟨fun _=>openPK call n0 (k:=⟨k⟩) (f:=⟨f⟩) true r (a8 o.dst (gr o.dst s') s) ⟨h'.objs,h.base,if h'.wmin < h.size then min h.wmin h'.wmin else h.wmin⟩⟩) (g:=⟨f⟩)⟩)⟩)⟩)
   (g:=⟨fun _=>iteK (gm o.op s=[])
    (f:=⟨fun _=>opsK noCall [o] s ⟨h.objs,h.base,h.size⟩ (k:=⟨fun s' h' =>
     iteK (h'.size=h.size∧h'.wmin=h.size∧((gr o.dst s').ids.all fun i=>decide (i < n0))=true∧noVar o.dst s=true)
      (f:=⟨fun _=>openPK call n0 (k:=⟨k⟩) (f:=⟨f⟩) c r (a8 o.dst (gr o.dst s') s) h⟩) (g:=⟨f⟩)⟩)⟩) (g:=⟨f⟩)⟩)⟩) (g:=⟨f⟩):=eq_of_heq HEq.rfl
end
@[simp] theorem segsK_p (call:CallSem) (m:Nat) (ms:List Nat) (l:List AOper) (r:List Seg) (s:Slots) (h:Heap) (k:Slots→Heap→Option β):segsK call (⟨true,m :: ms,l⟩ :: r) s h (k:=⟨k⟩) =
  openPK call h.size false l s h (k:=⟨fun s h=>segsK call r s h (k:=⟨k⟩)⟩) (f:=⟨fun _=>openK call h.size (m :: ms) l [] s h (k:=⟨fun s h=>segsK call r s h (k:=⟨k⟩)⟩)⟩):=by
 rw [segsK_o];exact (uy l false (m :: ms) [] s h (fun x hx=>by cases hx) rfl).symm
noncomputable def xK (T:Nat→Option AFunc) (c:ACode) (st:St) [k:Ct2 AExit St β]:Option β:=andThen (ir T c st) (f:=⟨fun p=>k.default p.1 p.2⟩)
section
variable {T:Nat→Option AFunc} {st:St} {k:AExit→St→Option β}
@[simp] theorem xK_skip:xK T .skip st (k:=⟨k⟩)=k .normal st:=by simp [xK]
@[simp] theorem xK_exit (i:Nat):xK T (.exit i) st (k:=⟨k⟩)=k (.exit i) st:=by simp [xK]
@[simp] theorem xK_ret:xK T .ret st (k:=⟨k⟩)=k .ret st:=by simp [xK]
@[simp] theorem xK_region (gs:List Seg):xK T (.region gs) st (k:=⟨k⟩)=segsK (xCall T) gs st.s st.h (k:=⟨fun s h=>k .normal ⟨s,h⟩⟩):=by simp only [xK,segsK,wn,jw]
@[simp] theorem xK_seq (a b:ACode):xK T (.seq a b) st (k:=⟨k⟩)=xK T a st (k:=⟨fun e st=>nxK e st (f:=⟨fun st=>xK T b st (k:=⟨k⟩)⟩) (k:=⟨k⟩)⟩):=by
 simp only [xK,xCode_seq];cases ir T a st with
 | none=>rfl
 | some p =>
  obtain ⟨e,st'⟩:=p;cases e <;> rfl
@[simp] theorem xK_cond (c:Opd) (a b:ACode):xK T (.cond c a b) st (k:=⟨k⟩)=condK (c.ev st.s) (f:=⟨fun _=>xK T a st (k:=⟨k⟩)⟩) (g:=⟨fun _=>xK T b st (k:=⟨k⟩)⟩):=by
 simp only [xK,zao,condK];cases c.ev st.s with
 | none=>rfl
 | some v =>
  cases v <;> try rfl
  rename_i x; cases x <;> rfl
@[simp] theorem xK_block (i:Nat) (c:ACode):xK T (.block i c) st (k:=⟨k⟩)=xK T c st (k:=⟨fun e st=>k (blkE i e) st⟩):=by
 simp only [xK,y7];cases ir T c st with
 | none=>rfl
 | some p =>
  obtain ⟨e,st'⟩:=p;cases e <;> simp only [dr,blkE]
  split <;> rfl
@[simp] theorem xK_live (l:List Nat) (c:ACode):xK T (.live l c) st (k:=⟨k⟩)=xK T c ⟨keepK l st.s,st.h⟩ (k:=⟨k⟩):=by simp only [xK,zap,zbm]
@[simp] theorem xK_after (c:ACode) (l:List Nat):xK T (.after c l) st (k:=⟨k⟩)=xK T c st (k:=⟨fun e st=>nxK e st (f:=⟨fun st=>k .normal ⟨keepK l st.s,st.h⟩⟩) (k:=⟨k⟩)⟩):=by
 simp only [xK,y8];cases ir T c st with
 | none=>rfl
 | some p =>
  obtain ⟨e,st'⟩:=p;cases e <;> first | rfl | (simp only [dr,nxK,zbm])
theorem cg (c:ACode):xK T (.loop c) st (k:=⟨k⟩)=xK T c st (k:=⟨fun e st=>nxK e st (f:=⟨fun st=>xK T (.loop c) st (k:=⟨k⟩)⟩) (k:=⟨k⟩)⟩):=by
 simp only [xK];rw [vl];cases ir T c st with
 | none=>rfl
 | some p =>
  obtain ⟨e,st'⟩:=p;cases e <;> rfl
@[simp] theorem xK_rangeFunc (f:Opd) (g:Nat) (caps ps:List Nat) (a b:ACode):xK T (.rangeFunc f g caps ps a b) st (k:=⟨k⟩)=andThen (f.ev st.s) (f:=⟨fun fv=>andThen (capsOf st.s caps) (f:=⟨fun sl =>
  andThen (callVal (xCall T) fv [.yield st.h.size] (st.h.push (.loop g .ready none sl))) (f:=⟨fun p=>andThen (loopEnd st.s p.2 st.h.size) (f:=⟨fun q=>k q.1 q.2⟩)⟩)⟩)⟩):=by
 simp only [xK,zu];cases f.ev st.s <;> cases capsOf st.s caps <;> try rfl
 simp only [dr];cases callVal _ _ _ _ <;> rfl
end
def retK (f:AFunc) (h:Heap) (e:AExit) (st:St):Option (AVal × Heap):=match e with
 | .exit _=>none
 | _=>andThen (resultsL st.s st.h f.results) (f:=⟨fun vs=>some (dy h (tupled vs) st.h)⟩)
@[simp] theorem retK_r (f:AFunc) (h:Heap) (st:St):retK f h .ret st=andThen (resultsL st.s st.h f.results) (f:=⟨fun vs=>some (dy h (tupled vs) st.h)⟩):=eq_of_heq HEq.rfl
@[simp] theorem retK_n (f:AFunc) (h:Heap) (st:St):retK f h .normal st=andThen (resultsL st.s st.h f.results) (f:=⟨fun vs=>some (dy h (tupled vs) st.h)⟩):=eq_of_heq HEq.rfl
theorem au {T:Nat→Option AFunc} {g:Nat} {f:AFunc} (hT:T g=some f) (args:List AVal) (h:Heap) (hr:f.round=none:=by rfl) (hc:f.closed=false:=by rfl) (hw:f.wild=false:=by rfl) :
  xCall T g args h=mustK (args.length=f.nargs) (f:=⟨fun _=>xK T f.body ⟨enter 0 args,{ h with wmin:=h.size }⟩ (k:=⟨retK f h⟩)⟩):=by
 rw [ea T hT (hr:=hr) (hw:=hw),hc,wrapC_false];unfold xFunc mustK;by_cases hn:args.length=f.nargs
 ·rw [if_pos hn,if_pos hn];unfold xK outcome;cases ir T f.body ⟨enter 0 args,{ h with wmin:=h.size }⟩ with
  | none=>rfl
  | some p =>
   obtain ⟨e,st⟩:=p;cases e with
   | exit i=>rfl
   | normal=>simp only [dr,retK]; cases resultsL st.s st.h f.results <;> rfl
   | ret=>simp only [dr,retK]; cases resultsL st.s st.h f.results <;> rfl
 ·rw [if_neg hn,if_neg hn]
end Go.Abs

namespace Go.Abs.Short
@[reducible] def t (i:Nat):Opd:=.tmp i
@[reducible] def n (i:Int):Opd:=.const (.int .i64 i)
@[reducible] def F:Opd:=.const (.bool false)
@[reducible] def Y:Opd:=.const (.bool true)
@[reducible] def R (l:List Nat) (ops:List AOper):ACode:=.after (.region [⟨false,[],ops⟩]) l
@[reducible] def v (d x:Nat):AOper:=⟨some d,none,.val (.tmp x)⟩
@[reducible] def o (d:Nat) (op:AOp):AOper:=⟨some d,none,op⟩
@[reducible] def u (op:AOp):AOper:=⟨none,none,op⟩
@[reducible] def g (d t:Nat) (w:Bool) (op:AOp):AOper:=⟨some d,some (t,w),op⟩
@[reducible] def Z (l:List Nat):ACode:=.live l .ret
@[reducible] def Lq (i:Nat):AOp:=.load none (.tmp i)
@[reducible] def Fa (i k:Nat):AOp:=.faddr (.tmp i) k
@[reducible] def Sl (i:Nat):AOp:=.len .sl (.tmp i)
@[reducible] def Bt (b:BinOp) (i j:Nat):AOp:=.bin b (.tmp i) (.tmp j)
@[reducible] def Bn (b:BinOp) (i:Nat) (j:Int):AOp:=.bin b (.tmp i) (n j)
@[reducible] def Xt (i k:Nat):AOp:=.extract (.tmp i) k
@[reducible] def Vl (i:Nat):AOp:=.val (.tmp i)
@[reducible] def Ks (s:List UInt8):Opd:=.const (.str s)
@[reducible] def S (a b:ACode):ACode:=.seq a b
end Go.Abs.Short
namespace Go.Abs.ShortH
def r (n:Nat) (l:List Nat):Hint:=.after (.reg [(false,n)] []) l
def l (l:List Nat):Hint:=.live l .leaf
end Go.Abs.ShortH

namespace Go.Abs.Zd
open Go.Abs.Short
def code25:AFunc:=⟨false,false,1,12,[.tmp 2],
 S (R [0] [o 2 (.val F)])
 (S (R [2] [v 3 0,o 4 (.len .str (t 3)),o 5 (Bn .leq 4 64),v 6 5,g 7 6 true (Vl 0),g 8 6 true (.callg 90 [t 7,Ks [47]]),g 9 6 true (.callg 91 [t 8,.const (.func 92 [] [])]),g 10 6 true (.un .not (t 9)),o 11 (.pick (t 6) (t 10) F),v 2 11])
 (Z [2])),none⟩
def code26L0:ACode :=
 .live [0,3,4] (S (S (R [0,3,4,10] [v 7 4,v 8 0,o 9 (.len .str (t 8)),o 10 (Bt .lss 7 9)])
 (.after (.cond (t 10) (.skip) (.live [0,3] (.exit 0))) [0,3,4]))
 (S (.after (.block 1 (S (R [0,3,4,5] [v 13 0,v 14 4,o 15 (.index (t 13) (t 14)),v 5 15])
 (S (R [0,3,4,5,6] [v 16 5,o 17 (.bin .geq (t 16) (.const (.int .u8 97))),v 18 17,g 19 18 true (Vl 5),g 20 18 true (.bin .leq (t 19) (.const (.int .u8 122))),o 21 (.pick (t 18) (t 20) F),v 22 21,g 23 22 false (Vl 5),g 24 22 false (.bin .geq (t 23) (.const (.int .u8 65))),g 25 22 false (Vl 24),g 26 25 true (Vl 5),g 27 25 true (.bin .leq (t 26) (.const (.int .u8 90))),g 28 22 false (.pick (t 25) (t 27) F),o 29 (.pick (t 22) Y (t 28)),v 30 29,g 31 30 false (Vl 5),g 32 30 false (.bin .geq (t 31) (.const (.int .u8 48))),g 33 30 false (Vl 32),g 34 33 true (Vl 5),g 35 33 true (.bin .leq (t 34) (.const (.int .u8 57))),g 36 30 false (.pick (t 33) (t 35) F),o 37 (.pick (t 30) Y (t 36)),v 38 37,g 39 38 false (Vl 5),g 40 38 false (.bin .eql (t 39) (.const (.int .u8 95))),o 41 (.pick (t 38) Y (t 40)),v 42 41,g 43 42 false (Vl 5),g 44 42 false (.bin .eql (t 43) (.const (.int .u8 36))),o 45 (.pick (t 42) Y (t 44)),v 6 45])
 (S (S (R [0,4,5,55] [v 46 6,o 47 (.un .not (t 46)),v 48 47,g 49 48 true (Vl 5),g 50 48 true (.bin .neq (t 49) (.const (.int .u8 47))),g 51 48 true (Vl 50),g 52 51 false (Vl 3),g 53 51 false (.bin .eql (t 52) (.const (.int .u8 47))),g 54 48 true (.pick (t 51) Y (t 53)),o 55 (.pick (t 48) (t 54) F)])
 (.after (.cond (t 55) (S (R [2] [o 2 (.val F)])
 (Z [2])) (.skip)) [0,4,5]))
 (R [0,3,4] [v 56 5,v 3 56]))))) [0,3,4])
 (R [0,3,4] [v 11 4,o 12 (Bn .add 11 1),v 4 12])))
def code26:AFunc:=⟨false,false,1,64,[.tmp 2],
 S (R [0] [o 2 (.val F)])
 (S (R [0,3] [o 3 (.val (.const (.int .u8 47)))])
 (S (S (R [0,3,4] [o 4 (.val (n 0))])
 (.after (.block 0 (.loop code26L0)) [0,3]))
 (S (R [2] [v 57 0,o 58 (.len .str (t 57)),o 59 (Bn .leq 58 64),v 60 59,g 61 60 true (Vl 3),g 62 60 true (.bin .neq (t 61) (.const (.int .u8 47))),o 63 (.pick (t 60) (t 62) F),v 2 63])
 (Z [2])))),none⟩
def code27:AFunc:=⟨false,false,1,11,[.tmp 2],
 S (R [0] [o 2 (.val F)])
 (S (R [2] [v 3 0,o 4 (.bin .neq (t 3) (Ks [])),v 5 4,g 6 5 true (Vl 0),g 7 5 true (.callg 86 [t 6]),g 8 5 true (Vl 0),g 9 5 true (Bt .eql 7 8),o 10 (.pick (t 5) (t 9) F),v 2 10])
 (Z [2])),none⟩
def code28L0:ACode :=
 .live [0,3] (S (S (R [0,3,14] [v 5 3,v 6 0,o 7 (.len .str (t 6)),o 8 (Bt .lss 5 7),v 9 8,g 10 9 true (Vl 0),g 11 9 true (Vl 3),g 12 9 true (.index (t 10) (t 11)),g 13 9 true (.bin .eql (t 12) (.const (.int .u8 91))),o 14 (.pick (t 9) (t 13) F)])
 (.after (.cond (t 14) (.skip) (.live [0,3] (.exit 0))) [0,3]))
 (.after (.block 1 (R [0,3] [v 15 3,o 16 (Bn .add 15 1),v 3 16])) [0,3]))
def code28:AFunc:=⟨false,false,1,42,[.tmp 2],
 S (R [0] [o 2 (.val F)])
 (S (R [0,3] [o 3 (.val (n 0))])
 (S (.after (.block 0 (.loop code28L0)) [0,3])
 (S (R [3,4] [v 17 0,v 18 3,o 19 (.slice .str (t 17) (some (t 18)) none none),v 4 19])
 (S (S (R [3,4,21] [v 20 3,o 21 (Bn .gtr 20 8)])
 (.after (.cond (t 21) (S (R [2] [o 2 (.val F)])
 (Z [2])) (.skip)) [3,4]))
 (S (S (R [3,4,27] [v 22 3,o 23 (Bn .gtr 22 0),v 24 23,g 25 24 true (Vl 4),g 26 24 true (.bin .eql (t 25) (Ks [66])),o 27 (.pick (t 24) (t 26) F)])
 (.after (.cond (t 27) (S (R [2] [o 2 (.val Y)])
 (Z [2])) (.skip)) [3,4]))
 (S (R [2] [v 28 4,o 29 (.bin .eql (t 28) (Ks [73])),v 30 29,g 31 30 false (Vl 3),g 32 30 false (Bn .eql 31 0),g 33 30 false (Vl 32),g 34 33 true (Vl 4),g 35 33 true (.bin .eql (t 34) (Ks [74])),g 36 30 false (.pick (t 33) (t 35) F),o 37 (.pick (t 30) Y (t 36)),v 38 37,g 39 38 false (Vl 4),g 40 38 false (.callg 93 [t 39]),o 41 (.pick (t 38) Y (t 40)),v 2 41])
 (Z [2]))))))),none⟩
def code30:AFunc:=⟨false,false,1,9,[.tmp 2],
 S (R [0] [o 2 (.val F)])
 (S (R [2] [v 3 0,o 4 (.callg 88 [t 3,Ks [76]]),v 5 4,g 6 5 false (Vl 0),g 7 5 false (.callg 88 [t 6,Ks [91]]),o 8 (.pick (t 5) Y (t 7)),v 2 8])
 (Z [2])),none⟩
def code33:AFunc:=⟨false,false,1,25,[.tmp 2,.tmp 3],
 S (R [0] [o 2 (.val (Ks [])),o 3 (.val F)])
 (S (S (R [0,19] [v 4 0,o 5 (.len .str (t 4)),o 6 (Bn .lss 5 2),v 7 6,g 8 7 false (Vl 0),g 9 7 false (.index (t 8) (n 0)),g 10 7 false (.bin .neq (t 9) (.const (.int .u8 76))),o 11 (.pick (t 7) Y (t 10)),v 12 11,g 13 12 false (Vl 0),g 14 12 false (Vl 0),g 15 12 false (.len .str (t 14)),g 16 12 false (Bn .sub 15 1),g 17 12 false (.index (t 13) (t 16)),g 18 12 false (.bin .neq (t 17) (.const (.int .u8 59))),o 19 (.pick (t 12) Y (t 18))])
 (.after (.cond (t 19) (S (R [2,3] [o 2 (.val (Ks [])),o 3 (.val F)])
 (Z [2,3])) (.skip)) [0]))
 (S (R [2,3] [v 20 0,v 21 0,o 22 (.len .str (t 21)),o 23 (Bn .sub 22 1),o 24 (.slice .str (t 20) (some (n 1)) (some (t 23)) none),v 2 24,o 3 (.val Y)])
 (Z [2,3]))),none⟩
def code34:AFunc:=⟨false,false,1,22,[.tmp 2,.tmp 3],
 S (R [0] [o 2 (.val (Ks [])),o 3 (.val F)])
 (S (S (R [0,16] [v 4 0,o 5 (.len .str (t 4)),o 6 (Bn .lss 5 2),v 7 6,g 8 7 false (Vl 0),g 9 7 false (.callg 88 [t 8,Ks [76]]),g 10 7 false (.un .not (t 9)),o 11 (.pick (t 7) Y (t 10)),v 12 11,g 13 12 false (Vl 0),g 14 12 false (.callg 89 [t 13,Ks [59]]),g 15 12 false (.un .not (t 14)),o 16 (.pick (t 12) Y (t 15))])
 (.after (.cond (t 16) (S (R [2,3] [o 2 (.val (Ks [])),o 3 (.val F)])
 (Z [2,3])) (.skip)) [0]))
 (S (R [2,3] [v 17 0,v 18 0,o 19 (.len .str (t 18)),o 20 (Bn .sub 19 1),o 21 (.slice .str (t 17) (some (n 1)) (some (t 20)) none),v 2 21,o 3 (.val Y)])
 (Z [2,3]))),none⟩
def code36:AFunc:=⟨false,false,1,14,[.tmp 2,.tmp 3],
 S (R [0] [o 2 (.val (Ks [])),o 3 (.val F)])
 (S (R [4,5] [v 7 0,o 8 (.callg 85 [t 7,Ks [91]]),v 6 8,o 9 (Xt 6 0),o 10 (Xt 6 1),v 4 9,v 5 10])
 (S (S (R [4,12] [v 11 5,o 12 (.un .not (t 11))])
 (.after (.cond (t 12) (S (R [2,3] [o 2 (.val (Ks [])),o 3 (.val F)])
 (Z [2,3])) (.skip)) [4]))
 (S (R [2,3] [v 13 4,v 2 13,o 3 (.val Y)])
 (Z [2,3])))),none⟩
def code37L0:ACode :=
 .live [5,6] (S (S (R [5,6,23] [v 17 6,o 18 (.bin .neq (t 17) (Ks [])),v 19 18,g 20 19 true (Vl 6),g 21 19 true (.index (t 20) (n 0)),g 22 19 true (.bin .neq (t 21) (.const (.int .u8 41))),o 23 (.pick (t 19) (t 22) F)])
 (.after (.cond (t 23) (.skip) (.live [5,6] (.exit 0))) [5,6]))
 (.after (.block 1 (S (R [5,6,7] [v 24 6,o 25 (.callg 87 [t 24]),v 7 25])
 (S (S (R [5,6,7,32] [v 26 7,o 27 (.bin .eql (t 26) (Ks [])),v 28 27,g 29 28 false (Vl 5),g 30 28 false (Sl 29),g 31 28 false (Bn .eql 30 16),o 32 (.pick (t 28) Y (t 31))])
 (.after (.cond (t 32) (S (R [2,3,4] [o 2 (.val (.const (.slice none 0 (some 0)))),o 3 (.val (Ks [])),o 4 (.val (n 8))])
 (Z [2,3,4])) (.skip)) [5,6,7]))
 (S (R [5,6,7] [v 33 5,v 34 7,o 35 (.mkslice 1 1 [.str []] [(0,1,t 34)]),o 36 (.append 1 16 (t 33) (t 35)),v 5 36])
 (R [5,6] [v 37 6,v 38 7,o 39 (.len .str (t 38)),o 40 (.slice .str (t 37) (some (t 39)) none none),v 6 40]))))) [5,6]))
def code37:AFunc:=⟨false,false,1,57,[.tmp 2,.tmp 3,.tmp 4],
 S (R [0] [o 2 (.val (.const (.slice none 0 (some 0)))),o 3 (.val (Ks [])),o 4 (.val (n 0))])
 (S (S (R [0,14] [v 8 0,o 9 (.bin .eql (t 8) (Ks [])),v 10 9,g 11 10 false (Vl 0),g 12 10 false (.index (t 11) (n 0)),g 13 10 false (.bin .neq (t 12) (.const (.int .u8 40))),o 14 (.pick (t 10) Y (t 13))])
 (.after (.cond (t 14) (S (R [2,3,4] [o 2 (.val (.const (.slice none 0 (some 0)))),o 3 (.val (Ks [])),o 4 (.val (n 8))])
 (Z [2,3,4])) (.skip)) [0]))
 (S (R [0,5] [o 5 (.val (.const (.slice none 0 (some 0))))])
 (S (R [5,6] [v 15 0,o 16 (.slice .str (t 15) (some (n 1)) none none),v 6 16])
 (S (.after (.block 0 (.loop code37L0)) [5,6])
 (S (S (R [5,6,53] [v 41 6,o 42 (.bin .eql (t 41) (Ks [])),v 43 42,g 44 43 false (Vl 6),g 45 43 false (.slice .str (t 44) (some (n 1)) none none),g 46 43 false (.callg 28 [t 45]),g 47 43 false (.un .not (t 46)),g 48 43 false (Vl 47),g 49 48 true (Vl 6),g 50 48 true (.slice .str (t 49) (some (n 1)) none none),g 51 48 true (.bin .neq (t 50) (Ks [86])),g 52 43 false (.pick (t 48) (t 51) F),o 53 (.pick (t 43) Y (t 52))])
 (.after (.cond (t 53) (S (R [2,3,4] [o 2 (.val (.const (.slice none 0 (some 0)))),o 3 (.val (Ks [])),o 4 (.val (n 8))])
 (Z [2,3,4])) (.skip)) [5,6]))
 (S (.after (.region [⟨true,[],[v 54 5,v 55 6,o 56 (.slice .str (t 55) (some (n 1)) none none),v 2 54]⟩,⟨false,[],[v 3 56,o 4 (.val (n 0))]⟩]) [2,3,4])
 (Z [2,3,4]))))))),none⟩
def code38L0:ACode :=
 .live [5,7] (S (S (R [5,7,23] [v 17 5,o 18 (.bin .neq (t 17) (Ks [])),v 19 18,g 20 19 true (Vl 5),g 21 19 true (.index (t 20) (n 0)),g 22 19 true (.bin .neq (t 21) (.const (.int .u8 41))),o 23 (.pick (t 19) (t 22) F)])
 (.after (.cond (t 23) (.skip) (.live [5,7] (.exit 0))) [5,7]))
 (.after (.block 1 (S (R [5,7,8] [v 24 5,o 25 (.callg 86 [t 24]),v 8 25])
 (S (S (R [5,7,8,32] [v 26 8,o 27 (.bin .eql (t 26) (Ks [])),v 28 27,g 29 28 false (Vl 7),g 30 28 false (Sl 29),g 31 28 false (Bn .eql 30 16),o 32 (.pick (t 28) Y (t 31))])
 (.after (.cond (t 32) (S (R [2,3,4] [o 2 (.val (.const (.slice none 0 (some 0)))),o 3 (.val (Ks [])),o 4 (.val (n 8))])
 (Z [2,3,4])) (.skip)) [5,7,8]))
 (.after (.region [⟨true,[0,0,2,7,0,0,32,112,15],[v 33 7,v 34 8,o 35 (.mkslice 1 1 [.str []] [(0,1,t 34)]),o 36 (.append 1 16 (t 33) (t 35)),v 37 5,v 38 8,o 39 (.len .str (t 38)),o 40 (.slice .str (t 37) (some (t 39)) none none),v 7 36]⟩,⟨false,[],[v 5 40]⟩]) [5,7])))) [5,7]))
def code38:AFunc:=⟨false,false,1,59,[.tmp 2,.tmp 3,.tmp 4],
 S (R [0] [o 2 (.val (.const (.slice none 0 (some 0)))),o 3 (.val (Ks [])),o 4 (.val (n 0))])
 (S (R [5,6] [v 11 0,o 12 (.callg 85 [t 11,Ks [40]]),v 10 12,o 13 (Xt 10 0),o 14 (Xt 10 1),v 5 13,v 6 14])
 (S (S (R [5,16] [v 15 6,o 16 (.un .not (t 15))])
 (.after (.cond (t 16) (S (R [2,3,4] [o 2 (.val (.const (.slice none 0 (some 0)))),o 3 (.val (Ks [])),o 4 (.val (n 8))])
 (Z [2,3,4])) (.skip)) [5]))
 (S (R [5,7] [o 7 (.val (.const (.slice none 0 (some 0))))])
 (S (.after (.block 0 (.loop code38L0)) [5,7])
 (S (R [6,7,9] [v 42 5,o 43 (.callg 85 [t 42,Ks [41]]),v 41 43,o 44 (Xt 41 0),o 45 (Xt 41 1),v 9 44,v 6 45])
 (S (S (R [7,9,56] [v 46 6,o 47 (.un .not (t 46)),v 48 47,g 49 48 false (Vl 9),g 50 48 false (.bin .neq (t 49) (Ks [86])),g 51 48 false (Vl 50),g 52 51 true (Vl 9),g 53 51 true (.callg 27 [t 52]),g 54 51 true (.un .not (t 53)),g 55 48 false (.pick (t 51) (t 54) F),o 56 (.pick (t 48) Y (t 55))])
 (.after (.cond (t 56) (S (R [2,3,4] [o 2 (.val (.const (.slice none 0 (some 0)))),o 3 (.val (Ks [])),o 4 (.val (n 8))])
 (Z [2,3,4])) (.skip)) [7,9]))
 (S (R [2,3,4] [v 57 7,v 58 9,v 2 57,v 3 58,o 4 (.val (n 0))])
 (Z [2,3,4])))))))),none⟩
def code85:AFunc:=⟨false,false,2,11,[.tmp 4,.tmp 5],
 S (R [0,1] [o 4 (.val (Ks [])),o 5 (.val F)])
 (S (R [4,5] [v 6 0,v 7 1,o 8 (.callg 137 [t 6,t 7]),o 9 (Xt 8 0),o 10 (Xt 8 1),v 4 9,v 5 10])
 (Z [4,5])),none⟩
def code86:AFunc:=⟨false,false,1,65,[.tmp 2],
 S (R [0] [o 2 (.val (Ks []))])
 (S (R [0,3] [v 9 0,o 10 (.callg 139 [t 9,Ks [91]]),v 3 10])
 (S (R [0,3,4] [v 11 0,o 12 (.len .str (t 11)),v 13 3,o 14 (.len .str (t 13)),o 15 (Bt .sub 12 14),v 4 15])
 (S (S (R [0,3,4,21] [v 16 3,o 17 (.bin .eql (t 16) (Ks [])),v 18 17,g 19 18 false (Vl 4),g 20 18 false (Bn .gtr 19 8),o 21 (.pick (t 18) Y (t 20))])
 (.after (.cond (t 21) (S (R [2] [o 2 (.val (Ks []))])
 (Z [2])) (.skip)) [0,3,4]))
 (S (S (R [0,3,4,5] [v 22 3,o 23 (.index (t 22) (n 0)),v 5 23])
 (.after (.block 0 (S (S (R [0,3,4,5,24] [v 25 5,o 26 (.bin .eql (t 25) (.const (.int .u8 73))),v 24 26])
 (.after (.cond (t 24) (.skip) (S (R [0,3,4,5,24] [v 27 5,o 28 (.bin .eql (t 27) (.const (.int .u8 74))),v 29 28,g 30 29 true (Vl 4),g 31 29 true (Bn .eql 30 0),o 32 (.pick (t 29) (t 31) F),v 24 32])
 (.after (.cond (t 24) (.skip) (R [0,3,4,5,24] [v 33 5,o 34 (.bin .eql (t 33) (.const (.int .u8 66))),v 35 34,g 36 35 true (Vl 4),g 37 35 true (Bn .gtr 36 0),o 38 (.pick (t 35) (t 37) F),v 24 38])) [0,3,4,5,24]))) [0,3,4,5,24]))
 (.after (.cond (t 24) (S (R [2] [v 39 0,v 40 4,o 41 (Bn .add 40 1),o 42 (.slice .str (t 39) none (some (t 41)) none),v 2 42])
 (Z [2])) (S (R [0,3,4,43] [v 44 5,o 45 (.bin .eql (t 44) (.const (.int .u8 76))),v 43 45])
 (.after (.cond (t 43) (S (R [0,4,6,8] [v 47 3,o 48 (.slice .str (t 47) (some (n 1)) none none),o 49 (.callg 138 [t 48,Ks [59]]),v 46 49,o 50 (Xt 46 0),o 51 (Xt 46 1),o 52 (Xt 46 2),v 6 50,v 7 51,v 8 52])
 (S (R [0,4,6,57] [v 53 8,v 54 53,g 55 54 true (Vl 6),g 56 54 true (.callg 25 [t 55]),o 57 (.pick (t 54) (t 56) F)])
 (.after (.cond (t 57) (S (R [2] [v 58 0,v 59 4,v 60 6,o 61 (.len .str (t 60)),o 62 (Bt .add 59 61),o 63 (Bn .add 62 2),o 64 (.slice .str (t 58) none (some (t 63)) none),v 2 64])
 (Z [2])) (.skip)) []))) (.skip)) []))) []))) []))
 (S (R [2] [o 2 (.val (Ks []))])
 (Z [2])))))),none⟩
def code87L0:ACode :=
 .live [0,3] (S (S (R [0,3,7] [v 4 3,v 5 0,o 6 (.len .str (t 5)),o 7 (Bt .leq 4 6)])
 (.after (.cond (t 7) (.skip) (.live [] (.exit 0))) [0,3]))
 (S (.after (.block 1 (S (R [0,3,13] [v 10 0,v 11 3,o 12 (.slice .str (t 10) none (some (t 11)) none),o 13 (.callg 28 [t 12])])
 (.after (.cond (t 13) (S (R [2] [v 14 0,v 15 3,o 16 (.slice .str (t 14) none (some (t 15)) none),v 2 16])
 (Z [2])) (.skip)) [0,3]))) [0,3])
 (R [0,3] [v 8 3,o 9 (Bn .add 8 1),v 3 9])))
def code87:AFunc:=⟨false,false,1,17,[.tmp 2],
 S (R [0] [o 2 (.val (Ks []))])
 (S (S (R [0,3] [o 3 (.val (n 1))])
 (.after (.block 0 (.loop code87L0)) []))
 (S (R [2] [o 2 (.val (Ks []))])
 (Z [2]))),none⟩
def code88:AFunc:=⟨false,false,2,8,[.tmp 4],
 S (R [0,1] [o 4 (.val F)])
 (S (R [4] [v 5 0,v 6 1,o 7 (.callg 140 [t 5,t 6]),v 4 7])
 (Z [4])),none⟩
def code89:AFunc:=⟨false,false,2,8,[.tmp 4],
 S (R [0,1] [o 4 (.val F)])
 (S (R [4] [v 5 0,v 6 1,o 7 (.callg 141 [t 5,t 6]),v 4 7])
 (Z [4])),none⟩
def code90:AFunc:=⟨false,false,2,8,[.tmp 4],
 S (R [0,1] [o 4 (.val (.const (.slice none 0 (some 0))))])
 (S (R [4] [v 5 0,v 6 1,o 7 (.callg 143 [t 5,t 6,n 0,.const (.int .i64 (-1))]),v 4 7])
 (Z [4])),none⟩
def code91:AFunc:=⟨false,false,2,9,[.tmp 4],
 S (R [0,1] [o 4 (.val F)])
 (S (R [4] [v 5 0,v 6 1,o 7 (.callg 142 [t 5,t 6]),o 8 (Bn .geq 7 0),v 4 8])
 (Z [4])),none⟩
def code92:AFunc:=⟨false,false,1,6,[.tmp 2],
 S (R [0] [o 2 (.val F)])
 (S (R [2] [v 3 0,o 4 (.callg 144 [t 3]),o 5 (.un .not (t 4)),v 2 5])
 (Z [2])),none⟩
def code93:AFunc:=⟨false,false,1,27,[.tmp 2],
 S (R [0] [o 2 (.val F)])
 (S (R [2] [v 3 0,o 4 (.len .str (t 3)),o 5 (Bn .geq 4 3),v 6 5,g 7 6 true (Vl 0),g 8 6 true (.index (t 7) (n 0)),g 9 6 true (.bin .eql (t 8) (.const (.int .u8 76))),o 10 (.pick (t 6) (t 9) F),v 11 10,g 12 11 true (Vl 0),g 13 11 true (Vl 0),g 14 11 true (.len .str (t 13)),g 15 11 true (Bn .sub 14 1),g 16 11 true (.index (t 12) (t 15)),g 17 11 true (.bin .eql (t 16) (.const (.int .u8 59))),o 18 (.pick (t 11) (t 17) F),v 19 18,g 20 19 true (Vl 0),g 21 19 true (Vl 0),g 22 19 true (.len .str (t 21)),g 23 19 true (Bn .sub 22 1),g 24 19 true (.slice .str (t 20) (some (n 1)) (some (t 23)) none),g 25 19 true (.callg 26 [t 24]),o 26 (.pick (t 19) (t 25) F),v 2 26])
 (Z [2])),none⟩
def code137:AFunc:=⟨false,false,2,15,[.tmp 4,.tmp 5],
 S (R [0,1] [o 4 (.val (Ks [])),o 5 (.val F)])
 (S (S (R [0,1,9] [v 6 0,v 7 1,o 8 (.callg 140 [t 6,t 7]),o 9 (.un .not (t 8))])
 (.after (.cond (t 9) (S (R [4,5] [v 10 0,v 4 10,o 5 (.val F)])
 (Z [4,5])) (.skip)) [0,1]))
 (S (R [4,5] [v 11 0,v 12 1,o 13 (.len .str (t 12)),o 14 (.slice .str (t 11) (some (t 13)) none none),v 4 14,o 5 (.val Y)])
 (Z [4,5]))),none⟩
def code138:AFunc:=⟨false,false,2,13,[.tmp 4,.tmp 5,.tmp 6],
 S (R [0,1] [o 4 (.val (Ks [])),o 5 (.val (Ks [])),o 6 (.val F)])
 (S (R [4,5,6] [v 7 0,v 8 1,o 9 (.callg 172 [t 7,t 8]),o 10 (Xt 9 0),o 11 (Xt 9 1),o 12 (Xt 9 2),v 4 10,v 5 11,v 6 12])
 (Z [4,5,6])),none⟩
def code139:AFunc:=⟨false,false,2,37,[.tmp 4],
 S (R [0,1] [o 4 (.val (Ks []))])
 (S (S (R [0,1,12] [v 7 0,o 8 (.bin .eql (t 7) (Ks [])),v 9 8,g 10 9 false (Vl 1),g 11 9 false (.bin .eql (t 10) (Ks [])),o 12 (.pick (t 9) Y (t 11))])
 (.after (.cond (t 12) (S (R [4] [v 13 0,v 4 13])
 (Z [4])) (.skip)) [0,1]))
 (S (S (R [0,1,21] [v 14 1,o 15 (.len .str (t 14)),o 16 (Bn .eql 15 1),v 17 16,g 18 17 true (Vl 1),g 19 17 true (.index (t 18) (n 0)),g 20 17 true (.bin .lss (t 19) (.const (.int .u8 128))),o 21 (.pick (t 17) (t 20) F)])
 (.after (.cond (t 21) (S (R [4] [v 22 0,v 23 1,o 24 (.index (t 23) (n 0)),o 25 (.callg 171 [t 22,t 24]),v 4 25])
 (Z [4])) (.skip)) [0,1]))
 (S (S (R [0,1,5,6] [v 27 1,o 28 (.nextStr F),v 26 28,o 29 (Xt 26 0),o 30 (Xt 26 1),o 5 (.alloc 1 [.bool false,.bool false,.bool false,.bool false,.bool false,.bool false,.bool false,.bool false,.bool false,.bool false,.bool false,.bool false,.bool false,.bool false,.bool false,.bool false,.bool false,.bool false,.bool false,.bool false,.bool false,.bool false,.bool false,.bool false,.bool false,.bool false,.bool false,.bool false,.bool false,.bool false,.bool false,.bool false,.bool false,.bool false,.bool false,.bool false,.bool false,.bool false,.bool false,.bool false,.bool false,.bool false,.bool false,.bool false,.bool false,.bool false,.bool false,.bool false,.bool false,.bool false,.bool false,.bool false,.bool false,.bool false,.bool false,.bool false,.bool false,.bool false,.bool false,.bool false,.bool false,.bool false,.bool false,.bool false,.bool false,.bool false,.bool false,.bool false,.bool false,.bool false,.bool false,.bool false,.bool false,.bool false,.bool false,.bool false,.bool false,.bool false,.bool false,.bool false,.bool false,.bool false,.bool false,.bool false,.bool false,.bool false,.bool false,.bool false,.bool false,.bool false,.bool false,.bool false,.bool false,.bool false,.bool false,.bool false,.bool false,.bool false,.bool false,.bool false,.bool false,.bool false,.bool false,.bool false,.bool false,.bool false,.bool false,.bool false,.bool false,.bool false,.bool false,.bool false,.bool false,.bool false,.bool false,.bool false,.bool false,.bool false,.bool false,.bool false,.bool false,.bool false,.bool false,.bool false,.bool false,.bool false,.bool false,.bool false,.bool false,.bool false,.bool false,.bool false,.bool false,.bool false,.bool false,.bool false,.bool false,.bool false,.bool false,.bool false,.bool false,.bool false,.bool false,.bool false,.bool false,.bool false,.bool false,.bool false,.bool false,.bool false,.bool false,.bool false,.bool false,.bool false,.bool false,.bool false,.bool false,.bool false,.bool false,.bool false,.bool false,.bool false,.bool false,.bool false,.bool false,.bool false,.bool false,.bool false,.bool false,.bool false,.bool false,.bool false,.bool false,.bool false,.bool false,.bool false,.bool false,.bool false,.bool false,.bool false,.bool false,.bool false,.bool false,.bool false,.bool false,.bool false,.bool false,.bool false,.bool false,.bool false,.bool false,.bool false,.bool false,.bool false,.bool false,.bool false,.bool false,.bool false,.bool false,.bool false,.bool false,.bool false,.bool false,.bool false,.bool false,.bool false,.bool false,.bool false,.bool false,.bool false,.bool false,.bool false,.bool false,.bool false,.bool false,.bool false,.bool false,.bool false,.bool false,.bool false,.bool false,.bool false,.bool false,.bool false,.bool false,.bool false,.bool false,.bool false,.bool false,.bool false,.bool false,.bool false,.bool false,.bool false,.bool false,.bool false,.bool false,.bool false,.bool false,.bool false,.bool false,.bool false,.bool false,.bool false,.bool false,.bool false,.bool false,.bool false,.bool false,.bool false,.bool false,.bool false,.bool false,.bool false,.bool false,.bool false]),u (.store 256 (t 5) (t 29)),v 6 30])
 (S (R [0,1,5,31] [v 31 6])
 (.after (.cond (t 31) (S (R [4] [v 32 0,o 33 (.nextStr F),v 4 33])
 (Z [4])) (.skip)) [0,1])))
 (S (R [4] [v 34 0,v 35 1,o 36 (.nextStr F),v 4 36])
 (Z [4]))))),none⟩
def code140:AFunc:=⟨false,false,2,18,[.tmp 4],
 S (R [0,1] [o 4 (.val F)])
 (S (R [4] [v 5 0,o 6 (.len .str (t 5)),v 7 1,o 8 (.len .str (t 7)),o 9 (Bt .geq 6 8),v 10 9,g 11 10 true (Vl 0),g 12 10 true (Vl 1),g 13 10 true (.len .str (t 12)),g 14 10 true (.slice .str (t 11) none (some (t 13)) none),g 15 10 true (Vl 1),g 16 10 true (Bt .eql 14 15),o 17 (.pick (t 10) (t 16) F),v 4 17])
 (Z [4])),none⟩
def code141:AFunc:=⟨false,false,2,21,[.tmp 4],
 S (R [0,1] [o 4 (.val F)])
 (S (R [4] [v 5 0,o 6 (.len .str (t 5)),v 7 1,o 8 (.len .str (t 7)),o 9 (Bt .geq 6 8),v 10 9,g 11 10 true (Vl 0),g 12 10 true (Vl 0),g 13 10 true (.len .str (t 12)),g 14 10 true (Vl 1),g 15 10 true (.len .str (t 14)),g 16 10 true (Bt .sub 13 15),g 17 10 true (.slice .str (t 11) (some (t 16)) none none),g 18 10 true (Vl 1),g 19 10 true (Bt .eql 17 18),o 20 (.pick (t 10) (t 19) F),v 4 20])
 (Z [4])),none⟩
def code142L0:ACode :=
 .live [0,1,7,8] (S (R [0,1,7,8,9] [o 9 (Bt .lss 8 7)])
 (S (.after (.cond (t 9) (.skip) (.live [] (.exit 0))) [0,1,7,8])
 (S (.after (.block 1 (S (R [0,1,5,7,8] [v 10 8,v 5 10])
 (S (R [0,1,5,7,8,16] [v 11 1,v 12 0,v 13 5,o 14 (.iaddr 1 (t 12) (t 13)),o 15 (Lq 14),o 16 (.call (t 11) [t 15])])
 (.after (.cond (t 16) (S (R [4] [v 17 5,v 4 17])
 (Z [4])) (.skip)) [0,1,7,8])))) [0,1,7,8])
 (R [0,1,7,8] [o 18 (Bn .add 8 1),v 8 18]))))
def code142:AFunc:=⟨false,false,2,19,[.tmp 4],
 S (R [0,1] [o 4 (.val (n 0))])
 (S (S (R [0,1,7,8] [v 6 0,o 7 (Sl 6),o 8 (.val (n 0))])
 (.after (.block 0 (.loop code142L0)) []))
 (S (R [4] [o 4 (.val (.const (.int .i64 (-1))))])
 (Z [4]))),none⟩
def code143L0:ACode :=
 .live [0,1,2,3,9,10] (S (S (R [0,1,2,3,9,10,36] [v 34 10,v 35 3,o 36 (Bt .lss 34 35)])
 (.after (.cond (t 36) (.skip) (.live [0,9,10] (.exit 0))) [0,1,2,3,9,10]))
 (.after (.block 1 (S (R [0,1,2,3,9,10,11] [v 37 0,v 38 1,o 39 (.callg 173 [t 37,t 38]),v 11 39])
 (S (S (R [0,1,2,3,9,10,11,41] [v 40 11,o 41 (Bn .lss 40 0)])
 (.after (.cond (t 41) (.live [0,9,10] (.exit 0)) (.skip)) [0,1,2,3,9,10,11]))
 (S (R [0,1,2,3,9,10,11] [v 42 9,v 43 10,v 44 0,v 45 11,v 46 2,o 47 (Bt .add 45 46),o 48 (.slice .str (t 44) none (some (t 47)) none),o 49 (.iaddr 1 (t 42) (t 43)),u (.store 1 (t 49) (t 48))])
 (S (R [0,1,2,3,9,10] [v 50 0,v 51 11,v 52 1,o 53 (.len .str (t 52)),o 54 (Bt .add 51 53),o 55 (.slice .str (t 50) (some (t 54)) none none),v 0 55])
 (R [0,1,2,3,9,10] [v 56 10,o 57 (Bn .add 56 1),v 10 57])))))) [0,1,2,3,9,10]))
def code143:AFunc:=⟨false,false,4,66,[.tmp 8],
 S (R [0,1,2,3] [o 8 (.val (.const (.slice none 0 (some 0))))])
 (S (S (R [0,1,2,3,13] [v 12 3,o 13 (Bn .eql 12 0)])
 (.after (.cond (t 13) (S (R [8] [o 8 (.val (.const (.slice none 0 (some 0))))])
 (Z [8])) (.skip)) [0,1,2,3]))
 (S (S (R [0,1,2,3,15] [v 14 1,o 15 (.bin .eql (t 14) (Ks []))])
 (.after (.cond (t 15) (S (R [8] [v 16 0,v 17 3,o 18 (.nextStr F),v 8 18])
 (Z [8])) (.skip)) [0,1,2,3]))
 (S (S (R [0,1,2,3,20] [v 19 3,o 20 (Bn .lss 19 0)])
 (.after (.cond (t 20) (R [0,1,2,3] [v 21 0,v 22 1,o 23 (.callg 174 [t 21,t 22]),o 24 (Bn .add 23 1),v 3 24]) (.skip)) [0,1,2,3]))
 (S (R [0,1,2,3] [v 25 3,v 26 0,o 27 (.len .str (t 26)),o 28 (Bn .add 27 1),o 29 (.minmax false [t 25,t 28]),v 3 29])
 (S (R [0,1,2,3,9] [v 30 3,o 31 (.make 1 16 [.str []] (t 30) (t 30)),v 9 31])
 (S (R [0,1,2,3,9] [v 32 3,o 33 (Bn .sub 32 1),v 3 33])
 (S (R [0,1,2,3,9,10] [o 10 (.val (n 0))])
 (S (.after (.block 0 (.loop code143L0)) [0,9,10])
 (S (R [9,10] [v 58 9,v 59 10,v 60 0,o 61 (.iaddr 1 (t 58) (t 59)),u (.store 1 (t 61) (t 60))])
 (S (R [8] [v 62 9,v 63 10,o 64 (Bn .add 63 1),o 65 (.slice (.sl 1) (t 62) none (some (t 64)) none),v 8 65])
 (Z [8]))))))))))),none⟩
def code144:AFunc:=⟨false,false,1,13,[.tmp 2],
 S (R [0] [o 2 (.val F)])
 (S (R [0,3] [o 3 (.val (.const (.func 146 [] [])))])
 (S (R [2] [v 4 0,o 5 (.bin .neq (t 4) (Ks [])),v 6 5,g 7 6 true (Vl 0),g 8 6 true (.conv .bytes (t 7)),g 9 6 true (Vl 3),g 10 6 true (.callg 145 [t 8,t 9]),g 11 6 true (.un .not (t 10)),o 12 (.pick (t 6) (t 11) F),v 2 12])
 (Z [2]))),none⟩
def code145:AFunc:=⟨false,false,2,9,[.tmp 4],
 S (R [0,1] [o 4 (.val F)])
 (S (R [4] [v 5 0,v 6 1,o 7 (.callg 176 [t 5,t 6]),o 8 (Bn .geq 7 0),v 4 8])
 (Z [4])),none⟩
def code146:AFunc:=⟨false,false,1,26,[.tmp 2],
 S (R [0] [o 2 (.val F)])
 (S (.after (.block 0 (S (S (R [0,3] [v 4 0,o 5 (.bin .geq (t 4) (.const (.int .u8 97))),v 6 5,g 7 6 true (Vl 0),g 8 6 true (.bin .leq (t 7) (.const (.int .u8 122))),o 9 (.pick (t 6) (t 8) F),v 3 9])
 (.after (.cond (t 3) (.skip) (S (R [0,3] [v 10 0,o 11 (.bin .geq (t 10) (.const (.int .u8 65))),v 12 11,g 13 12 true (Vl 0),g 14 12 true (.bin .leq (t 13) (.const (.int .u8 90))),o 15 (.pick (t 12) (t 14) F),v 3 15])
 (.after (.cond (t 3) (.skip) (S (R [0,3] [v 16 0,o 17 (.bin .geq (t 16) (.const (.int .u8 48))),v 18 17,g 19 18 true (Vl 0),g 20 18 true (.bin .leq (t 19) (.const (.int .u8 57))),o 21 (.pick (t 18) (t 20) F),v 3 21])
 (.after (.cond (t 3) (.skip) (S (R [0,3] [v 22 0,o 23 (.bin .eql (t 22) (.const (.int .u8 95))),v 3 23])
 (.after (.cond (t 3) (.skip) (R [3] [v 24 0,o 25 (.bin .eql (t 24) (.const (.int .u8 36))),v 3 25])) [3]))) [3]))) [3]))) [3]))
 (.after (.cond (t 3) (S (R [2] [o 2 (.val F)])
 (Z [2])) (.skip)) []))) [])
 (S (R [2] [o 2 (.val Y)])
 (Z [2]))),none⟩
def code171L0:ACode :=
 .live [0,1] (S (S (R [0,1,13] [v 5 0,o 6 (.len .str (t 5)),o 7 (Bn .gtr 6 0),v 8 7,g 9 8 true (Vl 0),g 10 8 true (.index (t 9) (n 0)),g 11 8 true (Vl 1),g 12 8 true (Bt .eql 10 11),o 13 (.pick (t 8) (t 12) F)])
 (.after (.cond (t 13) (.skip) (.live [0] (.exit 0))) [0,1]))
 (.after (.block 1 (R [0,1] [v 14 0,o 15 (.slice .str (t 14) (some (n 1)) none none),v 0 15])) [0,1]))
def code171:AFunc:=⟨false,false,2,17,[.tmp 4],
 S (R [0,1] [o 4 (.val (Ks []))])
 (S (.after (.block 0 (.loop code171L0)) [0])
 (S (R [4] [v 16 0,v 4 16])
 (Z [4]))),none⟩
def code172:AFunc:=⟨false,false,2,23,[.tmp 4,.tmp 5,.tmp 6],
 S (R [0,1] [o 4 (.val (Ks [])),o 5 (.val (Ks [])),o 6 (.val F)])
 (S (S (R [0,1,7] [v 8 0,v 9 1,o 10 (.callg 205 [t 8,t 9]),v 7 10])
 (S (R [0,1,7,12] [v 11 7,o 12 (Bn .geq 11 0)])
 (.after (.cond (t 12) (S (.after (.region [⟨true,[],[v 13 0,v 14 7,o 15 (.slice .str (t 13) none (some (t 14)) none),v 16 0,v 17 7,v 18 1,o 19 (.len .str (t 18)),o 20 (Bt .add 17 19),o 21 (.slice .str (t 16) (some (t 20)) none none),v 4 15]⟩,⟨false,[],[v 5 21,o 6 (.val Y)]⟩]) [4,5,6])
 (Z [4,5,6])) (.skip)) [0])))
 (S (R [4,5,6] [v 22 0,v 4 22,o 5 (.val (Ks [])),o 6 (.val F)])
 (Z [4,5,6]))),none⟩
def code173:AFunc:=⟨false,false,2,8,[.tmp 4],
 S (R [0,1] [o 4 (.val (n 0))])
 (S (R [4] [v 5 0,v 6 1,o 7 (.callg 205 [t 5,t 6]),v 4 7])
 (Z [4])),none⟩
def code174L0:ACode :=
 .live [0,1,5] (.after (.block 1 (S (R [0,1,5,6] [v 20 0,v 21 1,o 22 (.callg 173 [t 20,t 21]),v 6 22])
 (S (S (R [0,1,5,6,24] [v 23 6,o 24 (.bin .eql (t 23) (.const (.int .i64 (-1))))])
 (.after (.cond (t 24) (S (R [4] [v 25 5,v 4 25])
 (Z [4])) (.skip)) [0,1,5,6]))
 (S (R [0,1,5,6] [v 26 5,o 27 (Bn .add 26 1),v 5 27])
 (R [0,1,5] [v 28 0,v 29 6,v 30 1,o 31 (.len .str (t 30)),o 32 (Bt .add 29 31),o 33 (.slice .str (t 28) (some (t 32)) none none),v 0 33]))))) [0,1,5])
def code174:AFunc:=⟨false,false,2,34,[.tmp 4],
 S (R [0,1] [o 4 (.val (n 0))])
 (S (S (R [0,1,9] [v 7 1,o 8 (.len .str (t 7)),o 9 (Bn .eql 8 0)])
 (.after (.cond (t 9) (S (R [4] [v 10 0,o 11 (.nextStr F),o 12 (Bn .add 11 1),v 4 12])
 (Z [4])) (.skip)) [0,1]))
 (S (S (R [0,1,15] [v 13 1,o 14 (.len .str (t 13)),o 15 (Bn .eql 14 1)])
 (.after (.cond (t 15) (S (R [4] [v 16 0,v 17 1,o 18 (.index (t 17) (n 0)),o 19 (.ext (.pure (.prim .countByte)) [t 16,t 18]),v 4 19])
 (Z [4])) (.skip)) [0,1]))
 (S (R [0,1,5] [o 5 (.val (n 0))])
 (.after (.block 0 (.loop code174L0)) [4])))),none⟩
def code176L0:ACode :=
 .live [0,1,7,8] (S (R [0,1,7,8,9] [o 9 (Bt .lss 8 7)])
 (S (.after (.cond (t 9) (.skip) (.live [] (.exit 0))) [0,1,7,8])
 (S (.after (.block 1 (S (R [0,1,5,7,8] [v 10 8,v 5 10])
 (S (R [0,1,5,7,8,16] [v 11 1,v 12 0,v 13 5,o 14 (.iaddr 1 (t 12) (t 13)),o 15 (Lq 14),o 16 (.call (t 11) [t 15])])
 (.after (.cond (t 16) (S (R [4] [v 17 5,v 4 17])
 (Z [4])) (.skip)) [0,1,7,8])))) [0,1,7,8])
 (R [0,1,7,8] [o 18 (Bn .add 8 1),v 8 18]))))
def code176:AFunc:=⟨false,false,2,19,[.tmp 4],
 S (R [0,1] [o 4 (.val (n 0))])
 (S (S (R [0,1,7,8] [v 6 0,o 7 (Sl 6),o 8 (.val (n 0))])
 (.after (.block 0 (.loop code176L0)) []))
 (S (R [4] [o 4 (.val (.const (.int .i64 (-1))))])
 (Z [4]))),none⟩
def code180:AFunc:=⟨false,false,2,9,[.tmp 4],
 S (R [0,1] [o 4 (.val F)])
 (S (R [4] [v 5 0,v 6 1,o 7 (.callg 173 [t 5,t 6]),o 8 (Bn .geq 7 0),v 4 8])
 (Z [4])),none⟩
def code205L0:ACode :=
 .live [0,1,5,6,7,8,9,10] (S (S (R [0,1,5,6,7,8,9,10,59] [v 57 8,v 58 9,o 59 (Bt .lss 57 58)])
 (.after (.cond (t 59) (.skip) (.live [] (.exit 1))) [0,1,5,6,7,8,9,10]))
 (.after (.block 2 (S (S (R [0,1,5,6,7,8,9,10,64] [v 60 0,v 61 8,o 62 (.index (t 60) (t 61)),v 63 6,o 64 (Bt .neq 62 63)])
 (.after (.cond (t 64) (S (R [0,1,5,6,7,8,9,10,11] [v 65 0,v 66 8,o 67 (Bn .add 66 1),v 68 9,o 69 (.slice .str (t 65) (some (t 67)) (some (t 68)) none),v 70 6,o 71 (.callg 226 [t 69,t 70]),v 11 71])
 (S (S (R [0,1,5,6,7,8,9,10,11,73] [v 72 11,o 73 (Bn .lss 72 0)])
 (.after (.cond (t 73) (S (R [4] [o 4 (.val (.const (.int .i64 (-1))))])
 (Z [4])) (.skip)) [0,1,5,6,7,8,9,10,11]))
 (R [0,1,5,6,7,8,9,10] [v 74 8,v 75 11,o 76 (Bn .add 75 1),o 77 (Bt .add 74 76),v 8 77]))) (.skip)) [0,1,5,6,7,8,9,10]))
 (S (S (R [0,1,5,6,7,8,9,10,93] [v 78 0,v 79 8,o 80 (Bn .add 79 1),o 81 (.index (t 78) (t 80)),v 82 7,o 83 (Bt .eql 81 82),v 84 83,g 85 84 true (Vl 0),g 86 84 true (Vl 8),g 87 84 true (Vl 8),g 88 84 true (Vl 5),g 89 84 true (Bt .add 87 88),g 90 84 true (.slice .str (t 85) (some (t 86)) (some (t 89)) none),g 91 84 true (Vl 1),g 92 84 true (Bt .eql 90 91),o 93 (.pick (t 84) (t 92) F)])
 (.after (.cond (t 93) (S (R [4] [v 94 8,v 4 94])
 (Z [4])) (.skip)) [0,1,5,6,7,8,9,10]))
 (S (R [0,1,5,6,7,8,9,10] [v 95 8,o 96 (Bn .add 95 1),v 8 96])
 (S (R [0,1,5,6,7,8,9,10] [v 97 10,o 98 (Bn .add 97 1),v 10 98])
 (S (R [0,1,5,6,7,8,9,10,107] [v 99 5,o 100 (.nextStr F),o 101 (Bt .leq 99 100),v 102 101,g 103 102 true (Vl 10),g 104 102 true (Vl 8),g 105 102 true (.nextStr F),g 106 102 true (Bt .gtr 103 105),o 107 (.pick (t 102) (t 106) F)])
 (.after (.cond (t 107) (S (R [8,12] [v 108 0,v 109 8,o 110 (.slice .str (t 108) (some (t 109)) none none),v 111 1,o 112 (.nextStr F),v 12 112])
 (S (S (R [8,12,114] [v 113 12,o 114 (Bn .geq 113 0)])
 (.after (.cond (t 114) (S (R [4] [v 115 12,v 116 8,o 117 (Bt .add 115 116),v 4 117])
 (Z [4])) (.skip)) []))
 (S (R [4] [o 4 (.val (.const (.int .i64 (-1))))])
 (Z [4])))) (S (R [0,1,5,6,7,8,9,10,132] [v 118 5,o 119 (.nextStr F),o 120 (Bt .gtr 118 119),v 121 120,g 122 121 true (Vl 10),g 123 121 true (Vl 8),g 124 121 true (.bin .shr (t 123) (.const (.int .u64 4))),g 125 121 true (.bin .add (n 4) (t 124)),g 126 121 true (Bt .geq 122 125),o 127 (.pick (t 121) (t 126) F),v 128 127,g 129 128 true (Vl 8),g 130 128 true (Vl 9),g 131 128 true (Bt .lss 129 130),o 132 (.pick (t 128) (t 131) F)])
 (.after (.cond (t 132) (S (R [8,13] [v 133 0,v 134 8,o 135 (.slice .str (t 133) (some (t 134)) none none),v 136 1,o 137 (.nextStr F),v 13 137])
 (S (S (R [8,13,139] [v 138 13,o 139 (Bn .lss 138 0)])
 (.after (.cond (t 139) (S (R [4] [o 4 (.val (.const (.int .i64 (-1))))])
 (Z [4])) (.skip)) [8,13]))
 (S (R [4] [v 140 8,v 141 13,o 142 (Bt .add 140 141),v 4 142])
 (Z [4])))) (.skip)) [0,1,5,6,7,8,9,10]))) [0,1,5,6,7,8,9,10]))))))) [0,1,5,6,7,8,9,10]))
def code205:AFunc:=⟨false,false,2,143,[.tmp 4],
 S (R [0,1] [o 4 (.val (n 0))])
 (S (R [0,1,5] [v 14 1,o 15 (.len .str (t 14)),v 5 15])
 (S (.after (.block 0 (S (R [0,1,5,16] [v 17 5,o 18 (Bn .eql 17 0),v 19 18,g 20 19 false (Vl 1),g 21 19 false (Vl 0),g 22 19 false (Bt .eql 20 21),o 23 (.pick (t 19) Y (t 22)),v 16 23])
 (.after (.cond (t 16) (S (R [4] [o 4 (.val (n 0))])
 (Z [4])) (S (R [0,1,5,24] [v 25 5,o 26 (Bn .eql 25 1),v 24 26])
 (.after (.cond (t 24) (S (R [4] [v 27 0,v 28 1,o 29 (.index (t 28) (n 0)),o 30 (.callg 226 [t 27,t 29]),v 4 30])
 (Z [4])) (S (R [0,1,5,31] [v 32 5,v 33 0,o 34 (.len .str (t 33)),o 35 (Bt .geq 32 34),v 31 35])
 (.after (.cond (t 31) (S (R [4] [o 4 (.val (.const (.int .i64 (-1))))])
 (Z [4])) (S (R [0,1,5,36] [v 37 5,o 38 (.nextStr F),o 39 (Bt .leq 37 38),v 40 39,g 41 40 true (Vl 0),g 42 40 true (.len .str (t 41)),g 43 40 true (Bn .leq 42 64),o 44 (.pick (t 40) (t 43) F),v 36 44])
 (.after (.cond (t 36) (S (R [4] [v 45 0,v 46 1,o 47 (.nextStr F),v 4 47])
 (Z [4])) (.skip)) [0,1,5]))) [0,1,5]))) [0,1,5]))) [0,1,5]))) [0,1,5])
 (S (R [0,1,5,6] [v 48 1,o 49 (.index (t 48) (n 0)),v 6 49])
 (S (R [0,1,5,6,7] [v 50 1,o 51 (.index (t 50) (n 1)),v 7 51])
 (S (R [0,1,5,6,7,8] [o 8 (.val (n 0))])
 (S (R [0,1,5,6,7,8,9] [v 52 0,o 53 (.len .str (t 52)),v 54 5,o 55 (Bt .sub 53 54),o 56 (Bn .add 55 1),v 9 56])
 (S (R [0,1,5,6,7,8,9,10] [o 10 (.val (n 0))])
 (S (.after (.block 1 (.loop code205L0)) [])
 (S (R [4] [o 4 (.val (.const (.int .i64 (-1))))])
 (Z [4])))))))))),none⟩
def code226:AFunc:=⟨false,false,2,8,[.tmp 4],
 S (R [0,1] [o 4 (.val (n 0))])
 (S (R [4] [v 5 0,v 6 1,o 7 (.ext (.pure (.prim .indexByte)) [t 5,t 6]),v 4 7])
 (Z [4])),none⟩
def T:Nat→Option AFunc:=fun g=>List.lookup g [(25,code25),(26,code26),(27,code27),(28,code28),(30,code30),(33,code33),(34,code34),(36,code36),(37,code37),(38,code38),(85,code85),(86,code86),(87,code87),(88,code88),(89,code89),(90,code90),(91,code91),(92,code92),(93,code93),(137,code137),(138,code138),(139,code139),(140,code140),(141,code141),(142,code142),(143,code143),(144,code144),(145,code145),(146,code146),(171,code171),(172,code172),(173,code173),(174,code174),(176,code176),(180,code180),(205,code205),(226,code226)]
theorem t25:T 25=some code25:=rfl
theorem t26:T 26=some code26:=rfl
theorem t27:T 27=some code27:=rfl
theorem t28:T 28=some code28:=rfl
theorem t30:T 30=some code30:=rfl
theorem t33:T 33=some code33:=rfl
theorem t34:T 34=some code34:=rfl
theorem t36:T 36=some code36:=rfl
theorem t37:T 37=some code37:=rfl
theorem t38:T 38=some code38:=rfl
theorem t85:T 85=some code85:=rfl
theorem t86:T 86=some code86:=rfl
theorem t87:T 87=some code87:=rfl
theorem t88:T 88=some code88:=rfl
theorem t89:T 89=some code89:=rfl
theorem t90:T 90=some code90:=rfl
theorem t91:T 91=some code91:=rfl
theorem t92:T 92=some code92:=rfl
theorem t93:T 93=some code93:=rfl
theorem t137:T 137=some code137:=rfl
theorem t138:T 138=some code138:=rfl
theorem t139:T 139=some code139:=rfl
theorem t140:T 140=some code140:=rfl
theorem t141:T 141=some code141:=rfl
theorem t142:T 142=some code142:=rfl
theorem t143:T 143=some code143:=rfl
theorem t144:T 144=some code144:=rfl
theorem t145:T 145=some code145:=rfl
theorem t146:T 146=some code146:=rfl
theorem t171:T 171=some code171:=rfl
theorem t172:T 172=some code172:=rfl
theorem t173:T 173=some code173:=rfl
theorem t174:T 174=some code174:=rfl
theorem t176:T 176=some code176:=rfl
theorem t180:T 180=some code180:=rfl
theorem t205:T 205=some code205:=rfl
theorem t226:T 226=some code226:=rfl
end Go.Abs.Zd

namespace Go.Abs.Zh
open Go.Abs.Short
-- base: Zd
def code47:AFunc:=⟨false,false,3,92,[.tmp 6],
 S (R [0,1,2] [o 6 (.val F)])
 (S (S (R [0,1,2,28] [v 15 0,o 16 (.eqnil .ptr false (t 15) (.const (.ptr none))),v 17 16,g 18 17 false (Vl 0),g 19 17 false (Vl 1),g 20 17 false (.callg 103 [t 18,t 19]),g 21 17 false (.un .not (t 20)),o 22 (.pick (t 17) Y (t 21)),v 23 22,g 24 23 false (Vl 0),g 25 23 false (Vl 2),g 26 23 false (.callg 103 [t 24,t 25]),g 27 23 false (.un .not (t 26)),o 28 (.pick (t 23) Y (t 27))])
 (.after (.cond (t 28) (S (R [6] [o 6 (.val F)])
 (Z [6])) (.skip)) [0,1,2]))
 (S (R [0,1,2,7,8] [v 30 1,o 31 (.callg 34 [t 30]),v 29 31,o 32 (Xt 29 0),o 33 (Xt 29 1),v 7 32,v 8 33])
 (S (R [0,1,2,7,8,9,10] [v 35 2,o 36 (.callg 34 [t 35]),v 34 36,o 37 (Xt 34 0),o 38 (Xt 34 1),v 9 37,v 10 38])
 (S (R [0,1,2,7,8,9,10,11,12] [v 40 1,o 41 (.callg 36 [t 40]),v 39 41,o 42 (Xt 39 0),o 43 (Xt 39 1),v 11 42,v 12 43])
 (S (R [0,1,2,7,8,9,10,11,12,13,14] [v 45 2,o 46 (.callg 36 [t 45]),v 44 46,o 47 (Xt 44 0),o 48 (Xt 44 1),v 13 47,v 14 48])
 (S (.after (.block 0 (S (R [0,1,2,7,8,9,10,11,12,13,14,49] [v 50 1,v 51 2,o 52 (Bt .eql 50 51),v 49 52])
 (.after (.cond (t 49) (S (R [6] [o 6 (.val Y)])
 (Z [6])) (S (R [0,2,7,8,9,10,11,12,13,14,53] [v 54 1,o 55 (.bin .eql (t 54) (Ks [78])),v 53 55])
 (.after (.cond (t 53) (S (R [6] [v 56 2,o 57 (.callg 30 [t 56]),v 6 57])
 (Z [6])) (S (R [0,7,9,10,11,12,13,14,58] [v 59 8,v 60 59,g 61 60 true (Vl 10),o 62 (.pick (t 60) (t 61) F),v 58 62])
 (.after (.cond (t 58) (S (R [6] [v 63 0,v 64 7,v 65 9,o 66 (.callg 52 [t 63,t 64,t 65]),v 6 66])
 (Z [6])) (S (R [0,9,11,12,13,14,67] [v 68 12,v 69 68,g 70 69 true (Vl 10),o 71 (.pick (t 69) (t 70) F),v 67 71])
 (.after (.cond (t 67) (S (R [6] [v 72 9,o 73 (.bin .eql (t 72) (Ks [79,98,106,101,99,116])),v 6 73])
 (Z [6])) (.skip)) [0,11,12,13,14]))) [0,11,12,13,14]))) [0,11,12,13,14]))) [0,11,12,13,14]))) [0,11,12,13,14])
 (S (R [6] [v 74 12,v 75 74,g 76 75 true (Vl 14),o 77 (.pick (t 75) (t 76) F),v 78 77,g 79 78 true (Vl 11),g 80 78 true (.callg 30 [t 79]),o 81 (.pick (t 78) (t 80) F),v 82 81,g 83 82 true (Vl 13),g 84 82 true (.callg 30 [t 83]),o 85 (.pick (t 82) (t 84) F),v 86 85,g 87 86 true (Vl 0),g 88 86 true (Vl 11),g 89 86 true (Vl 13),g 90 86 true (.callg 47 [t 87,t 88,t 89]),o 91 (.pick (t 86) (t 90) F),v 6 91])
 (Z [6])))))))),none⟩
def code49L0:ACode :=
 .live [4,69,70,71] (S (R [4,69,70,71,72] [o 72 (Bt .lss 71 70)])
 (S (.after (.cond (t 72) (.skip) (.live [4] (.exit 4))) [4,69,70,71])
 (S (.after (.block 5 (S (R [4,10,69,70,71] [o 73 (.iaddr 4 (t 69) (t 71)),o 74 (.load (some 4) (t 73)),o 10 (.lalloc [.str [],.str [],.slice none 0 (some 0),.slice none 0 (some 0)]),u (.store 4 (t 10) (t 74))])
 (S (R [4,69,70,71,78] [v 75 4,o 76 (.load (some 4) (t 10)),o 77 (.callg 97 [t 75,t 76]),o 78 (.un .not (t 77))])
 (.after (.cond (t 78) (S (R [2,3] [o 2 (.val (.const (.ptr none))),o 3 (.val (n 15))])
 (Z [2,3])) (.skip)) [4,69,70,71])))) [4,69,70,71])
 (R [4,69,70,71] [o 79 (Bn .add 71 1),v 71 79]))))
def code49L1:ACode :=
 .live [0,4,45,46,47] (S (R [0,4,45,46,47,48] [o 48 (Bt .lss 47 46)])
 (S (.after (.cond (t 48) (.skip) (.live [0,4] (.exit 2))) [0,4,45,46,47])
 (S (.after (.block 3 (S (R [0,4,8,45,46,47] [o 49 (.iaddr 4 (t 45) (t 47)),o 50 (.load (some 4) (t 49)),o 8 (.lalloc [.str [],.str [],.slice none 0 (some 0),.slice none 0 (some 0)]),u (.store 4 (t 8) (t 50))])
 (S (R [0,4,45,46,47,67] [v 51 4,o 52 (Fa 8 0),o 53 (Lq 52),o 54 (.callg 98 [t 51,t 53]),o 55 (.un .not (t 54)),v 56 55,g 57 56 false (Vl 4),g 58 56 false (.load (some 4) (t 8)),g 59 56 false (.callg 99 [t 57,t 58]),g 60 56 false (.un .not (t 59)),o 61 (.pick (t 56) Y (t 60)),v 62 61,g 63 62 false (Vl 4),g 64 62 false (.load (some 4) (t 8)),g 65 62 false (.callg 100 [t 63,t 64]),g 66 62 false (.un .not (t 65)),o 67 (.pick (t 62) Y (t 66))])
 (.after (.cond (t 67) (S (R [2,3] [o 2 (.val (.const (.ptr none))),o 3 (.val (n 15))])
 (Z [2,3])) (.skip)) [0,4,45,46,47])))) [0,4,45,46,47])
 (R [0,4,45,46,47] [o 68 (Bn .add 47 1),v 47 68]))))
def code49L2:ACode :=
 .live [0,4,15,16,17] (S (R [0,4,15,16,17,18] [o 18 (Bt .lss 17 16)])
 (S (.after (.cond (t 18) (.skip) (.live [0,4] (.exit 0))) [0,4,15,16,17])
 (S (.after (.block 1 (S (R [0,4,6,15,16,17] [o 19 (.iaddr 4 (t 15) (t 17)),o 20 (.load (some 4) (t 19)),o 6 (.lalloc [.str [],.str [],.slice none 0 (some 0),.slice none 0 (some 0)]),u (.store 4 (t 6) (t 20))])
 (S (S (R [0,4,6,15,16,17,35] [v 21 4,o 22 (Fa 6 0),o 23 (Lq 22),o 24 (.callg 54 [t 21,t 23]),v 25 24,g 26 25 false (Fa 6 0),g 27 25 false (Lq 26),g 28 25 false (.callg 25 [t 27]),g 29 25 false (.un .not (t 28)),o 30 (.pick (t 25) Y (t 29)),v 31 30,g 32 31 false (Fa 6 1),g 33 31 false (Lq 32),g 34 31 false (.bin .eql (t 33) (Ks [115,121,115])),o 35 (.pick (t 31) Y (t 34))])
 (.after (.cond (t 35) (S (R [2,3] [o 2 (.val (.const (.ptr none))),o 3 (.val (n 15))])
 (Z [2,3])) (.skip)) [0,4,6,15,16,17]))
 (.after (.region [⟨true,[],[v 36 4,o 37 (.nilcheck (t 36)),o 38 (Fa 37 0),o 39 (Lq 38),o 40 (Fa 6 0),o 41 (Lq 40),o 42 (Fa 6 1),o 43 (Lq 42)]⟩,⟨false,[],[u (.ext (.mapupd (.one .s)) [t 39,t 41,t 43])]⟩]) [0,4,15,16,17])))) [0,4,15,16,17])
 (R [0,4,15,16,17] [o 44 (Bn .add 17 1),v 17 44]))))
def code49:AFunc:=⟨false,false,1,81,[.tmp 2,.tmp 3],
 S (R [0] [o 2 (.val (.const (.ptr none))),o 3 (.val (n 0))])
 (S (R [0,4] [o 11 (.callg 284 []),v 4 11])
 (S (S (R [0,4,14] [v 12 0,o 13 (Sl 12),o 14 (Bn .gtr 13 32)])
 (.after (.cond (t 14) (S (R [2,3] [o 2 (.val (.const (.ptr none))),o 3 (.val (n 15))])
 (Z [2,3])) (.skip)) [0,4]))
 (S (S (R [0,4,15,16,17] [v 15 0,o 16 (Sl 15),o 17 (.val (n 0))])
 (.after (.block 0 (.loop code49L2)) [0,4]))
 (S (S (R [0,4,45,46,47] [v 45 0,o 46 (Sl 45),o 47 (.val (n 0))])
 (.after (.block 2 (.loop code49L1)) [0,4]))
 (S (S (R [4,69,70,71] [v 69 0,o 70 (Sl 69),o 71 (.val (n 0))])
 (.after (.block 4 (.loop code49L0)) [4]))
 (S (R [2,3] [v 80 4,v 2 80,o 3 (.val (n 0))])
 (Z [2,3]))))))),none⟩
def rcode320a:ACode :=
 R [5,6,7] [v 7 13]
def rcode320b:ACode :=
 .after (.block 1 (S (R [6,16] [v 14 7,o 15 (Lq 5),o 16 (Bt .eql 14 15)])
 (.after (.cond (t 16) (S (R [] [u (.store 1 (t 6) Y)])
 (Z [])) (.skip)) []))) []
def round320:ARound:=⟨[13],rcode320a,rcode320b⟩
def code320:AFunc:=⟨false,false,0,0,[],.skip,some (.round round320)⟩
def code52:AFunc:=⟨false,false,3,17,[.cell 6 none],
 S (R [0,1,5,6] [o 5 (.box (t 2)),o 6 (.alloc 1 [.bool false])])
 (S (S (R [0,1,5,6,9] [v 8 0,o 9 (.eqnil .ptr false (t 8) (.const (.ptr none)))])
 (.after (.cond (t 9) (S (R [6] [u (.store 1 (t 6) F)])
 (Z [6])) (.skip)) [0,1,5,6]))
 (S (S (R [5,6,12] [v 10 0,v 11 1,o 12 (.callg 156 [t 10,t 11])])
 (.after (.block 0 (.after (.rangeFunc (t 12) 320 [5,6] [13] rcode320a rcode320b) [6])) [6]))
 (S (R [6] [u (.store 1 (t 6) F)])
 (Z [6])))),none⟩
def code54:AFunc:=⟨false,false,2,14,[.tmp 4],
 S (R [0,1] [o 4 (.val F)])
 (S (R [6] [v 8 0,v 9 1,o 10 (.callg 96 [t 8,t 9]),v 7 10,o 11 (Xt 7 0),o 12 (Xt 7 1),v 5 11,v 6 12])
 (S (R [4] [v 13 6,v 4 13])
 (Z [4]))),none⟩
def code96:AFunc:=⟨false,false,2,21,[.tmp 4,.tmp 5],
 S (R [0,1] [o 4 (.val (Ks [])),o 5 (.val F)])
 (S (S (R [0,1,9] [v 8 0,o 9 (.eqnil .ptr false (t 8) (.const (.ptr none)))])
 (.after (.cond (t 9) (S (R [4,5] [o 4 (.val (Ks [])),o 5 (.val F)])
 (Z [4,5])) (.skip)) [0,1]))
 (S (R [6,7] [v 11 0,o 12 (.nilcheck (t 11)),o 13 (Fa 12 0),o 14 (Lq 13),v 15 1,o 16 (.ext (.lookup (.one .s) (.str []) true) [t 14,t 15]),v 10 16,o 17 (Xt 10 0),o 18 (Xt 10 1),v 6 17,v 7 18])
 (S (R [4,5] [v 19 6,v 20 7,v 4 19,v 5 20])
 (Z [4,5])))),none⟩
def rcode322a:ACode :=
 R [2,4,6,7] [v 7 21]
def rcode322b:ACode :=
 .after (.block 3 (S (.after (.region [⟨true,[],[o 23 (Lq 2),o 24 (.nilcheck (t 23)),o 25 (Fa 24 2),o 26 (Lq 25),v 27 7,o 28 (Fa 6 1),o 29 (Lq 28),o 30 (Fa 6 2),o 31 (Lq 30),o 32 (.build [.str [],.str [],.str []] [(0,1,t 27),(1,1,t 29),(2,1,t 31)]),o 33 (.ext (.lookup (.agg [.s,.s,.s]) (.agg [.str [],.bool false]) true) [t 26,t 32]),v 22 33,o 34 (Xt 22 0),o 35 (Xt 22 1),o 8 (.lalloc [.str [],.bool false]),u (.store 2 (t 8) (t 34))]⟩,⟨false,[],[v 9 35]⟩]) [4,6,8,9])
 (S (R [4,43] [v 36 9,v 37 36,g 38 37 true (Fa 8 1),g 39 37 true (Lq 38),g 40 37 true (Fa 6 0),g 41 37 true (Lq 40),g 42 37 true (.beq true (t 39) (t 41)),o 43 (.pick (t 37) (t 42) F)])
 (.after (.cond (t 43) (S (R [] [u (.store 1 (t 4) F)])
 (Z [])) (.skip)) [])))) []
def round322:ARound:=⟨[21],rcode322a,rcode322b⟩
def code322:AFunc:=⟨false,false,0,0,[],.skip,some (.round round322)⟩
def code97L1:ACode :=
 .live [2,3,4,11,12,13] (S (R [2,3,4,11,12,13,14] [o 14 (Bt .lss 13 12)])
 (S (.after (.cond (t 14) (.skip) (.live [4] (.exit 0))) [2,3,4,11,12,13])
 (S (.after (.block 1 (S (R [2,3,4,6,11,12,13] [o 15 (.iaddr 8 (t 11) (t 13)),o 16 (.load (some 8) (t 15)),o 6 (.alloc 8 [.bool false,.str [],.str [],.int .i64 0,.int .i64 0,.slice none 0 (some 0),.slice none 0 (some 0),.slice none 0 (some 0)]),u (.store 8 (t 6) (t 16))])
 (S (R [2,3,4,6,11,12,13,20] [o 17 (Lq 2),o 18 (Fa 3 0),o 19 (Lq 18),o 20 (.callg 156 [t 17,t 19])])
 (.after (.block 2 (.after (.rangeFunc (t 20) 322 [2,4,6] [21] rcode322a rcode322b) [2,3,4,11,12,13])) [2,3,4,11,12,13])))) [2,3,4,11,12,13])
 (R [2,3,4,11,12,13] [o 44 (Bn .add 13 1),v 13 44]))))
def code97:AFunc:=⟨false,false,2,45,[.cell 4 none],
 S (R [2,3,4] [o 2 (.box (t 0)),o 3 (.lbox (t 1)),o 4 (.alloc 1 [.bool false])])
 (S (S (R [2,3,4,11,12,13] [o 10 (Fa 3 3),o 11 (Lq 10),o 12 (Sl 11),o 13 (.val (n 0))])
 (.after (.block 0 (.loop code97L1)) [4]))
 (S (R [4] [u (.store 1 (t 4) Y)])
 (Z [4]))),none⟩
def rcode321a:ACode :=
 R [5,6,7] [v 7 11]
def rcode321b:ACode :=
 .after (.block 1 (.after (.region [⟨true,[0,0,2,1],[v 12 7,o 13 (Lq 6),o 14 (Bn .add 13 1),u (.ext (.hstore 1) [t 5,t 12])]⟩,⟨false,[],[u (.store 1 (t 6) (t 14))]⟩]) [])) []
def round321:ARound:=⟨[11],rcode321a,rcode321b⟩
def code321:AFunc:=⟨false,false,0,0,[],.skip,some (.round round321)⟩
def code98:AFunc:=⟨false,false,2,21,[.tmp 4],
 S (R [0,1] [o 4 (.val F)])
 (S (R [0,1,5,6] [o 5 (.alloc 1 [.str []]),o 6 (.alloc 1 [.int .i64 0]),u (.store 1 (t 5) (Ks [])),u (.store 1 (t 6) (n 0))])
 (S (S (R [5,6,10] [v 8 0,v 9 1,o 10 (.callg 156 [t 8,t 9])])
 (.after (.block 0 (.after (.rangeFunc (t 10) 321 [5,6] [11] rcode321a rcode321b) [5,6])) [5,6]))
 (S (R [4] [o 15 (Lq 5),o 16 (.bin .eql (t 15) (Ks [79,98,106,101,99,116])),v 17 16,g 18 17 true (Lq 6),g 19 17 true (Bn .gtr 18 1),o 20 (.pick (t 17) (t 19) F),v 4 20])
 (Z [4])))),none⟩
def code99L0:ACode :=
 .live [0,3,5,10,11,12] (S (R [0,3,5,10,11,12,13] [o 13 (Bt .lss 12 11)])
 (S (.after (.cond (t 13) (.skip) (.live [] (.exit 0))) [0,3,5,10,11,12])
 (S (.after (.block 1 (S (R [0,3,5,7,10,11,12] [o 14 (.iaddr 3 (t 10) (t 12)),o 15 (.load (some 3) (t 14)),o 7 (.lalloc [.bool false,.str [],.str []]),u (.store 3 (t 7) (t 15))])
 (S (S (R [0,3,5,7,10,11,12,38] [o 16 (Fa 7 1),o 17 (Lq 16),o 18 (.callg 181 [t 17]),o 19 (.un .not (t 18)),v 20 19,g 21 20 false (Fa 7 2),g 22 20 false (Lq 21),g 23 20 false (.callg 27 [t 22]),g 24 20 false (.un .not (t 23)),o 25 (.pick (t 20) Y (t 24)),v 26 25,g 27 26 false (Vl 0),g 28 26 false (Fa 7 2),g 29 26 false (Lq 28),g 30 26 false (.callg 103 [t 27,t 29]),g 31 26 false (.un .not (t 30)),o 32 (.pick (t 26) Y (t 31)),v 33 32,g 34 33 false (Vl 5),g 35 33 false (Fa 7 1),g 36 33 false (Lq 35),g 37 33 false (.ext (.lookup (.one .s) (.bool false) false) [t 34,t 36]),o 38 (.pick (t 33) Y (t 37))])
 (.after (.cond (t 38) (S (R [4] [o 4 (.val F)])
 (Z [4])) (.skip)) [0,3,5,7,10,11,12]))
 (S (R [0,3,5,7,10,11,12] [v 39 5,o 40 (Fa 7 1),o 41 (Lq 40),u (.ext (.mapupd (.one .s)) [t 39,t 41,.const (.bool true)])])
 (.after (.region [⟨true,[],[v 42 0,o 43 (.nilcheck (t 42)),o 44 (Fa 43 1),o 45 (Lq 44),o 46 (Fa 3 0),o 47 (Lq 46),o 48 (Fa 7 1),o 49 (Lq 48),o 50 (Fa 7 2),o 51 (Lq 50),o 52 (.build [.str [],.str [],.str []] [(0,1,t 47),(1,1,t 49),(2,1,t 51)]),o 53 (Fa 3 0),o 54 (Lq 53),o 55 (Fa 7 0),o 56 (Lq 55),o 57 (.build [.str [],.bool false] [(0,1,t 54),(1,1,t 56)])]⟩,⟨false,[],[u (.ext (.mapupd (.agg [.s,.s,.s])) [t 45,t 52,t 57])]⟩]) [0,3,5,10,11,12]))))) [0,3,5,10,11,12])
 (R [0,3,5,10,11,12] [o 58 (Bn .add 12 1),v 12 58]))))
def code99:AFunc:=⟨false,false,2,59,[.tmp 4],
 S (R [0,3] [o 3 (.lbox (t 1)),o 4 (.val F)])
 (S (R [0,3,5] [o 8 (.ext .mkmap []),v 5 8])
 (S (S (R [0,3,5,10,11,12] [o 9 (Fa 3 2),o 10 (Lq 9),o 11 (Sl 10),o 12 (.val (n 0))])
 (.after (.block 0 (.loop code99L0)) []))
 (S (R [4] [o 4 (.val Y)])
 (Z [4])))),none⟩
def code100L0:ACode :=
 .live [0,3,11,12,13] (S (R [0,3,11,12,13,14] [o 14 (Bt .lss 13 12)])
 (S (.after (.cond (t 14) (.skip) (.live [] (.exit 0))) [0,3,11,12,13])
 (S (.after (.block 1 (S (R [0,3,6,11,12,13] [o 15 (.iaddr 8 (t 11) (t 13)),o 16 (.load (some 8) (t 15)),o 6 (.lalloc [.bool false,.str [],.str [],.int .i64 0,.int .i64 0,.slice none 0 (some 0),.slice none 0 (some 0),.slice none 0 (some 0)]),u (.store 8 (t 6) (t 16))])
 (S (R [0,3,6,7,11,12,13] [o 17 (Fa 3 0),o 18 (Lq 17),o 19 (Fa 6 1),o 20 (Lq 19),o 21 (Fa 6 2),o 22 (Lq 21),o 23 (.build [.str [],.str [],.str []] [(0,1,t 18),(1,1,t 20),(2,1,t 22)]),o 7 (.lalloc [.str [],.str [],.str []]),u (.store 3 (t 7) (t 23))])
 (S (S (.after (.region [⟨true,[],[v 25 0,o 26 (.nilcheck (t 25)),o 27 (Fa 26 2),o 28 (Lq 27),o 29 (.load (some 3) (t 7)),o 30 (.ext (.lookup (.agg [.s,.s,.s]) (.agg [.str [],.bool false]) true) [t 28,t 29]),v 24 30,o 31 (Xt 24 0),o 32 (Xt 24 1),o 8 (.lalloc [.str [],.bool false]),u (.store 2 (t 8) (t 31))]⟩,⟨false,[],[v 9 32]⟩]) [0,3,6,7,9,11,12,13])
 (S (R [0,3,6,7,11,12,13,39] [v 33 9,v 34 33,g 35 34 false (Vl 0),g 36 34 false (.load (some 8) (t 6)),g 37 34 false (.callg 182 [t 35,t 36]),g 38 34 false (.un .not (t 37)),o 39 (.pick (t 34) Y (t 38))])
 (.after (.cond (t 39) (S (R [4] [o 4 (.val F)])
 (Z [4])) (.skip)) [0,3,6,7,11,12,13])))
 (.after (.region [⟨true,[],[v 40 0,o 41 (.nilcheck (t 40)),o 42 (Fa 41 2),o 43 (Lq 42),o 44 (.load (some 3) (t 7)),o 45 (Fa 3 0),o 46 (Lq 45),o 47 (Fa 6 0),o 48 (Lq 47),o 49 (.build [.str [],.bool false] [(0,1,t 46),(1,1,t 48)])]⟩,⟨false,[],[u (.ext (.mapupd (.agg [.s,.s,.s])) [t 43,t 44,t 49])]⟩]) [0,3,11,12,13]))))) [0,3,11,12,13])
 (R [0,3,11,12,13] [o 50 (Bn .add 13 1),v 13 50]))))
def code100:AFunc:=⟨false,false,2,51,[.tmp 4],
 S (R [0,3] [o 3 (.lbox (t 1)),o 4 (.val F)])
 (S (S (R [0,3,11,12,13] [o 10 (Fa 3 3),o 11 (Lq 10),o 12 (Sl 11),o 13 (.val (n 0))])
 (.after (.block 0 (.loop code100L0)) []))
 (S (R [4] [o 4 (.val Y)])
 (Z [4]))),none⟩
def code103:AFunc:=⟨false,false,2,20,[.tmp 4],
 S (R [0,1] [o 4 (.val F)])
 (S (R [0,5,6] [v 8 1,o 9 (.callg 139 [t 8,Ks [91]]),o 10 (.callg 34 [t 9]),v 7 10,o 11 (Xt 7 0),o 12 (Xt 7 1),v 5 11,v 6 12])
 (S (R [4] [v 13 6,o 14 (.un .not (t 13)),v 15 14,g 16 15 false (Vl 0),g 17 15 false (Vl 5),g 18 15 false (.callg 54 [t 16,t 17]),o 19 (.pick (t 15) Y (t 18)),v 4 19])
 (Z [4]))),none⟩
def code106L0:ACode :=
 .live [0,3,11,91,92,93,106,107,108] (S (R [0,3,11,91,92,93,106,107,108,109] [o 109 (Bt .lss 108 107)])
 (S (.after (.cond (t 109) (.skip) (.live [0,3,91,92,93] (.exit 6))) [0,3,11,91,92,93,106,107,108])
 (S (.after (.block 7 (S (R [0,3,11,13,91,92,93,106,107,108] [o 110 (.iaddr 8 (t 106) (t 108)),o 111 (.load (some 8) (t 110)),o 13 (.lalloc [.bool false,.str [],.str [],.int .i64 0,.int .i64 0,.slice none 0 (some 0),.slice none 0 (some 0),.slice none 0 (some 0)]),u (.store 8 (t 13) (t 111))])
 (S (R [0,3,11,91,92,93,106,107,108,123] [o 112 (Fa 11 1),o 113 (Lq 112),o 114 (Fa 13 1),o 115 (Lq 114),o 116 (Bt .eql 113 115),v 117 116,g 118 117 true (Fa 11 2),g 119 117 true (Lq 118),g 120 117 true (Fa 13 2),g 121 117 true (Lq 120),g 122 117 true (Bt .eql 119 121),o 123 (.pick (t 117) (t 122) F)])
 (.after (.cond (t 123) (S (R [4] [o 4 (.val F)])
 (Z [4])) (.skip)) [0,3,11,91,92,93,106,107,108])))) [0,3,11,91,92,93,106,107,108])
 (R [0,3,11,91,92,93,106,107,108] [o 124 (Bn .add 108 1),v 108 124]))))
def code106L1:ACode :=
 .live [0,3,91,92,93] (S (R [0,3,91,92,93,94] [o 94 (Bt .lss 93 92)])
 (S (.after (.cond (t 94) (.skip) (.live [] (.exit 4))) [0,3,91,92,93])
 (S (.after (.block 5 (S (R [0,3,10,11,91,92,93] [v 95 93,o 96 (.iaddr 8 (t 91) (t 93)),o 97 (.load (some 8) (t 96)),o 11 (.lalloc [.bool false,.str [],.str [],.int .i64 0,.int .i64 0,.slice none 0 (some 0),.slice none 0 (some 0),.slice none 0 (some 0)]),v 10 95,u (.store 8 (t 11) (t 97))])
 (S (S (R [0,3,10,11,91,92,93,102] [v 98 0,o 99 (.load (some 4) (t 3)),o 100 (.load (some 8) (t 11)),o 101 (.callg 157 [t 98,t 99,t 100]),o 102 (.un .not (t 101))])
 (.after (.cond (t 102) (S (R [4] [o 4 (.val F)])
 (Z [4])) (.skip)) [0,3,10,11,91,92,93]))
 (S (R [0,3,11,91,92,93,106,107,108] [o 103 (Fa 3 3),o 104 (Lq 103),v 105 10,o 106 (.slice (.sl 8) (t 104) none (some (t 105)) none),o 107 (Sl 106),o 108 (.val (n 0))])
 (.after (.block 6 (.loop code106L0)) [0,3,91,92,93]))))) [0,3,91,92,93])
 (R [0,3,91,92,93] [o 125 (Bn .add 93 1),v 93 125]))))
def code106L2:ACode :=
 .live [0,3,7,50,51,52,77,78,79] (S (R [0,3,7,50,51,52,77,78,79,80] [o 80 (Bt .lss 79 78)])
 (S (.after (.cond (t 80) (.skip) (.live [0,3,50,51,52] (.exit 2))) [0,3,7,50,51,52,77,78,79])
 (S (.after (.block 3 (S (R [0,3,7,9,50,51,52,77,78,79] [o 81 (.iaddr 3 (t 77) (t 79)),o 82 (.load (some 3) (t 81)),o 9 (.lalloc [.bool false,.str [],.str []]),u (.store 3 (t 9) (t 82))])
 (S (R [0,3,7,50,51,52,77,78,79,87] [o 83 (Fa 7 1),o 84 (Lq 83),o 85 (Fa 9 1),o 86 (Lq 85),o 87 (Bt .eql 84 86)])
 (.after (.cond (t 87) (S (R [4] [o 4 (.val F)])
 (Z [4])) (.skip)) [0,3,7,50,51,52,77,78,79])))) [0,3,7,50,51,52,77,78,79])
 (R [0,3,7,50,51,52,77,78,79] [o 88 (Bn .add 79 1),v 79 88]))))
def code106L3:ACode :=
 .live [0,3,50,51,52] (S (R [0,3,50,51,52,53] [o 53 (Bt .lss 52 51)])
 (S (.after (.cond (t 53) (.skip) (.live [0,3] (.exit 0))) [0,3,50,51,52])
 (S (.after (.block 1 (S (R [0,3,6,7,50,51,52] [v 54 52,o 55 (.iaddr 3 (t 50) (t 52)),o 56 (.load (some 3) (t 55)),o 7 (.lalloc [.bool false,.str [],.str []]),v 6 54,u (.store 3 (t 7) (t 56))])
 (S (S (R [0,3,6,7,50,51,52,73] [o 57 (Fa 7 1),o 58 (Lq 57),o 59 (.callg 158 [t 58]),o 60 (.un .not (t 59)),v 61 60,g 62 61 false (Fa 7 2),g 63 61 false (Lq 62),g 64 61 false (.callg 28 [t 63]),g 65 61 false (.un .not (t 64)),o 66 (.pick (t 61) Y (t 65)),v 67 66,g 68 67 false (Vl 0),g 69 67 false (Fa 7 2),g 70 67 false (Lq 69),g 71 67 false (.callg 159 [t 68,t 70]),g 72 67 false (.un .not (t 71)),o 73 (.pick (t 67) Y (t 72))])
 (.after (.cond (t 73) (S (R [4] [o 4 (.val F)])
 (Z [4])) (.skip)) [0,3,6,7,50,51,52]))
 (S (R [0,3,7,50,51,52,77,78,79] [o 74 (Fa 3 2),o 75 (Lq 74),v 76 6,o 77 (.slice (.sl 3) (t 75) none (some (t 76)) none),o 78 (Sl 77),o 79 (.val (n 0))])
 (.after (.block 2 (.loop code106L2)) [0,3,50,51,52]))))) [0,3,50,51,52])
 (R [0,3,50,51,52] [o 89 (Bn .add 52 1),v 52 89]))))
def code106:AFunc:=⟨false,false,2,126,[.tmp 4],
 S (R [0,3] [o 3 (.lbox (t 1)),o 4 (.val F)])
 (S (R [0,3,5] [v 14 0,o 15 (Fa 3 0),o 16 (Lq 15),o 17 (.callg 112 [t 14,t 16]),v 5 17])
 (S (S (R [0,3,48] [o 18 (Fa 3 0),o 19 (Lq 18),o 20 (.callg 26 [t 19]),o 21 (.un .not (t 20)),v 22 21,g 23 22 false (Fa 3 1),g 24 22 false (Lq 23),g 25 22 false (.bin .eql (t 24) (Ks [115,121,115])),o 26 (.pick (t 22) Y (t 25)),v 27 26,g 28 27 false (Vl 5),g 29 27 false (Sl 28),g 30 27 false (Bn .lss 29 2),o 31 (.pick (t 27) Y (t 30)),v 32 31,g 33 32 false (Vl 5),g 34 32 false (Sl 33),g 35 32 false (Vl 0),g 36 32 false (Sl 35),g 37 32 false (Bt .gtr 34 36),o 38 (.pick (t 32) Y (t 37)),v 39 38,g 40 39 false (Vl 5),g 41 39 false (Vl 5),g 42 39 false (Sl 41),g 43 39 false (Bn .sub 42 1),g 44 39 false (.iaddr 4 (t 40) (t 43)),g 45 39 false (Fa 44 0),g 46 39 false (Lq 45),g 47 39 false (.bin .neq (t 46) (Ks [79,98,106,101,99,116])),o 48 (.pick (t 39) Y (t 47))])
 (.after (.cond (t 48) (S (R [4] [o 4 (.val F)])
 (Z [4])) (.skip)) [0,3]))
 (S (S (R [0,3,50,51,52] [o 49 (Fa 3 2),o 50 (Lq 49),o 51 (Sl 50),o 52 (.val (n 0))])
 (.after (.block 0 (.loop code106L3)) [0,3]))
 (S (S (R [0,3,91,92,93] [o 90 (Fa 3 3),o 91 (Lq 90),o 92 (Sl 91),o 93 (.val (n 0))])
 (.after (.block 4 (.loop code106L1)) []))
 (S (R [4] [o 4 (.val Y)])
 (Z [4])))))),none⟩
def code107L0:ACode :=
 .live [4,39,40,41] (S (R [4,39,40,41,42] [o 42 (Bt .lss 41 40)])
 (S (.after (.cond (t 42) (.skip) (.live [4] (.exit 4))) [4,39,40,41])
 (S (.after (.block 5 (S (R [4,10,39,40,41] [o 43 (.iaddr 4 (t 39) (t 41)),o 44 (.load (some 4) (t 43)),o 10 (.lalloc [.str [],.str [],.slice none 0 (some 0),.slice none 0 (some 0)]),u (.store 4 (t 10) (t 44))])
 (S (R [4,39,40,41,48] [v 45 4,o 46 (.load (some 4) (t 10)),o 47 (.callg 106 [t 45,t 46]),o 48 (.un .not (t 47))])
 (.after (.cond (t 48) (S (R [2,3] [o 2 (.val (.const (.slice none 0 (some 0)))),o 3 (.val F)])
 (Z [2,3])) (.skip)) [4,39,40,41])))) [4,39,40,41])
 (R [4,39,40,41] [o 49 (Bn .add 41 1),v 41 49]))))
def code107L1:ACode :=
 .live [0,4,6,17,18,19,26,27,28] (S (R [0,4,6,17,18,19,26,27,28,29] [o 29 (Bt .lss 28 27)])
 (S (.after (.cond (t 29) (.skip) (.live [0,4,17,18,19] (.exit 2))) [0,4,6,17,18,19,26,27,28])
 (S (.after (.block 3 (S (R [0,4,6,8,17,18,19,26,27,28] [o 30 (.iaddr 4 (t 26) (t 28)),o 31 (.load (some 4) (t 30)),o 8 (.lalloc [.str [],.str [],.slice none 0 (some 0),.slice none 0 (some 0)]),u (.store 4 (t 8) (t 31))])
 (S (R [0,4,6,17,18,19,26,27,28,36] [o 32 (Fa 6 0),o 33 (Lq 32),o 34 (Fa 8 0),o 35 (Lq 34),o 36 (Bt .eql 33 35)])
 (.after (.cond (t 36) (S (R [2,3] [o 2 (.val (.const (.slice none 0 (some 0)))),o 3 (.val F)])
 (Z [2,3])) (.skip)) [0,4,6,17,18,19,26,27,28])))) [0,4,6,17,18,19,26,27,28])
 (R [0,4,6,17,18,19,26,27,28] [o 37 (Bn .add 28 1),v 28 37]))))
def code107L2:ACode :=
 .live [0,4,17,18,19] (S (R [0,4,17,18,19,20] [o 20 (Bt .lss 19 18)])
 (S (.after (.cond (t 20) (.skip) (.live [0,4] (.exit 0))) [0,4,17,18,19])
 (S (.after (.block 1 (S (R [0,4,5,6,17,18,19] [v 21 19,o 22 (.iaddr 4 (t 17) (t 19)),o 23 (.load (some 4) (t 22)),o 6 (.lalloc [.str [],.str [],.slice none 0 (some 0),.slice none 0 (some 0)]),v 5 21,u (.store 4 (t 6) (t 23))])
 (S (R [0,4,6,17,18,19,26,27,28] [v 24 4,v 25 5,o 26 (.slice (.sl 4) (t 24) none (some (t 25)) none),o 27 (Sl 26),o 28 (.val (n 0))])
 (.after (.block 2 (.loop code107L1)) [0,4,17,18,19])))) [0,4,17,18,19])
 (R [0,4,17,18,19] [o 38 (Bn .add 19 1),v 19 38]))))
def code107:AFunc:=⟨false,false,1,51,[.tmp 2,.tmp 3],
 S (R [0] [o 2 (.val (.const (.slice none 0 (some 0)))),o 3 (.val F)])
 (S (R [0,4] [o 11 (.callg 108 []),v 12 0,o 13 (.append 4 80 (t 11) (t 12)),v 4 13])
 (S (S (R [0,4,16] [v 14 0,o 15 (Sl 14),o 16 (Bn .gtr 15 32)])
 (.after (.cond (t 16) (S (R [2,3] [o 2 (.val (.const (.slice none 0 (some 0)))),o 3 (.val F)])
 (Z [2,3])) (.skip)) [0,4]))
 (S (S (R [0,4,17,18,19] [v 17 4,o 18 (Sl 17),o 19 (.val (n 0))])
 (.after (.block 0 (.loop code107L2)) [0,4]))
 (S (S (R [4,39,40,41] [v 39 0,o 40 (Sl 39),o 41 (.val (n 0))])
 (.after (.block 4 (.loop code107L0)) [4]))
 (S (R [2,3] [v 50 4,v 2 50,o 3 (.val Y)])
 (Z [2,3])))))),none⟩
def code108L0:ACode :=
 .live [2,19,20,21] (S (R [2,19,20,21,22] [o 22 (Bt .lss 21 20)])
 (S (.after (.cond (t 22) (.skip) (.live [2] (.exit 0))) [2,19,20,21])
 (S (.after (.block 1 (S (R [2,4,19,20,21] [o 23 (.iaddr 1 (t 19) (t 21)),o 24 (Lq 23),v 4 24])
 (R [2,19,20,21] [v 25 2,v 26 4,o 27 (.build [.str [],.str [],.slice none 0 (some 0),.slice none 0 (some 0)] [(0,1,t 26),(1,1,Ks [84,104,114,111,119,97,98,108,101])]),o 28 (.mkslice 4 1 [.str [],.str [],.slice none 0 (some 0),.slice none 0 (some 0)] [(0,4,t 27)]),o 29 (.append 4 80 (t 25) (t 28)),v 2 29]))) [2,19,20,21])
 (R [2,19,20,21] [o 30 (Bn .add 21 1),v 21 30]))))
def code108:AFunc:=⟨false,false,0,32,[.tmp 0],
 S (R [] [o 0 (.val (.const (.slice none 0 (some 0))))])
 (S (R [1] [o 5 (.callg 115 [Ks [112,114,105,110,116],Ks [40,73,41,86]]),o 6 (.callg 115 [Ks [112,114,105,110,116,76,111,110,103],Ks [40,74,41,86]]),o 7 (.callg 115 [Ks [112,114,105,110,116,84,101,120,116],Ks [40,91,66,41,86]]),o 8 (.callg 115 [Ks [97,100,100],Ks [40,91,66,41,73]]),o 9 (.callg 115 [Ks [103,101,116],Ks [40,73,41,91,66]]),o 10 (.callg 115 [Ks [115,101,116],Ks [40,73,91,66,41,86]]),o 11 (.callg 115 [Ks [100,101,108],Ks [40,73,41,86]]),o 12 (.callg 115 [Ks [99,111,117,110,116],Ks [40,41,73]]),o 13 (.mkslice 8 8 [.bool false,.str [],.str [],.int .i64 0,.int .i64 0,.slice none 0 (some 0),.slice none 0 (some 0),.slice none 0 (some 0),.bool false,.str [],.str [],.int .i64 0,.int .i64 0,.slice none 0 (some 0),.slice none 0 (some 0),.slice none 0 (some 0),.bool false,.str [],.str [],.int .i64 0,.int .i64 0,.slice none 0 (some 0),.slice none 0 (some 0),.slice none 0 (some 0),.bool false,.str [],.str [],.int .i64 0,.int .i64 0,.slice none 0 (some 0),.slice none 0 (some 0),.slice none 0 (some 0),.bool false,.str [],.str [],.int .i64 0,.int .i64 0,.slice none 0 (some 0),.slice none 0 (some 0),.slice none 0 (some 0),.bool false,.str [],.str [],.int .i64 0,.int .i64 0,.slice none 0 (some 0),.slice none 0 (some 0),.slice none 0 (some 0),.bool false,.str [],.str [],.int .i64 0,.int .i64 0,.slice none 0 (some 0),.slice none 0 (some 0),.slice none 0 (some 0),.bool false,.str [],.str [],.int .i64 0,.int .i64 0,.slice none 0 (some 0),.slice none 0 (some 0),.slice none 0 (some 0)] [(0,8,t 5),(8,8,t 6),(16,8,t 7),(24,8,t 8),(32,8,t 9),(40,8,t 10),(48,8,t 11),(56,8,t 12)]),o 14 (.build [.str [],.str [],.slice none 0 (some 0),.slice none 0 (some 0)] [(0,1,Ks [115,121,115]),(1,1,Ks [79,98,106,101,99,116]),(3,1,t 13)]),o 1 (.lalloc [.str [],.str [],.slice none 0 (some 0),.slice none 0 (some 0)]),u (.store 4 (t 1) (t 14))])
 (S (R [2] [o 15 (.build [.str [],.str [],.slice none 0 (some 0),.slice none 0 (some 0)] [(0,1,Ks [79,98,106,101,99,116])]),o 16 (.build [.str [],.str [],.slice none 0 (some 0),.slice none 0 (some 0)] [(0,1,Ks [84,104,114,111,119,97,98,108,101]),(1,1,Ks [79,98,106,101,99,116])]),o 17 (.load (some 4) (t 1)),o 18 (.mkslice 4 3 [.str [],.str [],.slice none 0 (some 0),.slice none 0 (some 0),.str [],.str [],.slice none 0 (some 0),.slice none 0 (some 0),.str [],.str [],.slice none 0 (some 0),.slice none 0 (some 0)] [(0,4,t 15),(4,4,t 16),(8,4,t 17)]),v 2 18])
 (S (S (R [2,19,20,21] [o 19 (.mkslice 1 6 [.str [],.str [],.str [],.str [],.str [],.str []] [(0,1,Ks [78,117,108,108,70,97,117,108,116]),(1,1,Ks [66,111,117,110,100,115,70,97,117,108,116]),(2,1,Ks [77,97,116,104,70,97,117,108,116]),(3,1,Ks [67,97,115,116,70,97,117,108,116]),(4,1,Ks [83,105,122,101,70,97,117,108,116]),(5,1,Ks [83,116,111,114,101,70,97,117,108,116])]),o 20 (Sl 19),o 21 (.val (n 0))])
 (.after (.block 0 (.loop code108L0)) [2]))
 (S (R [0] [v 31 2,v 0 31])
 (Z [0]))))),none⟩
def code112L0:ACode :=
 .live [0,5,6,7] (S (S (R [0,5,6,21] [v 14 7,v 15 14,g 16 15 true (Vl 5),g 17 15 true (Sl 16),g 18 15 true (Vl 0),g 19 15 true (Sl 18),g 20 15 true (Bt .leq 17 19),o 21 (.pick (t 15) (t 20) F)])
 (.after (.cond (t 21) (.skip) (.live [5] (.exit 0))) [0,5,6]))
 (S (.after (.block 1 (R [0,5,6] [v 29 5,o 30 (.load (some 4) (t 6)),o 31 (.mkslice 4 1 [.str [],.str [],.slice none 0 (some 0),.slice none 0 (some 0)] [(0,4,t 30)]),o 32 (.append 4 80 (t 29) (t 31)),v 5 32])) [0,5,6])
 (S (S (R [0,5,33] [o 33 (.load (some 4) (t 6))])
 (R [0,5,6] [o 6 (.lalloc [.str [],.str [],.slice none 0 (some 0),.slice none 0 (some 0)]),u (.store 4 (t 6) (t 33))]))
 (R [0,5,6,7] [v 23 0,o 24 (Fa 6 1),o 25 (Lq 24),o 26 (.callg 160 [t 23,t 25]),v 22 26,o 27 (Xt 22 0),o 28 (Xt 22 1),u (.store 4 (t 6) (t 27)),v 7 28]))))
def code112:AFunc:=⟨false,false,2,35,[.tmp 4],
 S (R [0,1] [o 4 (.val (.const (.slice none 0 (some 0))))])
 (S (R [0,1,5] [o 5 (.val (.const (.slice none 0 (some 0))))])
 (S (S (R [0,5,6,7] [v 9 0,v 10 1,o 11 (.callg 160 [t 9,t 10]),v 8 11,o 12 (Xt 8 0),o 13 (Xt 8 1),o 6 (.lalloc [.str [],.str [],.slice none 0 (some 0),.slice none 0 (some 0)]),u (.store 4 (t 6) (t 12)),v 7 13])
 (.after (.block 0 (.loop code112L0)) [5]))
 (S (R [4] [v 34 5,v 4 34])
 (Z [4])))),none⟩
def code115:AFunc:=⟨false,false,2,8,[.cell 4 (some 8)],
 S (R [0,1,4] [o 4 (.lalloc [.bool false,.str [],.str [],.int .i64 0,.int .i64 0,.slice none 0 (some 0),.slice none 0 (some 0),.slice none 0 (some 0)])])
 (S (R [4] [v 5 0,v 6 1,o 7 (.build [.bool false,.str [],.str [],.int .i64 0,.int .i64 0,.slice none 0 (some 0),.slice none 0 (some 0),.slice none 0 (some 0)] [(0,1,.const (.bool true)),(1,1,t 5),(2,1,t 6)]),u (.store 8 (t 4) (t 7))])
 (Z [4])),none⟩
def code155L0:ACode :=
 .live [0,1,2,10,11] (S (R [0,1,2,10,11,12] [o 12 (Bt .lss 11 10)])
 (S (.after (.cond (t 12) (.skip) (.live [] (.exit 0))) [0,1,2,10,11])
 (S (.after (.block 1 (S (.after (.region [⟨true,[],[o 14 (Lq 1),o 15 (.nilcheck (t 14)),o 16 (Fa 15 0),o 17 (Lq 16),o 18 (Lq 2)]⟩,⟨false,[],[o 19 (.ext (.lookup (.one .s) (.str []) true) [t 17,t 18]),v 13 19]⟩,⟨true,[],[o 20 (Xt 13 0),o 21 (Xt 13 1),v 4 20]⟩,⟨false,[],[v 5 21]⟩]) [0,1,2,4,5,10,11])
 (S (S (R [0,1,2,4,10,11,29] [v 22 5,o 23 (.un .not (t 22)),v 24 23,g 25 24 false (Vl 0),g 26 24 false (Lq 2),g 27 24 false (.call (t 25) [t 26]),g 28 24 false (.un .not (t 27)),o 29 (.pick (t 24) Y (t 28))])
 (.after (.cond (t 29) (Z []) (.skip)) [0,1,2,4,10,11]))
 (R [0,1,2,10,11] [v 30 4,u (.store 1 (t 2) (t 30))])))) [0,1,2,10,11])
 (R [0,1,2,10,11] [o 31 (Bn .add 11 1),v 11 31]))))
def code155:AFunc:=⟨false,false,3,32,[],
 S (R [0,1,2,10,11] [o 6 (Lq 1),o 7 (.nilcheck (t 6)),o 8 (Fa 7 0),o 9 (Lq 8),o 10 (.len .map (t 9)),o 11 (.val (n 0))])
 (.after (.block 0 (.loop code155L0)) []),none⟩
def code156:AFunc:=⟨false,false,2,6,[.tmp 4],
 S (R [2,3] [o 2 (.box (t 0)),o 3 (.box (t 1)),o 4 (.val (.const (.nilFunc)))])
 (S (R [4] [o 5 (.mkfunc 155 [] [t 2,t 3]),v 4 5])
 (Z [4])),none⟩
def code157L0:ACode :=
 .live [5,77,78,79,84,85,86] (S (R [5,77,78,79,84,85,86,87] [o 87 (Bt .lss 86 85)])
 (S (.after (.cond (t 87) (.skip) (.live [5,77,78,79] (.exit 6))) [5,77,78,79,84,85,86])
 (S (.after (.block 7 (S (R [5,19,77,78,79,84,85,86] [o 88 (.iaddr 8 (t 84) (t 86)),o 89 (.load (some 8) (t 88)),o 19 (.lalloc [.bool false,.str [],.str [],.int .i64 0,.int .i64 0,.slice none 0 (some 0),.slice none 0 (some 0),.slice none 0 (some 0)]),u (.store 8 (t 19) (t 89))])
 (S (R [5,77,78,79,84,85,86,108] [o 90 (Fa 19 1),o 91 (Lq 90),o 92 (Fa 5 1),o 93 (Lq 92),o 94 (Bt .eql 91 93),v 95 94,g 96 95 true (Fa 19 2),g 97 95 true (Lq 96),g 98 95 true (Fa 5 2),g 99 95 true (Lq 98),g 100 95 true (Bt .eql 97 99),o 101 (.pick (t 95) (t 100) F),v 102 101,g 103 102 true (Fa 19 0),g 104 102 true (Lq 103),g 105 102 true (Fa 5 0),g 106 102 true (Lq 105),g 107 102 true (.beq true (t 104) (t 106)),o 108 (.pick (t 102) (t 107) F)])
 (.after (.cond (t 108) (S (R [6] [o 6 (.val F)])
 (Z [6])) (.skip)) [5,77,78,79,84,85,86])))) [5,77,78,79,84,85,86])
 (R [5,77,78,79,84,85,86] [o 109 (Bn .add 86 1),v 86 109]))))
def code157L1:ACode :=
 .live [5,77,78,79] (S (R [5,77,78,79,80] [o 80 (Bt .lss 79 78)])
 (S (.after (.cond (t 80) (.skip) (.live [] (.exit 4))) [5,77,78,79])
 (S (.after (.block 5 (S (R [5,17,77,78,79] [o 81 (.iaddr 4 (t 77) (t 79)),o 82 (.load (some 4) (t 81)),o 17 (.lalloc [.str [],.str [],.slice none 0 (some 0),.slice none 0 (some 0)]),u (.store 4 (t 17) (t 82))])
 (S (R [5,77,78,79,84,85,86] [o 83 (Fa 17 3),o 84 (Lq 83),o 85 (Sl 84),o 86 (.val (n 0))])
 (.after (.block 6 (.loop code157L0)) [5,77,78,79])))) [5,77,78,79])
 (R [5,77,78,79] [o 110 (Bn .add 79 1),v 79 110]))))
def code157L2:ACode :=
 .live [0,4,5,53,54,55] (S (R [0,4,5,53,54,55,56] [o 56 (Bt .lss 55 54)])
 (S (.after (.cond (t 56) (.skip) (.live [0,4,5] (.exit 2))) [0,4,5,53,54,55])
 (S (.after (.block 3 (S (R [0,4,5,13,53,54,55] [o 57 (.iaddr 4 (t 53) (t 55)),o 58 (.load (some 4) (t 57)),o 13 (.lalloc [.int .i64 0,.int .i64 0,.int .i64 0,.str []]),u (.store 4 (t 13) (t 58))])
 (S (R [0,4,5,13,15,53,54,55] [v 60 0,o 61 (Fa 13 3),o 62 (Lq 61),o 63 (.callg 160 [t 60,t 62]),v 59 63,o 64 (Xt 59 0),o 65 (Xt 59 1),o 14 (.lalloc [.str [],.str [],.slice none 0 (some 0),.slice none 0 (some 0)]),u (.store 4 (t 14) (t 64)),v 15 65])
 (S (R [0,4,5,53,54,55,72] [o 66 (Fa 13 3),o 67 (Lq 66),o 68 (.bin .neq (t 67) (Ks [])),v 69 68,g 70 69 true (Vl 15),g 71 69 true (.un .not (t 70)),o 72 (.pick (t 69) (t 71) F)])
 (.after (.cond (t 72) (S (R [6] [o 6 (.val F)])
 (Z [6])) (.skip)) [0,4,5,53,54,55]))))) [0,4,5,53,54,55])
 (R [0,4,5,53,54,55] [o 73 (Bn .add 55 1),v 55 73]))))
def code157L3:ACode :=
 .live [0,4,5,41,42,43] (S (R [0,4,5,41,42,43,44] [o 44 (Bt .lss 43 42)])
 (S (.after (.cond (t 44) (.skip) (.live [0,4,5] (.exit 0))) [0,4,5,41,42,43])
 (S (.after (.block 1 (S (R [0,4,5,11,41,42,43] [o 45 (.iaddr 1 (t 41) (t 43)),o 46 (Lq 45),v 11 46])
 (S (R [0,4,5,41,42,43,50] [v 47 0,v 48 11,o 49 (.callg 159 [t 47,t 48]),o 50 (.un .not (t 49))])
 (.after (.cond (t 50) (S (R [6] [o 6 (.val F)])
 (Z [6])) (.skip)) [0,4,5,41,42,43])))) [0,4,5,41,42,43])
 (R [0,4,5,41,42,43] [o 51 (Bn .add 43 1),v 43 51]))))
def code157:AFunc:=⟨false,false,3,111,[.tmp 6],
 S (R [0,4,5] [o 4 (.lbox (t 1)),o 5 (.lbox (t 2)),o 6 (.val F)])
 (S (R [0,4,5,7,8,9] [o 21 (Fa 5 2),o 22 (Lq 21),o 23 (.callg 37 [t 22]),v 20 23,o 24 (Xt 20 0),o 25 (Xt 20 1),o 26 (Xt 20 2),v 7 24,v 8 25,v 9 26])
 (S (S (R [0,4,5,7,40] [o 27 (Fa 5 1),o 28 (Lq 27),o 29 (.callg 158 [t 28]),o 30 (.un .not (t 29)),v 31 30,g 32 31 false (Vl 9),g 33 31 false (Bn .neq 32 0),o 34 (.pick (t 31) Y (t 33)),v 35 34,g 36 35 false (Vl 0),g 37 35 false (Vl 8),g 38 35 false (.callg 159 [t 36,t 37]),g 39 35 false (.un .not (t 38)),o 40 (.pick (t 35) Y (t 39))])
 (.after (.cond (t 40) (S (R [6] [o 6 (.val F)])
 (Z [6])) (.skip)) [0,4,5,7]))
 (S (S (R [0,4,5,41,42,43] [v 41 7,o 42 (Sl 41),o 43 (.val (n 0))])
 (.after (.block 0 (.loop code157L3)) [0,4,5]))
 (S (S (R [0,4,5,53,54,55] [o 52 (Fa 5 6),o 53 (Lq 52),o 54 (Sl 53),o 55 (.val (n 0))])
 (.after (.block 2 (.loop code157L2)) [0,4,5]))
 (S (S (R [5,77,78,79] [v 74 0,o 75 (Fa 4 0),o 76 (Lq 75),o 77 (.callg 112 [t 74,t 76]),o 78 (Sl 77),o 79 (.val (n 0))])
 (.after (.block 4 (.loop code157L1)) []))
 (S (R [6] [o 6 (.val Y)])
 (Z [6]))))))),none⟩
def code158L0:ACode :=
 .live [0,3] (S (S (R [0,3,7] [v 4 3,v 5 0,o 6 (.len .str (t 5)),o 7 (Bt .lss 4 6)])
 (.after (.cond (t 7) (.skip) (.live [0] (.exit 0))) [0,3]))
 (S (.after (.block 1 (S (R [0,3,13] [v 10 0,v 11 3,o 12 (.index (t 10) (t 11)),o 13 (.bin .eql (t 12) (.const (.int .u8 47)))])
 (.after (.cond (t 13) (S (R [2] [o 2 (.val F)])
 (Z [2])) (.skip)) [0,3]))) [0,3])
 (R [0,3] [v 8 3,o 9 (Bn .add 8 1),v 3 9])))
def code158:AFunc:=⟨false,false,1,16,[.tmp 2],
 S (R [0] [o 2 (.val F)])
 (S (S (R [0,3] [o 3 (.val (n 0))])
 (.after (.block 0 (.loop code158L0)) [0]))
 (S (R [2] [v 14 0,o 15 (.callg 26 [t 14]),v 2 15])
 (Z [2]))),none⟩
def code159L0:ACode :=
 .live [0,1] (S (S (R [0,1,15] [v 9 1,o 10 (.bin .neq (t 9) (Ks [])),v 11 10,g 12 11 true (Vl 1),g 13 11 true (.index (t 12) (n 0)),g 14 11 true (.bin .eql (t 13) (.const (.int .u8 91))),o 15 (.pick (t 11) (t 14) F)])
 (.after (.cond (t 15) (.skip) (.live [0,1] (.exit 0))) [0,1]))
 (.after (.block 1 (R [0,1] [v 16 1,o 17 (.slice .str (t 16) (some (n 1)) none none),v 1 17])) [0,1]))
def code159:AFunc:=⟨false,false,2,34,[.tmp 4],
 S (R [0,1] [o 4 (.val F)])
 (S (.after (.block 0 (.loop code159L0)) [0,1])
 (S (R [0,5,6] [v 19 1,o 20 (.callg 33 [t 19]),v 18 20,o 21 (Xt 18 0),o 22 (Xt 18 1),v 5 21,v 6 22])
 (S (R [6,8] [v 24 0,v 25 5,o 26 (.callg 160 [t 24,t 25]),v 23 26,o 27 (Xt 23 0),o 28 (Xt 23 1),o 7 (.lalloc [.str [],.str [],.slice none 0 (some 0),.slice none 0 (some 0)]),u (.store 4 (t 7) (t 27)),v 8 28])
 (S (R [4] [v 29 6,o 30 (.un .not (t 29)),v 31 30,g 32 31 false (Vl 8),o 33 (.pick (t 31) Y (t 32)),v 4 33])
 (Z [4]))))),none⟩
def code160L0:ACode :=
 .live [1,4,8,9,10] (S (R [1,4,8,9,10,11] [o 11 (Bt .lss 10 9)])
 (S (.after (.cond (t 11) (.skip) (.live [4] (.exit 0))) [1,4,8,9,10])
 (S (.after (.block 1 (S (R [1,4,7,8,9,10] [o 12 (.iaddr 4 (t 8) (t 10)),o 13 (.load (some 4) (t 12)),o 7 (.lalloc [.str [],.str [],.slice none 0 (some 0),.slice none 0 (some 0)]),u (.store 4 (t 7) (t 13))])
 (S (R [1,4,7,8,9,10,17] [o 14 (Fa 7 0),o 15 (Lq 14),v 16 1,o 17 (Bt .eql 15 16)])
 (.after (.cond (t 17) (S (R [4,5] [o 18 (.load (some 4) (t 7)),u (.store 4 (t 4) (t 18)),o 5 (.val Y)])
 (Z [4,5])) (.skip)) [1,4,8,9,10])))) [1,4,8,9,10])
 (R [1,4,8,9,10] [o 19 (Bn .add 10 1),v 10 19]))))
def code160:AFunc:=⟨false,false,2,21,[.cell 4 (some 4),.tmp 5],
 S (R [0,1,4] [o 4 (.lalloc [.str [],.str [],.slice none 0 (some 0),.slice none 0 (some 0)]),o 5 (.val F)])
 (S (S (R [1,4,8,9,10] [v 8 0,o 9 (Sl 8),o 10 (.val (n 0))])
 (.after (.block 0 (.loop code160L0)) [4]))
 (S (R [4,5] [o 20 (.build [.str [],.str [],.slice none 0 (some 0),.slice none 0 (some 0)] []),u (.store 4 (t 4) (t 20)),o 5 (.val F)])
 (Z [4,5]))),none⟩
def code179:AFunc:=⟨false,false,0,10,[.cell 0 (some 16)],
 S (R [0] [o 0 (.lalloc [.str [],.str [],.str [],.str [],.str [],.str [],.str [],.str [],.str [],.str [],.str [],.str [],.str [],.str [],.str [],.str []])])
 (S (R [0] [o 1 (.build [.str [],.str []] [(0,1,Ks [112,114,105,110,116]),(1,1,Ks [40,73,41,86])]),o 2 (.build [.str [],.str []] [(0,1,Ks [112,114,105,110,116,76,111,110,103]),(1,1,Ks [40,74,41,86])]),o 3 (.build [.str [],.str []] [(0,1,Ks [112,114,105,110,116,84,101,120,116]),(1,1,Ks [40,91,66,41,86])]),o 4 (.build [.str [],.str []] [(0,1,Ks [97,100,100]),(1,1,Ks [40,91,66,41,73])]),o 5 (.build [.str [],.str []] [(0,1,Ks [103,101,116]),(1,1,Ks [40,73,41,91,66])]),o 6 (.build [.str [],.str []] [(0,1,Ks [115,101,116]),(1,1,Ks [40,73,91,66,41,86])]),o 7 (.build [.str [],.str []] [(0,1,Ks [100,101,108]),(1,1,Ks [40,73,41,86])]),o 8 (.build [.str [],.str []] [(0,1,Ks [99,111,117,110,116]),(1,1,Ks [40,41,73])]),o 9 (.build [.str [],.str [],.str [],.str [],.str [],.str [],.str [],.str [],.str [],.str [],.str [],.str [],.str [],.str [],.str [],.str []] [(0,2,t 1),(2,2,t 2),(4,2,t 3),(6,2,t 4),(8,2,t 5),(10,2,t 6),(12,2,t 7),(14,2,t 8)]),u (.store 16 (t 0) (t 9))])
 (Z [0])),none⟩
def code181:AFunc:=⟨false,false,1,10,[.tmp 2],
 S (R [0] [o 2 (.val F)])
 (S (R [2] [v 3 0,o 4 (.callg 180 [t 3,Ks [47]]),o 5 (.un .not (t 4)),v 6 5,g 7 6 true (Vl 0),g 8 6 true (.callg 25 [t 7]),o 9 (.pick (t 6) (t 8) F),v 2 9])
 (Z [2])),none⟩
def code182L0:ACode :=
 .live [0,42,43,44] (S (R [0,42,43,44,45] [o 45 (Bt .lss 44 43)])
 (S (.after (.cond (t 45) (.skip) (.live [] (.exit 2))) [0,42,43,44])
 (S (.after (.block 3 (S (R [0,11,42,43,44] [o 46 (.iaddr 4 (t 42) (t 44)),o 47 (.load (some 4) (t 46)),o 11 (.lalloc [.int .i64 0,.int .i64 0,.int .i64 0,.str []]),u (.store 4 (t 11) (t 47))])
 (S (R [0,42,43,44,57] [o 48 (Fa 11 3),o 49 (Lq 48),o 50 (.bin .neq (t 49) (Ks [])),v 51 50,g 52 51 true (Vl 0),g 53 51 true (Fa 11 3),g 54 51 true (Lq 53),g 55 51 true (.callg 54 [t 52,t 54]),g 56 51 true (.un .not (t 55)),o 57 (.pick (t 51) (t 56) F)])
 (.after (.cond (t 57) (S (R [4] [o 4 (.val F)])
 (Z [4])) (.skip)) [0,42,43,44])))) [0,42,43,44])
 (R [0,42,43,44] [o 58 (Bn .add 44 1),v 44 58]))))
def code182L1:ACode :=
 .live [0,3,30,31,32] (S (R [0,3,30,31,32,33] [o 33 (Bt .lss 32 31)])
 (S (.after (.cond (t 33) (.skip) (.live [0,3] (.exit 0))) [0,3,30,31,32])
 (S (.after (.block 1 (S (R [0,3,9,30,31,32] [o 34 (.iaddr 1 (t 30) (t 32)),o 35 (Lq 34),v 9 35])
 (S (R [0,3,30,31,32,39] [v 36 0,v 37 9,o 38 (.callg 103 [t 36,t 37]),o 39 (.un .not (t 38))])
 (.after (.cond (t 39) (S (R [4] [o 4 (.val F)])
 (Z [4])) (.skip)) [0,3,30,31,32])))) [0,3,30,31,32])
 (R [0,3,30,31,32] [o 40 (Bn .add 32 1),v 32 40]))))
def code182:AFunc:=⟨false,false,2,59,[.tmp 4],
 S (R [0,3] [o 3 (.lbox (t 1)),o 4 (.val F)])
 (S (R [0,3,5,6,7] [o 13 (Fa 3 2),o 14 (Lq 13),o 15 (.callg 38 [t 14]),v 12 15,o 16 (Xt 12 0),o 17 (Xt 12 1),o 18 (Xt 12 2),v 5 16,v 6 17,v 7 18])
 (S (S (R [0,3,5,6,26] [v 19 7,o 20 (Bn .neq 19 0),v 21 20,g 22 21 false (Fa 3 1),g 23 21 false (Lq 22),g 24 21 false (.callg 181 [t 23]),g 25 21 false (.un .not (t 24)),o 26 (.pick (t 21) Y (t 25))])
 (.after (.cond (t 26) (S (R [4] [o 4 (.val F)])
 (Z [4])) (.skip)) [0,3,5,6]))
 (S (S (R [0,3,30,31,32] [v 27 5,v 28 6,o 29 (.mkslice 1 1 [.str []] [(0,1,t 28)]),o 30 (.append 1 16 (t 27) (t 29)),o 31 (Sl 30),o 32 (.val (n 0))])
 (.after (.block 0 (.loop code182L1)) [0,3]))
 (S (S (R [0,42,43,44] [o 41 (Fa 3 6),o 42 (Lq 41),o 43 (Sl 42),o 44 (.val (n 0))])
 (.after (.block 2 (.loop code182L0)) []))
 (S (R [4] [o 4 (.val Y)])
 (Z [4])))))),none⟩
def code284L0:ACode :=
 .live [1,24,25] (S (R [1,24,25,26] [o 26 (Bn .lss 25 8)])
 (S (.after (.cond (t 26) (.skip) (.live [1] (.exit 2))) [1,24,25])
 (S (.after (.block 3 (S (R [1,5,24,25] [o 27 (.aindex 8 2 (some 2) (t 24) (t 25)),o 5 (.lalloc [.str [],.str []]),u (.store 2 (t 5) (t 27))])
 (S (R [1,6,24,25] [o 28 (.aaddr 2 1 (t 5) (n 0)),o 29 (Lq 28),o 30 (.aaddr 2 1 (t 5) (n 1)),o 31 (Lq 30),o 32 (.build [.str [],.str [],.str []] [(0,1,Ks [115,121,115]),(1,1,t 29),(2,1,t 31)]),o 6 (.lalloc [.str [],.str [],.str []]),u (.store 3 (t 6) (t 32))])
 (S (.after (.region [⟨true,[],[v 33 1,o 34 (.nilcheck (t 33)),o 35 (Fa 34 2),o 36 (Lq 35),o 37 (.load (some 3) (t 6)),o 38 (.build [.str [],.bool false] [(0,1,Ks [115,121,115]),(1,1,.const (.bool true))])]⟩,⟨false,[],[u (.ext (.mapupd (.agg [.s,.s,.s])) [t 36,t 37,t 38])]⟩]) [1,6,24,25])
 (.after (.region [⟨true,[],[v 39 1,o 40 (.nilcheck (t 39)),o 41 (Fa 40 3),o 42 (Lq 41),o 43 (.load (some 3) (t 6))]⟩,⟨false,[],[u (.ext (.mapupd (.agg [.s,.s,.s])) [t 42,t 43,.const (.bool true)])]⟩]) [1,24,25]))))) [1,24,25])
 (R [1,24,25] [o 44 (Bn .add 25 1),v 25 44]))))
def code284L1:ACode :=
 .live [1,14,15] (S (R [1,14,15,16] [o 16 (Bn .lss 15 6)])
 (S (.after (.cond (t 16) (.skip) (.live [1] (.exit 0))) [1,14,15])
 (S (.after (.block 1 (S (R [1,3,14,15] [o 17 (.aindex 6 1 none (t 14) (t 15)),v 3 17])
 (R [1,14,15] [v 18 1,o 19 (.nilcheck (t 18)),o 20 (Fa 19 0),o 21 (Lq 20),v 22 3,u (.ext (.mapupd (.one .s)) [t 21,t 22,Ks [84,104,114,111,119,97,98,108,101]])]))) [1,14,15])
 (R [1,14,15] [o 23 (Bn .add 15 1),v 15 23]))))
def code284:AFunc:=⟨false,false,0,46,[.tmp 0],
 S (R [] [o 0 (.val (.const (.ptr none)))])
 (S (R [1] [o 7 (.ext .mkmap []),u (.ext (.mapupd (.one .s)) [t 7,Ks [79,98,106,101,99,116],Ks []]),u (.ext (.mapupd (.one .s)) [t 7,Ks [84,104,114,111,119,97,98,108,101],Ks [79,98,106,101,99,116]]),u (.ext (.mapupd (.one .s)) [t 7,Ks [115,121,115],Ks [79,98,106,101,99,116]]),v 8 7,o 9 (.ext .mkmap []),o 10 (.ext .mkmap []),o 11 (.ext .mkmap []),o 12 (.build [.map none,.map none,.map none,.map none] [(0,1,t 8),(1,1,t 9),(2,1,t 10),(3,1,t 11)]),o 13 (.box (t 12)),v 1 13])
 (S (S (R [1,14,15] [o 14 (.build [.str [],.str [],.str [],.str [],.str [],.str []] [(0,1,Ks [78,117,108,108,70,97,117,108,116]),(1,1,Ks [66,111,117,110,100,115,70,97,117,108,116]),(2,1,Ks [77,97,116,104,70,97,117,108,116]),(3,1,Ks [67,97,115,116,70,97,117,108,116]),(4,1,Ks [83,105,122,101,70,97,117,108,116]),(5,1,Ks [83,116,111,114,101,70,97,117,108,116])]),o 15 (.val (n 0))])
 (.after (.block 0 (.loop code284L1)) [1]))
 (S (S (R [1,24,25] [o 24 (.callg 179 []),o 25 (.val (n 0))])
 (.after (.block 2 (.loop code284L0)) [1]))
 (S (R [0] [v 45 1,v 0 45])
 (Z [0]))))),none⟩
def T:Nat→Option AFunc:=fun g=>match Zd.T g with
 | some f=>some f
 | none=>List.lookup g [(47,code47),(49,code49),(320,code320),(52,code52),(54,code54),(96,code96),(322,code322),(97,code97),(321,code321),(98,code98),(99,code99),(100,code100),(103,code103),(106,code106),(107,code107),(108,code108),(112,code112),(115,code115),(155,code155),(156,code156),(157,code157),(158,code158),(159,code159),(160,code160),(179,code179),(181,code181),(182,code182),(284,code284)]
theorem sub:∀ g f,Zd.T g=some f→T g=some f:=fun g f h=>by unfold T; rw [h]
theorem t47:T 47=some code47:=rfl
theorem t49:T 49=some code49:=rfl
theorem t320:T 320=some code320:=rfl
theorem t52:T 52=some code52:=rfl
theorem t54:T 54=some code54:=rfl
theorem t96:T 96=some code96:=rfl
theorem t322:T 322=some code322:=rfl
theorem t97:T 97=some code97:=rfl
theorem t321:T 321=some code321:=rfl
theorem t98:T 98=some code98:=rfl
theorem t99:T 99=some code99:=rfl
theorem t100:T 100=some code100:=rfl
theorem t103:T 103=some code103:=rfl
theorem t106:T 106=some code106:=rfl
theorem t107:T 107=some code107:=rfl
theorem t108:T 108=some code108:=rfl
theorem t112:T 112=some code112:=rfl
theorem t115:T 115=some code115:=rfl
theorem t155:T 155=some code155:=rfl
theorem t156:T 156=some code156:=rfl
theorem t157:T 157=some code157:=rfl
theorem t158:T 158=some code158:=rfl
theorem t159:T 159=some code159:=rfl
theorem t160:T 160=some code160:=rfl
theorem t179:T 179=some code179:=rfl
theorem t181:T 181=some code181:=rfl
theorem t182:T 182=some code182:=rfl
theorem t284:T 284=some code284:=rfl
end Go.Abs.Zh

namespace Go.Abs.Zm
open Go.Abs.Short
-- base: Zh
def code48T0:ACode :=
 S (R [2] [o 47 (.load (some 4) (t 3)),o 48 (.load (some 4) (t 4)),o 49 (.load (some 4) (t 5)),o 50 (.build [.str [],.str [],.slice none 0 (some 0),.slice none 0 (some 0)] [(0,1,Ks [79,111,112,115]),(1,1,Ks [84,104,114,111,119,97,98,108,101])]),o 51 (.mkslice 4 4 [.str [],.str [],.slice none 0 (some 0),.slice none 0 (some 0),.str [],.str [],.slice none 0 (some 0),.slice none 0 (some 0),.str [],.str [],.slice none 0 (some 0),.slice none 0 (some 0),.str [],.str [],.slice none 0 (some 0),.slice none 0 (some 0)] [(0,4,t 47),(4,4,t 48),(8,4,t 49),(12,4,t 50)]),v 2 51])
 (Z [2])
def code48T1:ACode :=
 S (S (R [0,3,4,5,42] [v 40 0,o 41 (.callg 102 [t 40,n 3]),o 42 (Bn .gtr 41 0)])
 (.after (.cond (t 42) (R [3,4,5] [v 43 0,o 44 (.callg 101 [t 43,.const (.bool false),Ks [118],n 0]),o 45 (.mkslice 8 1 [.bool false,.str [],.str [],.int .i64 0,.int .i64 0,.slice none 0 (some 0),.slice none 0 (some 0),.slice none 0 (some 0)] [(0,8,t 44)]),o 46 (Fa 5 3),u (.store 1 (t 46) (t 45))]) (.skip)) [3,4,5]))
 (code48T0)
def code48T2:ACode :=
 S (R [0,3,4,5] [o 37 (.build [.bool false,.str [],.str []] [(1,1,Ks [103]),(2,1,Ks [73])]),o 38 (.mkslice 3 1 [.bool false,.str [],.str []] [(0,3,t 37)]),o 39 (.build [.str [],.str [],.slice none 0 (some 0),.slice none 0 (some 0)] [(0,1,Ks [66]),(1,1,Ks [65]),(2,1,t 38)]),o 5 (.lalloc [.str [],.str [],.slice none 0 (some 0),.slice none 0 (some 0)]),u (.store 4 (t 5) (t 39))])
 (code48T1)
def code48T3:ACode :=
 S (R [0,3,4] [o 29 (.build [.bool false,.str [],.str []] [(1,1,Ks [102]),(2,1,Ks [73])]),o 30 (.build [.bool false,.str [],.str []] [(1,1,Ks [108]),(2,1,Ks [74])]),o 31 (.build [.bool false,.str [],.str []] [(1,1,Ks [110,101,120,116]),(2,1,Ks [76,65,59])]),o 32 (.mkslice 3 3 [.bool false,.str [],.str [],.bool false,.str [],.str [],.bool false,.str [],.str []] [(0,3,t 29),(3,3,t 30),(6,3,t 31)]),v 33 0,o 34 (.callg 101 [t 33,.const (.bool false),Ks [118],n 0]),o 35 (.mkslice 8 1 [.bool false,.str [],.str [],.int .i64 0,.int .i64 0,.slice none 0 (some 0),.slice none 0 (some 0),.slice none 0 (some 0)] [(0,8,t 34)]),o 36 (.build [.str [],.str [],.slice none 0 (some 0),.slice none 0 (some 0)] [(0,1,Ks [65]),(1,1,Ks [79,98,106,101,99,116]),(2,1,t 32),(3,1,t 35)]),o 4 (.lalloc [.str [],.str [],.slice none 0 (some 0),.slice none 0 (some 0)]),u (.store 4 (t 4) (t 36))])
 (code48T2)
def code48T4:ACode :=
 S (R [0,3] [v 10 0,o 11 (.callg 101 [t 10,.const (.bool true),Ks [109,97,105,110],n 6]),o 12 (.build [.int .u8 0,.int .i64 0,.int .i64 0,.str [],.str [],.str [],.str []] [(0,1,.const (.int .u8 21))]),v 13 0,o 14 (.callg 102 [t 13,n 7]),o 15 (.bin .add (n 2) (t 14)),o 16 (.conv (.int .u8) (t 15)),o 17 (.build [.int .u8 0,.int .i64 0,.int .i64 0,.str [],.str [],.str [],.str []] [(0,1,t 16)]),o 18 (.mkslice 1 3 [.int .u8 0,.int .u8 0,.int .u8 0] [(0,1,.const (.int .u8 100)),(1,1,.const (.int .u8 108)),(2,1,.const (.int .u8 112))]),v 19 0,o 20 (.callg 102 [t 19,n 3]),o 21 (.iaddr 1 (t 18) (t 20)),o 22 (Lq 21),o 23 (.build [.int .u8 0,.int .i64 0,.int .i64 0,.str [],.str [],.str [],.str []] [(0,1,t 22)]),o 24 (.build [.int .u8 0,.int .i64 0,.int .i64 0,.str [],.str [],.str [],.str []] [(0,1,.const (.int .u8 172))]),o 25 (.mkslice 7 4 [.int .u8 0,.int .i64 0,.int .i64 0,.str [],.str [],.str [],.str [],.int .u8 0,.int .i64 0,.int .i64 0,.str [],.str [],.str [],.str [],.int .u8 0,.int .i64 0,.int .i64 0,.str [],.str [],.str [],.str [],.int .u8 0,.int .i64 0,.int .i64 0,.str [],.str [],.str [],.str []] [(0,7,t 12),(7,7,t 17),(14,7,t 23),(21,7,t 24)]),o 26 (.build [.bool false,.str [],.str [],.int .i64 0,.int .i64 0,.slice none 0 (some 0),.slice none 0 (some 0),.slice none 0 (some 0)] [(0,1,.const (.bool true)),(1,1,Ks [104,101,108,112]),(2,1,Ks [40,73,41,73]),(3,1,n 4),(4,1,n 1),(5,1,t 25)]),o 27 (.mkslice 8 2 [.bool false,.str [],.str [],.int .i64 0,.int .i64 0,.slice none 0 (some 0),.slice none 0 (some 0),.slice none 0 (some 0),.bool false,.str [],.str [],.int .i64 0,.int .i64 0,.slice none 0 (some 0),.slice none 0 (some 0),.slice none 0 (some 0)] [(0,8,t 11),(8,8,t 26)]),o 28 (Fa 3 3),u (.store 1 (t 28) (t 27))])
 (code48T3)
def code48:AFunc:=⟨false,false,1,52,[.tmp 2],
 S (R [0] [o 2 (.val (.const (.slice none 0 (some 0))))])
 (S (R [0,3] [o 6 (.build [.bool false,.str [],.str []] [(0,1,.const (.bool true)),(1,1,Ks [115]),(2,1,Ks [73])]),o 7 (.build [.bool false,.str [],.str []] [(0,1,.const (.bool true)),(1,1,Ks [111]),(2,1,Ks [76,65,59])]),o 8 (.mkslice 3 2 [.bool false,.str [],.str [],.bool false,.str [],.str []] [(0,3,t 6),(3,3,t 7)]),o 9 (.build [.str [],.str [],.slice none 0 (some 0),.slice none 0 (some 0)] [(0,1,Ks [77,97,105,110]),(1,1,Ks [79,98,106,101,99,116]),(2,1,t 8)]),o 3 (.lalloc [.str [],.str [],.slice none 0 (some 0),.slice none 0 (some 0)]),u (.store 4 (t 3) (t 9))])
 (code48T4)),none⟩
def code101L0:ACode :=
 .live [2,8,9,12] (S (S (R [2,8,9,12,90] [v 89 12,o 90 (Bn .gtr 89 0)])
 (.after (.cond (t 90) (.skip) (.live [2,8,9] (.exit 2))) [2,8,9,12]))
 (S (.after (.block 3 (R [2,8,9,12] [v 93 9,o 94 (.callg 152 [t 93])])) [2,8,9,12])
 (R [2,8,9,12] [v 91 12,o 92 (Bn .sub 91 1),v 12 92])))
def code101L1:ACode :=
 .live [0,2,3,8,9,43,44,45] (S (R [0,2,3,8,9,43,44,45,46] [o 46 (Bt .lss 45 44)])
 (S (.after (.cond (t 46) (.skip) (.live [0,2,3,8,9] (.exit 0))) [0,2,3,8,9,43,44,45])
 (S (.after (.block 1 (S (R [0,2,3,8,9,11,43,44,45] [o 47 (.iaddr 1 (t 43) (t 45)),o 48 (Lq 47),v 11 48])
 (S (R [0,2,3,8,9,11,43,44,45] [v 49 9,v 50 0,o 51 (.callg 102 [t 50,n 4]),o 52 (.callg 153 [t 49,t 51])])
 (R [0,2,3,8,9,43,44,45] [v 53 9,v 54 11,o 55 (.callg 150 [t 53,.const (.int .u8 54),t 54])])))) [0,2,3,8,9,43,44,45])
 (R [0,2,3,8,9,43,44,45] [o 56 (Bn .add 45 1),v 45 56]))))
def code101R0:ACode :=
 .after (.region [⟨true,[],[v 99 2,v 100 9,o 101 (.nilcheck (t 100)),o 102 (Fa 101 1),o 103 (Lq 102),v 104 9,o 105 (.nilcheck (t 104)),o 106 (Fa 105 2),o 107 (Lq 106),v 108 9,o 109 (.nilcheck (t 108)),o 110 (Fa 109 3),o 111 (Lq 110)]⟩,⟨false,[],[o 112 (.build [.bool false,.str [],.str [],.int .i64 0,.int .i64 0,.slice none 0 (some 0),.slice none 0 (some 0),.slice none 0 (some 0)] [(0,1,.const (.bool true)),(1,1,t 99),(2,1,Ks [40,73,41,73]),(3,1,n 40),(4,1,n 8),(5,1,t 103),(6,1,t 107),(7,1,t 111)]),u (.store 8 (t 8) (t 112))]⟩]) [8]
def code101T0:ACode :=
 S (S (R [2,8,9,12] [v 85 0,v 86 3,o 87 (.callg 102 [t 85,t 86]),o 88 (.bin .add (n 1) (t 87)),v 12 88])
 (.after (.block 2 (.loop code101L0)) [2,8,9]))
 (S (R [2,8,9] [v 95 9,o 96 (.callg 151 [t 95,n 1])])
 (S (R [2,8,9] [v 97 9,o 98 (.callg 150 [t 97,.const (.int .u8 172),n 0])])
 (S (code101R0)
 (Z [8]))))
def code101T1:ACode :=
 S (R [0,2,3,8,9] [v 57 9,o 58 (.callg 150 [t 57,.const (.int .u8 10),n 0])])
 (S (R [0,2,3,8,9] [v 59 9,o 60 (.callg 150 [t 59,.const (.int .u8 55),n 3])])
 (S (R [0,2,3,8,9] [v 61 9,v 62 9,o 63 (.nilcheck (t 62)),o 64 (Fa 63 1),o 65 (Lq 64),o 66 (.build [.int .u8 0,.int .i64 0,.int .i64 0,.str [],.str [],.str [],.str []] [(0,1,.const (.int .u8 187)),(3,1,Ks [65])]),o 67 (.mkslice 7 1 [.int .u8 0,.int .i64 0,.int .i64 0,.str [],.str [],.str [],.str []] [(0,7,t 66)]),o 68 (.append 7 88 (t 65) (t 67)),o 69 (.nilcheck (t 61)),o 70 (Fa 69 1),u (.store 1 (t 70) (t 68))])
 (S (R [0,2,3,8,9] [v 71 9,o 72 (.callg 150 [t 71,.const (.int .u8 58),n 5])])
 (S (R [0,2,3,8,9] [v 73 9,v 74 0,o 75 (.callg 102 [t 74,n 5]),o 76 (.callg 153 [t 73,t 75])])
 (S (R [0,2,3,8,9] [v 77 9,o 78 (.callg 150 [t 77,.const (.int .u8 188),n 10])])
 (S (R [0,2,3,8,9] [v 79 9,o 80 (.callg 150 [t 79,.const (.int .u8 58),n 6])])
 (S (R [0,2,3,8,9] [v 81 9,o 82 (.callg 150 [t 81,.const (.int .u8 1),n 0])])
 (S (R [0,2,3,8,9] [v 83 9,o 84 (.callg 150 [t 83,.const (.int .u8 58),n 7])])
 (code101T0)))))))))
def code101:AFunc:=⟨false,false,4,113,[.cell 8 (some 8)],
 S (R [0,1,2,3,8] [o 8 (.lalloc [.bool false,.str [],.str [],.int .i64 0,.int .i64 0,.slice none 0 (some 0),.slice none 0 (some 0),.slice none 0 (some 0)])])
 (S (R [0,1,2,3,8,9] [v 13 0,o 14 (.build [.ptr none,.slice none 0 (some 0),.slice none 0 (some 0),.slice none 0 (some 0),.int .i64 0,.int .i64 0] [(0,1,t 13),(5,1,n 60)]),o 15 (.box (t 14)),v 9 15])
 (S (S (R [0,2,3,8,9,17] [v 16 1,o 17 (.un .not (t 16))])
 (.after (.cond (t 17) (S (R [0,2,8,9] [v 18 9,o 19 (.callg 150 [t 18,.const (.int .u8 21),n 1])])
 (S (R [0,2,8,9] [v 20 9,o 21 (.callg 153 [t 20,n 3])])
 (S (R [0,2,8,9] [v 22 9,o 23 (.callg 150 [t 22,.const (.int .u8 96),n 0])])
 (S (R [0,2,8,9] [v 24 9,o 25 (.callg 150 [t 24,.const (.int .u8 25),n 0])])
 (S (R [0,2,8,9] [v 26 9,o 27 (.callg 154 [t 26,.const (.int .u8 180),Ks [65],Ks [102],Ks [73]])])
 (S (R [2,8,9] [v 28 9,o 29 (.mkslice 1 3 [.int .u8 0,.int .u8 0,.int .u8 0] [(0,1,.const (.int .u8 96)),(1,1,.const (.int .u8 104)),(2,1,.const (.int .u8 130))]),v 30 0,o 31 (.callg 102 [t 30,n 3]),o 32 (.iaddr 1 (t 29) (t 31)),o 33 (Lq 32),o 34 (.callg 150 [t 28,t 33,n 0])])
 (S (R [2,8,9] [v 35 9,o 36 (.callg 150 [t 35,.const (.int .u8 172),n 0])])
 (S (R [8] [v 37 2,v 38 9,o 39 (.nilcheck (t 38)),o 40 (Fa 39 1),o 41 (Lq 40),o 42 (.build [.bool false,.str [],.str [],.int .i64 0,.int .i64 0,.slice none 0 (some 0),.slice none 0 (some 0),.slice none 0 (some 0)] [(1,1,t 37),(2,1,Ks [40,73,41,73]),(3,1,n 8),(4,1,n 2),(5,1,t 41)]),u (.store 8 (t 8) (t 42))])
 (Z [8]))))))))) (.skip)) [0,2,3,8,9]))
 (S (S (R [0,2,3,8,9,43,44,45] [o 43 (.mkslice 1 2 [.int .i64 0,.int .i64 0] [(0,1,n 1),(1,1,n 2)]),o 44 (Sl 43),o 45 (.val (n 0))])
 (.after (.block 0 (.loop code101L1)) [0,2,3,8,9]))
 (code101T1)))),none⟩
def code102:AFunc:=⟨false,false,2,41,[.tmp 4],
 S (R [0,1] [o 4 (.val (n 0))])
 (S (S (.after (.region [⟨false,[],[v 5 1,o 6 (Bn .lss 5 2),v 7 6]⟩,⟨true,[],[g 8 7 false (Vl 0),g 9 7 false (.nilcheck (t 8)),g 10 7 false (Fa 9 1),g 11 7 false (Lq 10),g 12 7 false (Vl 0),g 13 7 false (.nilcheck (t 12)),g 14 7 false (Fa 13 0),g 15 7 false (Lq 14),g 16 7 false (Sl 15)]⟩,⟨false,[],[g 17 7 false (Bt .geq 11 16),o 18 (.pick (t 7) Y (t 17))]⟩]) [0,1,18])
 (.after (.cond (t 18) (S (R [4] [o 4 (.val (n 0))])
 (Z [4])) (.skip)) [0,1]))
 (S (R [0,1] [v 19 0,v 20 0,o 21 (.nilcheck (t 20)),o 22 (Fa 21 1),o 23 (Lq 22),o 24 (Bn .add 23 1),o 25 (.nilcheck (t 19)),o 26 (Fa 25 1),u (.store 1 (t 26) (t 24))])
 (S (.after (.region [⟨true,[],[v 27 0,o 28 (.nilcheck (t 27)),o 29 (Fa 28 0),o 30 (Lq 29),v 31 0,o 32 (.nilcheck (t 31)),o 33 (Fa 32 1),o 34 (Lq 33),o 35 (Bn .sub 34 1),o 36 (.iaddr 1 (t 30) (t 35)),o 37 (Lq 36),o 38 (.conv (.int .i64) (t 37)),v 39 1]⟩,⟨false,[],[o 40 (Bt .rem 38 39),v 4 40]⟩]) [4])
 (Z [4])))),none⟩
def code150:AFunc:=⟨false,false,3,18,[],
 R [] [v 6 0,v 7 0,o 8 (.nilcheck (t 7)),o 9 (Fa 8 1),o 10 (Lq 9),v 11 1,v 12 2,o 13 (.build [.int .u8 0,.int .i64 0,.int .i64 0,.str [],.str [],.str [],.str []] [(0,1,t 11),(1,1,t 12)]),o 14 (.mkslice 7 1 [.int .u8 0,.int .i64 0,.int .i64 0,.str [],.str [],.str [],.str []] [(0,7,t 13)]),o 15 (.append 7 88 (t 10) (t 14)),o 16 (.nilcheck (t 6)),o 17 (Fa 16 1),u (.store 1 (t 17) (t 15))],none⟩
def code151B0:ACode :=
 S (S (R [0,1,29,40] [o 41 (Bn .eql 29 0),v 40 41])
 (.after (.cond (t 40) (.skip) (R [0,1,29,40] [o 42 (Bn .eql 29 1),v 40 42])) [0,1,29,40]))
 (.after (.cond (t 40) (R [] [v 43 0,v 44 0,o 45 (.nilcheck (t 44)),o 46 (Fa 45 0),o 47 (Lq 46),o 48 (.callg 102 [t 47,n 3]),o 49 (.callg 150 [t 43,.const (.int .u8 21),t 48])]) (S (R [0,1,29,50] [o 51 (Bn .eql 29 2),v 50 51])
 (.after (.cond (t 50) (R [] [v 52 0,v 53 0,o 54 (.nilcheck (t 53)),o 55 (Fa 54 0),o 56 (Lq 55),o 57 (.callg 102 [t 56,n 256]),o 58 (Bn .sub 57 100),o 59 (.callg 153 [t 52,t 58])]) (S (R [0,1,29,60] [o 61 (Bn .eql 29 3),v 60 61])
 (.after (.cond (t 60) (R [] [v 62 0,o 63 (.callg 154 [t 62,.const (.int .u8 178),Ks [77,97,105,110],Ks [115],Ks [73]])]) (S (S (R [0,1,29,64] [o 65 (Bn .eql 29 4),v 64 65])
 (.after (.cond (t 64) (.skip) (S (R [0,1,29,64] [o 66 (Bn .eql 29 5),v 64 66])
 (.after (.cond (t 64) (.skip) (S (R [0,1,29,64] [o 67 (Bn .eql 29 6),v 64 67])
 (.after (.cond (t 64) (.skip) (R [0,1,29,64] [o 68 (Bn .eql 29 7),v 64 68])) [0,1,29,64]))) [0,1,29,64]))) [0,1,29,64]))
 (.after (.cond (t 64) (S (R [0,1] [v 69 0,v 70 1,o 71 (Bn .sub 70 1),o 72 (.callg 151 [t 69,t 71])])
 (S (R [0] [v 73 0,v 74 1,o 75 (Bn .sub 74 1),o 76 (.callg 151 [t 73,t 75])])
 (R [] [v 77 0,o 78 (.mkslice 1 10 [.int .u8 0,.int .u8 0,.int .u8 0,.int .u8 0,.int .u8 0,.int .u8 0,.int .u8 0,.int .u8 0,.int .u8 0,.int .u8 0] [(0,1,.const (.int .u8 96)),(1,1,.const (.int .u8 100)),(2,1,.const (.int .u8 104)),(3,1,.const (.int .u8 108)),(4,1,.const (.int .u8 126)),(5,1,.const (.int .u8 130)),(6,1,.const (.int .u8 120)),(7,1,.const (.int .u8 112)),(8,1,.const (.int .u8 128)),(9,1,.const (.int .u8 124))]),v 79 0,o 80 (.nilcheck (t 79)),o 81 (Fa 80 0),o 82 (Lq 81),o 83 (.callg 102 [t 82,n 10]),o 84 (.iaddr 1 (t 78) (t 83)),o 85 (Lq 84),o 86 (.callg 150 [t 77,t 85,n 0])]))) (S (R [0,1,29,87] [o 88 (Bn .eql 29 8),v 87 88])
 (.after (.cond (t 87) (S (R [0] [v 89 0,v 90 1,o 91 (Bn .sub 90 1),o 92 (.callg 183 [t 89,t 91])])
 (R [] [v 93 0,o 94 (.callg 150 [t 93,.const (.int .u8 136),n 0])])) (S (R [0,1,29,95] [o 96 (Bn .eql 29 9),v 95 96])
 (.after (.cond (t 95) (S (R [0,1] [v 97 0,o 98 (.callg 150 [t 97,.const (.int .u8 25),n 6])])
 (S (R [0] [v 99 0,v 100 1,o 101 (Bn .sub 100 1),o 102 (.callg 151 [t 99,t 101])])
 (R [] [v 103 0,o 104 (.callg 150 [t 103,.const (.int .u8 46),n 0])]))) (S (R [0,1,29,105] [o 106 (Bn .eql 29 10),v 105 106])
 (.after (.cond (t 105) (S (R [0] [v 107 0,o 108 (.callg 150 [t 107,.const (.int .u8 25),n 5])])
 (R [] [v 109 0,o 110 (.callg 154 [t 109,.const (.int .u8 180),Ks [65],Ks [102],Ks [73]])])) (S (R [0,1,29,111] [o 112 (Bn .eql 29 11),v 111 112])
 (.after (.cond (t 111) (S (R [0,1] [v 113 0,o 114 (.callg 150 [t 113,.const (.int .u8 25),n 5])])
 (S (R [0] [v 115 0,v 116 1,o 117 (Bn .sub 116 1),o 118 (.callg 151 [t 115,t 117])])
 (R [] [v 119 0,o 120 (.callg 154 [t 119,.const (.int .u8 182),Ks [65],Ks [118],Ks [40,73,41,73]])]))) (S (R [0,1,29,121] [o 122 (Bn .eql 29 12),v 121 122])
 (.after (.cond (t 121) (S (R [0] [v 123 0,v 124 1,o 125 (Bn .sub 124 1),o 126 (.callg 151 [t 123,t 125])])
 (R [] [v 127 0,o 128 (.callg 154 [t 127,.const (.int .u8 184),Ks [77,97,105,110],Ks [104,101,108,112],Ks [40,73,41,73]])])) (S (R [0,1,29,129] [o 130 (Bn .eql 29 13),v 129 130])
 (.after (.cond (t 129) (S (R [0] [v 131 0,v 132 0,o 133 (.nilcheck (t 132)),o 134 (Fa 133 0),o 135 (Lq 134),o 136 (.callg 102 [t 135,n 2]),o 137 (.bin .add (n 6) (t 136)),o 138 (.callg 150 [t 131,.const (.int .u8 25),t 137])])
 (R [] [v 139 0,o 140 (.callg 150 [t 139,.const (.int .u8 190),n 0])])) (S (R [0,1,141] [o 142 (Bn .eql 29 14),v 141 142])
 (.after (.cond (t 141) (S (R [0] [v 143 0,o 144 (.callg 150 [t 143,.const (.int .u8 25),n 5])])
 (R [] [v 145 0,v 146 0,o 147 (.nilcheck (t 146)),o 148 (Fa 147 1),o 149 (Lq 148),o 150 (.build [.int .u8 0,.int .i64 0,.int .i64 0,.str [],.str [],.str [],.str []] [(0,1,.const (.int .u8 193)),(3,1,Ks [66])]),o 151 (.mkslice 7 1 [.int .u8 0,.int .i64 0,.int .i64 0,.str [],.str [],.str [],.str []] [(0,7,t 150)]),o 152 (.append 7 88 (t 149) (t 151)),o 153 (.nilcheck (t 145)),o 154 (Fa 153 1),u (.store 1 (t 154) (t 152))])) (S (R [0,1] [v 30 0,v 31 1,o 32 (Bn .sub 31 1),o 33 (.callg 183 [t 30,t 32])])
 (S (R [0] [v 34 0,v 35 1,o 36 (Bn .sub 35 1),o 37 (.callg 183 [t 34,t 36])])
 (R [] [v 38 0,o 39 (.callg 150 [t 38,.const (.int .u8 148),n 0])])))) []))) []))) []))) []))) []))) []))) []))) []))) []))) []))) [])
def code151:AFunc:=⟨false,false,2,155,[],
 S (R [0,1] [v 5 0,v 6 0,o 7 (.nilcheck (t 6)),o 8 (Fa 7 5),o 9 (Lq 8),o 10 (Bn .sub 9 1),o 11 (.nilcheck (t 5)),o 12 (Fa 11 5),u (.store 1 (t 12) (t 10))])
 (S (R [0,1,4] [v 13 0,o 14 (.nilcheck (t 13)),o 15 (Fa 14 0),o 16 (Lq 15),o 17 (.callg 102 [t 16,n 16]),v 4 17])
 (S (S (R [0,1,4,26] [v 18 1,o 19 (Bn .leq 18 0),v 20 19,g 21 20 false (Vl 0),g 22 20 false (.nilcheck (t 21)),g 23 20 false (Fa 22 5),g 24 20 false (Lq 23),g 25 20 false (Bn .leq 24 0),o 26 (.pick (t 20) Y (t 25))])
 (.after (.cond (t 26) (R [0,1,4] [v 27 4,o 28 (Bn .rem 27 4),v 4 28]) (.skip)) [0,1,4]))
 (S (R [0,1,29] [v 29 4])
 (.after (.block 0 code151B0) [])))),none⟩
def code152R0:ACode :=
 .after (.region [⟨true,[0,0,2,6,14,0,32,96,224,480,0,1024,3072,7168,16352,32736,65504,131040,262142],[v 17 0,v 18 0,o 19 (.nilcheck (t 18)),o 20 (Fa 19 1),o 21 (Lq 20),v 22 0,o 23 (.nilcheck (t 22)),o 24 (Fa 23 0),o 25 (Lq 24),o 26 (.callg 102 [t 25,n 3]),v 27 0,o 28 (.nilcheck (t 27)),o 29 (Fa 28 0),o 30 (Lq 29),o 31 (.callg 102 [t 30,n 9]),o 32 (Bn .sub 31 4),o 33 (.build [.int .u8 0,.int .i64 0,.int .i64 0,.str [],.str [],.str [],.str []] [(0,1,.const (.int .u8 132)),(1,1,t 26),(2,1,t 32)]),o 34 (.mkslice 7 1 [.int .u8 0,.int .i64 0,.int .i64 0,.str [],.str [],.str [],.str []] [(0,7,t 33)]),o 35 (.append 7 88 (t 21) (t 34))]⟩,⟨false,[],[o 36 (.nilcheck (t 17)),o 37 (Fa 36 1),u (.store 1 (t 37) (t 35))]⟩]) []
def ia:ACode :=
 S (R [0,2,38] [v 39 0,o 40 (.nilcheck (t 39)),o 41 (Fa 40 5),o 42 (Lq 41),o 43 (Bn .leq 42 0),v 44 43,g 45 44 false (Vl 2),g 46 44 false (Bn .lss 45 2),o 47 (.pick (t 44) Y (t 46)),v 38 47])
 (.after (.cond (t 38) (S (R [0] [v 48 0,o 49 (.callg 151 [t 48,n 2])])
 (R [] [v 50 0,v 51 0,o 52 (.nilcheck (t 51)),o 53 (Fa 52 0),o 54 (Lq 53),o 55 (.callg 102 [t 54,n 2]),o 56 (.bin .add (n 1) (t 55)),o 57 (.callg 150 [t 50,.const (.int .u8 54),t 56])])) (S (R [0,2,58] [v 59 2,o 60 (Bn .eql 59 2),v 58 60])
 (.after (.cond (t 58) (S (R [0] [v 61 0,o 62 (.callg 151 [t 61,n 2])])
 (R [] [v 63 0,o 64 (.callg 154 [t 63,.const (.int .u8 184),Ks [115,121,115],Ks [112,114,105,110,116],Ks [40,73,41,86]])])) (S (R [0,2,65] [v 66 2,o 67 (Bn .eql 66 3),v 65 67])
 (.after (.cond (t 65) (S (R [0] [v 68 0,o 69 (.callg 183 [t 68,n 2])])
 (R [] [v 70 0,o 71 (.callg 150 [t 70,.const (.int .u8 55),n 3])])) (S (R [0,2,72] [v 73 2,o 74 (Bn .eql 73 4),v 72 74])
 (.after (.cond (t 72) (S (R [0] [v 75 0,o 76 (.callg 184 [t 75])])
 (R [] [v 77 0,o 78 (.callg 150 [t 77,.const (.int .u8 58),n 5])])) (S (R [0,2,79] [v 80 2,o 81 (Bn .eql 80 5),v 79 81])
 (.after (.cond (t 79) (S (R [0] [v 82 0,o 83 (.callg 150 [t 82,.const (.int .u8 25),n 5])])
 (S (R [0] [v 84 0,o 85 (.callg 151 [t 84,n 1])])
 (R [] [v 86 0,o 87 (.callg 154 [t 86,.const (.int .u8 181),Ks [65],Ks [102],Ks [73]])]))) (S (R [0,2,88] [v 89 2,o 90 (Bn .eql 89 6),v 88 90])
 (.after (.cond (t 88) (S (R [0] [v 91 0,o 92 (.callg 151 [t 91,n 1])])
 (R [] [v 93 0,o 94 (.callg 154 [t 93,.const (.int .u8 179),Ks [77,97,105,110],Ks [115],Ks [73]])])) (S (R [0,2,95] [v 96 2,o 97 (Bn .eql 96 7),v 95 97])
 (.after (.cond (t 95) (S (R [0] [v 98 0,o 99 (.callg 151 [t 98,n 1])])
 (S (R [0,3] [v 100 0,o 101 (.nilcheck (t 100)),o 102 (Fa 101 0),o 103 (Lq 102),o 104 (.callg 102 [t 103,n 2]),v 3 104])
 (S (R [0,3] [v 105 0,v 106 3,o 107 (.bin .mul (n 2) (t 106)),o 108 (.bin .sub (n 10) (t 107)),o 109 (.callg 150 [t 105,.const (.int .u8 188),t 108])])
 (R [] [v 110 0,v 111 3,o 112 (.bin .add (n 6) (t 111)),o 113 (.callg 150 [t 110,.const (.int .u8 58),t 112])])))) (S (R [0,2,114] [v 115 2,o 116 (Bn .eql 115 8),v 114 116])
 (.after (.cond (t 114) (S (R [0] [v 117 0,o 118 (.callg 150 [t 117,.const (.int .u8 25),n 6])])
 (S (R [0] [v 119 0,o 120 (.callg 151 [t 119,n 1])])
 (S (R [0] [v 121 0,o 122 (.callg 151 [t 121,n 1])])
 (R [] [v 123 0,o 124 (.callg 150 [t 123,.const (.int .u8 79),n 0])])))) (S (R [0,2,125] [v 126 2,o 127 (Bn .eql 126 9),v 128 127,g 129 128 true (Vl 0),g 130 128 true (.nilcheck (t 129)),g 131 128 true (Fa 130 4),g 132 128 true (Lq 131),g 133 128 true (Bn .lss 132 3),o 134 (.pick (t 128) (t 133) F),v 125 134])
 (.after (.cond (t 125) (R [] [v 135 0,o 136 (.callg 185 [t 135])]) (S (R [0,2,137] [v 138 2,o 139 (Bn .eql 138 10),v 140 139,g 141 140 true (Vl 0),g 142 140 true (.nilcheck (t 141)),g 143 140 true (Fa 142 4),g 144 140 true (Lq 143),g 145 140 true (Bn .lss 144 3),o 146 (.pick (t 140) (t 145) F),v 137 146])
 (.after (.cond (t 137) (R [] [v 147 0,o 148 (.callg 186 [t 147])]) (S (R [0,2,149] [v 150 2,o 151 (Bn .eql 150 11),v 152 151,g 153 152 true (Vl 0),g 154 152 true (.nilcheck (t 153)),g 155 152 true (Fa 154 4),g 156 152 true (Lq 155),g 157 152 true (Bn .lss 156 3),o 158 (.pick (t 152) (t 157) F),v 149 158])
 (.after (.cond (t 149) (R [] [v 159 0,o 160 (.callg 187 [t 159])]) (S (R [0,2,161] [v 162 2,o 163 (Bn .eql 162 12),v 161 163])
 (.after (.cond (t 161) (R [] [v 164 0,o 165 (.callg 188 [t 164])]) (S (R [0,2,166] [v 167 2,o 168 (Bn .eql 167 13),v 166 168])
 (.after (.cond (t 166) (S (R [0] [v 169 0,v 170 0,o 171 (.nilcheck (t 170)),o 172 (Fa 171 1),o 173 (Lq 172),o 174 (.build [.int .u8 0,.int .i64 0,.int .i64 0,.str [],.str [],.str [],.str []] [(0,1,.const (.int .u8 18)),(5,1,Ks [83]),(6,1,Ks [104,105])]),o 175 (.mkslice 7 1 [.int .u8 0,.int .i64 0,.int .i64 0,.str [],.str [],.str [],.str []] [(0,7,t 174)]),o 176 (.append 7 88 (t 173) (t 175)),o 177 (.nilcheck (t 169)),o 178 (Fa 177 1),u (.store 1 (t 178) (t 176))])
 (R [] [v 179 0,o 180 (.callg 150 [t 179,.const (.int .u8 58),n 7])])) (S (R [0,181] [v 182 2,o 183 (Bn .eql 182 14),v 181 183])
 (.after (.cond (t 181) (S (R [0] [v 184 0,o 185 (.callg 150 [t 184,.const (.int .u8 25),n 7])])
 (R [] [v 186 0,o 187 (.callg 154 [t 186,.const (.int .u8 184),Ks [115,121,115],Ks [112,114,105,110,116,84,101,120,116],Ks [40,91,66,41,86]])])) (code152R0)) []))) []))) []))) []))) []))) []))) []))) []))) []))) []))) []))) []))) []))) [])
def code152:AFunc:=⟨false,false,1,188,[],
 S (R [0] [v 4 0,v 5 0,o 6 (.nilcheck (t 5)),o 7 (Fa 6 5),o 8 (Lq 7),o 9 (Bn .sub 8 1),o 10 (.nilcheck (t 4)),o 11 (Fa 10 5),u (.store 1 (t 11) (t 9))])
 (S (R [0,2] [v 12 0,o 13 (.nilcheck (t 12)),o 14 (Fa 13 0),o 15 (Lq 14),o 16 (.callg 102 [t 15,n 16]),v 2 16])
 (.after (.block 0 ia) [])),none⟩
def code153:AFunc:=⟨false,false,2,47,[],
 .after (.block 0 (S (R [0,1,15] [v 16 1,o 17 (.bin .geq (t 16) (.const (.int .i64 (-1)))),v 18 17,g 19 18 true (Vl 1),g 20 18 true (Bn .leq 19 5),o 21 (.pick (t 18) (t 20) F),v 15 21])
 (.after (.cond (t 15) (R [] [v 22 0,v 23 1,o 24 (.bin .add (n 3) (t 23)),o 25 (.conv (.int .u8) (t 24)),o 26 (.callg 150 [t 22,t 25,n 0])]) (S (R [0,1,27] [v 28 1,o 29 (.bin .geq (t 28) (.const (.int .i64 (-128)))),v 30 29,g 31 30 true (Vl 1),g 32 30 true (Bn .lss 31 128),o 33 (.pick (t 30) (t 32) F),v 27 33])
 (.after (.cond (t 27) (R [] [v 34 0,v 35 1,o 36 (.callg 150 [t 34,.const (.int .u8 16),t 35])]) (S (R [0,1,37] [v 38 1,o 39 (.bin .geq (t 38) (.const (.int .i64 (-32768)))),v 40 39,g 41 40 true (Vl 1),g 42 40 true (Bn .lss 41 32768),o 43 (.pick (t 40) (t 42) F),v 37 43])
 (.after (.cond (t 37) (R [] [v 44 0,v 45 1,o 46 (.callg 150 [t 44,.const (.int .u8 17),t 45])]) (R [] [v 4 0,v 5 0,o 6 (.nilcheck (t 5)),o 7 (Fa 6 1),o 8 (Lq 7),v 9 1,o 10 (.build [.int .u8 0,.int .i64 0,.int .i64 0,.str [],.str [],.str [],.str []] [(0,1,.const (.int .u8 18)),(5,1,Ks [73]),(1,1,t 9)]),o 11 (.mkslice 7 1 [.int .u8 0,.int .i64 0,.int .i64 0,.str [],.str [],.str [],.str []] [(0,7,t 10)]),o 12 (.append 7 88 (t 8) (t 11)),o 13 (.nilcheck (t 4)),o 14 (Fa 13 1),u (.store 1 (t 14) (t 12))])) []))) []))) []))) [],none⟩
def code154:AFunc:=⟨false,false,5,24,[],
 R [] [v 10 0,v 11 0,o 12 (.nilcheck (t 11)),o 13 (Fa 12 1),o 14 (Lq 13),v 15 1,v 16 2,v 17 3,v 18 4,o 19 (.build [.int .u8 0,.int .i64 0,.int .i64 0,.str [],.str [],.str [],.str []] [(0,1,t 15),(3,1,t 16),(4,1,t 17),(5,1,t 18)]),o 20 (.mkslice 7 1 [.int .u8 0,.int .i64 0,.int .i64 0,.str [],.str [],.str [],.str []] [(0,7,t 19)]),o 21 (.append 7 88 (t 14) (t 20)),o 22 (.nilcheck (t 10)),o 23 (Fa 22 1),u (.store 1 (t 23) (t 21))],none⟩
def code183B0:ACode :=
 S (R [0,1,4,16] [v 17 1,o 18 (Bn .gtr 17 0),v 19 18,g 20 19 true (Vl 4),g 21 19 true (Bn .lss 20 2),o 22 (.pick (t 19) (t 21) F),v 16 22])
 (.after (.cond (t 16) (S (R [0,1] [v 23 0,v 24 1,o 25 (Bn .sub 24 1),o 26 (.callg 183 [t 23,t 25])])
 (S (R [0] [v 27 0,v 28 1,o 29 (Bn .sub 28 1),o 30 (.callg 183 [t 27,t 29])])
 (R [] [v 31 0,o 32 (.mkslice 1 8 [.int .u8 0,.int .u8 0,.int .u8 0,.int .u8 0,.int .u8 0,.int .u8 0,.int .u8 0,.int .u8 0] [(0,1,.const (.int .u8 97)),(1,1,.const (.int .u8 101)),(2,1,.const (.int .u8 105)),(3,1,.const (.int .u8 109)),(4,1,.const (.int .u8 127)),(5,1,.const (.int .u8 131)),(6,1,.const (.int .u8 113)),(7,1,.const (.int .u8 129))]),v 33 0,o 34 (.nilcheck (t 33)),o 35 (Fa 34 0),o 36 (Lq 35),o 37 (.callg 102 [t 36,n 8]),o 38 (.iaddr 1 (t 32) (t 37)),o 39 (Lq 38),o 40 (.callg 150 [t 31,t 39,n 0])]))) (S (R [0,1,4,41] [v 42 1,o 43 (Bn .gtr 42 0),v 44 43,g 45 44 true (Vl 4),g 46 44 true (Bn .eql 45 2),o 47 (.pick (t 44) (t 46) F),v 41 47])
 (.after (.cond (t 41) (S (R [0,1] [v 48 0,v 49 1,o 50 (Bn .sub 49 1),o 51 (.callg 183 [t 48,t 50])])
 (S (R [0] [v 52 0,v 53 1,o 54 (Bn .sub 53 1),o 55 (.callg 151 [t 52,t 54])])
 (R [] [v 56 0,o 57 (.mkslice 1 3 [.int .u8 0,.int .u8 0,.int .u8 0] [(0,1,.const (.int .u8 121)),(1,1,.const (.int .u8 123)),(2,1,.const (.int .u8 125))]),v 58 0,o 59 (.nilcheck (t 58)),o 60 (Fa 59 0),o 61 (Lq 60),o 62 (.callg 102 [t 61,n 3]),o 63 (.iaddr 1 (t 57) (t 62)),o 64 (Lq 63),o 65 (.callg 150 [t 56,t 64,n 0])]))) (S (R [0,1,4,66] [v 67 4,o 68 (Bn .eql 67 3),v 66 68])
 (.after (.cond (t 66) (R [] [v 69 0,o 70 (.callg 150 [t 69,.const (.int .u8 22),n 3])]) (S (R [0,1,71] [v 72 4,o 73 (Bn .eql 72 4),v 71 73])
 (.after (.cond (t 71) (.after (.region [⟨true,[0,0,2,6,14,0,32,96,224,480,992,2016,4064,8160,16382],[v 74 0,v 75 0,o 76 (.nilcheck (t 75)),o 77 (Fa 76 1),o 78 (Lq 77),v 79 0,o 80 (.nilcheck (t 79)),o 81 (Fa 80 0),o 82 (Lq 81),o 83 (.callg 102 [t 82,n 256]),o 84 (.bin .shl (t 83) (.const (.int .u64 40))),o 85 (Bn .sub 84 5),o 86 (.build [.int .u8 0,.int .i64 0,.int .i64 0,.str [],.str [],.str [],.str []] [(0,1,.const (.int .u8 20)),(5,1,Ks [74]),(1,1,t 85)]),o 87 (.mkslice 7 1 [.int .u8 0,.int .i64 0,.int .i64 0,.str [],.str [],.str [],.str []] [(0,7,t 86)]),o 88 (.append 7 88 (t 78) (t 87))]⟩,⟨false,[],[o 89 (.nilcheck (t 74)),o 90 (Fa 89 1),u (.store 1 (t 90) (t 88))]⟩]) []) (S (R [0] [v 10 0,v 11 1,o 12 (Bn .sub 11 1),o 13 (.callg 151 [t 10,t 12])])
 (R [] [v 14 0,o 15 (.callg 150 [t 14,.const (.int .u8 133),n 0])]))) []))) []))) []))) [])
def code183:AFunc:=⟨false,false,2,91,[],
 S (R [0,1,4] [v 5 0,o 6 (.nilcheck (t 5)),o 7 (Fa 6 0),o 8 (Lq 7),o 9 (.callg 102 [t 8,n 6]),v 4 9])
 (.after (.block 0 code183B0) []),none⟩
def code184B0:ACode :=
 S (R [0,6,17] [o 18 (Bn .eql 6 0),v 17 18])
 (.after (.cond (t 17) (R [] [v 19 0,o 20 (.callg 150 [t 19,.const (.int .u8 1),n 0])]) (S (R [0,6,21] [o 22 (Bn .eql 6 1),v 21 22])
 (.after (.cond (t 21) (R [] [v 23 0,v 24 0,o 25 (.nilcheck (t 24)),o 26 (Fa 25 1),o 27 (Lq 26),o 28 (.build [.int .u8 0,.int .i64 0,.int .i64 0,.str [],.str [],.str [],.str []] [(0,1,.const (.int .u8 187)),(3,1,Ks [66])]),o 29 (.mkslice 7 1 [.int .u8 0,.int .i64 0,.int .i64 0,.str [],.str [],.str [],.str []] [(0,7,t 28)]),o 30 (.append 7 88 (t 27) (t 29)),o 31 (.nilcheck (t 23)),o 32 (Fa 31 1),u (.store 1 (t 32) (t 30))]) (S (R [0,33] [o 34 (Bn .eql 6 2),v 33 34])
 (.after (.cond (t 33) (S (R [0] [v 35 0,o 36 (.callg 150 [t 35,.const (.int .u8 25),n 5])])
 (R [] [v 37 0,v 38 0,o 39 (.nilcheck (t 38)),o 40 (Fa 39 1),o 41 (Lq 40),o 42 (.build [.int .u8 0,.int .i64 0,.int .i64 0,.str [],.str [],.str [],.str []] [(0,1,.const (.int .u8 192)),(3,1,Ks [66])]),o 43 (.mkslice 7 1 [.int .u8 0,.int .i64 0,.int .i64 0,.str [],.str [],.str [],.str []] [(0,7,t 42)]),o 44 (.append 7 88 (t 41) (t 43)),o 45 (.nilcheck (t 37)),o 46 (Fa 45 1),u (.store 1 (t 46) (t 44))])) (R [] [v 7 0,v 8 0,o 9 (.nilcheck (t 8)),o 10 (Fa 9 1),o 11 (Lq 10),o 12 (.build [.int .u8 0,.int .i64 0,.int .i64 0,.str [],.str [],.str [],.str []] [(0,1,.const (.int .u8 187)),(3,1,Ks [65])]),o 13 (.mkslice 7 1 [.int .u8 0,.int .i64 0,.int .i64 0,.str [],.str [],.str [],.str []] [(0,7,t 12)]),o 14 (.append 7 88 (t 11) (t 13)),o 15 (.nilcheck (t 7)),o 16 (Fa 15 1),u (.store 1 (t 16) (t 14))])) []))) []))) [])
def code184:AFunc:=⟨false,false,1,47,[],
 S (R [0,6] [v 2 0,o 3 (.nilcheck (t 2)),o 4 (Fa 3 0),o 5 (Lq 4),o 6 (.callg 102 [t 5,n 5])])
 (.after (.block 0 code184B0) []),none⟩
def code185R0:ACode :=
 .after (.region [⟨true,[0,1,3,7,0,0,32],[v 20 0,o 21 (.nilcheck (t 20)),o 22 (Fa 21 1),o 23 (Lq 22),v 24 2,v 25 0,o 26 (.callg 100208 [t 25,.const (.slice none 0 (some 0))])]⟩,⟨false,[],[o 27 (.iaddr 7 (t 23) (t 24)),o 28 (Fa 27 1),u (.store 1 (t 28) (t 26))]⟩]) [0,3]
def code185R1:ACode :=
 .after (.region [⟨true,[0,1,3,7,0,0,32],[v 31 0,o 32 (.nilcheck (t 31)),o 33 (Fa 32 1),o 34 (Lq 33),v 35 3,v 36 0,o 37 (.callg 100208 [t 36,.const (.slice none 0 (some 0))])]⟩,⟨false,[],[o 38 (.iaddr 7 (t 34) (t 35)),o 39 (Fa 38 1),u (.store 1 (t 39) (t 37))]⟩]) []
def code185:AFunc:=⟨false,false,1,40,[],
 S (R [0] [v 4 0,o 5 (.callg 151 [t 4,n 1])])
 (S (R [0,2] [v 6 0,o 7 (.mkslice 1 6 [.int .u8 0,.int .u8 0,.int .u8 0,.int .u8 0,.int .u8 0,.int .u8 0] [(0,1,.const (.int .u8 153)),(1,1,.const (.int .u8 154)),(2,1,.const (.int .u8 155)),(3,1,.const (.int .u8 156)),(4,1,.const (.int .u8 157)),(5,1,.const (.int .u8 158))]),v 8 0,o 9 (.nilcheck (t 8)),o 10 (Fa 9 0),o 11 (Lq 10),o 12 (.callg 102 [t 11,n 6]),o 13 (.iaddr 1 (t 7) (t 12)),o 14 (Lq 13),o 15 (.callg 210 [t 6,t 14]),v 2 15])
 (S (R [0,2] [v 16 0,o 17 (.callg 209 [t 16])])
 (S (R [0,2,3] [v 18 0,o 19 (.callg 210 [t 18,.const (.int .u8 167)]),v 3 19])
 (S (code185R0)
 (S (R [0,3] [v 29 0,o 30 (.callg 209 [t 29])])
 (code185R1)))))),none⟩
def code186R0:ACode :=
 .after (.region [⟨true,[0,1,3,7,0,0,32],[v 34 0,o 35 (.nilcheck (t 34)),o 36 (Fa 35 1),o 37 (Lq 36),v 38 3,v 39 0,o 40 (.callg 100208 [t 39,.const (.slice none 0 (some 0))])]⟩,⟨false,[],[o 41 (.iaddr 7 (t 37) (t 38)),o 42 (Fa 41 1),u (.store 1 (t 42) (t 40))]⟩]) []
def code186:AFunc:=⟨false,false,1,43,[],
 S (R [0] [v 4 0,v 5 0,o 6 (.nilcheck (t 5)),o 7 (Fa 6 0),o 8 (Lq 7),o 9 (.callg 102 [t 8,n 5]),o 10 (.callg 153 [t 4,t 9])])
 (S (R [0] [v 11 0,o 12 (.callg 150 [t 11,.const (.int .u8 54),n 2])])
 (S (R [0,2] [v 13 0,o 14 (.callg 100208 [t 13,.const (.slice none 0 (some 0))]),v 2 14])
 (S (R [0,2] [v 15 0,o 16 (.callg 150 [t 15,.const (.int .u8 21),n 2])])
 (S (R [0,2,3] [v 17 0,o 18 (.callg 210 [t 17,.const (.int .u8 158)]),v 3 18])
 (S (R [0,2,3] [v 19 0,o 20 (.callg 209 [t 19])])
 (S (R [0,2,3] [v 21 0,v 22 0,o 23 (.nilcheck (t 22)),o 24 (Fa 23 1),o 25 (Lq 24),o 26 (.build [.int .u8 0,.int .i64 0,.int .i64 0,.str [],.str [],.str [],.str []] [(0,1,.const (.int .u8 132)),(1,1,n 2),(2,1,.const (.int .i64 (-1)))]),o 27 (.mkslice 7 1 [.int .u8 0,.int .i64 0,.int .i64 0,.str [],.str [],.str [],.str []] [(0,7,t 26)]),o 28 (.append 7 88 (t 25) (t 27)),o 29 (.nilcheck (t 21)),o 30 (Fa 29 1),u (.store 1 (t 30) (t 28))])
 (S (R [0,3] [v 31 0,v 32 2,o 33 (.callg 150 [t 31,.const (.int .u8 167),t 32])])
 (code186R0)))))))),none⟩
def code187T0:ACode :=
 S (S (R [0,2,3,4,5,7,8,77] [v 76 3,o 77 (Bn .geq 76 0)])
 (.after (.cond (t 77) (R [0,2,4,5,7] [v 78 0,o 79 (.nilcheck (t 78)),o 80 (Fa 79 1),o 81 (Lq 80),v 82 3,v 83 8,o 84 (.iaddr 7 (t 81) (t 82)),o 85 (Fa 84 1),u (.store 1 (t 85) (t 83))]) (.skip)) [0,2,4,5,7]))
 (R [] [v 86 0,v 87 0,o 88 (.nilcheck (t 87)),o 89 (Fa 88 2),o 90 (Lq 89),v 91 2,v 92 4,v 93 7,v 94 5,o 95 (.build [.int .i64 0,.int .i64 0,.int .i64 0,.str []] [(0,1,t 91),(1,1,t 92),(2,1,t 93),(3,1,t 94)]),o 96 (.mkslice 4 1 [.int .i64 0,.int .i64 0,.int .i64 0,.str []] [(0,4,t 95)]),o 97 (.append 4 40 (t 90) (t 96)),o 98 (.nilcheck (t 86)),o 99 (Fa 98 2),u (.store 1 (t 99) (t 97))])
def code187T1:ACode :=
 S (R [0,2,3,4,5] [o 53 (.mkslice 1 5 [.str [],.str [],.str [],.str [],.str []] [(0,1,Ks []),(1,1,Ks [84,104,114,111,119,97,98,108,101]),(2,1,Ks [77,97,116,104,70,97,117,108,116]),(3,1,Ks [79,111,112,115]),(4,1,Ks [78,117,108,108,70,97,117,108,116])]),v 54 0,o 55 (.nilcheck (t 54)),o 56 (Fa 55 0),o 57 (Lq 56),o 58 (.callg 102 [t 57,n 5]),o 59 (.iaddr 1 (t 53) (t 58)),o 60 (Lq 59),v 5 60])
 (S (R [0,2,3,4,5,6] [v 61 5,v 6 61])
 (S (S (R [0,2,3,4,5,6,63] [v 62 6,o 63 (.bin .eql (t 62) (Ks []))])
 (.after (.cond (t 63) (R [0,2,3,4,5,6] [o 6 (.val (Ks [84,104,114,111,119,97,98,108,101]))]) (.skip)) [0,2,3,4,5,6]))
 (S (R [0,2,3,4,5,7] [v 64 0,v 65 6,o 66 (.bin .add (Ks [76]) (t 65)),o 67 (.bin .add (t 66) (Ks [59])),o 68 (.mkslice 1 1 [.str []] [(0,1,t 67)]),o 69 (.callg 100208 [t 64,t 68]),v 7 69])
 (S (R [0,2,3,4,5,7] [v 70 0,o 71 (.callg 150 [t 70,.const (.int .u8 87),n 0])])
 (S (R [0,2,3,4,5,7] [v 72 0,o 73 (.callg 209 [t 72])])
 (S (R [0,2,3,4,5,7,8] [v 74 0,o 75 (.callg 100208 [t 74,.const (.slice none 0 (some 0))]),v 8 75])
 (code187T0)))))))
def code187T2:ACode :=
 S (R [0,2,3,4] [v 36 0,o 37 (.nilcheck (t 36)),o 38 (Fa 37 1),o 39 (Lq 38),o 40 (Sl 39),v 4 40])
 (S (S (R [0,2,3,4,50] [v 41 0,o 42 (.nilcheck (t 41)),o 43 (Fa 42 1),o 44 (Lq 43),v 45 4,o 46 (Bn .sub 45 1),o 47 (.iaddr 7 (t 44) (t 46)),o 48 (Fa 47 0),o 49 (Lq 48),o 50 (.bin .eql (t 49) (.const (.int .u8 0)))])
 (.after (.cond (t 50) (R [0,2,3,4] [v 51 0,o 52 (.callg 210 [t 51,.const (.int .u8 167)]),v 3 52]) (.skip)) [0,2,3,4]))
 (code187T1))
def code187:AFunc:=⟨false,false,1,100,[],
 S (R [0,2] [v 9 0,o 10 (.nilcheck (t 9)),o 11 (Fa 10 1),o 12 (Lq 11),o 13 (Sl 12),v 2 13])
 (S (R [0,2] [v 14 0,o 15 (.callg 209 [t 14])])
 (S (R [0,2,3] [o 3 (.val (.const (.int .i64 (-1))))])
 (S (S (R [0,2,3,21] [v 16 0,o 17 (.nilcheck (t 16)),o 18 (Fa 17 0),o 19 (Lq 18),o 20 (.callg 102 [t 19,n 3]),o 21 (Bn .eql 20 1)])
 (.after (.cond (t 21) (S (R [0,2,3] [v 22 0,v 23 0,o 24 (.nilcheck (t 23)),o 25 (Fa 24 1),o 26 (Lq 25),o 27 (.build [.int .u8 0,.int .i64 0,.int .i64 0,.str [],.str [],.str [],.str []] [(0,1,.const (.int .u8 187)),(3,1,Ks [79,111,112,115])]),o 28 (.mkslice 7 1 [.int .u8 0,.int .i64 0,.int .i64 0,.str [],.str [],.str [],.str []] [(0,7,t 27)]),o 29 (.append 7 88 (t 26) (t 28)),o 30 (.nilcheck (t 22)),o 31 (Fa 30 1),u (.store 1 (t 31) (t 29))])
 (R [0,2,3] [v 32 0,o 33 (.callg 150 [t 32,.const (.int .u8 191),n 0])])) (R [0,2,3] [v 34 0,o 35 (.callg 150 [t 34,.const (.int .u8 0),n 0])])) [0,2,3]))
 (code187T2)))),none⟩
def code188B0:ACode :=
 S (R [0,6,11] [o 12 (Bn .eql 6 0),v 11 12])
 (.after (.cond (t 11) (S (R [0] [v 13 0,o 14 (.callg 150 [t 13,.const (.int .u8 25),n 7])])
 (S (R [0] [v 15 0,o 16 (.callg 154 [t 15,.const (.int .u8 184),Ks [115,121,115],Ks [97,100,100],Ks [40,91,66,41,73]])])
 (R [] [v 17 0,o 18 (.callg 150 [t 17,.const (.int .u8 54),n 1])]))) (S (R [0,6,19] [o 20 (Bn .eql 6 1),v 19 20])
 (.after (.cond (t 19) (S (R [0] [v 21 0,o 22 (.callg 151 [t 21,n 1])])
 (S (R [0] [v 23 0,o 24 (.callg 154 [t 23,.const (.int .u8 184),Ks [115,121,115],Ks [103,101,116],Ks [40,73,41,91,66]])])
 (R [] [v 25 0,o 26 (.callg 150 [t 25,.const (.int .u8 58),n 7])]))) (S (R [0,27] [o 28 (Bn .eql 6 2),v 27 28])
 (.after (.cond (t 27) (S (R [0] [v 29 0,o 30 (.callg 151 [t 29,n 1])])
 (S (R [0] [v 31 0,o 32 (.callg 150 [t 31,.const (.int .u8 25),n 7])])
 (R [] [v 33 0,o 34 (.callg 154 [t 33,.const (.int .u8 184),Ks [115,121,115],Ks [115,101,116],Ks [40,73,91,66,41,86]])]))) (S (R [0] [v 7 0,o 8 (.callg 154 [t 7,.const (.int .u8 184),Ks [115,121,115],Ks [99,111,117,110,116],Ks [40,41,73]])])
 (R [] [v 9 0,o 10 (.callg 150 [t 9,.const (.int .u8 54),n 1])]))) []))) []))) [])
def code188:AFunc:=⟨false,false,1,35,[],
 S (R [0,6] [v 2 0,o 3 (.nilcheck (t 2)),o 4 (Fa 3 0),o 5 (Lq 4),o 6 (.callg 102 [t 5,n 4])])
 (.after (.block 0 code188B0) []),none⟩
def code209L0:ACode :=
 .live [0,2] (S (S (R [0,2,18] [v 17 2,o 18 (Bn .gtr 17 0)])
 (.after (.cond (t 18) (.skip) (.live [0] (.exit 0))) [0,2]))
 (S (.after (.block 1 (R [0,2] [v 21 0,o 22 (.callg 152 [t 21])])) [0,2])
 (R [0,2] [v 19 2,o 20 (Bn .sub 19 1),v 2 20])))
def code209:AFunc:=⟨false,false,1,31,[],
 S (R [0] [v 3 0,v 4 0,o 5 (.nilcheck (t 4)),o 6 (Fa 5 4),o 7 (Lq 6),o 8 (Bn .add 7 1),o 9 (.nilcheck (t 3)),o 10 (Fa 9 4),u (.store 1 (t 10) (t 8))])
 (S (S (R [0,2] [v 11 0,o 12 (.nilcheck (t 11)),o 13 (Fa 12 0),o 14 (Lq 13),o 15 (.callg 102 [t 14,n 3]),o 16 (.bin .add (n 1) (t 15)),v 2 16])
 (.after (.block 0 (.loop code209L0)) [0]))
 (R [] [v 23 0,v 24 0,o 25 (.nilcheck (t 24)),o 26 (Fa 25 4),o 27 (Lq 26),o 28 (Bn .sub 27 1),o 29 (.nilcheck (t 23)),o 30 (Fa 29 4),u (.store 1 (t 30) (t 28))])),none⟩
def code210:AFunc:=⟨false,false,2,14,[.tmp 4],
 S (R [0,1] [o 4 (.val (n 0))])
 (S (R [0] [v 5 0,v 6 1,o 7 (.callg 150 [t 5,t 6,n 0])])
 (S (R [4] [v 8 0,o 9 (.nilcheck (t 8)),o 10 (Fa 9 1),o 11 (Lq 10),o 12 (Sl 11),o 13 (Bn .sub 12 1),v 4 13])
 (Z [4]))),none⟩
def code222:AFunc:=⟨false,false,0,2,[.tmp 0],
 S (R [] [o 0 (.val (.const (.slice none 0 (some 0))))])
 (S (R [0] [o 1 (.mkslice 1 7 [.str [],.str [],.str [],.str [],.str [],.str [],.str []] [(0,1,Ks [73]),(1,1,Ks [73]),(2,1,Ks [73]),(3,1,Ks [74]),(4,1,Ks [76,65,59]),(5,1,Ks [91,73]),(6,1,Ks [91,66])]),v 0 1])
 (Z [0])),none⟩
def code100208:AFunc:=⟨false,false,2,47,[.tmp 4],
 S (R [0,1] [o 4 (.val (n 0))])
 (S (R [0,1,5] [v 7 0,o 8 (.nilcheck (t 7)),o 9 (Fa 8 1),o 10 (Lq 9),o 11 (Sl 10),v 5 11])
 (S (S (R [0,1,5,6] [v 12 0,o 13 (.nilcheck (t 12)),o 14 (Fa 13 3),o 15 (Lq 14),o 16 (Sl 15),v 6 16])
 (S (R [0,1,5,31] [v 17 6,o 18 (Bn .gtr 17 0),v 19 18,g 20 19 true (Vl 0),g 21 19 true (.nilcheck (t 20)),g 22 19 true (Fa 21 3),g 23 19 true (Lq 22),g 24 19 true (Vl 6),g 25 19 true (Bn .sub 24 1),g 26 19 true (.iaddr 3 (t 23) (t 25)),g 27 19 true (Fa 26 0),g 28 19 true (Lq 27),g 29 19 true (Vl 5),g 30 19 true (Bt .eql 28 29),o 31 (.pick (t 19) (t 30) F)])
 (.after (.cond (t 31) (S (R [4] [v 32 5,v 4 32])
 (Z [4])) (.skip)) [0,1,5])))
 (S (.after (.region [⟨true,[0,0,2,6,14,0,0,0,224,480,1022],[v 33 0,v 34 0,o 35 (.nilcheck (t 34)),o 36 (Fa 35 3),o 37 (Lq 36),v 38 5,o 39 (.callg 222 []),v 40 1,o 41 (.build [.int .i64 0,.slice none 0 (some 0),.slice none 0 (some 0)] [(0,1,t 38),(1,1,t 39),(2,1,t 40)]),o 42 (.mkslice 3 1 [.int .i64 0,.slice none 0 (some 0),.slice none 0 (some 0)] [(0,3,t 41)]),o 43 (.append 3 56 (t 37) (t 42))]⟩,⟨false,[],[o 44 (.nilcheck (t 33)),o 45 (Fa 44 3),u (.store 1 (t 45) (t 43))]⟩]) [5])
 (S (R [4] [v 46 5,v 4 46])
 (Z [4]))))),none⟩
def T:Nat→Option AFunc:=fun g=>match Zh.T g with
 | some f=>some f
 | none=>List.lookup g [(48,code48),(101,code101),(102,code102),(150,code150),(151,code151),(152,code152),(153,code153),(154,code154),(183,code183),(184,code184),(185,code185),(186,code186),(187,code187),(188,code188),(209,code209),(210,code210),(222,code222),(100208,code100208)]
theorem sub:∀ g f,Zh.T g=some f→T g=some f:=fun g f h=>by unfold T; rw [h]
theorem t48:T 48=some code48:=rfl
theorem t101:T 101=some code101:=rfl
theorem t102:T 102=some code102:=rfl
theorem t150:T 150=some code150:=rfl
theorem t151:T 151=some code151:=rfl
theorem t152:T 152=some code152:=rfl
theorem t153:T 153=some code153:=rfl
theorem t154:T 154=some code154:=rfl
theorem t183:T 183=some code183:=rfl
theorem t184:T 184=some code184:=rfl
theorem t185:T 185=some code185:=rfl
theorem t186:T 186=some code186:=rfl
theorem t187:T 187=some code187:=rfl
theorem t188:T 188=some code188:=rfl
theorem t209:T 209=some code209:=rfl
theorem t210:T 210=some code210:=rfl
theorem t222:T 222=some code222:=rfl
theorem ri:T 100208=some code100208:=rfl
end Go.Abs.Zm

namespace Go.Abs.Zo
open Go.Abs.Short
-- base: Zm
def T:Nat→Option AFunc:=fun g=>match Zm.T g with
 | some f=>some f
 | none=>List.lookup g []
theorem sub:∀ g f,Zm.T g=some f→T g=some f:=fun g f h=>by unfold T; rw [h]
end Go.Abs.Zo
