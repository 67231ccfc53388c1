/-
  Texts joined.
-/
import Derived.Test.YtjmnbfijplhkfaaGreatDoorP0
import Derived.Test.YtjmnbfijplhkfaaGreatDoorP5
import Derived.Shelf.Spec.SlicesInsertGrow
import Derived.Test.YtjmnbfijplhkfaaGreatDoorP4
set_option linter.unusedVariables false
set_option linter.unusedSimpArgs false
set_option maxRecDepth 100000
namespace Go.Abs
open Go.Proofs Go.Shelf Go.RowKit Go.Lib
variable {E:Env} {μ:MM} {h:Heap} {w:World}
theorem zah {w:World} {b:Nat} {o:Obj} (hb:w.heap[b]? = some o):di w b o=w:=by
 have hlt:b < w.heap.size:=by
  rcases bi b w.heap.size with h | h
  ·exact h
  ·rw [Array.getElem?_eq_none h] at hb; cases hb
 rw [j9 hlt] at hb;have hb':=dg hb;unfold di
 have:w.heap.setIfInBounds b o=w.heap:=by
  apply Array.ext
  ·simp
  ·intro i h1 h2;rw [Array.getElem_setIfInBounds (by simpa using h1)];split
   ·rename_i e; subst e; exact hb'.symm
   ·rfl
 rw [this]
theorem ke {b:Nat} {e:TypeId} {fr:Nat × Nat}:∀ (vs:List Value) (o:Nat) {w:World} {c:Array Value},w.heap[b]? = some (.cells c e fr)→w.setCells b o vs=di w b (.cells (ik c o vs) e fr)
 | [],o,w,c,hb=>(zah hb).symm
 | v :: r,o,w,c,hb=>by
  have hlt:b < w.heap.size:=by
   rcases bi b w.heap.size with h | h
   ·exact h
   ·rw [Array.getElem?_eq_none h] at hb; cases hb
  rw [World.setCells,vd v hb,ke r (o+1) (ga hlt),ox];rfl
theorem ends_take (hr:Rel E μ h w) {j o n' cap esz:Nat} {m:M} {new:List AVal} {C':Array Value} {te:TypeId} {fr:Nat × Nat} {w':World} (hb:h.base≤j) (hm:μ[j]? = some (some m)) (he:m.esz=esz) (hf:Free E.room fr m.size)
  (hC:C'.size=m.size) (hw:w'.heap=(di w m.blk (.cells C' te fr)).heap) (h2:w'.os=w.os) (h3:w'.tape=w.tape) (h4:w'.output=w.output) (hn:n'≤cap) (hx:cap≤9223372036854775807) (hsz:m.base+o+cap*m.esz≤m.size) (hl:new.length=n'*esz)
  (hnew:∀ (k:Nat) (v':AVal),new[k]? = some v'→v'.isOne=true∧∃ u,C'[m.base+o+k]? = some u∧VRel E μ v' u) :
  Ends E μ w (.slice (some (h.size,0)) n' none) (h.puts [(j,.dead)] [.cells esz new]) (.returned (.slice (some ⟨m.blk,m.base+o,none⟩) n' cap)) w':=by
 have hlen:h.size=μ.length:=hr.len.symm;have hnl:n'*esz≤cap*m.esz:=by rw [he]; exact im _ hn
 have ho:ORel E (μ.set j none++[some ⟨m.blk,m.base+o,m.size,m.esz⟩]) h.base μ.length (di w m.blk (.cells C' te fr)) (.cells esz new):=by
  refine ⟨⟨m.blk,m.base+o,m.size,m.esz⟩,C',te,fr,?_,he,ga (hr.lt j m hm),hC,by rw [hl]; show m.base+o+_≤m.size; omega,fun k v' hk=>?_,fun _=>hf⟩
  ·rw [ak (by simp)]; simp
  ·obtain ⟨q1,u,q2,q3⟩:=hnew k v' hk;exact ⟨q1,u,q2,(q3.later (l0 μ j)).later (ix _ _)⟩
 have ht:=hr.take (m':=⟨m.blk,m.base+o,m.size,m.esz⟩) hb hm rfl ho
 have hst:Step (fun _=>False) (h.puts [(j,.dead)] [.cells esz new]).wmin μ w (μ.set j none++[some ⟨m.blk,m.base+o,m.size,m.esz⟩]) (di w m.blk (.cells C' te fr)) :=
  Step.take (m':=⟨m.blk,m.base+o,m.size,m.esz⟩) (.cells C' te fr) hm rfl (gc _ _)
 refine ⟨_,μ.set j none++[some ⟨m.blk,m.base+o,m.size,m.esz⟩],rfl,hst.heap hw h2 h3 h4,?_,ht.same rfl rfl hw⟩;rw [hlen];simp only [VRel];refine ⟨_,cap,rfl,⟨by simp,hx⟩,fun _=>⟨some ⟨m.blk,m.base+o,m.size,m.esz⟩,by rw [ak (by simp)]; simp,fun m' hm'=>by cases hm'; rfl⟩,(fun k hk=>by cases hk),hn,fun m' hm'=>?_⟩;rw [ak (by simp)] at hm';simp at hm'; subst hm';simpa using hsz
theorem ends_new (hr:Rel E μ h w) {n' cap esz:Nat} {new:List AVal} {C':Array Value} {te:TypeId} {w':World} (ps:List (Nat × AObj)) (hps:ps=[]∨∃ j,ps=[(j,.dead)])
  (hw:w'.heap=w.heap.push (.cells C' te (0,0))) (h2:w'.os=w.os) (h3:w'.tape=w.tape) (h4:w'.output=w.output) (hn:n'≤cap) (hx:cap≤9223372036854775807) (hsz:cap*esz≤C'.size) (hl:new.length=n'*esz)
  (hnew:∀ (k:Nat) (v':AVal),new[k]? = some v'→v'.isOne=true∧∃ u,C'[k]? = some u∧VRel E μ v' u) :
  Ends E μ w (.slice (some (h.size,0)) n' none) (h.puts ps [.cells esz new]) (.returned (.slice (some ⟨w.heap.size,0,none⟩) n' cap)) w':=by
 have key:∀ (h1:Heap) (μ1:MM) (wm:Nat),Later μ μ1→Rel E μ1 h1 w→h1.size=h.size→wm≤h1.wmin→Step (fun _=>False) wm μ w μ1 w→h1.wmin=wm →
   Ends E μ w (.slice (some (h.size,0)) n' none) (h1.push (.cells esz new)) (.returned (.slice (some ⟨w.heap.size,0,none⟩) n' cap)) w':=by
  intro h1 μ1 wm hl1 hr1 hs1 hwm hst hwe;have hlen:h.size=μ1.length:=by rw [← hs1]; exact hr1.len.symm
  have hnl:n'*esz≤cap*esz:=im _ hn
  have ho:ORel E (μ1++[some ⟨w.heap.size,0,C'.size,esz⟩]) h1.base μ1.length { w with heap:=w.heap.push (.cells C' te (0,0)) } (.cells esz new):=by refine ⟨⟨w.heap.size,0,C'.size,esz⟩,C',te,(0,0),by simp,rfl,by simp,rfl,by show 0+new.length≤C'.size; rw [hl,dk]; exact dq hnl hsz,fun k v' hk=>?_,fun _ off _=>by simp⟩;obtain ⟨q1,u,q2,q3⟩:=hnew k v' hk;exact ⟨q1,u,by rw [dk]; exact q2,(q3.later hl1).later (ix _ _)⟩
  have hp:=hr1.push (.cells esz new) (.cells C' te (0,0)) ⟨w.heap.size,0,C'.size,esz⟩ rfl ho;have hs:Step (fun _=>False) (h1.push (.cells esz new)).wmin μ1 w (μ1++[some ⟨w.heap.size,0,C'.size,esz⟩]) { w with heap:=w.heap.push (.cells C' te (0,0)) }:=Step.push _ μ1 w _ _ (ai _);have hs2:=hst.trans hs (by show h1.wmin≤wm; omega);refine ⟨_,μ1++[some ⟨w.heap.size,0,C'.size,esz⟩],rfl,hs2.heap hw h2 h3 h4,?_,hp.same rfl rfl hw⟩;rw [hlen];exact oc rfl hn (fun k hk=>by cases hk) hsz hx
 rcases hps with rfl | ⟨j,rfl⟩
 ·exact key h μ h.wmin (Later.refl _) hr rfl (ai _) (Step.refl _ _ _ _) rfl
 ·exact key (h.put j .dead) (μ.set j none) (min h.wmin j) (l0 μ j) (hr.kill j) (by simp [Heap.put,Heap.size]) (ai _) (Step.kill μ w (gc _ _)) rfl
theorem push_set {α:Type} (a:Array α) (x y:α):(a.push x).setIfInBounds a.size y=a.push y:=by
 apply Array.ext_getElem?;intro i;by_cases e:a.size=i
 ·subst e; simp
 ·rw [dx e,fe,fe,if_neg (Ne.symm e),if_neg (Ne.symm e)]
def strV (s:List UInt8):Value:=.string ⟨s.toArray⟩
theorem strs_val (cs:List (List UInt8)):∀ v ∈ cs.map strV,v.oneCell'=true:=fun v hv=>by rw [ei] at hv;obtain ⟨s,_,rfl⟩:=hv;rfl
def insertF:List AVal→Heap→Option (AVal × List (Nat × AObj) × List AObj)
 | [.slice a n _,.int .i64 i,.slice (some (vi,vo)) m _],h =>
  match s7 a n h,s7 (some (vi,vo)) m h with
  | some cs,some vs =>
   if 0≤i∧i≤n∧0 < m∧(n+m)*16≤140737488355328∧h.base≤vi then
    match a with
    | none=>some (.slice (some (h.size,0)) (n+m) none,[],[.cells 1 ((cs.take i.toNat++vs++cs.drop i.toNat).map .str)])
    | some (j,_)=>if h.base≤j∧j≠vi∧rowIs h j 1=true then some (.slice (some (h.size,0)) (n+m) none,[(j,.dead)],[.cells 1 ((cs.take i.toNat++vs++cs.drop i.toNat).map .str)]) else none
   else none
  | _,_=>none
 | _,_=>none
theorem strV_get {l:List (List UInt8)} {k:Nat} {v:Value} (h:(l.map strV)[k]? = some v):∃ s,l[k]? = some s∧v=strV s:=by rw [cz,ae] at h;obtain ⟨s,h1,h2⟩:=h;exact ⟨s,h1,h2.symm⟩
theorem strs_new {l:List (List UInt8)} {C:Array Value} {at':Nat} (hC:∀ (k:Nat) (s:List UInt8),l[k]? = some s→C[at'+k]? = some (strV s)):∀ (k:Nat) (v':AVal),(l.map AVal.str)[k]? = some v'→v'.isOne=true∧∃ u,C[at'+k]? = some u∧VRel E μ v' u:=fun k v' hk=>by rw [cz,ae] at hk;obtain ⟨s,h1,rfl⟩:=hk;exact ⟨rfl,_,hC k s h1,by simp only [VRel]; rfl⟩
theorem ins_get {cs vs:List (List UInt8)} {i k:Nat} (hi:i≤cs.length):(cs.take i++vs++cs.drop i)[k]? = if k < i then cs[k]? else if k < i+vs.length then vs[k - i]? else cs[k - vs.length]?:=by
 have hl:(cs.take i).length=i:=by rw [mt]; omega
 by_cases h1:k < i
 ·rw [if_pos h1,ba,ag (by omega),pz,if_pos h1]
 ·rw [if_neg h1];by_cases h2:k < i+vs.length
  ·rw [if_pos h2,ag (by rw [aq]; omega),ak (by omega),hl]
  ·rw [if_neg h2,ak (by rw [aq]; omega),aq,hl,dw];congr 1; omega
theorem insert_ok {ρ:Ren} (hroom1:E.room=1) (L:Lays2.n22 E.P ρ) {f:FuncId} {fn:Func} (hf:f=ρ.f 22) (hn:fn.name ≠ "runtime.NumGoroutine") (hb:fn.body.isSome=true):LibOK E f fn insertF where
 name:=hn
 body:=hb
 run:=fun args h v ps xs e μ w args' ha hr=>by
  subst hf;unfold insertF at e;split at e;case h_2=>cases e
  rename_i a n c i vi vo m vc;split at e;case h_2=>cases e
  rename_i cs vs hcs hvs;split at e;case isFalse=>cases e
  rename_i hh;obtain ⟨hi0,hin,hm,hbig,hbv⟩:=hh;obtain ⟨q,rfl⟩:=fz hi0;simp only [kb] at e;simp only [VRels] at ha;obtain ⟨v1,r1,e1,q1,v2,r2,e2,q2,v3,r3,e3,q3,e4⟩:=ha;subst e4 e3 e2;have ha':args' = #[v1,v2,v3]:=by rw [← Array.toList_inj,e1]
  subst ha';simp only [VRel] at q2;subst q2;obtain ⟨vb,voff,vcap,hv3,hvl,hvcap,hvb,hvcells⟩:=va hr q3 hvs (by omega);subst hv3
  have hvsc:∀ (j:Nat) (v:Value),(vs.map strV)[j]? = some v→w.cell? ⟨vb,voff+j,none⟩=some v:=fun j v hv=>by obtain ⟨s,s1,rfl⟩:=strV_get hv;exact hvcells j _ (by rw [cz,s1]; rfl)
  have hqn:q≤n:=by omega
  have hvi:∃ cx,h.get vi=some (.cells 1 cx):=by
   unfold s7 at hvs;rw [if_neg (by omega)] at hvs;simp only at hvs;unfold Heap.get;cases hx:h.objs[vi]? with
   | none=>rw [hx] at hvs; cases hvs
   | some ob =>
    rw [hx] at hvs;cases ob with
    | cells ez cx =>
     split at hvs
     ·rename_i heq; cases heq; exact ⟨_,rfl⟩
     ·cases hvs
    | _=>cases hvs
  obtain ⟨cx,hvi⟩:=hvi;obtain ⟨mv,ccv,tev,frv,a1,a2,a3,a4,a5,a6,a7⟩:=hr.obj vi _ hvi
  have hvbm:vb=mv.blk:=by simp only [VRel] at q3;obtain ⟨ad,cap',g1,_,g2,_,g3,_⟩:=q3;obtain ⟨x,x1,x2⟩:=g2 (by omega);rw [a1] at x1; cases x1;have:=x2 mv rfl;subst this;cases g1;rfl
  have hfv:=a7 hbv
  have hfrz:∀ off,off≤mv.size→w.frozen? ⟨vb,off,none⟩=false:=fun off ho=>by have:=hfv off (by rw [hroom1]; omega);rw [hvbm];simp only [World.frozen?,a3];simpa using this
  have hvoff:voff < mv.size:=by
   obtain ⟨x,hx⟩:∃ x,(vs.map strV)[0]? = some x:=⟨_,ah (by rw [gk]; omega)⟩;have:=hvsc 0 x hx;rw [hvbm,ji a3] at this;rw [← a4];rcases bi voff ccv.size with h | h
   ·exact h
   ·rw [Array.getElem?_eq_none (by omega)] at this; cases this
  have h1v:=strs_val vs;have h1c:=strs_val cs;have hvll:(vs.map strV).length=m:=by rw [gk,hvl]
  have take:∀ {j oo:Nat} {cap:Nat} {mj:M} {cc:Array Value} {te:TypeId} {fr:Nat × Nat},h.base≤j→μ[j]? = some (some mj)→mj.esz=1→Free E.room fr mj.size→w.heap[mj.blk]? = some (.cells cc te fr)→cc.size=mj.size→(n+m≤cap∧cap≤9223372036854775807)→mj.base+oo+cap≤mj.size→cs.length=n →
    (∀ (k:Nat) (s:List UInt8),cs[k]? = some s→cc[mj.base+oo+k]? = some (strV s))→j≠vi →
    (∀ w':World,w'.heap=(di w mj.blk (.cells (ik (ik cc (mj.base+oo+(q+m)) ((cs.drop q).map strV)) (mj.base+oo+q) (vs.map strV)) te fr)).heap→w'.os=w.os→w'.tape=w.tape→w'.output=w.output →
     Ends E μ w (.slice (some (h.size,0)) (n+m) none) (h.puts [(j,.dead)] [.cells 1 ((cs.take q++vs++cs.drop q).map .str)]) (.returned (.slice (some ⟨mj.blk,mj.base+oo,none⟩) (n+m) cap)) w'):=by
   intro j oo cap mj cc te fr b1 b2 b3 b4 b5 b6 b7 b8 b9 b10 b11 w' w1 w2 w3 w4;have hdl:((cs.drop q).map strV).length=n - q:=by rw [gk,gh,b9]
   have hfit1:mj.base+oo+(q+m)+((cs.drop q).map strV).length≤cc.size:=by rw [hdl]; omega
   have hfit2:mj.base+oo+q+(vs.map strV).length≤(ik cc (mj.base+oo+(q+m)) ((cs.drop q).map strV)).size:=by rw [gn,hvll]; omega
   refine ends_take hr b1 b2 b3 b4 (by rw [gn,gn]; exact b6) w1 w2 w3 w4 b7.1 b7.2 (by rw [b3]; omega) (by simp; omega) (strs_new fun k s hk=>?_);rw [ins_get (by omega)] at hk;rw [lq _ _ _ _ hfit2,lq _ _ _ _ hfit1,hvll,hdl];split at hk
   ·rw [if_neg (by omega),if_neg (by omega)];exact b10 k s hk
   ·split at hk
    ·rw [if_pos (by omega),show mj.base+oo+k - (mj.base+oo+q)=k - q by omega,cz,hk];rfl
    ·have:=aj hk;rw [if_neg (by omega),if_pos (by omega),show mj.base+oo+k - (mj.base+oo+(q+m))=k - (q+m) by omega,cz,dw,show q+(k - (q+m))=k - vs.length by omega,hk];rfl
  have grow:∀ (psx:List (Nat × AObj)) (cap:Nat) (C:Array Value) (te:TypeId),(psx=[]∨∃ j,psx=[(j,.dead)])→(n+m≤cap∧cap≤9223372036854775807)→cap≤C.size→cs.length=n →
    (∀ (k:Nat) (s:List UInt8),(cs.take q++vs++cs.drop q)[k]? = some s→C[k]? = some (strV s)) →
    (∀ w':World,w'.heap=w.heap.push (.cells C te (0,0))→w'.os=w.os→w'.tape=w.tape→w'.output=w.output →
     Ends E μ w (.slice (some (h.size,0)) (n+m) none) (h.puts psx [.cells 1 ((cs.take q++vs++cs.drop q).map .str)]) (.returned (.slice (some ⟨w.heap.size,0,none⟩) (n+m) cap)) w'):=by
   intro psx cap C te b1 b2 b3 b4 b5 w' w1 w2 w3 w4;refine ends_new hr psx b1 w1 w2 w3 w4 b2.1 b2.2 (by simpa using b3) (by simp; omega) ?_;have:=strs_new (E:=E) (μ:=μ) (at':=0) (C:=C) fun k s hk=>by rw [dk]; exact b5 k s hk
   intro k v' hk;obtain ⟨g1,u,g2,g3⟩:=this k v' hk;exact ⟨g1,u,by rw [dk] at g2; exact g2,g3⟩
  have endgrow:∀ (base:Option Addr) (cap:Nat) (psx:List (Nat × AObj)),v1 = .slice base n cap→q=n→cs.length=n→(psx=[]∨∃ j,psx=[(j,.dead)])→n≤cap→cap < n+m→(base=none→n=0)→(∀ a,base=some a→∀ (j:Nat) (v:Value),(cs.map strV)[j]? = some v→w.cell? (a.add j)=some v) →
    Calls E.P (ρ.f 22) #[v1,.int .i64 (q:Int),.slice (some ⟨vb,voff,none⟩) m vcap] w (Ends E μ w (.slice (some (h.size,0)) (n+m) none) (h.puts psx [.cells 1 ((cs.take q++vs++cs.drop q).map .str)])):=by
   intro base cap psx b1 b2 b3 b4 b5 b6 b7 b8;subst b1;have:=Any2.slices_Insert_string_end_grow L base n cap vb voff m vcap (cs.map strV) (vs.map strV) w hm b5 b6 hbig (by rw [gk,b3]) hvll b7 b8 hvsc h1v;rw [show ((q:Nat):Int)=((n:Nat):Int) by omega];refine this.mono fun e w' ⟨g1,g2⟩=>?_
   subst g1 g2;have hg:n+m≤grownCap w (n+m) cap (ρ.t 9)∧grownCap w (n+m) cap (ρ.t 9)≤9223372036854775807:=⟨ww w (n+m) cap (ρ.t 9),grownCap_le_maxLen w (n+m) cap (ρ.t 9) (by show n+m≤9223372036854775807; omega)⟩;refine grow psx _ (((cs.map strV)++(vs.map strV)).toArray++Builtin.zeroCells (Value.string ⟨#[]⟩).cells (grownCap w (n+m) cap (ρ.t 9) - (n+m))) (ρ.t 9) b4 hg ?_ b3 (fun k s hk=>?_) _ ?_ ?_ ?_ ?_;rotate_left 2
   ·rfl
   ·rfl
   ·rfl
   ·rfl
   ·simp [Builtin.zeroCells,b3,hvl];have:(Value.string ⟨#[]⟩).cells.size=1:=rfl;rw [this];omega
   ·rw [b2,ff (by omega),b0 (by omega),co] at hk;rw [nh (by have:=aj hk; simpa using this)];rw [List.getElem?_toArray,← i7,cz,hk];rfl
  by_cases hn0:n=0
  ·-- nothing is there
   subst hn0;have hcl:cs=[]:=by simpa [s7] using hcs.symm
   have hcl0:cs.length=0:=by rw [hcl]; rfl
   have hq:q=0:=by omega
   cases a with
   | none =>
    simp only at e;cases e;simp only [VRel] at q1;exact endgrow none 0 [] q1.2.2 hq hcl0 (.inl rfl) (ai _) (by omega) (fun _=>rfl) (fun a ha=>by cases ha)
   | some p =>
    obtain ⟨j,oo⟩:=p;simp only at e;split at e;case isFalse=>cases e
    rename_i hj;cases e;obtain ⟨hbj,hjv,hrow⟩:=hj;unfold rowIs at hrow;split at hrow;case h_2=>cases hrow
    rename_i e' csx hg;have he':e'=1:=by simpa using hrow
    subst he';obtain ⟨mj,cc,te,fr,k1,k2,k3,k4,k5,k6,k7⟩:=hr.obj j _ hg;simp only [VRel] at q1;obtain ⟨ad,cap,g1,g2,g3,g4,g5,g6⟩:=q1;by_cases hroom:0+m≤cap
    ·obtain ⟨x,x1,x2⟩:=g3 (by omega);rw [k1] at x1; cases x1;have:=x2 mj rfl;subst this;subst g1;have hs:=g6 mj k1;rw [k2,xv] at hs;have:=Any2.slices_Insert_string_end_room L mj.blk (mj.base+oo) 0 cap vb voff m vcap (vs.map strV) w hm hroom g2.2 hvll (fun i hi=>?_) (fun i hi=>?_) hvsc h1v
     ·subst hq;refine this.mono fun e w' ⟨g7,g8⟩=>?_
      subst g7;rw [iz,ke _ _ k3] at g8;subst g8;refine take hbj k1 k2 (k7 hbj) k3 k4 ⟨hroom,g2.2⟩ hs hcl0 (fun k s hk=>by rw [hcl] at hk; simp at hk) hjv _ ?_ rfl rfl rfl;rw [hcl];rfl
     ·rw [ji k3,j9 (by rw [k4]; omega)]; rfl
     ·have:=k7 hbj (mj.base+oo+0+i) (by omega);simp only [World.frozen?,k3];simpa using this
    ·exact endgrow (some ad) cap _ g1 hq hcl0 (.inr ⟨j,rfl⟩) (dt _) (by omega) (fun h=>by cases h) (fun a ha j v hjv=>by rw [hcl] at hjv; simp at hjv)
  ·obtain ⟨bk,o,cap,hv1,hcl,hncap,hbk,hcells⟩:=va hr q1 hcs hn0
   have hcsc:∀ (j:Nat) (v:Value),(cs.map strV)[j]? = some v→w.cell? ⟨bk,o+j,none⟩=some v:=fun j v hv=>by obtain ⟨s,s1,rfl⟩:=strV_get hv;exact hcells j _ (by rw [cz,s1]; rfl)
   cases a with
   | none=>simp [s7,hn0] at hcs
   | some p =>
    obtain ⟨j,oo⟩:=p;simp only at e;split at e;case isFalse=>cases e
    rename_i hj;cases e;obtain ⟨hbj,hjv,hrow⟩:=hj;unfold rowIs at hrow;split at hrow;case h_2=>cases hrow
    rename_i e' csx hg;have he':e'=1:=by simpa using hrow
    subst he';obtain ⟨mj,cc,te,fr,k1,k2,k3,k4,k5,k6,k7⟩:=hr.obj j _ hg;simp only [VRel] at q1;obtain ⟨ad,cap',g1,g2,g3,g4,g5,g6⟩:=q1;rw [hv1] at g1;cases g1;obtain ⟨x,x1,x2⟩:=g3 (by omega);rw [k1] at x1; cases x1;have hA:=x2 mj rfl;have hbk2:bk=mj.blk:=congrArg Addr.block hA;have ho2:o=mj.base+oo:=congrArg Addr.off hA;subst hbk2 ho2;subst hv1;have hs:=g6 mj k1;rw [k2,xv] at hs
    have hcc:∀ (k:Nat) (s:List UInt8),cs[k]? = some s→cc[mj.base+oo+k]? = some (strV s):=fun k s hk=>by have:=hcsc k (strV s) (by rw [cz,hk]; rfl);rwa [ji k3] at this
    by_cases hroom:n+m≤cap
    ·have hsp:∀ i,i < n+m→(w.cell? ⟨mj.blk,mj.base+oo+i,none⟩).isSome=true:=fun i hi=>by rw [ji k3,j9 (by rw [k4]; omega)]; rfl
     have hfz:∀ i,i < n+m→w.frozen? ⟨mj.blk,mj.base+oo+i,none⟩=false:=fun i hi=>by have:=k7 hbj (mj.base+oo+i) (by omega);simp only [World.frozen?,k3];simpa using this
     by_cases hqe:q=n
     ·subst hqe;have:=Any2.slices_Insert_string_end_room L mj.blk (mj.base+oo) q cap vb voff m vcap (vs.map strV) w hm hroom g2.2 hvll (fun i hi=>by rw [bo]; exact hsp _ (by omega)) (fun i hi=>by rw [bo]; exact hfz _ (by omega)) hvsc h1v;refine this.mono fun e w' ⟨g7,g8⟩=>?_
      subst g7;rw [ke _ _ k3] at g8;subst g8;refine take hbj k1 k2 (k7 hbj) k3 k4 ⟨hroom,g2.2⟩ hs hcl hcc hjv _ ?_ rfl rfl rfl;rw [b0 (by omega)];rfl
     ·have hne:vb≠mj.blk:=by rw [hvbm]; exact fun e=>hr.sep j vi mj mv hjv hbj k1 a1 e.symm
      have:=Any2.slices_Insert_string_shift L mj.blk (mj.base+oo) n cap q vb voff m vcap (cs.map strV) (vs.map strV) w (by omega) hm hroom g2.2 hne (by rw [gk,hcl]) hvll hcsc hsp hfz hvsc h1c h1v
       tev te mv.size mj.size (by rw [hvbm]; simp only [World.shape?,a3]; rw [a4]) (by simp only [World.shape?,k3]; rw [k4]) (by omega) (hfrz voff (by omega)) (hfrz mv.size (ai _))
      refine this.mono fun e w' ⟨g7,g8⟩=>?_
      subst g7 g8;have e1:w.drew.setCells mj.blk (mj.base+oo+(q+m)) ((cs.map strV).drop q)=di w.drew mj.blk (.cells (ik cc (mj.base+oo+(q+m)) ((cs.map strV).drop q)) te fr):=ke _ _ k3;have e2:=ke (vs.map strV) (mj.base+oo+q) (ga (w:=w.drew) (o:=.cells (ik cc (mj.base+oo+(q+m)) ((cs.map strV).drop q)) te fr) (hr.lt j mj k1));rw [e1,e2,ox,← List.map_drop];exact take hbj k1 k2 (k7 hbj) k3 k4 ⟨hroom,g2.2⟩ hs hcl hcc hjv _ rfl rfl rfl rfl
    ·by_cases hqe:q=n
     ·exact endgrow _ cap _ rfl hqe hcl (.inr ⟨j,rfl⟩) hncap (by omega) (fun h=>by cases h) (fun a ha i v hi=>by cases ha; rw [nb]; exact hcsc i v hi)
     ·have:=Any2.slices_Insert_string_grow L mj.blk (mj.base+oo) n cap q vb voff m vcap (cs.map strV) (vs.map strV) w (by omega) hm hncap (by omega) hbig (by rw [gk,hcl]) hvll hcsc hvsc h1c h1v;refine this.mono fun e w' ⟨g7,g8⟩=>?_
      subst g7;have hg:n+m≤grownCap w (n+m) cap (ρ.t 9)∧grownCap w (n+m) cap (ρ.t 9)≤9223372036854775807:=⟨ww w (n+m) cap (ρ.t 9),grownCap_le_maxLen w (n+m) cap (ρ.t 9) (by show n+m≤9223372036854775807; omega)⟩;generalize hC0:((cs.map strV).take q).toArray++Builtin.zeroCells (Value.string ⟨#[]⟩).cells (n+m - q)++Builtin.zeroCells (Value.string ⟨#[]⟩).cells (grownCap w (n+m) cap (ρ.t 9) - (n+m))=C0 at g8
      have hC0s:C0.size=grownCap w (n+m) cap (ρ.t 9):=by rw [← hC0];have:(Value.string ⟨#[]⟩).cells.size=1:=rfl;simp [Builtin.zeroCells,this,hcl];omega
      have hC0g:∀ k,k < q→C0[k]? = (cs.map strV)[k]?:=fun k hk=>by
       have hlq:((cs.map strV).take q).length=q:=by rw [mt,gk]; omega
       rw [← hC0,Array.append_assoc,nh (by simp [hlq]; omega),List.getElem?_toArray,pz,if_pos hk]
      have hal:(w.alloc (.cells C0 (ρ.t 9))).heap[w.heap.size]? = some (.cells C0 (ρ.t 9) (0,0)):=heap_alloc_new w _;have e1:=ke (vs.map strV) q (w:=(w.alloc (.cells C0 (ρ.t 9))).drew) hal;rw [e1] at g8;have hlt:w.heap.size < (w.alloc (.cells C0 (ρ.t 9))).drew.heap.size:=by show w.heap.size < (w.heap.push _).size; rw [Array.size_push]; exact Nat.lt_succ_self _
      have e2:=ke ((cs.map strV).drop q) (q+m) (w:=(di (w.alloc (.cells C0 (ρ.t 9))).drew w.heap.size (.cells (ik C0 q (vs.map strV)) (ρ.t 9) (0,0))).drew) (ga hlt);rw [e2] at g8;subst g8;refine grow _ _ (ik (ik C0 q (vs.map strV)) (q+m) ((cs.map strV).drop q)) (ρ.t 9) (.inr ⟨j,rfl⟩) hg (by rw [gn,gn,hC0s]; exact ai _) hcl (fun k s hk=>?_) _ ?_ rfl rfl rfl
      ·rw [ins_get (by omega)] at hk;have f1:q+(vs.map strV).length≤C0.size:=by rw [hvll,hC0s]; omega
       have f2:q+m+((cs.map strV).drop q).length≤(ik C0 q (vs.map strV)).size:=by rw [gn,hC0s,gh,gk]; omega
       rw [lq _ _ _ _ f2,lq _ _ _ _ f1,hvll,gh,gk,hcl];split at hk
       ·rw [if_neg (by omega),if_neg (by omega),hC0g k (by assumption),cz,hk]; rfl
       ·split at hk
        ·rw [if_neg (by omega),if_pos (by omega),cz,hk]; rfl
        ·have:=aj hk;rw [if_pos (by omega),dw,show q+(k - (q+m))=k - vs.length by omega,cz,hk]; rfl
      ·show ((w.heap.push _).setIfInBounds w.heap.size _).setIfInBounds w.heap.size _=_
       rw [push_set,push_set]
end Go.Abs

namespace Go.Abs.Zt
open Go.Abs.Short
-- base: Zo
def code32:AFunc:=⟨false,false,1,6,[.tmp 2],
 S (R [0] [o 2 (.val (Ks []))])
 (S (R [2] [v 3 0,o 4 (.bin .add (Ks [76]) (t 3)),o 5 (.bin .add (t 4) (Ks [59])),v 2 5])
 (Z [2])),none⟩
def code235L0:ACode :=
 .live [2,3,43,44] (S (R [2,3,43,44,45] [o 45 (Bt .lss 44 43)])
 (S (.after (.cond (t 45) (.skip) (.live [] (.exit 2))) [2,3,43,44])
 (S (.after (.block 3 (S (R [2,3,6,43,44] [v 46 44,v 6 46])
 (S (.after (.region [⟨true,[],[o 47 (Fa 2 1),o 48 (Lq 47),v 49 6,o 50 (.iaddr 1 (t 48) (t 49)),o 51 (Lq 50),o 52 (Fa 3 1),o 53 (Lq 52),v 54 6,o 55 (.iaddr 1 (t 53) (t 54)),o 56 (Lq 55)]⟩,⟨false,[],[o 57 (Bt .neq 51 56)]⟩]) [2,3,43,44,57])
 (.after (.cond (t 57) (S (R [4] [o 4 (.val F)])
 (Z [4])) (.skip)) [2,3,43,44])))) [2,3,43,44])
 (R [2,3,43,44] [o 58 (Bn .add 44 1),v 44 58]))))
def code235L1:ACode :=
 .live [2,3,25,26] (S (R [2,3,25,26,27] [o 27 (Bt .lss 26 25)])
 (S (.after (.cond (t 27) (.skip) (.live [2,3] (.exit 0))) [2,3,25,26])
 (S (.after (.block 1 (S (R [2,3,5,25,26] [v 28 26,v 5 28])
 (S (.after (.region [⟨true,[],[o 29 (Fa 2 0),o 30 (Lq 29),v 31 5,o 32 (.iaddr 1 (t 30) (t 31)),o 33 (Lq 32),o 34 (Fa 3 0),o 35 (Lq 34),v 36 5,o 37 (.iaddr 1 (t 35) (t 36)),o 38 (Lq 37)]⟩,⟨false,[],[o 39 (Bt .neq 33 38)]⟩]) [2,3,25,26,39])
 (.after (.cond (t 39) (S (R [4] [o 4 (.val F)])
 (Z [4])) (.skip)) [2,3,25,26])))) [2,3,25,26])
 (R [2,3,25,26] [o 40 (Bn .add 26 1),v 26 40]))))
def code235:AFunc:=⟨false,false,2,59,[.tmp 4],
 S (R [2,3] [o 2 (.lbox (t 0)),o 3 (.lbox (t 1)),o 4 (.val F)])
 (S (S (R [2,3,22] [o 7 (Fa 2 0),o 8 (Lq 7),o 9 (Sl 8),o 10 (Fa 3 0),o 11 (Lq 10),o 12 (Sl 11),o 13 (Bt .neq 9 12),v 14 13,g 15 14 false (Fa 2 1),g 16 14 false (Lq 15),g 17 14 false (Sl 16),g 18 14 false (Fa 3 1),g 19 14 false (Lq 18),g 20 14 false (Sl 19),g 21 14 false (Bt .neq 17 20),o 22 (.pick (t 14) Y (t 21))])
 (.after (.cond (t 22) (S (R [4] [o 4 (.val F)])
 (Z [4])) (.skip)) [2,3]))
 (S (S (R [2,3,25,26] [o 23 (Fa 2 0),o 24 (Lq 23),o 25 (Sl 24),o 26 (.val (n 0))])
 (.after (.block 0 (.loop code235L1)) [2,3]))
 (S (S (R [2,3,43,44] [o 41 (Fa 2 1),o 42 (Lq 41),o 43 (Sl 42),o 44 (.val (n 0))])
 (.after (.block 2 (.loop code235L0)) []))
 (S (R [4] [o 4 (.val Y)])
 (Z [4]))))),none⟩
def code239:AFunc:=⟨false,false,2,42,[.cell 4 (some 2),.tmp 5],
 S (R [0,3,4] [o 3 (.lbox (t 1)),o 4 (.lalloc [.slice none 0 (some 0),.slice none 0 (some 0)]),o 5 (.val (n 0))])
 (S (R [0,3,4,6,8] [o 11 (Fa 3 2),o 12 (Lq 11),o 13 (.callg 38 [t 12]),v 10 13,o 14 (Xt 10 0),o 15 (Xt 10 1),o 16 (Xt 10 2),v 6 14,v 7 15,v 8 16])
 (S (S (R [0,3,4,6,8,18] [v 17 8,o 18 (Bn .neq 17 0)])
 (.after (.cond (t 18) (S (R [4,5] [o 19 (.build [.slice none 0 (some 0),.slice none 0 (some 0)] []),v 20 8,u (.store 2 (t 4) (t 19)),v 5 20])
 (Z [4,5])) (.skip)) [0,3,4,6]))
 (S (R [0,3,4,9] [v 21 6,o 22 (.callg 100260 [t 21]),v 9 22])
 (S (S (R [0,3,4,9,25] [o 23 (Fa 3 0),o 24 (Lq 23),o 25 (.un .not (t 24))])
 (.after (.cond (t 25) (R [3,4,9] [v 26 9,v 27 0,o 28 (.callg 32 [t 27]),o 29 (.mkslice 1 1 [.str []] [(0,1,t 28)]),o 30 (.callg 262 [t 26,n 0,t 29]),v 9 30]) (.skip)) [3,4,9]))
 (S (S (R [3,4,9,35] [v 31 9,o 32 (Sl 31),o 33 (Fa 3 4),o 34 (Lq 33),o 35 (Bt .gtr 32 34)])
 (.after (.cond (t 35) (S (R [4,5] [o 36 (.build [.slice none 0 (some 0),.slice none 0 (some 0)] []),u (.store 2 (t 4) (t 36)),o 5 (.val (n 8))])
 (Z [4,5])) (.skip)) [3,4,9]))
 (S (R [4,5] [v 37 9,o 38 (Fa 3 4),o 39 (Lq 38),o 40 (.callg 261 [t 37,t 39]),o 41 (.build [.slice none 0 (some 0),.slice none 0 (some 0)] [(0,1,t 40)]),u (.store 2 (t 4) (t 41)),o 5 (.val (n 0))])
 (Z [4,5]))))))),none⟩
def code240:AFunc:=⟨false,false,1,31,[.tmp 2,.tmp 3,.tmp 4],
 S (R [0] [o 2 (.val (.const (.ptr none))),o 3 (.val (.const (.slice none 0 (some 0)))),o 4 (.val F)])
 (S (R [5] [v 10 0,o 11 (.build [.slice none 0 (some 0),.int .i64 0] [(0,1,t 10)]),o 12 (.box (t 11)),o 13 (.callg 48 [t 12]),v 5 13])
 (S (R [5,6,7] [v 15 5,o 16 (.callg 49 [t 15]),v 14 16,o 17 (Xt 14 0),o 18 (Xt 14 1),v 6 17,v 7 18])
 (S (R [6,7,8,9] [v 20 5,o 21 (.callg 107 [t 20]),v 19 21,o 22 (Xt 19 0),o 23 (Xt 19 1),v 8 22,v 9 23])
 (S (R [2,3,4] [v 24 6,v 25 8,v 26 9,v 27 26,g 28 27 true (Vl 7),g 29 27 true (Bn .eql 28 0),o 30 (.pick (t 27) (t 29) F),v 2 24,v 3 25,v 4 30])
 (Z [2,3,4]))))),none⟩
def code242L0:ACode :=
 .live [21,22,23] (S (R [21,22,23,24] [o 24 (Bt .lss 23 22)])
 (S (.after (.cond (t 24) (.skip) (.live [] (.exit 0))) [21,22,23])
 (S (.after (.block 1 (S (R [4,21,22,23] [o 25 (.iaddr 1 (t 21) (t 23)),o 26 (Lq 25),v 4 26])
 (S (R [21,22,23,29] [v 27 4,o 28 (.len .str (t 27)),o 29 (Bn .gtr 28 150)])
 (.after (.cond (t 29) (S (R [2] [o 2 (.val F)])
 (Z [2])) (.skip)) [21,22,23])))) [21,22,23])
 (R [21,22,23] [o 30 (Bn .add 23 1),v 23 30]))))
def code242R0:ACode :=
 .after (.region [⟨true,[0,0,2,7,0,16,63,127,0],[o 15 (.mkslice 1 0 [] []),o 16 (Fa 1 0),o 17 (Lq 16),o 18 (.append 1 16 (t 15) (t 17)),o 19 (Fa 1 1),o 20 (Lq 19),o 21 (.append 1 16 (t 18) (t 20)),o 22 (Sl 21),o 23 (.val (n 0))]⟩]) [21,22,23]
def code242:AFunc:=⟨false,false,1,31,[.tmp 2],
 S (R [1] [o 1 (.lbox (t 0)),o 2 (.val F)])
 (S (S (R [1,14] [o 5 (Fa 1 0),o 6 (Lq 5),o 7 (Sl 6),o 8 (Bn .gtr 7 100),v 9 8,g 10 9 false (Fa 1 1),g 11 9 false (Lq 10),g 12 9 false (Sl 11),g 13 9 false (Bn .gtr 12 100),o 14 (.pick (t 9) Y (t 13))])
 (.after (.cond (t 14) (S (R [2] [o 2 (.val F)])
 (Z [2])) (.skip)) [1]))
 (S (S (code242R0)
 (.after (.block 0 (.loop code242L0)) []))
 (S (R [2] [o 2 (.val Y)])
 (Z [2])))),none⟩
def code243:AFunc:=⟨true,false,0,78,[.tmp 0],
 S (R [] [o 0 (.val F)])
 (S (R [1,2] [o 9 (.build [.bool false,.str [],.str [],.int .i64 0,.int .i64 0,.slice none 0 (some 0),.slice none 0 (some 0),.slice none 0 (some 0)] [(2,1,Ks [40,74,41,86]),(4,1,n 4)]),o 10 (.callg 239 [Ks [65],t 9]),v 8 10,o 11 (Xt 8 0),o 12 (Xt 8 1),o 1 (.lalloc [.slice none 0 (some 0),.slice none 0 (some 0)]),u (.store 2 (t 1) (t 11)),v 2 12])
 (S (R [1,2,3] [o 13 (.mkslice 1 2 [.str [],.str []] [(0,1,Ks [74]),(1,1,Ks [73])]),o 14 (.callg 100260 [t 13]),v 3 14])
 (S (R [1,2,3,4,5] [o 16 (.load (some 2) (t 1)),o 17 (.callg 254 [t 16,Ks [73],n 1]),v 15 17,o 18 (Xt 15 0),o 19 (Xt 15 1),o 4 (.lalloc [.slice none 0 (some 0),.slice none 0 (some 0)]),u (.store 2 (t 4) (t 18)),v 5 19])
 (S (R [1,2,3,4,5,7] [o 21 (.load (some 2) (t 4)),o 22 (.callg 254 [t 21,Ks [73],n 1]),v 20 22,o 23 (Xt 20 0),o 24 (Xt 20 1),o 6 (.lalloc [.slice none 0 (some 0),.slice none 0 (some 0)]),u (.store 2 (t 6) (t 23)),v 7 24])
 (S (R [0] [v 25 2,o 26 (Bn .eql 25 0),v 27 26,g 28 27 true (Vl 3),g 29 27 true (Sl 28),g 30 27 true (Bn .eql 29 3),o 31 (.pick (t 27) (t 30) F),v 32 31,g 33 32 true (Vl 3),g 34 32 true (.iaddr 1 (t 33) (n 1)),g 35 32 true (Lq 34),g 36 32 true (.bin .eql (t 35) (Ks [45])),o 37 (.pick (t 32) (t 36) F),v 38 37,g 39 38 true (Fa 1 0),g 40 38 true (Lq 39),g 41 38 true (Sl 40),g 42 38 true (Bn .eql 41 4),o 43 (.pick (t 38) (t 42) F),v 44 43,g 45 44 true (Fa 1 0),g 46 44 true (Lq 45),g 47 44 true (.iaddr 1 (t 46) (n 0)),g 48 44 true (Lq 47),g 49 44 true (.bin .eql (t 48) (Ks [76,65,59])),o 50 (.pick (t 44) (t 49) F),v 51 50,g 52 51 true (Fa 1 0),g 53 51 true (Lq 52),g 54 51 true (.iaddr 1 (t 53) (n 2)),g 55 51 true (Lq 54),g 56 51 true (.bin .eql (t 55) (Ks [45])),o 57 (.pick (t 51) (t 56) F),v 58 57,g 59 58 true (Fa 1 0),g 60 58 true (Lq 59),g 61 58 true (.iaddr 1 (t 60) (n 3)),g 62 58 true (Lq 61),g 63 58 true (.bin .eql (t 62) (Ks [84])),o 64 (.pick (t 58) (t 63) F),v 65 64,g 66 65 true (Vl 5),o 67 (.pick (t 65) (t 66) F),v 68 67,g 69 68 true (Vl 7),g 70 68 true (.un .not (t 69)),o 71 (.pick (t 68) (t 70) F),v 72 71,g 73 72 true (Fa 4 1),g 74 72 true (Lq 73),g 75 72 true (Sl 74),g 76 72 true (Bn .eql 75 1),o 77 (.pick (t 72) (t 76) F),v 0 77])
 (Z [0])))))),none⟩
def code247:AFunc:=⟨false,false,3,24,[.tmp 6],
 S (R [0,1,2] [o 6 (.val F)])
 (S (.after (.block 0 (S (R [0,1,2,7] [v 8 2,o 9 (.bin .eql (t 8) (Ks [84])),v 7 9])
 (.after (.cond (t 7) (S (R [6] [o 6 (.val Y)])
 (Z [6])) (S (R [0,1,2,10] [v 11 1,o 12 (.callg 267 [t 11]),v 13 12,g 14 13 false (Vl 2),g 15 13 false (.callg 267 [t 14]),o 16 (.pick (t 13) Y (t 15)),v 10 16])
 (.after (.cond (t 10) (S (R [6] [v 17 1,v 18 2,o 19 (Bt .eql 17 18),v 6 19])
 (Z [6])) (.skip)) [0,1,2]))) [0,1,2]))) [0,1,2])
 (S (R [6] [v 20 0,v 21 1,v 22 2,o 23 (.callg 47 [t 20,t 21,t 22]),v 6 23])
 (Z [6]))),none⟩
def code254:AFunc:=⟨false,false,3,38,[.cell 6 (some 2),.tmp 7],
 S (R [1,2,3,6] [o 3 (.lbox (t 0)),o 6 (.lalloc [.slice none 0 (some 0),.slice none 0 (some 0)]),o 7 (.val F)])
 (S (R [1,2,3,6,8] [v 9 1,o 10 (.mkslice 1 1 [.str []] [(0,1,t 9)]),o 11 (.callg 100260 [t 10]),v 8 11])
 (S (S (R [3,6,8,27] [v 12 1,o 13 (.bin .eql (t 12) (Ks [84])),v 14 13,g 15 14 false (Vl 1),g 16 14 false (.bin .eql (t 15) (Ks [45])),o 17 (.pick (t 14) Y (t 16)),v 18 17,g 19 18 false (Fa 3 1),g 20 18 false (Lq 19),g 21 18 false (Sl 20),g 22 18 false (Vl 8),g 23 18 false (Sl 22),g 24 18 false (Bt .add 21 23),g 25 18 false (Vl 2),g 26 18 false (Bt .gtr 24 25),o 27 (.pick (t 18) Y (t 26))])
 (.after (.cond (t 27) (S (R [6,7] [o 28 (.build [.slice none 0 (some 0),.slice none 0 (some 0)] []),u (.store 2 (t 6) (t 28)),o 7 (.val F)])
 (Z [6,7])) (.skip)) [3,6,8]))
 (S (.after (.region [⟨true,[0,1,3,0,8,0,56],[o 29 (Fa 3 0),o 30 (Lq 29),o 31 (.callg 100273 [t 30]),o 32 (Fa 3 1),o 33 (Lq 32),v 34 8,o 35 (.mkslice 1 2 [.slice none 0 (some 0),.slice none 0 (some 0)] [(0,1,t 33),(1,1,t 34)])]⟩,⟨false,[],[o 36 (.callg 274 [t 35]),o 37 (.build [.slice none 0 (some 0),.slice none 0 (some 0)] [(0,1,t 31),(1,1,t 36)]),u (.store 2 (t 6) (t 37)),o 7 (.val Y)]⟩]) [6,7])
 (Z [6,7])))),none⟩
def code261L0:ACode :=
 .live [0,9,10] (S (R [0,9,10,11] [o 11 (Bt .lss 10 9)])
 (S (.after (.cond (t 11) (.skip) (.live [0] (.exit 0))) [0,9,10])
 (S (.after (.block 1 (R [0,9,10] [v 12 0,o 13 (.mkslice 1 1 [.str []] [(0,1,Ks [84])]),o 14 (.append 1 16 (t 12) (t 13)),v 0 14])) [0,9,10])
 (R [0,9,10] [o 15 (Bn .add 10 1),v 10 15]))))
def code261:AFunc:=⟨false,false,2,17,[.tmp 4],
 S (R [0,1] [o 4 (.val (.const (.slice none 0 (some 0))))])
 (S (S (R [0,9,10] [v 5 1,o 6 (.minmax false [t 5,n 300]),v 7 0,o 8 (Sl 7),o 9 (Bt .sub 6 8),o 10 (.val (n 0))])
 (.after (.block 0 (.loop code261L0)) [0]))
 (S (R [4] [v 16 0,v 4 16])
 (Z [4]))),none⟩
def code262:AFunc:=⟨false,false,0,0,[],.skip,some (.lib insertF)⟩
def code267:AFunc:=⟨false,false,1,17,[.tmp 2],
 S (R [0] [o 2 (.val F)])
 (S (R [2] [v 3 0,o 4 (.bin .eql (t 3) (Ks [84])),v 5 4,g 6 5 false (Vl 0),g 7 5 false (.bin .eql (t 6) (Ks [73])),o 8 (.pick (t 5) Y (t 7)),v 9 8,g 10 9 false (Vl 0),g 11 9 false (.bin .eql (t 10) (Ks [74])),o 12 (.pick (t 9) Y (t 11)),v 13 12,g 14 13 false (Vl 0),g 15 13 false (.bin .eql (t 14) (Ks [45])),o 16 (.pick (t 13) Y (t 15)),v 2 16])
 (Z [2])),none⟩
def code100273:AFunc:=⟨false,false,1,8,[.tmp 2],
 S (R [0] [o 2 (.val (.const (.slice none 0 (some 0))))])
 (S (S (R [0,4] [v 3 0,o 4 (.eqnil .slice false (t 3) (.const (.slice none 0 (some 0))))])
 (.after (.cond (t 4) (S (R [2] [o 2 (.val (.const (.slice none 0 (some 0))))])
 (Z [2])) (.skip)) [0]))
 (S (R [2] [o 5 (.mkslice 1 0 [] []),v 6 0,o 7 (.append 1 16 (t 5) (t 6)),v 2 7])
 (Z [2]))),none⟩
def code274L0:ACode :=
 .live [6,25,26,27] (S (R [6,25,26,27,28] [o 28 (Bt .lss 27 26)])
 (S (.after (.cond (t 28) (.skip) (.live [6] (.exit 2))) [6,25,26,27])
 (S (.after (.block 3 (S (R [6,8,25,26,27] [o 29 (.iaddr 1 (t 25) (t 27)),o 30 (Lq 29),v 8 30])
 (R [6,25,26,27] [v 31 6,v 32 8,o 33 (.append 1 16 (t 31) (t 32)),v 6 33]))) [6,25,26,27])
 (R [6,25,26,27] [o 34 (Bn .add 27 1),v 27 34]))))
def code274L1:ACode :=
 .live [0,3,9,10,11] (S (R [0,3,9,10,11,12] [o 12 (Bt .lss 11 10)])
 (S (.after (.cond (t 12) (.skip) (.live [0,3] (.exit 0))) [0,3,9,10,11])
 (S (.after (.block 1 (S (R [0,3,5,9,10,11] [o 13 (.iaddr 1 (t 9) (t 11)),o 14 (Lq 13),v 5 14])
 (S (R [0,3,9,10,11] [v 15 3,v 16 5,o 17 (Sl 16),o 18 (Bt .add 15 17),v 3 18])
 (S (R [0,3,9,10,11,20] [v 19 3,o 20 (Bn .lss 19 0)])
 (.after (.cond (t 20) (R [0,3,9,10,11] [o 21 (.nextStr F),u (.nextStr F)]) (.skip)) [0,3,9,10,11]))))) [0,3,9,10,11])
 (R [0,3,9,10,11] [o 22 (Bn .add 11 1),v 11 22]))))
def code274:AFunc:=⟨false,false,1,36,[.tmp 2],
 S (R [0] [o 2 (.val (.const (.slice none 0 (some 0))))])
 (S (R [0,3] [o 3 (.val (n 0))])
 (S (S (R [0,3,9,10,11] [v 9 0,o 10 (Sl 9),o 11 (.val (n 0))])
 (.after (.block 0 (.loop code274L1)) [0,3]))
 (S (R [0,6] [v 23 3,o 24 (.callg 280 [.const (.slice none 0 (some 0)),t 23]),v 6 24])
 (S (S (R [6,25,26,27] [v 25 0,o 26 (Sl 25),o 27 (.val (n 0))])
 (.after (.block 2 (.loop code274L0)) [6]))
 (S (R [2] [v 35 6,v 2 35])
 (Z [2])))))),none⟩
def code280:AFunc:=⟨false,false,2,27,[.tmp 4],
 S (R [0,1] [o 4 (.val (.const (.slice none 0 (some 0))))])
 (S (S (R [0,1,6] [v 5 1,o 6 (Bn .lss 5 0)])
 (.after (.cond (t 6) (R [0,1] [o 7 (.nextStr F),u (.nextStr F)]) (.skip)) [0,1]))
 (S (S (R [0,1] [v 8 1,v 9 0,o 10 (.ext (.pure .cap) [t 9]),v 11 0,o 12 (Sl 11),o 13 (Bt .sub 10 12),o 14 (Bt .sub 8 13),v 1 14])
 (S (R [0,1,16] [v 15 1,o 16 (Bn .gtr 15 0)])
 (.after (.cond (t 16) (R [0] [v 17 0,v 18 0,o 19 (.ext (.pure .cap) [t 18]),o 20 (.slice (.sl 1) (t 17) none (some (t 19)) none),v 21 1,o 22 (.ext (.appz 1 16 [.str []]) [t 20,t 21]),v 23 0,o 24 (Sl 23),o 25 (.slice (.sl 1) (t 22) none (some (t 24)) none),v 0 25]) (.skip)) [0])))
 (S (R [4] [v 26 0,v 4 26])
 (Z [4])))),none⟩
def code100260L0:ACode :=
 .live [3,6,7,8] (S (R [3,6,7,8,9] [o 9 (Bt .lss 8 7)])
 (S (.after (.cond (t 9) (.skip) (.live [3] (.exit 0))) [3,6,7,8])
 (S (.after (.block 1 (S (R [3,5,6,7,8] [o 10 (.iaddr 1 (t 6) (t 8)),o 11 (Lq 10),v 5 11])
 (S (R [3,5,6,7,8] [v 12 3,v 13 5,o 14 (.mkslice 1 1 [.str []] [(0,1,t 13)]),o 15 (.append 1 16 (t 12) (t 14)),v 3 15])
 (S (R [3,6,7,8,17] [v 16 5,o 17 (.bin .eql (t 16) (Ks [74]))])
 (.after (.cond (t 17) (R [3,6,7,8] [v 18 3,o 19 (.mkslice 1 1 [.str []] [(0,1,Ks [45])]),o 20 (.append 1 16 (t 18) (t 19)),v 3 20]) (.skip)) [3,6,7,8]))))) [3,6,7,8])
 (R [3,6,7,8] [o 21 (Bn .add 8 1),v 8 21]))))
def code100260:AFunc:=⟨false,false,1,23,[.tmp 2],
 S (R [0] [o 2 (.val (.const (.slice none 0 (some 0))))])
 (S (R [0,3] [o 3 (.val (.const (.slice none 0 (some 0))))])
 (S (S (R [3,6,7,8] [v 6 0,o 7 (Sl 6),o 8 (.val (n 0))])
 (.after (.block 0 (.loop code100260L0)) [3]))
 (S (R [2] [v 22 3,v 2 22])
 (Z [2])))),none⟩
def T:Nat→Option AFunc:=fun g=>match Zo.T g with
 | some f=>some f
 | none=>List.lookup g [(32,code32),(235,code235),(239,code239),(240,code240),(242,code242),(243,code243),(247,code247),(254,code254),(261,code261),(262,code262),(267,code267),(274,code274),(280,code280),(100260,code100260),(100273,code100273)]
theorem sub:∀ g f,Zo.T g=some f→T g=some f:=fun g f h=>by unfold T; rw [h]
theorem t32:T 32=some code32:=rfl
theorem t235:T 235=some code235:=rfl
theorem t239:T 239=some code239:=rfl
theorem t240:T 240=some code240:=rfl
theorem t242:T 242=some code242:=rfl
theorem t243:T 243=some code243:=rfl
theorem t247:T 247=some code247:=rfl
theorem t254:T 254=some code254:=rfl
theorem t261:T 261=some code261:=rfl
theorem t262:T 262=some code262:=rfl
theorem t267:T 267=some code267:=rfl
theorem t100273:T 100273=some code100273:=rfl
theorem t274:T 274=some code274:=rfl
theorem t280:T 280=some code280:=rfl
theorem t100260:T 100260=some code100260:=rfl
end Go.Abs.Zt

namespace Go.Abs.Zd
variable {os:List AObj} {b w:Nat}
def wordN (n:Nat):Bool:=(decide (97≤n) && decide (n≤122)) || (decide (65≤n) && decide (n≤90)) || (decide (48≤n) && decide (n≤57)) || decide (n=95) || decide (n=36)
theorem s226 {s:List UInt8} {c:Int} {h:Heap}:xCall T 226 [.str s,.int .u8 c] h=some (.int .i64 (Lib.indexByte s c.toNat.toUInt8),h):=by obtain ⟨os,b,w⟩:=h;simp [ea T t226,code226,evPrim]
theorem s205 {s:List UInt8} {c:UInt8} {h:Heap}:xCall T 205 [.str s,.str [c]] h=some (.int .i64 (Lib.indexByte s c),h):=by
 obtain ⟨os,b,w⟩:=h;by_cases e:[c]=s
 ·subst e;simp [ea T t205,code205,s226,inBounds,Lib.indexByte]
 ·simp [ea T t205,code205,s226,inBounds,e]
theorem s173 {s:List UInt8} {c:UInt8} {h:Heap}:xCall T 173 [.str s,.str [c]] h=some (.int .i64 (Lib.indexByte s c),h):=by obtain ⟨os,b,w⟩:=h;simp [ea T t173,code173,s205]
theorem s174 {s:List UInt8} {c:UInt8} {h:Heap}:xCall T 174 [.str s,.str [c]] h=some (.int .i64 (Lib.countByte s c),h):=by obtain ⟨os,b,w⟩:=h;simp [ea T t174,code174,evPrim,inBounds]
theorem s146 {n:Nat} {h:Heap}:xCall T 146 [.int .u8 n] h=some (.bool (!wordN n),h):=by
 obtain ⟨os,b,w⟩:=h;by_cases c1:97≤n <;> by_cases c2:n≤122
 ·have d1:(97:Int)≤n:=by omega
  have d2:(n:Int)≤122:=by omega
  simp [ea T t146,code146,wordN,c1,c2,d1,d2]
 all_goals
  by_cases c3:65≤n <;> by_cases c4:n≤90 <;> by_cases c5:48≤n <;> by_cases c6:n≤57 <;> (try (exfalso; omega)) <;> by_cases c7:n=95 <;> (try (exfalso; omega)) <;> by_cases c8:n=36 <;> (try (exfalso; omega))
  all_goals
   have e1:((97:Int)≤n)=(97≤n):=by apply propext; omega
   have e2:((n:Int)≤122)=(n≤122):=by apply propext; omega
   have e3:((65:Int)≤n)=(65≤n):=by apply propext; omega
   have e4:((n:Int)≤90)=(n≤90):=by apply propext; omega
   have e5:((48:Int)≤n)=(48≤n):=by apply propext; omega
   have e6:((n:Int)≤57)=(n≤57):=by apply propext; omega
   have e7:((n:Int)=95)=(n=95):=by apply propext; omega
   have e8:((n:Int)=36)=(n=36):=by apply propext; omega
   simp [ea T t146,code146,wordN,e1,e2,e3,e4,e5,e6,e7,e8,c1,c2,c3,c4,c5,c6,c7,c8]
end Go.Abs.Zd

namespace Go.Abs.Zd
variable {os:List AObj} {b w:Nat}
def firstIx {α:Type} (p:α→Bool):List α→Nat→Int
 | [],_=>-1
 | x :: l,i=>if p x then i else firstIx p l (i+1)
theorem vt {α:Type} (p:α→Bool):∀ (l:List α) (i:Nat),(decide (0≤firstIx p l i))=l.any p
 | [],i=>by simp [firstIx]
 | x :: l,i=>by
  simp only [firstIx,List.any_cons];by_cases h:p x=true
  ·simp [h]
  ·simp only [Bool.not_eq_true] at h;simp [h,vt p l (i+1)]
theorem sv {α:Type} (p:α→Bool):∀ (l:List α) (i:Nat),(∀ x ∈ l,p x=false)→firstIx p l i = -1
 | [],_,_=>rfl
 | x :: l,i,h=>by simp only [firstIx,h x (bh ..),am,if_false];exact sv p l (i+1) fun y hy=>h y (bu _ hy)
theorem vu {α:Type} (p:α→Bool):∀ (l:List α) (i j:Nat) (x:α),l[j]? = some x→p x=true→(∀ k,k < j→∀ y,l[k]? = some y→p y=false)→firstIx p l i=(i+j:Nat)
 | [],i,j,x,h,_,_=>by simp at h
 | y :: l,i,0,x,h,hp,_=>by simp at h; subst h;simp [firstIx,hp]
 | y :: l,i,j+1,x,h,hp,hb=>by have h0:=hb 0 (by omega) y rfl;simp only [firstIx,h0,am,if_false];rw [vu p l (i+1) j x (by simpa using h) hp (fun k hk z hz=>hb (k+1) (by omega) z (by simpa using hz))];congr 1; omega
theorem yi {T:Nat→Option AFunc} {α:Type} {c:ACode} (p:α→Bool) (L:List α) (st:Nat→St) (out:Nat→St) (e1 e2:AExit) (fin:St)
  (hs:∀ (i:Nat) x,L[i]? = some x→ir T c (st i)=some (if p x then (e1,out i) else (.normal,st (i+1)))) (h1:e1 ≠ .normal) (h2:e2 ≠ .normal) (hx:ir T c (st L.length)=some (e2,fin)) :
  (L.any p=false∧ir T (.loop c) (st 0)=some (e2,fin))∨∃ (j:Nat) (x:α),L[j]? = some x∧p x=true∧(∀ k,k < j→∀ y,L[k]? = some y→p y=false)∧ir T (.loop c) (st 0)=some (e1,out j):=by
 rcases first_bad (fun x=>p x=false) L with h | ⟨j,x,h3,h4,h5⟩
 ·left;refine ⟨by rw [List.any_eq_false]; exact fun x hx=>by simp [h x hx],?_⟩;refine zbk st L.length (fun i hi=>?_) h2 hx;obtain ⟨x,hx⟩:∃ x,L[i]? = some x:=⟨_,ah hi⟩;rw [hs i x hx,h x (bz hx)];rfl
 ·right;simp only [Bool.not_eq_false] at h4;refine ⟨j,x,h3,h4,h5,?_⟩;refine zbk st j (fun i hi=>?_) h1 (by rw [hs j x h3,h4]; rfl);obtain ⟨y,hy⟩:∃ y,L[i]? = some y:=⟨_,ah (Nat.lt_trans hi (zbj h3))⟩;rw [hs i y hy,h5 i hi y hy];rfl
def n8 (c:UInt8):List AVal:=[.int .u8 c.toNat]
def strCell (s:List UInt8):List AVal:=[.str s]
theorem s176 {L:List UInt8} {a:Option (Nat × Nat)} {c:Option Nat} {g:Nat} {p:UInt8→Bool} (hR:Row os 1 n8 L a) (hn:L.length≤9223372036854775807)
  (hg:∀ (x:UInt8) (w:Nat),xCall T g [.int .u8 x.toNat] ⟨os,b,w⟩=some (.bool (p x),⟨os,b,w⟩)) :
  xCall T 176 [.slice a L.length c,.func g [] []] ⟨os,b,w⟩=some (.int .i64 (firstIx p L 0),⟨os,b,w⟩):=by
 have hl:=yi (T:=T) (c:=code176L0) p L (fun i=>⟨[(0,.val (.slice a L.length c)),(1,.val (.func g [] [])),(7,.val (.int .i64 L.length)),(8,.val (.int .i64 i))],⟨os,b,os.length⟩⟩)
  (fun i=>⟨[(4,.val (.int .i64 i))],⟨os,b,os.length⟩⟩) .ret (.exit 0) ⟨[],⟨os,b,os.length⟩⟩ ?_ (by simp) (by simp) (by simp [code176L0])
 ·rcases hl with ⟨h1,h2⟩ | ⟨j,x,h1,h2,h3,h4⟩
  ·rw [List.any_eq_false] at h1;rw [sv p L 0 fun x hx=>by simpa using h1 x hx];simp only [ce] at h2;simp [ea T t176,code176,h2]
  ·rw [vu p L 0 j x h1 h2 h3];simp only [ce] at h4;simp [ea T t176,code176,h4]
 ·intro i x hx;obtain ⟨bb,o,cs,rfl,hrow,hpart⟩:=hR.at' (ux hx);obtain ⟨p1,p2⟩:=hpart i x hx;have hw:=q9 (zbj hx) hn;have hi':(i:Int) < (L.length:Int):=by have:=zbj hx; omega
  have hge:(0:Int)≤i:=by omega
  have q3:(List.take 1 (List.drop (o+i*1) cs))[0]? = some (.int .u8 x.toNat):=by rw [p2]; rfl
  have q4:cs[o+i]? = some (.int .u8 x.toNat):=by simpa using q3
  by_cases hp:p x=true
  ·simp [code176L0,hi',hge,hrow,q4,hg,hp]
  ·simp [code176L0,hi',hge,hrow,q4,hg,hp,hw]
theorem s142 {L:List (List UInt8)} {a:Option (Nat × Nat)} {c:Option Nat} {g:Nat} {p:List UInt8→Bool} (hR:Row os 1 strCell L a) (hn:L.length≤9223372036854775807)
  (hg:∀ x ∈ L,∀ (w:Nat),xCall T g [.str x] ⟨os,b,w⟩=some (.bool (p x),⟨os,b,w⟩)) :
  xCall T 142 [.slice a L.length c,.func g [] []] ⟨os,b,w⟩=some (.int .i64 (firstIx p L 0),⟨os,b,w⟩):=by
 have hl:=yi (T:=T) (c:=code142L0) p L (fun i=>⟨[(0,.val (.slice a L.length c)),(1,.val (.func g [] [])),(7,.val (.int .i64 L.length)),(8,.val (.int .i64 i))],⟨os,b,os.length⟩⟩)
  (fun i=>⟨[(4,.val (.int .i64 i))],⟨os,b,os.length⟩⟩) .ret (.exit 0) ⟨[],⟨os,b,os.length⟩⟩ ?_ (by simp) (by simp) (by simp [code142L0])
 ·rcases hl with ⟨h1,h2⟩ | ⟨j,x,h1,h2,h3,h4⟩
  ·rw [List.any_eq_false] at h1;rw [sv p L 0 fun x hx=>by simpa using h1 x hx];simp only [ce] at h2;simp [ea T t142,code142,h2]
  ·rw [vu p L 0 j x h1 h2 h3];simp only [ce] at h4;simp [ea T t142,code142,h4]
 ·intro i x hx;obtain ⟨bb,o,cs,rfl,hrow,hpart⟩:=hR.at' (ux hx);obtain ⟨p1,p2⟩:=hpart i x hx;have hw:=q9 (zbj hx) hn;have hi':(i:Int) < (L.length:Int):=by have:=zbj hx; omega
  have hge:(0:Int)≤i:=by omega
  have q3:(List.take 1 (List.drop (o+i*1) cs))[0]? = some (.str x):=by rw [p2]; rfl
  have q4:cs[o+i]? = some (.str x):=by simpa using q3
  have hgx:=hg x (bz hx);by_cases hp:p x=true
  ·simp [code142L0,hi',hge,hrow,q4,hgx,hp]
  ·simp [code142L0,hi',hge,hrow,q4,hgx,hp,hw]
theorem s145 {L:List UInt8} {a:Option (Nat × Nat)} {c:Option Nat} {g:Nat} {p:UInt8→Bool} (hR:Row os 1 n8 L a) (hn:L.length≤9223372036854775807)
  (hg:∀ (x:UInt8) (w:Nat),xCall T g [.int .u8 x.toNat] ⟨os,b,w⟩=some (.bool (p x),⟨os,b,w⟩)) :
  xCall T 145 [.slice a L.length c,.func g [] []] ⟨os,b,w⟩=some (.bool (L.any p),⟨os,b,w⟩):=by
 have h:=s176 (w:=os.length) (c:=c) hR hn hg;have h2:=vt p L 0;simp [ea T t145,code145,h,h2]
theorem s91 {L:List (List UInt8)} {a:Option (Nat × Nat)} {c:Option Nat} {g:Nat} {p:List UInt8→Bool} (hR:Row os 1 strCell L a) (hn:L.length≤9223372036854775807)
  (hg:∀ x ∈ L,∀ (w:Nat),xCall T g [.str x] ⟨os,b,w⟩=some (.bool (p x),⟨os,b,w⟩)) :
  xCall T 91 [.slice a L.length c,.func g [] []] ⟨os,b,w⟩=some (.bool (L.any p),⟨os,b,w⟩):=by
 have h:=s142 (w:=os.length) (c:=c) hR hn hg;have h2:=vt p L 0;simp [ea T t91,code91,h,h2]
theorem zbi:∀ s:List UInt8,(s.map fun c=>AVal.int .u8 c.toNat)=s.flatMap n8
 | []=>rfl
 | c :: s=>by rw [cf,ci,zbi s];rfl
def wordL (s:List UInt8):Bool:=!s.isEmpty && s.all fun c=>wordN c.toNat
theorem any_not {α:Type} (p:α→Bool):∀ l:List α,(l.any fun x=>!p x) = !l.all p
 | []=>rfl
 | x :: l=>by rw [List.any_cons,dv,any_not p l,Bool.not_and]
theorem s144 {s:List UInt8} (hn:s.length≤9223372036854775807):xCall T 144 [.str s] ⟨os,b,w⟩=some (.bool (wordL s),⟨os,b,w⟩):=by
 have h:=fun w=>s145 (os:=os++[.cells 1 (s.map fun c=>AVal.int .u8 c.toNat)]) (b:=b) (w:=w) (L:=s) (a:=some (os.length,0)) (c:=none) (g:=146) (p:=fun x=>!wordN x.toNat)
  (Row.mk0 (fun _=>rfl) (by rw [← zbi]; simp)) hn (fun x w=>s146)
 by_cases e:s=[]
 ·subst e;simp [ea T t144,code144,wordL]
 ·have he:s.isEmpty=false:=by cases s <;> simp_all
  simp [ea T t144,code144,wordL,h,e,he,any_not,hn]
theorem s92 {s:List UInt8} (hn:s.length≤9223372036854775807):xCall T 92 [.str s] ⟨os,b,w⟩=some (.bool (!wordL s),⟨os,b,w⟩):=by
 have h:=fun w=>s144 (os:=os) (b:=b) (w:=w) hn
 simp [ea T t92,code92,h]
end Go.Abs.Zd

namespace Go.Abs.Zd
variable {os:List AObj} {b w:Nat}
def parts (c:UInt8):List UInt8→List (List UInt8)
 | []=>[[]]
 | x :: r=>if x == c then [] :: parts c r else match parts c r with
  | p :: ps=>(x :: p) :: ps
  | []=>[[x]]
theorem zbh (c:UInt8):∀ s,parts c s≠[]
 | []=>by simp [parts]
 | x :: r=>by
  simp only [parts];split
  ·simp
  ·split <;> simp
theorem pf (c:UInt8):∀ s,(parts c s).length=Lib.countByte s c+1
 | []=>rfl
 | x :: r=>by
  have ih:=pf c r;simp only [parts,Lib.countByte,List.count_cons] at ih ⊢;split
  ·rw [az,ih]
  ·split
   ·rename_i p ps hp;rw [hp] at ih;simpa using ih
   ·rename_i hp;exact absurd hp (zbh c r)
theorem sj {c:UInt8}:∀ {s:List UInt8},Lib.indexByte s c < 0→parts c s=[s]
 | [],_=>rfl
 | x :: r,h=>by
  unfold Lib.indexByte at h;simp only [parts];split at h
  ·omega
  ·rename_i hx;rw [if_neg hx]
   have:Lib.indexByte r c < 0:=by
    split at h
    ·rename_i e; simp at e; omega
    ·have:=Lib.indexByte_ge r c; rename_i e; simp at e; omega
   rw [sj this]
theorem sq {c:UInt8}:∀ {s:List UInt8} {k:Nat},Lib.indexByte s c=k→k < s.length∧parts c s=s.take k :: parts c (s.drop (k+1))
 | [],k,h=>by simp [Lib.indexByte] at h
 | x :: r,k,h=>by
  unfold Lib.indexByte at h;simp only [parts];split at h
  ·rename_i hx;have:k=0:=by omega
   subst this;rw [if_pos hx];simp
  ·rename_i hx;rw [if_neg hx];have hge:=Lib.indexByte_ge r c;split at h
   ·omega
   ·cases k with
    | zero=>rename_i e; simp at e; omega
    | succ k =>
     obtain ⟨h1,h2⟩:=sq (s:=r) (k:=k) (c:=c) (by omega);rw [h2];simp [h1]
def rest (c:UInt8) (s:List UInt8):Nat→List UInt8
 | 0=>s
 | i+1=>(rest c s i).drop ((Lib.indexByte (rest c s i) c).toNat+1)
theorem sr {c:UInt8} {s:List UInt8}:∀ i,i < (parts c s).length→parts c (rest c s i)=(parts c s).drop i∧(rest c s i).length≤s.length
 | 0,_=>⟨rfl,ai _⟩
 | i+1,hi=>by
  obtain ⟨h1,h2⟩:=sr (c:=c) (s:=s) i (by omega);rcases (show Lib.indexByte (rest c s i) c < 0∨0≤Lib.indexByte (rest c s i) c by omega) with h | h
  ·rw [sj h] at h1;have:=congrArg List.length h1;simp at this;omega
  ·obtain ⟨k,hk⟩:=fz h;obtain ⟨h3,h4⟩:=sq hk;rw [h4] at h1;have h5:=congrArg List.tail h1;simp only [List.tail_cons,List.tail_drop] at h5;refine ⟨?_,?_⟩
   ·simp only [rest,hk,kb];exact h5
   ·simp only [rest,gh]; omega
theorem rest_next {c:UInt8} {s:List UInt8} {i:Nat} (hi:i+1 < (parts c s).length):∃ k:Nat,Lib.indexByte (rest c s i) c=k∧k < (rest c s i).length∧(parts c s)[i]? = some ((rest c s i).take k)∧rest c s (i+1)=(rest c s i).drop (k+1):=by
 obtain ⟨h1,h2⟩:=sr (c:=c) (s:=s) i (by omega);rcases (show Lib.indexByte (rest c s i) c < 0∨0≤Lib.indexByte (rest c s i) c by omega) with h | h
 ·rw [sj h] at h1;have:=congrArg List.length h1;simp at this;omega
 ·obtain ⟨k,hk⟩:=fz h;obtain ⟨h3,h4⟩:=sq hk;rw [h4] at h1;refine ⟨k,hk,h3,?_,by simp [rest,hk]⟩;have:=congrArg (fun l=>l[0]?) h1;simp only [bg,dw,iz] at this;exact this.symm
theorem rest_last {c:UInt8} {s:List UInt8} {i:Nat} (hi:i+1=(parts c s).length):(parts c s)[i]? = some (rest c s i):=by
 obtain ⟨h1,h2⟩:=sr (c:=c) (s:=s) i (by omega);rcases (show Lib.indexByte (rest c s i) c < 0∨0≤Lib.indexByte (rest c s i) c by omega) with h | h
 ·rw [sj h] at h1;have:=congrArg (fun l=>l[0]?) h1;simp only [bg,dw,iz] at this;exact this.symm
 ·obtain ⟨k,hk⟩:=fz h;obtain ⟨h3,h4⟩:=sq hk;rw [h4] at h1;have hlen:=congrArg List.length h1;have hpos:0 < (parts c ((rest c s i).drop (k+1))).length:=List.length_pos_iff.2 (zbh c _);simp only [az,gh] at hlen;omega
end Go.Abs.Zd

namespace Go.Abs.Zd
variable {os:List AObj} {b w:Nat}
def mem (L:List (List UInt8)) (i:Nat):List AVal:=(L.take i).map AVal.str++List.replicate (L.length - i) (.str [])
theorem mem_len {L:List (List UInt8)} {i:Nat} (h:i≤L.length):(mem L i).length=L.length:=by simp [mem]; omega
theorem mem_set {L:List (List UInt8)} {i:Nat} {x:List UInt8} (h:L[i]? = some x):splice (mem L i) i [.str x]=mem L (i+1):=by
 have hi:=aj h;have h1:((L.take i).map AVal.str).length=i:=by simp; omega
 have h2:L.length - i=(L.length - (i+1))+1:=by omega
 unfold splice mem;rw [List.take_left' h1,h2,o8,List.drop_append,h1];rw [b0 (by rw [h1]; simp),List.take_add_one,h];simp
theorem mem_all (L:List (List UInt8)):mem L L.length=L.map AVal.str:=by simp [mem]
theorem mem_zero (n:Nat) (L:List (List UInt8)) (h:L.length=n):rep n [.str []]=mem L 0:=by
 subst h
 have:∀ n:Nat,(List.replicate n [AVal.str []]).flatten=List.replicate n (.str []):=by
  intro n;induction n with
  | zero=>rfl
  | succ n ih=>rw [o8,oq,ih]; rfl
 unfold rep mem;rw [this];simp
theorem zbg (c:UInt8) (s:List UInt8):Lib.countByte s c≤s.length:=List.count_le_length
theorem split_loop {s:List UInt8} {c:UInt8} (hn:s.length≤1000000) (hb:b≤os.length) :
  ir T (.loop code143L0) ⟨[(0,.val (.str s)),(1,.val (.str [c])),(2,.val (.int .i64 0)),(3,.val (.int .i64 (Lib.countByte s c))),(9,.val (.slice (some (os.length,0)) (Lib.countByte s c+1) (some (Lib.countByte s c+1)))),(10,.val (.int .i64 (0:Nat)))],⟨os++[.cells 1 (mem (parts c s) 0)],b,os.length⟩⟩ =
   some (.exit 0,⟨[(0,.val (.str (rest c s (Lib.countByte s c)))),(9,.val (.slice (some (os.length,0)) (Lib.countByte s c+1) (some (Lib.countByte s c+1)))),(10,.val (.int .i64 (Lib.countByte s c)))],⟨os++[.cells 1 (mem (parts c s) (Lib.countByte s c))],b,os.length⟩⟩):=by
 have hlen:=pf c s;have hcnt:=zbg c s;refine zbk (e:=.exit 0) (fun i=>⟨[(0,.val (.str (rest c s i))),(1,.val (.str [c])),(2,.val (.int .i64 0)),(3,.val (.int .i64 (Lib.countByte s c))),(9,.val (.slice (some (os.length,0)) (Lib.countByte s c+1) (some (Lib.countByte s c+1)))),(10,.val (.int .i64 i))],⟨os++[.cells 1 (mem (parts c s) i)],b,os.length⟩⟩) (Lib.countByte s c) ?_ (by simp) ?_
 ·intro i hi;obtain ⟨k,h1,h2,h3,h4⟩:=rest_next (c:=c) (s:=s) (i:=i) (by omega);have hrl:=(sr (c:=c) (s:=s) i (by omega)).2;have hm:=mem_set h3;have hml:=mem_len (L:=parts c s) (i:=i) (by omega);have hi':(i:Int) < (Lib.countByte s c:Int):=by omega
  have hge:(0:Int)≤i:=by omega
  have hk0:¬ ((k:Int) < 0):=by omega
  have hk1:(k:Int)≤((rest c s i).length:Int):=by omega
  have hk2:IntKind.i64.wrap ((k:Int)+0)=(k:Int):=by rw [pp (by omega) (by omega)]; omega
  have hk3:IntKind.i64.wrap ((k:Int)+1)=((k+1:Nat):Int):=by rw [pp (by omega) (by omega)]; omega
  have hk3':IntKind.i64.wrap ((k:Int))=(k:Int):=by rw [pp (by omega) (by omega)]
  have hw:=q9 (i:=i) (n:=Lib.countByte s c) hi (by omega);have hi1:(i:Int) < (Lib.countByte s c:Int)+1:=by omega
  have hil:i+1≤(parts c s).length:=by omega
  have hk4:(k:Int)+1≤((rest c s i).length:Int):=by omega
  have hk5:(0:Int)≤(k:Int)+1:=by omega
  have htk:List.take ((rest c s i).length - (k+1)) (List.drop (k+1) (rest c s i))=List.drop (k+1) (rest c s i):=ff (by simp);have hm':List.take i (mem (parts c s) i)++AVal.str (List.take k (rest c s i)) :: List.drop (i+1) (mem (parts c s) i)=mem (parts c s) (i+1):=by simpa [splice] using hm
  simp only [h4];simp [code143L0,hi',hge,s173,h1,hk0,hk1,hk2,hk3,hk3',hw,hi1,hb,hil,hml,hm',hk4,hk5,htk];done
 ·simp [code143L0]
end Go.Abs.Zd

namespace Go.Abs.Zd
variable {os:List AObj} {b w:Nat}
theorem zbe:∀ L:List (List UInt8),AVal.idsL (L.map AVal.str)=[]
 | []=>rfl
 | x :: L=>by rw [cf];simp only [AVal.idsL,AVal.ids,zbe L];rfl
theorem zbf (f:Nat→Nat):∀ L:List (List UInt8),AVal.renL f (L.map AVal.str)=L.map AVal.str
 | []=>rfl
 | x :: L=>by rw [cf];simp only [AVal.renL,AVal.ren,zbf f L]
theorem s143 {s:List UInt8} {c:UInt8} (hn:s.length≤1000000) (hb:b≤os.length) :
  xCall T 143 [.str s,.str [c],.int .i64 0,.int .i64 (-1)] ⟨os,b,w⟩ =
   some (.slice (some (os.length,0)) (parts c s).length (some (parts c s).length),⟨os++[.cells 1 ((parts c s).map AVal.str)],b,w⟩):=by
 have hlen:=pf c s;have hcnt:=zbg c s;have hl:=split_loop (os:=os) (c:=c) hn hb;have hz:=mem_zero (Lib.countByte s c+1) (parts c s) hlen;have hlast:=mem_set (rest_last (c:=c) (s:=s) (i:=Lib.countByte s c) hlen.symm);rw [← hlen,mem_all] at hlast;have hml:=mem_len (L:=parts c s) (i:=Lib.countByte s c) (by omega);have hlast':List.take (Lib.countByte s c) (mem (parts c s) (Lib.countByte s c))++AVal.str (rest c s (Lib.countByte s c)) :: List.drop (Lib.countByte s c+1) (mem (parts c s) (Lib.countByte s c))=(parts c s).map AVal.str:=by simpa [splice] using hlast
 have h174:=fun h=>s174 (s:=s) (c:=c) (h:=h)
 rw [hlen];generalize Lib.countByte s c=n at *;have hw1:IntKind.i64.wrap ((n:Int)+1)=((n+1:Nat):Int):=by rw [pp (by omega) (by omega)]; omega
 have hw2:IntKind.i64.wrap ((s.length:Int)+1)=((s.length+1:Nat):Int):=by rw [pp (by omega) (by omega)]; omega
 have hw3:IntKind.i64.wrap (((n:Int)+1) - 1)=(n:Int):=by rw [pp (by omega) (by omega)]; omega
 have hw4:IntKind.i64.wrap (n:Int)=(n:Int):=by rw [pp (by omega) (by omega)]
 have hle:(n:Int)+1≤(s.length:Int)+1:=by omega
 have hnlt:¬ ((s.length:Int)+1 < (n:Int)+1):=by omega
 have g1:(0:Int)≤(n:Int)+1:=by omega
 have g2:((n:Int)+1)*16≤140737488355328:=by omega
 have g3:(n:Int)+1≤9223372036854775807:=by omega
 have g4:((n:Int)+1).toNat=n+1:=by omega
 have g5:(n:Int) < (n:Int)+1:=by omega
 have g6:n+1≤(parts c s).length:=by omega
 have hz':List.replicate (n+1) (AVal.str [])=mem (parts c s) 0:=by simpa [rep] using hz
 simp only [ce] at hl;simp [ea T t143,code143,h174,hw1,hw2,hw3,hw4,hle,hnlt,g1,g2,g3,g4,g5,g6,hz',hl,hml,hlast',hb,jd,lf,zbe,zbf];done
theorem s90 {s:List UInt8} {c:UInt8} (hn:s.length≤1000000) (hb:b≤os.length) :
  xCall T 90 [.str s,.str [c]] ⟨os,b,w⟩=some (.slice (some (os.length,0)) (parts c s).length (some (parts c s).length),⟨os++[.cells 1 ((parts c s).map AVal.str)],b,w⟩):=by
 have h:=s143 (w:=os.length) (c:=c) hn hb;simp [ea T t90,code90,h,jd,lf,zbe,zbf]
theorem parts_le {c:UInt8}:∀ {s:List UInt8},∀ x ∈ parts c s,x.length≤s.length
 | [],x,h=>by simp [parts] at h; simp [h]
 | y :: r,x,h=>by
  have ih:=fun z hz=>parts_le (c:=c) (s:=r) z hz
  simp only [parts] at h;split at h
  ·rcases br.1 h with rfl | h
   ·simp
   ·have:=ih x h; simp; omega
  ·split at h
   ·rename_i p ps hp;rw [hp] at ih;rcases br.1 h with rfl | h
    ·have:=ih p (bh ..); simp; exact this
    ·have:=ih x (bu _ h); simp; omega
   ·simp at h; simp [h]
def ip (s:List UInt8):Bool:=decide (s.length≤64) && (parts 47 s).all wordL
theorem uw:∀ L:List (List UInt8),L.map AVal.str=L.flatMap strCell
 | []=>rfl
 | c :: s=>by rw [cf,ci,uw s];rfl
theorem s25 {s:List UInt8} (hb:b≤os.length):xCall T 25 [.str s] ⟨os,b,w⟩=some (.bool (ip s),⟨os,b,w⟩):=by
 by_cases h64:s.length≤64
 ·have h1:=s90 (os:=os) (b:=b) (w:=os.length) (s:=s) (c:=47) (by omega) hb;have hlen:=pf 47 s;have hcnt:=zbg 47 s;have hall:=fun x hx=>parts_le (c:=47) (s:=s) x hx
  have h2:=s91 (os:=os++[.cells 1 ((parts 47 s).map AVal.str)]) (b:=b) (w:=os.length) (L:=parts 47 s) (a:=some (os.length,0)) (c:=some (parts 47 s).length) (g:=92) (p:=fun x=>!wordL x)
   (Row.mk0 (fun _=>rfl) (by rw [← uw]; simp)) (by omega) (fun x hx w=>s92 (by have:=hall x hx; omega))
  have h64':(s.length:Int)≤64:=by omega
  simp [ea T t25,code25,ip,h64,h64',h1,h2,any_not]
 ·have h64':¬ ((s.length:Int)≤64):=by omega
  simp [ea T t25,code25,ip,h64,h64']
end Go.Abs.Zd

namespace Go.Abs.Zd
def okFrom:UInt8→List UInt8→Bool
 | last,[]=>last != 47
 | last,c :: r=>(wordN c.toNat || (c == 47 && last != 47)) && okFrom c r
def restOk (s:List UInt8):Bool:=match parts 47 s with
 | p :: ps=>(p.all fun c=>wordN c.toNat) && ps.all wordL
 | []=>false
theorem okFrom_is:∀ (s:List UInt8) (last:UInt8),okFrom last s=if last == 47 then (parts 47 s).all wordL else restOk s
 | [],last=>by
  simp only [okFrom,restOk,parts];by_cases h:(last == 47)=true
  ·simp [h,wordL,bne]
  ·simp [h,bne]
 | c :: r,last=>by
  have ih:=okFrom_is r c;simp only [okFrom];by_cases hc:(c == 47)=true
  ·have e:c=47:=by simpa using hc
   subst e;rw [ih];simp only [restOk,parts,beq_self_eq_true,if_true];by_cases h:(last == 47)=true
   ·simp [h,wordL,bne,wordN]
   ·simp [h,wordL,bne,wordN]
  ·rw [ih];rw [if_neg hc];cases hp:parts 47 r with
   | nil=>exact absurd hp (zbh 47 r)
   | cons p ps =>
    simp only [restOk,parts,hp,if_neg hc];simp only [Bool.not_eq_true] at hc;simp only [hc,d8,Bool.or_false,dv,wordL,List.isEmpty_cons,nj,dh,ite_self,Bool.and_assoc]
theorem isClass_ok (s:List UInt8):ip s=(decide (s.length≤64) && okFrom 47 s):=by rw [okFrom_is];simp [ip]
end Go.Abs.Zd

namespace Go.Abs.Zd
variable {os:List AObj} {b w:Nat}
def ahead (s:List UInt8) (i:Nat):UInt8:=((47 :: s)[i]?).getD 0
def badAt (s:List UInt8) (i:Nat) (c:UInt8):Bool:=!(wordN c.toNat || (c == 47 && ahead s i != 47))
def st26 (s:List UInt8) (os:List AObj) (b:Nat) (i:Nat):St:=⟨[(0,.val (.str s)),(3,.val (.int .u8 (ahead s i).toNat)),(4,.val (.int .i64 i))],⟨os,b,os.length⟩⟩
theorem ahead_next {s:List UInt8} {i:Nat} {c:UInt8} (h:s[i]? = some c):ahead s (i+1)=c:=by simp [ahead,h]
theorem body26 {s:List UInt8} {i:Nat} {c:UInt8} (hn:s.length≤9223372036854775807) (hc:s[i]? = some c) :
  ir T code26L0 (st26 s os b i)=some (if badAt s i c then (.ret,⟨[(2,.val (.bool false))],⟨os,b,os.length⟩⟩) else (.normal,st26 s os b (i+1))):=by
 have hlt:=aj hc;have hi':(i:Int) < (s.length:Int):=by omega
 have hge:(0:Int)≤i:=by omega
 have hw:=q9 hlt hn;have hnx:=ahead_next hc;unfold badAt st26;rw [hnx];generalize ahead s i=l
 have hl:(l == 47)=decide (l.toNat=47):=by
  by_cases h:l=47
  ·subst h; rfl
  ·have:¬ l.toNat=47:=fun e=>h (UInt8.toNat_inj.1 e)
   simp [h,this]
 have hcc:(c == 47)=decide (c.toNat=47):=by
  by_cases h:c=47
  ·subst h; rfl
  ·have:¬ c.toNat=47:=fun e=>h (UInt8.toNat_inj.1 e)
   simp [h,this]
 have hbl:(l != 47) = !decide (l.toNat=47):=by rw [← hl]; rfl
 rw [hcc,hbl];generalize hm:l.toNat=m;generalize hnn:c.toNat=n;have e1:((97:Int)≤n)=(97≤n):=by apply propext; omega
 have e2:((n:Int)≤122)=(n≤122):=by apply propext; omega
 have e3:((65:Int)≤n)=(65≤n):=by apply propext; omega
 have e4:((n:Int)≤90)=(n≤90):=by apply propext; omega
 have e5:((48:Int)≤n)=(48≤n):=by apply propext; omega
 have e6:((n:Int)≤57)=(n≤57):=by apply propext; omega
 have e7:((n:Int)=95)=(n=95):=by apply propext; omega
 have e8:((n:Int)=36)=(n=36):=by apply propext; omega
 have e9:((n:Int)=47)=(n=47):=by apply propext; omega
 have e10:((m:Int)=47)=(m=47):=by apply propext; omega
 by_cases c1:97≤n <;> by_cases c2:n≤122 <;> by_cases c3:65≤n <;> by_cases c4:n≤90 <;> by_cases c5:48≤n <;> by_cases c6:n≤57 <;> (try (exfalso; omega)) <;> by_cases c7:n=95 <;> (try (exfalso; omega)) <;> by_cases c8:n=36 <;> (try (exfalso; omega)) <;> by_cases c9:n=47 <;> (try (exfalso; omega)) <;> by_cases c10:m=47
 all_goals simp [code26L0,hi',hge,hc,hnn,hw,wordN,e1,e2,e3,e4,e5,e6,e7,e8,e9,e10,c1,c2,c3,c4,c5,c6,c7,c8,c9,c10]
def badPair (x:UInt8 × UInt8):Bool:=!(wordN x.2.toNat || (x.2 == 47 && x.1 != 47))
theorem zbd:∀ (s:List UInt8) (l:UInt8),okFrom l s=(!(((l :: s).zip s).any badPair) && (((l :: s)[s.length]?).getD 0 != 47))
 | [],l=>by simp [okFrom]
 | c :: r,l=>by
  have ih:=zbd r c;simp only [okFrom,List.zip_cons_cons,List.any_cons,az,jq,badPair,Bool.not_or,Bool.not_not] at ih ⊢;have hh:∀ a b:Bool,(!(!a && !b))=(a || b):=by decide
  rw [ih,Bool.and_assoc,hh]
theorem pair_at {s:List UInt8} {i:Nat} {x:UInt8 × UInt8} (h:((47 :: s).zip s)[i]? = some x):s[i]? = some x.2∧ahead s i=x.1:=by rw [List.getElem?_zip_eq_some] at h;exact ⟨h.2,by simp [ahead,h.1]⟩
theorem s26 {s:List UInt8} (hn:s.length≤9223372036854775807):xCall T 26 [.str s] ⟨os,b,w⟩=some (.bool (ip s),⟨os,b,w⟩):=by
 rw [isClass_ok,zbd];have hzl:((47 :: s).zip s).length=s.length:=by simp
 have hl:=yi (T:=T) (c:=code26L0) badPair ((47 :: s).zip s) (st26 s os b) (fun _=>⟨[(2,.val (.bool false))],⟨os,b,os.length⟩⟩) .ret (.exit 0)
  ⟨[(0,.val (.str s)),(3,.val (.int .u8 (ahead s s.length).toNat))],⟨os,b,os.length⟩⟩ ?_ (by simp) (by simp) (by rw [hzl]; simp [code26L0,st26])
 ·have h0:st26 s os b 0=⟨[(0,.val (.str s)),(3,.val (.int .u8 47)),(4,.val (.int .i64 0))],⟨os,b,os.length⟩⟩:=rfl;rw [h0] at hl;rcases hl with ⟨h1,h2⟩ | ⟨j,x,h1,h2,_,h4⟩
  ·rw [h1]
   have hl47:((ahead s s.length).toNat=47)=(ahead s s.length=47):=by apply propext;exact ⟨fun e=>UInt8.toNat_inj.1 e,fun e=>by rw [e]; rfl⟩
   have hah:((47 :: s)[s.length]?).getD 0=ahead s s.length:=rfl;rw [hah];have e1:(((ahead s s.length).toNat:Int)=47)=(ahead s s.length=47):=by rw [← hl47]; apply propext; omega
   by_cases h64:s.length≤64
   ·have h64':(s.length:Int)≤64:=by omega
    by_cases h47:ahead s s.length=47
    ·simp [ea T t26,code26,h2,h64,h64',e1,h47]
    ·simp [ea T t26,code26,h2,h64,h64',e1,h47]
   ·have h64':¬ ((s.length:Int)≤64):=by omega
    simp [ea T t26,code26,h2,h64,h64']
  ·have hany:((47 :: s).zip s).any badPair=true:=List.any_eq_true.2 ⟨x,bz h1,h2⟩;rw [hany];simp [ea T t26,code26,h4]
 ·intro i x hx;obtain ⟨h1,h2⟩:=pair_at hx;have:=body26 (os:=os) (b:=b) hn h1;have hb:badAt s i x.2=badPair x:=by simp only [badAt,badPair,h2]
  rw [hb] at this;exact this
end Go.Abs.Zd

namespace Go.Abs.Zd
variable {os:List AObj} {b w:Nat}
def en (c:UInt8):List UInt8→Bool
 | []=>false
 | x :: _=>decide (x=c)
theorem s140 {s:List UInt8} {c:UInt8}:xCall T 140 [.str s,.str [c]] ⟨os,b,w⟩=some (.bool (en c s),⟨os,b,w⟩):=by
 cases s with
 | nil=>simp [ea T t140,code140,en]
 | cons x r =>
  have h1:(1:Int)≤(r.length:Int)+1:=by omega
  simp [ea T t140,code140,en,h1]
theorem s88 {s:List UInt8} {c:UInt8}:xCall T 88 [.str s,.str [c]] ⟨os,b,w⟩=some (.bool (en c s),⟨os,b,w⟩):=by have h:=s140 (os:=os) (b:=b) (w:=os.length) (s:=s) (c:=c);simp [ea T t88,code88,h]
theorem s137 {s:List UInt8} {c:UInt8} (hn:s.length≤9223372036854775807):xCall T 137 [.str s,.str [c]] ⟨os,b,w⟩=some (.tuple [.str (if en c s then s.tail else s),.bool (en c s)],⟨os,b,w⟩):=by
 have h:=s140 (os:=os) (b:=b) (w:=os.length) (s:=s) (c:=c);cases s with
 | nil=>simp [ea T t137,code137,en] at h ⊢; simp [h]
 | cons x r =>
  by_cases e:x=c
  ·have h1:(1:Int)≤(r.length:Int)+1:=by omega
   simp [ea T t137,code137,en,e,h1] at h ⊢;simp [h,h1]
  ·simp [ea T t137,code137,en,e] at h ⊢;simp [h]
theorem s85 {s:List UInt8} {c:UInt8} (hn:s.length≤9223372036854775807):xCall T 85 [.str s,.str [c]] ⟨os,b,w⟩=some (.tuple [.str (if en c s then s.tail else s),.bool (en c s)],⟨os,b,w⟩):=by have h:=s137 (os:=os) (b:=b) (w:=os.length) (c:=c) hn;simp [ea T t85,code85,h]
end Go.Abs.Zd

namespace Go.Abs.Zd
variable {os:List AObj} {b w:Nat}
def elemV (s:List UInt8):AVal:=.tuple [.str (if en 91 s then s.tail else []),.bool (en 91 s)]
theorem s36 {s:List UInt8} (hn:s.length≤9223372036854775807):xCall T 36 [.str s] ⟨os,b,w⟩=some (elemV s,⟨os,b,w⟩):=by
 have h:=s85 (os:=os) (b:=b) (w:=os.length) (c:=91) hn;by_cases e:en 91 s=true
 ·simp [ea T t36,code36,h,elemV,e]
 ·simp [ea T t36,code36,h,elemV,e]
end Go.Abs.Zd

namespace Go.Abs.Zd
variable {os:List AObj} {b w:Nat}
theorem nv (x:UInt8) (n:Nat) (hn:n < 256):((x.toNat:Int)=(n:Int))=(x=UInt8.ofNat n):=by
 apply propext;constructor
 ·intro h;apply UInt8.toNat_inj.1;have e:(UInt8.ofNat n).toNat=n:=by simp; omega
  omega
 ·intro h;subst h;have e:(UInt8.ofNat n).toNat=n:=by simp; omega
  omega
def isRef (s:List UInt8):Bool:=en 76 s || en 91 s
theorem s30 {s:List UInt8}:xCall T 30 [.str s] ⟨os,b,w⟩=some (.bool (isRef s),⟨os,b,w⟩):=by
 have h1:=s88 (os:=os) (b:=b) (w:=os.length) (s:=s) (c:=76);have h2:=s88 (os:=os) (b:=b) (w:=os.length) (s:=s) (c:=91);by_cases e:en 76 s=true
 ·simp [ea T t30,code30,h1,h2,isRef,e]
 ·simp [ea T t30,code30,h1,h2,isRef,e]
end Go.Abs.Zd

namespace Go.Abs.Zd
variable {os:List AObj} {b w:Nat}
def ends (c:UInt8) (s:List UInt8):Bool:=decide (1≤s.length) && decide (s.drop (s.length - 1)=[c])
theorem s141 {s:List UInt8} {c:UInt8} (hn:s.length≤9223372036854775807):xCall T 141 [.str s,.str [c]] ⟨os,b,w⟩=some (.bool (ends c s),⟨os,b,w⟩):=by
 by_cases h:1≤s.length
 ·have h1:(1:Int)≤(s.length:Int):=by omega
  have h2:IntKind.i64.wrap ((s.length:Int) - 1)=((s.length - 1:Nat):Int):=by rw [pp (by omega) (by omega)]; omega
  have h3:((s.length - 1:Nat):Int)≤(s.length:Int):=by omega
  have h4:List.take (s.length - (s.length - 1)) (s.drop (s.length - 1))=s.drop (s.length - 1):=ff (by simp);simp [ea T t141,code141,ends,h,h1,h2,h3,h4]
 ·have h1:¬ ((1:Int)≤(s.length:Int)):=by omega
  simp [ea T t141,code141,ends,h,h1]
theorem s89 {s:List UInt8} {c:UInt8} (hn:s.length≤9223372036854775807):xCall T 89 [.str s,.str [c]] ⟨os,b,w⟩=some (.bool (ends c s),⟨os,b,w⟩):=by have h:=s141 (os:=os) (b:=b) (w:=os.length) (c:=c) hn;simp [ea T t89,code89,h]
end Go.Abs.Zd

namespace Go.Abs.Zd
variable {os:List AObj} {b w:Nat}
def isObj (s:List UInt8):Bool:=decide (2≤s.length) && en 76 s && ends 59 s
def classV (s:List UInt8):AVal:=if isObj s then .tuple [.str ((s.drop 1).take (s.length - 2)),.bool true] else .tuple [.str [],.bool false]
theorem s34 {s:List UInt8} (hn:s.length≤9223372036854775807):xCall T 34 [.str s] ⟨os,b,w⟩=some (classV s,⟨os,b,w⟩):=by
 have h1:=s88 (os:=os) (b:=b) (w:=os.length) (s:=s) (c:=76);have h2:=s89 (os:=os) (b:=b) (w:=os.length) (c:=59) hn;by_cases h:2≤s.length
 ·have c1:¬ ((s.length:Int) < 2):=by omega
  have c2:IntKind.i64.wrap ((s.length:Int) - 1)=((s.length - 1:Nat):Int):=by rw [pp (by omega) (by omega)]; omega
  have c3:((s.length - 1:Nat):Int)≤(s.length:Int):=by omega
  have c4:(1:Int)≤((s.length - 1:Nat):Int):=by omega
  have c5:s.length - 1 - 1=s.length - 2:=by omega
  by_cases e1:en 76 s=true <;> by_cases e2:ends 59 s=true
  all_goals simp [ea T t34,code34,classV,isObj,h,c1,c2,c3,c4,c5,h1,h2,e1,e2]
 ·have c1:(s.length:Int) < 2:=by omega
  simp [ea T t34,code34,classV,isObj,h,c1]
end Go.Abs.Zd

namespace Go.Abs.Zd
variable {os:List AObj} {b w:Nat}
theorem zbc {s:List UInt8} {x c:UInt8} (h:s[0]? = some x):en c s=decide (x=c):=by
 cases s with
 | nil=>simp at h
 | cons y r=>simp at h; subst h; rfl
theorem xe {s:List UInt8} {x c:UInt8} (h:s[s.length - 1]? = some x):ends c s=decide (x=c):=by
 have hl:=aj h;unfold ends
 have:s.drop (s.length - 1)=[x]:=by rw [ed hl,b0 (by omega)];rw [ah hl] at h;cases h; rfl
 rw [this];simp; omega
section
attribute [-simp] getElem?_pos getElem?_neg
theorem s33 {s:List UInt8} (hn:s.length≤9223372036854775807):xCall T 33 [.str s] ⟨os,b,w⟩=some (classV s,⟨os,b,w⟩):=by
 by_cases h:2≤s.length
 ·obtain ⟨x,hx⟩:∃ x,s[0]? = some x:=⟨_,ah (by omega)⟩;obtain ⟨y,hy⟩:∃ y,s[s.length - 1]? = some y:=⟨_,ah (by omega)⟩;have b1:=zbc (c:=76) hx;have e1:=xe (c:=59) hy;have u1:((x.toNat:Int)=76)=(x=76):=nv x 76 (by omega);have u2:((y.toNat:Int)=59)=(y=59):=nv y 59 (by omega);have ht:((s.length:Int) - 1).toNat=s.length - 1:=by omega
  have hq:s.length - 1 - 1=s.length - 2:=by omega
  by_cases c1:x=76 <;> by_cases c2:y=59
  all_goals simp (disch:=omega) [au t33,code33,classV,isObj,iltT,iltF,ileT,ileF,nltT,nltF,nleT,nleF,de,h,hx,hy,b1,e1,u1,u2,c1,c2,ht,hq]
 ·simp (disch:=omega) [au t33,code33,classV,isObj,iltT,h]
end
end Go.Abs.Zd

namespace Go.Abs.Zd
def bare (s:List UInt8):List UInt8:=s.dropWhile (· == 91)
def dims (s:List UInt8):Nat:=s.length - (bare s).length
theorem qz (s:List UInt8):(bare s).length≤s.length:=by
 unfold bare;induction s with
 | nil=>simp
 | cons x r ih =>
  rw [List.dropWhile_cons];split
  ·simp; omega
  ·simp
theorem oh:∀ s:List UInt8,s=List.replicate (dims s) 91++bare s
 | []=>rfl
 | x :: r=>by
  have ih:=oh r;have hl:=qz r;unfold dims bare at *;rw [List.dropWhile_cons];split
  ·rename_i h;have:x=91:=by simpa using h
   subst this;have e:(91 :: r).length - (List.dropWhile (· == 91) r).length=(r.length - (List.dropWhile (· == 91) r).length)+1:=by simp only [az]; omega
   rw [e,o8,bl,← ih]
  ·simp
theorem bare_head {s r:List UInt8} {c:UInt8} (h:bare s=c :: r):c≠91:=by have:=List.head?_dropWhile_not (fun x:UInt8=>x == 91) s;unfold bare at h;rw [h] at this;simpa using this
theorem bare_of {n:Nat} {c:UInt8} {r:List UInt8} (h:c≠91):bare (List.replicate n 91++c :: r)=c :: r:=by
 unfold bare;induction n with
 | zero=>simp [h]
 | succ n ih=>rw [o8,bl,List.dropWhile_cons]; simpa using ih
theorem dims_of {n:Nat} {c:UInt8} {r:List UInt8} (h:c≠91):dims (List.replicate n 91++c :: r)=n:=by unfold dims;rw [bare_of h];simp
def nameL (r:List UInt8):Option Nat:=if 0≤Lib.indexByte r 59 then (if ip (r.take (Lib.indexByte r 59).toNat) then some (Lib.indexByte r 59).toNat else none) else none
def gu (s:List UInt8):Nat:=match bare s with
 | []=>0
 | c :: r=>if 8 < dims s then 0
  else if c=73∨(c=74∧dims s=0)∨(c=66∧0 < dims s) then dims s+1
  else if c=76 then (match nameL r with | some k=>dims s+k+2 | none=>0) else 0
theorem zab {c:UInt8}:∀ {r:List UInt8} {k:Nat},Lib.indexByte r c=k→k < r.length∧r.take k++c :: r.drop (k+1)=r∧c ∉ r.take k
 | [],k,h=>by simp [Lib.indexByte] at h
 | x :: r,k,h=>by
  unfold Lib.indexByte at h;split at h
  ·rename_i hx;have hx:x=c:=by simpa using hx
   have:k=0:=by omega
   subst this; subst hx;simp
  ·rename_i hx;have hx:¬ x=c:=by simpa using hx
   have hge:=Lib.indexByte_ge r c;split at h
   ·omega
   ·cases k with
    | zero=>rename_i e; simp at e; omega
    | succ k =>
     obtain ⟨h1,h2,h3⟩:=zab (r:=r) (k:=k) (c:=c) (by omega);refine ⟨by simp; omega,by simpa using h2,?_⟩;simp only [List.take_succ_cons,br,not_or];exact ⟨fun e=>hx e.symm,h3⟩
theorem ib_of {c:UInt8}:∀ {a b:List UInt8},c ∉ a→Lib.indexByte (a++c :: b) c=a.length
 | [],b,_=>by simp [Lib.indexByte]
 | x :: a,b,h=>by
  have h1:¬ x=c:=fun e=>h (by simp [e])
  have ih:=ib_of (a:=a) (b:=b) (c:=c) fun h'=>h (bu _ h')
  simp only [bl];unfold Lib.indexByte;simp [h1,ih]
theorem parts_mem {c y:UInt8}:∀ {s:List UInt8},y ∈ s→y≠c→∃ p ∈ parts c s,y ∈ p
 | [],h,_=>by cases h
 | x :: r,h,hy=>by
  simp only [parts];rcases br.1 h with rfl | h
  ·rw [if_neg (by simpa using hy)];cases hp:parts c r with
   | nil=>exact ⟨_,fb _,fb _⟩
   | cons p ps=>exact ⟨_,bh ..,bh ..⟩
  ·obtain ⟨p,hp,hyp⟩:=parts_mem h hy;split
   ·exact ⟨p,bu _ hp,hyp⟩
   ·cases hq:parts c r with
    | nil=>rw [hq] at hp; cases hp
    | cons q ps =>
     rw [hq] at hp;rcases br.1 hp with rfl | hp
     ·exact ⟨_,bh ..,bu _ hyp⟩
     ·exact ⟨p,bu _ hp,hyp⟩
theorem xd {s:List UInt8} (h:ip s=true):(59:UInt8) ∉ s:=by intro hm;obtain ⟨p,hp,hy⟩:=parts_mem (c:=47) hm (by decide);simp only [ip,av,al] at h;have:=h.2 p hp;simp only [wordL,av,al] at this;have:=this.2 59 hy;simp [wordN] at this
theorem isClass_ne {s:List UInt8} (h:ip s=true):s≠[]:=by rintro rfl;simp [ip,parts,wordL] at h
theorem vr {r:List UInt8} {k:Nat} (h:nameL r=some k):k < r.length∧r=r.take k++59 :: r.drop (k+1)∧ip (r.take k)=true:=by
 unfold nameL at h;split at h
 ·rename_i h0;obtain ⟨j,hj⟩:=fz h0;rw [hj] at h;simp only [kb] at h;split at h
  ·rename_i hc;cases h;obtain ⟨h1,h2,_⟩:=zab hj;exact ⟨h1,h2.symm,hc⟩
  ·cases h
 ·cases h
theorem nameL_of {a b:List UInt8} (h:ip a=true):nameL (a++59 :: b)=some a.length:=by have:=ib_of (b:=b) (xd h);unfold nameL;rw [this,if_pos (by omega)];simp only [kb,List.take_left',h,if_true]
theorem si (s:List UInt8):gu s≤s.length:=by
 have hb:=oh s;have hl:=congrArg List.length hb;simp only [aq,List.length_replicate] at hl;unfold gu;cases hbs:bare s with
 | nil=>simp
 | cons c r =>
  rw [hbs] at hl;simp only [az] at hl;simp only;split
  ·omega
  ·split
   ·omega
   ·split
    ·cases hn:nameL r with
     | none=>simp
     | some k=>have:=(vr hn).1; simp only; omega
    ·omega
inductive Ty:List UInt8→Prop
 | one (n:Nat) (c:UInt8) (h:n≤8) (hc:c=73∨(c=74∧n=0)∨(c=66∧0 < n)):Ty (List.replicate n 91++[c])
 | obj (n:Nat) (a:List UInt8) (h:n≤8) (ha:ip a=true):Ty (List.replicate n 91++76 :: (a++[59]))
theorem ty_cut {t:List UInt8} (ht:Ty t) (u:List UInt8):gu (t++u)=t.length:=by
 cases ht with
 | one n c h hc =>
  have hc91:c≠91:=by rcases hc with e | ⟨e,_⟩ | ⟨e,_⟩ <;> (subst e; decide)
  have hb:=bare_of (n:=n) (r:=u) hc91;have hd:=dims_of (n:=n) (r:=u) hc91;rw [show List.replicate n 91++[c]++u=List.replicate n 91++c :: u by simp];unfold gu;rw [hb,hd];simp only;rw [if_neg (by omega),if_pos hc];simp
 | obj n a h ha =>
  have hb:=bare_of (n:=n) (c:=76) (r:=a++59 :: u) (by decide);have hd:=dims_of (n:=n) (c:=76) (r:=a++59 :: u) (by decide);rw [show List.replicate n 91++76 :: (a++[59])++u=List.replicate n 91++76 :: (a++59 :: u) by simp];unfold gu;rw [hb,hd];simp only;rw [if_neg (by omega),if_neg (by simp)];simp only [if_true,nameL_of ha];simp;omega
theorem cut_ty {s:List UInt8} (h:gu s≠0):Ty (s.take (gu s)):=by
 have hb:=oh s;revert h;unfold gu;cases hbs:bare s with
 | nil=>simp
 | cons c r =>
  rw [hbs] at hb;simp only;generalize hn:dims s=n at *;split
  ·simp
  ·rename_i h8;split
   ·rename_i hc;intro _
    have:s.take (n+1)=List.replicate n 91++[c]:=by rw [hb,List.take_append,List.length_replicate,ff (by simp),show n+1 - n=1 by omega];rfl
    rw [this];exact .one n c (by omega) hc
   ·split
    ·rename_i hc;subst hc;cases hn':nameL r with
     | none=>simp
     | some k =>
      intro _;obtain ⟨k1,k2,k3⟩:=vr hn';simp only
      have:s.take (n+k+2)=List.replicate n 91++76 :: (r.take k++[59]):=by
       rw [hb,List.take_append,List.length_replicate,ff (by simp; omega),show n+k+2 - n=(k+1)+1 by omega,List.take_succ_cons];congr 2;conv=>lhs; rw [k2]
       rw [List.take_append];have hk:(r.take k).length=k:=by simp; omega
       rw [hk,ff (by omega),show k+1 - k=1 by omega];rfl
      rw [this];exact .obj n _ (by omega) k3
    ·simp
theorem ty_ne {t:List UInt8} (ht:Ty t):t≠[]:=by cases ht <;> simp
def isTy (s:List UInt8):Bool:=decide (s≠[]) && decide (gu s=s.length)
theorem isTy_iff (s:List UInt8):isTy s=true ↔ Ty s:=by
 simp only [isTy,av,decide_eq_true_eq];constructor
 ·rintro ⟨h1,h2⟩
  have h3:gu s≠0:=by rw [h2];intro e;exact h1 (bq e)
  have:=cut_ty h3;rwa [h2,List.take_length] at this
 ·intro h;have:=ty_cut h [];rw [co] at this;exact ⟨ty_ne h,this⟩
theorem isTy_take {s:List UInt8} {n:Nat} (hn:n≤s.length) (h:isTy (s.take n)=true):n=gu s:=by have h1:=ty_cut ((isTy_iff _).1 h) (s.drop n);rw [List.take_append_drop] at h1;rw [h1]; simp; omega
theorem isTy_cut {s:List UInt8} (h:gu s≠0):isTy (s.take (gu s))=true:=(isTy_iff _).2 (cut_ty h)
end Go.Abs.Zd

namespace Go.Abs.Zd
variable {os:List AObj} {b w:Nat} {β:Type}
section
attribute [-simp] getElem?_pos getElem?_neg
theorem l171 {h:Heap} (k:AExit→St→Option β):∀ s:List UInt8,xK T (.loop code171L0) ⟨[(0,.val (.str s)),(1,.val (.int .u8 91))],h⟩ (k:=⟨k⟩)=k (.exit 0) ⟨[(0,.val (.str (bare s)))],h⟩
 | []=>by rw [cg];simp [code171L0,bare]
 | x :: r=>by
  have ih:=l171 (h:=h) k r;have e:((x.toNat:Int)=91)=(x=91):=nv x 91 (by omega);rw [cg];generalize ACode.loop code171L0=L at ih ⊢;by_cases c:x=91
  ·simp (disch:=omega) [code171L0,iltT,ileT,nltT,e,c,ih,bare,List.dropWhile_cons,bg]
  ·simp (disch:=omega) [code171L0,iltT,ileT,nltT,e,c,bare,List.dropWhile_cons,bg]
end
theorem s171 {s:List UInt8}:xCall T 171 [.str s,.int .u8 91] ⟨os,b,w⟩=some (.str (bare s),⟨os,b,w⟩):=by simp [au t171,code171,l171]
theorem s139 {s:List UInt8}:xCall T 139 [.str s,.str [91]] ⟨os,b,w⟩=some (.str (bare s),⟨os,b,w⟩):=by
 by_cases h:s=[]
 ·subst h;simp [au t139,code139,bare]
 ·simp [au t139,code139,h,s171]
def cutV (c:UInt8) (s:List UInt8):AVal:=if 0≤Lib.indexByte s c then .tuple [.str (s.take (Lib.indexByte s c).toNat),.str (s.drop ((Lib.indexByte s c).toNat+1)),.bool true] else .tuple [.str s,.str [],.bool false]
theorem s172 {s:List UInt8} {c:UInt8} (hn:s.length≤9223372036854775807):xCall T 172 [.str s,.str [c]] ⟨os,b,w⟩=some (cutV c s,⟨os,b,w⟩):=by
 have h5:=fun h=>s205 (s:=s) (c:=c) (h:=h)
 by_cases h:0≤Lib.indexByte s c
 ·obtain ⟨k,hk⟩:=fz h;obtain ⟨k1,_⟩:=zab hk;have e3:((k:Int)+1).toNat=k+1:=by omega
  have hv:cutV c s = .tuple [.str (s.take k),.str (s.drop (k+1)),.bool true]:=by unfold cutV; rw [hk,if_pos (by omega)]; rfl
  rw [hv];simp (disch:=omega) [-getElem?_pos,-getElem?_neg,au t172,code172,h5,hk,iltT,ileT,nltT,nleT,de,e3]
 ·have hv:cutV c s = .tuple [.str s,.str [],.bool false]:=by unfold cutV; rw [if_neg h]
  rw [hv];simp (disch:=omega) [au t172,code172,h5,h]
theorem s138 {s:List UInt8} {c:UInt8} (hn:s.length≤9223372036854775807):xCall T 138 [.str s,.str [c]] ⟨os,b,w⟩=some (cutV c s,⟨os,b,w⟩):=by
 have h:=fun w=>s172 (os:=os) (b:=b) (w:=w) (c:=c) hn
 unfold cutV at h ⊢;by_cases h0:0≤Lib.indexByte s c
 ·simp only [if_pos h0] at h ⊢;simp [au t138,code138,h]
 ·simp only [if_neg h0] at h ⊢;simp [au t138,code138,h]
theorem dims_eq {s r:List UInt8} {c:UInt8} (h:bare s=c :: r):s.length=dims s+(r.length+1):=by have:=congrArg List.length (oh s);simpa [h] using this
section
attribute [-simp] getElem?_pos getElem?_neg
theorem s86 {s:List UInt8} (hn:s.length≤9223372036854775807) (hb:b≤os.length):xCall T 86 [.str s] ⟨os,b,w⟩=some (.str (s.take (gu s)),⟨os,b,w⟩):=by
 have h139:=fun w=>s139 (os:=os) (b:=b) (w:=w) (s:=s)
 have hl:=qz s;have hd:((s.length:Int) - (bare s).length)=(dims s:Nat):=by unfold dims; omega
 have hle:dims s≤s.length:=by unfold dims; omega
 cases hbs:bare s with
 | nil =>
  simp only [hbs] at h139;simp [au t86,code86,bg,h139,gu,hbs]
 | cons c r =>
  simp only [hbs] at h139;clear hd;have hlen:=dims_eq hbs
  have hcut:gu s=if 8 < dims s then 0 else if c=73∨(c=74∧dims s=0)∨(c=66∧0 < dims s) then dims s+1 else if c=76 then (match nameL r with | some k=>dims s+k+2 | none=>0) else 0:=by unfold gu; rw [hbs] <;> rfl
  rw [hcut];clear hl hcut;generalize dims s=d at hlen hle ⊢;have hd:(s.length:Int) - ((r.length:Int)+1)=d:=by omega
  have e73:((c.toNat:Int)=73)=(c=73):=nv c 73 (by omega);have e74:((c.toNat:Int)=74)=(c=74):=nv c 74 (by omega);have e66:((c.toNat:Int)=66)=(c=66):=nv c 66 (by omega);have e76:((c.toNat:Int)=76)=(c=76):=nv c 76 (by omega);have ht1:((d:Int)+1).toNat=d+1:=by omega
  by_cases h8:8 < d
  ·simp (disch:=omega) [au t86,code86,bg,h139,hd,de,iltT,h8]
  ·by_cases c73:c=73
   ·simp (disch:=omega) [au t86,code86,bg,h139,hd,de,iltT,iltF,ileT,nltT,nleT,h8,e73,c73,ht1]
   ·by_cases c74:c=74
    ·subst c74;by_cases d0:d=0
     ·simp (disch:=omega) [au t86,code86,bg,h139,hd,de,iltT,iltF,ileT,nltT,nleT,h8,d0,ht1]
     ·simp (disch:=omega) [au t86,code86,bg,h139,hd,de,iltT,iltF,ileT,nltT,nleT,h8,d0,ieqF,ht1]
    ·by_cases c66:c=66
     ·subst c66;by_cases d0:0 < d
      ·simp (disch:=omega) [au t86,code86,bg,h139,hd,de,iltT,iltF,ileT,nltT,nleT,h8,d0,ht1]
      ·simp (disch:=omega) [au t86,code86,bg,h139,hd,de,iltT,iltF,ileT,nltT,nleT,h8,d0,ht1]
     ·by_cases c76:c=76
      ·subst c76;have h138:=fun w=>s138 (os:=os) (b:=b) (w:=w) (s:=r) (c:=59) (by omega)
       have htr:List.take (r.length+1 - 1) r=r:=by simp
       by_cases hi:0≤Lib.indexByte r 59
       ·obtain ⟨k,hk⟩:=fz hi;obtain ⟨k1,_⟩:=zab hk;have h25:=fun w=>s25 (w:=w) (s:=r.take k) hb
        have hmin:min k r.length=k:=by omega
        simp only [cutV,hk,Int.natCast_nonneg,if_true,kb] at h138;have ht2:((d:Int)+k+2).toNat=d+k+2:=by omega
        have hnm:nameL r=if ip (r.take k)=true then some k else none:=by unfold nameL; rw [hk,if_pos (by omega)]; rfl
        by_cases hc:ip (r.take k)=true
        ·simp (disch:=omega) [au t86,code86,bg,h139,hd,de,iltT,iltF,ileT,nltT,nleT,h8,h138,h25,hc,hnm,hmin,ht2]
        ·simp (disch:=omega) [au t86,code86,bg,h139,hd,de,iltT,iltF,ileT,nltT,nleT,h8,h138,h25,hc,hnm]
       ·have hnm:nameL r=none:=by unfold nameL; rw [if_neg hi]
        simp only [cutV,if_neg hi] at h138;simp (disch:=omega) [au t86,code86,bg,h139,hd,de,iltT,iltF,ileT,nltT,nleT,h8,h138,hnm]
      ·simp (disch:=omega) [au t86,code86,bg,h139,hd,de,iltT,iltF,ileT,nltT,nleT,h8,e73,e74,e66,e76,c73,c74,c66,c76]
end
theorem s27 {s:List UInt8} (hn:s.length≤9223372036854775807) (hb:b≤os.length):xCall T 27 [.str s] ⟨os,b,w⟩=some (.bool (isTy s),⟨os,b,w⟩):=by
 have h:=fun w=>s86 (w:=w) hn hb
 have hc:=si s
 have e:(s.take (gu s)=s)=(gu s=s.length):=by
  apply propext;constructor
  ·intro e;have:=congrArg List.length e;simp at this; omega
  ·intro e; rw [e,List.take_length]
 by_cases h0:s=[]
 ·simp [au t27,code27,isTy,h0]
 ·simp [au t27,code27,isTy,h0,h,e]
end Go.Abs.Zd

namespace Go.Abs.Zd
variable {os:List AObj} {b w:Nat} {β:Type}
def objR (s:List UInt8):Bool:=decide (3≤s.length) && en 76 s && ends 59 s && ip ((s.drop 1).take (s.length - 2))
theorem ends_app {a:List UInt8} {c x:UInt8}:ends c (a++[x])=decide (x=c):=by apply xe;simp
theorem objR_name (r:List UInt8):objR (76 :: r)=match nameL r with | some k=>decide (k+1=r.length) | none=>false:=by
 cases hn:nameL r with
 | some k =>
  obtain ⟨h1,h2,h3⟩:=vr hn;simp only;by_cases hk:k+1=r.length
  ·have hd:r.drop (k+1)=[]:=b0 (by omega);rw [hd] at h2;have hne:r.take k≠[]:=isClass_ne h3;have hk0:k≠0:=by rintro rfl; simp at hne
   have e1:ends 59 (76 :: r)=true:=by rw [h2,show (76:UInt8) :: (r.take k++[59])=(76 :: r.take k)++[59] by rfl,ends_app]; rfl
   have e2:((76 :: r).drop 1).take ((76 :: r).length - 2)=r.take k:=by simp only [List.drop_succ_cons,eo,az];congr 1; omega
   unfold objR;rw [e1,e2,h3];simp [en,hk];omega
  ·simp only [hk,decide_false];unfold objR;rw [Bool.eq_false_iff];intro hc;simp only [av,decide_eq_true_eq] at hc;obtain ⟨⟨⟨c1,_⟩,c2⟩,c3⟩:=hc
   have e2:((76 :: r).drop 1).take ((76 :: r).length - 2)=r.take (r.length - 1):=by simp only [List.drop_succ_cons,eo,az];congr 1
   rw [e2] at c3;refine xd c3 ?_
   have:(r.take (r.length - 1))[k]? = some 59:=by rw [et (by omega),h2,ak (by simp; omega)];simp [show min k r.length=k by omega]
   exact bz this
 | none =>
  simp only;unfold objR;rw [Bool.eq_false_iff];intro hc;simp only [av,decide_eq_true_eq] at hc;obtain ⟨⟨⟨c1,_⟩,c2⟩,c3⟩:=hc;simp only [az] at c1
  have e2:((76 :: r).drop 1).take ((76 :: r).length - 2)=r.take (r.length - 1):=by simp only [List.drop_succ_cons,eo,az];congr 1
  rw [e2] at c3;obtain ⟨y,hy⟩:∃ y,r[r.length - 1]? = some y:=⟨_,ah (by omega)⟩
  have hl:(76 :: r)[(76 :: r).length - 1]? = some y:=by rw [show (76 :: r).length - 1=(r.length - 1)+1 by simp; omega,jq]; exact hy
  rw [xe hl] at c2;simp only [decide_eq_true_eq] at c2;subst c2
  have hr:r=r.take (r.length - 1)++59 :: []:=by
   have:r.drop (r.length - 1)=[59]:=by have hlt:=aj hy;rw [ed hlt,b0 (by omega)];rw [ah hlt] at hy;rw [dg hy]
   rw [← this,List.take_append_drop]
  rw [hr,nameL_of c3] at hn;cases hn
theorem cutN_eq {s r:List UInt8} {c:UInt8} (hbs:bare s=c :: r):gu s=if 8 < dims s then 0 else if c=73∨(c=74∧dims s=0)∨(c=66∧0 < dims s) then dims s+1 else if c=76 then (match nameL r with | some k=>dims s+k+2 | none=>0) else 0:=by unfold gu; rw [hbs] <;> rfl
theorem refTy_eq (s:List UInt8):isTy s=(!decide (8 < dims s) && ((decide (0 < dims s) && decide (bare s=[66])) || (decide (bare s=[73]) || ((decide (dims s=0) && decide (bare s=[74])) || objR (bare s))))):=by
 cases hbs:bare s with
 | nil =>
  have:gu s=0:=by unfold gu; rw [hbs]
  have ho:objR []=false:=rfl;unfold isTy;rw [this,ho];cases s <;> simp
 | cons c r =>
  have hlen:=dims_eq hbs;have hcut:=cutN_eq hbs;have hne:s≠[]:=by rintro rfl; simp [bare] at hbs
  unfold isTy;rw [hcut,hlen];generalize dims s=d at *;have hr0:(r=[]) ↔ r.length=0:=by cases r <;> simp
  by_cases h8:8 < d
  ·simp [h8,hne]
  ·by_cases c73:c=73
   ·subst c73;have:objR (73 :: r)=false:=by simp [objR,en]
    by_cases hr:r=[]
    ·simp [h8,hne,this,hr]
    ·have:r.length≠0:=by rwa [Ne,← hr0]
     simp [h8,hne, *]
   ·by_cases c76:c=76
    ·subst c76;rw [objR_name];cases hn:nameL r with
     | none=>simp [h8,hne]
     | some k =>
      simp only [h8,hne,ne_eq,not_false_iff,decide_true,dh,if_false,if_true];have:(d+k+2=d+(r.length+1))=(k+1=r.length):=by apply propext; omega
      simp [this]
    ·have hob:objR (c :: r)=false:=by simp [objR,en,c76]
     by_cases c74:c=74
     ·subst c74;by_cases d0:d=0 <;> by_cases hr:r=[]
      ·subst d0; subst hr; simp [hne]
      ·have:r.length≠0:=by rwa [Ne,← hr0]
       subst d0; simp [hne,hob,hr,this]
      ·simp [h8,hne,hob,d0]
      ·simp [h8,hne,hob,d0]
     ·by_cases c66:c=66
      ·subst c66;by_cases d0:0 < d <;> by_cases hr:r=[]
       ·subst hr; simp [h8,hne,hob,d0]
       ·have:r.length≠0:=by rwa [Ne,← hr0]
        simp [h8,hne,hob,d0,hr,this]
       ·simp [h8,hne,hob,d0]
       ·simp [h8,hne,hob,d0]
      ·simp [h8,hne,hob,c73,c74,c66,c76]
theorem dims_get {s:List UInt8} {i:Nat} (h:i < dims s):s[i]? = some 91:=by rw [oh s,ag (by simpa using h),xw,if_pos h]
theorem dims_drop (s:List UInt8):s.drop (dims s)=bare s:=by refine (congrArg (List.drop (dims s)) (oh s)).trans ?_;rw [List.drop_append,List.length_replicate];simp
theorem l28 {h:Heap} (k:AExit→St→Option β) {s:List UInt8} (hn:s.length≤9223372036854775807):∀ j i,i+j=dims s →
  xK T (.loop code28L0) ⟨[(0,.val (.str s)),(3,.val (.int .i64 (i:Nat)))],h⟩ (k:=⟨k⟩)=k (.exit 0) ⟨[(0,.val (.str s)),(3,.val (.int .i64 (dims s:Nat)))],h⟩
 | 0,i,hi=>by
  have hi:i=dims s:=by omega
  rw [cg];have hl:=qz s;have hd:dims s=s.length - (bare s).length:=rfl;cases hbs:bare s with
  | nil =>
   rw [hbs] at hd;simp only [bf,Nat.sub_zero] at hd;simp (disch:=omega) [-getElem?_pos,-getElem?_neg,code28L0,iltF,hi,hd]
  | cons c r =>
   have hlen:=dims_eq hbs;have hc:=bare_head hbs;have e:((c.toNat:Int)=91)=(c=91):=nv c 91 (by omega)
   have hg:s[dims s]? = some c:=by have:=dims_drop s;rw [hbs] at this;have h0:=congrArg (fun l=>l[0]?) this;simpa using h0
   simp (disch:=omega) [-getElem?_pos,-getElem?_neg,code28L0,iltT,ileT,hi,hg,e,hc]
 | j+1,i,hi=>by
  have hg:=dims_get (s:=s) (i:=i) (by omega);have hle:dims s≤s.length:=by unfold dims; omega
  have ih:=l28 (h:=h) k hn j (i+1) (by omega);have e:((i+1:Nat):Int)=(i:Int)+1:=by omega
  rw [e] at ih;rw [cg];generalize ACode.loop code28L0=L at ih ⊢;simp (disch:=omega) [-getElem?_pos,-getElem?_neg,code28L0,iltT,ileT,de,hg,ih]
theorem s93 {s:List UInt8} (hn:s.length≤9223372036854775807):xCall T 93 [.str s] ⟨os,b,w⟩=some (.bool (objR s),⟨os,b,w⟩):=by
 by_cases h:3≤s.length
 ·obtain ⟨x,hx⟩:∃ x,s[0]? = some x:=⟨_,ah (by omega)⟩;obtain ⟨y,hy⟩:∃ y,s[s.length - 1]? = some y:=⟨_,ah (by omega)⟩;have b1:=zbc (c:=76) hx;have e1:=xe (c:=59) hy;have u1:((x.toNat:Int)=76)=(x=76):=nv x 76 (by omega);have u2:((y.toNat:Int)=59)=(y=59):=nv y 59 (by omega);have ht:((s.length:Int) - 1).toNat=s.length - 1:=by omega
  have hq:s.length - 1 - 1=s.length - 2:=by omega
  have h26:=fun w=>s26 (os:=os) (b:=b) (w:=w) (s:=List.take (s.length - 2) s.tail) (by simp; omega)
  by_cases c1:x=76 <;> by_cases c2:y=59
  all_goals simp (disch:=omega) [-getElem?_pos,-getElem?_neg,au t93,code93,objR,iltT,iltF,ileT,ileF,nltT,nltF,nleT,nleF,de,h,hx,hy,b1,e1,u1,u2,c1,c2,ht,hq,h26]
 ·simp (disch:=omega) [au t93,code93,objR,ileF,h]
theorem s28 {s:List UInt8} (hn:s.length≤9223372036854775807):xCall T 28 [.str s] ⟨os,b,w⟩=some (.bool (isTy s),⟨os,b,w⟩):=by
 have hl:=fun h (k:AExit→St→Option (AVal × Heap))=>l28 (h:=h) k hn (dims s) 0 (by omega)
 simp only [ce] at hl;have hle:dims s≤s.length:=by unfold dims; omega
 have hb:=dims_drop s;have hbl:=qz s;have h93:=fun w=>s93 (os:=os) (b:=b) (w:=w) (s:=bare s) (by omega)
 rw [refTy_eq];have ht:List.take (s.length - dims s) (bare s)=bare s:=by rw [← hb,me]
 generalize dims s=d at *;generalize bare s=r at *;by_cases h8:8 < d
 ·simp (disch:=omega) [au t28,code28,hl,iltT,iltF,ileT,nleT,hb,h8]
 ·have hd0:(d=0) = ¬ 0 < d:=by apply propext; omega
  by_cases d0:0 < d <;> cases c66:decide (r=[66]) <;> cases c73:decide (r=[73]) <;> cases c74:decide (r=[74])
  all_goals simp (disch:=omega) [au t28,code28,hl,iltT,iltF,ileT,nleT,ieqT,ieqF,neqT,hb,ht,h8,hd0,d0,c66,c73,c74,h93]
end Go.Abs.Zd

namespace Go.Abs.Zd
variable {os:List AObj} {b w:Nat} {β:Type}
section
attribute [-simp] getElem?_pos getElem?_neg
theorem l87 {O:List AObj} (k:AExit→St→Option β) {s:List UInt8} (hn:s.length≤9223372036854775806):∀ j i,0 < i→i+j=s.length+1→(gu s=0∨i≤gu s) →
  xK T (.loop code87L0) ⟨[(0,.val (.str s)),(3,.val (.int .i64 (i:Nat)))],⟨O,b,w⟩⟩ (k:=⟨k⟩)=if gu s=0 then k (.exit 0) ⟨[],⟨O,b,w⟩⟩ else k .ret ⟨[(2,.val (.str (s.take (gu s))))],⟨O,b,w⟩⟩
 | 0,i,h0,hi,hc=>by
  have hle:=si s;have hc:gu s=0:=by omega
  rw [cg];simp (disch:=omega) [code87L0,ileF,hc]
 | j+1,i,h0,hi,hc=>by
  have hle:=si s;have h28:=fun w=>s28 (os:=O) (b:=b) (w:=w) (s:=s.take i) (by simp; omega)
  rw [cg];by_cases hi':i=gu s
  ·subst hi';have ht:isTy (s.take (gu s))=true:=isTy_cut (by omega);have hc0:¬ gu s=0:=by omega
   simp (disch:=omega) [code87L0,ileT,nleT,h28,ht,hc0];done
  ·have ht:isTy (s.take i)=false:=by rw [Bool.eq_false_iff];intro h;exact hi' (isTy_take (by omega) h)
   have ih:=l87 (O:=O) k hn j (i+1) (by omega) (by omega) (by omega);have e:((i+1:Nat):Int)=(i:Int)+1:=by omega
   rw [e] at ih;generalize ACode.loop code87L0=L at ih ⊢;simp (disch:=omega) [code87L0,ileT,nleT,de,h28,ht,ih]
end
theorem s87 {s:List UInt8} (hn:s.length≤9223372036854775806):xCall T 87 [.str s] ⟨os,b,w⟩=some (.str (s.take (gu s)),⟨os,b,w⟩):=by
 have hl:=fun w (k:AExit→St→Option (AVal × Heap))=>l87 (O:=os) (b:=b) (w:=w) k hn s.length 1 (by omega) (by omega) (by omega)
 simp only [ce] at hl;by_cases h:gu s=0
 ·simp [au t87,code87,hl,h]
 ·simp [au t87,code87,hl,h]
def methA:Nat→List UInt8→Option (List (List UInt8) × List UInt8)
 | m,s=>if s=[]∨en 41 s=true then some ([],s) else if gu s=0 then none else match m with
  | 0=>none
  | m+1=>(methA m (s.drop (gu s))).map fun p=>(s.take (gu s) :: p.1,p.2)
theorem pi:∀ {m:Nat} {s:List UInt8} {A:List (List UInt8)} {r:List UInt8},methA m s=some (A,r)→A.length≤m∧r.length≤s.length∧∀ t ∈ A,t.length≤s.length
 | m,s,A,r,h=>by
  unfold methA at h;split at h
  ·cases h; simp
  ·split at h
   ·cases h
   ·cases m with
    | zero=>cases h
    | succ m =>
     simp only at h;rw [ae] at h;obtain ⟨p,h1,h2⟩:=h;obtain ⟨rfl,rfl⟩:=Prod.mk.inj h2;obtain ⟨k1,k2,k3⟩:=pi (A:=p.1) (r:=p.2) h1;simp only [gh] at k2 k3;refine ⟨by simp; omega,by omega,fun t ht=>?_⟩;rcases br.1 ht with rfl | ht
     ·simp; omega
     ·have:=k3 t ht; omega
def Meth38 (b w:Nat) (k:AExit→St→Option β) (x:Option β) (O:List AObj) (L:List (List UInt8)) (a2 a3:Nat):Option (List (List UInt8) × List UInt8)→Prop
 | none=>∃ O',O.length≤O'.length∧x=k .ret ⟨[(2,.val (.slice none 0 (some 0))),(3,.val (.str [])),(4,.val (.int .i64 8))],⟨O',b,w⟩⟩
 | some (A,r)=>∃ O',O.length≤O'.length∧x=k (.exit 0) ⟨if a2 < a3 then [(a2,.val (.str r)),(a3,.val (.slice (some (O'.length,0)) (L.length+A.length) none))] else [(a3,.val (.slice (some (O'.length,0)) (L.length+A.length) none)),(a2,.val (.str r))],⟨O'++[.cells 1 ((L++A).map AVal.str)],b,w⟩⟩
section
attribute [-simp] getElem?_pos getElem?_neg
set_option maxHeartbeats 1000000 in
theorem l38 (k:AExit→St→Option β):∀ (m:Nat) (s:List UInt8) (O:List AObj) (L:List (List UInt8)),s.length≤9223372036854775807→L.length+m=16→L≠[]→b≤O.length→w≤O.length →
  Meth38 b w k (xK T (.loop code38L0) ⟨[(5,.val (.str s)),(7,.val (.slice (some (O.length,0)) L.length none))],⟨O++[.cells 1 (L.map AVal.str)],b,w⟩⟩ (k:=⟨k⟩)) O L 5 7 (methA m s):=by
 intro m;induction m with
 | zero =>
  intro s O L hn hL hne hb hw;unfold methA;rw [cg];cases s with
  | nil =>
   simp only [true_or,if_true];refine ⟨O,ai _,?_⟩;simp [code38L0]
  | cons x r =>
   have e:((x.toNat:Int)=41)=(x=41):=nv x 41 (by omega);by_cases hx:x=41
   ·simp only [en,hx,decide_true,or_true,if_true];refine ⟨O,ai _,?_⟩;simp (disch:=omega) [code38L0,e,hx,bg,iltT]
   ·have h86:=fun w=>s86 (os:=O++[.cells 1 (L.map AVal.str)]) (b:=b) (w:=w) hn (by simp; omega)
    have hL16:(L.length:Int)=16:=by omega
    have h0:∀ n:Nat,n≠0→List.take n (x :: r)≠[]:=fun n hn=>by cases n <;> simp_all
    by_cases hc:gu (x :: r)=0
    ·simp only [en,hx,decide_false,reduceCtorEq,am,or_self,if_false,hc,if_true];refine ⟨O++[.cells 1 (L.map AVal.str)],by simp,?_⟩;simp (disch:=omega) [code38L0,e,hx,bg,iltT,h86,hc]
    ·simp only [en,hx,decide_false,reduceCtorEq,am,or_self,if_false,hc];refine ⟨O++[.cells 1 (L.map AVal.str)],by simp,?_⟩;simp (disch:=omega) [code38L0,e,hx,bg,iltT,h86,h0 _ hc,hL16]
 | succ m ih =>
  intro s O L hn hL hne hb hw;unfold methA;rw [cg];cases s with
  | nil =>
   simp only [true_or,if_true];refine ⟨O,ai _,?_⟩;simp [code38L0]
  | cons x r =>
   have e:((x.toNat:Int)=41)=(x=41):=nv x 41 (by omega);by_cases hx:x=41
   ·simp only [en,hx,decide_true,or_true,if_true];refine ⟨O,ai _,?_⟩;simp (disch:=omega) [code38L0,e,hx,bg,iltT]
   ·have h86:=fun w=>s86 (os:=O++[.cells 1 (L.map AVal.str)]) (b:=b) (w:=w) hn (by simp; omega)
    have hL16:¬ (L.length:Int)=16:=by omega
    have h0:∀ n:Nat,n≠0→List.take n (x :: r)≠[]:=fun n hn=>by cases n <;> simp_all
    by_cases hc:gu (x :: r)=0
    ·simp only [en,hx,decide_false,reduceCtorEq,am,or_self,if_false,hc,if_true];refine ⟨O++[.cells 1 (L.map AVal.str)],by simp,?_⟩;simp (disch:=omega) [code38L0,e,hx,bg,iltT,h86,hc]
    ·simp only [en,hx,decide_false,reduceCtorEq,am,or_self,if_false,hc];have hle:=si (x :: r);have h0':=h0 _ hc;have hlt:(List.take (gu (x :: r)) (x :: r)).length=gu (x :: r):=by simp at hle ⊢; omega
     generalize ht:List.take (gu (x :: r)) (x :: r)=t at *;have hdr:List.take ((x :: r).length - gu (x :: r)) (List.drop (gu (x :: r)) (x :: r))=List.drop (gu (x :: r)) (x :: r):=me ..;have hle2:(List.drop (gu (x :: r)) (x :: r)).length≤9223372036854775807:=by simp only [gh]; omega
     have ih:=ih (List.drop (gu (x :: r)) (x :: r)) (O++[.dead,.cells 1 [.str t]]) (L++[t]) hle2 (by simp; omega) (by simp) (by simp; omega) (by simp; omega);simp only [aq,az,bf,ba,bl,bj,i7,cf,fm] at ih;generalize gu (x :: r)=n at *;generalize ACode.loop code38L0=LL at ih ⊢;have hle':n≤r.length+1:=by simpa using hle
     have hdr':List.take (r.length+1 - n) (List.drop n (x :: r))=List.drop n (x :: r):=by simpa using hdr
     have key:Meth38 b w k (xK T code38L0 ⟨[(5,.val (.str (x :: r))),(7,.val (.slice (some (O.length,0)) L.length none))],⟨O++[.cells 1 (L.map AVal.str)],b,w⟩⟩ (k:=⟨fun e st=>nxK e st (f:=⟨fun st=>xK T LL st (k:=⟨k⟩)⟩) (k:=⟨k⟩)⟩)) (O++[.dead,.cells 1 [.str t]]) (L++[t]) 5 7 (methA m (List.drop n (x :: r))):=by simp (maxSteps:=2000000) (disch:=omega) [code38L0,e,hx,bg,iltT,h86,h0',hL16,hne,aw,hlt,Nat.min_eq_left,ileT,nleT,nltT,hdr',ht];simpa using ih
     cases hm:methA m (List.drop n (x :: r)) with
     | none =>
      rw [hm] at key;obtain ⟨O',h1,h2⟩:=key;exact ⟨O',by simp at h1; omega,h2⟩
     | some p =>
      obtain ⟨A,q⟩:=p;rw [hm] at key;obtain ⟨O',h1,h2⟩:=key;refine ⟨O',by simp at h1; omega,h2.trans ?_⟩;simp [z6 1,bo]
end
end Go.Abs.Zd

namespace Go.Abs.Zd
variable {os:List AObj} {b w:Nat} {β:Type}
def Meth0 (b w:Nat) (k:AExit→St→Option β) (x:Option β) (O:List AObj) (a2 a3:Nat):Option (List (List UInt8) × List UInt8)→Prop
 | none=>∃ O',O.length≤O'.length∧x=k .ret ⟨[(2,.val (.slice none 0 (some 0))),(3,.val (.str [])),(4,.val (.int .i64 8))],⟨O',b,w⟩⟩
 | some ([],r)=>x=k (.exit 0) ⟨if a2 < a3 then [(a2,.val (.str r)),(a3,.val (.slice none 0 (some 0)))] else [(a3,.val (.slice none 0 (some 0))),(a2,.val (.str r))],⟨O,b,w⟩⟩
 | some (a :: A,r)=>∃ O',O.length≤O'.length∧x=k (.exit 0) ⟨if a2 < a3 then [(a2,.val (.str r)),(a3,.val (.slice (some (O'.length,0)) (A.length+1) none))] else [(a3,.val (.slice (some (O'.length,0)) (A.length+1) none)),(a2,.val (.str r))],⟨O'++[.cells 1 ((a :: A).map AVal.str)],b,w⟩⟩
section
attribute [-simp] getElem?_pos getElem?_neg
set_option maxHeartbeats 1000000 in
theorem l38z (k:AExit→St→Option β) (s:List UInt8) (O:List AObj) (hn:s.length≤9223372036854775807) (hb:b≤O.length) (hw:w≤O.length) :
  Meth0 b w k (xK T (.loop code38L0) ⟨[(5,.val (.str s)),(7,.val (.slice none 0 (some 0)))],⟨O,b,w⟩⟩ (k:=⟨k⟩)) O 5 7 (methA 16 s):=by
 unfold methA;rw [cg];cases s with
 | nil =>
  simp only [true_or,if_true];simp [Meth0,code38L0]
 | cons x r =>
  have e:((x.toNat:Int)=41)=(x=41):=nv x 41 (by omega);by_cases hx:x=41
  ·simp only [en,hx,decide_true,or_true,if_true];simp (disch:=omega) [Meth0,code38L0,e,hx,bg,iltT]
  ·have h86:=fun w=>s86 (os:=O) (b:=b) (w:=w) hn hb
   have h0:∀ n:Nat,n≠0→List.take n (x :: r)≠[]:=fun n hn=>by cases n <;> simp_all
   by_cases hc:gu (x :: r)=0
   ·simp only [en,hx,decide_false,reduceCtorEq,am,or_self,if_false,hc,if_true];refine ⟨O,ai _,?_⟩;simp (disch:=omega) [code38L0,e,hx,bg,iltT,h86,hc]
   ·simp only [en,hx,decide_false,reduceCtorEq,am,or_self,if_false,hc];have hle:=si (x :: r);have h0':=h0 _ hc;have hlt:(List.take (gu (x :: r)) (x :: r)).length=gu (x :: r):=by simp at hle ⊢; omega
    generalize ht:List.take (gu (x :: r)) (x :: r)=t at *;have hle2:(List.drop (gu (x :: r)) (x :: r)).length≤9223372036854775807:=by simp only [gh]; omega
    have hdr:List.take ((x :: r).length - gu (x :: r)) (List.drop (gu (x :: r)) (x :: r))=List.drop (gu (x :: r)) (x :: r):=me ..;have ih:=l38 (b:=b) (w:=w) k 15 (List.drop (gu (x :: r)) (x :: r)) (O++[.cells 1 [.str t]]) [t] hle2 rfl (by simp) (by simp; omega) (by simp; omega);generalize gu (x :: r)=n at *;generalize ACode.loop code38L0=LL at ih ⊢;have hle':n≤r.length+1:=by simpa using hle
    have hdr':List.take (r.length+1 - n) (List.drop n (x :: r))=List.drop n (x :: r):=by simpa using hdr
    have key:Meth38 b w k (xK T code38L0 ⟨[(5,.val (.str (x :: r))),(7,.val (.slice none 0 (some 0)))],⟨O,b,w⟩⟩ (k:=⟨fun e st=>nxK e st (f:=⟨fun st=>xK T LL st (k:=⟨k⟩)⟩) (k:=⟨k⟩)⟩)) (O++[.cells 1 [.str t]]) [t] 5 7 (methA 15 (List.drop n (x :: r))):=by simp (maxSteps:=2000000) (disch:=omega) [code38L0,e,hx,bg,iltT,h86,h0',aw,hlt,Nat.min_eq_left,ileT,nleT,nltT,hdr',ht];simpa using ih
    cases hm:methA 15 (List.drop n (x :: r)) with
    | none =>
     rw [hm] at key;obtain ⟨O',h1,h2⟩:=key;exact ⟨O',by simp at h1; omega,h2⟩
    | some p =>
     obtain ⟨A,q⟩:=p;rw [hm] at key;obtain ⟨O',h1,h2⟩:=key;refine ⟨O',by simp at h1; omega,h2.trans ?_⟩;simp [z6 1,bo]
set_option maxHeartbeats 1000000 in
theorem l37 (k:AExit→St→Option β):∀ (m:Nat) (s:List UInt8) (O:List AObj) (L:List (List UInt8)),s.length≤9223372036854775806→L.length+m=16→L≠[]→b≤O.length→w≤O.length →
  Meth38 b w k (xK T (.loop code37L0) ⟨[(5,.val (.slice (some (O.length,0)) L.length none)),(6,.val (.str s))],⟨O++[.cells 1 (L.map AVal.str)],b,w⟩⟩ (k:=⟨k⟩)) O L 6 5 (methA m s):=by
 intro m;induction m with
 | zero =>
  intro s O L hn hL hne hb hw;unfold methA;rw [cg];cases s with
  | nil =>
   simp only [true_or,if_true];refine ⟨O,ai _,?_⟩;simp [code37L0]
  | cons x r =>
   have e:((x.toNat:Int)=41)=(x=41):=nv x 41 (by omega);by_cases hx:x=41
   ·simp only [en,hx,decide_true,or_true,if_true];refine ⟨O,ai _,?_⟩;simp (disch:=omega) [code37L0,e,hx,bg,iltT]
   ·have h86:=fun w=>s87 (os:=O++[.cells 1 (L.map AVal.str)]) (b:=b) (w:=w) hn
    have hL16:(L.length:Int)=16:=by omega
    have h0:∀ n:Nat,n≠0→List.take n (x :: r)≠[]:=fun n hn=>by cases n <;> simp_all
    by_cases hc:gu (x :: r)=0
    ·simp only [en,hx,decide_false,reduceCtorEq,am,or_self,if_false,hc,if_true];refine ⟨O++[.cells 1 (L.map AVal.str)],by simp,?_⟩;simp (disch:=omega) [code37L0,e,hx,bg,iltT,h86,hc]
    ·simp only [en,hx,decide_false,reduceCtorEq,am,or_self,if_false,hc];refine ⟨O++[.cells 1 (L.map AVal.str)],by simp,?_⟩;simp (disch:=omega) [code37L0,e,hx,bg,iltT,h86,h0 _ hc,hL16]
 | succ m ih =>
  intro s O L hn hL hne hb hw;unfold methA;rw [cg];cases s with
  | nil =>
   simp only [true_or,if_true];refine ⟨O,ai _,?_⟩;simp [code37L0]
  | cons x r =>
   have e:((x.toNat:Int)=41)=(x=41):=nv x 41 (by omega);by_cases hx:x=41
   ·simp only [en,hx,decide_true,or_true,if_true];refine ⟨O,ai _,?_⟩;simp (disch:=omega) [code37L0,e,hx,bg,iltT]
   ·have h86:=fun w=>s87 (os:=O++[.cells 1 (L.map AVal.str)]) (b:=b) (w:=w) hn
    have hL16:¬ (L.length:Int)=16:=by omega
    have h0:∀ n:Nat,n≠0→List.take n (x :: r)≠[]:=fun n hn=>by cases n <;> simp_all
    by_cases hc:gu (x :: r)=0
    ·simp only [en,hx,decide_false,reduceCtorEq,am,or_self,if_false,hc,if_true];refine ⟨O++[.cells 1 (L.map AVal.str)],by simp,?_⟩;simp (disch:=omega) [code37L0,e,hx,bg,iltT,h86,hc]
    ·simp only [en,hx,decide_false,reduceCtorEq,am,or_self,if_false,hc];have hle:=si (x :: r);have h0':=h0 _ hc;have hlt:(List.take (gu (x :: r)) (x :: r)).length=gu (x :: r):=by simp at hle ⊢; omega
     generalize ht:List.take (gu (x :: r)) (x :: r)=t at *;have hdr:List.take ((x :: r).length - gu (x :: r)) (List.drop (gu (x :: r)) (x :: r))=List.drop (gu (x :: r)) (x :: r):=me ..;have hle2:(List.drop (gu (x :: r)) (x :: r)).length≤9223372036854775806:=by simp only [gh]; omega
     have ih:=ih (List.drop (gu (x :: r)) (x :: r)) (O++[.dead,.cells 1 [.str t]]) (L++[t]) hle2 (by simp; omega) (by simp) (by simp; omega) (by simp; omega);simp only [aq,az,bf,ba,bl,bj,i7,cf,fm] at ih;generalize gu (x :: r)=n at *;generalize ACode.loop code37L0=LL at ih ⊢;have hle':n≤r.length+1:=by simpa using hle
     have hdr':List.take (r.length+1 - n) (List.drop n (x :: r))=List.drop n (x :: r):=by simpa using hdr
     have key:Meth38 b w k (xK T code37L0 ⟨[(5,.val (.slice (some (O.length,0)) L.length none)),(6,.val (.str (x :: r)))],⟨O++[.cells 1 (L.map AVal.str)],b,w⟩⟩ (k:=⟨fun e st=>nxK e st (f:=⟨fun st=>xK T LL st (k:=⟨k⟩)⟩) (k:=⟨k⟩)⟩)) (O++[.dead,.cells 1 [.str t]]) (L++[t]) 6 5 (methA m (List.drop n (x :: r))):=by simp (maxSteps:=2000000) (disch:=omega) [code37L0,e,hx,bg,iltT,h86,h0',hL16,hne,aw,hlt,Nat.min_eq_left,ileT,nleT,nltT,hdr',ht];simpa using ih
     cases hm:methA m (List.drop n (x :: r)) with
     | none =>
      rw [hm] at key;obtain ⟨O',h1,h2⟩:=key;exact ⟨O',by simp at h1; omega,h2⟩
     | some p =>
      obtain ⟨A,q⟩:=p;rw [hm] at key;obtain ⟨O',h1,h2⟩:=key;refine ⟨O',by simp at h1; omega,h2.trans ?_⟩;simp [z6 1,bo]
set_option maxHeartbeats 1000000 in
theorem l37z (k:AExit→St→Option β) (s:List UInt8) (O:List AObj) (hn:s.length≤9223372036854775806) (hb:b≤O.length) (hw:w≤O.length) :
  Meth0 b w k (xK T (.loop code37L0) ⟨[(5,.val (.slice none 0 (some 0))),(6,.val (.str s))],⟨O,b,w⟩⟩ (k:=⟨k⟩)) O 6 5 (methA 16 s):=by
 unfold methA;rw [cg];cases s with
 | nil =>
  simp only [true_or,if_true];simp [Meth0,code37L0]
 | cons x r =>
  have e:((x.toNat:Int)=41)=(x=41):=nv x 41 (by omega);by_cases hx:x=41
  ·simp only [en,hx,decide_true,or_true,if_true];simp (disch:=omega) [Meth0,code37L0,e,hx,bg,iltT]
  ·have h86:=fun w=>s87 (os:=O) (b:=b) (w:=w) hn
   have h0:∀ n:Nat,n≠0→List.take n (x :: r)≠[]:=fun n hn=>by cases n <;> simp_all
   by_cases hc:gu (x :: r)=0
   ·simp only [en,hx,decide_false,reduceCtorEq,am,or_self,if_false,hc,if_true];refine ⟨O,ai _,?_⟩;simp (disch:=omega) [code37L0,e,hx,bg,iltT,h86,hc]
   ·simp only [en,hx,decide_false,reduceCtorEq,am,or_self,if_false,hc];have hle:=si (x :: r);have h0':=h0 _ hc;have hlt:(List.take (gu (x :: r)) (x :: r)).length=gu (x :: r):=by simp at hle ⊢; omega
    generalize ht:List.take (gu (x :: r)) (x :: r)=t at *;have hle2:(List.drop (gu (x :: r)) (x :: r)).length≤9223372036854775806:=by simp only [gh]; omega
    have hdr:List.take ((x :: r).length - gu (x :: r)) (List.drop (gu (x :: r)) (x :: r))=List.drop (gu (x :: r)) (x :: r):=me ..;have ih:=l37 (b:=b) (w:=w) k 15 (List.drop (gu (x :: r)) (x :: r)) (O++[.cells 1 [.str t]]) [t] hle2 rfl (by simp) (by simp; omega) (by simp; omega);generalize gu (x :: r)=n at *;generalize ACode.loop code37L0=LL at ih ⊢;have hle':n≤r.length+1:=by simpa using hle
    have hdr':List.take (r.length+1 - n) (List.drop n (x :: r))=List.drop n (x :: r):=by simpa using hdr
    have key:Meth38 b w k (xK T code37L0 ⟨[(5,.val (.slice none 0 (some 0))),(6,.val (.str (x :: r)))],⟨O,b,w⟩⟩ (k:=⟨fun e st=>nxK e st (f:=⟨fun st=>xK T LL st (k:=⟨k⟩)⟩) (k:=⟨k⟩)⟩)) (O++[.cells 1 [.str t]]) [t] 6 5 (methA 15 (List.drop n (x :: r))):=by simp (maxSteps:=2000000) (disch:=omega) [code37L0,e,hx,bg,iltT,h86,h0',aw,hlt,Nat.min_eq_left,ileT,nleT,nltT,hdr',ht];simpa using ih
    cases hm:methA 15 (List.drop n (x :: r)) with
    | none =>
     rw [hm] at key;obtain ⟨O',h1,h2⟩:=key;exact ⟨O',by simp at h1; omega,h2⟩
    | some p =>
     obtain ⟨A,q⟩:=p;rw [hm] at key;obtain ⟨O',h1,h2⟩:=key;refine ⟨O',by simp at h1; omega,h2.trans ?_⟩;simp [z6 1,bo]
end
end Go.Abs.Zd

namespace Go.Abs.Zd
variable {os:List AObj} {b w:Nat} {β:Type}
theorem Meth0.elim {k:AExit→St→Option β} {x y:Option β} {O:List AObj} {a2 a3:Nat} {m:Option (List (List UInt8) × List UInt8)} (h:Meth0 b w k x O a2 a3 m)
  (h1:∀ O',m=none→O.length≤O'.length→k .ret ⟨[(2,.val (.slice none 0 (some 0))),(3,.val (.str [])),(4,.val (.int .i64 8))],⟨O',b,w⟩⟩=y)
  (h2:∀ r,m=some ([],r)→k (.exit 0) ⟨if a2 < a3 then [(a2,.val (.str r)),(a3,.val (.slice none 0 (some 0)))] else [(a3,.val (.slice none 0 (some 0))),(a2,.val (.str r))],⟨O,b,w⟩⟩=y)
  (h3:∀ O' a A r,m=some (a :: A,r)→O.length≤O'.length→k (.exit 0) ⟨if a2 < a3 then [(a2,.val (.str r)),(a3,.val (.slice (some (O'.length,0)) (A.length+1) none))] else [(a3,.val (.slice (some (O'.length,0)) (A.length+1) none)),(a2,.val (.str r))],⟨O'++[.cells 1 ((a :: A).map AVal.str)],b,w⟩⟩=y):x=y:=by
 cases m with
 | none =>
  obtain ⟨O',e1,e2⟩:=h;exact e2.trans (h1 O' rfl e1)
 | some p =>
  obtain ⟨A,r⟩:=p;cases A with
  | nil=>exact (show x=_ from h).trans (h2 r rfl)
  | cons a A =>
   obtain ⟨O',e1,e2⟩:=h;exact e2.trans (h3 O' a A r rfl e1)
def methL (s:List UInt8):Option (List (List UInt8) × List UInt8) :=
 if en 40 s then (match methA 16 s.tail with
  | some (A,r)=>if en 41 r && (decide (r.tail=[86]) || isTy r.tail) then some (A,r.tail) else none
  | none=>none)
 else none
def methV (n:Nat):Option (List (List UInt8) × List UInt8)→AVal
 | none=>.tuple [.slice none 0 (some 0),.str [],.int .i64 8]
 | some ([],r)=>.tuple [.slice none 0 (some 0),.str r,.int .i64 0]
 | some (a :: A,r)=>.tuple [.slice (some (n,0)) (A.length+1) none,.str r,.int .i64 0]
def methO (os:List AObj):Option (List (List UInt8) × List UInt8)→List AObj
 | some (a :: A,_)=>os++[.cells 1 ((a :: A).map AVal.str)]
 | _=>os
section
attribute [-simp] getElem?_pos getElem?_neg
attribute [local simp] gz gs
theorem s38 {s:List UInt8} (hn:s.length≤9223372036854775807) (hb:b≤os.length):xCall T 38 [.str s] ⟨os,b,w⟩=some (methV os.length (methL s),⟨methO os (methL s),b,w⟩):=by
 have h85:=fun w=>s85 (os:=os) (b:=b) (w:=w) (s:=s) (c:=40) (by omega)
 by_cases h:en 40 s=true
 ·cases s with
  | nil=>simp [en] at h
  | cons x q =>
   simp only [h,if_true,List.tail_cons] at h85;simp only [az] at hn
   have hm:methL (x :: q)=(match methA 16 q with
     | some (A,r)=>if en 41 r && (decide (r.tail=[86]) || isTy r.tail) then some (A,r.tail) else none
     | none=>none):=by
    unfold methL; rw [if_pos h]; rfl
   rw [hm];simp (disch:=omega) [au t38,code38,h85];refine Meth0.elim (l38z _ q os (by omega) hb (ai _)) ?_ ?_ ?_
   ·intro O' h1 h2;simp (disch:=omega) [code38,h1,methV,methO]
   ·intro r h1;have hr:=(pi h1).2.1;have h2:=fun w=>s85 (os:=os) (b:=b) (w:=w) (s:=r) (c:=41) (by omega)
    have h3:=fun w=>s27 (b:=b) (w:=w) (s:=r.tail) (by simp; omega) hb
    by_cases c1:en 41 r=true <;> by_cases c2:r.tail=[86] <;> by_cases c3:isTy r.tail=true
    all_goals simp (disch:=omega) [code38,h1,h2,h3,c1,c2,c3,methV,methO]
   ·intro O' a A r h1 h2;have hr:=(pi h1).2.1;have hb':b≤(O'++[AObj.cells 1 ((a :: A).map AVal.str)]).length:=by simp; omega
    have h4:=fun w=>s85 (os:=O'++[.cells 1 ((a :: A).map AVal.str)]) (b:=b) (w:=w) (s:=r) (c:=41) (by omega)
    have h3:=fun w=>s27 (os:=O'++[.cells 1 ((a :: A).map AVal.str)]) (b:=b) (w:=w) (s:=r.tail) (by simp; omega) hb'
    simp only [cf] at h4 h3;by_cases c1:en 41 r=true <;> by_cases c2:r.tail=[86] <;> by_cases c3:isTy r.tail=true
    all_goals simp (disch:=omega) [code38,h1,h4,h3,c1,c2,c3,methV,methO,nltF,jd,lf]
 ·have hm:methL s=none:=by unfold methL; rw [if_neg h]
  rw [hm];simp only [Bool.not_eq_true] at h;simp only [h,am,if_false] at h85;simp (disch:=omega) [au t38,code38,h85,methV,methO]
end
end Go.Abs.Zd

namespace Go.Abs.Zd
variable {os:List AObj} {b w:Nat} {β:Type}
theorem yh:∀ {m:Nat} {s:List UInt8} {A:List (List UInt8)} {r:List UInt8},methA m s=some (A,r)→r=[]∨en 41 r=true
 | m,s,A,r,h=>by
  unfold methA at h;split at h
  ·rename_i hc;cases h; exact hc
  ·split at h
   ·cases h
   ·cases m with
    | zero=>cases h
    | succ m =>
     simp only at h;rw [ae] at h;obtain ⟨p,h1,h2⟩:=h;obtain ⟨rfl,rfl⟩:=Prod.mk.inj h2;exact yh (A:=p.1) (r:=p.2) h1
section
attribute [-simp] getElem?_pos getElem?_neg
attribute [local simp] gz gs
theorem s37 {s:List UInt8} (hn:s.length≤9223372036854775807) (hb:b≤os.length):xCall T 37 [.str s] ⟨os,b,w⟩=some (methV os.length (methL s),⟨methO os (methL s),b,w⟩):=by
 cases s with
 | nil =>
  simp (disch:=omega) [au t37,code37,methL,en,methV,methO]
 | cons x q =>
  have e:((x.toNat:Int)=40)=(x=40):=nv x 40 (by omega);simp only [az] at hn;by_cases h:x=40
  ·have hm:methL (x :: q)=(match methA 16 q with
     | some (A,r)=>if en 41 r && (decide (r.tail=[86]) || isTy r.tail) then some (A,r.tail) else none
     | none=>none):=by
    unfold methL; rw [if_pos (by simp [en,h])]; rfl
   rw [hm];simp (disch:=omega) [au t37,code37,e,h,iltT,ileT,nltT,nleT];refine Meth0.elim (l37z _ q os (by omega) hb (ai _)) ?_ ?_ ?_
   ·intro O' h1 h2;simp (disch:=omega) [code37,h1,methV,methO]
   ·intro r h1;have hr:=(pi h1).2.1;rcases yh h1 with c0 | c1
    ·subst c0;simp (disch:=omega) [code37,h1,en,methV,methO]
    ·cases r with
     | nil=>simp [en] at c1
     | cons y r =>
      simp only [az] at hr;have h3:=fun w=>s28 (os:=os) (b:=b) (w:=w) (s:=r) (by omega)
      rcases Decidable.em (r=[86]) with c2 | c2
      ·subst c2;cases c3:isTy [86];all_goals simp (disch:=omega) [code37,h1,h3,c1,c3,methV,methO,iltT,ileT,nltT,nleT]
      by_cases c3:isTy r=true
      all_goals simp (disch:=omega) [code37,h1,h3,c1,c2,c3,methV,methO,iltT,ileT,nltT,nleT]
   ·intro O' a A r h1 h2;have hr:=(pi h1).2.1;rcases yh h1 with c0 | c1
    ·subst c0;simp (disch:=omega) [code37,h1,en,methV,methO]
    ·cases r with
     | nil=>simp [en] at c1
     | cons y r =>
      simp only [az] at hr;have h3:=fun w=>s28 (os:=O'++[.cells 1 ((a :: A).map AVal.str)]) (b:=b) (w:=w) (s:=r) (by omega)
      simp only [cf] at h3;rcases Decidable.em (r=[86]) with c2 | c2
      ·subst c2;cases c3:isTy [86];all_goals simp (disch:=omega) [code37,h1,h3,c1,c3,methV,methO,nltF,nltT,iltT,ileT,nleT,jd,lf]
      by_cases c3:isTy r=true
      all_goals simp (disch:=omega) [code37,h1,h3,c1,c2,c3,methV,methO,nltF,nltT,iltT,ileT,nleT,jd,lf]
  ·have hm:methL (x :: q)=none:=by unfold methL; rw [if_neg (by simp [en,h])]
   rw [hm];simp (disch:=omega) [au t37,code37,e,h,methV,methO,iltT,ileT,nltT,nleT]
end
end Go.Abs.Zd

namespace Go.Abs
theorem zbp {T T':Nat→Option AFunc} (hs:∀ g f,T g=some f→T' g=some f):∀ n,CallLe (fj T n) (fj T' n)
 | 0=>fun _ _ _ r hr=>by simp [fj] at hr
 | n+1=>fun g args h=>by
  intro r hr;have ih:=zbp hs n;simp only [fj] at hr ⊢;cases hT:T g with
  | none=>rw [hT] at hr; cases hr
  | some f =>
   rw [hT] at hr;rw [hs g f hT];simp only at hr ⊢;split at hr
   ·exact wk ih (ai _) _ _ _ _ r hr
   ·exact hr
   ·exact vk (fun args h=>yx ih (ai _) f args h) _ _ _ r hr
theorem fh {T T':Nat→Option AFunc} (hs:∀ g f,T g=some f→T' g=some f) {g:Nat} {args:List AVal} {h:Heap} {r:AVal × Heap} (he:xCall T g args h=some r):xCall T' g args h=some r:=by rw [li] at he ⊢;obtain ⟨n,hn⟩:=he;exact ⟨n,zbp hs n _ _ _ _ hn⟩
end Go.Abs

namespace Go.Abs
abbrev Str:=List UInt8
section
variable {κ ν:Type} [DecidableEq κ]
def ents (kf:κ→AVal) (vf:ν→AVal):Nat→List (κ × ν)→List (AVal × AVal × Nat)
 | _,[]=>[]
 | i,x :: r=>(kf x.1,vf x.2,i) :: ents kf vf (i+1) r
def gd:List (κ × ν)→κ→Option ν
 | [],_=>none
 | x :: r,k=>if x.1=k then some x.2 else gd r k
def KeyF (kf:κ→AVal):Prop:=∀ a b,akey (kf a) (kf b)=some (decide (a=b))
theorem vv:KeyF (AVal.str:Str→AVal):=fun _ _=>rfl
omit [DecidableEq κ] in
theorem ents_app (kf:κ→AVal) (vf:ν→AVal):∀ (A B:List (κ × ν)) (i:Nat),ents kf vf i (A++B)=ents kf vf i A++ents kf vf (i+A.length) B
 | [],B,i=>by simp [ents]
 | x :: A,B,i=>by
  have e:i+1+A.length=i+(A.length+1):=by omega
  simp [ents,ents_app kf vf A B (i+1),e]
omit [DecidableEq κ] in
theorem zp (kf:κ→AVal) (vf:ν→AVal):∀ (A:List (κ × ν)) (i:Nat),(ents kf vf i A).length=A.length
 | [],_=>rfl
 | x :: A,i=>by simp [ents,zp kf vf A (i+1)]
theorem nw (A B:List (κ × ν)) (k:κ):gd (A++B) k=(gd A k).or (gd B k):=by
 induction A with
 | nil=>rfl
 | cons x A ih =>
  rw [bl];simp only [gd];split
  ·rfl
  ·exact ih
theorem getE_none {A:List (κ × ν)} {k:κ}:gd A k=none ↔ ∀ x ∈ A,x.1≠k:=by
 induction A with
 | nil=>simp [gd]
 | cons x A ih =>
  simp only [gd];split
  ·rename_i h; simp [h]
  ·rename_i h; rw [ih]; simp [h]
theorem getE_mem {A:List (κ × ν)} {k:κ} {v:ν} (h:gd A k=some v):(k,v) ∈ A:=by
 induction A with
 | nil=>cases h
 | cons x A ih =>
  simp only [gd] at h;split at h
  ·rename_i e; cases h; subst e; exact bh ..
  ·exact bu _ (ih h)
theorem sw {kf:κ→AVal} {vf:ν→AVal} (hk:KeyF kf) {k:κ}:∀ (A:List (κ × ν)) (i:Nat),gd A k=none→findA (kf k) (ents kf vf i A)=some none
 | [],_,_=>rfl
 | x :: A,i,h=>by
  simp only [gd] at h;split at h
  ·cases h
  ·rename_i e;simp only [ents,findA,hk k x.1,decide_eq_false (show ¬ k=x.1 from fun e'=>e e'.symm)];rw [sw hk A (i+1) h];rfl
theorem vw {kf:κ→AVal} {vf:ν→AVal} (hk:KeyF kf) {k:κ} {v:ν}:∀ (A:List (κ × ν)) (i:Nat),gd A k=some v→∃ j,findA (kf k) (ents kf vf i A)=some (some (j,vf v))
 | [],_,h=>by cases h
 | x :: A,i,h=>by
  simp only [gd] at h;split at h
  ·rename_i e;cases h;exact ⟨0,by simp only [ents,findA,hk k x.1,decide_eq_true (show k=x.1 from e.symm)]⟩
  ·rename_i e;obtain ⟨j,hj⟩:=vw (vf:=vf) hk A (i+1) h;exact ⟨j+1,by simp only [ents,findA,hk k x.1,decide_eq_false (show ¬ k=x.1 from fun e'=>e e'.symm),hj]; rfl⟩
def fo (kf:κ→AVal) (vf:ν→AVal) (A:List (κ × ν)):AObj:=.map (ents kf vf 0 A) A.length
variable {os:List AObj} {b w r:Nat} {A:List (κ × ν)} {kf:κ→AVal} {vf:ν→AVal}
theorem rb (hk:KeyF kf) (h:os[r]? = some (fo kf vf A)) {kn:KeyT} {zero:AVal} {k:κ} (hi:isKey kn (kf k)=true) :
  dl (.lookup kn zero true) [.map (some r),kf k] ⟨os,b,w⟩=some (.tuple [((gd A k).map vf).getD zero,.bool (gd A k).isSome],⟨os,b,w⟩):=by
 simp only [dl,hi,entriesOf,Heap.get,h,fo,if_true];cases hg:gd A k with
 | none=>simp only [sw hk A 0 hg]; rfl
 | some v =>
  obtain ⟨j,hj⟩:=vw (vf:=vf) hk A 0 hg;simp only [hj]; rfl
theorem lookup_v (hk:KeyF kf) (h:os[r]? = some (fo kf vf A)) {kn:KeyT} {zero:AVal} {k:κ} (hi:isKey kn (kf k)=true) :
  dl (.lookup kn zero false) [.map (some r),kf k] ⟨os,b,w⟩=some (((gd A k).map vf).getD zero,⟨os,b,w⟩):=by
 simp only [dl,hi,entriesOf,Heap.get,h,fo,if_true];cases hg:gd A k with
 | none=>simp only [sw hk A 0 hg]; rfl
 | some v =>
  obtain ⟨j,hj⟩:=vw (vf:=vf) hk A 0 hg;simp only [hj]; rfl
theorem sx (hk:KeyF kf) (h:os[r]? = some (fo kf vf A)) {kn:KeyT} {k:κ} (v:ν) (hi:isKey kn (kf k)=true) (hb:b≤r) (hg:gd A k=none) :
  dl (.mapupd kn) [.map (some r),kf k,vf v] ⟨os,b,w⟩=some (.tuple [],⟨os.set r (fo kf vf (A++[(k,v)])),b,min w r⟩):=by
 simp only [dl,hi,Heap.get,h,fo,hb,and_self,if_true];simp only [sw hk A 0 hg,Heap.put];rw [ents_app,dk,aq];rfl
omit [DecidableEq κ] in
theorem len_map (h:os[r]? = some (fo kf vf A)):evLen .map (.map (some r)) ⟨os,b,w⟩=some (.int .i64 A.length):=by simp only [evLen,Heap.get,h,fo,zp]
end
theorem du {α:Type} (a c:List α) (k:Nat):(a++c)[a.length+k]? = c[k]?:=by rw [ak (by omega)]; congr 1; omega
theorem dp {α:Type} (a c:List α):(a++c)[a.length]? = c[0]?:=du a c 0
theorem iw {α:Type} (a c:List α) (k:Nat) (y:α):(a++c).set (a.length+k) y=a++c.set k y:=by rw [List.set_append_right _ _ (by omega)]; congr 2; omega
theorem gv {α:Type} (a c:List α) (y:α):(a++c).set a.length y=a++c.set 0 y:=iw a c 0 y
theorem uz {T:Nat→Option AFunc} {g:Nat} {f:AFunc} {rd:ARound} (hT:T g=some f) (hr:f.round=some (.round rd)) (i j:Nat) (a_s:List AVal) (h:Heap) :
  xCall T g (.ptr (some (i,j)) :: a_s) h=mustK (a_s.length=rd.params.length∧h.base≤i) (f:=⟨fun _=>andThen (kk i rd.params a_s h) (f:=⟨fun s=>xK T rd.assign ⟨s,{ h with wmin:=h.size }⟩
   (k:=⟨fun e st=>andThen (ku g i (some (e,st))) (f:=⟨fun st=>xK T rd.body st (k:=⟨fun e st=>roundOut h g i (some (e,st))⟩)⟩)⟩)⟩)⟩):=by
 rw [xRound_eq T hT hr];unfold xRound mustK;simp only;split
 ·cases kk i rd.params a_s h with
  | none=>rfl
  | some s =>
   simp only [dr];unfold xK;cases ir T rd.assign ⟨s,{ h with wmin:=h.size }⟩ with
   | none=>rfl
   | some x =>
    obtain ⟨e,st⟩:=x;simp only [dr];cases ku g i (some (e,st)) with
    | none=>rfl
    | some st =>
     simp only [dr];cases ir T rd.body st with
     | none=>rfl
     | some y=>rfl
 ·rfl
theorem ly {h0 h:Heap} {v:AVal} {k:List Nat} (hw:h0.size≤h.wmin) (hv:v.under h0.size=false) (hr:reach h h0.size 1000 v.ids []=k) (hok:∀ i ∈ v.ids++k.flatMap fun i=>((h.get i).map AObj.ids).getD [],i < h0.size∨i ∈ k) :
  dy h0 v h=(v.ren (fun i=>if i < h0.size then i else h0.size+idxIn i k),{ h0 with objs:=h0.objs++k.map fun i=>((h.get i).map (AObj.ren fun i=>if i < h0.size then i else h0.size+idxIn i k)).getD .dead }):=by
 unfold dy;rw [if_neg (by omega),hv];simp only [am,if_false,hr];rw [if_pos];rw [al];intro i hi;rcases hok i hi with h1 | h1
 ·rw [decide_eq_true h1]; rfl
 ·simp [h1]
end Go.Abs

namespace Go.Abs
structure FieldU where
 st:Bool
 name:Str
 desc:Str
structure InsU where
 op:Int
 n:Int
 m:Int
 cls:Str
 name:Str
 desc:Str
 text:Str
structure TrapU where
 lo:Int
 hi:Int
 at':Int
 cls:Str
structure MapU where
 at':Int
 locals:List Str
 la:Option (Nat × Nat)
 lc:Option Nat
 stack:List Str
 sa:Option (Nat × Nat)
 sc:Option Nat
structure MethU where
 st:Bool
 name:Str
 desc:Str
 stack:Int
 locals:Int
 code:List InsU
 ca:Option (Nat × Nat)
 cc:Option Nat
 traps:List TrapU
 ta:Option (Nat × Nat)
 tc:Option Nat
 maps:List MapU
 xa:Option (Nat × Nat)
 xc:Option Nat
structure UnitU where
 name:Str
 super:Str
 fields:List FieldU
 fa:Option (Nat × Nat)
 fc:Option Nat
 meths:List MethU
 ma:Option (Nat × Nat)
 mc:Option Nat
def FieldU.cells (f:FieldU):List AVal:=[.bool f.st,.str f.name,.str f.desc]
def InsU.cells (x:InsU):List AVal:=[.int .u8 x.op,.int .i64 x.n,.int .i64 x.m,.str x.cls,.str x.name,.str x.desc,.str x.text]
def TrapU.cells (x:TrapU):List AVal:=[.int .i64 x.lo,.int .i64 x.hi,.int .i64 x.at',.str x.cls]
def MapU.cells (x:MapU):List AVal:=[.int .i64 x.at',.slice x.la x.locals.length x.lc,.slice x.sa x.stack.length x.sc]
def MethU.cells (m:MethU):List AVal:=[.bool m.st,.str m.name,.str m.desc,.int .i64 m.stack,.int .i64 m.locals,.slice m.ca m.code.length m.cc,.slice m.ta m.traps.length m.tc,.slice m.xa m.maps.length m.xc]
def UnitU.cells (u:UnitU):List AVal:=[.str u.name,.str u.super,.slice u.fa u.fields.length u.fc,.slice u.ma u.meths.length u.mc]
def dj (s:Str):List AVal:=[.str s]
abbrev big:Nat:=9223372036854775807
def under (n:Nat) (a:Option (Nat × Nat)):Prop:=∀ i o,a=some (i,o)→i < n
structure MapU.ok (os:List AObj) (x:MapU):Prop where
 l:Row os 1 dj x.locals x.la
 ln:x.locals.length≤big
 lu:under os.length x.la
 s:Row os 1 dj x.stack x.sa
 sn:x.stack.length≤big
 su:under os.length x.sa
 ls:∀ t ∈ x.locals++x.stack,t.length≤big
structure MethU.ok (os:List AObj) (m:MethU):Prop where
 name:m.name.length≤big
 desc:m.desc.length≤big
 c:Row os 7 InsU.cells m.code m.ca
 cn:m.code.length≤big
 cu:under os.length m.ca
 cok:∀ x ∈ m.code,x.cls.length≤big∧x.name.length≤big∧x.desc.length≤big∧x.text.length≤big
 t:Row os 4 TrapU.cells m.traps m.ta
 tn:m.traps.length≤big
 tu:under os.length m.ta
 tok:∀ x ∈ m.traps,x.cls.length≤big
 x:Row os 3 MapU.cells m.maps m.xa
 xn:m.maps.length≤big
 xu:under os.length m.xa
 xok:∀ x ∈ m.maps,x.ok os
structure UnitU.ok (os:List AObj) (u:UnitU):Prop where
 name:u.name.length≤big
 super:u.super.length≤big
 f:Row os 3 FieldU.cells u.fields u.fa
 fn:u.fields.length≤big
 fu:under os.length u.fa
 fok:∀ x ∈ u.fields,x.name.length≤big∧x.desc.length≤big
 m:Row os 8 MethU.cells u.meths u.ma
 mn:u.meths.length≤big
 mu:under os.length u.ma
 mok:∀ x ∈ u.meths,x.ok os
def Pre (os O:List AObj):Prop:=∀ (i:Nat) (o:AObj),os[i]? = some o→O[i]? = some o
theorem Pre.refl (os:List AObj):Pre os os:=fun _ _ h=>h
theorem Pre.trans {A B C:List AObj} (h:Pre A B) (k:Pre B C):Pre A C:=fun i o ho=>k i o (h i o ho)
theorem Pre.app (os X:List AObj):Pre os (os++X):=fun i o h=>by rw [ag (aj h)]; exact h
theorem Pre.set {A B:List AObj} (h:Pre A B) {i:Nat} (o:AObj) (hi:A.length≤i):Pre A (B.set i o):=fun j p hj=>by have:=aj hj;rw [ap (by omega)]; exact h j p hj
theorem Pre.len {A B:List AObj} (h:Pre A B):A.length≤B.length:=by
 rcases bi B.length A.length with h1 | h1
 ·have h2:B.length < A.length:=h1;have:=aj (h B.length A[B.length] (by simp [h2]));omega
 ·exact h1
theorem Pre.row {os O:List AObj} {α:Type} {e:Nat} {f:α→List AVal} {L:List α} {a:Option (Nat × Nat)} (hp:Pre os O) (h:Row os e f L a):Row O e f L a :=
 ⟨fun hne=>by obtain ⟨b,o,cs,h1,h2,h3⟩:=h.at' hne;exact ⟨b,o,cs,h1,hp _ _ h2,h3⟩⟩
theorem under.le {n m:Nat} {a:Option (Nat × Nat)} (h:under n a) (hm:n≤m):under m a:=fun i o e=>gl (h i o e) hm
theorem MapU.ok.pre {os O:List AObj} (hp:Pre os O) {x:MapU} (h:x.ok os):x.ok O:=⟨hp.row h.l,h.ln,h.lu.le hp.len,hp.row h.s,h.sn,h.su.le hp.len,h.ls⟩
theorem MethU.ok.pre {os O:List AObj} (hp:Pre os O) {m:MethU} (h:m.ok os):m.ok O :=
 ⟨h.name,h.desc,hp.row h.c,h.cn,h.cu.le hp.len,h.cok,hp.row h.t,h.tn,h.tu.le hp.len,h.tok,hp.row h.x,h.xn,h.xu.le hp.len,fun x hx=>(h.xok x hx).pre hp⟩
theorem UnitU.ok.pre {os O:List AObj} (hp:Pre os O) {u:UnitU} (h:u.ok os):u.ok O :=
 ⟨h.name,h.super,hp.row h.f,h.fn,h.fu.le hp.len,h.fok,hp.row h.m,h.mn,h.mu.le hp.len,fun x hx=>(h.mok x hx).pre hp⟩
theorem under_val {n m:Nat} {a:Option (Nat × Nat)} {c:Option Nat} (h:under n a):AVal.under n (.slice a m c)=true:=by
 cases a with
 | none=>rfl
 | some p=>obtain ⟨i,o⟩:=p; simp [AVal.under,h i o rfl]
structure UnitU.low (n:Nat) (u:UnitU):Prop where
 f:under n u.fa
 m:under n u.ma
theorem UnitU.ok.low {O:List AObj} {u:UnitU} (h:u.ok O):u.low O.length:=⟨h.fu,h.mu⟩
section
variable {os:List AObj} {w:Nat}
end
end Go.Abs

namespace Go.Abs.Zh
open Go.Abs.Zd
variable {os O:List AObj} {b w:Nat}
theorem s27 {s:Str} (hn:s.length≤9223372036854775807) (hb:b≤os.length):xCall T 27 [.str s] ⟨os,b,w⟩=some (.bool (isTy s),⟨os,b,w⟩):=fh sub (Zd.s27 hn hb)
theorem s28 {s:Str} (hn:s.length≤9223372036854775807):xCall T 28 [.str s] ⟨os,b,w⟩=some (.bool (isTy s),⟨os,b,w⟩):=fh sub (Zd.s28 hn)
theorem s25 {s:Str} (hb:b≤os.length):xCall T 25 [.str s] ⟨os,b,w⟩=some (.bool (ip s),⟨os,b,w⟩):=fh sub (Zd.s25 hb)
theorem s26 {s:Str} (hn:s.length≤9223372036854775807):xCall T 26 [.str s] ⟨os,b,w⟩=some (.bool (ip s),⟨os,b,w⟩):=fh sub (Zd.s26 hn)
theorem s34 {s:Str} (hn:s.length≤9223372036854775807):xCall T 34 [.str s] ⟨os,b,w⟩=some (classV s,⟨os,b,w⟩):=fh sub (Zd.s34 hn)
theorem s33 {s:Str} (hn:s.length≤9223372036854775807):xCall T 33 [.str s] ⟨os,b,w⟩=some (classV s,⟨os,b,w⟩):=fh sub (Zd.s33 hn)
theorem s38 {s:Str} (hn:s.length≤9223372036854775807) (hb:b≤os.length):xCall T 38 [.str s] ⟨os,b,w⟩=some (methV os.length (methL s),⟨methO os (methL s),b,w⟩):=fh sub (Zd.s38 hn hb)
theorem s37 {s:Str} (hn:s.length≤9223372036854775807) (hb:b≤os.length):xCall T 37 [.str s] ⟨os,b,w⟩=some (methV os.length (methL s),⟨methO os (methL s),b,w⟩):=fh sub (Zd.s37 hn hb)
theorem s139 {s:Str}:xCall T 139 [.str s,.str [91]] ⟨os,b,w⟩=some (.str (bare s),⟨os,b,w⟩):=fh sub Zd.s139
theorem s173 {s:Str} {c:UInt8} {h:Heap}:xCall T 173 [.str s,.str [c]] h=some (.int .i64 (Lib.indexByte s c),h):=fh sub Zd.s173
theorem d180 {s:Str} {c:UInt8}:xCall Zd.T 180 [.str s,.str [c]] ⟨os,b,w⟩=some (.bool (decide (0≤Lib.indexByte s c)),⟨os,b,w⟩):=by simp [au Zd.t180,code180,Zd.s173]
theorem s180 {s:Str} {c:UInt8}:xCall T 180 [.str s,.str [c]] ⟨os,b,w⟩=some (.bool (decide (0≤Lib.indexByte s c)),⟨os,b,w⟩):=fh sub d180
abbrev Key:=Str × Str × Str
structure Mem where
 cls:Str
 st:Bool
 deriving DecidableEq
def keyF (k:Key):AVal:=.agg [.str k.1,.str k.2.1,.str k.2.2]
def memF (m:Mem):AVal:=.agg [.str m.cls,.bool m.st]
theorem yg:KeyF keyF:=fun a c=>by
 obtain ⟨a1,a2,a3⟩:=a;obtain ⟨c1,c2,c3⟩:=c;simp only [keyF,akey,az,bf,if_true,akeyL,akey1];by_cases h1:a1=c1
 ·by_cases h2:a2=c2
  ·by_cases h3:a3=c3 <;> simp [h1,h2,h3]
  ·simp [h1,h2]
 ·simp [h1]
structure World (O:List AObj) (N:Nat) (S:List (Str × Str)) (F M:List (Key × Mem)) (V:List (Key × Bool)):Prop where
 w0:O[N]? = some (.cells 4 [.map (some (N+1)),.map (some (N+2)),.map (some (N+3)),.map (some (N+4))])
 m1:O[N+1]? = some (fo .str .str S)
 m2:O[N+2]? = some (fo keyF memF F)
 m3:O[N+3]? = some (fo keyF memF M)
 m4:O[N+4]? = some (fo keyF .bool V)
variable {N:Nat} {S:List (Str × Str)} {F M:List (Key × Mem)} {V:List (Key × Bool)}
theorem World.lt (h:World O N S F M V):N+4 < O.length:=aj h.m4
theorem World.app (h:World O N S F M V) (X:List AObj):World (O++X) N S F M V:=by
 have:=h.lt;constructor <;> (rw [ag (by omega)])
 ·exact h.w0
 ·exact h.m1
 ·exact h.m2
 ·exact h.m3
 ·exact h.m4
theorem s96 (h:World O N S F M V) {c:Str}:xCall T 96 [.ptr (some (N,0)),.str c] ⟨O,b,w⟩=some (.tuple [.str ((gd S c).getD []),.bool (gd S c).isSome],⟨O,b,w⟩):=by
 have hl:=fun w=>rb (b:=b) (w:=w) (kn:=.one .s) (zero:=.str []) vv h.m1 (k:=c) rfl
 have e:((gd S c).map AVal.str).getD (.str []) = .str ((gd S c).getD []):=by cases gd S c <;> rfl
 rw [e] at hl;simp [-dl,au t96,code96,h.w0,hl]
theorem s54 (h:World O N S F M V) {c:Str}:xCall T 54 [.ptr (some (N,0)),.str c] ⟨O,b,w⟩=some (.bool (gd S c).isSome,⟨O,b,w⟩):=by
 have hl:=fun w=>s96 (b:=b) (w:=w) h (c:=c)
 simp [au t54,code54,hl]
def classOf (s:Str):Option Str:=if isObj s then some ((s.drop 1).take (s.length - 2)) else none
theorem uv (s:Str):classV s = .tuple [.str ((classOf s).getD []),.bool (classOf s).isSome]:=by unfold classV classOf;cases isObj s <;> rfl
def thereS (S:List (Str × Str)) (t:Str):Bool:=match classOf (bare t) with
 | some c=>(gd S c).isSome
 | none=>true
theorem s103 (h:World O N S F M V) {t:Str} (hn:t.length≤9223372036854775807):xCall T 103 [.ptr (some (N,0)),.str t] ⟨O,b,w⟩=some (.bool (thereS S t),⟨O,b,w⟩):=by
 have h1:=fun w=>s139 (os:=O) (b:=b) (w:=w) (s:=t)
 have hb:=qz t;have h2:=fun w=>s34 (os:=O) (b:=b) (w:=w) (s:=bare t) (by omega)
 have h3:=fun w c=>s54 (b:=b) (w:=w) h (c:=c)
 rw [uv] at h2;unfold thereS;cases hc:classOf (bare t) with
 | none=>rw [hc] at h2; simp [au t103,code103,h1,h2,h3]
 | some c=>rw [hc] at h2; simp [au t103,code103,h1,h2,h3]
def isName (s:Str):Bool:=!decide (0≤Lib.indexByte s 47) && ip s
theorem s181 {s:Str} (hb:b≤O.length):xCall T 181 [.str s] ⟨O,b,w⟩=some (.bool (isName s),⟨O,b,w⟩):=by
 have h1:=fun w=>s180 (os:=O) (b:=b) (w:=w) (s:=s) (c:=47)
 have h2:=fun w=>s25 (os:=O) (b:=b) (w:=w) (s:=s) hb
 unfold isName;by_cases c:0≤Lib.indexByte s 47
 ·simp [au t181,code181,h1,h2,c]
 ·simp [au t181,code181,h1,h2,c]
end Go.Abs.Zh

namespace Go.Abs.Zh
open Go.Abs.Zd
variable {os O:List AObj} {b w:Nat} {N:Nat} {S:List (Str × Str)} {F M:List (Key × Mem)} {V:List (Key × Bool)}
def lineS (S:List (Str × Str)):Nat→Str→List Str
 | 0,_=>[]
 | k+1,c=>match gd S c with
  | some d=>c :: lineS S k d
  | none=>[]
def runL {σ:Type} (step:σ→Str→σ × Option AExit):σ→List Str→σ × Option AExit
 | x,[]=>(x,none)
 | x,c :: r=>match step x c with
  | (y,none)=>runL step y r
  | (y,some e)=>(y,some e)
theorem s156 {c:Str} (hN:N < O.length):xCall T 156 [.ptr (some (N,0)),.str c] ⟨O,b,w⟩ =
  some (.func 155 [] [.ptr (some (O.length,0)),.ptr (some (O.length+1,0))],⟨O++[.cells 1 [.ptr (some (N,0))],.cells 1 [.str c]],b,w⟩):=by
 simp (disch:=omega) [au t156,code156,jd,lf,nltT,nltF,hN]
structure LineB {σ:Type} (B:σ→Str→AObj→List AObj) (N n i g lo:Nat) (sl:List (Nat × AVal)) (S:List (Str × Str)) (step:σ→Str→σ × Option AExit) (b:Nat):Prop where
 bn:b≤n
 lon:lo≤n
 c0:∀ x c o,(B x c o)[n]? = some (.cells 1 [.ptr (some (N,0))])
 c1:∀ x c o,(B x c o)[n+1]? = some (.cells 1 [.str c])
 set:∀ x c d o,(B x c o).set (n+1) (.cells 1 [.str d])=B x d o
 loop:∀ x c o,(B x c o)[i]? = some o
 w0:∀ x c o,∃ r,(B x c o)[N]? = some (.cells 4 (.map (some (N+1)) :: r))
 m1:∀ x c o,(B x c o)[N+1]? = some (fo .str .str S)
 body:∀ x c w,lo≤w→∃ w',lo≤w'∧w'≤i∧xCall T g [.ptr (some (i,0)),.str c] ⟨B x c (.loop g .ready none sl),b,w⟩ =
  some (.bool (step x c).2.isNone,⟨B (step x c).1 c (match (step x c).2 with | none=>.loop g .ready none sl | some e=>.loop g .done (some e) sl),b,w'⟩)
def endO (g:Nat) (sl:List (Nat × AVal)):Option AExit→AObj
 | none=>.loop g .ready none sl
 | some e=>.loop g .done (some e) sl
section
variable {σ:Type} {B:σ→Str→AObj→List AObj} {n i g lo:Nat} {sl:List (Nat × AVal)} {step:σ→Str→σ × Option AExit}
section
attribute [-simp] getElem?_pos getElem?_neg
theorem l155 (h:LineB B N n i g lo sl S step b) (hS:S.length≤9223372036854775807):∀ (j q:Nat) (x:σ) (c:Str) (w:Nat),q+j=S.length→lo≤w →
  ∃ c' w' e,lo≤w'∧(w'≤i∨(lineS S j c=[]∧c'=c∧w'=w))∧(e = .ret∨e = .exit 0)∧∀ (k:AExit→St→Option (AVal × Heap)),xK T (.loop code155L0) ⟨[(0,.val (.yield i)),(1,.val (.ptr (some (n,0)))),(2,.val (.ptr (some (n+1,0)))),(10,.val (.int .i64 S.length)),(11,.val (.int .i64 q))],⟨B x c (.loop g .ready none sl),b,w⟩⟩ (k:=⟨k⟩) =
   k e ⟨[],⟨B (runL step x (lineS S j c)).1 c' (endO g sl (runL step x (lineS S j c)).2),b,w'⟩⟩
 | 0,q,x,c,w,hq,hw=>by refine ⟨c,w,.exit 0,hw,.inr ⟨rfl,rfl,rfl⟩,.inr rfl,fun k=>?_⟩;rw [cg];simp (disch:=omega) [code155L0,iltF,lineS,runL,endO]
 | j+1,q,x,c,w,hq,hw=>by
  obtain ⟨r,hr⟩:=h.w0 x c (.loop g .ready none sl);have h0:=h.c0 x c (.loop g .ready none sl);have h1:=h.c1 x c (.loop g .ready none sl);have hl:=h.loop x c (.loop g .ready none sl);have hlk:=rb (b:=b) (w:=(B x c (.loop g .ready none sl)).length) (kn:=.one .s) (zero:=.str []) vv (h.m1 x c (.loop g .ready none sl)) (k:=c) rfl;have hlk2:=rb (b:=b) (w:=w) (kn:=.one .s) (zero:=.str []) vv (h.m1 x c (.loop g .ready none sl)) (k:=c) rfl;have e:((gd S c).map AVal.str).getD (.str []) = .str ((gd S c).getD []):=by cases gd S c <;> rfl
  rw [e] at hlk hlk2;cases hg:gd S c with
  | none =>
   refine ⟨c,w,.ret,hw,.inr ⟨by simp only [lineS,hg],rfl,rfl⟩,.inl rfl,fun k=>?_⟩;rw [hg] at hlk hlk2;simp only [mw,ni,cq,Option.isSome_some] at hlk hlk2;rw [cg];simp (disch:=omega) [-dl,gz,gs,code155L0,iltT,h0,h1,hr,hlk,hlk2,lineS,runL,endO,hg]
  | some d =>
   rw [hg] at hlk hlk2;simp only [mw,ni,cq,Option.isSome_some] at hlk hlk2;obtain ⟨w1,hw1,hwi,hb⟩:=h.body x c w hw;have hbn:=h.bn;have hlon:=h.lon;cases hst:step x c with
   | mk y e =>
    rw [hst] at hb;simp only at hb;cases e with
    | some e =>
     refine ⟨c,w1,.ret,hw1,.inl hwi,.inl rfl,fun k=>?_⟩;rw [cg];simp (disch:=omega) [-dl,gz,gs,code155L0,iltT,h0,h1,hr,hl,hlk,hlk2,hb,lineS,runL,endO,hg,hst]
    | none =>
     obtain ⟨c',w',e',hw',hwj,he',ih⟩:=l155 h hS j (q+1) y d (min w1 (n+1)) (by omega) (by omega);refine ⟨c',w',e',hw',?_,he',fun k=>?_⟩
     ·rcases hwj with h2 | ⟨_,_,h2⟩
      ·exact .inl h2
      ·exact .inl (by omega)
     have ih:=ih k;have e2:((q+1:Nat):Int)=(q:Int)+1:=by omega
     rw [e2] at ih;have h1':=h.c1 y c (.loop g .ready none sl);have hs:=h.set y c d (.loop g .ready none sl);rw [cg];generalize ACode.loop code155L0=L at ih ⊢;simp (disch:=omega) [-dl,gz,gs,code155L0,iltT,nleT,de,h0,h1,h1',hr,hl,hlk,hlk2,hb,hs,lineS,runL,hg,hst,ih]
end
theorem s155 (h:LineB B N n i g lo sl S step b) (hS:S.length≤9223372036854775807) (x:σ) (c:Str) (w:Nat) (hw:lo≤w) (hlo:lo≤(B x c (.loop g .ready none sl)).length) :
  ∃ c' w',lo≤w'∧xCall T 155 [.yield i,.ptr (some (n,0)),.ptr (some (n+1,0))] ⟨B x c (.loop g .ready none sl),b,w⟩ =
   some (.tuple [],⟨B (runL step x (lineS S S.length c)).1 c' (endO g sl (runL step x (lineS S S.length c)).2),b,w'⟩):=by
 have h0:=h.c0 x c (.loop g .ready none sl);obtain ⟨r,hr⟩:=h.w0 x c (.loop g .ready none sl);have hlen:=fun w=>len_map (b:=b) (w:=w) (h.m1 x c (.loop g .ready none sl))
 obtain ⟨c',w',e,hw',hwi,he,hl⟩:=l155 h hS S.length 0 x c (B x c (.loop g .ready none sl)).length (by omega) hlo;simp only [ce] at hl;have hil:=aj (h.loop x c (.loop g .ready none sl));refine ⟨c',if w' < (B x c (.loop g .ready none sl)).length then min w w' else w,by split <;> omega,?_⟩;rcases he with rfl | rfl
 all_goals
  simp (disch:=omega) [-getElem?_pos,-getElem?_neg,-evLen,gz,gs,au t155,code155,h0,hr,hlen,hl];rcases hwi with hwi | ⟨h1,h2,_⟩
  ·rw [if_pos (by omega),if_pos (by omega)]
  ·subst h2;rw [h1];split <;> simp [runL,endO]
end
end Go.Abs.Zh

namespace Go.Abs.Zh
open Go.Abs.Zd
variable {os O:List AObj} {b w:Nat} {N:Nat} {S:List (Str × Str)} {F M:List (Key × Mem)} {V:List (Key × Bool)}
def objectT:Str:=[79,98,106,101,99,116]
def lineEndB (O:List AObj) (N:Nat) (x:Str × Int) (c:Str) (o:AObj):List AObj :=
 O++[.cells 1 [.str x.1],.cells 1 [.int .i64 x.2],.cells 1 [.ptr (some (N,0))],.cells 1 [.str c],o]
def lineEndStep (x:Str × Int) (c:Str):(Str × Int) × Option AExit:=((c,IntKind.i64.wrap (x.2+1)),none)
theorem lineEnd_at (h:World O N S F M V) (hb:b≤O.length):LineB (lineEndB O N) N (O.length+2) (O.length+4) 321 O.length [(5,.ptr (some (O.length,0))),(6,.ptr (some (O.length+1,0)))] S lineEndStep b where
 bn:=by omega
 lon:=by omega
 c0:=fun x c o=>by unfold lineEndB; rw [du]; rfl
 c1:=fun x c o=>by unfold lineEndB; rw [bo,du]; rfl
 set:=fun x c d o=>by unfold lineEndB; rw [bo,iw]; rfl
 loop:=fun x c o=>by unfold lineEndB; rw [du]; rfl
 w0:=fun x c o=>⟨_,by unfold lineEndB; rw [ag (by have:=h.lt; omega)]; exact h.w0⟩
 m1:=fun x c o=>by unfold lineEndB; rw [ag (by have:=h.lt; omega)]; exact h.m1
 body:=fun x c w hw=>by
  have hb1:b≤O.length+1:=by omega
  have hb4:b≤O.length+4:=by omega
  refine ⟨O.length,ai _,by omega,?_⟩;simp (disch:=omega) [-getElem?_pos,-getElem?_neg,gz,gs,uz t321 rfl,round321,rcode321a,rcode321b,kk,ku,roundOut,setArgs,ofCaps,lineEndB,lineEndStep,nltT,nltF,du,dp,iw,gv,hb,hb1,hb4]
theorem lineS_len (S:List (Str × Str)):∀ (k:Nat) (c:Str),(lineS S k c).length≤k
 | 0,_=>ai _
 | k+1,c=>by
  simp only [lineS];split
  ·rename_i d _;have:=lineS_len S k d;simp only [az]; omega
  ·simp
theorem zm:∀ (L:List Str) (l:Str) (k:Nat),k+L.length≤9223372036854775807→runL lineEndStep (l,(k:Int)) L=((L.getLastD l,((k+L.length:Nat):Int)),none)
 | [],l,k,_=>rfl
 | c :: L,l,k,h=>by simp only [az] at h;simp only [runL,lineEndStep];rw [q9 (n:=k+1) (by omega) (by omega),zm L c (k+1) (by omega)];simp only [List.getLastD_cons,az];congr 3;omega
def endsS (S:List (Str × Str)) (c:Str):Bool:=decide ((lineS S S.length c).getLastD []=objectT) && decide (1 < (lineS S S.length c).length)
theorem s98 (h:World O N S F M V) (hb:b≤O.length) (hS:S.length≤9223372036854775807) {c:Str}:xCall T 98 [.ptr (some (N,0)),.str c] ⟨O,b,w⟩=some (.bool (endsS S c),⟨O,b,w⟩):=by
 have hN:=h.lt;have hN2:N < O.length+2:=by omega
 have hb1:b≤O.length+1:=by omega
 have hb4:b≤O.length+4:=by omega
 have h1:=fun w=>s156 (O:=O++[.cells 1 [.str []],.cells 1 [.int .i64 0]]) (b:=b) (w:=w) (N:=N) (c:=c) (by simp; omega)
 simp only [aq,az,bf,dk,ba,bl,bj,Nat.reduceAdd,bo] at h1;obtain ⟨c',w',hw',h2⟩:=s155 (lineEnd_at h hb) hS ([],0) c O.length (ai _) (by simp [lineEndB]);have hrun:=zm (lineS S S.length c) [] 0 (by have:=lineS_len S S.length c; omega);simp only [ce,dk] at hrun;rw [hrun] at h2;simp only [lineEndB,endO,bo,Nat.reduceAdd] at h2;unfold endsS objectT;generalize (lineS S S.length c).getLastD []=l at h2 ⊢;by_cases e:l=[79,98,106,101,99,116]
 ·simp (disch:=omega) [-getElem?_pos,-getElem?_neg,gz,gs,au t98,code98,capsOf,callVal,h1,h2,loopEnd,nltT,nltF,du,dp,iw,gv,hb,hb1,hb4,e];omega
 ·simp (disch:=omega) [-getElem?_pos,-getElem?_neg,gz,gs,au t98,code98,capsOf,callVal,h1,h2,loopEnd,nltT,nltF,du,dp,iw,gv,hb,hb1,hb4,e]
end Go.Abs.Zh

namespace Go.Abs
theorem row_flat {α:Type} {e:Nat} {f:α→List AVal} {cs:List AVal}:∀ (L:List α) (o:Nat),(∀ (j:Nat) (x:α),L[j]? = some x→o+j*e+e≤cs.length∧(cs.drop (o+j*e)).take e=f x)→(cs.drop o).take (L.length*e)=L.flatMap f
 | [],o,_=>by simp
 | x :: L,o,h=>by
  have h0:=(h 0 x rfl).2;rw [Nat.zero_mul,iz] at h0
  have ih:=row_flat L (o+e) fun j y hy=>by have:=h (j+1) y hy;rw [gg,Nat.one_mul,z6 (j*e) e,← bo] at this;exact this
  rw [az,gg,Nat.one_mul,z6,List.take_add,ci,h0,lk,ih]
theorem ol {α:Type} {e:Nat} {f:α→List AVal} {h:Heap} {L:List α} {a:Option (Nat × Nat)} {c:Option Nat} (hR:Row h.objs e f L a):il e h (.slice a L.length c)=some (L.flatMap f):=by
 by_cases hL:L=[]
 ·subst hL;cases a with
  | none=>rfl
  | some p=>rfl
 ·obtain ⟨b,o,cs,h1,h2,h3⟩:=hR.at' hL;subst h1;have hl:L.length≠0:=fun e=>hL (bq e)
  have hg:h.get b=some (.cells e cs):=h2;unfold il;simp only;rw [if_neg hl,hg];simp only;obtain ⟨x,hx⟩:∃ x,L[L.length - 1]? = some x:=⟨_,ah (by omega)⟩;have hb:=(h3 _ _ hx).1
  have he:(L.length - 1)*e+e=L.length*e:=by rw [← Nat.succ_mul]; congr 1; omega
  have h2:True∧o+L.length*e≤cs.length:=⟨trivial,by omega⟩;rw [if_pos h2,row_flat L o h3]
theorem qh {e:Nat} {h:Heap} {a:Option (Nat × Nat)} {c:Option Nat}:il e h (.slice a 0 c)=some []:=by
 cases a with
 | none=>rfl
 | some p=>rfl
theorem pu {e n:Nat} {h:Heap} {i:Nat} {cs:List AVal} {c:Option Nat} (hg:h.objs[i]? = some (.cells e cs)) (hn:cs.length=n*e):il e h (.slice (some (i,0)) n c)=some cs:=by
 unfold il;simp only;split
 ·rename_i h0;subst h0;rw [Nat.zero_mul] at hn;rw [bq hn]
 ·have hg':h.get i=some (.cells e cs):=hg;rw [hg'];simp only;have h2:True∧0+n*e≤cs.length:=⟨trivial,by omega⟩;rw [if_pos h2,eo,← hn,List.take_length]
theorem jl (t:Nat):sget [] t=none:=by simp
theorem jm (t:Nat) (x:Slot) (r:Slots):sget ((t,x) :: r) t=some x:=by simp
theorem jn (u t:Nat) (x:Slot) (r:Slots) (h:u≠t):sget ((u,x) :: r) t=sget r t:=by simp [h]
end Go.Abs

namespace Go.Abs.Zh
open Go.Abs.Zd
variable {os O:List AObj} {b w:Nat} {N:Nat} {S:List (Str × Str)} {F M:List (Key × Mem)} {V:List (Key × Bool)}
def isB (O:List AObj) (N:Nat) (d:Str) (x:Bool) (c:Str) (o:AObj):List AObj :=
 O++[.cells 1 [.str d],.cells 1 [.bool x],.cells 1 [.ptr (some (N,0))],.cells 1 [.str c],o]
def isStep (d:Str) (x:Bool) (c:Str):Bool × Option AExit:=if c=d then (true,some .ret) else (x,none)
theorem is_at {d:Str} (h:World O N S F M V) (hb:b≤O.length):LineB (isB O N d) N (O.length+2) (O.length+4) 320 O.length [(5,.ptr (some (O.length,0))),(6,.ptr (some (O.length+1,0)))] S (isStep d) b where
 bn:=by omega
 lon:=by omega
 c0:=fun x c o=>by unfold isB; rw [du]; rfl
 c1:=fun x c o=>by unfold isB; rw [bo,du]; rfl
 set:=fun x c d o=>by unfold isB; rw [bo,iw]; rfl
 loop:=fun x c o=>by unfold isB; rw [du]; rfl
 w0:=fun x c o=>⟨_,by unfold isB; rw [ag (by have:=h.lt; omega)]; exact h.w0⟩
 m1:=fun x c o=>by unfold isB; rw [ag (by have:=h.lt; omega)]; exact h.m1
 body:=fun x c w hw=>by
  have hb1:b≤O.length+1:=by omega
  have hb4:b≤O.length+4:=by omega
  by_cases e:c=d
  ·refine ⟨min w (O.length+1),by omega,by omega,?_⟩;simp (disch:=omega) [-getElem?_pos,-getElem?_neg,gz,gs,uz t320 rfl,round320,rcode320a,rcode320b,kk,ku,roundOut,setArgs,ofCaps,isB,isStep,nltT,nltF,du,dp,iw,gv,hb,hb1,hb4,e]
  ·refine ⟨min w (O.length+4),by omega,by omega,?_⟩;simp (disch:=omega) [-getElem?_pos,-getElem?_neg,gz,gs,uz t320 rfl,round320,rcode320a,rcode320b,kk,ku,roundOut,setArgs,ofCaps,isB,isStep,nltT,nltF,du,dp,iw,gv,hb,hb1,hb4,e]
theorem is_run (d:Str):∀ L:List Str,runL (isStep d) false L=if L.any (fun c=>decide (c=d)) then (true,some .ret) else (false,none)
 | []=>rfl
 | c :: L=>by
  have ih:=is_run d L;by_cases e:c=d
  ·simp [runL,isStep,e]
  ·simp only [runL,isStep,e,if_false,ih,List.any_cons,decide_false,Bool.false_or]
def isS (S:List (Str × Str)) (c d:Str):Bool:=(lineS S S.length c).any fun x=>decide (x=d)
theorem s52 (h:World O N S F M V) (hb:b≤O.length) (hS:S.length≤9223372036854775807) {c d:Str}:xCall T 52 [.ptr (some (N,0)),.str c,.str d] ⟨O,b,w⟩=some (.bool (isS S c d),⟨O,b,w⟩):=by
 have hN:=h.lt;have hN2:N < O.length+2:=by omega
 have hb1:b≤O.length+1:=by omega
 have hb4:b≤O.length+4:=by omega
 have h1:=fun w=>s156 (O:=O++[.cells 1 [.str d],.cells 1 [.bool false]]) (b:=b) (w:=w) (N:=N) (c:=c) (by simp; omega)
 simp only [aq,az,bf,dk,ba,bl,bj,Nat.reduceAdd,bo] at h1;obtain ⟨c',w',hw',h2⟩:=s155 (is_at (d:=d) h hb) hS false c O.length (ai _) (by simp [isB]);rw [is_run] at h2;unfold isS;generalize (lineS S S.length c).any (fun x=>decide (x=d))=r at h2 ⊢;cases r with
 | true =>
  simp only [if_true,isB,endO,bo,Nat.reduceAdd] at h2;simp (disch:=omega) [-getElem?_pos,-getElem?_neg,gz,gs,au t52,code52,capsOf,callVal,h1,h2,loopEnd,nltT,nltF,du,dp,iw,gv,hb,hb1,hb4]
 | false =>
  simp only [am,if_false,isB,endO,bo,Nat.reduceAdd] at h2;simp (disch:=omega) [-getElem?_pos,-getElem?_neg,gz,gs,au t52,code52,capsOf,callVal,h1,h2,loopEnd,nltT,nltF,du,dp,iw,gv,hb,hb1,hb4]
theorem s36 {s:Str} (hn:s.length≤9223372036854775807):xCall T 36 [.str s] ⟨os,b,w⟩=some (elemV s,⟨os,b,w⟩):=fh sub (Zd.s36 hn)
theorem s30 {s:Str}:xCall T 30 [.str s] ⟨os,b,w⟩=some (.bool (isRef s),⟨os,b,w⟩):=fh sub Zd.s30
def goesS (S:List (Str × Str)):Str→Str→Bool
 | [],t=>thereS S [] && thereS S t && decide (t=[])
 | x :: r,t=>thereS S (x :: r) && thereS S t && (decide (x :: r=t) || (if x :: r=[78] then isRef t else match classOf (x :: r),classOf t with
  | some a,some c=>isS S a c
  | none,some c=>decide (x=91) && decide (c=objectT)
  | some _,none=>false
  | none,none=>decide (x=91) && en 91 t && isRef r && isRef t.tail && goesS S r t.tail))
theorem ue {s:Str} {c:Str} (h:classOf s=some c):en 91 s=false∧en 76 s=true:=by
 unfold classOf isObj at h;split at h
 ·rename_i h1;simp only [av,decide_eq_true_eq] at h1;refine ⟨?_,h1.1.2⟩;cases s with
  | nil=>rfl
  | cons x r =>
   have h2:=h1.1.2;simp only [en,decide_eq_true_eq] at h2 ⊢;subst h2; rfl
 ·cases h
section
attribute [-simp] getElem?_pos getElem?_neg List.all_eq_true sget
attribute [local simp] gz gs nltT nltF iltT iltF ileT nleT de jl jm jn
set_option maxHeartbeats 2000000 in
theorem s47 (h:World O N S F M V) (hb:b≤O.length) (hS:S.length≤9223372036854775807):∀ (s t:Str) (w:Nat),s.length≤9223372036854775807→t.length≤9223372036854775807 →
  xCall T 47 [.ptr (some (N,0)),.str s,.str t] ⟨O,b,w⟩=some (.bool (goesS S s t),⟨O,b,w⟩)
 | [],t,w,hs,ht=>by
  have h103a:=fun w=>s103 (b:=b) (w:=w) h (t:=[]) (by simp)
  have h103:=fun w=>s103 (b:=b) (w:=w) h ht
  have h34:=fun w=>s34 (os:=O) (b:=b) (w:=w) ht
  have h34a:=fun w=>s34 (os:=O) (b:=b) (w:=w) (s:=[]) (by simp)
  have h36:=fun w=>s36 (os:=O) (b:=b) (w:=w) ht
  have h36a:=fun w=>s36 (os:=O) (b:=b) (w:=w) (s:=[]) (by simp)
  rw [uv] at h34 h34a;have hc0:classOf []=none:=rfl;rw [hc0] at h34a;simp only [elemV] at h36 h36a;have hb0:en 91 []=false:=rfl;simp only [hb0,am,if_false,mw,ni] at h36a h34a;unfold goesS;rcases bc (thereS S []) with c1 | c1
  ·rcases bc (thereS S t) with c2 | c2
   ·by_cases c3:t=[]
    ·subst c3;simp (disch:=omega) [au t47,code47,h103a,c1,h34a,h36a]
    ·have c3':¬ []=t:=fun e=>c3 e.symm
     simp (disch:=omega) [au t47,code47,h103a,h103,c1,c2,h34a,h36a,h34,h36,c3,c3']
   ·simp (disch:=omega) [au t47,code47,h103a,h103,c1,c2]
  ·simp (disch:=omega) [au t47,code47,h103a,c1]
 | x :: r,t,w,hs,ht=>by
  have hr:r.length≤9223372036854775807:=by simp only [az] at hs; omega
  have htt:t.tail.length≤9223372036854775807:=by rw [List.length_tail]; omega
  have ih:=fun w=>s47 h hb hS r t.tail w hr htt
  have h103a:=fun w=>s103 (b:=b) (w:=w) h hs
  have h103:=fun w=>s103 (b:=b) (w:=w) h ht
  have h34:=fun w=>s34 (os:=O) (b:=b) (w:=w) ht
  have h34a:=fun w=>s34 (os:=O) (b:=b) (w:=w) hs
  have h36:=fun w=>s36 (os:=O) (b:=b) (w:=w) ht
  have h36a:=fun w=>s36 (os:=O) (b:=b) (w:=w) hs
  have h30:=fun w s=>s30 (os:=O) (b:=b) (w:=w) (s:=s)
  have h52:=fun w a c=>s52 (w:=w) h hb hS (c:=a) (d:=c)
  rw [uv] at h34 h34a;simp only [elemV] at h36 h36a;have hbx:en 91 (x :: r)=decide (x=91):=rfl;rw [hbx] at h36a;simp only [List.tail_cons] at h36a;rw [au t47];unfold goesS;have hA:=fun c (e:classOf (x :: r)=some c)=>(ue e).1
  have hB:=fun c (e:classOf t=some c)=>(ue e).1
  rw [hbx] at hA;generalize hS0:x :: r=s at *;rcases bc (thereS S s) with c1 | c1;case inr=>simp (disch:=omega) [code47,h103a,c1]
  rcases bc (thereS S t) with c2 | c2;case inr=>simp (disch:=omega) [code47,h103a,h103,c1,c2]
  by_cases c3:s=t
  ·subst c3;cases hc:classOf s with
   | none =>
    rw [hc] at h34;by_cases c5:x=91
    ·simp (disch:=omega) [code47,h103,c1,h34,h36a,c5]
    ·simp (disch:=omega) [code47,h103,c1,h34,h36a,c5]
   | some q =>
    rw [hc] at h34;by_cases c5:x=91
    ·simp (disch:=omega) [code47,h103,c1,h34,h36a,c5]
    ·simp (disch:=omega) [code47,h103,c1,h34,h36a,c5]
  by_cases c4:s=[78]
  ·have hc:classOf s=none:=by rw [c4]; rfl
   have c5:¬ x=91:=by rw [c4] at hS0; simp only [kx] at hS0; rw [hS0.1]; decide
   rw [hc] at h34a;have c3':¬ [78]=t:=by rw [← c4]; exact c3
   subst c4;simp (disch:=omega) [code47,h103a,h103,c1,c2,c3',h34a,h34,h36a,h36,c5,h30]
  cases hc:classOf s with
  | some a =>
   have c5:¬ x=91:=by have:=hA a hc; simpa using this
   rw [hc] at h34a;cases hd:classOf t with
   | some c =>
    rw [hd] at h34;have c6:=hB c hd;simp (disch:=omega) [code47,h103a,h103,c1,c2,c3,c4,h34a,h34,h36a,h36,c5,c6,h30,h52]
   | none =>
    rw [hd] at h34;simp (disch:=omega) [code47,h103a,h103,c1,c2,c3,c4,h34a,h34,h36a,h36,c5,h30,h52]
  | none =>
   rw [hc] at h34a;cases hd:classOf t with
   | some c =>
    rw [hd] at h34;have c6:=hB c hd;by_cases c5:x=91
    ·simp (disch:=omega) [code47,h103a,h103,c1,c2,c3,c4,h34a,h34,h36a,h36,c5,c6,h30,h52,objectT];congr
    ·simp (disch:=omega) [code47,h103a,h103,c1,c2,c3,c4,h34a,h34,h36a,h36,c5,c6,h30,h52,objectT]
   | none =>
    rw [hd] at h34;by_cases c5:x=91
    ·rcases bc (en 91 t) with c6 | c6
     ·rcases bc (isRef r) with c7 | c7
      ·rcases bc (isRef t.tail) with c8 | c8
       ·simp (disch:=omega) [code47,h103a,h103,c1,c2,c3,c4,h34a,h34,h36a,h36,c5,c6,c7,c8,h30,ih]
       ·simp (disch:=omega) [code47,h103a,h103,c1,c2,c3,c4,h34a,h34,h36a,h36,c5,c6,c7,c8,h30,ih]
      ·simp (disch:=omega) [code47,h103a,h103,c1,c2,c3,c4,h34a,h34,h36a,h36,c5,c6,c7,h30,ih]
     ·simp (disch:=omega) [code47,h103a,h103,c1,c2,c3,c4,h34a,h34,h36a,h36,c5,c6,h30,ih]
    ·simp (disch:=omega) [code47,h103a,h103,c1,c2,c3,c4,h34a,h34,h36a,h36,c5,h30,ih]
end
end Go.Abs.Zh

namespace Go.Abs.Zh
open Go.Abs.Zd
variable {os O:List AObj} {b w:Nat} {N:Nat} {S:List (Str × Str)} {F M:List (Key × Mem)} {V:List (Key × Bool)}
end Go.Abs.Zh

namespace Go.Abs.Zh
open Go.Abs.Zd
variable {os O:List AObj} {b w:Nat} {N:Nat} {S:List (Str × Str)} {F M:List (Key × Mem)} {V:List (Key × Bool)}
def overB (O G:List AObj) (N:Nat) (m:MethU) (x:Bool) (c:Str) (o:AObj):List AObj :=
 O ++ .cells 1 [.ptr (some (N,0))] :: .cells 1 [.bool x] :: (G++[.cells 8 m.cells,.cells 1 [.ptr (some (N,0))],.cells 1 [.str c],o])
def overOk (M:List (Key × Mem)) (m:MethU) (c:Str):Bool:=match gd M (c,m.name,m.desc) with
 | some y=>y.st == m.st
 | none=>true
def overStep (M:List (Key × Mem)) (m:MethU) (x:Bool) (c:Str):Bool × Option AExit:=if overOk M m c then (x,none) else (false,some .ret)
section
attribute [-simp] getElem?_pos getElem?_neg
attribute [local simp] gz gs
theorem over_at {G:List AObj} {m:MethU} (h:World O N S F M V) (hb:b≤O.length) :
  LineB (overB O G N m) N (O.length+(G.length+3)) (O.length+(G.length+5)) 322 O.length [(2,.ptr (some (O.length,0))),(4,.ptr (some (O.length+1,0))),(6,.ptr (some (O.length+(G.length+2),0)))] S (overStep M m) b where
 bn:=by omega
 lon:=by omega
 c0:=fun x c o=>by unfold overB; rw [du]; simp only [jq,du]; rfl
 c1:=fun x c o=>by unfold overB; rw [bo,du]; simp only [jq,bo,du]; rfl
 set:=fun x c d o=>by unfold overB; rw [bo,iw]; simp only [List.set_cons_succ,bo,iw]; rfl
 loop:=fun x c o=>by unfold overB; rw [du]; simp only [jq,du]; rfl
 w0:=fun x c o=>⟨_,by unfold overB; rw [ag (by have:=h.lt; omega)]; exact h.w0⟩
 m1:=fun x c o=>by unfold overB; rw [ag (by have:=h.lt; omega)]; exact h.m1
 body:=fun x c w hw=>by
  have hl:=h.lt;have hw0:∀ X,(O++X)[N]? = _:=fun X=>(ag (l₂:=X) (show N < O.length by omega)).trans h.w0
  have hb1:b≤O.length+1:=by omega
  have hb5:b≤O.length+(G.length+5):=by omega
  have hlk:=fun X w=>rb (os:=O++X) (b:=b) (w:=w) (r:=N+3) (A:=M) (vf:=memF) (kn:=.agg [.s,.s,.s]) (zero:=.agg [.str [],.bool false]) yg (by rw [ag (by omega)]; exact h.m3) (k:=(c,m.name,m.desc)) rfl
  simp only [keyF] at hlk;cases hg:gd M (c,m.name,m.desc) with
  | none =>
   rw [hg] at hlk;simp only [Option.map_none,mw,ni] at hlk;refine ⟨min w (O.length+(G.length+5)),by omega,by omega,?_⟩;simp (config:={ maxSteps:=1000000 }) (disch:=omega) [-dl,uz t322 rfl,round322,rcode322a,rcode322b,kk,ku,roundOut,setArgs,ofCaps,overB,overStep,overOk,nltT,nltF,du,dp,iw,gv,hb,hb1,hb5,hlk,hg,hw0,MethU.cells]
  | some y =>
   rw [hg] at hlk;simp only [bw,cq,Option.isSome_some,memF] at hlk;by_cases e:y.st=m.st
   ·refine ⟨min w (O.length+(G.length+5)),by omega,by omega,?_⟩;simp (config:={ maxSteps:=1000000 }) (disch:=omega) [-dl,uz t322 rfl,round322,rcode322a,rcode322b,kk,ku,roundOut,setArgs,ofCaps,overB,overStep,overOk,nltT,nltF,du,dp,iw,gv,hb,hb1,hb5,hlk,hg,hw0,MethU.cells,e]
   ·refine ⟨min w (O.length+1),by omega,by omega,?_⟩;simp (config:={ maxSteps:=1000000 }) (disch:=omega) [-dl,uz t322 rfl,round322,rcode322a,rcode322b,kk,ku,roundOut,setArgs,ofCaps,overB,overStep,overOk,nltT,nltF,du,dp,iw,gv,hb,hb1,hb5,hlk,hg,hw0,MethU.cells,e]
end
def overM (S:List (Str × Str)) (M:List (Key × Mem)) (c:Str) (m:MethU):Bool:=(lineS S S.length c).all (overOk M m)
theorem over_run (M:List (Key × Mem)) (m:MethU):∀ L:List Str,runL (overStep M m) false L=(false,if L.all (overOk M m) then none else some .ret)
 | []=>rfl
 | c :: L=>by
  simp only [runL,overStep,dv];by_cases e:overOk M m c=true
  ·simp only [e,if_true,dh]; exact over_run M m L
  ·simp [e]
theorem j7 {α:Type} {e:Nat} {f:α→List AVal} {L:List α} {a:Option (Nat × Nat)} (h:Row os e f L a) {i:Nat} {x:α} (hx:L[i]? = some x) :
  ∃ p o cs,a=some (p,o)∧os[p]? = some (.cells e cs)∧p < os.length∧o+i*e+e≤cs.length∧(cs.drop (o+i*e)).take e=f x:=by
 obtain ⟨p,o,cs,h1,h2,h3⟩:=h.at' (ux hx);exact ⟨p,o,cs,h1,h2,aj h2,h3 i x hx⟩
section
attribute [-simp] getElem?_pos getElem?_neg
theorem l97 {u:UnitU} (hu:u.ok O) (h:World O N S F M V) (hb:b≤O.length) (hS:S.length≤9223372036854775807):∀ (j i:Nat) (G:List AObj) (w:Nat),i+j=u.meths.length→O.length≤w →
  ∃ G' w' s',O.length≤w'∧sget s' 4=some (.val (.ptr (some (O.length+1,0))))∧∀ (k:AExit→St→Option (AVal × Heap)),
   xK T (.loop code97L1) ⟨[(2,.val (.ptr (some (O.length,0)))),(3,.var u.cells),(4,.val (.ptr (some (O.length+1,0)))),(11,.val (.slice u.ma u.meths.length u.mc)),(12,.val (.int .i64 u.meths.length)),(13,.val (.int .i64 i))],
    ⟨O ++ .cells 1 [.ptr (some (N,0))] :: .cells 1 [.bool false] :: G,b,w⟩⟩ (k:=⟨k⟩) =
   if (u.meths.drop i).all (overM S M u.name) then k (.exit 0) ⟨[(4,.val (.ptr (some (O.length+1,0))))],⟨O ++ .cells 1 [.ptr (some (N,0))] :: .cells 1 [.bool false] :: G',b,w'⟩⟩
   else k .ret ⟨s',⟨O ++ .cells 1 [.ptr (some (N,0))] :: .cells 1 [.bool false] :: G',b,w'⟩⟩
 | 0,i,G,w,hi,hw=>by refine ⟨G,w,[(4,.val (.ptr (some (O.length+1,0))))],hw,rfl,fun k=>?_⟩;rw [cg,b0 (by omega)];simp (disch:=omega) [code97L1,iltF]
 | j+1,i,G,w,hi,hw=>by
  obtain ⟨m,hm⟩:∃ m,u.meths[i]? = some m:=⟨_,ah (by omega)⟩;obtain ⟨p,o,cs,ha,hp,hpl,hcs,ht⟩:=j7 hu.m hm;have hmn:u.meths.length≤9223372036854775807:=hu.mn;have hml:m.cells.length=8:=rfl
  have hd:u.meths.drop i=m :: u.meths.drop (i+1):=by have:=aj hm;rw [ah this] at hm;rw [ed this,dg hm]
  have hb2:b≤O.length+(G.length+2):=by omega
  have hb5:b≤O.length+(G.length+5):=by omega
  have hp':∀ X,(O++X)[p]? = _:=fun X=>(ag (l₂:=X) hpl).trans hp
  have hl:=h.lt;have h1:=fun w=>s156 (O:=O ++ .cells 1 [.ptr (some (N,0))] :: .cells 1 [.bool false] :: (G++[.cells 8 m.cells])) (b:=b) (w:=w) (N:=N) (c:=u.name) (by simp; omega)
  simp only [aq,az,bf,dk,ba,bl,bj,Nat.reduceAdd,bo] at h1;obtain ⟨c',w',hw',h2⟩:=s155 (over_at (G:=G) (m:=m) h hb) hS false u.name (min w (O.length+(G.length+2))) (by omega) (by simp [overB]);rw [over_run] at h2;have hov:overM S M u.name m=(lineS S S.length u.name).all (overOk M m):=rfl;rw [← hov] at h2;by_cases e:overM S M u.name m=true
  ·rw [if_pos e] at h2;simp only [overB,endO,bo,Nat.reduceAdd] at h2;obtain ⟨G',w2,s',k1,k2,ih⟩:=l97 hu h hb hS j (i+1) (G++[.cells 8 m.cells,.cells 1 [.ptr (some (N,0))],.cells 1 [.str c'],.dead]) (min w' (O.length+(G.length+5))) (by omega) (by omega);refine ⟨G',w2,s',k1,k2,fun k=>?_⟩;have ih:=ih k;have e2:((i+1:Nat):Int)=(i:Int)+1:=by omega
   rw [e2] at ih;rw [cg,hd];simp only [dv,e,dh];rw [← ih];generalize ACode.loop code97L1=L;simp (disch:=omega) [gz,gs,code97L1,capsOf,callVal,h1,h2,loopEnd,nltT,nltF,iltT,ileT,nleT,de,du,dp,iw,gv,hb,hb2,hb5,hp',ht,ha,hml,UnitU.cells,bo]
  ·rw [if_neg e] at h2;simp only [overB,endO,bo,Nat.reduceAdd] at h2;refine ⟨G++[.cells 8 m.cells,.cells 1 [.ptr (some (N,0))],.cells 1 [.str c'],.dead],min w' (O.length+(G.length+5)),?_,by omega,?_,fun k=>?_⟩;rotate_left 2
   ·rw [cg,hd];simp only [dv,e,d8,am,if_false];generalize ACode.loop code97L1=L;simp (disch:=omega) [gz,gs,code97L1,capsOf,callVal,h1,h2,loopEnd,nltT,nltF,iltT,ileT,nleT,de,du,dp,iw,gv,hb,hb2,hb5,hp',ht,ha,hml,UnitU.cells,bo];rfl
   ·rfl
end
def overS (S:List (Str × Str)) (M:List (Key × Mem)) (u:UnitU):Bool:=u.meths.all (overM S M u.name)
theorem s97 {u:UnitU} (hu:u.ok O) (h:World O N S F M V) (hb:b≤O.length) (hS:S.length≤9223372036854775807):xCall T 97 [.ptr (some (N,0)),.agg u.cells] ⟨O,b,w⟩=some (.bool (overS S M u),⟨O,b,w⟩):=by
 have hl:=h.lt;have hb1:b≤O.length+1:=by omega
 obtain ⟨G',w',s',k1,k2,hk⟩:=l97 hu h hb hS u.meths.length 0 [] O.length (by omega) (ai _);simp only [ce,eo] at hk;unfold overS;by_cases e:u.meths.all (overM S M u.name)=true
 ·simp only [e,if_true] at hk ⊢;unfold UnitU.cells at hk ⊢;simp (disch:=omega) [-getElem?_pos,-getElem?_neg,gz,gs,au t97,code97,hk,nltT,nltF,du,dp,iw,gv,hb,hb1]
 ·simp only [e,if_false] at hk ⊢;unfold UnitU.cells at hk ⊢;simp (disch:=omega) [-getElem?_pos,-getElem?_neg,gz,gs,au t97,code97,hk,k2,nltT,nltF,du,dp,iw,gv,hb,hb1]
end Go.Abs.Zh

namespace Go.Abs.Zh
open Go.Abs.Zd
variable {os O:List AObj} {b w:Nat} {N:Nat} {S:List (Str × Str)} {F M:List (Key × Mem)} {V:List (Key × Bool)}
theorem World.setF (h:World O N S F M V) (F':List (Key × Mem)):World (O.set (N+2) (fo keyF memF F')) N S F' M V:=by
 have hl:=h.lt;constructor
 ·rw [ap (by omega)]; exact h.w0
 ·rw [ap (by omega)]; exact h.m1
 ·rw [db,if_pos rfl,if_pos (by omega)]
 ·rw [ap (by omega)]; exact h.m3
 ·rw [ap (by omega)]; exact h.m4
theorem World.setM (h:World O N S F M V) (M':List (Key × Mem)):World (O.set (N+3) (fo keyF memF M')) N S F M' V:=by
 have hl:=h.lt;constructor
 ·rw [ap (by omega)]; exact h.w0
 ·rw [ap (by omega)]; exact h.m1
 ·rw [ap (by omega)]; exact h.m2
 ·rw [db,if_pos rfl,if_pos (by omega)]
 ·rw [ap (by omega)]; exact h.m4
def fieldOk (S:List (Str × Str)) (A:List (Str × Bool)) (f:FieldU):Bool:=isName f.name && isTy f.desc && thereS S f.desc && !(gd A f.name).getD false
def fieldsS (S:List (Str × Str)):List (Str × Bool)→List FieldU→Bool
 | _,[]=>true
 | A,f :: r=>fieldOk S A f && fieldsS S (A++[(f.name,true)]) r
def fieldE (c:Str) (f:FieldU):Key × Mem:=((c,f.name,f.desc),⟨c,f.st⟩)
theorem l99 {u:UnitU} (hu:u.ok os) (hp:Pre os O) (hN:os.length≤N) (h:World O N S F M V) (hb:b≤N):∀ (j i:Nat) (F':List (Key × Mem)) (A:List (Str × Bool)) (w:Nat),i+j=u.fields.length→N+2≤w →
  (∀ x ∈ F',x.1.1=u.name→(gd A x.1.2.1).isSome=true)→(∀ x ∈ A,x.2=true) →
  ∃ O' w' e s',N+2≤w'∧(if fieldsS S A (u.fields.drop i) then e = .exit 0∧s'=[]∧(w'≤N+2∨(u.fields.drop i=[]∧w'=w))∧∃ X,O'=O.set (N+2) (fo keyF memF (F'++(u.fields.drop i).map (fieldE u.name)))++X else e = .ret∧s'=[(4,.val (.bool false))]) ∧
   ∀ (k:AExit→St→Option (AVal × Heap)),
   xK T (.loop code99L0) ⟨[(0,.val (.ptr (some (N,0)))),(3,.var u.cells),(5,.val (.map (some O.length))),(10,.val (.slice u.fa u.fields.length u.fc)),(11,.val (.int .i64 u.fields.length)),(12,.val (.int .i64 i))],
    ⟨O.set (N+2) (fo keyF memF F')++[fo .str .bool A],b,w⟩⟩ (k:=⟨k⟩)=k e ⟨s',⟨O',b,w'⟩⟩
 | 0,i,F',A,w,hi,hw,hF,hA=>by
  refine ⟨O.set (N+2) (fo keyF memF F')++[fo .str .bool A],w,.exit 0,[],hw,?_,fun k=>?_⟩
  ·rw [b0 (by omega)];simp only [fieldsS,if_true,fm,co];exact ⟨trivial,trivial,.inr ⟨trivial,trivial⟩,_,rfl⟩
  ·rw [cg];simp (disch:=omega) [-getElem?_pos,-getElem?_neg,code99L0,iltF]
 | j+1,i,F',A,w,hi,hw,hF,hA=>by
  obtain ⟨f,hf⟩:∃ f,u.fields[i]? = some f:=⟨_,ah (by omega)⟩;obtain ⟨p,o,cs,ha,hpp,hpl,hcs,ht⟩:=j7 hu.f hf;have hfn:u.fields.length≤9223372036854775807:=hu.fn;obtain ⟨hn1,hn2⟩:=hu.fok f (bz hf)
  have hd:u.fields.drop i=f :: u.fields.drop (i+1):=by have:=aj hf;rw [ah this] at hf;rw [ed this,dg hf]
  have hl:=h.lt;have hW:=(h.setF F').app [fo .str .bool A]
  have hpO:(O.set (N+2) (fo keyF memF F')++[fo .str .bool A])[p]? = some (.cells 3 cs):=by rw [ag (by simp; omega),ap (by omega)]; exact hp _ _ hpp
  have hAl:(O.set (N+2) (fo keyF memF F')++[fo .str .bool A])[O.length]? = some (fo .str .bool A):=by rw [ak (by simp)]; simp
  have hbO:b≤(O.set (N+2) (fo keyF memF F')++[fo .str .bool A]).length:=by simp; omega
  have h181:=fun w=>s181 (O:=O.set (N+2) (fo keyF memF F')++[fo .str .bool A]) (b:=b) (w:=w) (s:=f.name) hbO
  have h27:=fun w=>s27 (os:=O.set (N+2) (fo keyF memF F')++[fo .str .bool A]) (b:=b) (w:=w) (s:=f.desc) hn2 hbO
  have h103:=fun w=>s103 (b:=b) (w:=w) hW (t:=f.desc) hn2
  have hlk:=fun w=>lookup_v (b:=b) (w:=w) (kn:=.one .s) (zero:=.bool false) vv hAl (k:=f.name) rfl
  have hlv:((gd A f.name).map AVal.bool).getD (.bool false) = .bool ((gd A f.name).getD false):=by cases gd A f.name <;> rfl
  rw [hlv] at hlk;have hm1:=hW.w0;have hc0:f.cells=[.bool f.st,.str f.name,.str f.desc]:=rfl;rw [hc0] at ht;by_cases c:fieldOk S A f=true
  ·have hc:=c;unfold fieldOk at hc;simp only [av,gb] at hc;obtain ⟨⟨⟨c1,c2⟩,c3⟩,c4⟩:=hc
   have hgA:gd A f.name=none:=by
    cases hg:gd A f.name with
    | none=>rfl
    | some v =>
     have:=hA _ (getE_mem hg);simp only at this;rw [hg,this] at c4; cases c4
   have hgF:gd F' (u.name,f.name,f.desc)=none:=by
    cases hg:gd F' (u.name,f.name,f.desc) with
    | none=>rfl
    | some v =>
     have:=hF _ (getE_mem hg) rfl;simp only at this;rw [hgA] at this; cases this
   have hup1:=fun w=>sx (b:=b) (w:=w) (kn:=.one .s) vv hAl (k:=f.name) true rfl (by omega) hgA
   have hs1:(O.set (N+2) (fo keyF memF F')++[fo .str .bool A]).set O.length (fo .str .bool (A++[(f.name,true)]))=O.set (N+2) (fo keyF memF F')++[fo .str .bool (A++[(f.name,true)])]:=by rw [List.set_append_right _ _ (by simp)]; simp
   simp only [hs1] at hup1;have hW2:=(h.setF F').app [fo .str .bool (A++[(f.name,true)])];have hup2:=fun w=>sx (b:=b) (w:=w) (kn:=.agg [.s,.s,.s]) yg hW2.m2 (k:=(u.name,f.name,f.desc)) ⟨u.name,f.st⟩ rfl (by omega) hgF
   have hs2:(O.set (N+2) (fo keyF memF F')++[fo .str .bool (A++[(f.name,true)])]).set (N+2) (fo keyF memF (F'++[((u.name,f.name,f.desc),⟨u.name,f.st⟩)]))=O.set (N+2) (fo keyF memF (F'++[fieldE u.name f]))++[fo .str .bool (A++[(f.name,true)])]:=by rw [tf _ _ (by simp; omega),List.set_set]; rfl
   simp only [hs2,keyF,memF] at hup2;have hm2:=hW2.w0
   obtain ⟨O',w',e,s',r1,r2,ih⟩:=l99 hu hp hN h hb j (i+1) (F'++[fieldE u.name f]) (A++[(f.name,true)]) (min (min w O.length) (N+2)) (by omega) (by omega) (fun x hx hn=>by
     rcases bp.1 hx with hx | hx
     ·rw [nw];have:=hF x hx hn;cases hg:gd A x.1.2.1 with
      | none=>rw [hg] at this; cases this
      | some v=>rfl
     ·rw [d9] at hx;subst hx;rw [nw];simp only [fieldE,hgA,Option.none_or,gd,if_true];rfl) (fun x hx=>by
     rcases bp.1 hx with hx | hx
     ·exact hA x hx
     ·rw [d9] at hx; subst hx; rfl)
   refine ⟨O',w',e,s',r1,?_,fun k=>?_⟩
   ·rw [hd];simp only [fieldsS,c,dh];rw [cf];rw [ba,List.singleton_append] at r2;split at r2
    ·rename_i hff;obtain ⟨q1,q2,q3,q4⟩:=r2;rw [if_pos hff];refine ⟨q1,q2,.inl ?_,q4⟩;rcases q3 with q3 | ⟨_,q3⟩ <;> omega
    ·rename_i hff;rw [if_neg hff]; exact r2
   have ih:=ih k;have e2:((i+1:Nat):Int)=(i:Int)+1:=by omega
   rw [e2] at ih;rw [cg,← ih];generalize ACode.loop code99L0=L;generalize O.set (N+2) (fo keyF memF F')++[fo .str .bool A]=H at hpO hAl hW hbO h181 h27 h103 hlk hup1 hm1 hs1 ⊢;generalize O.set (N+2) (fo keyF memF F')++[fo .str .bool (A++[(f.name,true)])]=H2 at hup1 hW2 hup2 hs1 hs2 hm2 ⊢;generalize O.set (N+2) (fo keyF memF (F'++[fieldE u.name f]))++[fo .str .bool (A++[(f.name,true)])]=H3 at hup2 hs2 ⊢;simp (disch:=omega) [-getElem?_pos,-getElem?_neg,-dl,gz,gs,code99L0,h181,h27,h103,hlk,nltT,nltF,iltT,ileT,nleT,de,hb,hpO,ht,ha,c1,c2,c3,c4,hup1,hup2,hm1,hm2,keyF,memF,UnitU.cells]
  ·have hfl:fieldsS S A (u.fields.drop i)=false:=by rw [hd]; simp only [fieldsS,Bool.and_eq_false_iff]; left; simpa using c
   rw [hfl];refine ⟨O.set (N+2) (fo keyF memF F')++[fo .str .bool A],w,.ret,[(4,.val (.bool false))],hw,by simp,fun k=>?_⟩;rw [cg];generalize ACode.loop code99L0=L;generalize O.set (N+2) (fo keyF memF F')++[fo .str .bool A]=H at hpO hAl hW hbO h181 h27 h103 hlk hm1 ⊢;unfold fieldOk at c;cases c1:isName f.name with
   | false=>simp (disch:=omega) [-getElem?_pos,-getElem?_neg,-dl,gz,gs,code99L0,h181,h27,h103,hlk,nltT,nltF,iltT,ileT,nleT,de,hb,hpO,ht,ha,c1,UnitU.cells]
   | true =>
    cases c2:isTy f.desc with
    | false=>simp (disch:=omega) [-getElem?_pos,-getElem?_neg,-dl,gz,gs,code99L0,h181,h27,h103,hlk,nltT,nltF,iltT,ileT,nleT,de,hb,hpO,ht,ha,c1,c2,UnitU.cells]
    | true =>
     cases c3:thereS S f.desc with
     | false=>simp (disch:=omega) [-getElem?_pos,-getElem?_neg,-dl,gz,gs,code99L0,h181,h27,h103,hlk,nltT,nltF,iltT,ileT,nleT,de,hb,hpO,ht,ha,c1,c2,c3,UnitU.cells]
     | true =>
      cases c4:(gd A f.name).getD false with
      | false=>rw [c1,c2,c3,c4] at c; exact absurd rfl c
      | true=>simp (disch:=omega) [-getElem?_pos,-getElem?_neg,-dl,gz,gs,code99L0,h181,h27,h103,hlk,nltT,nltF,iltT,ileT,nleT,de,hb,hpO,ht,ha,c1,c2,c3,c4,UnitU.cells]
theorem mObj_set (h:World O N S F M V):O.set (N+2) (fo keyF memF F)=O:=by
 have:=h.lt;refine kv fun i=>?_
 by_cases e:N+2=i
 ·subst e; rw [db,if_pos rfl,if_pos (by omega),h.m2]
 ·rw [ap e]
section
attribute [-simp] getElem?_pos getElem?_neg
attribute [local simp] gz gs
theorem s99 {u:UnitU} (hu:u.ok os) (hp:Pre os O) (hN:os.length≤N) (h:World O N S F M V) (hb:b≤N) (hF:∀ x ∈ F,x.1.1≠u.name) :
  ∃ O' w',min w (N+2)≤w'∧(fieldsS S [] u.fields=true→∃ X,O'=O.set (N+2) (fo keyF memF (F++u.fields.map (fieldE u.name)))++X) ∧
   xCall T 99 [.ptr (some (N,0)),.agg u.cells] ⟨O,b,w⟩=some (.bool (fieldsS S [] u.fields),⟨O',b,w'⟩):=by
 have hl:=h.lt;obtain ⟨O',w',e,s',r1,r2,hk⟩:=l99 hu hp hN h hb u.fields.length 0 F [] O.length (by omega) (by omega) (fun x hx hn=>absurd hn (hF x hx)) (fun _ h=>by cases h);rw [mObj_set h] at hk;have hm0:fo AVal.str AVal.bool [] = .map [] 0:=rfl;simp only [ce,eo,hm0] at hk r2;by_cases c:fieldsS S [] u.fields=true
 ·rw [if_pos c] at r2;obtain ⟨rfl,rfl,q3,X,q4⟩:=r2;rw [c];rcases q3 with q3 | ⟨q3,q5⟩
  ·refine ⟨O',min w w',by omega,fun _=>⟨X,q4⟩,?_⟩;unfold UnitU.cells at hk ⊢;simp (disch:=omega) [au t99,code99,hk,nltT]
  ·refine ⟨O,w,by omega,fun _=>⟨[],by rw [q3,fm,co,co,mObj_set h]⟩,?_⟩;unfold UnitU.cells at hk ⊢;simp (disch:=omega) [au t99,code99,hk,nltF]
 ·rw [if_neg c] at r2;obtain ⟨rfl,rfl⟩:=r2;have c':fieldsS S [] u.fields=false:=by simpa using c
  rw [c'];refine ⟨if w' < O.length then O' else O,if w' < O.length then min w w' else w,by split <;> omega,by simp,?_⟩;unfold UnitU.cells at hk ⊢;simp (disch:=omega) [au t99,code99,hk];split <;> rfl
end
end Go.Abs.Zh

namespace Go.Abs.Zh
open Go.Abs.Zd
variable {os O:List AObj} {b w:Nat} {N:Nat} {S:List (Str × Str)} {F M:List (Key × Mem)} {V:List (Key × Bool)}
theorem methL_len {s:Str} {A:List Str} {r:Str} (h:methL s=some (A,r)):A.length≤16∧r.length≤s.length∧∀ t ∈ A,t.length≤s.length:=by
 unfold methL at h;split at h
 ·split at h
  ·rename_i A' r' hm;split at h
   ·cases h;obtain ⟨h1,h2,h3⟩:=pi hm;simp only [List.length_tail] at h2 h3;exact ⟨h1,by simp only [List.length_tail]; omega,fun t ht=>by have:=h3 t ht; omega⟩
   ·cases h
  ·cases h
 ·cases h
section
attribute [-simp] getElem?_pos getElem?_neg
theorem l182 {H:List AObj} {L:List Str} {a:Option (Nat × Nat)} {c:Option Nat} {m:MethU} (h:World H N S F M V) (hR:Row H 1 dj L a) (hL:L.length≤9223372036854775807) (ht:∀ t ∈ L,t.length≤9223372036854775807) :
  ∀ (j i:Nat) (w:Nat),i+j=L.length→∀ (k:AExit→St→Option (AVal × Heap)),
  xK T (.loop code182L1) ⟨[(0,.val (.ptr (some (N,0)))),(3,.var m.cells),(30,.val (.slice a L.length c)),(31,.val (.int .i64 L.length)),(32,.val (.int .i64 i))],⟨H,b,w⟩⟩ (k:=⟨k⟩) =
   if (L.drop i).all (thereS S) then k (.exit 0) ⟨[(0,.val (.ptr (some (N,0)))),(3,.var m.cells)],⟨H,b,w⟩⟩ else k .ret ⟨[(4,.val (.bool false))],⟨H,b,w⟩⟩
 | 0,i,w,hi,k=>by rw [cg,b0 (by omega)];simp (disch:=omega) [code182L1,iltF]
 | j+1,i,w,hi,k=>by
  obtain ⟨t,hx⟩:∃ t,L[i]? = some t:=⟨_,ah (by omega)⟩;obtain ⟨p,o,cs,rfl,hp,hpl,hcs,hv⟩:=j7 hR hx
  have hg:cs[o+i]? = some (.str t):=by
   have:(List.take 1 (List.drop (o+i*1) cs))[0]? = some (.str t):=by rw [hv]; rfl
   simpa using this
  have hd:L.drop i=t :: L.drop (i+1):=by have:=aj hx;rw [ah this] at hx;rw [ed this,dg hx]
  have h103:=fun w=>s103 (b:=b) (w:=w) h (t:=t) (ht t (bz hx))
  have ih:=l182 (m:=m) (c:=c) h hR hL ht j (i+1) w (by omega) k;have e2:((i+1:Nat):Int)=(i:Int)+1:=by omega
  rw [e2] at ih;rw [cg,hd];simp only [dv];generalize ACode.loop code182L1=L' at ih ⊢;rcases bc (thereS S t) with c1 | c1
  ·simp (disch:=omega) [gz,gs,code182L1,h103,iltT,ileT,nltT,nleT,de,hp,hg,c1,ih]
  ·simp (disch:=omega) [gz,gs,code182L1,h103,iltT,ileT,nltT,nleT,de,hp,hg,c1]
end
def trapOk (S:List (Str × Str)) (t:TrapU):Bool:=decide (t.cls=[]) || (gd S t.cls).isSome
section
attribute [-simp] getElem?_pos getElem?_neg
theorem l182t {H:List AObj} {L:List TrapU} {a:Option (Nat × Nat)} {c:Option Nat} (h:World H N S F M V) (hR:Row H 4 TrapU.cells L a) (hL:L.length≤9223372036854775807) :
  ∀ (j i:Nat) (w:Nat),i+j=L.length→∀ (k:AExit→St→Option (AVal × Heap)),
  xK T (.loop code182L0) ⟨[(0,.val (.ptr (some (N,0)))),(42,.val (.slice a L.length c)),(43,.val (.int .i64 L.length)),(44,.val (.int .i64 i))],⟨H,b,w⟩⟩ (k:=⟨k⟩) =
   if (L.drop i).all (trapOk S) then k (.exit 2) ⟨[],⟨H,b,w⟩⟩ else k .ret ⟨[(4,.val (.bool false))],⟨H,b,w⟩⟩
 | 0,i,w,hi,k=>by rw [cg,b0 (by omega)];simp (disch:=omega) [code182L0,iltF]
 | j+1,i,w,hi,k=>by
  obtain ⟨t,hx⟩:∃ t,L[i]? = some t:=⟨_,ah (by omega)⟩;obtain ⟨p,o,cs,rfl,hp,hpl,hcs,hv⟩:=j7 hR hx
  have hd:L.drop i=t :: L.drop (i+1):=by have:=aj hx;rw [ah this] at hx;rw [ed this,dg hx]
  have h54:=fun w=>s54 (b:=b) (w:=w) h (c:=t.cls)
  have ih:=l182t (c:=c) h hR hL j (i+1) w (by omega) k;have e2:((i+1:Nat):Int)=(i:Int)+1:=by omega
  rw [e2] at ih;rw [cg,hd];simp only [dv];generalize ACode.loop code182L0=L' at ih ⊢;unfold TrapU.cells at hv;have ho:trapOk S t=(decide (t.cls=[]) || (gd S t.cls).isSome):=rfl;by_cases c0:t.cls=[]
  ·have ho:trapOk S t=true:=by rw [ho,c0]; rfl
   simp (disch:=omega) [-List.all_eq_true,gz,gs,code182L0,iltT,ileT,nltT,nleT,de,hp,hv,c0,ho,ih]
  ·obtain ⟨x,c1⟩ | c1:(∃ x,gd S t.cls=some x)∨gd S t.cls=none:=by cases gd S t.cls <;> simp
   ·have ho:trapOk S t=true:=by rw [ho,c1]; simp
    simp (disch:=omega) [-List.all_eq_true,gz,gs,code182L0,h54,iltT,ileT,nltT,nleT,de,hp,hv,c0,c1,ho,ih]
   ·have ho:trapOk S t=false:=by rw [ho,c1]; simp [c0]
    simp (disch:=omega) [-List.all_eq_true,gz,gs,code182L0,h54,iltT,ileT,nltT,nleT,de,hp,hv,c0,c1,ho]
end
def rightS (S:List (Str × Str)) (m:MethU):Bool:=match methL m.desc with
 | some (A,r)=>isName m.name && ((A++[r]).all (thereS S) && m.traps.all (trapOk S))
 | none=>false
section
attribute [-simp] getElem?_pos getElem?_neg
attribute [local simp] gz gs
theorem s182 {m:MethU} (hm:m.ok O) (h:World O N S F M V) (hb:b≤O.length):xCall T 182 [.ptr (some (N,0)),.agg m.cells] ⟨O,b,w⟩=some (.bool (rightS S m),⟨O,b,w⟩):=by
 have hmd:m.desc.length≤9223372036854775807:=hm.desc;have h38:=fun w=>s38 (os:=O) (b:=b) (w:=w) (s:=m.desc) hmd hb
 have hml:m.traps.length≤9223372036854775807:=hm.tn;unfold rightS;cases hq:methL m.desc with
 | none =>
  rw [hq] at h38;simp only [methV,methO] at h38;unfold MethU.cells;simp (disch:=omega) [au t182,code182,h38]
 | some q =>
  obtain ⟨A,r⟩:=q;obtain ⟨q1,q2,q3⟩:=methL_len hq;have h181:=fun w X (hX:b≤(O++X).length)=>s181 (O:=O++X) (b:=b) (w:=w) (s:=m.name) hX
  simp only;cases A with
  | nil =>
   rw [hq] at h38;simp only [methV,methO] at h38;have h181:=fun w=>s181 (O:=O) (b:=b) (w:=w) (s:=m.name) hb
   have hl1:=fun w=>l182 (b:=b) (m:=m) (c:=none) (H:=O++[.cells 1 [.str r],.cells 1 [.str r]]) (L:=[r]) (a:=some (O.length+1,0)) (h.app _)
    ⟨fun _=>⟨_,_,_,rfl,by rw [du]; rfl,fun j x hx=>by
     cases j with
     | zero=>simp at hx; subst hx; simp [dj]
     | succ j=>simp at hx⟩⟩ (by simp) (fun t ht=>by simp at ht; subst ht; omega) 1 0 w rfl
   have hl2:=fun w=>l182t (b:=b) (c:=m.tc) (H:=O++[.cells 1 [.str r],.cells 1 [.str r]]) (a:=m.ta) (h.app _) ((hm.pre (Pre.app _ _)).t) hml m.traps.length 0 w (by omega)
   simp only [ce,eo,f7,az,bf,dk,Int.natCast_one] at hl1 hl2;simp only [bj];unfold MethU.cells at hl1 ⊢;cases c0:isName m.name with
   | false=>simp (disch:=omega) [-List.all_cons,-List.all_append,-List.all_eq_true,au t182,code182,h38,h181,du,dp,iw,gv,hb,c0,]
   | true =>
    cases c1:([r]:List Str).all (thereS S) with
    | false =>
     simp only [c1,am,if_false] at hl1;simp (disch:=omega) [-List.all_cons,-List.all_append,-List.all_eq_true,au t182,code182,h38,h181,du,dp,iw,gv,hb,c0,c1,hl1,]
    | true =>
     simp only [c1,if_true] at hl1;cases c2:m.traps.all (trapOk S) with
     | false =>
      simp only [c2,am,if_false] at hl2;simp (disch:=omega) [-List.all_cons,-List.all_append,-List.all_eq_true,au t182,code182,h38,h181,du,dp,iw,gv,hb,c0,c1,c2,hl1,hl2,]
     | true =>
      simp only [c2,if_true] at hl2;simp (disch:=omega) [-List.all_cons,-List.all_append,-List.all_eq_true,au t182,code182,h38,h181,du,dp,iw,gv,hb,c0,c1,c2,hl1,hl2,]
  | cons a A =>
   rw [hq] at h38;simp only [methV,methO] at h38;have h181:=fun w=>s181 (O:=O++[.cells 1 ((a :: A).map AVal.str)]) (b:=b) (w:=w) (s:=m.name) (by simp; omega)
   have hAl:A.length+1≤16:=by simpa using q1
   have hl1:=fun w=>l182 (b:=b) (m:=m) (c:=none) (H:=O++[.dead,.cells 1 [.str r],.cells 1 ((a :: A).map AVal.str++[.str r])]) (L:=a :: A++[r]) (a:=some (O.length+2,0)) (h.app _)
    (Row.mk0 (fun _=>rfl) (by rw [du,jp,uw]; rfl)) (by simp; omega) (fun t ht=>by
     rcases bp.1 ht with ht | ht
     ·have:=q3 t ht; omega
     ·simp at ht; subst ht; omega) (A.length+2) 0 w (by simp)
   have hl2:=fun w=>l182t (b:=b) (c:=m.tc) (H:=O++[.dead,.cells 1 [.str r],.cells 1 ((a :: A).map AVal.str++[.str r])]) (a:=m.ta) (h.app _) ((hm.pre (Pre.app _ _)).t) hml m.traps.length 0 w (by omega)
   simp only [ce,eo,aq,az,bf,bo,Nat.reduceAdd] at hl1 hl2;have hC:((a :: A).map AVal.str).length=A.length+1:=by simp
   have hT:((a :: A).map AVal.str).take (A.length+1)=(a :: A).map AVal.str:=ff (by simp);have z1:(A.length+2)*16≤140737488355328:=by omega
   have z2:A.length≤9223372036854775805:=by omega
   have hi2:((A.length+2:Nat):Int)=(A.length:Int)+2:=by omega
   rw [hi2] at hl1;generalize (a :: A).map AVal.str=C at h38 h181 hl1 hl2 hC hT;generalize a :: A++[r]=L at hl1 ⊢;unfold MethU.cells at hl1 ⊢;cases c0:isName m.name with
   | false=>simp (disch:=omega) [-List.all_cons,-List.all_append,-List.all_eq_true,au t182,code182,h38,h181,du,dp,iw,gv,hb,c0,hAl,hC,hT,z1,z2,nltT,nltF,bo]
   | true =>
    cases c1:L.all (thereS S) with
    | false =>
     simp only [c1,am,if_false] at hl1;simp (disch:=omega) [-List.all_cons,-List.all_append,-List.all_eq_true,au t182,code182,h38,h181,du,dp,iw,gv,hb,c0,c1,hl1,hAl,hC,hT,z1,z2,nltT,nltF,bo]
    | true =>
     simp only [c1,if_true] at hl1;cases c2:m.traps.all (trapOk S) with
     | false =>
      simp only [c2,am,if_false] at hl2;simp (disch:=omega) [-List.all_cons,-List.all_append,-List.all_eq_true,au t182,code182,h38,h181,du,dp,iw,gv,hb,c0,c1,c2,hl1,hl2,hAl,hC,hT,z1,z2,nltT,nltF,bo]
     | true =>
      simp only [c2,if_true] at hl2;simp (disch:=omega) [-List.all_cons,-List.all_append,-List.all_eq_true,au t182,code182,h38,h181,du,dp,iw,gv,hb,c0,c1,c2,hl1,hl2,hAl,hC,hT,z1,z2,nltT,nltF,bo]
end
end Go.Abs.Zh

namespace Go.Abs.Zh
open Go.Abs.Zd
variable {os O:List AObj} {b w:Nat} {N:Nat} {S:List (Str × Str)} {F M:List (Key × Mem)} {V:List (Key × Bool)}
def methE (c:Str) (m:MethU):Key × Mem:=((c,m.name,m.desc),⟨c,m.st⟩)
def methOk (S:List (Str × Str)) (M:List (Key × Mem)) (c:Str) (m:MethU):Bool:=!(gd M (c,m.name,m.desc)).isSome && rightS S m
def methsS (S:List (Str × Str)) (c:Str):List (Key × Mem)→List MethU→Bool
 | _,[]=>true
 | M,m :: r=>methOk S M c m && methsS S c (M++[methE c m]) r
section
attribute [-simp] getElem?_pos getElem?_neg
theorem l100 {u:UnitU} (hu:u.ok os) (hp:Pre os O) (hN:os.length≤N) (h:World O N S F M V) (hb:b≤N):∀ (j i:Nat) (M':List (Key × Mem)) (w:Nat),i+j=u.meths.length→N+3≤w →
  ∃ M2 w' e s',N+3≤w'∧(if methsS S u.name M' (u.meths.drop i) then e = .exit 0∧s'=[]∧(w'≤N+3∨(u.meths.drop i=[]∧w'=w))∧M2=M'++(u.meths.drop i).map (methE u.name) else e = .ret∧s'=[(4,.val (.bool false))]) ∧
   ∀ (k:AExit→St→Option (AVal × Heap)),
   xK T (.loop code100L0) ⟨[(0,.val (.ptr (some (N,0)))),(3,.var u.cells),(11,.val (.slice u.ma u.meths.length u.mc)),(12,.val (.int .i64 u.meths.length)),(13,.val (.int .i64 i))],
    ⟨O.set (N+3) (fo keyF memF M'),b,w⟩⟩ (k:=⟨k⟩)=k e ⟨s',⟨O.set (N+3) (fo keyF memF M2),b,w'⟩⟩
 | 0,i,M',w,hi,hw=>by
  refine ⟨M',w,.exit 0,[],hw,?_,fun k=>?_⟩
  ·rw [b0 (by omega)];simp only [methsS,if_true,fm,co];exact ⟨trivial,trivial,.inr ⟨trivial,trivial⟩,trivial⟩
  ·rw [cg];simp (disch:=omega) [code100L0,iltF]
 | j+1,i,M',w,hi,hw=>by
  obtain ⟨m,hm⟩:∃ m,u.meths[i]? = some m:=⟨_,ah (by omega)⟩;obtain ⟨p,o,cs,ha,hpp,hpl,hcs,ht⟩:=j7 hu.m hm;have hmn:u.meths.length≤9223372036854775807:=hu.mn
  have hd:u.meths.drop i=m :: u.meths.drop (i+1):=by have:=aj hm;rw [ah this] at hm;rw [ed this,dg hm]
  have hl:=h.lt;have hW:=h.setM M'
  have hpO:(O.set (N+3) (fo keyF memF M'))[p]? = some (.cells 8 cs):=by rw [ap (by omega)]; exact hp _ _ hpp
  have hbO:b≤(O.set (N+3) (fo keyF memF M')).length:=by simp; omega
  have hmo:m.ok (O.set (N+3) (fo keyF memF M')):=(hu.mok m (bz hm)).pre (hp.set _ (by omega));have h182:=fun w=>s182 (b:=b) (w:=w) hmo hW hbO
  have hlk:=fun w=>rb (b:=b) (w:=w) (kn:=.agg [.s,.s,.s]) (zero:=.agg [.str [],.bool false]) yg hW.m3 (k:=(u.name,m.name,m.desc)) rfl
  have hm1:=hW.w0;have hml:m.cells.length=8:=rfl;have hup2:=fun w hg=>sx (b:=b) (w:=w) (kn:=.agg [.s,.s,.s]) yg hW.m3 (k:=(u.name,m.name,m.desc)) ⟨u.name,m.st⟩ rfl (by omega) hg
  have hs2:(O.set (N+3) (fo keyF memF M')).set (N+3) (fo keyF memF (M'++[((u.name,m.name,m.desc),⟨u.name,m.st⟩)]))=O.set (N+3) (fo keyF memF (M'++[methE u.name m])):=by rw [List.set_set]; rfl
  simp only [hs2,keyF,memF] at hup2;simp only [keyF] at hlk;have hcm:m.cells=[.bool m.st,.str m.name,.str m.desc,.int .i64 m.stack,.int .i64 m.locals,.slice m.ca m.code.length m.cc,.slice m.ta m.traps.length m.tc,.slice m.xa m.maps.length m.xc]:=rfl;obtain ⟨y,hg⟩ | hg:(∃ y,gd M' (u.name,m.name,m.desc)=some y)∨gd M' (u.name,m.name,m.desc)=none:=by cases gd M' (u.name,m.name,m.desc) <;> simp
  ·rw [hg] at hlk;simp only [bw,cq,Option.isSome_some,memF] at hlk;have hfl:methsS S u.name M' (u.meths.drop i)=false:=by rw [hd]; simp [methsS,methOk,hg]
   rw [hfl];refine ⟨M',w,.ret,[(4,.val (.bool false))],hw,by simp,fun k=>?_⟩;rw [cg];generalize ACode.loop code100L0=L;generalize O.set (N+3) (fo keyF memF M')=H at hpO hW hbO h182 hlk hm1 ⊢;rw [hcm] at h182 ht;simp (disch:=omega) [-dl,gz,gs,code100L0,hlk,nltT,nltF,iltT,ileT,nleT,de,hb,hpO,ht,ha,hm1,UnitU.cells]
  ·rw [hg] at hlk;have hup2:=fun w=>hup2 w hg
   simp only [Option.map_none,mw,ni] at hlk;rcases bc (rightS S m) with c | c
   ·obtain ⟨M2,w',e,s',r1,r2,ih⟩:=l100 hu hp hN h hb j (i+1) (M'++[methE u.name m]) (min w (N+3)) (by omega) (by omega);refine ⟨M2,w',e,s',r1,?_,fun k=>?_⟩
    ·rw [hd];have c1:methOk S M' u.name m=true:=by simp [methOk,hg,c]
     simp only [methsS,c1,dh];rw [cf];rw [ba,List.singleton_append] at r2;split at r2
     ·rename_i hff;obtain ⟨q1,q2,q3,q4⟩:=r2;rw [if_pos hff];refine ⟨q1,q2,.inl ?_,q4⟩;rcases q3 with q3 | ⟨_,q3⟩ <;> omega
     ·rename_i hff;rw [if_neg hff]; exact r2
    have ih:=ih k;have e2:((i+1:Nat):Int)=(i:Int)+1:=by omega
    rw [e2] at ih;rw [cg,← ih];generalize ACode.loop code100L0=L;generalize O.set (N+3) (fo keyF memF M')=H at hpO hW hbO h182 hlk hm1 hup2 hs2 ⊢;generalize O.set (N+3) (fo keyF memF (M'++[methE u.name m]))=H2 at hup2 hs2 ⊢;rw [hcm] at h182 ht;simp (disch:=omega) [-dl,gz,gs,code100L0,h182,hlk,hup2,c,nltT,nltF,iltT,ileT,nleT,de,hb,hpO,ht,ha,hm1,UnitU.cells]
   ·have hfl:methsS S u.name M' (u.meths.drop i)=false:=by rw [hd]; simp [methsS,methOk,c]
    rw [hfl];refine ⟨M',w,.ret,[(4,.val (.bool false))],hw,by simp,fun k=>?_⟩;rw [cg];generalize ACode.loop code100L0=L;generalize O.set (N+3) (fo keyF memF M')=H at hpO hW hbO h182 hlk hm1 ⊢;rw [hcm] at h182 ht;simp (disch:=omega) [-dl,gz,gs,code100L0,h182,hlk,nltT,nltF,iltT,ileT,nleT,de,hb,hpO,ht,ha,hm1,c,UnitU.cells]
end
theorem mObj_set3 (h:World O N S F M V):O.set (N+3) (fo keyF memF M)=O:=by
 have:=h.lt;refine kv fun i=>?_
 by_cases e:N+3=i
 ·subst e; rw [db,if_pos rfl,if_pos (by omega),h.m3]
 ·rw [ap e]
section
attribute [-simp] getElem?_pos getElem?_neg
attribute [local simp] gz gs
theorem s100 {u:UnitU} (hu:u.ok os) (hp:Pre os O) (hN:os.length≤N) (h:World O N S F M V) (hb:b≤N) :
  ∃ O' w',min w (N+3)≤w'∧(methsS S u.name M u.meths=true→O'=O.set (N+3) (fo keyF memF (M++u.meths.map (methE u.name)))) ∧
   xCall T 100 [.ptr (some (N,0)),.agg u.cells] ⟨O,b,w⟩=some (.bool (methsS S u.name M u.meths),⟨O',b,w'⟩):=by
 have hl:=h.lt;obtain ⟨M2,w',e,s',r1,r2,hk⟩:=l100 hu hp hN h hb u.meths.length 0 M O.length (by omega) (by omega);rw [mObj_set3 h] at hk;simp only [ce,eo] at hk r2;by_cases c:methsS S u.name M u.meths=true
 ·rw [if_pos c] at r2;obtain ⟨rfl,rfl,q3,q4⟩:=r2;rw [c];rcases q3 with q3 | ⟨q3,q5⟩
  ·refine ⟨O.set (N+3) (fo keyF memF M2),min w w',by omega,fun _=>by rw [q4],?_⟩;unfold UnitU.cells at hk ⊢;simp (disch:=omega) [au t100,code100,hk,nltT]
  ·refine ⟨O,w,by omega,fun _=>by rw [q3,fm,co,mObj_set3 h],?_⟩;unfold UnitU.cells at hk ⊢;simp (disch:=omega) [au t100,code100,hk,nltF]
 ·rw [if_neg c] at r2;obtain ⟨rfl,rfl⟩:=r2;have c':methsS S u.name M u.meths=false:=by simpa using c
  rw [c'];generalize O.set (N+3) (fo keyF memF M2)=O2 at hk;refine ⟨if w' < O.length then O2 else O,if w' < O.length then min w w' else w,by split <;> omega,by simp,?_⟩;unfold UnitU.cells at hk ⊢;simp (disch:=omega) [au t100,code100,hk];split <;> rfl
end
end Go.Abs.Zh

namespace Go.Abs.Zh
open Go.Abs.Zd
variable {os O:List AObj} {b w:Nat} {N:Nat}
def sysT:Str:=[115,121,115]
def throwT:Str:=[84,104,114,111,119,97,98,108,101]
def faultsL:List Str:=[[78,117,108,108,70,97,117,108,116],[66,111,117,110,100,115,70,97,117,108,116],[77,97,116,104,70,97,117,108,116],[67,97,115,116,70,97,117,108,116],[83,105,122,101,70,97,117,108,116],[83,116,111,114,101,70,97,117,108,116]]
def natL:List (Str × Str):=[([112,114,105,110,116],[40,73,41,86]),([112,114,105,110,116,76,111,110,103],[40,74,41,86]),([112,114,105,110,116,84,101,120,116],[40,91,66,41,86]),([97,100,100],[40,91,66,41,73]),
 ([103,101,116],[40,73,41,91,66]),([115,101,116],[40,73,91,66,41,86]),([100,101,108],[40,73,41,86]),([99,111,117,110,116],[40,41,73])]
def builtS:List (Str × Str):=[(objectT,[]),(throwT,objectT),(sysT,objectT)]++faultsL.map fun n=>(n,throwT)
def builtM:List (Key × Mem):=natL.map fun x=>((sysT,x.1,x.2),⟨sysT,true⟩)
def builtV:List (Key × Bool):=natL.map fun x=>((sysT,x.1,x.2),true)
theorem s179 {h:Heap}:xCall T 179 [] h=some (.agg (natL.flatMap fun x=>[.str x.1,.str x.2]),h):=by obtain ⟨os,b,w⟩:=h;simp [au t179,code179,natL]
def S0:List (Str × Str):=[(objectT,[]),(throwT,objectT),(sysT,objectT)]
def fE (n:Str):Str × Str:=(n,throwT)
def nE (x:Str × Str):Key × Mem:=((sysT,x.1,x.2),⟨sysT,true⟩)
def vE (x:Str × Str):Key × Bool:=((sysT,x.1,x.2),true)
def bO (os:List AObj) (S:List (Str × Str)) (M:List (Key × Mem)) (V:List (Key × Bool)):List AObj :=
 os++[fo .str .str S,fo keyF memF [],fo keyF memF M,fo keyF .bool V,.cells 4 [.map (some os.length),.map (some (os.length+1)),.map (some (os.length+2)),.map (some (os.length+3))]]
theorem faults_new:∀ i,i < 6→gd (S0++(faultsL.take i).map fE) (faultsL.getD i [])=none:=by decide +kernel
theorem nats_newM:∀ i,i < 8→gd ((natL.take i).map nE) (sysT,(natL.getD i ([],[])).1,(natL.getD i ([],[])).2)=none:=by decide +kernel
theorem nats_newV:∀ i,i < 8→gd ((natL.take i).map vE) (sysT,(natL.getD i ([],[])).1,(natL.getD i ([],[])).2)=none:=by decide +kernel
theorem pk {α:Type} {L:List α} {i:Nat} {x:α} (h:L[i]? = some x):L.take (i+1)=L.take i++[x]:=by rw [List.take_add_one,h]; rfl
theorem bO_upS {S:List (Str × Str)} {M:List (Key × Mem)} {V:List (Key × Bool)} {x y:Str} (hb:b≤os.length) (hg:gd S x=none) :
  dl (.mapupd (.one .s)) [.map (some os.length),.str x,.str y] ⟨bO os S M V,b,w⟩=some (.tuple [],⟨bO os (S++[(x,y)]) M V,b,min w os.length⟩):=by
 have:=sx (os:=bO os S M V) (b:=b) (w:=w) (r:=os.length) (A:=S) (vf:=AVal.str) (kn:=.one .s) vv (by unfold bO; rw [dp]; rfl) (k:=x) y rfl hb hg;rw [this];unfold bO;rw [gv]; rfl
theorem bO_upM {S:List (Str × Str)} {M:List (Key × Mem)} {V:List (Key × Bool)} {x:Str × Str} (hb:b≤os.length) (hg:gd M (sysT,x.1,x.2)=none) :
  dl (.mapupd (.agg [.s,.s,.s])) [.map (some (os.length+2)),.agg [.str sysT,.str x.1,.str x.2],.agg [.str sysT,.bool true]] ⟨bO os S M V,b,w⟩=some (.tuple [],⟨bO os S (M++[nE x]) V,b,min w (os.length+2)⟩):=by
 have:=sx (os:=bO os S M V) (b:=b) (w:=w) (r:=os.length+2) (A:=M) (vf:=memF) (kn:=.agg [.s,.s,.s]) yg (by unfold bO; rw [du]; rfl) (k:=(sysT,x.1,x.2)) ⟨sysT,true⟩ rfl (by omega) hg;rw [show AVal.agg [.str sysT,.str x.1,.str x.2]=keyF (sysT,x.1,x.2) from rfl,show AVal.agg [.str sysT,.bool true]=memF ⟨sysT,true⟩ from rfl,this];unfold bO;rw [iw]; rfl
theorem bO_upV {S:List (Str × Str)} {M:List (Key × Mem)} {V:List (Key × Bool)} {x:Str × Str} (hb:b≤os.length) (hg:gd V (sysT,x.1,x.2)=none) :
  dl (.mapupd (.agg [.s,.s,.s])) [.map (some (os.length+3)),.agg [.str sysT,.str x.1,.str x.2],.bool true] ⟨bO os S M V,b,w⟩=some (.tuple [],⟨bO os S M (V++[vE x]),b,min w (os.length+3)⟩):=by
 have:=sx (os:=bO os S M V) (b:=b) (w:=w) (r:=os.length+3) (A:=V) (vf:=AVal.bool) (kn:=.agg [.s,.s,.s]) yg (by unfold bO; rw [du]; rfl) (k:=(sysT,x.1,x.2)) true rfl (by omega) hg;rw [show AVal.agg [.str sysT,.str x.1,.str x.2]=keyF (sysT,x.1,x.2) from rfl,this];unfold bO;rw [iw]; rfl
theorem bO_w {S:List (Str × Str)} {M:List (Key × Mem)} {V:List (Key × Bool)}:(bO os S M V)[os.length+4]? = some (.cells 4 [.map (some os.length),.map (some (os.length+1)),.map (some (os.length+2)),.map (some (os.length+3))]):=by unfold bO; rw [du]; rfl
section
attribute [-simp] getElem?_pos getElem?_neg
theorem l284a (hb:b≤os.length):∀ (j i:Nat) (w:Nat),i+j=6→os.length≤w→∃ w',os.length≤w'∧∀ (k:AExit→St→Option (AVal × Heap)),
  xK T (.loop code284L1) ⟨[(1,.val (.ptr (some (os.length+4,0)))),(14,.val (.agg (faultsL.map AVal.str))),(15,.val (.int .i64 i))],⟨bO os (S0++(faultsL.take i).map fE) [] [],b,w⟩⟩ (k:=⟨k⟩) =
   k (.exit 0) ⟨[(1,.val (.ptr (some (os.length+4,0))))],⟨bO os (S0++faultsL.map fE) [] [],b,w'⟩⟩
 | 0,i,w,hi,hw=>by
  refine ⟨w,hw,fun k=>?_⟩;have:i=6:=by omega
  subst this;rw [cg,ff (by decide)];simp (disch:=omega) [code284L1,iltF]
 | j+1,i,w,hi,hw=>by
  obtain ⟨x,hx⟩:∃ x,faultsL[i]? = some x:=⟨_,ah (show i < faultsL.length by rw [show faultsL.length=6 from rfl]; omega)⟩;have hn:=faults_new i (by omega);rw [ge,hx,cq] at hn;have hup:=fun w=>bO_upS (w:=w) (M:=[]) (V:=[]) (y:=throwT) hb hn
  have ht:=pk hx;have e3:S0++(faultsL.take i).map fE++[(x,throwT)]=S0++(faultsL.take (i+1)).map fE:=by rw [ht,i7,ba]; rfl
  rw [e3] at hup;unfold throwT at hup;obtain ⟨w',hw',ih⟩:=l284a hb j (i+1) (min w os.length) (by omega) (by omega);refine ⟨w',hw',fun k=>?_⟩;have ih:=ih k;have e2:((i+1:Nat):Int)=(i:Int)+1:=by omega
  rw [e2] at ih;have hwo:=bO_w (os:=os) (S:=S0++(faultsL.take i).map fE) (M:=[]) (V:=[]);have hxs:(faultsL.map AVal.str)[i]? = some (.str x):=by rw [cz,hx]; rfl
  rw [cg,← ih];generalize ACode.loop code284L1=L;generalize faultsL.map AVal.str=fs at hxs ⊢;generalize bO os (S0++(faultsL.take i).map fE) [] []=H at hup hwo ⊢;generalize bO os (S0++(faultsL.take (i+1)).map fE) [] []=H2 at hup ⊢;simp (disch:=omega) [-dl,gz,gs,code284L1,hup,hwo,hxs,iltT,ileT,nltT,nltF,nleT,de]
theorem l284b {S:List (Str × Str)} (hb:b≤os.length):∀ (j i:Nat) (w:Nat),i+j=8→os.length≤w→∃ w',os.length≤w'∧∀ (k:AExit→St→Option (AVal × Heap)),
  xK T (.loop code284L0) ⟨[(1,.val (.ptr (some (os.length+4,0)))),(24,.val (.agg (natL.flatMap fun x=>[.str x.1,.str x.2]))),(25,.val (.int .i64 i))],⟨bO os S ((natL.take i).map nE) ((natL.take i).map vE),b,w⟩⟩ (k:=⟨k⟩) =
   k (.exit 2) ⟨[(1,.val (.ptr (some (os.length+4,0))))],⟨bO os S (natL.map nE) (natL.map vE),b,w'⟩⟩
 | 0,i,w,hi,hw=>by
  refine ⟨w,hw,fun k=>?_⟩;have:i=8:=by omega
  subst this;rw [cg,ff (by decide)];simp (disch:=omega) [code284L0,iltF]
 | j+1,i,w,hi,hw=>by
  obtain ⟨x,hx⟩:∃ x,natL[i]? = some x:=⟨_,ah (show i < natL.length by rw [show natL.length=8 from rfl]; omega)⟩;have hn:=nats_newM i (by omega);rw [ge,hx,cq] at hn;have hn2:=nats_newV i (by omega);rw [ge,hx,cq] at hn2;have hup:=fun w=>bO_upM (w:=w) (S:=S) (V:=(natL.take i).map vE) hb hn
  have hup2:=fun w=>bO_upV (w:=w) (S:=S) (M:=(natL.take (i+1)).map nE) hb hn2
  have ht:=pk hx;have e3:(natL.take i).map nE++[nE x]=(natL.take (i+1)).map nE:=by rw [ht,i7]; rfl
  have e4:(natL.take i).map vE++[vE x]=(natL.take (i+1)).map vE:=by rw [ht,i7]; rfl
  rw [e3] at hup;rw [e4] at hup2;unfold sysT at hup hup2;obtain ⟨w',hw',ih⟩:=l284b (S:=S) hb j (i+1) (min (min w (os.length+2)) (os.length+3)) (by omega) (by omega);refine ⟨w',hw',fun k=>?_⟩;have ih:=ih k;have e2:((i+1:Nat):Int)=(i:Int)+1:=by omega
  rw [e2] at ih;have hwo:=bO_w (os:=os) (S:=S) (M:=(natL.take i).map nE) (V:=(natL.take i).map vE);have hwo2:=bO_w (os:=os) (S:=S) (M:=(natL.take (i+1)).map nE) (V:=(natL.take i).map vE);obtain ⟨hx1,hx2⟩:=flat_at (fun x:Str × Str=>[AVal.str x.1,AVal.str x.2]) 2 (fun _=>rfl) natL i x hx;have hln:(natL.flatMap fun x:Str × Str=>[AVal.str x.1,AVal.str x.2]).length=16:=rfl;rw [cg,← ih];generalize ACode.loop code284L0=L;generalize (natL.flatMap fun x:Str × Str=>[AVal.str x.1,AVal.str x.2])=fs at hx1 hx2 hln ⊢;generalize bO os S ((natL.take i).map nE) ((natL.take i).map vE)=H at hup hwo ⊢;generalize bO os S ((natL.take (i+1)).map nE) ((natL.take i).map vE)=H2 at hup hup2 hwo2 ⊢;generalize bO os S ((natL.take (i+1)).map nE) ((natL.take (i+1)).map vE)=H3 at hup2 ⊢;simp (disch:=omega) [-dl,gz,gs,code284L0,hup,hup2,hwo,hwo2,hx2,iltT,ileT,nltT,nltF,nleT,de]
end
theorem ents_ids {κ ν:Type} {kf:κ→AVal} {vf:ν→AVal} (hk:∀ k,(kf k).ids=[]) (hv:∀ v,(vf v).ids=[]):∀ (A:List (κ × ν)) (i:Nat),((ents kf vf i A).flatMap fun (k,v,_)=>k.ids++v.ids)=[]
 | [],_=>rfl
 | x :: A,i=>by simp only [ents,ci,hk,hv,ents_ids hk hv A (i+1),co]
theorem ents_ren {κ ν:Type} {kf:κ→AVal} {vf:ν→AVal} {f:Nat→Nat} (hk:∀ k,(kf k).ren f=kf k) (hv:∀ v,(vf v).ren f=vf v):∀ (A:List (κ × ν)) (i:Nat),((ents kf vf i A).map fun (k,v,b)=>(k.ren f,v.ren f,b))=ents kf vf i A
 | [],_=>rfl
 | x :: A,i=>by simp only [ents,cf,hk,hv,ents_ren hk hv A (i+1)]
theorem zbs {κ ν:Type} {kf:κ→AVal} {vf:ν→AVal} (hk:∀ k,(kf k).ids=[]) (hv:∀ v,(vf v).ids=[]) (A:List (κ × ν)):(fo kf vf A).ids=[]:=by simp only [fo,AObj.ids]; exact ents_ids hk hv A 0
theorem zbt {κ ν:Type} {kf:κ→AVal} {vf:ν→AVal} {f:Nat→Nat} (hk:∀ k,(kf k).ren f=kf k) (hv:∀ v,(vf v).ren f=vf v) (A:List (κ × ν)):(fo kf vf A).ren f=fo kf vf A:=by simp only [fo,AObj.ren,ents_ren hk hv A 0]
theorem idsS (A:List (Str × Str)):(fo AVal.str AVal.str A).ids=[]:=zbs (fun _=>rfl) (fun _=>rfl) A
theorem idsM (A:List (Key × Mem)):(fo keyF memF A).ids=[]:=zbs (fun _=>rfl) (fun _=>rfl) A
theorem idsV (A:List (Key × Bool)):(fo keyF AVal.bool A).ids=[]:=zbs (fun _=>rfl) (fun _=>rfl) A
theorem renS (f:Nat→Nat) (A:List (Str × Str)):(fo AVal.str AVal.str A).ren f=fo AVal.str AVal.str A:=zbt (fun _=>rfl) (fun _=>rfl) A
theorem renM (f:Nat→Nat) (A:List (Key × Mem)):(fo keyF memF A).ren f=fo keyF memF A:=zbt (fun _=>rfl) (fun _=>rfl) A
theorem renV (f:Nat→Nat) (A:List (Key × Bool)):(fo keyF AVal.bool A).ren f=fo keyF AVal.bool A:=zbt (fun _=>rfl) (fun _=>rfl) A
def wO (os:List AObj) (S:List (Str × Str)) (F M:List (Key × Mem)) (V:List (Key × Bool)):List AObj :=
 os++[.cells 4 [.map (some (os.length+1)),.map (some (os.length+2)),.map (some (os.length+3)),.map (some (os.length+4))],fo .str .str S,fo keyF memF F,fo keyF memF M,fo keyF .bool V]
theorem xi (os:List AObj) (S:List (Str × Str)) (F M:List (Key × Mem)) (V:List (Key × Bool)):World (wO os S F M V) os.length S F M V:=by
 unfold wO;constructor
 ·rw [dp]; rfl
 ·rw [du]; rfl
 ·rw [du]; rfl
 ·rw [du]; rfl
 ·rw [du]; rfl
section
attribute [-simp] getElem?_pos getElem?_neg
theorem built_fin {S:List (Str × Str)} {M:List (Key × Mem)} {V:List (Key × Bool)} {w2:Nat} (hw:os.length≤w2) :
  dy ⟨os,b,w⟩ (.ptr (some (os.length+4,0))) ⟨bO os S M V,b,w2⟩=(.ptr (some (os.length,0)),⟨wO os S [] M V,b,w⟩):=by
 have g4:=bO_w (os:=os) (S:=S) (M:=M) (V:=V);have g0:(bO os S M V)[os.length]? = some (fo .str .str S):=by unfold bO; rw [dp]; rfl
 have g1:(bO os S M V)[os.length+1]? = some (fo keyF memF []):=by unfold bO; rw [du]; rfl
 have g2:(bO os S M V)[os.length+2]? = some (fo keyF memF M):=by unfold bO; rw [du]; rfl
 have g3:(bO os S M V)[os.length+3]? = some (fo keyF .bool V):=by unfold bO; rw [du]; rfl
 have idsC:∀ e cs,(AObj.cells e cs).ids=AVal.idsL cs:=fun _ _=>rfl
 have renC:∀ (f:Nat→Nat) e cs,(AObj.cells e cs).ren f = .cells e (AVal.renL f cs):=fun _ _ _=>rfl
 have hr:reach ⟨bO os S M V,b,w2⟩ os.length 1000 [os.length+4] []=[os.length+4,os.length,os.length+1,os.length+2,os.length+3]:=by simp (disch:=omega) [-AObj.ids,jd,lf,nltF,g0,g1,g2,g3,g4,idsS,idsM,idsV,idsC]
 have hv:AVal.under os.length (.ptr (some (os.length+4,0)))=false:=by simp [AVal.under]
 have hw2:(⟨os,b,w⟩:Heap).size≤(⟨bO os S M V,b,w2⟩:Heap).wmin:=hw;refine (ly hw2 hv hr fun i hi=>?_).trans ?_
 ·simp (disch:=omega) only [AVal.ids,ci,jo,cf,Heap.get,g0,g1,g2,g3,g4,idsS,idsM,idsV,idsC,bw,cq,bl,bj,co,AVal.idsL,br,d7,or_false] at hi ⊢;omega
 ·simp (disch:=omega) [-AObj.ids,-AObj.ren,nltF,g0,g1,g2,g3,g4,renS,renM,renV,renC,wO]
end
theorem s284 (hb:b≤os.length):xCall T 284 [] ⟨os,b,w⟩=some (.ptr (some (os.length,0)),⟨wO os builtS [] builtM builtV,b,w⟩):=by
 obtain ⟨w1,hw1,hk1⟩:=l284a (os:=os) hb 6 0 os.length rfl (ai _);have e1:S0++faultsL.map fE=builtS:=rfl;rw [e1] at hk1;obtain ⟨w2,hw2,hk2⟩:=l284b (os:=os) (S:=builtS) hb 8 0 w1 rfl hw1;simp only [ce,List.take_zero,fm,co] at hk1 hk2;have g0:(bO os builtS (natL.map nE) (natL.map vE))=bO os builtS builtM builtV:=rfl;rw [g0] at hk2;have hfin:=built_fin (b:=b) (w:=w) (S:=builtS) (M:=builtM) (V:=builtV) hw2;have h179:=fun h=>s179 (h:=h)
 generalize hH1:bO os builtS [] []=H1 at hk1 hk2;generalize (natL.flatMap fun x:Str × Str=>[AVal.str x.1,AVal.str x.2])=fs at hk2 h179
 have hS0:bO os S0 [] []=os++[.map [(.str [79,98,106,101,99,116],.str [],0),(.str [84,104,114,111,119,97,98,108,101],.str [79,98,106,101,99,116],1),(.str [115,121,115],.str [79,98,106,101,99,116],2)] 3,.map [] 0,.map [] 0,.map [] 0,
  .cells 4 [.map (some os.length),.map (some (os.length+1)),.map (some (os.length+2)),.map (some (os.length+3))]]:=rfl
 have hfl:faultsL.map AVal.str=[.str [78,117,108,108,70,97,117,108,116],.str [66,111,117,110,100,115,70,97,117,108,116],.str [77,97,116,104,70,97,117,108,116],.str [67,97,115,116,70,97,117,108,116],.str [83,105,122,101,70,97,117,108,116],.str [83,116,111,114,101,70,97,117,108,116]]:=rfl;rw [hS0,hfl] at hk1;simp (disch:=omega) [-getElem?_pos,-getElem?_neg,-dy,gz,gs,au t284,code284,hk1,hk2,hfin,h179,du,dp,iw,gv,hb,findA,akey,akey1,isKey,CK.is,bo]
end Go.Abs.Zh

namespace Go.Abs.Zh
open Go.Abs.Zd
variable {os O:List AObj} {b w:Nat} {N:Nat} {S:List (Str × Str)} {F M:List (Key × Mem)} {V:List (Key × Bool)}
theorem idsC (e:Nat) (cs:List AVal):(AObj.cells e cs).ids=AVal.idsL cs:=rfl
theorem renC (f:Nat→Nat) (e:Nat) (cs:List AVal):(AObj.cells e cs).ren f = .cells e (AVal.renL f cs):=rfl
section
attribute [-simp] getElem?_pos getElem?_neg
theorem world_fin (h:World O os.length S F M V) (w0:Nat) {w2:Nat} (hw:os.length≤w2) :
  dy ⟨os,b,w0⟩ (.tuple [.ptr (some (os.length,0)),.int .i64 0]) ⟨O,b,w2⟩=(.tuple [.ptr (some (os.length,0)),.int .i64 0],⟨wO os S F M V,b,w0⟩):=by
 have g0:=h.w0;have g1:=h.m1;have g2:=h.m2;have g3:=h.m3;have g4:=h.m4
 have hr:reach ⟨O,b,w2⟩ os.length 1000 [os.length] []=[os.length,os.length+1,os.length+2,os.length+3,os.length+4]:=by simp (disch:=omega) [-AObj.ids,jd,lf,nltF,g0,g1,g2,g3,g4,idsS,idsM,idsV,idsC]
 have hv:AVal.under os.length (.tuple [.ptr (some (os.length,0)),.int .i64 0])=false:=by simp [AVal.under]
 have hw2:(⟨os,b,w0⟩:Heap).size≤(⟨O,b,w2⟩:Heap).wmin:=hw;refine (ly hw2 hv hr fun i hi=>?_).trans ?_
 ·simp (disch:=omega) only [AVal.ids,ci,jo,cf,Heap.get,g0,g1,g2,g3,g4,idsS,idsM,idsV,idsC,bw,cq,bl,bj,co,AVal.idsL,br,d7,or_false] at hi ⊢;omega
 ·simp (disch:=omega) [-AObj.ids,-AObj.ren,nltF,g0,g1,g2,g3,g4,renS,renM,renV,renC,wO]
end
def superOk (S:List (Str × Str)) (u:UnitU):Bool:=!(gd S u.name).isSome && ip u.name && !decide (u.super=sysT)
def supersS:List (Str × Str)→List UnitU→Option (List (Str × Str))
 | S,[]=>some S
 | S,u :: r=>if superOk S u then supersS (S++[(u.name,u.super)]) r else none
theorem wO_upS {x y:Str} (hb:b≤os.length) (hg:gd S x=none) :
  dl (.mapupd (.one .s)) [.map (some (os.length+1)),.str x,.str y] ⟨wO os S F M V,b,w⟩=some (.tuple [],⟨wO os (S++[(x,y)]) F M V,b,min w (os.length+1)⟩):=by
 have:=sx (os:=wO os S F M V) (b:=b) (w:=w) (r:=os.length+1) (A:=S) (vf:=AVal.str) (kn:=.one .s) vv (xi os S F M V).m1 (k:=x) y rfl (by omega) hg;rw [this];unfold wO;rw [iw]; rfl
theorem wO_pre (os:List AObj) (S:List (Str × Str)) (F M:List (Key × Mem)) (V:List (Key × Bool)):Pre os (wO os S F M V):=Pre.app _ _
section
attribute [-simp] getElem?_pos getElem?_neg
theorem l49a {l:List UnitU} {a:Option (Nat × Nat)} {c:Option Nat} (hR:Row os 4 UnitU.cells l a) (hl:l.length≤32) (hb:b≤os.length):∀ (j i:Nat) (S:List (Str × Str)) (w:Nat),i+j=l.length→os.length≤w →
  ∃ S' w' e s',os.length≤w'∧(match supersS S (l.drop i) with
   | some S2=>S'=S2∧e = .exit 0∧s'=[(0,.val (.slice a l.length c)),(4,.val (.ptr (some (os.length,0))))]
   | none=>e = .ret∧s'=[(2,.val (.ptr none)),(3,.val (.int .i64 15))])∧∀ (k:AExit→St→Option (AVal × Heap)),
   xK T (.loop code49L2) ⟨[(0,.val (.slice a l.length c)),(4,.val (.ptr (some (os.length,0)))),(15,.val (.slice a l.length c)),(16,.val (.int .i64 l.length)),(17,.val (.int .i64 i))],⟨wO os S F M V,b,w⟩⟩ (k:=⟨k⟩) =
   k e ⟨s',⟨wO os S' F M V,b,w'⟩⟩
 | 0,i,S,w,hi,hw=>by
  refine ⟨S,w,.exit 0,[(0,.val (.slice a l.length c)),(4,.val (.ptr (some (os.length,0))))],hw,?_,fun k=>?_⟩
  ·rw [b0 (by omega)];exact ⟨rfl,rfl,rfl⟩
  ·rw [cg];simp (disch:=omega) [code49L2,iltF]
 | j+1,i,S,w,hi,hw=>by
  obtain ⟨u,hu⟩:∃ u,l[i]? = some u:=⟨_,ah (by omega)⟩;obtain ⟨p,o,cs,rfl,hpp,hpl,hcs,ht⟩:=j7 hR hu
  have hd:l.drop i=u :: l.drop (i+1):=by have:=aj hu;rw [ah this] at hu;rw [ed this,dg hu]
  have hW:=xi os S F M V;have hpO:=wO_pre os S F M V _ _ hpp;have hbO:b≤(wO os S F M V).length:=by simp [wO]; omega
  have h54:=fun w=>s54 (b:=b) (w:=w) hW (c:=u.name)
  have h25:=fun w=>s25 (os:=wO os S F M V) (b:=b) (w:=w) (s:=u.name) hbO
  have hup:=fun w hg=>wO_upS (S:=S) (F:=F) (M:=M) (V:=V) (w:=w) (x:=u.name) (y:=u.super) hb hg
  have hw0:=hW.w0;have hcu:u.cells=[.str u.name,.str u.super,.slice u.fa u.fields.length u.fc,.slice u.ma u.meths.length u.mc]:=rfl;rw [hcu] at ht;rw [hd];rcases bc (superOk S u) with c0 | c0
  ·have hc:=c0;unfold superOk sysT at hc;simp only [av,gb,decide_eq_false_iff_not] at hc;obtain ⟨⟨c1,c2⟩,c3⟩:=hc;have hg:gd S u.name=none:=by simpa using c1
   have hup:=fun w=>hup w hg
   obtain ⟨S',w',e,s',r1,r2,ih⟩:=l49a (c:=c) hR hl hb j (i+1) (S++[(u.name,u.super)]) (min w (os.length+1)) (by omega) (by omega);refine ⟨S',w',e,s',r1,by simp only [supersS,c0,if_true]; exact r2,fun k=>?_⟩;have ih:=ih k;have e2:((i+1:Nat):Int)=(i:Int)+1:=by omega
   rw [e2] at ih;rw [cg,← ih];generalize ACode.loop code49L2=L;generalize wO os (S++[(u.name,u.super)]) F M V=H2 at hup ⊢;generalize wO os S F M V=H at hpO h54 h25 hup hw0 ⊢;simp (disch:=omega) [-dl,gz,gs,code49L2,h54,h25,hup,hw0,nltT,nltF,iltT,ileT,nleT,de,hpO,ht,hg,c2,c3]
  ·refine ⟨S,w,.ret,[(2,.val (.ptr none)),(3,.val (.int .i64 15))],hw,by simp only [supersS,c0]; exact ⟨trivial,trivial⟩,fun k=>?_⟩;unfold superOk sysT at c0;rw [cg];generalize ACode.loop code49L2=L;generalize wO os S F M V=H at hpO h54 h25 hw0 ⊢;cases c1:(gd S u.name).isSome with
   | true=>simp (disch:=omega) [-dl,gz,gs,code49L2,h54,h25,hw0,nltT,nltF,iltT,ileT,nleT,de,hpO,ht,c1]
   | false =>
    cases c2:ip u.name with
    | false=>simp (disch:=omega) [-dl,gz,gs,code49L2,h54,h25,hw0,nltT,nltF,iltT,ileT,nleT,de,hpO,ht,c1,c2]
    | true =>
     by_cases c3:u.super=[115,121,115]
     ·simp (disch:=omega) [-dl,gz,gs,code49L2,h54,h25,hw0,nltT,nltF,iltT,ileT,nleT,de,hpO,ht,c1,c2,c3]
     ·rw [c1,c2,decide_eq_false c3] at c0; cases c0
end
def unitOk (S:List (Str × Str)) (M:List (Key × Mem)) (u:UnitU):Bool:=endsS S u.name && fieldsS S [] u.fields && methsS S u.name M u.meths
def membersS (S:List (Str × Str)):List (Key × Mem)→List (Key × Mem)→List UnitU→Option (List (Key × Mem) × List (Key × Mem))
 | F,M,[]=>some (F,M)
 | F,M,u :: r=>if unitOk S M u then membersS S (F++u.fields.map (fieldE u.name)) (M++u.meths.map (methE u.name)) r else none
section
attribute [-simp] getElem?_pos getElem?_neg
theorem l49b {l:List UnitU} {a:Option (Nat × Nat)} {c:Option Nat} (hR:Row os 4 UnitU.cells l a) (hok:∀ u ∈ l,u.ok os) (hl:l.length≤32) (hb:b≤os.length) (hS:S.length≤9223372036854775807) (hnd:(l.map UnitU.name).Nodup) :
  ∀ (j i:Nat) (O:List AObj) (F M:List (Key × Mem)) (w:Nat),i+j=l.length→os.length≤w→World O os.length S F M V→Pre os O→(∀ x ∈ F,∀ u ∈ l.drop i,x.1.1≠u.name) →
  ∃ O' w' e s',os.length≤w'∧(match membersS S F M (l.drop i) with
   | some q=>World O' os.length S q.1 q.2 V∧Pre os O'∧e = .exit 2∧s'=[(0,.val (.slice a l.length c)),(4,.val (.ptr (some (os.length,0))))]
   | none=>e = .ret∧s'=[(2,.val (.ptr none)),(3,.val (.int .i64 15))])∧∀ (k:AExit→St→Option (AVal × Heap)),
   xK T (.loop code49L1) ⟨[(0,.val (.slice a l.length c)),(4,.val (.ptr (some (os.length,0)))),(45,.val (.slice a l.length c)),(46,.val (.int .i64 l.length)),(47,.val (.int .i64 i))],⟨O,b,w⟩⟩ (k:=⟨k⟩) =
   k e ⟨s',⟨O',b,w'⟩⟩
 | 0,i,O,F,M,w,hi,hw,h,hp,hF=>by
  refine ⟨O,w,.exit 2,[(0,.val (.slice a l.length c)),(4,.val (.ptr (some (os.length,0))))],hw,?_,fun k=>?_⟩
  ·rw [b0 (by omega)];exact ⟨h,hp,rfl,rfl⟩
  ·rw [cg];simp (disch:=omega) [code49L1,iltF]
 | j+1,i,O,F,M,w,hi,hw,h,hp,hF=>by
  obtain ⟨u,hu⟩:∃ u,l[i]? = some u:=⟨_,ah (by omega)⟩;obtain ⟨p,o,cs,rfl,hpp,hpl,hcs,ht⟩:=j7 hR hu;have huo:=hok u (bz hu)
  have hd:l.drop i=u :: l.drop (i+1):=by have:=aj hu;rw [ah this] at hu;rw [ed this,dg hu]
  have hlt:=h.lt;have hpO:=hp _ _ hpp;have h98:=fun w=>s98 (b:=b) (w:=w) h (by omega) hS (c:=u.name)
  obtain ⟨O1,w1,hw1,h99a,h99⟩:=s99 (w:=w) huo hp (ai _) h hb (fun x hx=>hF x hx u (by rw [hd]; exact bh ..));have hcu:u.cells=[.str u.name,.str u.super,.slice u.fa u.fields.length u.fc,.slice u.ma u.meths.length u.mc]:=rfl;rw [hcu] at ht h99;rw [hd];rcases bc (endsS S u.name) with c1 | c1
  ·rcases bc (fieldsS S [] u.fields) with c2 | c2
   ·obtain ⟨X,rfl⟩:=h99a c2;have h1:=(h.setF (F++u.fields.map (fieldE u.name))).app X;have hp1:Pre os (O.set (os.length+2) (fo keyF memF (F++u.fields.map (fieldE u.name)))++X):=(hp.set _ (by omega)).trans (Pre.app _ _);obtain ⟨O2,w2,hw2,h100a,h100⟩:=s100 (w:=w1) huo hp1 (ai _) h1 hb;rw [hcu] at h100;rcases bc (methsS S u.name M u.meths) with c3 | c3
    ·have e3:=h100a c3;have h2:=h1.setM (M++u.meths.map (methE u.name));have hp2:Pre os O2:=by rw [e3]; exact hp1.set _ (by omega)
     rw [← e3] at h2
     obtain ⟨O',w',e,s',r1,r2,ih⟩:=l49b (c:=c) hR hok hl hb hS hnd j (i+1) O2 (F++u.fields.map (fieldE u.name)) (M++u.meths.map (methE u.name)) w2 (by omega) (by omega) h2 hp2 (fun x hx v hv=>by
      rcases bp.1 hx with hx | hx
      ·exact hF x hx v (by rw [hd]; exact bu _ hv)
      ·obtain ⟨f,hf,rfl⟩:=ei.1 hx;intro e;have hnd2:((l.drop i).map UnitU.name).Nodup:=by rw [List.map_drop]; exact hnd.sublist (List.drop_sublist _ _)
       rw [hd,cf,wd] at hnd2;exact hnd2.1 (by rw [show u.name=v.name from e]; exact o7 hv))
     have c4:unitOk S M u=true:=by simp [unitOk,c1,c2,c3]
     refine ⟨O',w',e,s',r1,by simp only [membersS,c4,if_true]; exact r2,fun k=>?_⟩;have ih:=ih k;have e2:((i+1:Nat):Int)=(i:Int)+1:=by omega
     rw [e2] at ih;rw [cg,← ih];generalize ACode.loop code49L1=L;generalize O.set (os.length+2) (fo keyF memF (F++u.fields.map (fieldE u.name)))++X=H1 at h99 h100;simp (disch:=omega) [-dl,gz,gs,code49L1,h98,nltT,nltF,iltT,ileT,nleT,de,hpO,ht,h99,h100,c1,c2,c3]
    ·have c4:unitOk S M u=false:=by simp [unitOk,c3]
     refine ⟨O2,w2,.ret,[(2,.val (.ptr none)),(3,.val (.int .i64 15))],by omega,by simp only [membersS,c4]; exact ⟨trivial,trivial⟩,fun k=>?_⟩;rw [cg];generalize ACode.loop code49L1=L;generalize O.set (os.length+2) (fo keyF memF (F++u.fields.map (fieldE u.name)))++X=H1 at h99 h100;simp (disch:=omega) [-dl,gz,gs,code49L1,h98,nltT,nltF,iltT,ileT,nleT,de,hpO,ht,h99,h100,c1,c2,c3]
   ·have c4:unitOk S M u=false:=by simp [unitOk,c2]
    refine ⟨O1,w1,.ret,[(2,.val (.ptr none)),(3,.val (.int .i64 15))],by omega,by simp only [membersS,c4]; exact ⟨trivial,trivial⟩,fun k=>?_⟩;rw [cg];generalize ACode.loop code49L1=L;simp (disch:=omega) [-dl,gz,gs,code49L1,h98,nltT,nltF,iltT,ileT,nleT,de,hpO,ht,h99,c1,c2]
  ·have c4:unitOk S M u=false:=by simp [unitOk,c1]
   refine ⟨O,w,.ret,[(2,.val (.ptr none)),(3,.val (.int .i64 15))],hw,by simp only [membersS,c4]; exact ⟨trivial,trivial⟩,fun k=>?_⟩;rw [cg];generalize ACode.loop code49L1=L;simp (disch:=omega) [-dl,gz,gs,code49L1,h98,nltT,nltF,iltT,ileT,nleT,de,hpO,ht,c1]
end
end Go.Abs.Zh

namespace Go.Abs.Zh
open Go.Abs.Zd
variable {os O:List AObj} {b w:Nat} {N:Nat} {S:List (Str × Str)} {F M:List (Key × Mem)} {V:List (Key × Bool)}
section
attribute [-simp] getElem?_pos getElem?_neg
theorem l49c {l:List UnitU} {a:Option (Nat × Nat)} {c:Option Nat} (hR:Row os 4 UnitU.cells l a) (hok:∀ u ∈ l,u.ok os) (hl:l.length≤32) (hb:b≤os.length) (hS:S.length≤9223372036854775807)
  (h:World O os.length S F M V) (hp:Pre os O):∀ (j i:Nat) (w:Nat),i+j=l.length→∀ (k:AExit→St→Option (AVal × Heap)),
   xK T (.loop code49L0) ⟨[(4,.val (.ptr (some (os.length,0)))),(69,.val (.slice a l.length c)),(70,.val (.int .i64 l.length)),(71,.val (.int .i64 i))],⟨O,b,w⟩⟩ (k:=⟨k⟩) =
   if (l.drop i).all (overS S M) then k (.exit 4) ⟨[(4,.val (.ptr (some (os.length,0))))],⟨O,b,w⟩⟩ else k .ret ⟨[(2,.val (.ptr none)),(3,.val (.int .i64 15))],⟨O,b,w⟩⟩
 | 0,i,w,hi,k=>by rw [cg,b0 (by omega)];simp (disch:=omega) [code49L0,iltF]
 | j+1,i,w,hi,k=>by
  obtain ⟨u,hu⟩:∃ u,l[i]? = some u:=⟨_,ah (by omega)⟩;obtain ⟨p,o,cs,rfl,hpp,hpl,hcs,ht⟩:=j7 hR hu;have huo:=hok u (bz hu)
  have hd:l.drop i=u :: l.drop (i+1):=by have:=aj hu;rw [ah this] at hu;rw [ed this,dg hu]
  have hlt:=h.lt;have hpO:=hp _ _ hpp;have h97:=fun w=>s97 (w:=w) (b:=b) (huo.pre hp) h (by omega) hS
  have hcu:u.cells=[.str u.name,.str u.super,.slice u.fa u.fields.length u.fc,.slice u.ma u.meths.length u.mc]:=rfl;rw [hcu] at ht h97;have ih:=l49c (c:=c) hR hok hl hb hS h hp j (i+1) w (by omega) k;have e2:((i+1:Nat):Int)=(i:Int)+1:=by omega
  rw [e2] at ih;rw [cg,hd];simp only [dv];generalize ACode.loop code49L0=L at ih ⊢;rcases bc (overS S M u) with c1 | c1
  ·simp (disch:=omega) [-List.all_eq_true,gz,gs,code49L0,h97,nltT,nltF,iltT,ileT,nleT,de,hpO,ht,c1,ih]
  ·simp (disch:=omega) [-List.all_eq_true,gz,gs,code49L0,h97,nltT,nltF,iltT,ileT,nleT,de,hpO,ht,c1]
end
def supE (u:UnitU):Str × Str:=(u.name,u.super)
theorem vz:∀ {l:List UnitU} {S S2:List (Str × Str)},supersS S l=some S2→S2=S++l.map supE∧(l.map UnitU.name).Nodup∧∀ u ∈ l,gd S u.name=none∧ip u.name=true∧u.super≠sysT
 | [],S,S2,h=>by simp only [supersS] at h; cases h; simp
 | u :: l,S,S2,h=>by
  simp only [supersS] at h;split at h;case isFalse=>cases h
  rename_i hu;obtain ⟨h1,h2,h3⟩:=vz h;unfold superOk at hu;simp only [av,gb,decide_eq_false_iff_not] at hu;obtain ⟨⟨c1,c2⟩,c3⟩:=hu;have hg:gd S u.name=none:=by simpa using c1
  refine ⟨by rw [h1,ba]; rfl,?_,fun v hv=>?_⟩
  ·rw [cf,wd];refine ⟨fun hm=>?_,h2⟩;obtain ⟨v,hv,e⟩:=ei.1 hm;have:=(h3 v hv).1;rw [nw,e,hg] at this;simp [gd] at this
  ·rcases br.1 hv with rfl | hv
   ·exact ⟨hg,c2,c3⟩
   ·obtain ⟨d1,d2,d3⟩:=h3 v hv;rw [nw] at d1;refine ⟨?_,d2,d3⟩;cases hq:gd S v.name with
    | none=>rfl
    | some y=>rw [hq] at d1; cases d1
def worldS (l:List UnitU):Option (List (Str × Str) × List (Key × Mem) × List (Key × Mem)) :=
 if l.length≤32 then match supersS builtS l with
  | some S=>match membersS S [] builtM l with
   | some q=>if l.all (overS S q.2) then some (S,q.1,q.2) else none
   | none=>none
  | none=>none
 else none
def newV (N:Nat):Option (List (Str × Str) × List (Key × Mem) × List (Key × Mem))→AVal
 | none=>.tuple [.ptr none,.int .i64 15]
 | some _=>.tuple [.ptr (some (N,0)),.int .i64 0]
def newO (os:List AObj):Option (List (Str × Str) × List (Key × Mem) × List (Key × Mem))→List AObj
 | none=>os
 | some q=>wO os q.1 q.2.1 q.2.2 builtV
theorem zbr {h0 h:Heap} (hw:h0.size≤h.wmin):dy h0 (.tuple [.ptr none,.int .i64 15]) h=(.tuple [.ptr none,.int .i64 15],h0):=by unfold dy;rw [if_neg (by omega)];simp [AVal.under,AVal.unders]
section
attribute [-simp] getElem?_pos getElem?_neg
attribute [local simp] gz gs
theorem s49 {l:List UnitU} {a:Option (Nat × Nat)} {c:Option Nat} (hR:Row os 4 UnitU.cells l a) (hok:∀ u ∈ l,u.ok os) (hn:l.length≤9223372036854775807) (hb:b≤os.length) :
  xCall T 49 [.slice a l.length c] ⟨os,b,w⟩=some (newV os.length (worldS l),⟨newO os (worldS l),b,w⟩):=by
 have h284:=fun w=>s284 (os:=os) (b:=b) (w:=w) hb
 have hlen:(wO os builtS [] builtM builtV).length=os.length+5:=by simp [wO]
 unfold worldS;by_cases hl:l.length≤32
 ·rw [if_pos hl];have hli:¬ ((32:Int) < l.length):=by omega
  obtain ⟨S1,w1,e1,s1,p1,p2,p3⟩:=l49a (F:=[]) (M:=builtM) (V:=builtV) (c:=c) hR hl hb l.length 0 builtS os.length (by omega) (ai _);simp only [ce,eo] at p2 p3;cases hs:supersS builtS l with
  | none =>
   rw [hs] at p2;simp only at p2;obtain ⟨rfl,rfl⟩:=p2;have hf:=fun X=>zbr (h0:=⟨os,b,w⟩) (h:=⟨X,b,w1⟩) p1
   simp (disch:=omega) [-dy,au t49,code49,h284,p3,hl,hli,hf,newV,newO]
  | some S2 =>
   rw [hs] at p2;simp only at p2;obtain ⟨rfl,rfl,rfl⟩:=p2;obtain ⟨q1,q2,q3⟩:=vz hs;have hSl:S1.length≤9223372036854775807:=by rw [q1]; simp [builtS,faultsL]; omega
   obtain ⟨O2,w2,e2,s2,r1,r2,r3⟩:=l49b (V:=builtV) (c:=c) hR hok hl hb hSl q2 l.length 0 (wO os S1 [] builtM builtV) [] builtM w1 (by omega) p1 (xi _ _ _ _ _) (wO_pre _ _ _ _ _) (fun _ h=>by cases h);simp only [ce,eo] at r2 r3;simp only;cases hm:membersS S1 [] builtM l with
   | none =>
    rw [hm] at r2;simp only at r2;obtain ⟨rfl,rfl⟩:=r2;have hf:=fun X=>zbr (h0:=⟨os,b,w⟩) (h:=⟨X,b,w2⟩) r1
    simp (disch:=omega) [-dy,au t49,code49,h284,p3,r3,hl,hli,hf,newV,newO]
   | some q =>
    obtain ⟨F2,M2⟩:=q;rw [hm] at r2;simp only at r2;obtain ⟨hW,hP,rfl,rfl⟩:=r2;have h3:=fun w=>l49c (b:=b) (c:=c) hR hok hl hb hSl hW hP l.length 0 w (by omega)
    simp only [ce,eo] at h3;simp only;rcases bc (l.all (overS S1 M2)) with c0 | c0
    ·rw [c0] at h3 ⊢;simp only [if_true] at h3 ⊢;have hf:=world_fin (b:=b) hW w r1;simp (disch:=omega) [-dy,au t49,code49,h284,p3,r3,h3,hl,hli,hf,newV,newO]
    ·rw [c0] at h3 ⊢;simp only [am,if_false] at h3 ⊢;have hf:=fun X=>zbr (h0:=⟨os,b,w⟩) (h:=⟨X,b,w2⟩) r1
     simp (disch:=omega) [-dy,au t49,code49,h284,p3,r3,h3,hl,hli,hf,newV,newO]
 ·rw [if_neg hl];have hli:(32:Int) < l.length:=by omega
  simp (disch:=omega) [au t49,code49,h284,hl,hli,newV,newO]
end
end Go.Abs.Zh

namespace Go.Abs
def FieldU.fits (x:FieldU):Prop:=x.name.length≤gt∧x.desc.length≤gt
def InsU.fits (x:InsU):Prop:=x.cls.length≤gt∧x.name.length≤gt∧x.desc.length≤gt∧x.text.length≤gt
def TrapU.fits (x:TrapU):Prop:=x.cls.length≤gt
structure MapU.fits (x:MapU):Prop where
 l:x.locals.length≤gt
 s:x.stack.length≤gt
 ls:∀ t ∈ x.locals,t.length≤gt
 ss:∀ t ∈ x.stack,t.length≤gt
structure MethU.fits (m:MethU):Prop where
 name:m.name.length≤gt
 desc:m.desc.length≤gt
 c:m.code.length≤gt
 cs:∀ x ∈ m.code,x.fits
 t:m.traps.length≤gt
 ts:∀ x ∈ m.traps,x.fits
 x:m.maps.length≤gt
 xs:∀ x ∈ m.maps,x.fits
structure UnitU.cap (u:UnitU):Prop where
 f:∀ k,u.fc=some k→u.fields.length≤k
 m:∀ k,u.mc=some k→u.meths.length≤k
structure UnitU.fits (u:UnitU):Prop where
 name:u.name.length≤gt
 super:u.super.length≤gt
 f:u.fields.length≤gt
 fs:∀ x ∈ u.fields,x.fits
 m:u.meths.length≤gt
 ms:∀ x ∈ u.meths,x.fits
 cap:u.cap
section
variable {os:List AObj} {b w:Nat} {d:Dat} {cs:List AVal}
theorem has_strC (h:Has ⟨os,b,w⟩ .str d cs):∃ x:Str,cs=dj x∧x.length≤gt:=by obtain ⟨s,_,rfl,hs⟩:=h.str;exact ⟨s,rfl,hs⟩
theorem big_of {n:Nat} (h:n≤gt):n≤big:=by have:n≤140737488351232:=h;show n≤9223372036854775807;omega
theorem zbu {n m:Nat} {a:Option (Nat × Nat)} (h:∀ i o,a=some (i,o)→i < n) (hm:n≤m):under m a:=fun i o e=>gl (h i o e) hm
end
end Go.Abs

namespace Go.Abs.Zm
open Go.Abs.Zd Go.Abs.Zh
variable {os O B:List AObj} {b w:Nat}
def tapeO (tv:AVal) (p:Nat):AObj:=.cells 2 [tv,.int .i64 p]
structure Tape (O:List AObj) (tN:Nat) (tb:List UInt8) (tv:AVal) (p:Nat):Prop where
 at':O[tN]? = some (tapeO tv p)
 le:p≤tb.length
 small:tb.length≤1000
structure TapeV (O:List AObj) (tN:Nat) (tb:List UInt8) (tv:AVal):Prop where
 row:∃ a c,tv = .slice a tb.length c∧Row O 1 n8 tb a∧∀ i o,a=some (i,o)→i≠tN
theorem set_same {O:List AObj} {i:Nat} {o:AObj} (h:O[i]? = some o):O.set i o=O:=by
 refine kv fun j=>?_
 by_cases e:i=j
 ·subst e; rw [db,if_pos rfl,if_pos (aj h),h]
 ·rw [ap e]
section
attribute [-simp] getElem?_pos getElem?_neg List.all_eq_true
attribute [local simp] gz gs nltT nltF iltT iltF ileT nleT de
theorem s102 {tN p:Nat} {tb:List UInt8} {tv:AVal} (ht:Tape O tN tb tv p) (hv:TapeV O tN tb tv) (hb:b≤tN) {n:Int} (hn:1≤n) (hn2:n≤1000) :
  ∃ (r p':Nat) (nx:Nat→Nat),(r:Int) < n∧p'≤tb.length∧((∀ w,nx w=w)∨(∀ w,nx w=min w tN))∧∀ w,xCall T 102 [.ptr (some (tN,0)),.int .i64 n] ⟨O,b,w⟩=some (.int .i64 r,⟨O.set tN (tapeO tv p'),b,nx w⟩):=by
 obtain ⟨a,c,rfl,hr,hd⟩:=hv.row;have h0:=ht.at';have hle:=ht.le;have hsm:=ht.small;have hl:=aj h0;unfold tapeO at h0;by_cases c1:n < 2
 ·refine ⟨0,p,id,by omega,hle,.inl fun w=>rfl,fun w=>?_⟩;rw [set_same ht.at'];simp (disch:=omega) [au t102,code102,c1]
 ·by_cases c2:tb.length≤p
  ·refine ⟨0,p,id,by omega,hle,.inl fun w=>rfl,fun w=>?_⟩;rw [set_same ht.at'];simp (disch:=omega) [au t102,code102,c1,h0,c2]
  ·obtain ⟨x,hx⟩:∃ x,tb[p]? = some x:=⟨_,ah (by omega)⟩;obtain ⟨q,o,cs,ha,hp,hpl,hcs,hcv⟩:=j7 hr hx;subst ha;have hq:q≠tN:=hd q o rfl
   have hv2:cs[o+p]? = some (.int .u8 x.toNat):=by have hv':(List.drop (o+p*1) cs).take 1=[.int .u8 x.toNat]:=hcv;have:=congrArg (fun z=>z[0]?) hv';simpa [pz,dw] using this
   have hxl:=x.toNat_lt
   have hm:((x.toNat:Int).tmod n).toNat < n:=by rw [Int.tmod_eq_emod_of_nonneg (by omega)];have:=Int.emod_lt_of_pos (x.toNat:Int) (show 0 < n by omega);have:=Int.emod_nonneg (x.toNat:Int) (show n≠0 by omega);omega
   have hm2:(((x.toNat:Int).tmod n).toNat:Int)=(x.toNat:Int).tmod n:=by rw [Int.tmod_eq_emod_of_nonneg (by omega)];have:=Int.emod_nonneg (x.toNat:Int) (show n≠0 by omega);omega
   have hp2:∀ y,(O.set tN y)[q]? = some (.cells 1 cs):=fun y=>by rw [ap (Ne.symm hq)]; exact hp
   have ht2:∀ y,(O.set tN y)[tN]? = some y:=fun y=>by rw [db,if_pos rfl,if_pos hl]
   have e2:((p+1:Nat):Int)=(p:Int)+1:=by omega
   have n0:¬ n=0:=by omega
   refine ⟨((x.toNat:Int).tmod n).toNat,p+1,fun w=>min w tN,hm,by omega,.inr fun w=>rfl,fun w=>?_⟩;rw [hm2];unfold tapeO;rw [e2];simp (disch:=omega) [au t102,code102,c1,h0,c2,hb,hp2,ht2,hv2,n0]
end
structure Own {α:Type} (O:List AObj) (N e:Nat) (f:α→List AVal) (L:List α) (p:Option (Nat × Nat)) (c:Option Nat):Prop where
 some:∀ i o,p=some (i,o)→o=0∧c=Option.none∧N < i∧O[i]? = some (.cells e (L.flatMap f))
 none:p=Option.none→L=[]∧c=Option.some 0
def classesT:List Str:=[[],throwT,[77,97,116,104,70,97,117,108,116],[79,111,112,115],[78,117,108,108,70,97,117,108,116]]
structure InsU.short (x:InsU):Prop where
 cls:x.cls.length≤100
 name:x.name.length≤100
 desc:x.desc.length≤100
 text:x.text.length≤100
structure Leaf (O:List AObj) (N:Nat) (pc pt px:Option (Nat × Nat)) (L:List Str) (a:Option (Nat × Nat)):Prop where
 row:Row O 1 dj L a
 len:L.length≤100
 short:∀ t ∈ L,t.length≤100
 at':∀ i o,a=some (i,o)→N < i∧i < O.length∧(∀ o',pc≠some (i,o'))∧(∀ o',pt≠some (i,o'))∧(∀ o',px≠some (i,o'))
def wrO (tN:Nat) (pc pt px:Option (Nat × Nat)) (cc ct cx:Option Nat) (n nt nx:Nat) (dep bud:Int):AObj :=
 .cells 6 [.ptr (some (tN,0)),.slice pc n cc,.slice pt nt ct,.slice px nx cx,.int .i64 dep,.int .i64 bud]
structure Wr (tN:Nat) (tb:List UInt8) (tv:AVal) (B O:List AObj) (pc pt px:Option (Nat × Nat)) (cc ct cx:Option Nat) (C:List InsU) (S:List TrapU) (M:List MapU) (dep bud:Int):Prop where
 keep:∀ i,i < B.length→i≠tN→O[i]? = B[i]?
 tape:∃ p,Tape O tN tb tv p
 tv:TapeV B tN tb tv
 lt:tN < B.length
 wr:O[B.length]? = some (wrO tN pc pt px cc ct cx C.length S.length M.length dep bud)
 c:Own O B.length 7 InsU.cells C pc cc
 s:Own O B.length 4 TrapU.cells S pt ct
 m:Own O B.length 3 MapU.cells M px cx
 cs:∀ i o o',pc=some (i,o)→pt≠some (i,o')
 cm:∀ i o o',pc=some (i,o)→px≠some (i,o')
 sm:∀ i o o',pt=some (i,o)→px≠some (i,o')
 cok:∀ x ∈ C,InsU.short x
 sok:∀ x ∈ S,x.cls ∈ classesT
 mok:∀ x ∈ M,Leaf O B.length pc pt px x.locals x.la∧Leaf O B.length pc pt px x.stack x.sa
structure Ws (tN:Nat) (tb:List UInt8) (tv:AVal) (B O:List AObj) (n k:Nat) (dep:Int):Prop where
 ex:∃ pc pt px cc ct cx C S M bud,Wr tN tb tv B O pc pt px cc ct cx C S M dep bud∧C.length=n∧n≤k∧S.length≤k∧M.length≤k
section
variable {tN:Nat} {tb:List UInt8} {tv:AVal} {pc pt px:Option (Nat × Nat)} {cc ct cx:Option Nat} {C:List InsU} {S:List TrapU} {M:List MapU} {dep bud:Int}
theorem Wr.len (h:Wr tN tb tv B O pc pt px cc ct cx C S M dep bud):B.length < O.length:=aj h.wr
theorem Leaf.app {N:Nat} {L:List Str} {a:Option (Nat × Nat)} (h:Leaf O N pc pt px L a) (X:List AObj):Leaf (O++X) N pc pt px L a :=
 ⟨(Pre.app O X).row h.row,h.len,h.short,fun i o e=>by obtain ⟨h1,h2,h3⟩:=h.at' i o e;exact ⟨h1,by rw [aq]; omega,h3⟩⟩
theorem Leaf.set {N j:Nat} {L:List Str} {a:Option (Nat × Nat)} {y:AObj} (h:Leaf O N pc pt px L a) (hj:∀ o,a≠some (j,o)):Leaf (O.set j y) N pc pt px L a :=
 ⟨⟨fun hne=>by
  obtain ⟨i,o,cs,h1,h2,h3⟩:=h.row.at' hne;exact ⟨i,o,cs,h1,by rw [ap (fun e=>hj o (by rw [e]; exact h1))]; exact h2,h3⟩⟩,h.len,h.short,fun i o e=>by
  obtain ⟨h1,h2,h3⟩:=h.at' i o e;exact ⟨h1,by simpa using h2,h3⟩⟩
theorem Leaf.npc {N:Nat} {L:List Str} {a:Option (Nat × Nat)} {q:Nat} (h:Leaf O N pc pt px L a) (hq:∀ i o,a=some (i,o)→i < q):Leaf O N (some (q,0)) pt px L a :=
 ⟨h.row,h.len,h.short,fun i o e=>by obtain ⟨h1,h2,h3,h4,h5⟩:=h.at' i o e;exact ⟨h1,h2,fun o' e'=>by have:=hq i o e; simp only [bt,eg] at e'; omega,h4,h5⟩⟩
theorem Leaf.npt {N:Nat} {L:List Str} {a:Option (Nat × Nat)} {q:Nat} (h:Leaf O N pc pt px L a) (hq:∀ i o,a=some (i,o)→i < q):Leaf O N pc (some (q,0)) px L a :=
 ⟨h.row,h.len,h.short,fun i o e=>by obtain ⟨h1,h2,h3,h4,h5⟩:=h.at' i o e;exact ⟨h1,h2,h3,fun o' e'=>by have:=hq i o e; simp only [bt,eg] at e'; omega,h5⟩⟩
theorem Leaf.npx {N:Nat} {L:List Str} {a:Option (Nat × Nat)} {q:Nat} (h:Leaf O N pc pt px L a) (hq:∀ i o,a=some (i,o)→i < q):Leaf O N pc pt (some (q,0)) L a :=
 ⟨h.row,h.len,h.short,fun i o e=>by obtain ⟨h1,h2,h3,h4,h5⟩:=h.at' i o e;exact ⟨h1,h2,h3,h4,fun o' e'=>by have:=hq i o e; simp only [bt,eg] at e'; omega⟩⟩
def gw:Option (Nat × Nat)→List AObj→List AObj
 | none,O=>O
 | some (i,_),O=>O.set i .dead
def lb:Option (Nat × Nat)→Nat→Nat
 | none,w=>w
 | some (i,_),w=>min w i
@[simp] theorem killO_len (p:Option (Nat × Nat)) (O:List AObj):(gw p O).length=O.length:=by
 cases p with
 | none=>rfl
 | some q=>obtain ⟨i,o⟩:=q; simp [gw]
theorem killW_le (p:Option (Nat × Nat)) (w:Nat):lb p w≤w:=by
 cases p with
 | none=>exact ai _
 | some q=>obtain ⟨i,o⟩:=q; exact km ..
theorem app_own {α:Type} {e by':Nat} {f:α→List AVal} {L:List α} {p:Option (Nat × Nat)} {c:Option Nat} {N:Nat} {x:α} (hf:∀ y,(f y).length=e) (h:Own O N e f L p c) (hb:b≤N) (hl:(L.length+1)*by'≤140737488355328) (hl2:L.length≤1000000) (X:List AObj) (w:Nat) :
  eb e by' ⟨O++(X++[.cells e (f x)]),b,w⟩ (.slice p L.length c) (.slice (some (O.length+X.length,0)) 1 (some 1)) =
   some (.slice (some (O.length+X.length+1,0)) (L.length+1) none,⟨gw p O++(X++[.cells e (f x),.cells e ((L++[x]).flatMap f)]),b,lb p w⟩):=by
 have hfl:(L.flatMap f).length=L.length*e:=lx f e hf L
 have hz:il e ⟨O++(X++[.cells e (f x)]),b,w⟩ (.slice (some (O.length+X.length,0)) 1 (some 1))=some (f x) :=
  pu (by show (O++(X++[AObj.cells e (f x)]))[O.length+X.length]? = _; rw [du,dp]; rfl) (by rw [hf,Nat.one_mul])
 have hs:(O++(X++[AObj.cells e (f x)])).length=O.length+X.length+1:=by simp; omega
 have he:(L++[x]).flatMap f=L.flatMap f++f x:=by simp
 cases p with
 | none =>
  obtain ⟨rfl,rfl⟩:=h.none rfl;unfold eb;simp only [hz,bf,qh,aApp,alen];have q1:¬ (1:Nat)=0:=by decide
  have q2:(0+1)*by'≤140737488355328∧0+1≤9223372036854775807:=⟨by simpa using hl,by decide⟩
  simp only [eq_false q1,eq_true q2,if_false,if_true];simp [Heap.push,Heap.size,gw,lb];omega
 | some q =>
  obtain ⟨i,o⟩:=q;obtain ⟨rfl,rfl,h3,h4⟩:=h.some i o rfl;have hi:=aj h4;have h5:(O++(X++[AObj.cells e (f x)]))[i]? = some (.cells e (L.flatMap f)):=by rw [ag hi]; exact h4
  have hz1:il e ⟨O++(X++[.cells e (f x)]),b,w⟩ (.slice (some (i,0)) L.length none)=some (L.flatMap f):=pu h5 hfl
  have hr:rowIs ⟨O++(X++[.cells e (f x)]),b,w⟩ i e=true:=by unfold rowIs Heap.get;simp only [h5];simp
  unfold eb;simp only [hz,hz1,aApp,alen];have q1:¬ (1:Nat)=0:=by decide
  have q2:(L.length+1)*by'≤140737488355328∧L.length+1≤9223372036854775807:=⟨hl,by omega⟩
  have q3:¬ (none:Option Nat)=some L.length:=by simp
  have q4:(⟨O++(X++[AObj.cells e (f x)]),b,w⟩:Heap).base≤i∧rowIs ⟨O++(X++[AObj.cells e (f x)]),b,w⟩ i e=true:=⟨by show b≤i; omega,hr⟩;simp only [eq_false q1,eq_true q2,eq_false q3,eq_true q4,if_false,if_true];simp only [Heap.push,Heap.put,Heap.size,gw,lb,tf _ _ hi,jh,hs,he,ba,bl,bj,aq,az,bf]
end
end Go.Abs.Zm

namespace Go.Abs.Zm
open Go.Abs.Zd Go.Abs.Zh
variable {os O B:List AObj} {b w:Nat} {tN:Nat} {tb:List UInt8} {tv:AVal} {pc pt px:Option (Nat × Nat)} {cc ct cx:Option Nat} {C:List InsU} {S:List TrapU} {M:List MapU} {dep bud:Int}
section
variable {α:Type} {N e:Nat} {f:α→List AVal} {L:List α} {p:Option (Nat × Nat)} {c:Option Nat}
theorem Own.app (h:Own O N e f L p c) (X:List AObj):Own (O++X) N e f L p c :=
 ⟨fun i o hp=>by obtain ⟨h1,h2,h3,h4⟩:=h.some i o hp;exact ⟨h1,h2,h3,by rw [ag (aj h4)]; exact h4⟩,h.none⟩
theorem Own.set (h:Own O N e f L p c) {j:Nat} (y:AObj) (hj:∀ o,p≠Option.some (j,o)):Own (O.set j y) N e f L p c :=
 ⟨fun i o hp=>by obtain ⟨h1,h2,h3,h4⟩:=h.some i o hp;exact ⟨h1,h2,h3,by rw [ap (fun e=>hj o (by rw [e]; exact hp))]; exact h4⟩,h.none⟩
theorem Own.kill (h:Own O N e f L p c) {q:Option (Nat × Nat)} (hq:∀ i o o',q=Option.some (i,o)→p≠Option.some (i,o')):Own (gw q O) N e f L p c:=by
 cases q with
 | none=>exact h
 | some r=>obtain ⟨i,o⟩:=r; exact h.set _ fun o'=>hq i o o' rfl
theorem Leaf.kill {L:List Str} {a:Option (Nat × Nat)} (h:Leaf O N pc pt px L a) {q:Option (Nat × Nat)} (hq:∀ i o o',q=some (i,o)→a≠some (i,o')):Leaf (gw q O) N pc pt px L a:=by
 cases q with
 | none=>exact h
 | some r=>obtain ⟨i,o⟩:=r; exact h.set fun o'=>hq i o o' rfl
theorem lz {q:Option (Nat × Nat)} {i:Nat} (hq:∀ o,q≠some (i,o)):(gw q O)[i]? = O[i]?:=by
 cases q with
 | none=>rfl
 | some r=>obtain ⟨j,o⟩:=r; exact ap fun e=>hq o (by rw [e])
end
theorem Wr.setW (h:Wr tN tb tv B O pc pt px cc ct cx C S M dep bud) (dep' bud':Int):Wr tN tb tv B (O.set B.length (wrO tN pc pt px cc ct cx C.length S.length M.length dep' bud')) pc pt px cc ct cx C S M dep' bud' where
 keep:=fun i hi ht=>by rw [ap (by omega)]; exact h.keep i hi ht
 tape:=by obtain ⟨p,h1⟩:=h.tape;exact ⟨p,by rw [ap (by have:=h.lt; omega)]; exact h1.at',h1.le,h1.small⟩
 tv:=h.tv
 lt:=h.lt
 wr:=by rw [db,if_pos rfl,if_pos h.len]
 c:=h.c.set _ fun o e=>by have:=(h.c.some _ _ e).2.2.1; omega
 s:=h.s.set _ fun o e=>by have:=(h.s.some _ _ e).2.2.1; omega
 m:=h.m.set _ fun o e=>by have:=(h.m.some _ _ e).2.2.1; omega
 cs:=h.cs
 cm:=h.cm
 sm:=h.sm
 cok:=h.cok
 sok:=h.sok
 mok:=fun x hx=>⟨(h.mok x hx).1.set fun o e=>by have:=((h.mok x hx).1.at' _ _ e).1; omega,(h.mok x hx).2.set fun o e=>by have:=((h.mok x hx).2.at' _ _ e).1; omega⟩
theorem Wr.setT (h:Wr tN tb tv B O pc pt px cc ct cx C S M dep bud) {p:Nat} (hp:p≤tb.length):Wr tN tb tv B (O.set tN (tapeO tv p)) pc pt px cc ct cx C S M dep bud where
 keep:=fun i hi ht=>by rw [ap (by omega)]; exact h.keep i hi ht
 tape:=by obtain ⟨q,h1⟩:=h.tape;exact ⟨p,by rw [db,if_pos rfl,if_pos (by have:=h.lt; have:=h.len; omega)],hp,h1.small⟩
 tv:=h.tv
 lt:=h.lt
 wr:=by rw [ap (by have:=h.lt; omega)]; exact h.wr
 c:=h.c.set _ fun o e=>by have:=(h.c.some _ _ e).2.2.1; have:=h.lt; omega
 s:=h.s.set _ fun o e=>by have:=(h.s.some _ _ e).2.2.1; have:=h.lt; omega
 m:=h.m.set _ fun o e=>by have:=(h.m.some _ _ e).2.2.1; have:=h.lt; omega
 cs:=h.cs
 cm:=h.cm
 sm:=h.sm
 cok:=h.cok
 sok:=h.sok
 mok:=fun x hx=>⟨(h.mok x hx).1.set fun o e=>by have:=((h.mok x hx).1.at' _ _ e).1; have:=h.lt; omega,(h.mok x hx).2.set fun o e=>by have:=((h.mok x hx).2.at' _ _ e).1; have:=h.lt; omega⟩
theorem Wr.app (h:Wr tN tb tv B O pc pt px cc ct cx C S M dep bud) (X:List AObj):Wr tN tb tv B (O++X) pc pt px cc ct cx C S M dep bud where
 keep:=fun i hi ht=>by have:=h.len; rw [ag (by omega)]; exact h.keep i hi ht
 tape:=by obtain ⟨p,h1⟩:=h.tape;exact ⟨p,by rw [ag (aj h1.at')]; exact h1.at',h1.le,h1.small⟩
 tv:=h.tv
 lt:=h.lt
 wr:=by rw [ag h.len]; exact h.wr
 c:=h.c.app X
 s:=h.s.app X
 m:=h.m.app X
 cs:=h.cs
 cm:=h.cm
 sm:=h.sm
 cok:=h.cok
 sok:=h.sok
 mok:=fun x hx=>⟨(h.mok x hx).1.app X,(h.mok x hx).2.app X⟩
theorem Wr.addC (h:Wr tN tb tv B O pc pt px cc ct cx C S M dep bud) {x:InsU} (hx:InsU.short x) (X:List AObj) :
  Wr tN tb tv B ((gw pc O++(X++[AObj.cells 7 x.cells,AObj.cells 7 ((C++[x]).flatMap InsU.cells)])).set B.length (wrO tN (some (O.length+X.length+1,0)) pt px none ct cx (C.length+1) S.length M.length dep bud)) (some (O.length+X.length+1,0)) pt px none ct cx (C++[x]) S M dep bud:=by
 have hl:=h.len;have hlt:=h.lt;have hN:∀ o,pc≠some (B.length,o):=fun o e=>by have:=(h.c.some _ _ e).2.2.1; omega
 have hw:∀ Y,(gw pc O++Y)[B.length]? = some (wrO tN pc pt px cc ct cx C.length S.length M.length dep bud):=fun Y=>by rw [ag (by simpa using hl),lz hN]; exact h.wr
 have hlen:((gw pc O)++(X++[AObj.cells 7 x.cells,AObj.cells 7 ((C++[x]).flatMap InsU.cells)])).length=O.length+X.length+2:=by simp; omega
 constructor
 ·intro i hi ht;rw [ap (by omega),ag (by simp; omega),lz fun o e=>by have:=(h.c.some _ _ e).2.2.1; omega];exact h.keep i hi ht
 ·obtain ⟨p,h1⟩:=h.tape
  exact ⟨p,by
   rw [ap (by omega),ag (by simp; omega),lz fun o e=>by have:=(h.c.some _ _ e).2.2.1; omega];exact h1.at',h1.le,h1.small⟩
 ·exact h.tv
 ·exact h.lt
 ·rw [db,if_pos rfl,if_pos (by omega)];simp
 ·refine ⟨fun i o e=>?_,fun e=>by cases e⟩;simp only [bt,eg] at e;obtain ⟨rfl,rfl⟩:=e;refine ⟨rfl,rfl,by omega,?_⟩;rw [ap (by omega),ak (by simp; omega)];have:O.length+X.length+1 - (gw pc O).length=X.length+1:=by simp; omega
  rw [this,du]; rfl
 ·exact ((h.s.kill fun i o o' e=>h.cs i o o' e).app _).set _ fun o e=>by have:=(h.s.some _ _ e).2.2.1; omega
 ·exact ((h.m.kill fun i o o' e=>h.cm i o o' e).app _).set _ fun o e=>by have:=(h.m.some _ _ e).2.2.1; omega
 ·intro i o o' e e';have:=aj (h.s.some _ _ e').2.2.2;simp only [bt,eg] at e;omega
 ·intro i o o' e e';have:=aj (h.m.some _ _ e').2.2.2;simp only [bt,eg] at e;omega
 ·exact h.sm
 ·intro y hy;rcases bp.1 hy with hy | hy
  ·exact h.cok y hy
  ·rw [d9.1 hy]; exact hx
 ·exact h.sok
 ·intro y hy;obtain ⟨h1,h2⟩:=h.mok y hy
  have go:∀ {L:List Str} {a:Option (Nat × Nat)},Leaf O B.length pc pt px L a→Leaf ((gw pc O++(X++[AObj.cells 7 x.cells,AObj.cells 7 ((C++[x]).flatMap InsU.cells)])).set B.length (wrO tN (some (O.length+X.length+1,0)) pt px none ct cx (C.length+1) S.length M.length dep bud)) B.length (some (O.length+X.length+1,0)) pt px L a:=fun hL =>
   (((hL.kill fun i o o' e e'=>(hL.at' _ _ e').2.2.1 _ e).app _).set fun o e=>by have:=(hL.at' _ _ e).1; omega).npc fun i o e=>by have:=(hL.at' _ _ e).2.1; omega
  exact ⟨go h1,go h2⟩
end Go.Abs.Zm

namespace Go.Abs.Zm
open Go.Abs.Zd Go.Abs.Zh
variable {os O B:List AObj} {b w:Nat} {tN:Nat} {tb:List UInt8} {tv:AVal} {n k:Nat} {dep:Int}
def Did (tN:Nat) (tb:List UInt8) (tv:AVal) (B:List AObj) (b:Nat) (g:Nat) (args:List AVal) (v:AVal) (O:List AObj) (P:List AObj→Prop):Prop :=
 ∃ O' m,P O'∧tN≤m∧m≤B.length∧∀ w,xCall T g args ⟨O,b,w⟩=some (v,⟨O',b,min w m⟩)
theorem Ws.code (h:Ws tN tb tv B O n k dep) (hb:b≤tN) (hk:k≤100000) {x:InsU} (hx:InsU.short x) :
  ∃ pc pt px cc ct cx nt nx bud cs,O[B.length]? = some (.cells 6 [.ptr (some (tN,0)),.slice pc n cc,.slice pt nt ct,.slice px nx cx,.int .i64 dep,.int .i64 bud])∧tN < B.length∧B.length < O.length∧(∀ w,w≤B.length→lb pc w=w)∧(∀ w,B.length≤w→B.length≤lb pc w) ∧
   (gw pc O)[B.length]? = some (.cells 6 [.ptr (some (tN,0)),.slice pc n cc,.slice pt nt ct,.slice px nx cx,.int .i64 dep,.int .i64 bud]) ∧
   (∀ w,eb 7 88 ⟨O++[AObj.cells 7 x.cells],b,w⟩ (.slice pc n cc) (.slice (some (O.length,0)) 1 (some 1))=some (.slice (some (O.length+1,0)) (n+1) none,⟨gw pc O++[AObj.cells 7 x.cells,AObj.cells 7 cs],b,lb pc w⟩)) ∧
   Ws tN tb tv B ((gw pc O++[AObj.cells 7 x.cells,AObj.cells 7 cs]).set B.length (.cells 6 [.ptr (some (tN,0)),.slice (some (O.length+1,0)) (n+1) none,.slice pt nt ct,.slice px nx cx,.int .i64 dep,.int .i64 bud])) (n+1) (k+1) dep:=by
 obtain ⟨pc,pt,px,cc,ct,cx,C,S,M,bud,hW,rfl,h2,h3,h4⟩:=h.ex;have h1:=app_own (b:=b) (by':=88) (x:=x) (f:=InsU.cells) (fun _=>rfl) hW.c (by have:=hW.lt; omega) (by omega) (by omega) [];have h5:=hW.addC hx [];simp only [bj,bf,iz] at h1 h5;refine ⟨pc,pt,px,cc,ct,cx,S.length,M.length,bud,_,hW.wr,hW.lt,hW.len,fun w hw=>?_,fun w hw=>?_,?_,h1,⟨_,_,_,_,_,_,_,_,_,_,h5,by simp,by omega,by omega,by omega⟩⟩
 ·cases pc with
  | none=>rfl
  | some q=>obtain ⟨i,o⟩:=q; have:=(hW.c.some _ _ rfl).2.2.1; simp only [lb]; omega
 ·cases pc with
  | none=>exact hw
  | some q=>obtain ⟨i,o⟩:=q; have:=(hW.c.some _ _ rfl).2.2.1; simp only [lb]; omega
 ·rw [lz fun o e=>by have:=(hW.c.some _ _ e).2.2.1; omega]; exact hW.wr
section
attribute [-simp] getElem?_pos getElem?_neg List.all_eq_true
attribute [local simp] gz gs nltT nltF iltT iltF ileT nleT de
theorem s150 (h:Ws tN tb tv B O n k dep) (hb:b≤tN) (hk:k≤100000) {op nn:Int} :
  Did tN tb tv B b 150 [.ptr (some (B.length,0)),.int .u8 op,.int .i64 nn] (.tuple []) O fun O'=>Ws tN tb tv B O' (n+1) (k+1) dep:=by
 obtain ⟨pc,pt,px,cc,ct,cx,nt,nx,bud,cs,h1,h2,h3,h4,h5,h6,h7,h8⟩:=h.code (x:=⟨op,nn,0,[],[],[],[]⟩) hb hk ⟨by simp,by simp,by simp,by simp⟩;refine ⟨_,B.length,h8,by omega,ai _,fun w=>?_⟩;have hkw:=h5 O.length (by omega);have h9:∀ X,(gw pc O++X)[B.length]? = _:=fun X=>(ag (l₂:=X) (by simpa using h3)).trans h6
 simp only [InsU.cells] at h7;simp (disch:=omega) [au t150,code150,-eb,h1,h7,h6,h9,hkw,InsU.cells]
theorem s154 (h:Ws tN tb tv B O n k dep) (hb:b≤tN) (hk:k≤100000) {op:Int} {c m d:Str} (hc:c.length≤100) (hm:m.length≤100) (hd:d.length≤100) :
  Did tN tb tv B b 154 [.ptr (some (B.length,0)),.int .u8 op,.str c,.str m,.str d] (.tuple []) O fun O'=>Ws tN tb tv B O' (n+1) (k+1) dep:=by
 obtain ⟨pc,pt,px,cc,ct,cx,nt,nx,bud,cs,h1,h2,h3,h4,h5,h6,h7,h8⟩:=h.code (x:=⟨op,0,0,c,m,d,[]⟩) hb hk ⟨hc,hm,hd,by simp⟩;refine ⟨_,B.length,h8,by omega,ai _,fun w=>?_⟩;have hkw:=h5 O.length (by omega);have h9:∀ X,(gw pc O++X)[B.length]? = _:=fun X=>(ag (l₂:=X) (by simpa using h3)).trans h6
 simp only [InsU.cells] at h7;simp (disch:=omega) [au t154,code154,-eb,h1,h7,h6,h9,hkw,InsU.cells]
end
theorem Ws.len (h:Ws tN tb tv B O n k dep):tN < B.length∧B.length < O.length:=by obtain ⟨_,_,_,_,_,_,_,_,_,_,hW,_⟩:=h.ex;exact ⟨hW.lt,hW.len⟩
theorem Ws.app (h:Ws tN tb tv B O n k dep) (X:List AObj):Ws tN tb tv B (O++X) n k dep:=by obtain ⟨_,_,_,_,_,_,_,_,_,_,hW,h1⟩:=h.ex;exact ⟨_,_,_,_,_,_,_,_,_,_,hW.app X,h1⟩
theorem Ws.le (h:Ws tN tb tv B O n k dep) {k':Nat} (hk:k≤k'):Ws tN tb tv B O n k' dep:=by obtain ⟨_,_,_,_,_,_,_,_,_,_,hW,h1,h2,h3,h4⟩:=h.ex;exact ⟨_,_,_,_,_,_,_,_,_,_,hW,h1,by omega,by omega,by omega⟩
theorem Ws.at' (h:Ws tN tb tv B O n k dep):∃ pc pt px cc ct cx nt nx bud,O[B.length]? = some (.cells 6 [.ptr (some (tN,0)),.slice pc n cc,.slice pt nt ct,.slice px nx cx,.int .i64 dep,.int .i64 bud]) ∧
  ∀ dep' bud',Ws tN tb tv B (O.set B.length (.cells 6 [.ptr (some (tN,0)),.slice pc n cc,.slice pt nt ct,.slice px nx cx,.int .i64 dep',.int .i64 bud'])) n k dep':=by
 obtain ⟨pc,pt,px,cc,ct,cx,C,S,M,bud,hW,rfl,h2,h3,h4⟩:=h.ex;exact ⟨pc,pt,px,cc,ct,cx,S.length,M.length,bud,hW.wr,fun dep' bud'=>⟨_,_,_,_,_,_,_,_,_,_,hW.setW dep' bud',rfl,h2,h3,h4⟩⟩
theorem Ws.next (h:Ws tN tb tv B O n k dep) (hb:b≤tN) {x:Int} (hx:1≤x) (hx2:x≤1000) :
  ∃ (r:Nat) (O':List AObj) (nx:Nat→Nat),(r:Int) < x∧Ws tN tb tv B O' n k dep∧O'.length=O.length∧(∀ i,i≠tN→O'[i]? = O[i]?)∧((∀ w,nx w=w)∨(∀ w,nx w=min w tN))∧∀ w,xCall T 102 [.ptr (some (tN,0)),.int .i64 x] ⟨O,b,w⟩=some (.int .i64 r,⟨O',b,nx w⟩):=by
 obtain ⟨pc,pt,px,cc,ct,cx,C,S,M,bud,hW,h1⟩:=h.ex;obtain ⟨p,hp⟩:=hW.tape
 have hv:TapeV O tN tb tv:=by obtain ⟨a,c,e,hr,hd⟩:=hW.tv.row;refine ⟨a,c,e,⟨fun hne=>?_⟩,hd⟩;obtain ⟨i,o,cs,e1,e2,e3⟩:=hr.at' hne;exact ⟨i,o,cs,e1,by rw [hW.keep i (aj e2) (hd i o e1)]; exact e2,e3⟩
 obtain ⟨r,p',nx,q1,q2,q3,q4⟩:=s102 hp hv hb hx hx2;exact ⟨r,_,nx,q1,⟨_,_,_,_,_,_,_,_,_,_,hW.setT q2,h1⟩,by simp,fun i hi=>ap (Ne.symm hi),q3,q4⟩
theorem jg {nx:Nat→Nat} (hx:(∀ w,nx w=w)∨(∀ w,nx w=min w tN)) {m:Nat} (hm:tN≤m):∃ m',tN≤m'∧m'≤m∧∀ w,min (nx w) m=min w m':=by
 rcases hx with h | h
 ·exact ⟨m,hm,ai _,fun w=>by rw [h]⟩
 ·exact ⟨tN,ai _,hm,fun w=>by rw [h]; omega⟩
theorem nx_le {nx:Nat→Nat} (hx:(∀ w,nx w=w)∨(∀ w,nx w=min w tN)) (w:Nat):nx w≤w:=by
 rcases hx with h | h
 ·rw [h]; exact ai _
 ·rw [h]; exact km ..
section
attribute [-simp] getElem?_pos getElem?_neg List.all_eq_true
attribute [local simp] gz gs nltT nltF iltT iltF ileT nleT de
theorem s153 (h:Ws tN tb tv B O n k dep) (hb:b≤tN) (hk:k≤100000) {x:Int} (hx:-100≤x) (hx2:x≤200) :
  Did tN tb tv B b 153 [.ptr (some (B.length,0)),.int .i64 x] (.tuple []) O fun O'=>Ws tN tb tv B O' (n+1) (k+1) dep:=by
 obtain ⟨_,hBO⟩:=h.len;have c5:-128≤x:=by omega
 have c6:-32768≤x:=by omega
 have c7:x < 32768:=by omega
 have c8:IntKind.i64.wrap (3+x)=3+x:=de (by omega);by_cases c3:-1≤x∧x≤5
 ·obtain ⟨c1,c2⟩:=c3;obtain ⟨O1,m1,p1,l1,u1,e1⟩:=s150 h hb hk (op:=IntKind.u8.wrap (3+x)) (nn:=0);refine ⟨O1,m1,p1,l1,u1,fun w=>?_⟩;simp (disch:=omega) [au t153,code153,e1,c1,c2,c8]
 ·by_cases c4:x < 128
  ·obtain ⟨O1,m1,p1,l1,u1,e1⟩:=s150 h hb hk (op:=16) (nn:=x);refine ⟨O1,m1,p1,l1,u1,fun w=>?_⟩;by_cases c1:-1≤x
   ·have c2:¬ x≤5:=fun e=>c3 ⟨c1,e⟩
    simp (disch:=omega) [au t153,code153,e1,c1,c2,c4,c5]
   ·simp (disch:=omega) [au t153,code153,e1,c1,c4,c5]
  ·obtain ⟨O1,m1,p1,l1,u1,e1⟩:=s150 h hb hk (op:=17) (nn:=x);refine ⟨O1,m1,p1,l1,u1,fun w=>?_⟩;have c1:-1≤x:=by omega
   have c2:¬ x≤5:=by omega
   simp (disch:=omega) [au t153,code153,e1,c1,c2,c4,c5,c6,c7]
end
theorem pj (L:List Int) {r:Nat} (hr:r < L.length):∃ y,(L.map (AVal.int .u8))[r]? = some (.int .u8 y):=by rw [cz,ah hr];exact ⟨_,rfl⟩
def KK:Nat→Nat
 | 0=>2
 | d+1=>2*KK d+1
def Expr (tN:Nat) (tb:List UInt8) (tv:AVal) (B:List AObj) (b:Nat) (dep:Int) (g:Nat) (x:Int) (j:Nat):Prop :=
 ∀ (O:List AObj) (n k:Nat),Ws tN tb tv B O n k dep→k+j≤100000→Did tN tb tv B b g [.ptr (some (B.length,0)),.int .i64 x] (.tuple []) O fun O'=>∃ n',n≤n'∧Ws tN tb tv B O' n' (k+j) dep
def acts151:List Int:=[96,100,104,108,126,130,120,112,128,124]
theorem Ws.put (h:Ws tN tb tv B O n k dep) (hb:b≤tN) (hk:k≤100000) {x:InsU} (hx:InsU.short x) :
  ∃ pc pt px cc ct cx nt nx bud cs,O[B.length]? = some (.cells 6 [.ptr (some (tN,0)),.slice pc n cc,.slice pt nt ct,.slice px nx cx,.int .i64 dep,.int .i64 bud]) ∧
   (gw pc O)[B.length]? = some (.cells 6 [.ptr (some (tN,0)),.slice pc n cc,.slice pt nt ct,.slice px nx cx,.int .i64 dep,.int .i64 bud]) ∧
   (∀ X,(gw pc O++X)[B.length]? = some (.cells 6 [.ptr (some (tN,0)),.slice pc n cc,.slice pt nt ct,.slice px nx cx,.int .i64 dep,.int .i64 bud])) ∧
   (∀ w,eb 7 88 ⟨O++[AObj.cells 7 x.cells],b,w⟩ (.slice pc n cc) (.slice (some (O.length,0)) 1 (some 1))=some (.slice (some (O.length+1,0)) (n+1) none,⟨gw pc O++[AObj.cells 7 x.cells,AObj.cells 7 cs],b,lb pc w⟩)) ∧
   (∀ w,min (lb pc w) B.length=min w B.length)∧(∀ w,B.length≤w→B.length≤lb pc w)∧(∀ w,lb pc w≤w) ∧
   Ws tN tb tv B ((gw pc O++[AObj.cells 7 x.cells,AObj.cells 7 cs]).set B.length (.cells 6 [.ptr (some (tN,0)),.slice (some (O.length+1,0)) (n+1) none,.slice pt nt ct,.slice px nx cx,.int .i64 dep,.int .i64 bud])) (n+1) (k+1) dep:=by
 obtain ⟨pc,pt,px,cc,ct,cx,nt,nx,bud,cs,h1,h2,h3,h4,h5,h6,h7,h8⟩:=h.code (b:=b) (x:=x) hb hk hx
 exact ⟨pc,pt,px,cc,ct,cx,nt,nx,bud,cs,h1,h6,fun X=>(ag (l₂:=X) (by simpa using h3)).trans h6,h7,fun w=>by
  rcases Nat.le_total w B.length with q | q
  ·rw [h4 w q]
  ·have:=h5 w q; omega,h5,killW_le pc,h8⟩
theorem Ws.lows (h:Ws tN tb tv B O n k dep) {t d bd:AVal} {n' nt nx:Nat} {pc pt px:Option (Nat × Nat)} {cc ct cx:Option Nat} (h1:O[B.length]? = some (.cells 6 [t,.slice pc n' cc,.slice pt nt ct,.slice px nx cx,d,bd])) :
  (∀ i o,pc=some (i,o)→i < O.length∧B.length < i)∧(∀ i o,pt=some (i,o)→i < O.length∧B.length < i)∧(∀ i o,px=some (i,o)→i < O.length∧B.length < i):=by
 obtain ⟨_,_,_,_,_,_,_,_,_,_,hW,_⟩:=h.ex;have e:=hW.wr.symm.trans h1;simp only [wrO,bt,AObj.cells.injEq,kx,AVal.slice.injEq,true_and,and_true] at e;obtain ⟨_,⟨e1,_⟩,⟨e2,_⟩,⟨e3,_⟩,_⟩:=e;subst e1 e2 e3;exact ⟨fun i o e=>⟨aj (hW.c.some i o e).2.2.2,(hW.c.some i o e).2.2.1⟩,fun i o e=>⟨aj (hW.s.some i o e).2.2.2,(hW.s.some i o e).2.2.1⟩,fun i o e=>⟨aj (hW.m.some i o e).2.2.2,(hW.m.some i o e).2.2.1⟩⟩
theorem ids_ins:∀ C:List InsU,AVal.idsL (C.flatMap InsU.cells)=[]
 | []=>rfl
 | x :: C=>by rw [ci,ov,ids_ins C]; simp [InsU.cells,AVal.idsL,AVal.ids]
theorem Ws.codeIds (h:Ws tN tb tv B O n k dep) {t d bd:AVal} {n' nt nx q o:Nat} {pt px:Option (Nat × Nat)} {cc ct cx:Option Nat} {cs:List AVal} (h1:O[B.length]? = some (.cells 6 [t,.slice (some (q,o)) n' cc,.slice pt nt ct,.slice px nx cx,d,bd])) (h2:O[q]? = some (.cells 7 cs)):AVal.idsL cs=[]:=by obtain ⟨_,_,_,_,_,_,_,_,_,_,hW,_⟩:=h.ex;have e:=hW.wr.symm.trans h1;simp only [wrO,bt,AObj.cells.injEq,kx,AVal.slice.injEq,true_and,and_true] at e;obtain ⟨_,⟨e1,_⟩,_⟩:=e;subst e1;have:=(hW.c.some _ _ rfl).2.2.2;rw [h2,bt,AObj.cells.injEq] at this;rw [this.2,ids_ins]
theorem okSl {n0 m q:Nat} {ds:List _root_.Go.Abs.Did} {p:Option (Nat × Nat)} {c:Option Nat} (h:∀ i o,p=some (i,o)→i < n0):(AVal.slice p q c).ids.all (okId n0 m ds)=true:=by
 cases p with
 | none=>rfl
 | some x=>obtain ⟨i,o⟩:=x; simp [AVal.ids,okId,h i o rfl]
theorem KK_pos (d:Nat):2≤KK d:=by
 cases d with
 | zero=>exact ai _
 | succ d=>have:=KK_pos d; simp only [KK]; omega
end Go.Abs.Zm

namespace Go.Abs.Zm
open Go.Abs.Zd Go.Abs.Zh
variable {os O B:List AObj} {b w:Nat} {tN:Nat} {tb:List UInt8} {tv:AVal} {pc pt px:Option (Nat × Nat)} {cc ct cx:Option Nat} {C:List InsU} {S:List TrapU} {M:List MapU} {dep bud:Int} {n k:Nat}
theorem Wr.addM (h:Wr tN tb tv B O pc pt px cc ct cx C S M dep bud) {x:MapU} (X:List AObj) (hx1:Leaf (O++X) B.length pc pt px x.locals x.la) (hx2:Leaf (O++X) B.length pc pt px x.stack x.sa) :
  Wr tN tb tv B ((gw px O++(X++[AObj.cells 3 x.cells,AObj.cells 3 ((M++[x]).flatMap MapU.cells)])).set B.length (wrO tN pc pt (some (O.length+X.length+1,0)) cc ct none C.length S.length (M.length+1) dep bud)) pc pt (some (O.length+X.length+1,0)) cc ct none C S (M++[x]) dep bud:=by
 have hl:=h.len;have hlt:=h.lt;have hN:∀ o,px≠some (B.length,o):=fun o e=>by have:=(h.m.some _ _ e).2.2.1; omega
 have hlen:((gw px O)++(X++[AObj.cells 3 x.cells,AObj.cells 3 ((M++[x]).flatMap MapU.cells)])).length=O.length+X.length+2:=by simp; omega
 constructor
 ·intro i hi ht;rw [ap (by omega),ag (by simp; omega),lz fun o e=>by have:=(h.m.some _ _ e).2.2.1; omega];exact h.keep i hi ht
 ·obtain ⟨p,h1⟩:=h.tape
  exact ⟨p,by
   rw [ap (by omega),ag (by simp; omega),lz fun o e=>by have:=(h.m.some _ _ e).2.2.1; omega];exact h1.at',h1.le,h1.small⟩
 ·exact h.tv
 ·exact h.lt
 ·rw [db,if_pos rfl,if_pos (by omega)];simp
 ·exact ((h.c.kill fun i o o' e e'=>h.cm i o' o e' e).app _).set _ fun o e=>by have:=(h.c.some _ _ e).2.2.1; omega
 ·exact ((h.s.kill fun i o o' e e'=>h.sm i o' o e' e).app _).set _ fun o e=>by have:=(h.s.some _ _ e).2.2.1; omega
 ·refine ⟨fun i o e=>?_,fun e=>by cases e⟩;simp only [bt,eg] at e;obtain ⟨rfl,rfl⟩:=e;refine ⟨rfl,rfl,by omega,?_⟩;rw [ap (by omega),ak (by simp; omega)];have:O.length+X.length+1 - (gw px O).length=X.length+1:=by simp; omega
  rw [this,du]; rfl
 ·exact h.cs
 ·intro i o o' e e';have:=aj (h.c.some _ _ e).2.2.2;simp only [bt,eg] at e';omega
 ·intro i o o' e e';have:=aj (h.s.some _ _ e).2.2.2;simp only [bt,eg] at e';omega
 ·exact h.cok
 ·exact h.sok
 ·intro y hy
  have go:∀ {L:List Str} {a:Option (Nat × Nat)},Leaf (O++X) B.length pc pt px L a→Leaf ((gw px O++(X++[AObj.cells 3 x.cells,AObj.cells 3 ((M++[x]).flatMap MapU.cells)])).set B.length (wrO tN pc pt (some (O.length+X.length+1,0)) cc ct none C.length S.length (M.length+1) dep bud)) B.length pc pt (some (O.length+X.length+1,0)) L a:=fun {L a} hL=>by
   have e1:gw px O++(X++[AObj.cells 3 x.cells,AObj.cells 3 ((M++[x]).flatMap MapU.cells)])=gw px (O++X)++[AObj.cells 3 x.cells,AObj.cells 3 ((M++[x]).flatMap MapU.cells)]:=by
    cases px with
    | none=>simp [gw]
    | some q =>
     obtain ⟨i,o⟩:=q;have:=aj (h.m.some _ _ rfl).2.2.2;simp only [gw,tf _ _ this,ba]
   rw [e1];exact (((hL.kill fun i o o' e e'=>(hL.at' _ _ e').2.2.2.2 _ e).app _).set fun o e=>by have:=(hL.at' _ _ e).1; omega).npx fun i o e=>by have:=(hL.at' _ _ e).2.1; simp at this; omega
  rcases bp.1 hy with hy | hy
  ·obtain ⟨h1,h2⟩:=h.mok y hy;exact ⟨go (h1.app X),go (h2.app X)⟩
  ·rw [d9.1 hy];exact ⟨go hx1,go hx2⟩
theorem Wr.addS (h:Wr tN tb tv B O pc pt px cc ct cx C S M dep bud) {x:TrapU} (hx:x.cls ∈ classesT) (X:List AObj) :
  Wr tN tb tv B ((gw pt O++(X++[AObj.cells 4 x.cells,AObj.cells 4 ((S++[x]).flatMap TrapU.cells)])).set B.length (wrO tN pc (some (O.length+X.length+1,0)) px cc none cx C.length (S.length+1) M.length dep bud)) pc (some (O.length+X.length+1,0)) px cc none cx C (S++[x]) M dep bud:=by
 have hl:=h.len;have hlt:=h.lt;have hN:∀ o,pt≠some (B.length,o):=fun o e=>by have:=(h.s.some _ _ e).2.2.1; omega
 have hlen:((gw pt O)++(X++[AObj.cells 4 x.cells,AObj.cells 4 ((S++[x]).flatMap TrapU.cells)])).length=O.length+X.length+2:=by simp; omega
 constructor
 ·intro i hi ht;rw [ap (by omega),ag (by simp; omega),lz fun o e=>by have:=(h.s.some _ _ e).2.2.1; omega];exact h.keep i hi ht
 ·obtain ⟨p,h1⟩:=h.tape
  exact ⟨p,by
   rw [ap (by omega),ag (by simp; omega),lz fun o e=>by have:=(h.s.some _ _ e).2.2.1; omega];exact h1.at',h1.le,h1.small⟩
 ·exact h.tv
 ·exact h.lt
 ·rw [db,if_pos rfl,if_pos (by omega)];simp
 ·exact ((h.c.kill fun i o o' e e'=>h.cs i o' o e' e).app _).set _ fun o e=>by have:=(h.c.some _ _ e).2.2.1; omega
 ·refine ⟨fun i o e=>?_,fun e=>by cases e⟩;simp only [bt,eg] at e;obtain ⟨rfl,rfl⟩:=e;refine ⟨rfl,rfl,by omega,?_⟩;rw [ap (by omega),ak (by simp; omega)];have:O.length+X.length+1 - (gw pt O).length=X.length+1:=by simp; omega
  rw [this,du]; rfl
 ·exact ((h.m.kill fun i o o' e=>h.sm i o o' e).app _).set _ fun o e=>by have:=(h.m.some _ _ e).2.2.1; omega
 ·intro i o o' e e';have:=aj (h.c.some _ _ e).2.2.2;simp only [bt,eg] at e';omega
 ·exact h.cm
 ·intro i o o' e e';have:=aj (h.m.some _ _ e').2.2.2;simp only [bt,eg] at e;omega
 ·exact h.cok
 ·intro y hy;rcases bp.1 hy with hy | hy
  ·exact h.sok y hy
  ·rw [d9.1 hy]; exact hx
 ·intro y hy;obtain ⟨h1,h2⟩:=h.mok y hy
  have go:∀ {L:List Str} {a:Option (Nat × Nat)},Leaf O B.length pc pt px L a→Leaf ((gw pt O++(X++[AObj.cells 4 x.cells,AObj.cells 4 ((S++[x]).flatMap TrapU.cells)])).set B.length (wrO tN pc (some (O.length+X.length+1,0)) px cc none cx C.length (S.length+1) M.length dep bud)) B.length pc (some (O.length+X.length+1,0)) px L a:=fun hL =>
   (((hL.kill fun i o o' e e'=>(hL.at' _ _ e').2.2.2.1 _ e).app _).set fun o e=>by have:=(hL.at' _ _ e).1; omega).npt fun i o e=>by have:=(hL.at' _ _ e).2.1; omega
  exact ⟨go h1,go h2⟩
theorem flat_set {α:Type} {e:Nat} {f:α→List AVal} (hf:∀ y,(f y).length=e):∀ (L:List α) (i j:Nat) (x y:α) (v:AVal),L[i]? = some x→j < e→(f x).set j v=f y→(L.flatMap f).set (i*e+j) v=(L.set i y).flatMap f
 | [],i,j,x,y,v,h,_,_=>by simp at h
 | a :: L,0,j,x,y,v,h,hj,hy=>by simp only [bg,bt] at h;subst h;rw [ci,Nat.zero_mul,dk,tf _ _ (by rw [hf]; exact hj),hy,List.set_cons_zero,ci]
 | a :: L,i+1,j,x,y,v,h,hj,hy=>by
  simp only [jq] at h;have e1:(i+1)*e+j=(f a).length+(i*e+j):=by rw [hf,gg,Nat.one_mul]; omega
  rw [ci,e1,List.set_append_right _ _ (by omega),pg,flat_set hf L i j x y v h hj hy,List.set_cons_succ,ci]
theorem Wr.setN (h:Wr tN tb tv B O pc pt px cc ct cx C S M dep bud) {q o i:Nat} (hp:pc=some (q,o)) (hi:i < C.length) (z:Int) :
  ∃ C',C'.length=C.length∧Wr tN tb tv B (O.set q (.cells 7 ((C.flatMap InsU.cells).set (i*7+1) (.int .i64 z)))) pc pt px cc ct cx C' S M dep bud:=by
 obtain ⟨x,hx⟩:∃ x,C[i]? = some x:=⟨_,ah hi⟩;obtain ⟨h1,h2,h3,h4⟩:=h.c.some q o hp;have hlt:=h.lt;have hql:=aj h4;refine ⟨C.set i { x with n:=z },by simp,?_⟩;rw [flat_set (e:=7) (fun _=>rfl) C i 1 x { x with n:=z } (.int .i64 z) hx (by decide) rfl];constructor
 ·intro j hj ht;rw [ap (by omega)];exact h.keep j hj ht
 ·obtain ⟨p,h5⟩:=h.tape;exact ⟨p,by rw [ap (by omega)]; exact h5.at',h5.le,h5.small⟩
 ·exact h.tv
 ·exact h.lt
 ·rw [ap (by omega),jh]; exact h.wr
 ·refine ⟨fun i' o' e=>?_,fun e=>by rw [hp] at e; cases e⟩;have e':=hp.symm.trans e;simp only [bt,eg] at e';obtain ⟨rfl,rfl⟩:=e';exact ⟨h1,h2,h3,by rw [db,if_pos rfl,if_pos hql]⟩
 ·exact h.s.set _ fun o' e=>h.cs _ _ _ hp e
 ·exact h.m.set _ fun o' e=>h.cm _ _ _ hp e
 ·exact h.cs
 ·exact h.cm
 ·exact h.sm
 ·intro y hy;rcases List.mem_or_eq_of_mem_set hy with hy | hy
  ·exact h.cok y hy
  ·have:=h.cok x (bz hx);rw [hy];exact ⟨this.cls,this.name,this.desc,this.text⟩
 ·exact h.sok
 ·exact fun y hy=>⟨(h.mok y hy).1.set fun o' e=>((h.mok y hy).1.at' _ _ e).2.2.1 _ hp,(h.mok y hy).2.set fun o' e=>((h.mok y hy).2.at' _ _ e).2.2.1 _ hp⟩
end Go.Abs.Zm

namespace Go.Abs.Zm
open Go.Abs.Zd Go.Abs.Zh
variable {os O B:List AObj} {b w:Nat} {tN:Nat} {tb:List UInt8} {tv:AVal} {pc pt px:Option (Nat × Nat)} {cc ct cx:Option Nat} {C:List InsU} {S:List TrapU} {M:List MapU} {dep bud:Int} {n k:Nat}
theorem leaf0 {N:Nat}:Leaf O N pc pt px [] none:=⟨⟨fun h=>absurd rfl h⟩,by decide,by simp,fun _ _ e=>by cases e⟩
theorem Wr.leaf1 (h:Wr tN tb tv B O pc pt px cc ct cx C S M dep bud) {q:Nat} {L:List Str} (hq:B.length < q) (hO:O[q]? = some (.cells 1 (L.flatMap dj))) (hl:L.length≤100) (hs:∀ t ∈ L,t.length≤100):Leaf O B.length pc pt px L (some (q,0)) :=
 ⟨Row.mk0 (fun _=>rfl) hO,hl,hs,fun i o e=>by
  simp only [bt,eg] at e;obtain ⟨rfl,rfl⟩:=e;refine ⟨hq,aj hO,fun o' e=>?_,fun o' e=>?_,fun o' e=>?_⟩
  ·have:=(h.c.some _ _ e).2.2.2; rw [hO] at this; simp at this
  ·have:=(h.s.some _ _ e).2.2.2; rw [hO] at this; simp at this
  ·have:=(h.m.some _ _ e).2.2.2; rw [hO] at this; simp at this⟩
def localsL:List Str:=[[73],[73],[73],[74],[76,65,59],[91,73],[91,66]]
theorem s222 (hb:b≤O.length):xCall T 222 [] ⟨O,b,w⟩=some (.slice (some (O.length,0)) 7 (some 7),⟨O++[.cells 1 (localsL.flatMap dj)],b,w⟩):=by have e:localsL.flatMap dj=[.str [73],.str [73],.str [73],.str [74],.str [76,65,59],.str [91,73],.str [91,66]]:=rfl;rw [e];simp (disch:=omega) [-getElem?_pos,-getElem?_neg,-List.all_eq_true,gz,gs,nltT,nltF,iltT,iltF,ileT,nleT,de,au t222,code222,jd,lf,du,dp]
end Go.Abs.Zm

namespace Go.Abs.Zm
open Go.Abs.Zd Go.Abs.Zh
variable {os O B:List AObj} {b w:Nat} {tN:Nat} {tb:List UInt8} {tv:AVal} {pc pt px:Option (Nat × Nat)} {cc ct cx:Option Nat} {C:List InsU} {S:List TrapU} {M:List MapU} {dep bud:Int} {n k:Nat}
theorem Own.row {α:Type} {N e:Nat} {f:α→List AVal} {L:List α} {p:Option (Nat × Nat)} {c:Option Nat} (hf:∀ x,(f x).length=e) (h:Own O N e f L p c):Row O e f L p:=by
 cases p with
 | none=>obtain ⟨rfl,_⟩:=h.none rfl; exact ⟨fun h=>absurd rfl h⟩
 | some q =>
  obtain ⟨i,o⟩:=q;obtain ⟨rfl,_,_,h4⟩:=h.some i o rfl;exact Row.mk0 hf h4
theorem take_get {cs L:List AVal} {m e k:Nat} (h:List.take e (List.drop m cs)=L) (hk:k < e):cs[m+k]? = L[k]?:=by rw [← h,et hk,dw]
inductive StackOf (O:List AObj) (N:Nat):Option (Nat × Nat)→Option Nat→List Str→Prop
 | nil:StackOf O N none (some 0) []
 | one (q:Nat) (s:Str):N < q→s.length≤100→O[q]? = some (.cells 1 [.str s])→StackOf O N (some (q,0)) (some 1) [s]
theorem ids_slice {n m:Nat} {a:Option (Nat × Nat)} {c:Option Nat} (h:under n a):∀ i ∈ (AVal.slice a m c).ids,i < n:=by
 cases a with
 | none=>simp [AVal.ids]
 | some p=>obtain ⟨j,o⟩:=p; simp only [AVal.ids,d9]; rintro i rfl; exact h _ _ rfl
theorem ids_map {n:Nat}:∀ {M:List MapU},(∀ x ∈ M,under n x.la∧under n x.sa)→∀ i ∈ AVal.idsL (M.flatMap MapU.cells),i < n
 | [],_=>by simp [AVal.idsL]
 | x :: M,h=>by
  intro i hi;rw [ci,ov,bp] at hi;rcases hi with hi | hi
  ·simp only [MapU.cells,AVal.idsL,AVal.ids,bj,co,bp] at hi;rcases hi with hi | hi
   ·exact ids_slice (h x (bh ..)).1 i hi
   ·exact ids_slice (h x (bh ..)).2 i hi
  ·exact ids_map (fun y hy=>h y (bu _ hy)) i hi
theorem all_okId {n0:Nat} {l:List Nat} (h:∀ i ∈ l,i < n0+1) (hm:n0 ∈ l) (m:Nat) (ds:List Go.Abs.Did):l.all (okId n0 m ds)=okId n0 m ds n0:=by
 rw [md,al];constructor
 ·intro hh; exact hh _ hm
 ·intro hh i hi;rcases bi i n0 with q | q
  ·simp [okId,q]
  ·have:=h i hi;rw [show i=n0 by omega]; exact hh
set_option maxHeartbeats 1600000 in
theorem s208 (h:Ws tN tb tv B O n k dep) (hb:b≤tN) (hk:k+1≤100000) {sa:Option (Nat × Nat)} {sc:Option Nat} {L:List Str} (hst:StackOf O B.length sa sc L) {a0 a1 a2 a3 a4 a5:AVal} (hat:O[B.length]? = some (.cells 6 [a0,a1,a2,a3,a4,a5])) :
  ∃ (O':List AObj) (nx:Nat→Nat) (a3':AVal),Ws tN tb tv B O' n (k+1) dep∧O'[B.length]? = some (.cells 6 [a0,a1,a2,a3',a4,a5])∧O.length≤O'.length∧((∀ w,nx w=w)∨(∀ w,nx w=min w B.length)) ∧
   ∀ w,xCall T 100208 [.ptr (some (B.length,0)),.slice sa L.length sc] ⟨O,b,w⟩=some (.int .i64 n,⟨O',b,nx w⟩):=by
 obtain ⟨pc,pt,px,cc,ct,cx,C,S,M,bud,hW,rfl,h2,h3,h4⟩:=h.ex;have hwr:=hW.wr;have hBO:=hW.len;have hlt:=hW.lt;have e:=hat.symm.trans hwr;simp only [wrO,bt,AObj.cells.injEq,kx,true_and,and_true] at e;obtain ⟨rfl,rfl,rfl,rfl,rfl,rfl⟩:=e;have hRm:Row O 3 MapU.cells M px:=Own.row (f:=MapU.cells) (fun _=>rfl) hW.m;have hn1:C.length≤9223372036854775807:=by omega
 have hMl:M.length≤9223372036854775807:=by omega
 have hm:M.length=0∨∃ (l p:Nat) (cs:List AVal) (v:Int),M.length=l+1∧px=some (p,0)∧O[p]? = some (.cells 3 cs)∧l*3+3≤cs.length∧cs[l*3]? = some (.int .i64 v)∧B.length < p∧p < O.length:=by
  rcases xt M.length with c | c
  ·exact .inl c
  ·obtain ⟨y,hy⟩:∃ y,M[M.length - 1]? = some y:=⟨_,ah (by omega)⟩;obtain ⟨p,o,cs,ha,hpp,hpl,hcs,ht⟩:=j7 hRm hy;obtain ⟨e1,e2,e3,e4⟩:=hW.m.some p o ha;subst e1;have:=take_get (k:=0) ht (by decide);rw [dk,iz] at this;exact .inr ⟨M.length - 1,p,cs,y.at',by omega,ha,hpp,by omega,this,e3,hpl⟩
 have hX:=fun w=>s222 (O:=O) (b:=b) (w:=w) (by omega)
 have hl1:Leaf (O++[.cells 1 (localsL.flatMap dj)]) B.length pc pt px localsL (some (O.length,0)):=(hW.app _).leaf1 hBO (by rw [dp]; rfl) (by decide) (by decide)
 have hl2:Leaf (O++[.cells 1 (localsL.flatMap dj)]) B.length pc pt px L sa:=by
  cases hst with
  | nil=>exact leaf0
  | one q s q1 q2 q3=>exact (hW.app _).leaf1 q1 (by rw [ag (aj q3),q3]; rfl) (by simp) (by simpa using q2)
 obtain ⟨x,hx⟩:∃ x:MapU,x=⟨C.length,localsL,some (O.length,0),some 7,L,sa,sc⟩:=⟨_,rfl⟩;have hcu:x.cells=[.int .i64 C.length,.slice (some (O.length,0)) 7 (some 7),.slice sa L.length sc]:=by rw [hx]; rfl
 have h1:=app_own (b:=b) (by':=56) (x:=x) (f:=MapU.cells) (fun _=>rfl) hW.m (by omega) (by omega) (by omega) [.cells 1 (localsL.flatMap dj)];have h5:=hW.addM (x:=x) [.cells 1 (localsL.flatMap dj)] (by rw [hx]; exact hl1) (by rw [hx]; exact hl2)
 have hidm:∀ i ∈ AVal.idsL ((M++[x]).flatMap MapU.cells),i < O.length+1:=ids_map fun y hy=>by
  have go:∀ {L:List Str} {a:Option (Nat × Nat)},Leaf (O++[.cells 1 (localsL.flatMap dj)]) B.length pc pt px L a→under (O.length+1) a:=fun hL i o e=>by have:=(hL.at' i o e).2.1; simpa using this
  rcases bp.1 hy with hy | hy
  ·exact ⟨go ((hW.mok y hy).1.app _),go ((hW.mok y hy).2.app _)⟩
  ·rw [d9.1 hy,hx]; exact ⟨go hl1,go hl2⟩
 have hmemR:O.length ∈ AVal.idsL ((M++[x]).flatMap MapU.cells):=by rw [jp,ov,bp];right;simp [hcu,AVal.idsL,AVal.ids]
 have hall:=all_okId hidm hmemR;generalize (M++[x]).flatMap MapU.cells=R at *;generalize localsL.flatMap dj=Y at *;simp only [f7] at h1 h5;obtain ⟨O',hO'⟩:∃ O',O'=(gw px O++([AObj.cells 1 Y]++[AObj.cells 3 x.cells,AObj.cells 3 R])).set B.length (wrO tN pc pt (some (O.length+1+1,0)) cc ct none C.length S.length (M.length+1) dep bud):=⟨_,rfl⟩;rw [← hO'] at h5;have hlO:O.length≤O'.length:=by rw [hO']; simp
 have key:∀ w,(M.length=0∨∃ (l p:Nat) (cs:List AVal) (v:Int),M.length=l+1∧px=some (p,0)∧O[p]? = some (.cells 3 cs)∧l*3+3≤cs.length∧cs[l*3]? = some (.int .i64 v)∧B.length < p∧p < O.length∧v≠C.length) →
   xCall T 100208 [.ptr (some (B.length,0)),.slice sa L.length sc] ⟨O,b,w⟩=some (.int .i64 C.length,⟨O',b,min w B.length⟩):=by
  intro w hm;rw [hcu] at h1 hO';have hlw:=h.lows hat
  have hB1:∀ X,(gw px O++X)[B.length]? = some (AObj.cells 6 [.ptr (some (tN,0)),.slice pc C.length cc,.slice pt S.length ct,.slice px M.length cx,.int .i64 dep,.int .i64 bud]):=fun X=>by rw [ag (by simpa using hBO),lz fun o e=>by have:=(hlw.2.2 _ _ e).2; omega]; exact hat
  rcases hm with hm | ⟨l,p,cs,v,m1,m2,m3,m4,m5,m6,m7,m8⟩
  ·rw [hm] at hat h1 hO' hB1;simp only [wrO] at hO';rw [hO'];cases px with
   | none =>
    cases hst with
    | nil =>
     simp only [gw,lb,bl,bj,bf,f7] at h1 hB1 ⊢;simp (maxSteps:=3000000) (disch:=omega) [-getElem?_pos,-getElem?_neg,-List.all_eq_true,gz,gs,nltT,nltF,iltT,iltF,ileT,nleT,de,aw,benign,again,AVal.eqb,-sget,jl,jm,jn,-eb,au ri,code100208,hat,hX,h1,hall,hB1,du,dp,hm]
    | one q s q1 q2 q3 =>
     simp only [gw,lb,bl,bj,bf,f7] at h1 hB1 ⊢;have q4:=aj q3;simp (maxSteps:=3000000) (disch:=omega) [-getElem?_pos,-getElem?_neg,-List.all_eq_true,gz,gs,nltT,nltF,iltT,iltF,ileT,nleT,de,aw,benign,again,AVal.eqb,-sget,jl,jm,jn,-eb,au ri,code100208,hat,hX,h1,hall,hB1,du,dp,hm]
   | some q0 =>
    obtain ⟨i,o⟩:=q0;obtain ⟨l1,l2⟩:=hlw.2.2 i o rfl;have hk0:∀ X:List AObj,(O.set i .dead++X)[O.length]? = X[0]?:=fun X=>by rw [ak (by simp)]; simp
    have hk1:∀ (X:List AObj) (j:Nat),(O.set i .dead++X)[O.length+j]? = X[j]?:=fun X j=>by rw [ak (by simp)]; simp
    have hi1:¬ i=O.length+2:=by omega
    have hi2:¬ O.length+2≤i:=by omega
    have hi3:¬ O.length+1≤i:=by omega
    have hi4:¬ O.length≤i:=by omega
    have hi5:i < O.length+2:=by omega
    have hi6:i < O.length+1:=by omega
    have hiB:i≠B.length:=by omega
    have hi7:¬ i=O.length+1:=by omega
    have hi8:¬ i=O.length:=by omega
    cases hst with
    | nil =>
     simp only [gw,lb,bl,bj,bf,f7] at h1 hB1 ⊢;simp (maxSteps:=3000000) (disch:=omega) [-getElem?_pos,-getElem?_neg,-List.all_eq_true,gz,gs,nltT,nltF,iltT,iltF,ileT,nleT,de,aw,benign,again,AVal.eqb,-sget,jl,jm,jn,-eb,au ri,code100208,hat,hX,h1,hall,hB1,du,dp,hk0,hk1,hi1,hi2,hi3,hi4,hi5,hi6,hi7,hi8,hiB,l1,l2]
    | one q s q1 q2 q3 =>
     simp only [gw,lb,bl,bj,bf,f7] at h1 hB1 ⊢;have q4:=aj q3;simp (maxSteps:=3000000) (disch:=omega) [-getElem?_pos,-getElem?_neg,-List.all_eq_true,gz,gs,nltT,nltF,iltT,iltF,ileT,nleT,de,aw,benign,again,AVal.eqb,-sget,jl,jm,jn,-eb,au ri,code100208,hat,hX,h1,hall,hB1,du,dp,hk0,hk1,hi1,hi2,hi3,hi4,hi5,hi6,hi7,hi8,hiB,l1,l2]
  ·rw [m1] at hat h1 hO' hB1;simp only [wrO] at hO';rw [hO'];subst m2;have hpp:=fun X=>(ag (l₂:=X) m7).trans m3
   have hk0:∀ X:List AObj,(O.set p .dead++X)[O.length]? = X[0]?:=fun X=>by rw [ak (by simp)]; simp
   have hk1:∀ (X:List AObj) (j:Nat),(O.set p .dead++X)[O.length+j]? = X[j]?:=fun X j=>by rw [ak (by simp)]; simp
   have hi1:¬ p=O.length+2:=by omega
   have hi2:¬ O.length+2≤p:=by omega
   have hi3:¬ O.length+1≤p:=by omega
   have hi4:¬ O.length≤p:=by omega
   have hi5:p < O.length+2:=by omega
   have hi6:p < O.length+1:=by omega
   have hiB:p≠B.length:=by omega
   have hi7:¬ p=O.length+1:=by omega
   have hi8:¬ p=O.length:=by omega
   cases hst with
   | nil =>
    simp only [gw,lb,bl,bj,bf,f7] at h1 hB1 ⊢;simp (maxSteps:=3000000) (disch:=omega) [-getElem?_pos,-getElem?_neg,-List.all_eq_true,gz,gs,nltT,nltF,iltT,iltF,ileT,nleT,de,aw,benign,again,AVal.eqb,-sget,jl,jm,jn,-eb,au ri,code100208,hat,hX,h1,hall,hB1,du,dp,hk0,hk1,hi1,hi2,hi3,hi4,hi5,hi6,hi7,hi8,hiB,m3,m5,m8,m6,m7]
   | one q s q1 q2 q3 =>
    simp only [gw,lb,bl,bj,bf,f7] at h1 hB1 ⊢;have q4:=aj q3;simp (maxSteps:=3000000) (disch:=omega) [-getElem?_pos,-getElem?_neg,-List.all_eq_true,gz,gs,nltT,nltF,iltT,iltF,ileT,nleT,de,aw,benign,again,AVal.eqb,-sget,jl,jm,jn,-eb,au ri,code100208,hat,hX,h1,hall,hB1,du,dp,hk0,hk1,hi1,hi2,hi3,hi4,hi5,hi6,hi7,hi8,hiB,m3,m5,m8,m6,m7]
 rcases hm with hm | ⟨l,p,cs,v,m1,m2,m3,m4,m5,m6,m7⟩
 ·exact ⟨O',fun w=>min w B.length,_,⟨_,_,_,_,_,_,_,_,_,_,h5,rfl,by omega,by omega,by simp; omega⟩,h5.wr,hlO,.inr fun w=>rfl,fun w=>key w (.inl hm)⟩
 ·by_cases c1:v=C.length
  ·refine ⟨O,id,_,h.le (by omega),hat,ai _,.inl fun w=>rfl,fun w=>?_⟩;subst c1 m2;have hli:((l:Int)+1) - 1=l:=by omega
   rw [m1] at hat;simp (maxSteps:=3000000) (disch:=omega) [-getElem?_pos,-getElem?_neg,-List.all_eq_true,gz,gs,nltT,nltF,iltT,iltF,ileT,nleT,de,-sget,jl,jm,jn,au ri,code100208,hat,m1,m3,m5]
  ·exact ⟨O',fun w=>min w B.length,_,⟨_,_,_,_,_,_,_,_,_,_,h5,rfl,by omega,by omega,by simp; omega⟩,h5.wr,hlO,.inr fun w=>rfl,fun w=>key w (.inr ⟨l,p,cs,v,m1,m2,m3,m4,m5,m6,m7,c1⟩)⟩
end Go.Abs.Zm

namespace Go.Abs.Zm
open Go.Abs.Zd Go.Abs.Zh
variable {os O B:List AObj} {b w:Nat} {tN:Nat} {tb:List UInt8} {tv:AVal} {n k:Nat} {dep:Int}
set_option maxHeartbeats 1000000 in
theorem k4_183 (hb:b≤tN) {x:Int} {nx1:Nat→Nat} {O1:List AObj} {j:Nat} {c0:List AVal} (h:Ws tN tb tv B O n k dep) (f2:Ws tN tb tv B O1 n k dep) (f5:(∀ w,nx1 w=w)∨(∀ w,nx1 w=min w tN))
  (f6:∀ w,xCall T 102 [.ptr (some (tN,0)),.int .i64 6] ⟨O,b,w⟩=some (.int .i64 ((4:Nat):Int),⟨O1,b,nx1 w⟩))
  (hat:O[B.length]? = some (.cells 6 (.ptr (some (tN,0)) :: c0))) (hj:1≤j) (hk:k+j≤100000) :
  Did tN tb tv B b 183 [.ptr (some (B.length,0)),.int .i64 x] (.tuple []) O fun O'=>∃ n',n≤n'∧Ws tN tb tv B O' n' (k+j) dep:=by
 obtain ⟨hlt,hBO⟩:=h.len;have hBO1:=f2.len.2;obtain ⟨r2,O2,nx,g1,g2,g3,g4,g5,g6⟩:=f2.next hb (x:=256) (by decide) (by decide)
 have hBO2:=g2.len.2;have hO12:O2.length=O1.length:=g3;obtain ⟨pc,pt,px,cc,ct,cx,nt,nx',bud,cs,h1,h6,h9,h7,hkw,hk1,hk2,h8⟩:=g2.put (b:=b) (x:=⟨20,(r2:Int)*1099511627776 - 5,0,[],[],[74],[]⟩) hb (by omega) ⟨by simp,by simp,by simp,by simp⟩;have e11:=(g4 B.length (by omega)).symm.trans h1;obtain ⟨lw,_,_⟩:=g2.lows h1;have n1:¬ (r2:Int) < 0:=by omega
 have hok:=fun m ds=>okSl (n0:=O1.length) (m:=m) (q:=n) (ds:=ds) (c:=cc) (p:=pc) fun i o e=>by have:=(lw i o e).1; omega
 obtain ⟨m'',q4,q5,q6⟩:=jg f5 (ai tN);have hwl1:nx1 O.length=O.length∨nx1 O.length=tN:=by rcases f5 with g | g <;> rw [g] <;> omega
 have hwl:nx O1.length=O1.length∨nx O1.length=tN:=by rcases g5 with g | g <;> rw [g] <;> omega
 have hm1:min O1.length B.length=B.length:=by omega
 have hm2:min tN B.length=tN:=by omega
 refine ⟨_,min (nx1 O.length) (min (nx O1.length) B.length),⟨n+1,by omega,h8.le (by omega)⟩,by omega,by omega,fun w=>?_⟩;simp only [InsU.cells] at h7 ⊢;rw [hO12] at h7 ⊢;rw [au t183];have hbits:min 40 IntKind.i64.bits=40:=rfl;have hwl:nx O1.length=O1.length∨nx O1.length=tN:=by rcases g5 with g | g <;> rw [g] <;> omega
 have hg0:∀ X:List AObj,(O2++X)[O1.length]? = X[0]?:=fun X=>by rw [← hO12,dp]
 have hg1:∀ (X:List AObj) (i:Nat),(O2++X)[O1.length+i]? = X[i]?:=fun X i=>by rw [← hO12,du]
 have hB1:∀ X:List AObj,(O2++X)[B.length]? = some (AObj.cells 6 [.ptr (some (tN,0)),.slice pc n cc,.slice pt nt ct,.slice px nx' cx,.int .i64 dep,.int .i64 bud]):=fun X=>(ag (by omega)).trans h1
 have hids:AVal.idsL cs=[]:=h8.codeIds (q:=O2.length+1) (o:=0) (cs:=cs) (by rw [db,if_pos rfl,if_pos (by simp; omega)]) (by
  rw [ap (by omega),ak (by simp)];simp)
 have hBn:B.length≠tN:=by omega
 have c5:0 < x∨¬ 0 < x:=by omega
 cases pc with
 | none =>
  simp only [gw,lb] at h7 h9 ⊢
  rcases c5 with c4 | c4 <;> rcases hwl with hwl | hwl <;>
   simp (maxSteps:=3000000) (disch:=omega) [-getElem?_pos,-getElem?_neg,-List.all_eq_true,gz,gs,nltT,nltF,iltT,iltF,ileT,nleT,de,aw,benign,again,AVal.eqb,hO12,hbits,hg0,hg1,hB1,-sget,jl,jm,jn,-eb,code183,code183B0,hat,f6,c4,g6,h1,e11,hok,h7,h9,hids,hm1,hm2,hwl]
 | some q =>
  obtain ⟨i,o⟩:=q;obtain ⟨l1,l2⟩:=lw i o rfl;have hk0:∀ X:List AObj,(O2.set i .dead++X)[O1.length]? = X[0]?:=fun X=>by rw [← hO12,ak (by simp)]; simp
  have hk1:∀ (X:List AObj) (j:Nat),(O2.set i .dead++X)[O1.length+j]? = X[j]?:=fun X j=>by rw [← hO12,ak (by simp)]; simp
  have hi1:¬ i=O1.length+1:=by omega
  have hi2:¬ O1.length+1≤i:=by omega
  have hi3:¬ O1.length≤i:=by omega
  have hi4:i < O1.length:=by omega
  have hi5:i < O1.length+1:=by omega
  have hBi:B.length≤i:=by omega
  have htB:tN≤i:=by omega
  have hiB:i≠B.length:=by omega
  have hit:i≠tN:=by omega
  simp only [gw,lb] at h7 h9 ⊢
  rcases c5 with c4 | c4 <;> rcases hwl with hwl | hwl <;>
   simp (maxSteps:=3000000) (disch:=omega) [-getElem?_pos,-getElem?_neg,-List.all_eq_true,gz,gs,nltT,nltF,iltT,iltF,ileT,nleT,de,aw,benign,again,AVal.eqb,hO12,hbits,hg0,hg1,hB1,-sget,jl,jm,jn,-eb,code183,code183B0,hat,f6,c4,g6,h1,e11,hok,h7,h9,hids,hm1,hm2,hk0,hk1,hi1,hi2,hi3,hi4,hi5,hiB,hit,hwl]
end Go.Abs.Zm
