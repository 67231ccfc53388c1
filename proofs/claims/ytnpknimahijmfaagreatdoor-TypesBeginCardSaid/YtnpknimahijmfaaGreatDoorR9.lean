/-
  Texts joined.
-/
import Derived.Test.YtnpknimahijmfaaGreatDoorR0
import Derived.Test.YtnpknimahijmfaaGreatDoorR8
import Derived.Shelf.Spec.SlicesInsertGrow
import Derived.Test.YtnpknimahijmfaaGreatDoorR6
import Derived.Test.YtnpknimahijmfaaGreatDoorR7
set_option linter.unusedVariables false
set_option linter.unusedSimpArgs false
set_option maxRecDepth 100000
namespace Go.Abs
open Go.Proofs Go.Shelf Go.RowKit Go.Lib
variable {E:Env} {μ:MM} {h:Heap} {w:World}
theorem z6 {w:World} {b:Nat} {o:Obj} (hb:w.heap[b]? = some o):di w b o=w:=by
 have hlt:b < w.heap.size:=by
  rcases bj b w.heap.size with h | h
  ·exact h
  ·rw [Array.getElem?_eq_none h] at hb; cases hb
 rw [j8 hlt] at hb;have hb':=dl hb;unfold di
 have:w.heap.setIfInBounds b o=w.heap:=by
  apply Array.ext
  ·simp
  ·intro i h1 h2;rw [Array.getElem_setIfInBounds (by simpa using h1)];split
   ·rename_i e; subst e; exact hb'.symm
   ·rfl
 rw [this]
theorem kb {b:Nat} {e:TypeId} {fr:Nat × Nat}:∀ (vs:List Value) (o:Nat) {w:World} {c:Array Value},w.heap[b]? = some (.cells c e fr)→w.setCells b o vs=di w b (.cells (ik c o vs) e fr)
 | [],o,w,c,hb=>(z6 hb).symm
 | v :: r,o,w,c,hb=>by
  have hlt:b < w.heap.size:=by
   rcases bj b w.heap.size with h | h
   ·exact h
   ·rw [Array.getElem?_eq_none h] at hb; cases hb
  rw [World.setCells,u0 v hb,kb r (o+1) (gb hlt),pe];rfl
theorem ends_take (hr:Rel E μ h w) {j o n' cap esz:Nat} {m:M} {new:List AVal} {C':Array Value} {te:TypeId} {fr:Nat × Nat} {w':World} (hb:h.base≤j) (hm:μ[j]? = some (some m)) (he:m.esz=esz) (hf:Free E.room fr m.size)
  (hC:C'.size=m.size) (hw:w'.heap=(di w m.blk (.cells C' te fr)).heap) (h2:w'.os=w.os) (h3:w'.tape=w.tape) (h4:w'.output=w.output) (hn:n'≤cap) (hx:cap≤9223372036854775807) (hsz:m.base+o+cap*m.esz≤m.size) (hl:new.length=n'*esz)
  (hnew:∀ (k:Nat) (v':AVal),new[k]? = some v'→v'.isOne=true∧∃ u,C'[m.base+o+k]? = some u∧VRel E μ v' u) :
  Ends E μ w (.slice (some (h.size,0)) n' none) (h.puts [(j,.dead)] [.cells esz new]) (.returned (.slice (some ⟨m.blk,m.base+o,none⟩) n' cap)) w':=by
 have hlen:h.size=μ.length:=hr.len.symm;have hnl:n'*esz≤cap*m.esz:=by rw [he]; exact il _ hn
 have ho:ORel E (μ.set j none++[some ⟨m.blk,m.base+o,m.size,m.esz⟩]) h.base μ.length (di w m.blk (.cells C' te fr)) (.cells esz new):=by
  refine ⟨⟨m.blk,m.base+o,m.size,m.esz⟩,C',te,fr,?_,he,gb (hr.lt j m hm),hC,by rw [hl]; show m.base+o+_≤m.size; omega,fun k v' hk=>?_,fun _=>hf⟩
  ·rw [ak (by simp)]; simp
  ·obtain ⟨q1,u,q2,q3⟩:=hnew k v' hk;exact ⟨q1,u,q2,(q3.later (mf μ j)).later (ix _ _)⟩
 have ht:=hr.take (m':=⟨m.blk,m.base+o,m.size,m.esz⟩) hb hm rfl ho
 have hst:Step (fun _=>False) (h.puts [(j,.dead)] [.cells esz new]).wmin μ w (μ.set j none++[some ⟨m.blk,m.base+o,m.size,m.esz⟩]) (di w m.blk (.cells C' te fr)) :=
  Step.take (m':=⟨m.blk,m.base+o,m.size,m.esz⟩) (.cells C' te fr) hm rfl (gd _ _)
 refine ⟨_,μ.set j none++[some ⟨m.blk,m.base+o,m.size,m.esz⟩],rfl,hst.heap hw h2 h3 h4,?_,ht.same rfl rfl hw⟩;rw [hlen];simp only [VRel];refine ⟨_,cap,rfl,⟨by simp,hx⟩,fun _=>⟨some ⟨m.blk,m.base+o,m.size,m.esz⟩,by rw [ak (by simp)]; simp,fun m' hm'=>by cases hm'; rfl⟩,(fun k hk=>by cases hk),hn,fun m' hm'=>?_⟩;rw [ak (by simp)] at hm';simp at hm'; subst hm';simpa using hsz
theorem ends_new (hr:Rel E μ h w) {n' cap esz:Nat} {new:List AVal} {C':Array Value} {te:TypeId} {w':World} (ps:List (Nat × AObj)) (hps:ps=[]∨∃ j,ps=[(j,.dead)])
  (hw:w'.heap=w.heap.push (.cells C' te (0,0))) (h2:w'.os=w.os) (h3:w'.tape=w.tape) (h4:w'.output=w.output) (hn:n'≤cap) (hx:cap≤9223372036854775807) (hsz:cap*esz≤C'.size) (hl:new.length=n'*esz)
  (hnew:∀ (k:Nat) (v':AVal),new[k]? = some v'→v'.isOne=true∧∃ u,C'[k]? = some u∧VRel E μ v' u) :
  Ends E μ w (.slice (some (h.size,0)) n' none) (h.puts ps [.cells esz new]) (.returned (.slice (some ⟨w.heap.size,0,none⟩) n' cap)) w':=by
 have key:∀ (h1:Heap) (μ1:MM) (wm:Nat),Later μ μ1→Rel E μ1 h1 w→h1.size=h.size→wm≤h1.wmin→Step (fun _=>False) wm μ w μ1 w→h1.wmin=wm →
   Ends E μ w (.slice (some (h.size,0)) n' none) (h1.push (.cells esz new)) (.returned (.slice (some ⟨w.heap.size,0,none⟩) n' cap)) w':=by
  intro h1 μ1 wm hl1 hr1 hs1 hwm hst hwe;have hlen:h.size=μ1.length:=by rw [← hs1]; exact hr1.len.symm
  have hnl:n'*esz≤cap*esz:=il _ hn
  have ho:ORel E (μ1++[some ⟨w.heap.size,0,C'.size,esz⟩]) h1.base μ1.length { w with heap:=w.heap.push (.cells C' te (0,0)) } (.cells esz new):=by refine ⟨⟨w.heap.size,0,C'.size,esz⟩,C',te,(0,0),by simp,rfl,by simp,rfl,by show 0+new.length≤C'.size; rw [hl,eh]; exact dr hnl hsz,fun k v' hk=>?_,fun _ off _=>by simp⟩;obtain ⟨q1,u,q2,q3⟩:=hnew k v' hk;exact ⟨q1,u,by rw [eh]; exact q2,(q3.later hl1).later (ix _ _)⟩
  have hp:=hr1.push (.cells esz new) (.cells C' te (0,0)) ⟨w.heap.size,0,C'.size,esz⟩ rfl ho;have hs:Step (fun _=>False) (h1.push (.cells esz new)).wmin μ1 w (μ1++[some ⟨w.heap.size,0,C'.size,esz⟩]) { w with heap:=w.heap.push (.cells C' te (0,0)) }:=Step.push _ μ1 w _ _ (ai _);have hs2:=hst.trans hs (by show h1.wmin≤wm; omega);refine ⟨_,μ1++[some ⟨w.heap.size,0,C'.size,esz⟩],rfl,hs2.heap hw h2 h3 h4,?_,hp.same rfl rfl hw⟩;rw [hlen];exact om rfl hn (fun k hk=>by cases hk) hsz hx
 rcases hps with rfl | ⟨j,rfl⟩
 ·exact key h μ h.wmin (Later.refl _) hr rfl (ai _) (Step.refl _ _ _ _) rfl
 ·exact key (h.put j .dead) (μ.set j none) (min h.wmin j) (mf μ j) (hr.kill j) (by simp [Heap.put,Heap.size]) (ai _) (Step.kill μ w (gd _ _)) rfl
theorem push_set {α:Type} (a:Array α) (x y:α):(a.push x).setIfInBounds a.size y=a.push y:=by
 apply Array.ext_getElem?;intro i;by_cases e:a.size=i
 ·subst e; simp
 ·rw [d9 e,fh,fh,if_neg (Ne.symm e),if_neg (Ne.symm e)]
def strV (s:List UInt8):Value:=.string ⟨s.toArray⟩
theorem strs_val (cs:List (List UInt8)):∀ v ∈ cs.map strV,v.oneCell'=true:=fun v hv=>by rw [ep] at hv;obtain ⟨s,_,rfl⟩:=hv;rfl
def tg:List AVal→Heap→Option (AVal × List (Nat × AObj) × List AObj)
 | [.slice a n _,.int .i64 i,.slice (some (vi,vo)) m _],h =>
  match my a n h,my (some (vi,vo)) m h with
  | some cs,some vs =>
   if 0≤i∧i≤n∧0 < m∧(n+m)*16≤140737488355328∧h.base≤vi then
    match a with
    | none=>some (.slice (some (h.size,0)) (n+m) none,[],[.cells 1 ((cs.take i.toNat++vs++cs.drop i.toNat).map .str)])
    | some (j,_)=>if h.base≤j∧j≠vi∧rowIs h j 1=true then some (.slice (some (h.size,0)) (n+m) none,[(j,.dead)],[.cells 1 ((cs.take i.toNat++vs++cs.drop i.toNat).map .str)]) else none
   else none
  | _,_=>none
 | _,_=>none
theorem strV_get {l:List (List UInt8)} {k:Nat} {v:Value} (h:(l.map strV)[k]? = some v):∃ s,l[k]? = some s∧v=strV s:=by rw [db,ae] at h;obtain ⟨s,h1,h2⟩:=h;exact ⟨s,h1,h2.symm⟩
theorem strs_new {l:List (List UInt8)} {C:Array Value} {at':Nat} (hC:∀ (k:Nat) (s:List UInt8),l[k]? = some s→C[at'+k]? = some (strV s)):∀ (k:Nat) (v':AVal),(l.map AVal.str)[k]? = some v'→v'.isOne=true∧∃ u,C[at'+k]? = some u∧VRel E μ v' u:=fun k v' hk=>by rw [db,ae] at hk;obtain ⟨s,h1,rfl⟩:=hk;exact ⟨rfl,_,hC k s h1,by simp only [VRel]; rfl⟩
theorem ins_get {cs vs:List (List UInt8)} {i k:Nat} (hi:i≤cs.length):(cs.take i++vs++cs.drop i)[k]? = if k < i then cs[k]? else if k < i+vs.length then vs[k - i]? else cs[k - vs.length]?:=by
 have hl:(cs.take i).length=i:=by rw [List.length_take]; omega
 by_cases h1:k < i
 ·rw [if_pos h1,bl,ag (by omega),xp,if_pos h1]
 ·rw [if_neg h1];by_cases h2:k < i+vs.length
  ·rw [if_pos h2,ag (by rw [aq]; omega),ak (by omega),hl]
  ·rw [if_neg h2,ak (by rw [aq]; omega),aq,hl,ed];congr 1; omega
theorem insert_ok {ρ:Ren} (hroom1:E.room=1) (L:Lays2.n22 E.P ρ) {f:FuncId} {fn:Func} (hf:f=ρ.f 22) (hn:fn.name ≠ "runtime.NumGoroutine") (hb:fn.body.isSome=true):LibOK E f fn tg where
 name:=hn
 body:=hb
 run:=fun args h v ps xs e μ w args' ha hr=>by
  subst hf;unfold tg at e;split at e;case h_2=>cases e
  rename_i a n c i vi vo m vc;split at e;case h_2=>cases e
  rename_i cs vs hcs hvs;split at e;case isFalse=>cases e
  rename_i hh;obtain ⟨hi0,hin,hm,hbig,hbv⟩:=hh;obtain ⟨q,rfl⟩:=en hi0;simp only [rt] at e;simp only [VRels] at ha;obtain ⟨v1,r1,e1,q1,v2,r2,e2,q2,v3,r3,e3,q3,e4⟩:=ha;subst e4 e3 e2;have ha':args' = #[v1,v2,v3]:=by rw [← Array.toList_inj,e1]
  subst ha';simp only [VRel] at q2;subst q2;obtain ⟨vb,voff,vcap,hv3,hvl,hvcap,hvb,hvcells⟩:=uz hr q3 hvs (by omega);subst hv3
  have hvsc:∀ (j:Nat) (v:Value),(vs.map strV)[j]? = some v→w.cell? ⟨vb,voff+j,none⟩=some v:=fun j v hv=>by obtain ⟨s,s1,rfl⟩:=strV_get hv;exact hvcells j _ (by rw [db,s1]; rfl)
  have hqn:q≤n:=by omega
  have hvi:∃ cx,h.get vi=some (.cells 1 cx):=by
   unfold my at hvs;rw [if_neg (by omega)] at hvs;simp only at hvs;unfold Heap.get;cases hx:h.objs[vi]? with
   | none=>rw [hx] at hvs; cases hvs
   | some ob =>
    rw [hx] at hvs;cases ob with
    | cells ez cx =>
     split at hvs
     ·rename_i heq; cases heq; exact ⟨_,rfl⟩
     ·cases hvs
    | _=>cases hvs
  obtain ⟨cx,hvi⟩:=hvi;obtain ⟨mv,ccv,tev,frv,a1,a2,a3,a4,a5,a6,a7⟩:=hr.obj vi _ hvi
  have hvbm:vb=mv.blk:=by simp only [VRel] at q3;obtain ⟨ad,cap',g1,_,g2,_,g3,_⟩:=q3;obtain ⟨x,x1,x2⟩:=g2 (by omega);rw [a1] at x1; cases x1;have:=x2 mv rfl;subst this;cases g1;rfl
  have hfv:=a7 hbv
  have hfrz:∀ off,off≤mv.size→w.frozen? ⟨vb,off,none⟩=false:=fun off ho=>by have:=hfv off (by rw [hroom1]; omega);rw [hvbm];simp only [World.frozen?,a3];simpa using this
  have hvoff:voff < mv.size:=by
   obtain ⟨x,hx⟩:∃ x,(vs.map strV)[0]? = some x:=⟨_,ah (by rw [ge]; omega)⟩;have:=hvsc 0 x hx;rw [hvbm,jg a3] at this;rw [← a4];rcases bj voff ccv.size with h | h
   ·exact h
   ·rw [Array.getElem?_eq_none (by omega)] at this; cases this
  have h1v:=strs_val vs;have h1c:=strs_val cs;have hvll:(vs.map strV).length=m:=by rw [ge,hvl]
  have take:∀ {j oo:Nat} {cap:Nat} {mj:M} {cc:Array Value} {te:TypeId} {fr:Nat × Nat},h.base≤j→μ[j]? = some (some mj)→mj.esz=1→Free E.room fr mj.size→w.heap[mj.blk]? = some (.cells cc te fr)→cc.size=mj.size→(n+m≤cap∧cap≤9223372036854775807)→mj.base+oo+cap≤mj.size→cs.length=n →
    (∀ (k:Nat) (s:List UInt8),cs[k]? = some s→cc[mj.base+oo+k]? = some (strV s))→j≠vi →
    (∀ w':World,w'.heap=(di w mj.blk (.cells (ik (ik cc (mj.base+oo+(q+m)) ((cs.drop q).map strV)) (mj.base+oo+q) (vs.map strV)) te fr)).heap→w'.os=w.os→w'.tape=w.tape→w'.output=w.output →
     Ends E μ w (.slice (some (h.size,0)) (n+m) none) (h.puts [(j,.dead)] [.cells 1 ((cs.take q++vs++cs.drop q).map .str)]) (.returned (.slice (some ⟨mj.blk,mj.base+oo,none⟩) (n+m) cap)) w'):=by
   intro j oo cap mj cc te fr b1 b2 b3 b4 b5 b6 b7 b8 b9 b10 b11 w' w1 w2 w3 w4;have hdl:((cs.drop q).map strV).length=n - q:=by rw [ge,i7,b9]
   have hfit1:mj.base+oo+(q+m)+((cs.drop q).map strV).length≤cc.size:=by rw [hdl]; omega
   have hfit2:mj.base+oo+q+(vs.map strV).length≤(ik cc (mj.base+oo+(q+m)) ((cs.drop q).map strV)).size:=by rw [gr,hvll]; omega
   refine ends_take hr b1 b2 b3 b4 (by rw [gr,gr]; exact b6) w1 w2 w3 w4 b7.1 b7.2 (by rw [b3]; omega) (by simp; omega) (strs_new fun k s hk=>?_);rw [ins_get (by omega)] at hk;rw [lr _ _ _ _ hfit2,lr _ _ _ _ hfit1,hvll,hdl];split at hk
   ·rw [if_neg (by omega),if_neg (by omega)];exact b10 k s hk
   ·split at hk
    ·rw [if_pos (by omega),show mj.base+oo+k - (mj.base+oo+q)=k - q by omega,db,hk];rfl
    ·have:=aj hk;rw [if_neg (by omega),if_pos (by omega),show mj.base+oo+k - (mj.base+oo+(q+m))=k - (q+m) by omega,db,ed,show q+(k - (q+m))=k - vs.length by omega,hk];rfl
  have grow:∀ (psx:List (Nat × AObj)) (cap:Nat) (C:Array Value) (te:TypeId),(psx=[]∨∃ j,psx=[(j,.dead)])→(n+m≤cap∧cap≤9223372036854775807)→cap≤C.size→cs.length=n →
    (∀ (k:Nat) (s:List UInt8),(cs.take q++vs++cs.drop q)[k]? = some s→C[k]? = some (strV s)) →
    (∀ w':World,w'.heap=w.heap.push (.cells C te (0,0))→w'.os=w.os→w'.tape=w.tape→w'.output=w.output →
     Ends E μ w (.slice (some (h.size,0)) (n+m) none) (h.puts psx [.cells 1 ((cs.take q++vs++cs.drop q).map .str)]) (.returned (.slice (some ⟨w.heap.size,0,none⟩) (n+m) cap)) w'):=by
   intro psx cap C te b1 b2 b3 b4 b5 w' w1 w2 w3 w4;refine ends_new hr psx b1 w1 w2 w3 w4 b2.1 b2.2 (by simpa using b3) (by simp; omega) ?_;have:=strs_new (E:=E) (μ:=μ) (at':=0) (C:=C) fun k s hk=>by rw [eh]; exact b5 k s hk
   intro k v' hk;obtain ⟨g1,u,g2,g3⟩:=this k v' hk;exact ⟨g1,u,by rw [eh] at g2; exact g2,g3⟩
  have endgrow:∀ (base:Option Addr) (cap:Nat) (psx:List (Nat × AObj)),v1 = .slice base n cap→q=n→cs.length=n→(psx=[]∨∃ j,psx=[(j,.dead)])→n≤cap→cap < n+m→(base=none→n=0)→(∀ a,base=some a→∀ (j:Nat) (v:Value),(cs.map strV)[j]? = some v→w.cell? (a.add j)=some v) →
    Calls E.P (ρ.f 22) #[v1,.int .i64 (q:Int),.slice (some ⟨vb,voff,none⟩) m vcap] w (Ends E μ w (.slice (some (h.size,0)) (n+m) none) (h.puts psx [.cells 1 ((cs.take q++vs++cs.drop q).map .str)])):=by
   intro base cap psx b1 b2 b3 b4 b5 b6 b7 b8;subst b1;have:=Any2.slices_Insert_string_end_grow L base n cap vb voff m vcap (cs.map strV) (vs.map strV) w hm b5 b6 hbig (by rw [ge,b3]) hvll b7 b8 hvsc h1v;rw [show ((q:Nat):Int)=((n:Nat):Int) by omega];refine this.mono fun e w' ⟨g1,g2⟩=>?_
   subst g1 g2;have hg:n+m≤grownCap w (n+m) cap (ρ.t 9)∧grownCap w (n+m) cap (ρ.t 9)≤9223372036854775807:=⟨wu w (n+m) cap (ρ.t 9),grownCap_le_maxLen w (n+m) cap (ρ.t 9) (by show n+m≤9223372036854775807; omega)⟩;refine grow psx _ (((cs.map strV)++(vs.map strV)).toArray++Builtin.zeroCells (Value.string ⟨#[]⟩).cells (grownCap w (n+m) cap (ρ.t 9) - (n+m))) (ρ.t 9) b4 hg ?_ b3 (fun k s hk=>?_) _ ?_ ?_ ?_ ?_;rotate_left 2
   ·rfl
   ·rfl
   ·rfl
   ·rfl
   ·simp [Builtin.zeroCells,b3,hvl];have:(Value.string ⟨#[]⟩).cells.size=1:=rfl;rw [this];omega
   ·rw [b2,ff (by omega),br (by omega),cq] at hk;rw [nq (by have:=aj hk; simpa using this)];rw [List.getElem?_toArray,← jp,db,hk];rfl
  by_cases hn0:n=0
  ·-- nothing is there
   subst hn0;have hcl:cs=[]:=by simpa [my] using hcs.symm
   have hcl0:cs.length=0:=by rw [hcl]; rfl
   have hq:q=0:=by omega
   cases a with
   | none =>
    simp only at e;cases e;simp only [VRel] at q1;exact endgrow none 0 [] q1.2.2 hq hcl0 (.inl rfl) (ai _) (by omega) (fun _=>rfl) (fun a ha=>by cases ha)
   | some p =>
    obtain ⟨j,oo⟩:=p;simp only at e;split at e;case isFalse=>cases e
    rename_i hj;cases e;obtain ⟨hbj,hjv,hrow⟩:=hj;unfold rowIs at hrow;split at hrow;case h_2=>cases hrow
    rename_i e' csx hg;have he':e'=1:=by simpa using hrow
    subst he';obtain ⟨mj,cc,te,fr,k1,k2,k3,k4,k5,k6,k7⟩:=hr.obj j _ hg;simp only [VRel] at q1;obtain ⟨ad,cap,g1,g2,g3,g4,g5,g6⟩:=q1;by_cases hroom:0+m≤cap
    ·obtain ⟨x,x1,x2⟩:=g3 (by omega);rw [k1] at x1; cases x1;have:=x2 mj rfl;subst this;subst g1;have hs:=g6 mj k1;rw [k2,Nat.mul_one] at hs;have:=Any2.slices_Insert_string_end_room L mj.blk (mj.base+oo) 0 cap vb voff m vcap (vs.map strV) w hm hroom g2.2 hvll (fun i hi=>?_) (fun i hi=>?_) hvsc h1v
     ·subst hq;refine this.mono fun e w' ⟨g7,g8⟩=>?_
      subst g7;rw [jj,kb _ _ k3] at g8;subst g8;refine take hbj k1 k2 (k7 hbj) k3 k4 ⟨hroom,g2.2⟩ hs hcl0 (fun k s hk=>by rw [hcl] at hk; simp at hk) hjv _ ?_ rfl rfl rfl;rw [hcl];rfl
     ·rw [jg k3,j8 (by rw [k4]; omega)]; rfl
     ·have:=k7 hbj (mj.base+oo+0+i) (by omega);simp only [World.frozen?,k3];simpa using this
    ·exact endgrow (some ad) cap _ g1 hq hcl0 (.inr ⟨j,rfl⟩) (d7 _) (by omega) (fun h=>by cases h) (fun a ha j v hjv=>by rw [hcl] at hjv; simp at hjv)
  ·obtain ⟨bk,o,cap,hv1,hcl,hncap,hbk,hcells⟩:=uz hr q1 hcs hn0
   have hcsc:∀ (j:Nat) (v:Value),(cs.map strV)[j]? = some v→w.cell? ⟨bk,o+j,none⟩=some v:=fun j v hv=>by obtain ⟨s,s1,rfl⟩:=strV_get hv;exact hcells j _ (by rw [db,s1]; rfl)
   cases a with
   | none=>simp [my,hn0] at hcs
   | some p =>
    obtain ⟨j,oo⟩:=p;simp only at e;split at e;case isFalse=>cases e
    rename_i hj;cases e;obtain ⟨hbj,hjv,hrow⟩:=hj;unfold rowIs at hrow;split at hrow;case h_2=>cases hrow
    rename_i e' csx hg;have he':e'=1:=by simpa using hrow
    subst he';obtain ⟨mj,cc,te,fr,k1,k2,k3,k4,k5,k6,k7⟩:=hr.obj j _ hg;simp only [VRel] at q1;obtain ⟨ad,cap',g1,g2,g3,g4,g5,g6⟩:=q1;rw [hv1] at g1;cases g1;obtain ⟨x,x1,x2⟩:=g3 (by omega);rw [k1] at x1; cases x1;have hA:=x2 mj rfl;have hbk2:bk=mj.blk:=congrArg Addr.block hA;have ho2:o=mj.base+oo:=congrArg Addr.off hA;subst hbk2 ho2;subst hv1;have hs:=g6 mj k1;rw [k2,Nat.mul_one] at hs
    have hcc:∀ (k:Nat) (s:List UInt8),cs[k]? = some s→cc[mj.base+oo+k]? = some (strV s):=fun k s hk=>by have:=hcsc k (strV s) (by rw [db,hk]; rfl);rwa [jg k3] at this
    by_cases hroom:n+m≤cap
    ·have hsp:∀ i,i < n+m→(w.cell? ⟨mj.blk,mj.base+oo+i,none⟩).isSome=true:=fun i hi=>by rw [jg k3,j8 (by rw [k4]; omega)]; rfl
     have hfz:∀ i,i < n+m→w.frozen? ⟨mj.blk,mj.base+oo+i,none⟩=false:=fun i hi=>by have:=k7 hbj (mj.base+oo+i) (by omega);simp only [World.frozen?,k3];simpa using this
     by_cases hqe:q=n
     ·subst hqe;have:=Any2.slices_Insert_string_end_room L mj.blk (mj.base+oo) q cap vb voff m vcap (vs.map strV) w hm hroom g2.2 hvll (fun i hi=>by rw [bo]; exact hsp _ (by omega)) (fun i hi=>by rw [bo]; exact hfz _ (by omega)) hvsc h1v;refine this.mono fun e w' ⟨g7,g8⟩=>?_
      subst g7;rw [kb _ _ k3] at g8;subst g8;refine take hbj k1 k2 (k7 hbj) k3 k4 ⟨hroom,g2.2⟩ hs hcl hcc hjv _ ?_ rfl rfl rfl;rw [br (by omega)];rfl
     ·have hne:vb≠mj.blk:=by rw [hvbm]; exact fun e=>hr.sep j vi mj mv hjv hbj k1 a1 e.symm
      have:=Any2.slices_Insert_string_shift L mj.blk (mj.base+oo) n cap q vb voff m vcap (cs.map strV) (vs.map strV) w (by omega) hm hroom g2.2 hne (by rw [ge,hcl]) hvll hcsc hsp hfz hvsc h1c h1v
       tev te mv.size mj.size (by rw [hvbm]; simp only [World.shape?,a3]; rw [a4]) (by simp only [World.shape?,k3]; rw [k4]) (by omega) (hfrz voff (by omega)) (hfrz mv.size (ai _))
      refine this.mono fun e w' ⟨g7,g8⟩=>?_
      subst g7 g8;have e1:w.drew.setCells mj.blk (mj.base+oo+(q+m)) ((cs.map strV).drop q)=di w.drew mj.blk (.cells (ik cc (mj.base+oo+(q+m)) ((cs.map strV).drop q)) te fr):=kb _ _ k3;have e2:=kb (vs.map strV) (mj.base+oo+q) (gb (w:=w.drew) (o:=.cells (ik cc (mj.base+oo+(q+m)) ((cs.map strV).drop q)) te fr) (hr.lt j mj k1));rw [e1,e2,pe,← List.map_drop];exact take hbj k1 k2 (k7 hbj) k3 k4 ⟨hroom,g2.2⟩ hs hcl hcc hjv _ rfl rfl rfl rfl
    ·by_cases hqe:q=n
     ·exact endgrow _ cap _ rfl hqe hcl (.inr ⟨j,rfl⟩) hncap (by omega) (fun h=>by cases h) (fun a ha i v hi=>by cases ha; rw [nh]; exact hcsc i v hi)
     ·have:=Any2.slices_Insert_string_grow L mj.blk (mj.base+oo) n cap q vb voff m vcap (cs.map strV) (vs.map strV) w (by omega) hm hncap (by omega) hbig (by rw [ge,hcl]) hvll hcsc hvsc h1c h1v;refine this.mono fun e w' ⟨g7,g8⟩=>?_
      subst g7;have hg:n+m≤grownCap w (n+m) cap (ρ.t 9)∧grownCap w (n+m) cap (ρ.t 9)≤9223372036854775807:=⟨wu w (n+m) cap (ρ.t 9),grownCap_le_maxLen w (n+m) cap (ρ.t 9) (by show n+m≤9223372036854775807; omega)⟩;generalize hC0:((cs.map strV).take q).toArray++Builtin.zeroCells (Value.string ⟨#[]⟩).cells (n+m - q)++Builtin.zeroCells (Value.string ⟨#[]⟩).cells (grownCap w (n+m) cap (ρ.t 9) - (n+m))=C0 at g8
      have hC0s:C0.size=grownCap w (n+m) cap (ρ.t 9):=by rw [← hC0];have:(Value.string ⟨#[]⟩).cells.size=1:=rfl;simp [Builtin.zeroCells,this,hcl];omega
      have hC0g:∀ k,k < q→C0[k]? = (cs.map strV)[k]?:=fun k hk=>by
       have hlq:((cs.map strV).take q).length=q:=by rw [List.length_take,ge]; omega
       rw [← hC0,Array.append_assoc,nq (by simp [hlq]; omega),List.getElem?_toArray,xp,if_pos hk]
      have hal:(w.alloc (.cells C0 (ρ.t 9))).heap[w.heap.size]? = some (.cells C0 (ρ.t 9) (0,0)):=heap_alloc_new w _;have e1:=kb (vs.map strV) q (w:=(w.alloc (.cells C0 (ρ.t 9))).drew) hal;rw [e1] at g8;have hlt:w.heap.size < (w.alloc (.cells C0 (ρ.t 9))).drew.heap.size:=by show w.heap.size < (w.heap.push _).size; rw [Array.size_push]; exact Nat.lt_succ_self _
      have e2:=kb ((cs.map strV).drop q) (q+m) (w:=(di (w.alloc (.cells C0 (ρ.t 9))).drew w.heap.size (.cells (ik C0 q (vs.map strV)) (ρ.t 9) (0,0))).drew) (gb hlt);rw [e2] at g8;subst g8;refine grow _ _ (ik (ik C0 q (vs.map strV)) (q+m) ((cs.map strV).drop q)) (ρ.t 9) (.inr ⟨j,rfl⟩) hg (by rw [gr,gr,hC0s]; exact ai _) hcl (fun k s hk=>?_) _ ?_ rfl rfl rfl
      ·rw [ins_get (by omega)] at hk;have f1:q+(vs.map strV).length≤C0.size:=by rw [hvll,hC0s]; omega
       have f2:q+m+((cs.map strV).drop q).length≤(ik C0 q (vs.map strV)).size:=by rw [gr,hC0s,i7,ge]; omega
       rw [lr _ _ _ _ f2,lr _ _ _ _ f1,hvll,i7,ge,hcl];split at hk
       ·rw [if_neg (by omega),if_neg (by omega),hC0g k (by assumption),db,hk]; rfl
       ·split at hk
        ·rw [if_neg (by omega),if_pos (by omega),db,hk]; rfl
        ·have:=aj hk;rw [if_pos (by omega),ed,show q+(k - (q+m))=k - vs.length by omega,db,hk]; rfl
      ·show ((w.heap.push _).setIfInBounds w.heap.size _).setIfInBounds w.heap.size _=_
       rw [push_set,push_set]
end Go.Abs

namespace Go.Abs.Zt
open Go.Abs.Short
-- base: Zo
def code31:AFunc:=⟨false,false,1,15,[.tmp 2],
 S (R [0] [o 2 (.val F)])
 (S (R [2] [v 3 0,o 4 (.bin .neq (t 3) (Ks [])),v 5 4,g 6 5 true (Vl 0),g 7 5 true (.index (t 6) (n 0)),g 8 5 true (.bin .eql (t 7) (.const (.int .u8 76))),g 9 5 true (Vl 8),g 10 9 false (Vl 0),g 11 9 false (.index (t 10) (n 0)),g 12 9 false (.bin .eql (t 11) (.const (.int .u8 91))),g 13 5 true (.pick (t 9) Y (t 12)),o 14 (.pick (t 5) (t 13) F),v 2 14])
 (Z [2])),none⟩
def code32:AFunc:=⟨false,false,1,6,[.tmp 2],
 S (R [0] [o 2 (.val (Ks []))])
 (S (R [2] [v 3 0,o 4 (.bin .add (Ks [76]) (t 3)),o 5 (.bin .add (t 4) (Ks [59])),v 2 5])
 (Z [2])),none⟩
def code35:AFunc:=⟨false,false,1,13,[.tmp 2,.tmp 3],
 S (R [0] [o 2 (.val (Ks [])),o 3 (.val F)])
 (S (S (R [0,10] [v 4 0,o 5 (.bin .eql (t 4) (Ks [])),v 6 5,g 7 6 false (Vl 0),g 8 6 false (.index (t 7) (n 0)),g 9 6 false (.bin .neq (t 8) (.const (.int .u8 91))),o 10 (.pick (t 6) Y (t 9))])
 (.after (.cond (t 10) (S (R [2,3] [o 2 (.val (Ks [])),o 3 (.val F)])
 (Z [2,3])) (.skip)) [0]))
 (S (R [2,3] [v 11 0,o 12 (.slice .str (t 11) (some (n 1)) none none),v 2 12,o 3 (.val Y)])
 (Z [2,3]))),none⟩
def code235L0:ACode :=
 .live [2,3,43,44] (S (R [2,3,43,44,45] [o 45 (Bt .lss 44 43)])
 (S (.after (.cond (t 45) (.skip) (.live [] (.exit 2))) [2,3,43,44])
 (S (.after (.block 3 (S (R [2,3,6,43,44] [v 46 44,v 6 46])
 (S (.after (.region [⟨true,[],[o 47 (Fa 2 1),o 48 (Lq 47),v 49 6,o 50 (.iaddr 1 (t 48) (t 49)),o 51 (Lq 50),o 52 (Fa 3 1),o 53 (Lq 52),v 54 6,o 55 (.iaddr 1 (t 53) (t 54)),o 56 (Lq 55)]⟩,⟨false,[],[o 57 (Bt .neq 51 56)]⟩]) [2,3,43,44,57])
 (.after (.cond (t 57) (S (R [4] [o 4 (.val F)])
 (Z [4])) (.skip)) [2,3,43,44])))) [2,3,43,44])
 (R [2,3,43,44] [o 58 (Bn .add 44 1),v 44 58]))))
def code235L1:ACode :=
 .live [2,3,25,26] (S (R [2,3,25,26,27] [o 27 (Bt .lss 26 25)])
 (S (.after (.cond (t 27) (.skip) (.live [2,3] (.exit 0))) [2,3,25,26])
 (S (.after (.block 1 (S (R [2,3,5,25,26] [v 28 26,v 5 28])
 (S (.after (.region [⟨true,[],[o 29 (Fa 2 0),o 30 (Lq 29),v 31 5,o 32 (.iaddr 1 (t 30) (t 31)),o 33 (Lq 32),o 34 (Fa 3 0),o 35 (Lq 34),v 36 5,o 37 (.iaddr 1 (t 35) (t 36)),o 38 (Lq 37)]⟩,⟨false,[],[o 39 (Bt .neq 33 38)]⟩]) [2,3,25,26,39])
 (.after (.cond (t 39) (S (R [4] [o 4 (.val F)])
 (Z [4])) (.skip)) [2,3,25,26])))) [2,3,25,26])
 (R [2,3,25,26] [o 40 (Bn .add 26 1),v 26 40]))))
def code235:AFunc:=⟨false,false,2,59,[.tmp 4],
 S (R [2,3] [o 2 (.lbox (t 0)),o 3 (.lbox (t 1)),o 4 (.val F)])
 (S (S (R [2,3,22] [o 7 (Fa 2 0),o 8 (Lq 7),o 9 (Sl 8),o 10 (Fa 3 0),o 11 (Lq 10),o 12 (Sl 11),o 13 (Bt .neq 9 12),v 14 13,g 15 14 false (Fa 2 1),g 16 14 false (Lq 15),g 17 14 false (Sl 16),g 18 14 false (Fa 3 1),g 19 14 false (Lq 18),g 20 14 false (Sl 19),g 21 14 false (Bt .neq 17 20),o 22 (.pick (t 14) Y (t 21))])
 (.after (.cond (t 22) (S (R [4] [o 4 (.val F)])
 (Z [4])) (.skip)) [2,3]))
 (S (S (R [2,3,25,26] [o 23 (Fa 2 0),o 24 (Lq 23),o 25 (Sl 24),o 26 (.val (n 0))])
 (.after (.block 0 (.loop code235L1)) [2,3]))
 (S (S (R [2,3,43,44] [o 41 (Fa 2 1),o 42 (Lq 41),o 43 (Sl 42),o 44 (.val (n 0))])
 (.after (.block 2 (.loop code235L0)) []))
 (S (R [4] [o 4 (.val Y)])
 (Z [4]))))),none⟩
def code236L0:ACode :=
 .live [0,4,5,6,18,19,20] (S (R [0,4,5,6,18,19,20,21] [o 21 (Bt .lss 20 19)])
 (S (.after (.cond (t 21) (.skip) (.live [4,5,6] (.exit 0))) [0,4,5,6,18,19,20])
 (S (.after (.block 1 (S (R [0,4,5,6,9,18,19,20] [o 22 (.iaddr 1 (t 18) (t 20)),o 23 (Lq 22),v 9 23])
 (S (R [0,4,5,6,18,19,20,27] [v 24 0,v 25 9,o 26 (.callg 266 [t 24,t 25]),o 27 (.un .not (t 26))])
 (.after (.cond (t 27) (S (R [6,7] [o 28 (.build [.slice none 0 (some 0),.slice none 0 (some 0)] []),u (.store 2 (t 6) (t 28)),o 7 (.val (n 8))])
 (Z [6,7])) (.skip)) [0,4,5,6,18,19,20])))) [0,4,5,6,18,19,20])
 (R [0,4,5,6,18,19,20] [o 29 (Bn .add 20 1),v 20 29]))))
def code236R0:ACode :=
 .after (.region [⟨true,[0,0,2,7,0,16,63,127,0],[o 12 (.mkslice 1 0 [] []),o 13 (Fa 5 1),o 14 (Lq 13),o 15 (.append 1 16 (t 12) (t 14)),o 16 (Fa 5 2),o 17 (Lq 16),o 18 (.append 1 16 (t 15) (t 17)),o 19 (Sl 18),o 20 (.val (n 0))]⟩]) [0,4,5,6,18,19,20]
def code236R1:ACode :=
 .after (.region [⟨true,[0,1,3,0,8],[o 30 (Fa 5 1),o 31 (Lq 30),o 32 (.callg 100264 [t 31]),o 33 (Fa 5 2),o 34 (Lq 33)]⟩,⟨false,[],[o 35 (.callg 100264 [t 34]),v 10 32,v 11 35]⟩]) [4,6,10,11]
def code236:AFunc:=⟨false,false,3,56,[.cell 6 (some 2),.tmp 7],
 S (R [0,4,5,6] [o 4 (.lbox (t 1)),o 5 (.lbox (t 2)),o 6 (.lalloc [.slice none 0 (some 0),.slice none 0 (some 0)]),o 7 (.val (n 0))])
 (S (S (code236R0)
 (.after (.block 0 (.loop code236L0)) [4,5,6]))
 (S (code236R1)
 (S (S (R [4,6,10,11,47] [v 36 10,o 37 (Sl 36),o 38 (Fa 4 4),o 39 (Lq 38),o 40 (Bt .gtr 37 39),v 41 40,g 42 41 false (Vl 11),g 43 41 false (Sl 42),g 44 41 false (Fa 4 3),g 45 41 false (Lq 44),g 46 41 false (Bt .gtr 43 45),o 47 (.pick (t 41) Y (t 46))])
 (.after (.cond (t 47) (S (R [6,7] [o 48 (.build [.slice none 0 (some 0),.slice none 0 (some 0)] []),u (.store 2 (t 6) (t 48)),o 7 (.val (n 8))])
 (Z [6,7])) (.skip)) [4,6,10,11]))
 (S (R [6,7] [v 49 10,o 50 (Fa 4 4),o 51 (Lq 50),o 52 (.minmax false [t 51,n 300]),o 53 (.callg 263 [t 49,t 52]),v 54 11,o 55 (.build [.slice none 0 (some 0),.slice none 0 (some 0)] [(0,1,t 53),(1,1,t 54)]),u (.store 2 (t 6) (t 55)),o 7 (.val (n 0))])
 (Z [6,7]))))),none⟩
def code237:AFunc:=⟨false,false,3,49,[.cell 6 (some 2),.tmp 7],
 S (R [3,4,5,6] [o 3 (.box (t 0)),o 4 (.lbox (t 1)),o 5 (.lbox (t 2)),o 6 (.lalloc [.slice none 0 (some 0),.slice none 0 (some 0)]),o 7 (.val (n 0))])
 (S (R [4,5,6,8] [o 11 (.mkfunc 265 [] [t 3]),v 8 11])
 (S (.after (.region [⟨true,[0,1,3,0,8],[o 12 (Fa 5 1),o 13 (Lq 12),o 14 (.callg 100260 [t 13]),o 15 (Fa 5 2),o 16 (Lq 15)]⟩,⟨false,[],[o 17 (.callg 100260 [t 16]),v 9 14,v 10 17]⟩]) [4,5,6,8,9,10])
 (S (S (R [4,6,9,10,41] [o 18 (Fa 5 1),o 19 (Lq 18),v 20 8,o 21 (.callg 91 [t 19,t 20]),v 22 21,g 23 22 false (Fa 5 2),g 24 22 false (Lq 23),g 25 22 false (Vl 8),g 26 22 false (.callg 91 [t 24,t 25]),o 27 (.pick (t 22) Y (t 26)),v 28 27,g 29 28 false (Vl 9),g 30 28 false (Sl 29),g 31 28 false (Fa 4 4),g 32 28 false (Lq 31),g 33 28 false (Bt .gtr 30 32),o 34 (.pick (t 28) Y (t 33)),v 35 34,g 36 35 false (Vl 10),g 37 35 false (Sl 36),g 38 35 false (Fa 4 3),g 39 35 false (Lq 38),g 40 35 false (Bt .gtr 37 39),o 41 (.pick (t 35) Y (t 40))])
 (.after (.cond (t 41) (S (R [6,7] [o 42 (.build [.slice none 0 (some 0),.slice none 0 (some 0)] []),u (.store 2 (t 6) (t 42)),o 7 (.val (n 8))])
 (Z [6,7])) (.skip)) [4,6,9,10]))
 (S (R [6,7] [v 43 9,o 44 (Fa 4 4),o 45 (Lq 44),o 46 (.callg 261 [t 43,t 45]),v 47 10,o 48 (.build [.slice none 0 (some 0),.slice none 0 (some 0)] [(0,1,t 46),(1,1,t 47)]),u (.store 2 (t 6) (t 48)),o 7 (.val (n 0))])
 (Z [6,7]))))),none⟩
def code238:AFunc:=⟨false,false,2,44,[.cell 4 (some 2),.tmp 5],
 S (R [0,3,4] [o 3 (.lbox (t 1)),o 4 (.lalloc [.slice none 0 (some 0),.slice none 0 (some 0)]),o 5 (.val (n 0))])
 (S (R [0,3,4,6,8] [o 11 (Fa 3 2),o 12 (Lq 11),o 13 (.callg 37 [t 12]),v 10 13,o 14 (Xt 10 0),o 15 (Xt 10 1),o 16 (Xt 10 2),v 6 14,v 7 15,v 8 16])
 (S (S (R [0,3,4,6,8,18] [v 17 8,o 18 (Bn .neq 17 0)])
 (.after (.cond (t 18) (S (R [4,5] [o 19 (.build [.slice none 0 (some 0),.slice none 0 (some 0)] []),v 20 8,u (.store 2 (t 4) (t 19)),v 5 20])
 (Z [4,5])) (.skip)) [0,3,4,6]))
 (S (R [0,3,4,6,9] [o 9 (.val (.const (.slice none 0 (some 0))))])
 (S (S (R [0,3,4,6,9,23] [o 21 (Fa 3 0),o 22 (Lq 21),o 23 (.un .not (t 22))])
 (.after (.cond (t 23) (R [3,4,6,9] [v 24 0,o 25 (.bin .add (Ks [76]) (t 24)),o 26 (.bin .add (t 25) (Ks [59])),o 27 (.mkslice 1 1 [.str []] [(0,1,t 26)]),v 9 27]) (.skip)) [3,4,6,9]))
 (S (R [3,4,9] [v 28 9,v 29 6,o 30 (.callg 100264 [t 29]),o 31 (.append 1 16 (t 28) (t 30)),v 9 31])
 (S (S (R [3,4,9,36] [v 32 9,o 33 (Sl 32),o 34 (Fa 3 4),o 35 (Lq 34),o 36 (Bt .gtr 33 35)])
 (.after (.cond (t 36) (S (R [4,5] [o 37 (.build [.slice none 0 (some 0),.slice none 0 (some 0)] []),u (.store 2 (t 4) (t 37)),o 5 (.val (n 8))])
 (Z [4,5])) (.skip)) [3,4,9]))
 (S (R [4,5] [v 38 9,o 39 (Fa 3 4),o 40 (Lq 39),o 41 (.minmax false [t 40,n 300]),o 42 (.callg 263 [t 38,t 41]),o 43 (.build [.slice none 0 (some 0),.slice none 0 (some 0)] [(0,1,t 42)]),u (.store 2 (t 4) (t 43)),o 5 (.val (n 0))])
 (Z [4,5])))))))),none⟩
def code239:AFunc:=⟨false,false,2,42,[.cell 4 (some 2),.tmp 5],
 S (R [0,3,4] [o 3 (.lbox (t 1)),o 4 (.lalloc [.slice none 0 (some 0),.slice none 0 (some 0)]),o 5 (.val (n 0))])
 (S (R [0,3,4,6,8] [o 11 (Fa 3 2),o 12 (Lq 11),o 13 (.callg 38 [t 12]),v 10 13,o 14 (Xt 10 0),o 15 (Xt 10 1),o 16 (Xt 10 2),v 6 14,v 7 15,v 8 16])
 (S (S (R [0,3,4,6,8,18] [v 17 8,o 18 (Bn .neq 17 0)])
 (.after (.cond (t 18) (S (R [4,5] [o 19 (.build [.slice none 0 (some 0),.slice none 0 (some 0)] []),v 20 8,u (.store 2 (t 4) (t 19)),v 5 20])
 (Z [4,5])) (.skip)) [0,3,4,6]))
 (S (R [0,3,4,9] [v 21 6,o 22 (.callg 100260 [t 21]),v 9 22])
 (S (S (R [0,3,4,9,25] [o 23 (Fa 3 0),o 24 (Lq 23),o 25 (.un .not (t 24))])
 (.after (.cond (t 25) (R [3,4,9] [v 26 9,v 27 0,o 28 (.callg 32 [t 27]),o 29 (.mkslice 1 1 [.str []] [(0,1,t 28)]),o 30 (.callg 262 [t 26,n 0,t 29]),v 9 30]) (.skip)) [3,4,9]))
 (S (S (R [3,4,9,35] [v 31 9,o 32 (Sl 31),o 33 (Fa 3 4),o 34 (Lq 33),o 35 (Bt .gtr 32 34)])
 (.after (.cond (t 35) (S (R [4,5] [o 36 (.build [.slice none 0 (some 0),.slice none 0 (some 0)] []),u (.store 2 (t 4) (t 36)),o 5 (.val (n 8))])
 (Z [4,5])) (.skip)) [3,4,9]))
 (S (R [4,5] [v 37 9,o 38 (Fa 3 4),o 39 (Lq 38),o 40 (.callg 261 [t 37,t 39]),o 41 (.build [.slice none 0 (some 0),.slice none 0 (some 0)] [(0,1,t 40)]),u (.store 2 (t 4) (t 41)),o 5 (.val (n 0))])
 (Z [4,5]))))))),none⟩
def code240:AFunc:=⟨false,false,1,31,[.tmp 2,.tmp 3,.tmp 4],
 S (R [0] [o 2 (.val (.const (.ptr none))),o 3 (.val (.const (.slice none 0 (some 0)))),o 4 (.val F)])
 (S (R [5] [v 10 0,o 11 (.build [.slice none 0 (some 0),.int .i64 0] [(0,1,t 10)]),o 12 (.box (t 11)),o 13 (.callg 48 [t 12]),v 5 13])
 (S (R [5,6,7] [v 15 5,o 16 (.callg 49 [t 15]),v 14 16,o 17 (Xt 14 0),o 18 (Xt 14 1),v 6 17,v 7 18])
 (S (R [6,7,8,9] [v 20 5,o 21 (.callg 107 [t 20]),v 19 21,o 22 (Xt 19 0),o 23 (Xt 19 1),v 8 22,v 9 23])
 (S (R [2,3,4] [v 24 6,v 25 8,v 26 9,v 27 26,g 28 27 true (Vl 7),g 29 27 true (Bn .eql 28 0),o 30 (.pick (t 27) (t 29) F),v 2 24,v 3 25,v 4 30])
 (Z [2,3,4]))))),none⟩
def code241:AFunc:=⟨false,false,1,29,[.tmp 2],
 S (R [1] [o 1 (.lbox (t 0)),o 2 (.val F)])
 (S (R [2] [o 3 (Fa 1 4),o 4 (Lq 3),o 5 (Bn .leq 4 250),v 6 5,g 7 6 true (Fa 1 3),g 8 6 true (Lq 7),g 9 6 true (Bn .leq 8 250),o 10 (.pick (t 6) (t 9) F),v 11 10,g 12 11 true (Fa 1 2),g 13 11 true (Lq 12),g 14 11 true (.len .str (t 13)),g 15 11 true (Bn .lss 14 300),o 16 (.pick (t 11) (t 15) F),v 17 16,g 18 17 true (Fa 1 5),g 19 17 true (Lq 18),g 20 17 true (Sl 19),g 21 17 true (Bn .eql 20 0),o 22 (.pick (t 17) (t 21) F),v 23 22,g 24 23 true (Fa 1 1),g 25 23 true (Lq 24),g 26 23 true (.len .str (t 25)),g 27 23 true (Bn .lss 26 100),o 28 (.pick (t 23) (t 27) F),v 2 28])
 (Z [2])),none⟩
def code242L0:ACode :=
 .live [21,22,23] (S (R [21,22,23,24] [o 24 (Bt .lss 23 22)])
 (S (.after (.cond (t 24) (.skip) (.live [] (.exit 0))) [21,22,23])
 (S (.after (.block 1 (S (R [4,21,22,23] [o 25 (.iaddr 1 (t 21) (t 23)),o 26 (Lq 25),v 4 26])
 (S (R [21,22,23,29] [v 27 4,o 28 (.len .str (t 27)),o 29 (Bn .gtr 28 150)])
 (.after (.cond (t 29) (S (R [2] [o 2 (.val F)])
 (Z [2])) (.skip)) [21,22,23])))) [21,22,23])
 (R [21,22,23] [o 30 (Bn .add 23 1),v 23 30]))))
def code242R0:ACode :=
 .after (.region [⟨true,[0,0,2,7,0,16,63,127,0],[o 15 (.mkslice 1 0 [] []),o 16 (Fa 1 0),o 17 (Lq 16),o 18 (.append 1 16 (t 15) (t 17)),o 19 (Fa 1 1),o 20 (Lq 19),o 21 (.append 1 16 (t 18) (t 20)),o 22 (Sl 21),o 23 (.val (n 0))]⟩]) [21,22,23]
def code242:AFunc:=⟨false,false,1,31,[.tmp 2],
 S (R [1] [o 1 (.lbox (t 0)),o 2 (.val F)])
 (S (S (R [1,14] [o 5 (Fa 1 0),o 6 (Lq 5),o 7 (Sl 6),o 8 (Bn .gtr 7 100),v 9 8,g 10 9 false (Fa 1 1),g 11 9 false (Lq 10),g 12 9 false (Sl 11),g 13 9 false (Bn .gtr 12 100),o 14 (.pick (t 9) Y (t 13))])
 (.after (.cond (t 14) (S (R [2] [o 2 (.val F)])
 (Z [2])) (.skip)) [1]))
 (S (S (code242R0)
 (.after (.block 0 (.loop code242L0)) []))
 (S (R [2] [o 2 (.val Y)])
 (Z [2])))),none⟩
def code243:AFunc:=⟨true,false,0,78,[.tmp 0],
 S (R [] [o 0 (.val F)])
 (S (R [1,2] [o 9 (.build [.bool false,.str [],.str [],.int .i64 0,.int .i64 0,.slice none 0 (some 0),.slice none 0 (some 0),.slice none 0 (some 0)] [(2,1,Ks [40,74,41,86]),(4,1,n 4)]),o 10 (.callg 239 [Ks [65],t 9]),v 8 10,o 11 (Xt 8 0),o 12 (Xt 8 1),o 1 (.lalloc [.slice none 0 (some 0),.slice none 0 (some 0)]),u (.store 2 (t 1) (t 11)),v 2 12])
 (S (R [1,2,3] [o 13 (.mkslice 1 2 [.str [],.str []] [(0,1,Ks [74]),(1,1,Ks [73])]),o 14 (.callg 100260 [t 13]),v 3 14])
 (S (R [1,2,3,4,5] [o 16 (.load (some 2) (t 1)),o 17 (.callg 254 [t 16,Ks [73],n 1]),v 15 17,o 18 (Xt 15 0),o 19 (Xt 15 1),o 4 (.lalloc [.slice none 0 (some 0),.slice none 0 (some 0)]),u (.store 2 (t 4) (t 18)),v 5 19])
 (S (R [1,2,3,4,5,7] [o 21 (.load (some 2) (t 4)),o 22 (.callg 254 [t 21,Ks [73],n 1]),v 20 22,o 23 (Xt 20 0),o 24 (Xt 20 1),o 6 (.lalloc [.slice none 0 (some 0),.slice none 0 (some 0)]),u (.store 2 (t 6) (t 23)),v 7 24])
 (S (R [0] [v 25 2,o 26 (Bn .eql 25 0),v 27 26,g 28 27 true (Vl 3),g 29 27 true (Sl 28),g 30 27 true (Bn .eql 29 3),o 31 (.pick (t 27) (t 30) F),v 32 31,g 33 32 true (Vl 3),g 34 32 true (.iaddr 1 (t 33) (n 1)),g 35 32 true (Lq 34),g 36 32 true (.bin .eql (t 35) (Ks [45])),o 37 (.pick (t 32) (t 36) F),v 38 37,g 39 38 true (Fa 1 0),g 40 38 true (Lq 39),g 41 38 true (Sl 40),g 42 38 true (Bn .eql 41 4),o 43 (.pick (t 38) (t 42) F),v 44 43,g 45 44 true (Fa 1 0),g 46 44 true (Lq 45),g 47 44 true (.iaddr 1 (t 46) (n 0)),g 48 44 true (Lq 47),g 49 44 true (.bin .eql (t 48) (Ks [76,65,59])),o 50 (.pick (t 44) (t 49) F),v 51 50,g 52 51 true (Fa 1 0),g 53 51 true (Lq 52),g 54 51 true (.iaddr 1 (t 53) (n 2)),g 55 51 true (Lq 54),g 56 51 true (.bin .eql (t 55) (Ks [45])),o 57 (.pick (t 51) (t 56) F),v 58 57,g 59 58 true (Fa 1 0),g 60 58 true (Lq 59),g 61 58 true (.iaddr 1 (t 60) (n 3)),g 62 58 true (Lq 61),g 63 58 true (.bin .eql (t 62) (Ks [84])),o 64 (.pick (t 58) (t 63) F),v 65 64,g 66 65 true (Vl 5),o 67 (.pick (t 65) (t 66) F),v 68 67,g 69 68 true (Vl 7),g 70 68 true (.un .not (t 69)),o 71 (.pick (t 68) (t 70) F),v 72 71,g 73 72 true (Fa 4 1),g 74 72 true (Lq 73),g 75 72 true (Sl 74),g 76 72 true (Bn .eql 75 1),o 77 (.pick (t 72) (t 76) F),v 0 77])
 (Z [0])))))),none⟩
def code244:AFunc:=⟨false,false,4,97,[.tmp 8],
 S (R [0,1,6,7] [o 6 (.lbox (t 2)),o 7 (.lbox (t 3)),o 8 (.val F)])
 (S (S (R [0,1,6,7,21] [o 20 (.callg 243 []),o 21 (.un .not (t 20))])
 (.after (.cond (t 21) (S (R [8] [o 8 (.val F)])
 (Z [8])) (.skip)) [0,1,6,7]))
 (S (S (R [0,1,6,7,43] [v 22 0,o 23 (Sl 22),o 24 (Bn .gtr 23 100),v 25 24,g 26 25 false (.load (some 8) (t 6)),g 27 25 false (.callg 241 [t 26]),g 28 25 false (.un .not (t 27)),o 29 (.pick (t 25) Y (t 28)),v 30 29,g 31 30 false (Vl 1),g 32 30 false (.len .str (t 31)),g 33 30 false (Bn .gtr 32 100),o 34 (.pick (t 30) Y (t 33)),v 35 34,g 36 35 false (Fa 7 1),g 37 35 false (Lq 36),g 38 35 false (Fa 7 2),g 39 35 false (Lq 38),g 40 35 false (.build [.slice none 0 (some 0),.slice none 0 (some 0)] [(0,1,t 37),(1,1,t 39)]),g 41 35 false (.callg 242 [t 40]),g 42 35 false (.un .not (t 41)),o 43 (.pick (t 35) Y (t 42))])
 (.after (.cond (t 43) (S (R [8] [o 8 (.val Y)])
 (Z [8])) (.skip)) [0,1,6,7]))
 (S (R [1,6,7,9,10,11] [v 45 0,o 46 (.callg 240 [t 45]),v 44 46,o 47 (Xt 44 0),o 48 (Xt 44 1),o 49 (Xt 44 2),v 9 47,v 10 48,v 11 49])
 (S (R [1,6,7,9,10,11,12,13] [v 51 1,o 52 (.load (some 8) (t 6)),o 53 (.callg 239 [t 51,t 52]),v 50 53,o 54 (Xt 50 0),o 55 (Xt 50 1),o 12 (.lalloc [.slice none 0 (some 0),.slice none 0 (some 0)]),u (.store 2 (t 12) (t 54)),v 13 55])
 (S (R [6,7,9,10,11,12,13,14,15] [v 57 1,o 58 (.load (some 8) (t 6)),o 59 (.callg 238 [t 57,t 58]),v 56 59,o 60 (Xt 56 0),o 61 (Xt 56 1),o 14 (.lalloc [.slice none 0 (some 0),.slice none 0 (some 0)]),u (.store 2 (t 14) (t 60)),v 15 61])
 (S (R [6,7,10,11,12,13,14,15,16,17] [v 63 9,o 64 (.load (some 8) (t 6)),o 65 (.load (some 3) (t 7)),o 66 (.callg 237 [t 63,t 64,t 65]),v 62 66,o 67 (Xt 62 0),o 68 (Xt 62 1),o 16 (.lalloc [.slice none 0 (some 0),.slice none 0 (some 0)]),u (.store 2 (t 16) (t 67)),v 17 68])
 (S (R [11,12,13,14,15,16,17,18,19] [v 70 10,o 71 (.load (some 8) (t 6)),o 72 (.load (some 3) (t 7)),o 73 (.callg 236 [t 70,t 71,t 72]),v 69 73,o 74 (Xt 69 0),o 75 (Xt 69 1),o 18 (.lalloc [.slice none 0 (some 0),.slice none 0 (some 0)]),u (.store 2 (t 18) (t 74)),v 19 75])
 (S (R [8] [v 76 11,v 77 76,g 78 77 true (Vl 13),g 79 77 true (Vl 15),g 80 77 true (Bt .eql 78 79),o 81 (.pick (t 77) (t 80) F),v 82 81,g 83 82 true (.load (some 2) (t 12)),g 84 82 true (.load (some 2) (t 14)),g 85 82 true (.callg 235 [t 83,t 84]),o 86 (.pick (t 82) (t 85) F),v 87 86,g 88 87 true (Vl 17),g 89 87 true (Vl 19),g 90 87 true (Bt .eql 88 89),o 91 (.pick (t 87) (t 90) F),v 92 91,g 93 92 true (.load (some 2) (t 16)),g 94 92 true (.load (some 2) (t 18)),g 95 92 true (.callg 235 [t 93,t 94]),o 96 (.pick (t 92) (t 95) F),v 8 96])
 (Z [8]))))))))),none⟩
def code254:AFunc:=⟨false,false,3,38,[.cell 6 (some 2),.tmp 7],
 S (R [1,2,3,6] [o 3 (.lbox (t 0)),o 6 (.lalloc [.slice none 0 (some 0),.slice none 0 (some 0)]),o 7 (.val F)])
 (S (R [1,2,3,6,8] [v 9 1,o 10 (.mkslice 1 1 [.str []] [(0,1,t 9)]),o 11 (.callg 100260 [t 10]),v 8 11])
 (S (S (R [3,6,8,27] [v 12 1,o 13 (.bin .eql (t 12) (Ks [84])),v 14 13,g 15 14 false (Vl 1),g 16 14 false (.bin .eql (t 15) (Ks [45])),o 17 (.pick (t 14) Y (t 16)),v 18 17,g 19 18 false (Fa 3 1),g 20 18 false (Lq 19),g 21 18 false (Sl 20),g 22 18 false (Vl 8),g 23 18 false (Sl 22),g 24 18 false (Bt .add 21 23),g 25 18 false (Vl 2),g 26 18 false (Bt .gtr 24 25),o 27 (.pick (t 18) Y (t 26))])
 (.after (.cond (t 27) (S (R [6,7] [o 28 (.build [.slice none 0 (some 0),.slice none 0 (some 0)] []),u (.store 2 (t 6) (t 28)),o 7 (.val F)])
 (Z [6,7])) (.skip)) [3,6,8]))
 (S (.after (.region [⟨true,[0,1,3,0,8,0,56],[o 29 (Fa 3 0),o 30 (Lq 29),o 31 (.callg 273 [t 30]),o 32 (Fa 3 1),o 33 (Lq 32),v 34 8,o 35 (.mkslice 1 2 [.slice none 0 (some 0),.slice none 0 (some 0)] [(0,1,t 33),(1,1,t 34)])]⟩,⟨false,[],[o 36 (.callg 274 [t 35]),o 37 (.build [.slice none 0 (some 0),.slice none 0 (some 0)] [(0,1,t 31),(1,1,t 36)]),u (.store 2 (t 6) (t 37)),o 7 (.val Y)]⟩]) [6,7])
 (Z [6,7])))),none⟩
def code261L0:ACode :=
 .live [0,9,10] (S (R [0,9,10,11] [o 11 (Bt .lss 10 9)])
 (S (.after (.cond (t 11) (.skip) (.live [0] (.exit 0))) [0,9,10])
 (S (.after (.block 1 (R [0,9,10] [v 12 0,o 13 (.mkslice 1 1 [.str []] [(0,1,Ks [84])]),o 14 (.append 1 16 (t 12) (t 13)),v 0 14])) [0,9,10])
 (R [0,9,10] [o 15 (Bn .add 10 1),v 10 15]))))
def code261:AFunc:=⟨false,false,2,17,[.tmp 4],
 S (R [0,1] [o 4 (.val (.const (.slice none 0 (some 0))))])
 (S (S (R [0,9,10] [v 5 1,o 6 (.minmax false [t 5,n 300]),v 7 0,o 8 (Sl 7),o 9 (Bt .sub 6 8),o 10 (.val (n 0))])
 (.after (.block 0 (.loop code261L0)) [0]))
 (S (R [4] [v 16 0,v 4 16])
 (Z [4]))),none⟩
def code262:AFunc:=⟨false,false,0,0,[],.skip,some (.lib tg)⟩
def code263L0:ACode :=
 .live [0,1] (S (S (R [0,1,8] [v 5 0,o 6 (Sl 5),v 7 1,o 8 (Bt .lss 6 7)])
 (.after (.cond (t 8) (.skip) (.live [0] (.exit 0))) [0,1]))
 (.after (.block 1 (R [0,1] [v 9 0,o 10 (.mkslice 1 1 [.str []] [(0,1,Ks [84])]),o 11 (.append 1 16 (t 9) (t 10)),v 0 11])) [0,1]))
def code263:AFunc:=⟨false,false,2,13,[.tmp 4],
 S (R [0,1] [o 4 (.val (.const (.slice none 0 (some 0))))])
 (S (.after (.block 0 (.loop code263L0)) [0])
 (S (R [4] [v 12 0,v 4 12])
 (Z [4]))),none⟩
def code265:AFunc:=⟨false,false,2,29,[.tmp 3],
 S (R [0,1] [o 3 (.val F)])
 (S (R [3] [v 4 0,o 5 (.bin .neq (t 4) (Ks [84])),v 6 5,g 7 6 true (Vl 0),g 8 6 true (.bin .neq (t 7) (Ks [73])),o 9 (.pick (t 6) (t 8) F),v 10 9,g 11 10 true (Vl 0),g 12 10 true (.bin .neq (t 11) (Ks [74])),o 13 (.pick (t 10) (t 12) F),v 14 13,g 15 14 true (Vl 0),g 16 14 true (.bin .neq (t 15) (Ks [78])),o 17 (.pick (t 14) (t 16) F),v 18 17,g 19 18 true (Vl 0),g 20 18 true (.callg 27 [t 19]),g 21 18 true (Vl 20),g 22 21 true (Lq 1),g 23 21 true (Vl 0),g 24 21 true (Vl 0),g 25 21 true (.callg 47 [t 22,t 23,t 24]),g 26 18 true (.pick (t 21) (t 25) F),g 27 18 true (.un .not (t 26)),o 28 (.pick (t 18) (t 27) F),v 3 28])
 (Z [3])),none⟩
def code266:AFunc:=⟨false,false,2,27,[.tmp 4],
 S (R [0,1] [o 4 (.val F)])
 (S (S (R [0,1,18] [v 5 1,o 6 (.bin .eql (t 5) (Ks [84])),v 7 6,g 8 7 false (Vl 1),g 9 7 false (.bin .eql (t 8) (Ks [73])),o 10 (.pick (t 7) Y (t 9)),v 11 10,g 12 11 false (Vl 1),g 13 11 false (.bin .eql (t 12) (Ks [74])),o 14 (.pick (t 11) Y (t 13)),v 15 14,g 16 15 false (Vl 1),g 17 15 false (.bin .eql (t 16) (Ks [78])),o 18 (.pick (t 15) Y (t 17))])
 (.after (.cond (t 18) (S (R [4] [o 4 (.val Y)])
 (Z [4])) (.skip)) [0,1]))
 (S (R [4] [v 19 1,o 20 (.callg 28 [t 19]),v 21 20,g 22 21 true (Vl 0),g 23 21 true (Vl 1),g 24 21 true (Vl 1),g 25 21 true (.callg 268 [t 22,t 23,t 24]),o 26 (.pick (t 21) (t 25) F),v 4 26])
 (Z [4]))),none⟩
def code268:AFunc:=⟨false,false,3,84,[.tmp 6],
 S (R [0,1,2] [o 6 (.val F)])
 (S (R [0,1,2,7,8] [v 16 1,o 17 (.callg 33 [t 16]),v 15 17,o 18 (Xt 15 0),o 19 (Xt 15 1),v 7 18,v 8 19])
 (S (R [0,1,2,7,8,9,10] [v 21 2,o 22 (.callg 33 [t 21]),v 20 22,o 23 (Xt 20 0),o 24 (Xt 20 1),v 9 23,v 10 24])
 (S (S (R [0,1,2,7,8,9,10,34] [v 25 0,v 26 1,o 27 (.callg 159 [t 25,t 26]),o 28 (.un .not (t 27)),v 29 28,g 30 29 false (Vl 0),g 31 29 false (Vl 2),g 32 29 false (.callg 159 [t 30,t 31]),g 33 29 false (.un .not (t 32)),o 34 (.pick (t 29) Y (t 33))])
 (.after (.cond (t 34) (S (R [6] [o 6 (.val F)])
 (Z [6])) (.skip)) [0,1,2,7,8,9,10]))
 (S (S (R [0,1,2,7,8,9,10,37] [v 35 1,v 36 2,o 37 (Bt .eql 35 36)])
 (.after (.cond (t 37) (S (R [6] [o 6 (.val Y)])
 (Z [6])) (.skip)) [0,1,2,7,8,9,10]))
 (S (S (R [0,1,2,7,8,9,10,39] [v 38 1,o 39 (.bin .eql (t 38) (Ks [78]))])
 (.after (.cond (t 39) (S (R [6] [v 40 2,o 41 (.callg 31 [t 40]),v 6 41])
 (Z [6])) (.skip)) [0,1,2,7,8,9,10]))
 (S (S (R [0,1,2,7,9,10,45] [v 42 8,v 43 42,g 44 43 true (Vl 10),o 45 (.pick (t 43) (t 44) F)])
 (.after (.cond (t 45) (S (R [6] [v 46 0,v 47 7,v 48 9,o 49 (.callg 279 [t 46,t 47,t 48]),v 6 49])
 (Z [6])) (.skip)) [0,1,2,9,10]))
 (S (R [0,2,9,10,11,12] [v 51 1,o 52 (.callg 35 [t 51]),v 50 52,o 53 (Xt 50 0),o 54 (Xt 50 1),v 11 53,v 12 54])
 (S (R [0,9,10,11,12,13,14] [v 56 2,o 57 (.callg 35 [t 56]),v 55 57,o 58 (Xt 55 0),o 59 (Xt 55 1),v 13 58,v 14 59])
 (S (S (R [0,9,11,12,13,14,63] [v 60 12,v 61 60,g 62 61 true (Vl 10),o 63 (.pick (t 61) (t 62) F)])
 (.after (.cond (t 63) (S (R [6] [v 64 9,o 65 (.bin .eql (t 64) (Ks [79,98,106,101,99,116])),v 6 65])
 (Z [6])) (.skip)) [0,11,12,13,14]))
 (S (R [6] [v 66 12,v 67 66,g 68 67 true (Vl 14),o 69 (.pick (t 67) (t 68) F),v 70 69,g 71 70 true (Vl 11),g 72 70 true (.callg 31 [t 71]),o 73 (.pick (t 70) (t 72) F),v 74 73,g 75 74 true (Vl 13),g 76 74 true (.callg 31 [t 75]),o 77 (.pick (t 74) (t 76) F),v 78 77,g 79 78 true (Vl 0),g 80 78 true (Vl 11),g 81 78 true (Vl 13),g 82 78 true (.callg 268 [t 79,t 80,t 81]),o 83 (.pick (t 78) (t 82) F),v 6 83])
 (Z [6]))))))))))),none⟩
def code273:AFunc:=⟨false,false,1,8,[.tmp 2],
 S (R [0] [o 2 (.val (.const (.slice none 0 (some 0))))])
 (S (S (R [0,4] [v 3 0,o 4 (.eqnil .slice false (t 3) (.const (.slice none 0 (some 0))))])
 (.after (.cond (t 4) (S (R [2] [o 2 (.val (.const (.slice none 0 (some 0))))])
 (Z [2])) (.skip)) [0]))
 (S (R [2] [o 5 (.mkslice 1 0 [] []),v 6 0,o 7 (.append 1 16 (t 5) (t 6)),v 2 7])
 (Z [2]))),none⟩
def code274L0:ACode :=
 .live [6,25,26,27] (S (R [6,25,26,27,28] [o 28 (Bt .lss 27 26)])
 (S (.after (.cond (t 28) (.skip) (.live [6] (.exit 2))) [6,25,26,27])
 (S (.after (.block 3 (S (R [6,8,25,26,27] [o 29 (.iaddr 1 (t 25) (t 27)),o 30 (Lq 29),v 8 30])
 (R [6,25,26,27] [v 31 6,v 32 8,o 33 (.append 1 16 (t 31) (t 32)),v 6 33]))) [6,25,26,27])
 (R [6,25,26,27] [o 34 (Bn .add 27 1),v 27 34]))))
def code274L1:ACode :=
 .live [0,3,9,10,11] (S (R [0,3,9,10,11,12] [o 12 (Bt .lss 11 10)])
 (S (.after (.cond (t 12) (.skip) (.live [0,3] (.exit 0))) [0,3,9,10,11])
 (S (.after (.block 1 (S (R [0,3,5,9,10,11] [o 13 (.iaddr 1 (t 9) (t 11)),o 14 (Lq 13),v 5 14])
 (S (R [0,3,9,10,11] [v 15 3,v 16 5,o 17 (Sl 16),o 18 (Bt .add 15 17),v 3 18])
 (S (R [0,3,9,10,11,20] [v 19 3,o 20 (Bn .lss 19 0)])
 (.after (.cond (t 20) (R [0,3,9,10,11] [o 21 (.nextStr F),u (.nextStr F)]) (.skip)) [0,3,9,10,11]))))) [0,3,9,10,11])
 (R [0,3,9,10,11] [o 22 (Bn .add 11 1),v 11 22]))))
def code274:AFunc:=⟨false,false,1,36,[.tmp 2],
 S (R [0] [o 2 (.val (.const (.slice none 0 (some 0))))])
 (S (R [0,3] [o 3 (.val (n 0))])
 (S (S (R [0,3,9,10,11] [v 9 0,o 10 (Sl 9),o 11 (.val (n 0))])
 (.after (.block 0 (.loop code274L1)) [0,3]))
 (S (R [0,6] [v 23 3,o 24 (.callg 280 [.const (.slice none 0 (some 0)),t 23]),v 6 24])
 (S (S (R [6,25,26,27] [v 25 0,o 26 (Sl 25),o 27 (.val (n 0))])
 (.after (.block 2 (.loop code274L0)) [6]))
 (S (R [2] [v 35 6,v 2 35])
 (Z [2])))))),none⟩
def code279L0:ACode :=
 .live [2,11,12,13] (S (R [2,11,12,13,14] [o 14 (Bt .lss 13 12)])
 (S (.after (.cond (t 14) (.skip) (.live [] (.exit 0))) [2,11,12,13])
 (S (.after (.block 1 (S (R [2,8,11,12,13] [o 15 (.iaddr 4 (t 11) (t 13)),o 16 (.load (some 4) (t 15)),o 8 (.lalloc [.str [],.str [],.slice none 0 (some 0),.slice none 0 (some 0)]),u (.store 4 (t 8) (t 16))])
 (S (R [2,11,12,13,20] [o 17 (Fa 8 0),o 18 (Lq 17),v 19 2,o 20 (Bt .eql 18 19)])
 (.after (.cond (t 20) (S (R [6] [o 6 (.val Y)])
 (Z [6])) (.skip)) [2,11,12,13])))) [2,11,12,13])
 (R [2,11,12,13] [o 21 (Bn .add 13 1),v 13 21]))))
def code279:AFunc:=⟨false,false,3,22,[.tmp 6],
 S (R [0,1,2] [o 6 (.val F)])
 (S (S (R [2,11,12,13] [v 9 0,v 10 1,o 11 (.callg 112 [t 9,t 10]),o 12 (Sl 11),o 13 (.val (n 0))])
 (.after (.block 0 (.loop code279L0)) []))
 (S (R [6] [o 6 (.val F)])
 (Z [6]))),none⟩
def code280:AFunc:=⟨false,false,2,27,[.tmp 4],
 S (R [0,1] [o 4 (.val (.const (.slice none 0 (some 0))))])
 (S (S (R [0,1,6] [v 5 1,o 6 (Bn .lss 5 0)])
 (.after (.cond (t 6) (R [0,1] [o 7 (.nextStr F),u (.nextStr F)]) (.skip)) [0,1]))
 (S (S (R [0,1] [v 8 1,v 9 0,o 10 (.ext (.pure .cap) [t 9]),v 11 0,o 12 (Sl 11),o 13 (Bt .sub 10 12),o 14 (Bt .sub 8 13),v 1 14])
 (S (R [0,1,16] [v 15 1,o 16 (Bn .gtr 15 0)])
 (.after (.cond (t 16) (R [0] [v 17 0,v 18 0,o 19 (.ext (.pure .cap) [t 18]),o 20 (.slice (.sl 1) (t 17) none (some (t 19)) none),v 21 1,o 22 (.ext (.appz 1 16 [.str []]) [t 20,t 21]),v 23 0,o 24 (Sl 23),o 25 (.slice (.sl 1) (t 22) none (some (t 24)) none),v 0 25]) (.skip)) [0])))
 (S (R [4] [v 26 0,v 4 26])
 (Z [4])))),none⟩
def code100260L0:ACode :=
 .live [3,6,7,8] (S (R [3,6,7,8,9] [o 9 (Bt .lss 8 7)])
 (S (.after (.cond (t 9) (.skip) (.live [3] (.exit 0))) [3,6,7,8])
 (S (.after (.block 1 (S (R [3,5,6,7,8] [o 10 (.iaddr 1 (t 6) (t 8)),o 11 (Lq 10),v 5 11])
 (S (R [3,5,6,7,8] [v 12 3,v 13 5,o 14 (.mkslice 1 1 [.str []] [(0,1,t 13)]),o 15 (.append 1 16 (t 12) (t 14)),v 3 15])
 (S (R [3,6,7,8,17] [v 16 5,o 17 (.bin .eql (t 16) (Ks [74]))])
 (.after (.cond (t 17) (R [3,6,7,8] [v 18 3,o 19 (.mkslice 1 1 [.str []] [(0,1,Ks [45])]),o 20 (.append 1 16 (t 18) (t 19)),v 3 20]) (.skip)) [3,6,7,8]))))) [3,6,7,8])
 (R [3,6,7,8] [o 21 (Bn .add 8 1),v 8 21]))))
def code100260:AFunc:=⟨false,false,1,23,[.tmp 2],
 S (R [0] [o 2 (.val (.const (.slice none 0 (some 0))))])
 (S (R [0,3] [o 3 (.val (.const (.slice none 0 (some 0))))])
 (S (S (R [3,6,7,8] [v 6 0,o 7 (Sl 6),o 8 (.val (n 0))])
 (.after (.block 0 (.loop code100260L0)) [3]))
 (S (R [2] [v 22 3,v 2 22])
 (Z [2])))),none⟩
def code100264L0:ACode :=
 .live [3,6,7,8] (S (R [3,6,7,8,9] [o 9 (Bt .lss 8 7)])
 (S (.after (.cond (t 9) (.skip) (.live [3] (.exit 0))) [3,6,7,8])
 (S (.after (.block 1 (S (R [3,5,6,7,8] [o 10 (.iaddr 1 (t 6) (t 8)),o 11 (Lq 10),v 5 11])
 (S (R [3,5,6,7,8] [v 12 3,v 13 5,o 14 (.mkslice 1 1 [.str []] [(0,1,t 13)]),o 15 (.append 1 16 (t 12) (t 14)),v 3 15])
 (S (R [3,6,7,8,17] [v 16 5,o 17 (.bin .eql (t 16) (Ks [74]))])
 (.after (.cond (t 17) (R [3,6,7,8] [v 18 3,o 19 (.mkslice 1 1 [.str []] [(0,1,Ks [45])]),o 20 (.append 1 16 (t 18) (t 19)),v 3 20]) (.skip)) [3,6,7,8]))))) [3,6,7,8])
 (R [3,6,7,8] [o 21 (Bn .add 8 1),v 8 21]))))
def code100264:AFunc:=⟨false,false,1,23,[.tmp 2],
 S (R [0] [o 2 (.val (.const (.slice none 0 (some 0))))])
 (S (R [0,3] [o 3 (.val (.const (.slice none 0 (some 0))))])
 (S (S (R [3,6,7,8] [v 6 0,o 7 (Sl 6),o 8 (.val (n 0))])
 (.after (.block 0 (.loop code100264L0)) [3]))
 (S (R [2] [v 22 3,v 2 22])
 (Z [2])))),none⟩
def T:Nat→Option AFunc:=fun g=>match Zo.T g with
 | some f=>some f
 | none=>List.lookup g [(31,code31),(32,code32),(35,code35),(235,code235),(236,code236),(237,code237),(238,code238),(239,code239),(240,code240),(241,code241),(242,code242),(243,code243),(244,code244),(254,code254),(261,code261),(262,code262),(263,code263),(265,code265),(266,code266),(268,code268),(273,code273),(274,code274),(279,code279),(280,code280),(100260,code100260),(100264,code100264)]
theorem sub:∀ g f,Zo.T g=some f→T g=some f:=fun g f h=>by unfold T; rw [h]
theorem t31:T 31=some code31:=rfl
theorem t32:T 32=some code32:=rfl
theorem t35:T 35=some code35:=rfl
theorem t235:T 235=some code235:=rfl
theorem t236:T 236=some code236:=rfl
theorem t237:T 237=some code237:=rfl
theorem t238:T 238=some code238:=rfl
theorem t239:T 239=some code239:=rfl
theorem t240:T 240=some code240:=rfl
theorem t241:T 241=some code241:=rfl
theorem t242:T 242=some code242:=rfl
theorem t243:T 243=some code243:=rfl
theorem t244:T 244=some code244:=rfl
theorem t254:T 254=some code254:=rfl
theorem t261:T 261=some code261:=rfl
theorem t262:T 262=some code262:=rfl
theorem t263:T 263=some code263:=rfl
theorem t265:T 265=some code265:=rfl
theorem t266:T 266=some code266:=rfl
theorem t268:T 268=some code268:=rfl
theorem t273:T 273=some code273:=rfl
theorem t274:T 274=some code274:=rfl
theorem t279:T 279=some code279:=rfl
theorem t280:T 280=some code280:=rfl
theorem t100260:T 100260=some code100260:=rfl
theorem t100264:T 100264=some code100264:=rfl
end Go.Abs.Zt

namespace Go.Abs.Zd
variable {os:List AObj} {b w:Nat}
def wordN (n:Nat):Bool:=(decide (97≤n) && decide (n≤122)) || (decide (65≤n) && decide (n≤90)) || (decide (48≤n) && decide (n≤57)) || decide (n=95) || decide (n=36)
theorem s226 {s:List UInt8} {c:Int} {h:Heap}:xCall T 226 [.str s,.int .u8 c] h=some (.int .i64 (Lib.indexByte s c.toNat.toUInt8),h):=by obtain ⟨os,b,w⟩:=h;simp [du T t226,code226,evPrim]
theorem s205 {s:List UInt8} {c:UInt8} {h:Heap}:xCall T 205 [.str s,.str [c]] h=some (.int .i64 (Lib.indexByte s c),h):=by
 obtain ⟨os,b,w⟩:=h;by_cases e:[c]=s
 ·subst e;simp [du T t205,code205,s226,inBounds,Lib.indexByte]
 ·simp [du T t205,code205,s226,inBounds,e]
theorem s173 {s:List UInt8} {c:UInt8} {h:Heap}:xCall T 173 [.str s,.str [c]] h=some (.int .i64 (Lib.indexByte s c),h):=by obtain ⟨os,b,w⟩:=h;simp [du T t173,code173,s205]
theorem s174 {s:List UInt8} {c:UInt8} {h:Heap}:xCall T 174 [.str s,.str [c]] h=some (.int .i64 (Lib.countByte s c),h):=by obtain ⟨os,b,w⟩:=h;simp [du T t174,code174,evPrim,inBounds]
theorem s146 {n:Nat} {h:Heap}:xCall T 146 [.int .u8 n] h=some (.bool (!wordN n),h):=by
 obtain ⟨os,b,w⟩:=h;by_cases c1:97≤n <;> by_cases c2:n≤122
 ·have d1:(97:Int)≤n:=by omega
  have d2:(n:Int)≤122:=by omega
  simp [du T t146,code146,wordN,c1,c2,d1,d2]
 all_goals
  by_cases c3:65≤n <;> by_cases c4:n≤90 <;> by_cases c5:48≤n <;> by_cases c6:n≤57 <;> (try (exfalso; omega)) <;> by_cases c7:n=95 <;> (try (exfalso; omega)) <;> by_cases c8:n=36 <;> (try (exfalso; omega))
  all_goals
   have e1:((97:Int)≤n)=(97≤n):=by apply propext; omega
   have e2:((n:Int)≤122)=(n≤122):=by apply propext; omega
   have e3:((65:Int)≤n)=(65≤n):=by apply propext; omega
   have e4:((n:Int)≤90)=(n≤90):=by apply propext; omega
   have e5:((48:Int)≤n)=(48≤n):=by apply propext; omega
   have e6:((n:Int)≤57)=(n≤57):=by apply propext; omega
   have e7:((n:Int)=95)=(n=95):=by apply propext; omega
   have e8:((n:Int)=36)=(n=36):=by apply propext; omega
   simp [du T t146,code146,wordN,e1,e2,e3,e4,e5,e6,e7,e8,c1,c2,c3,c4,c5,c6,c7,c8]
end Go.Abs.Zd

namespace Go.Abs.Zd
variable {os:List AObj} {b w:Nat}
def firstIx {α:Type} (p:α→Bool):List α→Nat→Int
 | [],_=>-1
 | x :: l,i=>if p x then i else firstIx p l (i+1)
theorem s6 {α:Type} (p:α→Bool):∀ (l:List α) (i:Nat),(decide (0≤firstIx p l i))=l.any p
 | [],i=>by simp [firstIx]
 | x :: l,i=>by
  simp only [firstIx,List.any_cons];by_cases h:p x=true
  ·simp [h]
  ·simp only [Bool.not_eq_true] at h;simp [h,s6 p l (i+1)]
theorem pm {α:Type} (p:α→Bool):∀ (l:List α) (i:Nat),(∀ x ∈ l,p x=false)→firstIx p l i = -1
 | [],_,_=>rfl
 | x :: l,i,h=>by simp only [firstIx,h x (bi ..),am,if_false];exact pm p l (i+1) fun y hy=>h y (bu _ hy)
theorem s7 {α:Type} (p:α→Bool):∀ (l:List α) (i j:Nat) (x:α),l[j]? = some x→p x=true→(∀ k,k < j→∀ y,l[k]? = some y→p y=false)→firstIx p l i=(i+j:Nat)
 | [],i,j,x,h,_,_=>by simp at h
 | y :: l,i,0,x,h,hp,_=>by simp at h; subst h;simp [firstIx,hp]
 | y :: l,i,j+1,x,h,hp,hb=>by have h0:=hb 0 (by omega) y rfl;simp only [firstIx,h0,am,if_false];rw [s7 p l (i+1) j x (by simpa using h) hp (fun k hk z hz=>hb (k+1) (by omega) z (by simpa using hz))];congr 1; omega
theorem uu {T:Nat→Option AFunc} {α:Type} {c:ACode} (p:α→Bool) (L:List α) (st:Nat→St) (out:Nat→St) (e1 e2:AExit) (fin:St)
  (hs:∀ (i:Nat) x,L[i]? = some x→ip T c (st i)=some (if p x then (e1,out i) else (.normal,st (i+1)))) (h1:e1 ≠ .normal) (h2:e2 ≠ .normal) (hx:ip T c (st L.length)=some (e2,fin)) :
  (L.any p=false∧ip T (.loop c) (st 0)=some (e2,fin))∨∃ (j:Nat) (x:α),L[j]? = some x∧p x=true∧(∀ k,k < j→∀ y,L[k]? = some y→p y=false)∧ip T (.loop c) (st 0)=some (e1,out j):=by
 rcases first_bad (fun x=>p x=false) L with h | ⟨j,x,h3,h4,h5⟩
 ·left;refine ⟨by rw [zn]; exact fun x hx=>by simp [h x hx],?_⟩;refine za9 st L.length (fun i hi=>?_) h2 hx;obtain ⟨x,hx⟩:∃ x,L[i]? = some x:=⟨_,ah hi⟩;rw [hs i x hx,h x (bq hx)];rfl
 ·right;simp only [Bool.not_eq_false] at h4;refine ⟨j,x,h3,h4,h5,?_⟩;refine za9 st j (fun i hi=>?_) h1 (by rw [hs j x h3,h4]; rfl);obtain ⟨y,hy⟩:∃ y,L[i]? = some y:=⟨_,ah (Nat.lt_trans hi (vt h3))⟩;rw [hs i y hy,h5 i hi y hy];rfl
def og (c:UInt8):List AVal:=[.int .u8 c.toNat]
def strCell (s:List UInt8):List AVal:=[.str s]
theorem s176 {L:List UInt8} {a:Option (Nat × Nat)} {c:Option Nat} {g:Nat} {p:UInt8→Bool} (hR:Row os 1 og L a) (hn:L.length≤9223372036854775807)
  (hg:∀ (x:UInt8) (w:Nat),xCall T g [.int .u8 x.toNat] ⟨os,b,w⟩=some (.bool (p x),⟨os,b,w⟩)) :
  xCall T 176 [.slice a L.length c,.func g [] []] ⟨os,b,w⟩=some (.int .i64 (firstIx p L 0),⟨os,b,w⟩):=by
 have hl:=uu (T:=T) (c:=code176L0) p L (fun i=>⟨[(0,.val (.slice a L.length c)),(1,.val (.func g [] [])),(7,.val (.int .i64 L.length)),(8,.val (.int .i64 i))],⟨os,b,os.length⟩⟩)
  (fun i=>⟨[(4,.val (.int .i64 i))],⟨os,b,os.length⟩⟩) .ret (.exit 0) ⟨[],⟨os,b,os.length⟩⟩ ?_ (by simp) (by simp) (by simp [code176L0])
 ·rcases hl with ⟨h1,h2⟩ | ⟨j,x,h1,h2,h3,h4⟩
  ·rw [zn] at h1;rw [pm p L 0 fun x hx=>by simpa using h1 x hx];simp only [bh] at h2;simp [du T t176,code176,h2]
  ·rw [s7 p L 0 j x h1 h2 h3];simp only [bh] at h4;simp [du T t176,code176,h4]
 ·intro i x hx;obtain ⟨bb,o,cs,rfl,hrow,hpart⟩:=hR.at' (rg hx);obtain ⟨p1,p2⟩:=hpart i x hx;have hw:=pq (vt hx) hn;have hi':(i:Int) < (L.length:Int):=by have:=vt hx; omega
  have hge:(0:Int)≤i:=by omega
  have q3:(List.take 1 (List.drop (o+i*1) cs))[0]? = some (.int .u8 x.toNat):=by rw [p2]; rfl
  have q4:cs[o+i]? = some (.int .u8 x.toNat):=by simpa using q3
  by_cases hp:p x=true
  ·simp [code176L0,hi',hge,hrow,q4,hg,hp]
  ·simp [code176L0,hi',hge,hrow,q4,hg,hp,hw]
theorem s142 {L:List (List UInt8)} {a:Option (Nat × Nat)} {c:Option Nat} {g:Nat} {p:List UInt8→Bool} (hR:Row os 1 strCell L a) (hn:L.length≤9223372036854775807)
  (hg:∀ x ∈ L,∀ (w:Nat),xCall T g [.str x] ⟨os,b,w⟩=some (.bool (p x),⟨os,b,w⟩)) :
  xCall T 142 [.slice a L.length c,.func g [] []] ⟨os,b,w⟩=some (.int .i64 (firstIx p L 0),⟨os,b,w⟩):=by
 have hl:=uu (T:=T) (c:=code142L0) p L (fun i=>⟨[(0,.val (.slice a L.length c)),(1,.val (.func g [] [])),(7,.val (.int .i64 L.length)),(8,.val (.int .i64 i))],⟨os,b,os.length⟩⟩)
  (fun i=>⟨[(4,.val (.int .i64 i))],⟨os,b,os.length⟩⟩) .ret (.exit 0) ⟨[],⟨os,b,os.length⟩⟩ ?_ (by simp) (by simp) (by simp [code142L0])
 ·rcases hl with ⟨h1,h2⟩ | ⟨j,x,h1,h2,h3,h4⟩
  ·rw [zn] at h1;rw [pm p L 0 fun x hx=>by simpa using h1 x hx];simp only [bh] at h2;simp [du T t142,code142,h2]
  ·rw [s7 p L 0 j x h1 h2 h3];simp only [bh] at h4;simp [du T t142,code142,h4]
 ·intro i x hx;obtain ⟨bb,o,cs,rfl,hrow,hpart⟩:=hR.at' (rg hx);obtain ⟨p1,p2⟩:=hpart i x hx;have hw:=pq (vt hx) hn;have hi':(i:Int) < (L.length:Int):=by have:=vt hx; omega
  have hge:(0:Int)≤i:=by omega
  have q3:(List.take 1 (List.drop (o+i*1) cs))[0]? = some (.str x):=by rw [p2]; rfl
  have q4:cs[o+i]? = some (.str x):=by simpa using q3
  have hgx:=hg x (bq hx);by_cases hp:p x=true
  ·simp [code142L0,hi',hge,hrow,q4,hgx,hp]
  ·simp [code142L0,hi',hge,hrow,q4,hgx,hp,hw]
theorem s145 {L:List UInt8} {a:Option (Nat × Nat)} {c:Option Nat} {g:Nat} {p:UInt8→Bool} (hR:Row os 1 og L a) (hn:L.length≤9223372036854775807)
  (hg:∀ (x:UInt8) (w:Nat),xCall T g [.int .u8 x.toNat] ⟨os,b,w⟩=some (.bool (p x),⟨os,b,w⟩)) :
  xCall T 145 [.slice a L.length c,.func g [] []] ⟨os,b,w⟩=some (.bool (L.any p),⟨os,b,w⟩):=by
 have h:=s176 (w:=os.length) (c:=c) hR hn hg;have h2:=s6 p L 0;simp [du T t145,code145,h,h2]
theorem s91 {L:List (List UInt8)} {a:Option (Nat × Nat)} {c:Option Nat} {g:Nat} {p:List UInt8→Bool} (hR:Row os 1 strCell L a) (hn:L.length≤9223372036854775807)
  (hg:∀ x ∈ L,∀ (w:Nat),xCall T g [.str x] ⟨os,b,w⟩=some (.bool (p x),⟨os,b,w⟩)) :
  xCall T 91 [.slice a L.length c,.func g [] []] ⟨os,b,w⟩=some (.bool (L.any p),⟨os,b,w⟩):=by
 have h:=s142 (w:=os.length) (c:=c) hR hn hg;have h2:=s6 p L 0;simp [du T t91,code91,h,h2]
theorem za8:∀ s:List UInt8,(s.map fun c=>AVal.int .u8 c.toNat)=s.flatMap og
 | []=>rfl
 | c :: s=>by rw [b0,cj,za8 s];rfl
def wordL (s:List UInt8):Bool:=!s.isEmpty && s.all fun c=>wordN c.toNat
theorem any_not {α:Type} (p:α→Bool):∀ l:List α,(l.any fun x=>!p x) = !l.all p
 | []=>rfl
 | x :: l=>by rw [List.any_cons,dz,any_not p l,Bool.not_and]
theorem s144 {s:List UInt8} (hn:s.length≤9223372036854775807):xCall T 144 [.str s] ⟨os,b,w⟩=some (.bool (wordL s),⟨os,b,w⟩):=by
 have h:=fun w=>s145 (os:=os++[.cells 1 (s.map fun c=>AVal.int .u8 c.toNat)]) (b:=b) (w:=w) (L:=s) (a:=some (os.length,0)) (c:=none) (g:=146) (p:=fun x=>!wordN x.toNat)
  (Row.mk0 (fun _=>rfl) (by rw [← za8]; simp)) hn (fun x w=>s146)
 by_cases e:s=[]
 ·subst e;simp [du T t144,code144,wordL]
 ·have he:s.isEmpty=false:=by cases s <;> simp_all
  simp [du T t144,code144,wordL,h,e,he,any_not,hn]
theorem s92 {s:List UInt8} (hn:s.length≤9223372036854775807):xCall T 92 [.str s] ⟨os,b,w⟩=some (.bool (!wordL s),⟨os,b,w⟩):=by
 have h:=fun w=>s144 (os:=os) (b:=b) (w:=w) hn
 simp [du T t92,code92,h]
end Go.Abs.Zd

namespace Go.Abs.Zd
variable {os:List AObj} {b w:Nat}
def parts (c:UInt8):List UInt8→List (List UInt8)
 | []=>[[]]
 | x :: r=>if x == c then [] :: parts c r else match parts c r with
  | p :: ps=>(x :: p) :: ps
  | []=>[[x]]
theorem za7 (c:UInt8):∀ s,parts c s≠[]
 | []=>by simp [parts]
 | x :: r=>by
  simp only [parts];split
  ·simp
  ·split <;> simp
theorem pk (c:UInt8):∀ s,(parts c s).length=Lib.countByte s c+1
 | []=>rfl
 | x :: r=>by
  have ih:=pk c r;simp only [parts,Lib.countByte,List.count_cons] at ih ⊢;split
  ·rw [bg,ih]
  ·split
   ·rename_i p ps hp;rw [hp] at ih;simpa using ih
   ·rename_i hp;exact absurd hp (za7 c r)
theorem sy {c:UInt8}:∀ {s:List UInt8},Lib.indexByte s c < 0→parts c s=[s]
 | [],_=>rfl
 | x :: r,h=>by
  unfold Lib.indexByte at h;simp only [parts];split at h
  ·omega
  ·rename_i hx;rw [if_neg hx]
   have:Lib.indexByte r c < 0:=by
    split at h
    ·rename_i e; simp at e; omega
    ·have:=Lib.indexByte_ge r c; rename_i e; simp at e; omega
   rw [sy this]
theorem s4 {c:UInt8}:∀ {s:List UInt8} {k:Nat},Lib.indexByte s c=k→k < s.length∧parts c s=s.take k :: parts c (s.drop (k+1))
 | [],k,h=>by simp [Lib.indexByte] at h
 | x :: r,k,h=>by
  unfold Lib.indexByte at h;simp only [parts];split at h
  ·rename_i hx;have:k=0:=by omega
   subst this;rw [if_pos hx];simp
  ·rename_i hx;rw [if_neg hx];have hge:=Lib.indexByte_ge r c;split at h
   ·omega
   ·cases k with
    | zero=>rename_i e; simp at e; omega
    | succ k =>
     obtain ⟨h1,h2⟩:=s4 (s:=r) (k:=k) (c:=c) (by omega);rw [h2];simp [h1]
def rest (c:UInt8) (s:List UInt8):Nat→List UInt8
 | 0=>s
 | i+1=>(rest c s i).drop ((Lib.indexByte (rest c s i) c).toNat+1)
theorem s5 {c:UInt8} {s:List UInt8}:∀ i,i < (parts c s).length→parts c (rest c s i)=(parts c s).drop i∧(rest c s i).length≤s.length
 | 0,_=>⟨rfl,ai _⟩
 | i+1,hi=>by
  obtain ⟨h1,h2⟩:=s5 (c:=c) (s:=s) i (by omega);rcases (show Lib.indexByte (rest c s i) c < 0∨0≤Lib.indexByte (rest c s i) c by omega) with h | h
  ·rw [sy h] at h1;have:=congrArg List.length h1;simp at this;omega
  ·obtain ⟨k,hk⟩:=en h;obtain ⟨h3,h4⟩:=s4 hk;rw [h4] at h1;have h5:=congrArg List.tail h1;simp only [List.tail_cons,List.tail_drop] at h5;refine ⟨?_,?_⟩
   ·simp only [rest,hk,rt];exact h5
   ·simp only [rest,i7]; omega
theorem rest_next {c:UInt8} {s:List UInt8} {i:Nat} (hi:i+1 < (parts c s).length):∃ k:Nat,Lib.indexByte (rest c s i) c=k∧k < (rest c s i).length∧(parts c s)[i]? = some ((rest c s i).take k)∧rest c s (i+1)=(rest c s i).drop (k+1):=by
 obtain ⟨h1,h2⟩:=s5 (c:=c) (s:=s) i (by omega);rcases (show Lib.indexByte (rest c s i) c < 0∨0≤Lib.indexByte (rest c s i) c by omega) with h | h
 ·rw [sy h] at h1;have:=congrArg List.length h1;simp at this;omega
 ·obtain ⟨k,hk⟩:=en h;obtain ⟨h3,h4⟩:=s4 hk;rw [h4] at h1;refine ⟨k,hk,h3,?_,by simp [rest,hk]⟩;have:=congrArg (fun l=>l[0]?) h1;simp only [bf,ed,jj] at this;exact this.symm
theorem rest_last {c:UInt8} {s:List UInt8} {i:Nat} (hi:i+1=(parts c s).length):(parts c s)[i]? = some (rest c s i):=by
 obtain ⟨h1,h2⟩:=s5 (c:=c) (s:=s) i (by omega);rcases (show Lib.indexByte (rest c s i) c < 0∨0≤Lib.indexByte (rest c s i) c by omega) with h | h
 ·rw [sy h] at h1;have:=congrArg (fun l=>l[0]?) h1;simp only [bf,ed,jj] at this;exact this.symm
 ·obtain ⟨k,hk⟩:=en h;obtain ⟨h3,h4⟩:=s4 hk;rw [h4] at h1;have hlen:=congrArg List.length h1;have hpos:0 < (parts c ((rest c s i).drop (k+1))).length:=List.length_pos_iff.2 (za7 c _);simp only [bg,i7] at hlen;omega
end Go.Abs.Zd

namespace Go.Abs.Zd
variable {os:List AObj} {b w:Nat}
def mem (L:List (List UInt8)) (i:Nat):List AVal:=(L.take i).map AVal.str++List.replicate (L.length - i) (.str [])
theorem mem_len {L:List (List UInt8)} {i:Nat} (h:i≤L.length):(mem L i).length=L.length:=by simp [mem]; omega
theorem mem_set {L:List (List UInt8)} {i:Nat} {x:List UInt8} (h:L[i]? = some x):splice (mem L i) i [.str x]=mem L (i+1):=by
 have hi:=aj h;have h1:((L.take i).map AVal.str).length=i:=by simp; omega
 have h2:L.length - i=(L.length - (i+1))+1:=by omega
 unfold splice mem;rw [List.take_left' h1,h2,ka,List.drop_append,h1];rw [br (by rw [h1]; simp),List.take_add_one,h];simp
theorem mem_all (L:List (List UInt8)):mem L L.length=L.map AVal.str:=by simp [mem]
theorem mem_zero (n:Nat) (L:List (List UInt8)) (h:L.length=n):rep n [.str []]=mem L 0:=by
 subst h
 have:∀ n:Nat,(List.replicate n [AVal.str []]).flatten=List.replicate n (.str []):=by
  intro n;induction n with
  | zero=>rfl
  | succ n ih=>rw [ka,o8,ih]; rfl
 unfold rep mem;rw [this];simp
theorem za6 (c:UInt8) (s:List UInt8):Lib.countByte s c≤s.length:=List.count_le_length
theorem split_loop {s:List UInt8} {c:UInt8} (hn:s.length≤1000000) (hb:b≤os.length) :
  ip T (.loop code143L0) ⟨[(0,.val (.str s)),(1,.val (.str [c])),(2,.val (.int .i64 0)),(3,.val (.int .i64 (Lib.countByte s c))),(9,.val (.slice (some (os.length,0)) (Lib.countByte s c+1) (some (Lib.countByte s c+1)))),(10,.val (.int .i64 (0:Nat)))],⟨os++[.cells 1 (mem (parts c s) 0)],b,os.length⟩⟩ =
   some (.exit 0,⟨[(0,.val (.str (rest c s (Lib.countByte s c)))),(9,.val (.slice (some (os.length,0)) (Lib.countByte s c+1) (some (Lib.countByte s c+1)))),(10,.val (.int .i64 (Lib.countByte s c)))],⟨os++[.cells 1 (mem (parts c s) (Lib.countByte s c))],b,os.length⟩⟩):=by
 have hlen:=pk c s;have hcnt:=za6 c s;refine za9 (e:=.exit 0) (fun i=>⟨[(0,.val (.str (rest c s i))),(1,.val (.str [c])),(2,.val (.int .i64 0)),(3,.val (.int .i64 (Lib.countByte s c))),(9,.val (.slice (some (os.length,0)) (Lib.countByte s c+1) (some (Lib.countByte s c+1)))),(10,.val (.int .i64 i))],⟨os++[.cells 1 (mem (parts c s) i)],b,os.length⟩⟩) (Lib.countByte s c) ?_ (by simp) ?_
 ·intro i hi;obtain ⟨k,h1,h2,h3,h4⟩:=rest_next (c:=c) (s:=s) (i:=i) (by omega);have hrl:=(s5 (c:=c) (s:=s) i (by omega)).2;have hm:=mem_set h3;have hml:=mem_len (L:=parts c s) (i:=i) (by omega);have hi':(i:Int) < (Lib.countByte s c:Int):=by omega
  have hge:(0:Int)≤i:=by omega
  have hk0:¬ ((k:Int) < 0):=by omega
  have hk1:(k:Int)≤((rest c s i).length:Int):=by omega
  have hk2:IntKind.i64.wrap ((k:Int)+0)=(k:Int):=by rw [pz (by omega) (by omega)]; omega
  have hk3:IntKind.i64.wrap ((k:Int)+1)=((k+1:Nat):Int):=by rw [pz (by omega) (by omega)]; omega
  have hk3':IntKind.i64.wrap ((k:Int))=(k:Int):=by rw [pz (by omega) (by omega)]
  have hw:=pq (i:=i) (n:=Lib.countByte s c) hi (by omega);have hi1:(i:Int) < (Lib.countByte s c:Int)+1:=by omega
  have hil:i+1≤(parts c s).length:=by omega
  have hk4:(k:Int)+1≤((rest c s i).length:Int):=by omega
  have hk5:(0:Int)≤(k:Int)+1:=by omega
  have htk:List.take ((rest c s i).length - (k+1)) (List.drop (k+1) (rest c s i))=List.drop (k+1) (rest c s i):=ff (by simp);have hm':List.take i (mem (parts c s) i)++AVal.str (List.take k (rest c s i)) :: List.drop (i+1) (mem (parts c s) i)=mem (parts c s) (i+1):=by simpa [splice] using hm
  simp only [h4];simp [code143L0,hi',hge,s173,h1,hk0,hk1,hk2,hk3,hk3',hw,hi1,hb,hil,hml,hm',hk4,hk5,htk];done
 ·simp [code143L0]
end Go.Abs.Zd

namespace Go.Abs.Zd
variable {os:List AObj} {b w:Nat}
theorem za4:∀ L:List (List UInt8),AVal.idsL (L.map AVal.str)=[]
 | []=>rfl
 | x :: L=>by rw [b0];simp only [AVal.idsL,AVal.ids,za4 L];rfl
theorem za5 (f:Nat→Nat):∀ L:List (List UInt8),AVal.renL f (L.map AVal.str)=L.map AVal.str
 | []=>rfl
 | x :: L=>by rw [b0];simp only [AVal.renL,AVal.ren,za5 f L]
theorem s143 {s:List UInt8} {c:UInt8} (hn:s.length≤1000000) (hb:b≤os.length) :
  xCall T 143 [.str s,.str [c],.int .i64 0,.int .i64 (-1)] ⟨os,b,w⟩ =
   some (.slice (some (os.length,0)) (parts c s).length (some (parts c s).length),⟨os++[.cells 1 ((parts c s).map AVal.str)],b,w⟩):=by
 have hlen:=pk c s;have hcnt:=za6 c s;have hl:=split_loop (os:=os) (c:=c) hn hb;have hz:=mem_zero (Lib.countByte s c+1) (parts c s) hlen;have hlast:=mem_set (rest_last (c:=c) (s:=s) (i:=Lib.countByte s c) hlen.symm);rw [← hlen,mem_all] at hlast;have hml:=mem_len (L:=parts c s) (i:=Lib.countByte s c) (by omega);have hlast':List.take (Lib.countByte s c) (mem (parts c s) (Lib.countByte s c))++AVal.str (rest c s (Lib.countByte s c)) :: List.drop (Lib.countByte s c+1) (mem (parts c s) (Lib.countByte s c))=(parts c s).map AVal.str:=by simpa [splice] using hlast
 have h174:=fun h=>s174 (s:=s) (c:=c) (h:=h)
 rw [hlen];generalize Lib.countByte s c=n at *;have hw1:IntKind.i64.wrap ((n:Int)+1)=((n+1:Nat):Int):=by rw [pz (by omega) (by omega)]; omega
 have hw2:IntKind.i64.wrap ((s.length:Int)+1)=((s.length+1:Nat):Int):=by rw [pz (by omega) (by omega)]; omega
 have hw3:IntKind.i64.wrap (((n:Int)+1) - 1)=(n:Int):=by rw [pz (by omega) (by omega)]; omega
 have hw4:IntKind.i64.wrap (n:Int)=(n:Int):=by rw [pz (by omega) (by omega)]
 have hle:(n:Int)+1≤(s.length:Int)+1:=by omega
 have hnlt:¬ ((s.length:Int)+1 < (n:Int)+1):=by omega
 have g1:(0:Int)≤(n:Int)+1:=by omega
 have g2:((n:Int)+1)*16≤140737488355328:=by omega
 have g3:(n:Int)+1≤9223372036854775807:=by omega
 have g4:((n:Int)+1).toNat=n+1:=by omega
 have g5:(n:Int) < (n:Int)+1:=by omega
 have g6:n+1≤(parts c s).length:=by omega
 have hz':List.replicate (n+1) (AVal.str [])=mem (parts c s) 0:=by simpa [rep] using hz
 simp only [bh] at hl;simp [du T t143,code143,h174,hw1,hw2,hw3,hw4,hle,hnlt,g1,g2,g3,g4,g5,g6,hz',hl,hml,hlast',hb,jc,lb,za4,za5];done
theorem s90 {s:List UInt8} {c:UInt8} (hn:s.length≤1000000) (hb:b≤os.length) :
  xCall T 90 [.str s,.str [c]] ⟨os,b,w⟩=some (.slice (some (os.length,0)) (parts c s).length (some (parts c s).length),⟨os++[.cells 1 ((parts c s).map AVal.str)],b,w⟩):=by
 have h:=s143 (w:=os.length) (c:=c) hn hb;simp [du T t90,code90,h,jc,lb,za4,za5]
theorem parts_le {c:UInt8}:∀ {s:List UInt8},∀ x ∈ parts c s,x.length≤s.length
 | [],x,h=>by simp [parts] at h; simp [h]
 | y :: r,x,h=>by
  have ih:=fun z hz=>parts_le (c:=c) (s:=r) z hz
  simp only [parts] at h;split at h
  ·rcases cg.1 h with rfl | h
   ·simp
   ·have:=ih x h; simp; omega
  ·split at h
   ·rename_i p ps hp;rw [hp] at ih;rcases cg.1 h with rfl | h
    ·have:=ih p (bi ..); simp; exact this
    ·have:=ih x (bu _ h); simp; omega
   ·simp at h; simp [h]
def im (s:List UInt8):Bool:=decide (s.length≤64) && (parts 47 s).all wordL
theorem ut:∀ L:List (List UInt8),L.map AVal.str=L.flatMap strCell
 | []=>rfl
 | c :: s=>by rw [b0,cj,ut s];rfl
theorem s25 {s:List UInt8} (hb:b≤os.length):xCall T 25 [.str s] ⟨os,b,w⟩=some (.bool (im s),⟨os,b,w⟩):=by
 by_cases h64:s.length≤64
 ·have h1:=s90 (os:=os) (b:=b) (w:=os.length) (s:=s) (c:=47) (by omega) hb;have hlen:=pk 47 s;have hcnt:=za6 47 s;have hall:=fun x hx=>parts_le (c:=47) (s:=s) x hx
  have h2:=s91 (os:=os++[.cells 1 ((parts 47 s).map AVal.str)]) (b:=b) (w:=os.length) (L:=parts 47 s) (a:=some (os.length,0)) (c:=some (parts 47 s).length) (g:=92) (p:=fun x=>!wordL x)
   (Row.mk0 (fun _=>rfl) (by rw [← ut]; simp)) (by omega) (fun x hx w=>s92 (by have:=hall x hx; omega))
  have h64':(s.length:Int)≤64:=by omega
  simp [du T t25,code25,im,h64,h64',h1,h2,any_not]
 ·have h64':¬ ((s.length:Int)≤64):=by omega
  simp [du T t25,code25,im,h64,h64']
end Go.Abs.Zd

namespace Go.Abs.Zd
def okFrom:UInt8→List UInt8→Bool
 | last,[]=>last != 47
 | last,c :: r=>(wordN c.toNat || (c == 47 && last != 47)) && okFrom c r
def restOk (s:List UInt8):Bool:=match parts 47 s with
 | p :: ps=>(p.all fun c=>wordN c.toNat) && ps.all wordL
 | []=>false
theorem okFrom_is:∀ (s:List UInt8) (last:UInt8),okFrom last s=if last == 47 then (parts 47 s).all wordL else restOk s
 | [],last=>by
  simp only [okFrom,restOk,parts];by_cases h:(last == 47)=true
  ·simp [h,wordL,bne]
  ·simp [h,bne]
 | c :: r,last=>by
  have ih:=okFrom_is r c;simp only [okFrom];by_cases hc:(c == 47)=true
  ·have e:c=47:=by simpa using hc
   subst e;rw [ih];simp only [restOk,parts,beq_self_eq_true,if_true];by_cases h:(last == 47)=true
   ·simp [h,wordL,bne,wordN]
   ·simp [h,wordL,bne,wordN]
  ·rw [ih];rw [if_neg hc];cases hp:parts 47 r with
   | nil=>exact absurd hp (za7 47 r)
   | cons p ps =>
    simp only [restOk,parts,hp,if_neg hc];simp only [Bool.not_eq_true] at hc;simp only [hc,eb,Bool.or_false,dz,wordL,List.isEmpty_cons,nr,dh,ite_self,Bool.and_assoc]
theorem isClass_ok (s:List UInt8):im s=(decide (s.length≤64) && okFrom 47 s):=by rw [okFrom_is];simp [im]
end Go.Abs.Zd

namespace Go.Abs.Zd
variable {os:List AObj} {b w:Nat}
def ahead (s:List UInt8) (i:Nat):UInt8:=((47 :: s)[i]?).getD 0
def badAt (s:List UInt8) (i:Nat) (c:UInt8):Bool:=!(wordN c.toNat || (c == 47 && ahead s i != 47))
def st26 (s:List UInt8) (os:List AObj) (b:Nat) (i:Nat):St:=⟨[(0,.val (.str s)),(3,.val (.int .u8 (ahead s i).toNat)),(4,.val (.int .i64 i))],⟨os,b,os.length⟩⟩
theorem ahead_next {s:List UInt8} {i:Nat} {c:UInt8} (h:s[i]? = some c):ahead s (i+1)=c:=by simp [ahead,h]
theorem body26 {s:List UInt8} {i:Nat} {c:UInt8} (hn:s.length≤9223372036854775807) (hc:s[i]? = some c) :
  ip T code26L0 (st26 s os b i)=some (if badAt s i c then (.ret,⟨[(2,.val (.bool false))],⟨os,b,os.length⟩⟩) else (.normal,st26 s os b (i+1))):=by
 have hlt:=aj hc;have hi':(i:Int) < (s.length:Int):=by omega
 have hge:(0:Int)≤i:=by omega
 have hw:=pq hlt hn;have hnx:=ahead_next hc;unfold badAt st26;rw [hnx];generalize ahead s i=l
 have hl:(l == 47)=decide (l.toNat=47):=by
  by_cases h:l=47
  ·subst h; rfl
  ·have:¬ l.toNat=47:=fun e=>h (UInt8.toNat_inj.1 e)
   simp [h,this]
 have hcc:(c == 47)=decide (c.toNat=47):=by
  by_cases h:c=47
  ·subst h; rfl
  ·have:¬ c.toNat=47:=fun e=>h (UInt8.toNat_inj.1 e)
   simp [h,this]
 have hbl:(l != 47) = !decide (l.toNat=47):=by rw [← hl]; rfl
 rw [hcc,hbl];generalize hm:l.toNat=m;generalize hnn:c.toNat=n;have e1:((97:Int)≤n)=(97≤n):=by apply propext; omega
 have e2:((n:Int)≤122)=(n≤122):=by apply propext; omega
 have e3:((65:Int)≤n)=(65≤n):=by apply propext; omega
 have e4:((n:Int)≤90)=(n≤90):=by apply propext; omega
 have e5:((48:Int)≤n)=(48≤n):=by apply propext; omega
 have e6:((n:Int)≤57)=(n≤57):=by apply propext; omega
 have e7:((n:Int)=95)=(n=95):=by apply propext; omega
 have e8:((n:Int)=36)=(n=36):=by apply propext; omega
 have e9:((n:Int)=47)=(n=47):=by apply propext; omega
 have e10:((m:Int)=47)=(m=47):=by apply propext; omega
 by_cases c1:97≤n <;> by_cases c2:n≤122 <;> by_cases c3:65≤n <;> by_cases c4:n≤90 <;> by_cases c5:48≤n <;> by_cases c6:n≤57 <;> (try (exfalso; omega)) <;> by_cases c7:n=95 <;> (try (exfalso; omega)) <;> by_cases c8:n=36 <;> (try (exfalso; omega)) <;> by_cases c9:n=47 <;> (try (exfalso; omega)) <;> by_cases c10:m=47
 all_goals simp [code26L0,hi',hge,hc,hnn,hw,wordN,e1,e2,e3,e4,e5,e6,e7,e8,e9,e10,c1,c2,c3,c4,c5,c6,c7,c8,c9,c10]
def badPair (x:UInt8 × UInt8):Bool:=!(wordN x.2.toNat || (x.2 == 47 && x.1 != 47))
theorem za3:∀ (s:List UInt8) (l:UInt8),okFrom l s=(!(((l :: s).zip s).any badPair) && (((l :: s)[s.length]?).getD 0 != 47))
 | [],l=>by simp [okFrom]
 | c :: r,l=>by
  have ih:=za3 r c;simp only [okFrom,List.zip_cons_cons,List.any_cons,bg,jk,badPair,Bool.not_or,Bool.not_not] at ih ⊢;have hh:∀ a b:Bool,(!(!a && !b))=(a || b):=by decide
  rw [ih,Bool.and_assoc,hh]
theorem pair_at {s:List UInt8} {i:Nat} {x:UInt8 × UInt8} (h:((47 :: s).zip s)[i]? = some x):s[i]? = some x.2∧ahead s i=x.1:=by rw [List.getElem?_zip_eq_some] at h;exact ⟨h.2,by simp [ahead,h.1]⟩
theorem s26 {s:List UInt8} (hn:s.length≤9223372036854775807):xCall T 26 [.str s] ⟨os,b,w⟩=some (.bool (im s),⟨os,b,w⟩):=by
 rw [isClass_ok,za3];have hzl:((47 :: s).zip s).length=s.length:=by simp
 have hl:=uu (T:=T) (c:=code26L0) badPair ((47 :: s).zip s) (st26 s os b) (fun _=>⟨[(2,.val (.bool false))],⟨os,b,os.length⟩⟩) .ret (.exit 0)
  ⟨[(0,.val (.str s)),(3,.val (.int .u8 (ahead s s.length).toNat))],⟨os,b,os.length⟩⟩ ?_ (by simp) (by simp) (by rw [hzl]; simp [code26L0,st26])
 ·have h0:st26 s os b 0=⟨[(0,.val (.str s)),(3,.val (.int .u8 47)),(4,.val (.int .i64 0))],⟨os,b,os.length⟩⟩:=rfl;rw [h0] at hl;rcases hl with ⟨h1,h2⟩ | ⟨j,x,h1,h2,_,h4⟩
  ·rw [h1]
   have hl47:((ahead s s.length).toNat=47)=(ahead s s.length=47):=by apply propext;exact ⟨fun e=>UInt8.toNat_inj.1 e,fun e=>by rw [e]; rfl⟩
   have hah:((47 :: s)[s.length]?).getD 0=ahead s s.length:=rfl;rw [hah];have e1:(((ahead s s.length).toNat:Int)=47)=(ahead s s.length=47):=by rw [← hl47]; apply propext; omega
   by_cases h64:s.length≤64
   ·have h64':(s.length:Int)≤64:=by omega
    by_cases h47:ahead s s.length=47
    ·simp [du T t26,code26,h2,h64,h64',e1,h47]
    ·simp [du T t26,code26,h2,h64,h64',e1,h47]
   ·have h64':¬ ((s.length:Int)≤64):=by omega
    simp [du T t26,code26,h2,h64,h64']
  ·have hany:((47 :: s).zip s).any badPair=true:=List.any_eq_true.2 ⟨x,bq h1,h2⟩;rw [hany];simp [du T t26,code26,h4]
 ·intro i x hx;obtain ⟨h1,h2⟩:=pair_at hx;have:=body26 (os:=os) (b:=b) hn h1;have hb:badAt s i x.2=badPair x:=by simp only [badAt,badPair,h2]
  rw [hb] at this;exact this
end Go.Abs.Zd

namespace Go.Abs.Zd
variable {os:List AObj} {b w:Nat}
def eg (c:UInt8):List UInt8→Bool
 | []=>false
 | x :: _=>decide (x=c)
theorem s140 {s:List UInt8} {c:UInt8}:xCall T 140 [.str s,.str [c]] ⟨os,b,w⟩=some (.bool (eg c s),⟨os,b,w⟩):=by
 cases s with
 | nil=>simp [du T t140,code140,eg]
 | cons x r =>
  have h1:(1:Int)≤(r.length:Int)+1:=by omega
  simp [du T t140,code140,eg,h1]
theorem s88 {s:List UInt8} {c:UInt8}:xCall T 88 [.str s,.str [c]] ⟨os,b,w⟩=some (.bool (eg c s),⟨os,b,w⟩):=by have h:=s140 (os:=os) (b:=b) (w:=os.length) (s:=s) (c:=c);simp [du T t88,code88,h]
theorem s137 {s:List UInt8} {c:UInt8} (hn:s.length≤9223372036854775807):xCall T 137 [.str s,.str [c]] ⟨os,b,w⟩=some (.tuple [.str (if eg c s then s.tail else s),.bool (eg c s)],⟨os,b,w⟩):=by
 have h:=s140 (os:=os) (b:=b) (w:=os.length) (s:=s) (c:=c);cases s with
 | nil=>simp [du T t137,code137,eg] at h ⊢; simp [h]
 | cons x r =>
  by_cases e:x=c
  ·have h1:(1:Int)≤(r.length:Int)+1:=by omega
   simp [du T t137,code137,eg,e,h1] at h ⊢;simp [h,h1]
  ·simp [du T t137,code137,eg,e] at h ⊢;simp [h]
theorem s85 {s:List UInt8} {c:UInt8} (hn:s.length≤9223372036854775807):xCall T 85 [.str s,.str [c]] ⟨os,b,w⟩=some (.tuple [.str (if eg c s then s.tail else s),.bool (eg c s)],⟨os,b,w⟩):=by have h:=s137 (os:=os) (b:=b) (w:=os.length) (c:=c) hn;simp [du T t85,code85,h]
end Go.Abs.Zd

namespace Go.Abs.Zd
variable {os:List AObj} {b w:Nat}
def elemV (s:List UInt8):AVal:=.tuple [.str (if eg 91 s then s.tail else []),.bool (eg 91 s)]
theorem s36 {s:List UInt8} (hn:s.length≤9223372036854775807):xCall T 36 [.str s] ⟨os,b,w⟩=some (elemV s,⟨os,b,w⟩):=by
 have h:=s85 (os:=os) (b:=b) (w:=os.length) (c:=91) hn;by_cases e:eg 91 s=true
 ·simp [du T t36,code36,h,elemV,e]
 ·simp [du T t36,code36,h,elemV,e]
end Go.Abs.Zd

namespace Go.Abs.Zd
variable {os:List AObj} {b w:Nat}
theorem mr (x:UInt8) (n:Nat) (hn:n < 256):((x.toNat:Int)=(n:Int))=(x=UInt8.ofNat n):=by
 apply propext;constructor
 ·intro h;apply UInt8.toNat_inj.1;have e:(UInt8.ofNat n).toNat=n:=by simp; omega
  omega
 ·intro h;subst h;have e:(UInt8.ofNat n).toNat=n:=by simp; omega
  omega
def isRef (s:List UInt8):Bool:=eg 76 s || eg 91 s
theorem s30 {s:List UInt8}:xCall T 30 [.str s] ⟨os,b,w⟩=some (.bool (isRef s),⟨os,b,w⟩):=by
 have h1:=s88 (os:=os) (b:=b) (w:=os.length) (s:=s) (c:=76);have h2:=s88 (os:=os) (b:=b) (w:=os.length) (s:=s) (c:=91);by_cases e:eg 76 s=true
 ·simp [du T t30,code30,h1,h2,isRef,e]
 ·simp [du T t30,code30,h1,h2,isRef,e]
end Go.Abs.Zd

namespace Go.Abs.Zd
variable {os:List AObj} {b w:Nat}
def ends (c:UInt8) (s:List UInt8):Bool:=decide (1≤s.length) && decide (s.drop (s.length - 1)=[c])
theorem s141 {s:List UInt8} {c:UInt8} (hn:s.length≤9223372036854775807):xCall T 141 [.str s,.str [c]] ⟨os,b,w⟩=some (.bool (ends c s),⟨os,b,w⟩):=by
 by_cases h:1≤s.length
 ·have h1:(1:Int)≤(s.length:Int):=by omega
  have h2:IntKind.i64.wrap ((s.length:Int) - 1)=((s.length - 1:Nat):Int):=by rw [pz (by omega) (by omega)]; omega
  have h3:((s.length - 1:Nat):Int)≤(s.length:Int):=by omega
  have h4:List.take (s.length - (s.length - 1)) (s.drop (s.length - 1))=s.drop (s.length - 1):=ff (by simp);simp [du T t141,code141,ends,h,h1,h2,h3,h4]
 ·have h1:¬ ((1:Int)≤(s.length:Int)):=by omega
  simp [du T t141,code141,ends,h,h1]
theorem s89 {s:List UInt8} {c:UInt8} (hn:s.length≤9223372036854775807):xCall T 89 [.str s,.str [c]] ⟨os,b,w⟩=some (.bool (ends c s),⟨os,b,w⟩):=by have h:=s141 (os:=os) (b:=b) (w:=os.length) (c:=c) hn;simp [du T t89,code89,h]
end Go.Abs.Zd

namespace Go.Abs.Zd
variable {os:List AObj} {b w:Nat}
def isObj (s:List UInt8):Bool:=decide (2≤s.length) && eg 76 s && ends 59 s
def classV (s:List UInt8):AVal:=if isObj s then .tuple [.str ((s.drop 1).take (s.length - 2)),.bool true] else .tuple [.str [],.bool false]
theorem s34 {s:List UInt8} (hn:s.length≤9223372036854775807):xCall T 34 [.str s] ⟨os,b,w⟩=some (classV s,⟨os,b,w⟩):=by
 have h1:=s88 (os:=os) (b:=b) (w:=os.length) (s:=s) (c:=76);have h2:=s89 (os:=os) (b:=b) (w:=os.length) (c:=59) hn;by_cases h:2≤s.length
 ·have c1:¬ ((s.length:Int) < 2):=by omega
  have c2:IntKind.i64.wrap ((s.length:Int) - 1)=((s.length - 1:Nat):Int):=by rw [pz (by omega) (by omega)]; omega
  have c3:((s.length - 1:Nat):Int)≤(s.length:Int):=by omega
  have c4:(1:Int)≤((s.length - 1:Nat):Int):=by omega
  have c5:s.length - 1 - 1=s.length - 2:=by omega
  by_cases e1:eg 76 s=true <;> by_cases e2:ends 59 s=true
  all_goals simp [du T t34,code34,classV,isObj,h,c1,c2,c3,c4,c5,h1,h2,e1,e2]
 ·have c1:(s.length:Int) < 2:=by omega
  simp [du T t34,code34,classV,isObj,h,c1]
end Go.Abs.Zd

namespace Go.Abs.Zd
variable {os:List AObj} {b w:Nat}
theorem za2 {s:List UInt8} {x c:UInt8} (h:s[0]? = some x):eg c s=decide (x=c):=by
 cases s with
 | nil=>simp at h
 | cons y r=>simp at h; subst h; rfl
theorem xb {s:List UInt8} {x c:UInt8} (h:s[s.length - 1]? = some x):ends c s=decide (x=c):=by
 have hl:=aj h;unfold ends
 have:s.drop (s.length - 1)=[x]:=by rw [eu hl,br (by omega)];rw [ah hl] at h;cases h; rfl
 rw [this];simp; omega
section
attribute [-simp] getElem?_pos getElem?_neg
theorem s33 {s:List UInt8} (hn:s.length≤9223372036854775807):xCall T 33 [.str s] ⟨os,b,w⟩=some (classV s,⟨os,b,w⟩):=by
 by_cases h:2≤s.length
 ·obtain ⟨x,hx⟩:∃ x,s[0]? = some x:=⟨_,ah (by omega)⟩;obtain ⟨y,hy⟩:∃ y,s[s.length - 1]? = some y:=⟨_,ah (by omega)⟩;have b1:=za2 (c:=76) hx;have e1:=xb (c:=59) hy;have u1:((x.toNat:Int)=76)=(x=76):=mr x 76 (by omega);have u2:((y.toNat:Int)=59)=(y=59):=mr y 59 (by omega);have ht:((s.length:Int) - 1).toNat=s.length - 1:=by omega
  have hq:s.length - 1 - 1=s.length - 2:=by omega
  by_cases c1:x=76 <;> by_cases c2:y=59
  all_goals simp (disch:=omega) [av t33,code33,classV,isObj,iltT,iltF,ileT,ileF,nltT,nltF,nleT,nleF,dg,h,hx,hy,b1,e1,u1,u2,c1,c2,ht,hq]
 ·simp (disch:=omega) [av t33,code33,classV,isObj,iltT,h]
end
end Go.Abs.Zd

namespace Go.Abs.Zd
def bare (s:List UInt8):List UInt8:=s.dropWhile (· == 91)
def dims (s:List UInt8):Nat:=s.length - (bare s).length
theorem rf (s:List UInt8):(bare s).length≤s.length:=by
 unfold bare;induction s with
 | nil=>simp
 | cons x r ih =>
  rw [List.dropWhile_cons];split
  ·simp; omega
  ·simp
theorem ox:∀ s:List UInt8,s=List.replicate (dims s) 91++bare s
 | []=>rfl
 | x :: r=>by
  have ih:=ox r;have hl:=rf r;unfold dims bare at *;rw [List.dropWhile_cons];split
  ·rename_i h;have:x=91:=by simpa using h
   subst this;have e:(91 :: r).length - (List.dropWhile (· == 91) r).length=(r.length - (List.dropWhile (· == 91) r).length)+1:=by simp only [bg]; omega
   rw [e,ka,ci,← ih]
  ·simp
theorem bare_head {s r:List UInt8} {c:UInt8} (h:bare s=c :: r):c≠91:=by have:=List.head?_dropWhile_not (fun x:UInt8=>x == 91) s;unfold bare at h;rw [h] at this;simpa using this
theorem bare_of {n:Nat} {c:UInt8} {r:List UInt8} (h:c≠91):bare (List.replicate n 91++c :: r)=c :: r:=by
 unfold bare;induction n with
 | zero=>simp [h]
 | succ n ih=>rw [ka,ci,List.dropWhile_cons]; simpa using ih
theorem dims_of {n:Nat} {c:UInt8} {r:List UInt8} (h:c≠91):dims (List.replicate n 91++c :: r)=n:=by unfold dims;rw [bare_of h];simp
def nameL (r:List UInt8):Option Nat:=if 0≤Lib.indexByte r 59 then (if im (r.take (Lib.indexByte r 59).toNat) then some (Lib.indexByte r 59).toNat else none) else none
def gu (s:List UInt8):Nat:=match bare s with
 | []=>0
 | c :: r=>if 8 < dims s then 0
  else if c=73∨(c=74∧dims s=0)∨(c=66∧0 < dims s) then dims s+1
  else if c=76 then (match nameL r with | some k=>dims s+k+2 | none=>0) else 0
theorem zu {c:UInt8}:∀ {r:List UInt8} {k:Nat},Lib.indexByte r c=k→k < r.length∧r.take k++c :: r.drop (k+1)=r∧c ∉ r.take k
 | [],k,h=>by simp [Lib.indexByte] at h
 | x :: r,k,h=>by
  unfold Lib.indexByte at h;split at h
  ·rename_i hx;have hx:x=c:=by simpa using hx
   have:k=0:=by omega
   subst this; subst hx;simp
  ·rename_i hx;have hx:¬ x=c:=by simpa using hx
   have hge:=Lib.indexByte_ge r c;split at h
   ·omega
   ·cases k with
    | zero=>rename_i e; simp at e; omega
    | succ k =>
     obtain ⟨h1,h2,h3⟩:=zu (r:=r) (k:=k) (c:=c) (by omega);refine ⟨by simp; omega,by simpa using h2,?_⟩;simp only [List.take_succ_cons,cg,not_or];exact ⟨fun e=>hx e.symm,h3⟩
theorem ib_of {c:UInt8}:∀ {a b:List UInt8},c ∉ a→Lib.indexByte (a++c :: b) c=a.length
 | [],b,_=>by simp [Lib.indexByte]
 | x :: a,b,h=>by
  have h1:¬ x=c:=fun e=>h (by simp [e])
  have ih:=ib_of (a:=a) (b:=b) (c:=c) fun h'=>h (bu _ h')
  simp only [ci];unfold Lib.indexByte;simp [h1,ih]
theorem parts_mem {c y:UInt8}:∀ {s:List UInt8},y ∈ s→y≠c→∃ p ∈ parts c s,y ∈ p
 | [],h,_=>by cases h
 | x :: r,h,hy=>by
  simp only [parts];rcases cg.1 h with rfl | h
  ·rw [if_neg (by simpa using hy)];cases hp:parts c r with
   | nil=>exact ⟨_,fp _,fp _⟩
   | cons p ps=>exact ⟨_,bi ..,bi ..⟩
  ·obtain ⟨p,hp,hyp⟩:=parts_mem h hy;split
   ·exact ⟨p,bu _ hp,hyp⟩
   ·cases hq:parts c r with
    | nil=>rw [hq] at hp; cases hp
    | cons q ps =>
     rw [hq] at hp;rcases cg.1 hp with rfl | hp
     ·exact ⟨_,bi ..,bu _ hyp⟩
     ·exact ⟨p,bu _ hp,hyp⟩
theorem w9 {s:List UInt8} (h:im s=true):(59:UInt8) ∉ s:=by intro hm;obtain ⟨p,hp,hy⟩:=parts_mem (c:=47) hm (by decide);simp only [im,az,al] at h;have:=h.2 p hp;simp only [wordL,az,al] at this;have:=this.2 59 hy;simp [wordN] at this
theorem isClass_ne {s:List UInt8} (h:im s=true):s≠[]:=by rintro rfl;simp [im,parts,wordL] at h
theorem vr {r:List UInt8} {k:Nat} (h:nameL r=some k):k < r.length∧r=r.take k++59 :: r.drop (k+1)∧im (r.take k)=true:=by
 unfold nameL at h;split at h
 ·rename_i h0;obtain ⟨j,hj⟩:=en h0;rw [hj] at h;simp only [rt] at h;split at h
  ·rename_i hc;cases h;obtain ⟨h1,h2,_⟩:=zu hj;exact ⟨h1,h2.symm,hc⟩
  ·cases h
 ·cases h
theorem nameL_of {a b:List UInt8} (h:im a=true):nameL (a++59 :: b)=some a.length:=by have:=ib_of (b:=b) (w9 h);unfold nameL;rw [this,if_pos (by omega)];simp only [rt,List.take_left',h,if_true]
theorem sx (s:List UInt8):gu s≤s.length:=by
 have hb:=ox s;have hl:=congrArg List.length hb;simp only [aq,rq] at hl;unfold gu;cases hbs:bare s with
 | nil=>simp
 | cons c r =>
  rw [hbs] at hl;simp only [bg] at hl;simp only;split
  ·omega
  ·split
   ·omega
   ·split
    ·cases hn:nameL r with
     | none=>simp
     | some k=>have:=(vr hn).1; simp only; omega
    ·omega
inductive Ty:List UInt8→Prop
 | one (n:Nat) (c:UInt8) (h:n≤8) (hc:c=73∨(c=74∧n=0)∨(c=66∧0 < n)):Ty (List.replicate n 91++[c])
 | obj (n:Nat) (a:List UInt8) (h:n≤8) (ha:im a=true):Ty (List.replicate n 91++76 :: (a++[59]))
theorem ty_cut {t:List UInt8} (ht:Ty t) (u:List UInt8):gu (t++u)=t.length:=by
 cases ht with
 | one n c h hc =>
  have hc91:c≠91:=by rcases hc with e | ⟨e,_⟩ | ⟨e,_⟩ <;> (subst e; decide)
  have hb:=bare_of (n:=n) (r:=u) hc91;have hd:=dims_of (n:=n) (r:=u) hc91;rw [show List.replicate n 91++[c]++u=List.replicate n 91++c :: u by simp];unfold gu;rw [hb,hd];simp only;rw [if_neg (by omega),if_pos hc];simp
 | obj n a h ha =>
  have hb:=bare_of (n:=n) (c:=76) (r:=a++59 :: u) (by decide);have hd:=dims_of (n:=n) (c:=76) (r:=a++59 :: u) (by decide);rw [show List.replicate n 91++76 :: (a++[59])++u=List.replicate n 91++76 :: (a++59 :: u) by simp];unfold gu;rw [hb,hd];simp only;rw [if_neg (by omega),if_neg (by simp)];simp only [if_true,nameL_of ha];simp;omega
theorem cut_ty {s:List UInt8} (h:gu s≠0):Ty (s.take (gu s)):=by
 have hb:=ox s;revert h;unfold gu;cases hbs:bare s with
 | nil=>simp
 | cons c r =>
  rw [hbs] at hb;simp only;generalize hn:dims s=n at *;split
  ·simp
  ·rename_i h8;split
   ·rename_i hc;intro _
    have:s.take (n+1)=List.replicate n 91++[c]:=by rw [hb,List.take_append,rq,ff (by simp),show n+1 - n=1 by omega];rfl
    rw [this];exact .one n c (by omega) hc
   ·split
    ·rename_i hc;subst hc;cases hn':nameL r with
     | none=>simp
     | some k =>
      intro _;obtain ⟨k1,k2,k3⟩:=vr hn';simp only
      have:s.take (n+k+2)=List.replicate n 91++76 :: (r.take k++[59]):=by
       rw [hb,List.take_append,rq,ff (by simp; omega),show n+k+2 - n=(k+1)+1 by omega,List.take_succ_cons];congr 2;conv=>lhs; rw [k2]
       rw [List.take_append];have hk:(r.take k).length=k:=by simp; omega
       rw [hk,ff (by omega),show k+1 - k=1 by omega];rfl
      rw [this];exact .obj n _ (by omega) k3
    ·simp
theorem ty_ne {t:List UInt8} (ht:Ty t):t≠[]:=by cases ht <;> simp
def isTy (s:List UInt8):Bool:=decide (s≠[]) && decide (gu s=s.length)
theorem isTy_iff (s:List UInt8):isTy s=true ↔ Ty s:=by
 simp only [isTy,az,decide_eq_true_eq];constructor
 ·rintro ⟨h1,h2⟩
  have h3:gu s≠0:=by rw [h2];intro e;exact h1 (bc e)
  have:=cut_ty h3;rwa [h2,List.take_length] at this
 ·intro h;have:=ty_cut h [];rw [cq] at this;exact ⟨ty_ne h,this⟩
theorem isTy_take {s:List UInt8} {n:Nat} (hn:n≤s.length) (h:isTy (s.take n)=true):n=gu s:=by have h1:=ty_cut ((isTy_iff _).1 h) (s.drop n);rw [List.take_append_drop] at h1;rw [h1]; simp; omega
theorem isTy_cut {s:List UInt8} (h:gu s≠0):isTy (s.take (gu s))=true:=(isTy_iff _).2 (cut_ty h)
end Go.Abs.Zd

namespace Go.Abs.Zd
variable {os:List AObj} {b w:Nat} {β:Type}
section
attribute [-simp] getElem?_pos getElem?_neg
theorem l171 {h:Heap} (k:AExit→St→Option β):∀ s:List UInt8,xK T (.loop code171L0) ⟨[(0,.val (.str s)),(1,.val (.int .u8 91))],h⟩ (k:=⟨k⟩)=k (.exit 0) ⟨[(0,.val (.str (bare s)))],h⟩
 | []=>by rw [ce];simp [code171L0,bare]
 | x :: r=>by
  have ih:=l171 (h:=h) k r;have e:((x.toNat:Int)=91)=(x=91):=mr x 91 (by omega);rw [ce];generalize ACode.loop code171L0=L at ih ⊢;by_cases c:x=91
  ·simp (disch:=omega) [code171L0,iltT,ileT,nltT,e,c,ih,bare,List.dropWhile_cons,bf]
  ·simp (disch:=omega) [code171L0,iltT,ileT,nltT,e,c,bare,List.dropWhile_cons,bf]
end
theorem s171 {s:List UInt8}:xCall T 171 [.str s,.int .u8 91] ⟨os,b,w⟩=some (.str (bare s),⟨os,b,w⟩):=by simp [av t171,code171,l171]
theorem s139 {s:List UInt8}:xCall T 139 [.str s,.str [91]] ⟨os,b,w⟩=some (.str (bare s),⟨os,b,w⟩):=by
 by_cases h:s=[]
 ·subst h;simp [av t139,code139,bare]
 ·simp [av t139,code139,h,s171]
def cutV (c:UInt8) (s:List UInt8):AVal:=if 0≤Lib.indexByte s c then .tuple [.str (s.take (Lib.indexByte s c).toNat),.str (s.drop ((Lib.indexByte s c).toNat+1)),.bool true] else .tuple [.str s,.str [],.bool false]
theorem s172 {s:List UInt8} {c:UInt8} (hn:s.length≤9223372036854775807):xCall T 172 [.str s,.str [c]] ⟨os,b,w⟩=some (cutV c s,⟨os,b,w⟩):=by
 have h5:=fun h=>s205 (s:=s) (c:=c) (h:=h)
 by_cases h:0≤Lib.indexByte s c
 ·obtain ⟨k,hk⟩:=en h;obtain ⟨k1,_⟩:=zu hk;have e3:((k:Int)+1).toNat=k+1:=by omega
  have hv:cutV c s = .tuple [.str (s.take k),.str (s.drop (k+1)),.bool true]:=by unfold cutV; rw [hk,if_pos (by omega)]; rfl
  rw [hv];simp (disch:=omega) [-getElem?_pos,-getElem?_neg,av t172,code172,h5,hk,iltT,ileT,nltT,nleT,dg,e3]
 ·have hv:cutV c s = .tuple [.str s,.str [],.bool false]:=by unfold cutV; rw [if_neg h]
  rw [hv];simp (disch:=omega) [av t172,code172,h5,h]
theorem s138 {s:List UInt8} {c:UInt8} (hn:s.length≤9223372036854775807):xCall T 138 [.str s,.str [c]] ⟨os,b,w⟩=some (cutV c s,⟨os,b,w⟩):=by
 have h:=fun w=>s172 (os:=os) (b:=b) (w:=w) (c:=c) hn
 unfold cutV at h ⊢;by_cases h0:0≤Lib.indexByte s c
 ·simp only [if_pos h0] at h ⊢;simp [av t138,code138,h]
 ·simp only [if_neg h0] at h ⊢;simp [av t138,code138,h]
theorem dims_eq {s r:List UInt8} {c:UInt8} (h:bare s=c :: r):s.length=dims s+(r.length+1):=by have:=congrArg List.length (ox s);simpa [h] using this
section
attribute [-simp] getElem?_pos getElem?_neg
theorem s86 {s:List UInt8} (hn:s.length≤9223372036854775807) (hb:b≤os.length):xCall T 86 [.str s] ⟨os,b,w⟩=some (.str (s.take (gu s)),⟨os,b,w⟩):=by
 have h139:=fun w=>s139 (os:=os) (b:=b) (w:=w) (s:=s)
 have hl:=rf s;have hd:((s.length:Int) - (bare s).length)=(dims s:Nat):=by unfold dims; omega
 have hle:dims s≤s.length:=by unfold dims; omega
 cases hbs:bare s with
 | nil =>
  simp only [hbs] at h139;simp [av t86,code86,bf,h139,gu,hbs]
 | cons c r =>
  simp only [hbs] at h139;clear hd;have hlen:=dims_eq hbs
  have hcut:gu s=if 8 < dims s then 0 else if c=73∨(c=74∧dims s=0)∨(c=66∧0 < dims s) then dims s+1 else if c=76 then (match nameL r with | some k=>dims s+k+2 | none=>0) else 0:=by unfold gu; rw [hbs] <;> rfl
  rw [hcut];clear hl hcut;generalize dims s=d at hlen hle ⊢;have hd:(s.length:Int) - ((r.length:Int)+1)=d:=by omega
  have e73:((c.toNat:Int)=73)=(c=73):=mr c 73 (by omega);have e74:((c.toNat:Int)=74)=(c=74):=mr c 74 (by omega);have e66:((c.toNat:Int)=66)=(c=66):=mr c 66 (by omega);have e76:((c.toNat:Int)=76)=(c=76):=mr c 76 (by omega);have ht1:((d:Int)+1).toNat=d+1:=by omega
  by_cases h8:8 < d
  ·simp (disch:=omega) [av t86,code86,bf,h139,hd,dg,iltT,h8]
  ·by_cases c73:c=73
   ·simp (disch:=omega) [av t86,code86,bf,h139,hd,dg,iltT,iltF,ileT,nltT,nleT,h8,e73,c73,ht1]
   ·by_cases c74:c=74
    ·subst c74;by_cases d0:d=0
     ·simp (disch:=omega) [av t86,code86,bf,h139,hd,dg,iltT,iltF,ileT,nltT,nleT,h8,d0,ht1]
     ·simp (disch:=omega) [av t86,code86,bf,h139,hd,dg,iltT,iltF,ileT,nltT,nleT,h8,d0,ieqF,ht1]
    ·by_cases c66:c=66
     ·subst c66;by_cases d0:0 < d
      ·simp (disch:=omega) [av t86,code86,bf,h139,hd,dg,iltT,iltF,ileT,nltT,nleT,h8,d0,ht1]
      ·simp (disch:=omega) [av t86,code86,bf,h139,hd,dg,iltT,iltF,ileT,nltT,nleT,h8,d0,ht1]
     ·by_cases c76:c=76
      ·subst c76;have h138:=fun w=>s138 (os:=os) (b:=b) (w:=w) (s:=r) (c:=59) (by omega)
       have htr:List.take (r.length+1 - 1) r=r:=by simp
       by_cases hi:0≤Lib.indexByte r 59
       ·obtain ⟨k,hk⟩:=en hi;obtain ⟨k1,_⟩:=zu hk;have h25:=fun w=>s25 (w:=w) (s:=r.take k) hb
        have hmin:min k r.length=k:=by omega
        simp only [cutV,hk,Int.natCast_nonneg,if_true,rt] at h138;have ht2:((d:Int)+k+2).toNat=d+k+2:=by omega
        have hnm:nameL r=if im (r.take k)=true then some k else none:=by unfold nameL; rw [hk,if_pos (by omega)]; rfl
        by_cases hc:im (r.take k)=true
        ·simp (disch:=omega) [av t86,code86,bf,h139,hd,dg,iltT,iltF,ileT,nltT,nleT,h8,h138,h25,hc,hnm,hmin,ht2]
        ·simp (disch:=omega) [av t86,code86,bf,h139,hd,dg,iltT,iltF,ileT,nltT,nleT,h8,h138,h25,hc,hnm]
       ·have hnm:nameL r=none:=by unfold nameL; rw [if_neg hi]
        simp only [cutV,if_neg hi] at h138;simp (disch:=omega) [av t86,code86,bf,h139,hd,dg,iltT,iltF,ileT,nltT,nleT,h8,h138,hnm]
      ·simp (disch:=omega) [av t86,code86,bf,h139,hd,dg,iltT,iltF,ileT,nltT,nleT,h8,e73,e74,e66,e76,c73,c74,c66,c76]
end
theorem s27 {s:List UInt8} (hn:s.length≤9223372036854775807) (hb:b≤os.length):xCall T 27 [.str s] ⟨os,b,w⟩=some (.bool (isTy s),⟨os,b,w⟩):=by
 have h:=fun w=>s86 (w:=w) hn hb
 have hc:=sx s
 have e:(s.take (gu s)=s)=(gu s=s.length):=by
  apply propext;constructor
  ·intro e;have:=congrArg List.length e;simp at this; omega
  ·intro e; rw [e,List.take_length]
 by_cases h0:s=[]
 ·simp [av t27,code27,isTy,h0]
 ·simp [av t27,code27,isTy,h0,h,e]
end Go.Abs.Zd

namespace Go.Abs.Zd
variable {os:List AObj} {b w:Nat} {β:Type}
def objR (s:List UInt8):Bool:=decide (3≤s.length) && eg 76 s && ends 59 s && im ((s.drop 1).take (s.length - 2))
theorem ends_app {a:List UInt8} {c x:UInt8}:ends c (a++[x])=decide (x=c):=by apply xb;simp
theorem objR_name (r:List UInt8):objR (76 :: r)=match nameL r with | some k=>decide (k+1=r.length) | none=>false:=by
 cases hn:nameL r with
 | some k =>
  obtain ⟨h1,h2,h3⟩:=vr hn;simp only;by_cases hk:k+1=r.length
  ·have hd:r.drop (k+1)=[]:=br (by omega);rw [hd] at h2;have hne:r.take k≠[]:=isClass_ne h3;have hk0:k≠0:=by rintro rfl; simp at hne
   have e1:ends 59 (76 :: r)=true:=by rw [h2,show (76:UInt8) :: (r.take k++[59])=(76 :: r.take k)++[59] by rfl,ends_app]; rfl
   have e2:((76 :: r).drop 1).take ((76 :: r).length - 2)=r.take k:=by simp only [List.drop_succ_cons,dy,bg];congr 1; omega
   unfold objR;rw [e1,e2,h3];simp [eg,hk];omega
  ·simp only [hk,decide_false];unfold objR;rw [Bool.eq_false_iff];intro hc;simp only [az,decide_eq_true_eq] at hc;obtain ⟨⟨⟨c1,_⟩,c2⟩,c3⟩:=hc
   have e2:((76 :: r).drop 1).take ((76 :: r).length - 2)=r.take (r.length - 1):=by simp only [List.drop_succ_cons,dy,bg];congr 1
   rw [e2] at c3;refine w9 c3 ?_
   have:(r.take (r.length - 1))[k]? = some 59:=by rw [fb (by omega),h2,ak (by simp; omega)];simp [show min k r.length=k by omega]
   exact bq this
 | none =>
  simp only;unfold objR;rw [Bool.eq_false_iff];intro hc;simp only [az,decide_eq_true_eq] at hc;obtain ⟨⟨⟨c1,_⟩,c2⟩,c3⟩:=hc;simp only [bg] at c1
  have e2:((76 :: r).drop 1).take ((76 :: r).length - 2)=r.take (r.length - 1):=by simp only [List.drop_succ_cons,dy,bg];congr 1
  rw [e2] at c3;obtain ⟨y,hy⟩:∃ y,r[r.length - 1]? = some y:=⟨_,ah (by omega)⟩
  have hl:(76 :: r)[(76 :: r).length - 1]? = some y:=by rw [show (76 :: r).length - 1=(r.length - 1)+1 by simp; omega,jk]; exact hy
  rw [xb hl] at c2;simp only [decide_eq_true_eq] at c2;subst c2
  have hr:r=r.take (r.length - 1)++59 :: []:=by
   have:r.drop (r.length - 1)=[59]:=by have hlt:=aj hy;rw [eu hlt,br (by omega)];rw [ah hlt] at hy;rw [dl hy]
   rw [← this,List.take_append_drop]
  rw [hr,nameL_of c3] at hn;cases hn
theorem cutN_eq {s r:List UInt8} {c:UInt8} (hbs:bare s=c :: r):gu s=if 8 < dims s then 0 else if c=73∨(c=74∧dims s=0)∨(c=66∧0 < dims s) then dims s+1 else if c=76 then (match nameL r with | some k=>dims s+k+2 | none=>0) else 0:=by unfold gu; rw [hbs] <;> rfl
theorem refTy_eq (s:List UInt8):isTy s=(!decide (8 < dims s) && ((decide (0 < dims s) && decide (bare s=[66])) || (decide (bare s=[73]) || ((decide (dims s=0) && decide (bare s=[74])) || objR (bare s))))):=by
 cases hbs:bare s with
 | nil =>
  have:gu s=0:=by unfold gu; rw [hbs]
  have ho:objR []=false:=rfl;unfold isTy;rw [this,ho];cases s <;> simp
 | cons c r =>
  have hlen:=dims_eq hbs;have hcut:=cutN_eq hbs;have hne:s≠[]:=by rintro rfl; simp [bare] at hbs
  unfold isTy;rw [hcut,hlen];generalize dims s=d at *;have hr0:(r=[]) ↔ r.length=0:=by cases r <;> simp
  by_cases h8:8 < d
  ·simp [h8,hne]
  ·by_cases c73:c=73
   ·subst c73;have:objR (73 :: r)=false:=by simp [objR,eg]
    by_cases hr:r=[]
    ·simp [h8,hne,this,hr]
    ·have:r.length≠0:=by rwa [Ne,← hr0]
     simp [h8,hne, *]
   ·by_cases c76:c=76
    ·subst c76;rw [objR_name];cases hn:nameL r with
     | none=>simp [h8,hne]
     | some k =>
      simp only [h8,hne,ne_eq,not_false_iff,decide_true,dh,if_false,if_true];have:(d+k+2=d+(r.length+1))=(k+1=r.length):=by apply propext; omega
      simp [this]
    ·have hob:objR (c :: r)=false:=by simp [objR,eg,c76]
     by_cases c74:c=74
     ·subst c74;by_cases d0:d=0 <;> by_cases hr:r=[]
      ·subst d0; subst hr; simp [hne]
      ·have:r.length≠0:=by rwa [Ne,← hr0]
       subst d0; simp [hne,hob,hr,this]
      ·simp [h8,hne,hob,d0]
      ·simp [h8,hne,hob,d0]
     ·by_cases c66:c=66
      ·subst c66;by_cases d0:0 < d <;> by_cases hr:r=[]
       ·subst hr; simp [h8,hne,hob,d0]
       ·have:r.length≠0:=by rwa [Ne,← hr0]
        simp [h8,hne,hob,d0,hr,this]
       ·simp [h8,hne,hob,d0]
       ·simp [h8,hne,hob,d0]
      ·simp [h8,hne,hob,c73,c74,c66,c76]
theorem dims_get {s:List UInt8} {i:Nat} (h:i < dims s):s[i]? = some 91:=by rw [ox s,ag (by simpa using h),xr,if_pos h]
theorem dims_drop (s:List UInt8):s.drop (dims s)=bare s:=by refine (congrArg (List.drop (dims s)) (ox s)).trans ?_;rw [List.drop_append,rq];simp
theorem l28 {h:Heap} (k:AExit→St→Option β) {s:List UInt8} (hn:s.length≤9223372036854775807):∀ j i,i+j=dims s →
  xK T (.loop code28L0) ⟨[(0,.val (.str s)),(3,.val (.int .i64 (i:Nat)))],h⟩ (k:=⟨k⟩)=k (.exit 0) ⟨[(0,.val (.str s)),(3,.val (.int .i64 (dims s:Nat)))],h⟩
 | 0,i,hi=>by
  have hi:i=dims s:=by omega
  rw [ce];have hl:=rf s;have hd:dims s=s.length - (bare s).length:=rfl;cases hbs:bare s with
  | nil =>
   rw [hbs] at hd;simp only [bp,Nat.sub_zero] at hd;simp (disch:=omega) [-getElem?_pos,-getElem?_neg,code28L0,iltF,hi,hd]
  | cons c r =>
   have hlen:=dims_eq hbs;have hc:=bare_head hbs;have e:((c.toNat:Int)=91)=(c=91):=mr c 91 (by omega)
   have hg:s[dims s]? = some c:=by have:=dims_drop s;rw [hbs] at this;have h0:=congrArg (fun l=>l[0]?) this;simpa using h0
   simp (disch:=omega) [-getElem?_pos,-getElem?_neg,code28L0,iltT,ileT,hi,hg,e,hc]
 | j+1,i,hi=>by
  have hg:=dims_get (s:=s) (i:=i) (by omega);have hle:dims s≤s.length:=by unfold dims; omega
  have ih:=l28 (h:=h) k hn j (i+1) (by omega);have e:((i+1:Nat):Int)=(i:Int)+1:=by omega
  rw [e] at ih;rw [ce];generalize ACode.loop code28L0=L at ih ⊢;simp (disch:=omega) [-getElem?_pos,-getElem?_neg,code28L0,iltT,ileT,dg,hg,ih]
theorem s93 {s:List UInt8} (hn:s.length≤9223372036854775807):xCall T 93 [.str s] ⟨os,b,w⟩=some (.bool (objR s),⟨os,b,w⟩):=by
 by_cases h:3≤s.length
 ·obtain ⟨x,hx⟩:∃ x,s[0]? = some x:=⟨_,ah (by omega)⟩;obtain ⟨y,hy⟩:∃ y,s[s.length - 1]? = some y:=⟨_,ah (by omega)⟩;have b1:=za2 (c:=76) hx;have e1:=xb (c:=59) hy;have u1:((x.toNat:Int)=76)=(x=76):=mr x 76 (by omega);have u2:((y.toNat:Int)=59)=(y=59):=mr y 59 (by omega);have ht:((s.length:Int) - 1).toNat=s.length - 1:=by omega
  have hq:s.length - 1 - 1=s.length - 2:=by omega
  have h26:=fun w=>s26 (os:=os) (b:=b) (w:=w) (s:=List.take (s.length - 2) s.tail) (by simp; omega)
  by_cases c1:x=76 <;> by_cases c2:y=59
  all_goals simp (disch:=omega) [-getElem?_pos,-getElem?_neg,av t93,code93,objR,iltT,iltF,ileT,ileF,nltT,nltF,nleT,nleF,dg,h,hx,hy,b1,e1,u1,u2,c1,c2,ht,hq,h26]
 ·simp (disch:=omega) [av t93,code93,objR,ileF,h]
theorem s28 {s:List UInt8} (hn:s.length≤9223372036854775807):xCall T 28 [.str s] ⟨os,b,w⟩=some (.bool (isTy s),⟨os,b,w⟩):=by
 have hl:=fun h (k:AExit→St→Option (AVal × Heap))=>l28 (h:=h) k hn (dims s) 0 (by omega)
 simp only [bh] at hl;have hle:dims s≤s.length:=by unfold dims; omega
 have hb:=dims_drop s;have hbl:=rf s;have h93:=fun w=>s93 (os:=os) (b:=b) (w:=w) (s:=bare s) (by omega)
 rw [refTy_eq];have ht:List.take (s.length - dims s) (bare s)=bare s:=by rw [← hb,mt]
 generalize dims s=d at *;generalize bare s=r at *;by_cases h8:8 < d
 ·simp (disch:=omega) [av t28,code28,hl,iltT,iltF,ileT,nleT,hb,h8]
 ·have hd0:(d=0) = ¬ 0 < d:=by apply propext; omega
  by_cases d0:0 < d <;> cases c66:decide (r=[66]) <;> cases c73:decide (r=[73]) <;> cases c74:decide (r=[74])
  all_goals simp (disch:=omega) [av t28,code28,hl,iltT,iltF,ileT,nleT,ieqT,ieqF,neqT,hb,ht,h8,hd0,d0,c66,c73,c74,h93]
end Go.Abs.Zd

namespace Go.Abs.Zd
variable {os:List AObj} {b w:Nat} {β:Type}
section
attribute [-simp] getElem?_pos getElem?_neg
theorem l87 {O:List AObj} (k:AExit→St→Option β) {s:List UInt8} (hn:s.length≤9223372036854775806):∀ j i,0 < i→i+j=s.length+1→(gu s=0∨i≤gu s) →
  xK T (.loop code87L0) ⟨[(0,.val (.str s)),(3,.val (.int .i64 (i:Nat)))],⟨O,b,w⟩⟩ (k:=⟨k⟩)=if gu s=0 then k (.exit 0) ⟨[],⟨O,b,w⟩⟩ else k .ret ⟨[(2,.val (.str (s.take (gu s))))],⟨O,b,w⟩⟩
 | 0,i,h0,hi,hc=>by
  have hle:=sx s;have hc:gu s=0:=by omega
  rw [ce];simp (disch:=omega) [code87L0,ileF,hc]
 | j+1,i,h0,hi,hc=>by
  have hle:=sx s;have h28:=fun w=>s28 (os:=O) (b:=b) (w:=w) (s:=s.take i) (by simp; omega)
  rw [ce];by_cases hi':i=gu s
  ·subst hi';have ht:isTy (s.take (gu s))=true:=isTy_cut (by omega);have hc0:¬ gu s=0:=by omega
   simp (disch:=omega) [code87L0,ileT,nleT,h28,ht,hc0];done
  ·have ht:isTy (s.take i)=false:=by rw [Bool.eq_false_iff];intro h;exact hi' (isTy_take (by omega) h)
   have ih:=l87 (O:=O) k hn j (i+1) (by omega) (by omega) (by omega);have e:((i+1:Nat):Int)=(i:Int)+1:=by omega
   rw [e] at ih;generalize ACode.loop code87L0=L at ih ⊢;simp (disch:=omega) [code87L0,ileT,nleT,dg,h28,ht,ih]
end
theorem s87 {s:List UInt8} (hn:s.length≤9223372036854775806):xCall T 87 [.str s] ⟨os,b,w⟩=some (.str (s.take (gu s)),⟨os,b,w⟩):=by
 have hl:=fun w (k:AExit→St→Option (AVal × Heap))=>l87 (O:=os) (b:=b) (w:=w) k hn s.length 1 (by omega) (by omega) (by omega)
 simp only [bh] at hl;by_cases h:gu s=0
 ·simp [av t87,code87,hl,h]
 ·simp [av t87,code87,hl,h]
def methA:Nat→List UInt8→Option (List (List UInt8) × List UInt8)
 | m,s=>if s=[]∨eg 41 s=true then some ([],s) else if gu s=0 then none else match m with
  | 0=>none
  | m+1=>(methA m (s.drop (gu s))).map fun p=>(s.take (gu s) :: p.1,p.2)
theorem ov:∀ {m:Nat} {s:List UInt8} {A:List (List UInt8)} {r:List UInt8},methA m s=some (A,r)→A.length≤m∧r.length≤s.length∧∀ t ∈ A,t.length≤s.length
 | m,s,A,r,h=>by
  unfold methA at h;split at h
  ·cases h; simp
  ·split at h
   ·cases h
   ·cases m with
    | zero=>cases h
    | succ m =>
     simp only at h;rw [ae] at h;obtain ⟨p,h1,h2⟩:=h;obtain ⟨rfl,rfl⟩:=Prod.mk.inj h2;obtain ⟨k1,k2,k3⟩:=ov (A:=p.1) (r:=p.2) h1;simp only [i7] at k2 k3;refine ⟨by simp; omega,by omega,fun t ht=>?_⟩;rcases cg.1 ht with rfl | ht
     ·simp; omega
     ·have:=k3 t ht; omega
def Meth38 (b w:Nat) (k:AExit→St→Option β) (x:Option β) (O:List AObj) (L:List (List UInt8)) (a2 a3:Nat):Option (List (List UInt8) × List UInt8)→Prop
 | none=>∃ O',O.length≤O'.length∧x=k .ret ⟨[(2,.val (.slice none 0 (some 0))),(3,.val (.str [])),(4,.val (.int .i64 8))],⟨O',b,w⟩⟩
 | some (A,r)=>∃ O',O.length≤O'.length∧x=k (.exit 0) ⟨if a2 < a3 then [(a2,.val (.str r)),(a3,.val (.slice (some (O'.length,0)) (L.length+A.length) none))] else [(a3,.val (.slice (some (O'.length,0)) (L.length+A.length) none)),(a2,.val (.str r))],⟨O'++[.cells 1 ((L++A).map AVal.str)],b,w⟩⟩
section
attribute [-simp] getElem?_pos getElem?_neg
set_option maxHeartbeats 1000000 in
theorem l38 (k:AExit→St→Option β):∀ (m:Nat) (s:List UInt8) (O:List AObj) (L:List (List UInt8)),s.length≤9223372036854775807→L.length+m=16→L≠[]→b≤O.length→w≤O.length →
  Meth38 b w k (xK T (.loop code38L0) ⟨[(5,.val (.str s)),(7,.val (.slice (some (O.length,0)) L.length none))],⟨O++[.cells 1 (L.map AVal.str)],b,w⟩⟩ (k:=⟨k⟩)) O L 5 7 (methA m s):=by
 intro m;induction m with
 | zero =>
  intro s O L hn hL hne hb hw;unfold methA;rw [ce];cases s with
  | nil =>
   simp only [true_or,if_true];refine ⟨O,ai _,?_⟩;simp [code38L0]
  | cons x r =>
   have e:((x.toNat:Int)=41)=(x=41):=mr x 41 (by omega);by_cases hx:x=41
   ·simp only [eg,hx,decide_true,or_true,if_true];refine ⟨O,ai _,?_⟩;simp (disch:=omega) [code38L0,e,hx,bf,iltT]
   ·have h86:=fun w=>s86 (os:=O++[.cells 1 (L.map AVal.str)]) (b:=b) (w:=w) hn (by simp; omega)
    have hL16:(L.length:Int)=16:=by omega
    have h0:∀ n:Nat,n≠0→List.take n (x :: r)≠[]:=fun n hn=>by cases n <;> simp_all
    by_cases hc:gu (x :: r)=0
    ·simp only [eg,hx,decide_false,reduceCtorEq,am,or_self,if_false,hc,if_true];refine ⟨O++[.cells 1 (L.map AVal.str)],by simp,?_⟩;simp (disch:=omega) [code38L0,e,hx,bf,iltT,h86,hc]
    ·simp only [eg,hx,decide_false,reduceCtorEq,am,or_self,if_false,hc];refine ⟨O++[.cells 1 (L.map AVal.str)],by simp,?_⟩;simp (disch:=omega) [code38L0,e,hx,bf,iltT,h86,h0 _ hc,hL16]
 | succ m ih =>
  intro s O L hn hL hne hb hw;unfold methA;rw [ce];cases s with
  | nil =>
   simp only [true_or,if_true];refine ⟨O,ai _,?_⟩;simp [code38L0]
  | cons x r =>
   have e:((x.toNat:Int)=41)=(x=41):=mr x 41 (by omega);by_cases hx:x=41
   ·simp only [eg,hx,decide_true,or_true,if_true];refine ⟨O,ai _,?_⟩;simp (disch:=omega) [code38L0,e,hx,bf,iltT]
   ·have h86:=fun w=>s86 (os:=O++[.cells 1 (L.map AVal.str)]) (b:=b) (w:=w) hn (by simp; omega)
    have hL16:¬ (L.length:Int)=16:=by omega
    have h0:∀ n:Nat,n≠0→List.take n (x :: r)≠[]:=fun n hn=>by cases n <;> simp_all
    by_cases hc:gu (x :: r)=0
    ·simp only [eg,hx,decide_false,reduceCtorEq,am,or_self,if_false,hc,if_true];refine ⟨O++[.cells 1 (L.map AVal.str)],by simp,?_⟩;simp (disch:=omega) [code38L0,e,hx,bf,iltT,h86,hc]
    ·simp only [eg,hx,decide_false,reduceCtorEq,am,or_self,if_false,hc];have hle:=sx (x :: r);have h0':=h0 _ hc;have hlt:(List.take (gu (x :: r)) (x :: r)).length=gu (x :: r):=by simp at hle ⊢; omega
     generalize ht:List.take (gu (x :: r)) (x :: r)=t at *;have hdr:List.take ((x :: r).length - gu (x :: r)) (List.drop (gu (x :: r)) (x :: r))=List.drop (gu (x :: r)) (x :: r):=mt ..;have hle2:(List.drop (gu (x :: r)) (x :: r)).length≤9223372036854775807:=by simp only [i7]; omega
     have ih:=ih (List.drop (gu (x :: r)) (x :: r)) (O++[.dead,.cells 1 [.str t]]) (L++[t]) hle2 (by simp; omega) (by simp) (by simp; omega) (by simp; omega);simp only [aq,bg,bp,bl,ci,bw,jp,b0,f8] at ih;generalize gu (x :: r)=n at *;generalize ACode.loop code38L0=LL at ih ⊢;have hle':n≤r.length+1:=by simpa using hle
     have hdr':List.take (r.length+1 - n) (List.drop n (x :: r))=List.drop n (x :: r):=by simpa using hdr
     have key:Meth38 b w k (xK T code38L0 ⟨[(5,.val (.str (x :: r))),(7,.val (.slice (some (O.length,0)) L.length none))],⟨O++[.cells 1 (L.map AVal.str)],b,w⟩⟩ (k:=⟨fun e st=>nxK e st (f:=⟨fun st=>xK T LL st (k:=⟨k⟩)⟩) (k:=⟨k⟩)⟩)) (O++[.dead,.cells 1 [.str t]]) (L++[t]) 5 7 (methA m (List.drop n (x :: r))):=by simp (maxSteps:=2000000) (disch:=omega) [code38L0,e,hx,bf,iltT,h86,h0',hL16,hne,ap,hlt,Nat.min_eq_left,ileT,nleT,nltT,hdr',ht];simpa using ih
     cases hm:methA m (List.drop n (x :: r)) with
     | none =>
      rw [hm] at key;obtain ⟨O',h1,h2⟩:=key;exact ⟨O',by simp at h1; omega,h2⟩
     | some p =>
      obtain ⟨A,q⟩:=p;rw [hm] at key;obtain ⟨O',h1,h2⟩:=key;refine ⟨O',by simp at h1; omega,h2.trans ?_⟩;simp [zp 1,bo]
end
end Go.Abs.Zd

namespace Go.Abs.Zd
variable {os:List AObj} {b w:Nat} {β:Type}
def Meth0 (b w:Nat) (k:AExit→St→Option β) (x:Option β) (O:List AObj) (a2 a3:Nat):Option (List (List UInt8) × List UInt8)→Prop
 | none=>∃ O',O.length≤O'.length∧x=k .ret ⟨[(2,.val (.slice none 0 (some 0))),(3,.val (.str [])),(4,.val (.int .i64 8))],⟨O',b,w⟩⟩
 | some ([],r)=>x=k (.exit 0) ⟨if a2 < a3 then [(a2,.val (.str r)),(a3,.val (.slice none 0 (some 0)))] else [(a3,.val (.slice none 0 (some 0))),(a2,.val (.str r))],⟨O,b,w⟩⟩
 | some (a :: A,r)=>∃ O',O.length≤O'.length∧x=k (.exit 0) ⟨if a2 < a3 then [(a2,.val (.str r)),(a3,.val (.slice (some (O'.length,0)) (A.length+1) none))] else [(a3,.val (.slice (some (O'.length,0)) (A.length+1) none)),(a2,.val (.str r))],⟨O'++[.cells 1 ((a :: A).map AVal.str)],b,w⟩⟩
section
attribute [-simp] getElem?_pos getElem?_neg
set_option maxHeartbeats 1000000 in
theorem l38z (k:AExit→St→Option β) (s:List UInt8) (O:List AObj) (hn:s.length≤9223372036854775807) (hb:b≤O.length) (hw:w≤O.length) :
  Meth0 b w k (xK T (.loop code38L0) ⟨[(5,.val (.str s)),(7,.val (.slice none 0 (some 0)))],⟨O,b,w⟩⟩ (k:=⟨k⟩)) O 5 7 (methA 16 s):=by
 unfold methA;rw [ce];cases s with
 | nil =>
  simp only [true_or,if_true];simp [Meth0,code38L0]
 | cons x r =>
  have e:((x.toNat:Int)=41)=(x=41):=mr x 41 (by omega);by_cases hx:x=41
  ·simp only [eg,hx,decide_true,or_true,if_true];simp (disch:=omega) [Meth0,code38L0,e,hx,bf,iltT]
  ·have h86:=fun w=>s86 (os:=O) (b:=b) (w:=w) hn hb
   have h0:∀ n:Nat,n≠0→List.take n (x :: r)≠[]:=fun n hn=>by cases n <;> simp_all
   by_cases hc:gu (x :: r)=0
   ·simp only [eg,hx,decide_false,reduceCtorEq,am,or_self,if_false,hc,if_true];refine ⟨O,ai _,?_⟩;simp (disch:=omega) [code38L0,e,hx,bf,iltT,h86,hc]
   ·simp only [eg,hx,decide_false,reduceCtorEq,am,or_self,if_false,hc];have hle:=sx (x :: r);have h0':=h0 _ hc;have hlt:(List.take (gu (x :: r)) (x :: r)).length=gu (x :: r):=by simp at hle ⊢; omega
    generalize ht:List.take (gu (x :: r)) (x :: r)=t at *;have hle2:(List.drop (gu (x :: r)) (x :: r)).length≤9223372036854775807:=by simp only [i7]; omega
    have hdr:List.take ((x :: r).length - gu (x :: r)) (List.drop (gu (x :: r)) (x :: r))=List.drop (gu (x :: r)) (x :: r):=mt ..;have ih:=l38 (b:=b) (w:=w) k 15 (List.drop (gu (x :: r)) (x :: r)) (O++[.cells 1 [.str t]]) [t] hle2 rfl (by simp) (by simp; omega) (by simp; omega);generalize gu (x :: r)=n at *;generalize ACode.loop code38L0=LL at ih ⊢;have hle':n≤r.length+1:=by simpa using hle
    have hdr':List.take (r.length+1 - n) (List.drop n (x :: r))=List.drop n (x :: r):=by simpa using hdr
    have key:Meth38 b w k (xK T code38L0 ⟨[(5,.val (.str (x :: r))),(7,.val (.slice none 0 (some 0)))],⟨O,b,w⟩⟩ (k:=⟨fun e st=>nxK e st (f:=⟨fun st=>xK T LL st (k:=⟨k⟩)⟩) (k:=⟨k⟩)⟩)) (O++[.cells 1 [.str t]]) [t] 5 7 (methA 15 (List.drop n (x :: r))):=by simp (maxSteps:=2000000) (disch:=omega) [code38L0,e,hx,bf,iltT,h86,h0',ap,hlt,Nat.min_eq_left,ileT,nleT,nltT,hdr',ht];simpa using ih
    cases hm:methA 15 (List.drop n (x :: r)) with
    | none =>
     rw [hm] at key;obtain ⟨O',h1,h2⟩:=key;exact ⟨O',by simp at h1; omega,h2⟩
    | some p =>
     obtain ⟨A,q⟩:=p;rw [hm] at key;obtain ⟨O',h1,h2⟩:=key;refine ⟨O',by simp at h1; omega,h2.trans ?_⟩;simp [zp 1,bo]
set_option maxHeartbeats 1000000 in
theorem l37 (k:AExit→St→Option β):∀ (m:Nat) (s:List UInt8) (O:List AObj) (L:List (List UInt8)),s.length≤9223372036854775806→L.length+m=16→L≠[]→b≤O.length→w≤O.length →
  Meth38 b w k (xK T (.loop code37L0) ⟨[(5,.val (.slice (some (O.length,0)) L.length none)),(6,.val (.str s))],⟨O++[.cells 1 (L.map AVal.str)],b,w⟩⟩ (k:=⟨k⟩)) O L 6 5 (methA m s):=by
 intro m;induction m with
 | zero =>
  intro s O L hn hL hne hb hw;unfold methA;rw [ce];cases s with
  | nil =>
   simp only [true_or,if_true];refine ⟨O,ai _,?_⟩;simp [code37L0]
  | cons x r =>
   have e:((x.toNat:Int)=41)=(x=41):=mr x 41 (by omega);by_cases hx:x=41
   ·simp only [eg,hx,decide_true,or_true,if_true];refine ⟨O,ai _,?_⟩;simp (disch:=omega) [code37L0,e,hx,bf,iltT]
   ·have h86:=fun w=>s87 (os:=O++[.cells 1 (L.map AVal.str)]) (b:=b) (w:=w) hn
    have hL16:(L.length:Int)=16:=by omega
    have h0:∀ n:Nat,n≠0→List.take n (x :: r)≠[]:=fun n hn=>by cases n <;> simp_all
    by_cases hc:gu (x :: r)=0
    ·simp only [eg,hx,decide_false,reduceCtorEq,am,or_self,if_false,hc,if_true];refine ⟨O++[.cells 1 (L.map AVal.str)],by simp,?_⟩;simp (disch:=omega) [code37L0,e,hx,bf,iltT,h86,hc]
    ·simp only [eg,hx,decide_false,reduceCtorEq,am,or_self,if_false,hc];refine ⟨O++[.cells 1 (L.map AVal.str)],by simp,?_⟩;simp (disch:=omega) [code37L0,e,hx,bf,iltT,h86,h0 _ hc,hL16]
 | succ m ih =>
  intro s O L hn hL hne hb hw;unfold methA;rw [ce];cases s with
  | nil =>
   simp only [true_or,if_true];refine ⟨O,ai _,?_⟩;simp [code37L0]
  | cons x r =>
   have e:((x.toNat:Int)=41)=(x=41):=mr x 41 (by omega);by_cases hx:x=41
   ·simp only [eg,hx,decide_true,or_true,if_true];refine ⟨O,ai _,?_⟩;simp (disch:=omega) [code37L0,e,hx,bf,iltT]
   ·have h86:=fun w=>s87 (os:=O++[.cells 1 (L.map AVal.str)]) (b:=b) (w:=w) hn
    have hL16:¬ (L.length:Int)=16:=by omega
    have h0:∀ n:Nat,n≠0→List.take n (x :: r)≠[]:=fun n hn=>by cases n <;> simp_all
    by_cases hc:gu (x :: r)=0
    ·simp only [eg,hx,decide_false,reduceCtorEq,am,or_self,if_false,hc,if_true];refine ⟨O++[.cells 1 (L.map AVal.str)],by simp,?_⟩;simp (disch:=omega) [code37L0,e,hx,bf,iltT,h86,hc]
    ·simp only [eg,hx,decide_false,reduceCtorEq,am,or_self,if_false,hc];have hle:=sx (x :: r);have h0':=h0 _ hc;have hlt:(List.take (gu (x :: r)) (x :: r)).length=gu (x :: r):=by simp at hle ⊢; omega
     generalize ht:List.take (gu (x :: r)) (x :: r)=t at *;have hdr:List.take ((x :: r).length - gu (x :: r)) (List.drop (gu (x :: r)) (x :: r))=List.drop (gu (x :: r)) (x :: r):=mt ..;have hle2:(List.drop (gu (x :: r)) (x :: r)).length≤9223372036854775806:=by simp only [i7]; omega
     have ih:=ih (List.drop (gu (x :: r)) (x :: r)) (O++[.dead,.cells 1 [.str t]]) (L++[t]) hle2 (by simp; omega) (by simp) (by simp; omega) (by simp; omega);simp only [aq,bg,bp,bl,ci,bw,jp,b0,f8] at ih;generalize gu (x :: r)=n at *;generalize ACode.loop code37L0=LL at ih ⊢;have hle':n≤r.length+1:=by simpa using hle
     have hdr':List.take (r.length+1 - n) (List.drop n (x :: r))=List.drop n (x :: r):=by simpa using hdr
     have key:Meth38 b w k (xK T code37L0 ⟨[(5,.val (.slice (some (O.length,0)) L.length none)),(6,.val (.str (x :: r)))],⟨O++[.cells 1 (L.map AVal.str)],b,w⟩⟩ (k:=⟨fun e st=>nxK e st (f:=⟨fun st=>xK T LL st (k:=⟨k⟩)⟩) (k:=⟨k⟩)⟩)) (O++[.dead,.cells 1 [.str t]]) (L++[t]) 6 5 (methA m (List.drop n (x :: r))):=by simp (maxSteps:=2000000) (disch:=omega) [code37L0,e,hx,bf,iltT,h86,h0',hL16,hne,ap,hlt,Nat.min_eq_left,ileT,nleT,nltT,hdr',ht];simpa using ih
     cases hm:methA m (List.drop n (x :: r)) with
     | none =>
      rw [hm] at key;obtain ⟨O',h1,h2⟩:=key;exact ⟨O',by simp at h1; omega,h2⟩
     | some p =>
      obtain ⟨A,q⟩:=p;rw [hm] at key;obtain ⟨O',h1,h2⟩:=key;refine ⟨O',by simp at h1; omega,h2.trans ?_⟩;simp [zp 1,bo]
set_option maxHeartbeats 1000000 in
theorem l37z (k:AExit→St→Option β) (s:List UInt8) (O:List AObj) (hn:s.length≤9223372036854775806) (hb:b≤O.length) (hw:w≤O.length) :
  Meth0 b w k (xK T (.loop code37L0) ⟨[(5,.val (.slice none 0 (some 0))),(6,.val (.str s))],⟨O,b,w⟩⟩ (k:=⟨k⟩)) O 6 5 (methA 16 s):=by
 unfold methA;rw [ce];cases s with
 | nil =>
  simp only [true_or,if_true];simp [Meth0,code37L0]
 | cons x r =>
  have e:((x.toNat:Int)=41)=(x=41):=mr x 41 (by omega);by_cases hx:x=41
  ·simp only [eg,hx,decide_true,or_true,if_true];simp (disch:=omega) [Meth0,code37L0,e,hx,bf,iltT]
  ·have h86:=fun w=>s87 (os:=O) (b:=b) (w:=w) hn
   have h0:∀ n:Nat,n≠0→List.take n (x :: r)≠[]:=fun n hn=>by cases n <;> simp_all
   by_cases hc:gu (x :: r)=0
   ·simp only [eg,hx,decide_false,reduceCtorEq,am,or_self,if_false,hc,if_true];refine ⟨O,ai _,?_⟩;simp (disch:=omega) [code37L0,e,hx,bf,iltT,h86,hc]
   ·simp only [eg,hx,decide_false,reduceCtorEq,am,or_self,if_false,hc];have hle:=sx (x :: r);have h0':=h0 _ hc;have hlt:(List.take (gu (x :: r)) (x :: r)).length=gu (x :: r):=by simp at hle ⊢; omega
    generalize ht:List.take (gu (x :: r)) (x :: r)=t at *;have hle2:(List.drop (gu (x :: r)) (x :: r)).length≤9223372036854775806:=by simp only [i7]; omega
    have hdr:List.take ((x :: r).length - gu (x :: r)) (List.drop (gu (x :: r)) (x :: r))=List.drop (gu (x :: r)) (x :: r):=mt ..;have ih:=l37 (b:=b) (w:=w) k 15 (List.drop (gu (x :: r)) (x :: r)) (O++[.cells 1 [.str t]]) [t] hle2 rfl (by simp) (by simp; omega) (by simp; omega);generalize gu (x :: r)=n at *;generalize ACode.loop code37L0=LL at ih ⊢;have hle':n≤r.length+1:=by simpa using hle
    have hdr':List.take (r.length+1 - n) (List.drop n (x :: r))=List.drop n (x :: r):=by simpa using hdr
    have key:Meth38 b w k (xK T code37L0 ⟨[(5,.val (.slice none 0 (some 0))),(6,.val (.str (x :: r)))],⟨O,b,w⟩⟩ (k:=⟨fun e st=>nxK e st (f:=⟨fun st=>xK T LL st (k:=⟨k⟩)⟩) (k:=⟨k⟩)⟩)) (O++[.cells 1 [.str t]]) [t] 6 5 (methA 15 (List.drop n (x :: r))):=by simp (maxSteps:=2000000) (disch:=omega) [code37L0,e,hx,bf,iltT,h86,h0',ap,hlt,Nat.min_eq_left,ileT,nleT,nltT,hdr',ht];simpa using ih
    cases hm:methA 15 (List.drop n (x :: r)) with
    | none =>
     rw [hm] at key;obtain ⟨O',h1,h2⟩:=key;exact ⟨O',by simp at h1; omega,h2⟩
    | some p =>
     obtain ⟨A,q⟩:=p;rw [hm] at key;obtain ⟨O',h1,h2⟩:=key;refine ⟨O',by simp at h1; omega,h2.trans ?_⟩;simp [zp 1,bo]
end
end Go.Abs.Zd

namespace Go.Abs.Zd
variable {os:List AObj} {b w:Nat} {β:Type}
theorem Meth0.elim {k:AExit→St→Option β} {x y:Option β} {O:List AObj} {a2 a3:Nat} {m:Option (List (List UInt8) × List UInt8)} (h:Meth0 b w k x O a2 a3 m)
  (h1:∀ O',m=none→O.length≤O'.length→k .ret ⟨[(2,.val (.slice none 0 (some 0))),(3,.val (.str [])),(4,.val (.int .i64 8))],⟨O',b,w⟩⟩=y)
  (h2:∀ r,m=some ([],r)→k (.exit 0) ⟨if a2 < a3 then [(a2,.val (.str r)),(a3,.val (.slice none 0 (some 0)))] else [(a3,.val (.slice none 0 (some 0))),(a2,.val (.str r))],⟨O,b,w⟩⟩=y)
  (h3:∀ O' a A r,m=some (a :: A,r)→O.length≤O'.length→k (.exit 0) ⟨if a2 < a3 then [(a2,.val (.str r)),(a3,.val (.slice (some (O'.length,0)) (A.length+1) none))] else [(a3,.val (.slice (some (O'.length,0)) (A.length+1) none)),(a2,.val (.str r))],⟨O'++[.cells 1 ((a :: A).map AVal.str)],b,w⟩⟩=y):x=y:=by
 cases m with
 | none =>
  obtain ⟨O',e1,e2⟩:=h;exact e2.trans (h1 O' rfl e1)
 | some p =>
  obtain ⟨A,r⟩:=p;cases A with
  | nil=>exact (show x=_ from h).trans (h2 r rfl)
  | cons a A =>
   obtain ⟨O',e1,e2⟩:=h;exact e2.trans (h3 O' a A r rfl e1)
def methL (s:List UInt8):Option (List (List UInt8) × List UInt8) :=
 if eg 40 s then (match methA 16 s.tail with
  | some (A,r)=>if eg 41 r && (decide (r.tail=[86]) || isTy r.tail) then some (A,r.tail) else none
  | none=>none)
 else none
def methV (n:Nat):Option (List (List UInt8) × List UInt8)→AVal
 | none=>.tuple [.slice none 0 (some 0),.str [],.int .i64 8]
 | some ([],r)=>.tuple [.slice none 0 (some 0),.str r,.int .i64 0]
 | some (a :: A,r)=>.tuple [.slice (some (n,0)) (A.length+1) none,.str r,.int .i64 0]
def methO (os:List AObj):Option (List (List UInt8) × List UInt8)→List AObj
 | some (a :: A,_)=>os++[.cells 1 ((a :: A).map AVal.str)]
 | _=>os
section
attribute [-simp] getElem?_pos getElem?_neg
attribute [local simp] gz gs
theorem s38 {s:List UInt8} (hn:s.length≤9223372036854775807) (hb:b≤os.length):xCall T 38 [.str s] ⟨os,b,w⟩=some (methV os.length (methL s),⟨methO os (methL s),b,w⟩):=by
 have h85:=fun w=>s85 (os:=os) (b:=b) (w:=w) (s:=s) (c:=40) (by omega)
 by_cases h:eg 40 s=true
 ·cases s with
  | nil=>simp [eg] at h
  | cons x q =>
   simp only [h,if_true,List.tail_cons] at h85;simp only [bg] at hn
   have hm:methL (x :: q)=(match methA 16 q with
     | some (A,r)=>if eg 41 r && (decide (r.tail=[86]) || isTy r.tail) then some (A,r.tail) else none
     | none=>none):=by
    unfold methL; rw [if_pos h]; rfl
   rw [hm];simp (disch:=omega) [av t38,code38,h85];refine Meth0.elim (l38z _ q os (by omega) hb (ai _)) ?_ ?_ ?_
   ·intro O' h1 h2;simp (disch:=omega) [code38,h1,methV,methO]
   ·intro r h1;have hr:=(ov h1).2.1;have h2:=fun w=>s85 (os:=os) (b:=b) (w:=w) (s:=r) (c:=41) (by omega)
    have h3:=fun w=>s27 (b:=b) (w:=w) (s:=r.tail) (by simp; omega) hb
    by_cases c1:eg 41 r=true <;> by_cases c2:r.tail=[86] <;> by_cases c3:isTy r.tail=true
    all_goals simp (disch:=omega) [code38,h1,h2,h3,c1,c2,c3,methV,methO]
   ·intro O' a A r h1 h2;have hr:=(ov h1).2.1;have hb':b≤(O'++[AObj.cells 1 ((a :: A).map AVal.str)]).length:=by simp; omega
    have h4:=fun w=>s85 (os:=O'++[.cells 1 ((a :: A).map AVal.str)]) (b:=b) (w:=w) (s:=r) (c:=41) (by omega)
    have h3:=fun w=>s27 (os:=O'++[.cells 1 ((a :: A).map AVal.str)]) (b:=b) (w:=w) (s:=r.tail) (by simp; omega) hb'
    simp only [b0] at h4 h3;by_cases c1:eg 41 r=true <;> by_cases c2:r.tail=[86] <;> by_cases c3:isTy r.tail=true
    all_goals simp (disch:=omega) [code38,h1,h4,h3,c1,c2,c3,methV,methO,nltF,jc,lb]
 ·have hm:methL s=none:=by unfold methL; rw [if_neg h]
  rw [hm];simp only [Bool.not_eq_true] at h;simp only [h,am,if_false] at h85;simp (disch:=omega) [av t38,code38,h85,methV,methO]
end
end Go.Abs.Zd

namespace Go.Abs.Zd
variable {os:List AObj} {b w:Nat} {β:Type}
theorem ye:∀ {m:Nat} {s:List UInt8} {A:List (List UInt8)} {r:List UInt8},methA m s=some (A,r)→r=[]∨eg 41 r=true
 | m,s,A,r,h=>by
  unfold methA at h;split at h
  ·rename_i hc;cases h; exact hc
  ·split at h
   ·cases h
   ·cases m with
    | zero=>cases h
    | succ m =>
     simp only at h;rw [ae] at h;obtain ⟨p,h1,h2⟩:=h;obtain ⟨rfl,rfl⟩:=Prod.mk.inj h2;exact ye (A:=p.1) (r:=p.2) h1
section
attribute [-simp] getElem?_pos getElem?_neg
attribute [local simp] gz gs
theorem s37 {s:List UInt8} (hn:s.length≤9223372036854775807) (hb:b≤os.length):xCall T 37 [.str s] ⟨os,b,w⟩=some (methV os.length (methL s),⟨methO os (methL s),b,w⟩):=by
 cases s with
 | nil =>
  simp (disch:=omega) [av t37,code37,methL,eg,methV,methO]
 | cons x q =>
  have e:((x.toNat:Int)=40)=(x=40):=mr x 40 (by omega);simp only [bg] at hn;by_cases h:x=40
  ·have hm:methL (x :: q)=(match methA 16 q with
     | some (A,r)=>if eg 41 r && (decide (r.tail=[86]) || isTy r.tail) then some (A,r.tail) else none
     | none=>none):=by
    unfold methL; rw [if_pos (by simp [eg,h])]; rfl
   rw [hm];simp (disch:=omega) [av t37,code37,e,h,iltT,ileT,nltT,nleT];refine Meth0.elim (l37z _ q os (by omega) hb (ai _)) ?_ ?_ ?_
   ·intro O' h1 h2;simp (disch:=omega) [code37,h1,methV,methO]
   ·intro r h1;have hr:=(ov h1).2.1;rcases ye h1 with c0 | c1
    ·subst c0;simp (disch:=omega) [code37,h1,eg,methV,methO]
    ·cases r with
     | nil=>simp [eg] at c1
     | cons y r =>
      simp only [bg] at hr;have h3:=fun w=>s28 (os:=os) (b:=b) (w:=w) (s:=r) (by omega)
      rcases Decidable.em (r=[86]) with c2 | c2
      ·subst c2;cases c3:isTy [86];all_goals simp (disch:=omega) [code37,h1,h3,c1,c3,methV,methO,iltT,ileT,nltT,nleT]
      by_cases c3:isTy r=true
      all_goals simp (disch:=omega) [code37,h1,h3,c1,c2,c3,methV,methO,iltT,ileT,nltT,nleT]
   ·intro O' a A r h1 h2;have hr:=(ov h1).2.1;rcases ye h1 with c0 | c1
    ·subst c0;simp (disch:=omega) [code37,h1,eg,methV,methO]
    ·cases r with
     | nil=>simp [eg] at c1
     | cons y r =>
      simp only [bg] at hr;have h3:=fun w=>s28 (os:=O'++[.cells 1 ((a :: A).map AVal.str)]) (b:=b) (w:=w) (s:=r) (by omega)
      simp only [b0] at h3;rcases Decidable.em (r=[86]) with c2 | c2
      ·subst c2;cases c3:isTy [86];all_goals simp (disch:=omega) [code37,h1,h3,c1,c3,methV,methO,nltF,nltT,iltT,ileT,nleT,jc,lb]
      by_cases c3:isTy r=true
      all_goals simp (disch:=omega) [code37,h1,h3,c1,c2,c3,methV,methO,nltF,nltT,iltT,ileT,nleT,jc,lb]
  ·have hm:methL (x :: q)=none:=by unfold methL; rw [if_neg (by simp [eg,h])]
   rw [hm];simp (disch:=omega) [av t37,code37,e,h,methV,methO,iltT,ileT,nltT,nleT]
end
end Go.Abs.Zd

namespace Go.Abs
theorem zbe {T T':Nat→Option AFunc} (hs:∀ g f,T g=some f→T' g=some f):∀ n,CallLe (fk T n) (fk T' n)
 | 0=>fun _ _ _ r hr=>by simp [fk] at hr
 | n+1=>fun g args h=>by
  intro r hr;have ih:=zbe hs n;simp only [fk] at hr ⊢;cases hT:T g with
  | none=>rw [hT] at hr; cases hr
  | some f =>
   rw [hT] at hr;rw [hs g f hT];simp only at hr ⊢;split at hr
   ·exact wi ih (ai _) _ _ _ _ r hr
   ·exact hr
   ·exact vk (fun args h=>ym ih (ai _) f args h) _ _ _ r hr
theorem fj {T T':Nat→Option AFunc} (hs:∀ g f,T g=some f→T' g=some f) {g:Nat} {args:List AVal} {h:Heap} {r:AVal × Heap} (he:xCall T g args h=some r):xCall T' g args h=some r:=by rw [kv] at he ⊢;obtain ⟨n,hn⟩:=he;exact ⟨n,zbe hs n _ _ _ _ hn⟩
end Go.Abs

namespace Go.Abs
abbrev Str:=List UInt8
section
variable {κ ν:Type} [DecidableEq κ]
def ents (kf:κ→AVal) (vf:ν→AVal):Nat→List (κ × ν)→List (AVal × AVal × Nat)
 | _,[]=>[]
 | i,x :: r=>(kf x.1,vf x.2,i) :: ents kf vf (i+1) r
def gg:List (κ × ν)→κ→Option ν
 | [],_=>none
 | x :: r,k=>if x.1=k then some x.2 else gg r k
def KeyF (kf:κ→AVal):Prop:=∀ a b,akey (kf a) (kf b)=some (decide (a=b))
theorem vu:KeyF (AVal.str:Str→AVal):=fun _ _=>rfl
omit [DecidableEq κ] in
theorem ents_app (kf:κ→AVal) (vf:ν→AVal):∀ (A B:List (κ × ν)) (i:Nat),ents kf vf i (A++B)=ents kf vf i A++ents kf vf (i+A.length) B
 | [],B,i=>by simp [ents]
 | x :: A,B,i=>by
  have e:i+1+A.length=i+(A.length+1):=by omega
  simp [ents,ents_app kf vf A B (i+1),e]
omit [DecidableEq κ] in
theorem zg (kf:κ→AVal) (vf:ν→AVal):∀ (A:List (κ × ν)) (i:Nat),(ents kf vf i A).length=A.length
 | [],_=>rfl
 | x :: A,i=>by simp [ents,zg kf vf A (i+1)]
theorem n9 (A B:List (κ × ν)) (k:κ):gg (A++B) k=(gg A k).or (gg B k):=by
 induction A with
 | nil=>rfl
 | cons x A ih =>
  rw [ci];simp only [gg];split
  ·rfl
  ·exact ih
theorem getE_none {A:List (κ × ν)} {k:κ}:gg A k=none ↔ ∀ x ∈ A,x.1≠k:=by
 induction A with
 | nil=>simp [gg]
 | cons x A ih =>
  simp only [gg];split
  ·rename_i h; simp [h]
  ·rename_i h; rw [ih]; simp [h]
theorem getE_mem {A:List (κ × ν)} {k:κ} {v:ν} (h:gg A k=some v):(k,v) ∈ A:=by
 induction A with
 | nil=>cases h
 | cons x A ih =>
  simp only [gg] at h;split at h
  ·rename_i e; cases h; subst e; exact bi ..
  ·exact bu _ (ih h)
theorem s8 {kf:κ→AVal} {vf:ν→AVal} (hk:KeyF kf) {k:κ}:∀ (A:List (κ × ν)) (i:Nat),gg A k=none→findA (kf k) (ents kf vf i A)=some none
 | [],_,_=>rfl
 | x :: A,i,h=>by
  simp only [gg] at h;split at h
  ·cases h
  ·rename_i e;simp only [ents,findA,hk k x.1,decide_eq_false (show ¬ k=x.1 from fun e'=>e e'.symm)];rw [s8 hk A (i+1) h];rfl
theorem vv {kf:κ→AVal} {vf:ν→AVal} (hk:KeyF kf) {k:κ} {v:ν}:∀ (A:List (κ × ν)) (i:Nat),gg A k=some v→∃ j,findA (kf k) (ents kf vf i A)=some (some (j,vf v))
 | [],_,h=>by cases h
 | x :: A,i,h=>by
  simp only [gg] at h;split at h
  ·rename_i e;cases h;exact ⟨0,by simp only [ents,findA,hk k x.1,decide_eq_true (show k=x.1 from e.symm)]⟩
  ·rename_i e;obtain ⟨j,hj⟩:=vv (vf:=vf) hk A (i+1) h;exact ⟨j+1,by simp only [ents,findA,hk k x.1,decide_eq_false (show ¬ k=x.1 from fun e'=>e e'.symm),hj]; rfl⟩
def ft (kf:κ→AVal) (vf:ν→AVal) (A:List (κ × ν)):AObj:=.map (ents kf vf 0 A) A.length
variable {os:List AObj} {b w r:Nat} {A:List (κ × ν)} {kf:κ→AVal} {vf:ν→AVal}
theorem ri (hk:KeyF kf) (h:os[r]? = some (ft kf vf A)) {kn:KeyT} {zero:AVal} {k:κ} (hi:isKey kn (kf k)=true) :
  dm (.lookup kn zero true) [.map (some r),kf k] ⟨os,b,w⟩=some (.tuple [((gg A k).map vf).getD zero,.bool (gg A k).isSome],⟨os,b,w⟩):=by
 simp only [dm,hi,entriesOf,Heap.get,h,ft,if_true];cases hg:gg A k with
 | none=>simp only [s8 hk A 0 hg]; rfl
 | some v =>
  obtain ⟨j,hj⟩:=vv (vf:=vf) hk A 0 hg;simp only [hj]; rfl
theorem lookup_v (hk:KeyF kf) (h:os[r]? = some (ft kf vf A)) {kn:KeyT} {zero:AVal} {k:κ} (hi:isKey kn (kf k)=true) :
  dm (.lookup kn zero false) [.map (some r),kf k] ⟨os,b,w⟩=some (((gg A k).map vf).getD zero,⟨os,b,w⟩):=by
 simp only [dm,hi,entriesOf,Heap.get,h,ft,if_true];cases hg:gg A k with
 | none=>simp only [s8 hk A 0 hg]; rfl
 | some v =>
  obtain ⟨j,hj⟩:=vv (vf:=vf) hk A 0 hg;simp only [hj]; rfl
theorem s9 (hk:KeyF kf) (h:os[r]? = some (ft kf vf A)) {kn:KeyT} {k:κ} (v:ν) (hi:isKey kn (kf k)=true) (hb:b≤r) (hg:gg A k=none) :
  dm (.mapupd kn) [.map (some r),kf k,vf v] ⟨os,b,w⟩=some (.tuple [],⟨os.set r (ft kf vf (A++[(k,v)])),b,min w r⟩):=by
 simp only [dm,hi,Heap.get,h,ft,hb,and_self,if_true];simp only [s8 hk A 0 hg,Heap.put];rw [ents_app,eh,aq];rfl
omit [DecidableEq κ] in
theorem len_map (h:os[r]? = some (ft kf vf A)):evLen .map (.map (some r)) ⟨os,b,w⟩=some (.int .i64 A.length):=by simp only [evLen,Heap.get,h,ft,zg]
end
theorem d8 {α:Type} (a c:List α) (k:Nat):(a++c)[a.length+k]? = c[k]?:=by rw [ak (by omega)]; congr 1; omega
theorem dj {α:Type} (a c:List α):(a++c)[a.length]? = c[0]?:=d8 a c 0
theorem ir {α:Type} (a c:List α) (k:Nat) (y:α):(a++c).set (a.length+k) y=a++c.set k y:=by rw [List.set_append_right _ _ (by omega)]; congr 2; omega
theorem gv {α:Type} (a c:List α) (y:α):(a++c).set a.length y=a++c.set 0 y:=ir a c 0 y
theorem uw {T:Nat→Option AFunc} {g:Nat} {f:AFunc} {rd:ARound} (hT:T g=some f) (hr:f.round=some (.round rd)) (i j:Nat) (a_s:List AVal) (h:Heap) :
  xCall T g (.ptr (some (i,j)) :: a_s) h=mustK (a_s.length=rd.params.length∧h.base≤i) (f:=⟨fun _=>andThen (ki i rd.params a_s h) (f:=⟨fun s=>xK T rd.assign ⟨s,{ h with wmin:=h.size }⟩
   (k:=⟨fun e st=>andThen (ku g i (some (e,st))) (f:=⟨fun st=>xK T rd.body st (k:=⟨fun e st=>roundOut h g i (some (e,st))⟩)⟩)⟩)⟩)⟩):=by
 rw [xRound_eq T hT hr];unfold xRound mustK;simp only;split
 ·cases ki i rd.params a_s h with
  | none=>rfl
  | some s =>
   simp only [dp];unfold xK;cases ip T rd.assign ⟨s,{ h with wmin:=h.size }⟩ with
   | none=>rfl
   | some x =>
    obtain ⟨e,st⟩:=x;simp only [dp];cases ku g i (some (e,st)) with
    | none=>rfl
    | some st =>
     simp only [dp];cases ip T rd.body st with
     | none=>rfl
     | some y=>rfl
 ·rfl
theorem nk {h0 h:Heap} {v:AVal} {k:List Nat} (hw:h0.size≤h.wmin) (hv:v.under h0.size=false) (hr:reach h h0.size 1000 v.ids []=k) (hok:∀ i ∈ v.ids++k.flatMap fun i=>((h.get i).map AObj.ids).getD [],i < h0.size∨i ∈ k) :
  dx h0 v h=(v.ren (fun i=>if i < h0.size then i else h0.size+idxIn i k),{ h0 with objs:=h0.objs++k.map fun i=>((h.get i).map (AObj.ren fun i=>if i < h0.size then i else h0.size+idxIn i k)).getD .dead }):=by
 unfold dx;rw [if_neg (by omega),hv];simp only [am,if_false,hr];rw [if_pos];rw [al];intro i hi;rcases hok i hi with h1 | h1
 ·rw [decide_eq_true h1]; rfl
 ·simp [h1]
end Go.Abs

namespace Go.Abs
structure FieldU where
 st:Bool
 name:Str
 desc:Str
structure InsU where
 op:Int
 n:Int
 m:Int
 cls:Str
 name:Str
 desc:Str
 text:Str
structure TrapU where
 lo:Int
 hi:Int
 at':Int
 cls:Str
structure MapU where
 at':Int
 locals:List Str
 la:Option (Nat × Nat)
 lc:Option Nat
 stack:List Str
 sa:Option (Nat × Nat)
 sc:Option Nat
structure MethU where
 st:Bool
 name:Str
 desc:Str
 stack:Int
 locals:Int
 code:List InsU
 ca:Option (Nat × Nat)
 cc:Option Nat
 traps:List TrapU
 ta:Option (Nat × Nat)
 tc:Option Nat
 maps:List MapU
 xa:Option (Nat × Nat)
 xc:Option Nat
structure UnitU where
 name:Str
 super:Str
 fields:List FieldU
 fa:Option (Nat × Nat)
 fc:Option Nat
 meths:List MethU
 ma:Option (Nat × Nat)
 mc:Option Nat
def FieldU.cells (f:FieldU):List AVal:=[.bool f.st,.str f.name,.str f.desc]
def InsU.cells (x:InsU):List AVal:=[.int .u8 x.op,.int .i64 x.n,.int .i64 x.m,.str x.cls,.str x.name,.str x.desc,.str x.text]
def TrapU.cells (x:TrapU):List AVal:=[.int .i64 x.lo,.int .i64 x.hi,.int .i64 x.at',.str x.cls]
def MapU.cells (x:MapU):List AVal:=[.int .i64 x.at',.slice x.la x.locals.length x.lc,.slice x.sa x.stack.length x.sc]
def MethU.cells (m:MethU):List AVal:=[.bool m.st,.str m.name,.str m.desc,.int .i64 m.stack,.int .i64 m.locals,.slice m.ca m.code.length m.cc,.slice m.ta m.traps.length m.tc,.slice m.xa m.maps.length m.xc]
def UnitU.cells (u:UnitU):List AVal:=[.str u.name,.str u.super,.slice u.fa u.fields.length u.fc,.slice u.ma u.meths.length u.mc]
def dt (s:Str):List AVal:=[.str s]
abbrev big:Nat:=9223372036854775807
def under (n:Nat) (a:Option (Nat × Nat)):Prop:=∀ i o,a=some (i,o)→i < n
structure MapU.ok (os:List AObj) (x:MapU):Prop where
 l:Row os 1 dt x.locals x.la
 ln:x.locals.length≤big
 lu:under os.length x.la
 s:Row os 1 dt x.stack x.sa
 sn:x.stack.length≤big
 su:under os.length x.sa
 ls:∀ t ∈ x.locals++x.stack,t.length≤big
structure MethU.ok (os:List AObj) (m:MethU):Prop where
 name:m.name.length≤big
 desc:m.desc.length≤big
 c:Row os 7 InsU.cells m.code m.ca
 cn:m.code.length≤big
 cu:under os.length m.ca
 cok:∀ x ∈ m.code,x.cls.length≤big∧x.name.length≤big∧x.desc.length≤big∧x.text.length≤big
 t:Row os 4 TrapU.cells m.traps m.ta
 tn:m.traps.length≤big
 tu:under os.length m.ta
 tok:∀ x ∈ m.traps,x.cls.length≤big
 x:Row os 3 MapU.cells m.maps m.xa
 xn:m.maps.length≤big
 xu:under os.length m.xa
 xok:∀ x ∈ m.maps,x.ok os
structure UnitU.ok (os:List AObj) (u:UnitU):Prop where
 name:u.name.length≤big
 super:u.super.length≤big
 f:Row os 3 FieldU.cells u.fields u.fa
 fn:u.fields.length≤big
 fu:under os.length u.fa
 fok:∀ x ∈ u.fields,x.name.length≤big∧x.desc.length≤big
 m:Row os 8 MethU.cells u.meths u.ma
 mn:u.meths.length≤big
 mu:under os.length u.ma
 mok:∀ x ∈ u.meths,x.ok os
def Pre (os O:List AObj):Prop:=∀ (i:Nat) (o:AObj),os[i]? = some o→O[i]? = some o
theorem Pre.refl (os:List AObj):Pre os os:=fun _ _ h=>h
theorem Pre.trans {A B C:List AObj} (h:Pre A B) (k:Pre B C):Pre A C:=fun i o ho=>k i o (h i o ho)
theorem Pre.app (os X:List AObj):Pre os (os++X):=fun i o h=>by rw [ag (aj h)]; exact h
theorem Pre.set {A B:List AObj} (h:Pre A B) {i:Nat} (o:AObj) (hi:A.length≤i):Pre A (B.set i o):=fun j p hj=>by have:=aj hj;rw [au (by omega)]; exact h j p hj
theorem Pre.len {A B:List AObj} (h:Pre A B):A.length≤B.length:=by
 rcases bj B.length A.length with h1 | h1
 ·have h2:B.length < A.length:=h1;have:=aj (h B.length A[B.length] (by simp [h2]));omega
 ·exact h1
theorem Pre.row {os O:List AObj} {α:Type} {e:Nat} {f:α→List AVal} {L:List α} {a:Option (Nat × Nat)} (hp:Pre os O) (h:Row os e f L a):Row O e f L a :=
 ⟨fun hne=>by obtain ⟨b,o,cs,h1,h2,h3⟩:=h.at' hne;exact ⟨b,o,cs,h1,hp _ _ h2,h3⟩⟩
theorem under.le {n m:Nat} {a:Option (Nat × Nat)} (h:under n a) (hm:n≤m):under m a:=fun i o e=>f7 (h i o e) hm
theorem MapU.ok.pre {os O:List AObj} (hp:Pre os O) {x:MapU} (h:x.ok os):x.ok O:=⟨hp.row h.l,h.ln,h.lu.le hp.len,hp.row h.s,h.sn,h.su.le hp.len,h.ls⟩
theorem MethU.ok.pre {os O:List AObj} (hp:Pre os O) {m:MethU} (h:m.ok os):m.ok O :=
 ⟨h.name,h.desc,hp.row h.c,h.cn,h.cu.le hp.len,h.cok,hp.row h.t,h.tn,h.tu.le hp.len,h.tok,hp.row h.x,h.xn,h.xu.le hp.len,fun x hx=>(h.xok x hx).pre hp⟩
theorem UnitU.ok.pre {os O:List AObj} (hp:Pre os O) {u:UnitU} (h:u.ok os):u.ok O :=
 ⟨h.name,h.super,hp.row h.f,h.fn,h.fu.le hp.len,h.fok,hp.row h.m,h.mn,h.mu.le hp.len,fun x hx=>(h.mok x hx).pre hp⟩
theorem under_val {n m:Nat} {a:Option (Nat × Nat)} {c:Option Nat} (h:under n a):AVal.under n (.slice a m c)=true:=by
 cases a with
 | none=>rfl
 | some p=>obtain ⟨i,o⟩:=p; simp [AVal.under,h i o rfl]
structure UnitU.low (n:Nat) (u:UnitU):Prop where
 f:under n u.fa
 m:under n u.ma
theorem UnitU.ok.low {O:List AObj} {u:UnitU} (h:u.ok O):u.low O.length:=⟨h.fu,h.mu⟩
section
variable {os:List AObj} {w:Nat}
def shIns:Sh:=.struct [.int .u8,.int .i64,.int .i64,.str,.str,.str,.str]
def shTrap:Sh:=.struct [.int .i64,.int .i64,.int .i64,.str]
def shMap:Sh:=.struct [.int .i64,.slice .str,.slice .str]
def shMeth:Sh:=.struct [.bool,.str,.str,.int .i64,.int .i64,.slice shIns,.slice shTrap,.slice shMap]
end
end Go.Abs

namespace Go.Abs.Zh
open Go.Abs.Zd
variable {os O:List AObj} {b w:Nat}
theorem s27 {s:Str} (hn:s.length≤9223372036854775807) (hb:b≤os.length):xCall T 27 [.str s] ⟨os,b,w⟩=some (.bool (isTy s),⟨os,b,w⟩):=fj sub (Zd.s27 hn hb)
theorem s28 {s:Str} (hn:s.length≤9223372036854775807):xCall T 28 [.str s] ⟨os,b,w⟩=some (.bool (isTy s),⟨os,b,w⟩):=fj sub (Zd.s28 hn)
theorem s25 {s:Str} (hb:b≤os.length):xCall T 25 [.str s] ⟨os,b,w⟩=some (.bool (im s),⟨os,b,w⟩):=fj sub (Zd.s25 hb)
theorem s26 {s:Str} (hn:s.length≤9223372036854775807):xCall T 26 [.str s] ⟨os,b,w⟩=some (.bool (im s),⟨os,b,w⟩):=fj sub (Zd.s26 hn)
theorem s34 {s:Str} (hn:s.length≤9223372036854775807):xCall T 34 [.str s] ⟨os,b,w⟩=some (classV s,⟨os,b,w⟩):=fj sub (Zd.s34 hn)
theorem s33 {s:Str} (hn:s.length≤9223372036854775807):xCall T 33 [.str s] ⟨os,b,w⟩=some (classV s,⟨os,b,w⟩):=fj sub (Zd.s33 hn)
theorem s38 {s:Str} (hn:s.length≤9223372036854775807) (hb:b≤os.length):xCall T 38 [.str s] ⟨os,b,w⟩=some (methV os.length (methL s),⟨methO os (methL s),b,w⟩):=fj sub (Zd.s38 hn hb)
theorem s37 {s:Str} (hn:s.length≤9223372036854775807) (hb:b≤os.length):xCall T 37 [.str s] ⟨os,b,w⟩=some (methV os.length (methL s),⟨methO os (methL s),b,w⟩):=fj sub (Zd.s37 hn hb)
theorem s139 {s:Str}:xCall T 139 [.str s,.str [91]] ⟨os,b,w⟩=some (.str (bare s),⟨os,b,w⟩):=fj sub Zd.s139
theorem s173 {s:Str} {c:UInt8} {h:Heap}:xCall T 173 [.str s,.str [c]] h=some (.int .i64 (Lib.indexByte s c),h):=fj sub Zd.s173
theorem d180 {s:Str} {c:UInt8}:xCall Zd.T 180 [.str s,.str [c]] ⟨os,b,w⟩=some (.bool (decide (0≤Lib.indexByte s c)),⟨os,b,w⟩):=by simp [av Zd.t180,code180,Zd.s173]
theorem s180 {s:Str} {c:UInt8}:xCall T 180 [.str s,.str [c]] ⟨os,b,w⟩=some (.bool (decide (0≤Lib.indexByte s c)),⟨os,b,w⟩):=fj sub d180
abbrev Key:=Str × Str × Str
structure Mem where
 cls:Str
 st:Bool
 deriving DecidableEq
def keyF (k:Key):AVal:=.agg [.str k.1,.str k.2.1,.str k.2.2]
def memF (m:Mem):AVal:=.agg [.str m.cls,.bool m.st]
theorem yd:KeyF keyF:=fun a c=>by
 obtain ⟨a1,a2,a3⟩:=a;obtain ⟨c1,c2,c3⟩:=c;simp only [keyF,akey,bg,bp,if_true,akeyL,akey1];by_cases h1:a1=c1
 ·by_cases h2:a2=c2
  ·by_cases h3:a3=c3 <;> simp [h1,h2,h3]
  ·simp [h1,h2]
 ·simp [h1]
structure World (O:List AObj) (N:Nat) (S:List (Str × Str)) (F M:List (Key × Mem)) (V:List (Key × Bool)):Prop where
 w0:O[N]? = some (.cells 4 [.map (some (N+1)),.map (some (N+2)),.map (some (N+3)),.map (some (N+4))])
 m1:O[N+1]? = some (ft .str .str S)
 m2:O[N+2]? = some (ft keyF memF F)
 m3:O[N+3]? = some (ft keyF memF M)
 m4:O[N+4]? = some (ft keyF .bool V)
variable {N:Nat} {S:List (Str × Str)} {F M:List (Key × Mem)} {V:List (Key × Bool)}
theorem World.lt (h:World O N S F M V):N+4 < O.length:=aj h.m4
theorem World.app (h:World O N S F M V) (X:List AObj):World (O++X) N S F M V:=by
 have:=h.lt;constructor <;> (rw [ag (by omega)])
 ·exact h.w0
 ·exact h.m1
 ·exact h.m2
 ·exact h.m3
 ·exact h.m4
theorem s96 (h:World O N S F M V) {c:Str}:xCall T 96 [.ptr (some (N,0)),.str c] ⟨O,b,w⟩=some (.tuple [.str ((gg S c).getD []),.bool (gg S c).isSome],⟨O,b,w⟩):=by
 have hl:=fun w=>ri (b:=b) (w:=w) (kn:=.one .s) (zero:=.str []) vu h.m1 (k:=c) rfl
 have e:((gg S c).map AVal.str).getD (.str []) = .str ((gg S c).getD []):=by cases gg S c <;> rfl
 rw [e] at hl;simp [-dm,av t96,code96,h.w0,hl]
theorem s54 (h:World O N S F M V) {c:Str}:xCall T 54 [.ptr (some (N,0)),.str c] ⟨O,b,w⟩=some (.bool (gg S c).isSome,⟨O,b,w⟩):=by
 have hl:=fun w=>s96 (b:=b) (w:=w) h (c:=c)
 simp [av t54,code54,hl]
def classOf (s:Str):Option Str:=if isObj s then some ((s.drop 1).take (s.length - 2)) else none
theorem pp (s:Str):classV s = .tuple [.str ((classOf s).getD []),.bool (classOf s).isSome]:=by unfold classV classOf;cases isObj s <;> rfl
def thereS (S:List (Str × Str)) (t:Str):Bool:=match classOf (bare t) with
 | some c=>(gg S c).isSome
 | none=>true
theorem s103 (h:World O N S F M V) {t:Str} (hn:t.length≤9223372036854775807):xCall T 103 [.ptr (some (N,0)),.str t] ⟨O,b,w⟩=some (.bool (thereS S t),⟨O,b,w⟩):=by
 have h1:=fun w=>s139 (os:=O) (b:=b) (w:=w) (s:=t)
 have hb:=rf t;have h2:=fun w=>s34 (os:=O) (b:=b) (w:=w) (s:=bare t) (by omega)
 have h3:=fun w c=>s54 (b:=b) (w:=w) h (c:=c)
 rw [pp] at h2;unfold thereS;cases hc:classOf (bare t) with
 | none=>rw [hc] at h2; simp [av t103,code103,h1,h2,h3]
 | some c=>rw [hc] at h2; simp [av t103,code103,h1,h2,h3]
def isName (s:Str):Bool:=!decide (0≤Lib.indexByte s 47) && im s
theorem s181 {s:Str} (hb:b≤O.length):xCall T 181 [.str s] ⟨O,b,w⟩=some (.bool (isName s),⟨O,b,w⟩):=by
 have h1:=fun w=>s180 (os:=O) (b:=b) (w:=w) (s:=s) (c:=47)
 have h2:=fun w=>s25 (os:=O) (b:=b) (w:=w) (s:=s) hb
 unfold isName;by_cases c:0≤Lib.indexByte s 47
 ·simp [av t181,code181,h1,h2,c]
 ·simp [av t181,code181,h1,h2,c]
end Go.Abs.Zh
