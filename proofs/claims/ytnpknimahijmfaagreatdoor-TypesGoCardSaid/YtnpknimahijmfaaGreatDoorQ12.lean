/-
  Texts joined.
-/
import Derived.Test.YtnpknimahijmfaaGreatDoorQ0
import Derived.Test.YtnpknimahijmfaaGreatDoorQ11
import Derived.Shelf.Spec.SlicesInsertGrow
import Derived.Test.YtnpknimahijmfaaGreatDoorQ8
import Derived.Test.YtnpknimahijmfaaGreatDoorQ10
import Derived.Test.YtnpknimahijmfaaGreatDoorQ9
set_option linter.unusedVariables false
set_option linter.unusedSimpArgs false
set_option maxRecDepth 100000
namespace Go.Abs
open Go.Proofs Go.Shelf Go.RowKit Go.Lib
variable {E:Env} {μ:MM} {h:Heap} {w:World}
theorem withBlock_self {w:World} {b:Nat} {o:Obj} (hb:w.heap[b]? = some o):withBlock w b o=w:=by
 have hlt:b < w.heap.size:=by
  rcases bf b w.heap.size with h | h
  ·exact h
  ·rw [Array.getElem?_eq_none h] at hb; cases hb
 rw [ij hlt] at hb
 have hb':=dg hb
 unfold withBlock
 have:w.heap.setIfInBounds b o=w.heap:=by
  apply Array.ext
  ·simp
  ·intro i h1 h2
   rw [Array.getElem_setIfInBounds (by simpa using h1)]
   split
   ·rename_i e; subst e; exact hb'.symm
   ·rfl
 rw [this]
theorem il {b:Nat} {e:TypeId} {fr:Nat × Nat}:∀ (vs:List Value) (o:Nat) {w:World} {c:Array Value},w.heap[b]? = some (.cells c e fr)→w.setCells b o vs=withBlock w b (.cells (spliceA c o vs) e fr)
 | [],o,w,c,hb=>(withBlock_self hb).symm
 | v :: r,o,w,c,hb=>by
  have hlt:b < w.heap.size:=by
   rcases bf b w.heap.size with h | h
   ·exact h
   ·rw [Array.getElem?_eq_none h] at hb; cases hb
  rw [World.setCells,setCell_block v hb,il r (o+1) (fe hlt),withBlock_twice]
  rfl
theorem ends_take (hr:Rel E μ h w) {j o n' cap esz:Nat} {m:M} {new:List AVal} {C':Array Value} {te:TypeId} {fr:Nat × Nat} {w':World} (hb:h.base≤j) (hm:μ[j]? = some (some m)) (he:m.esz=esz) (hf:Free E.room fr m.size)
  (hC:C'.size=m.size) (hw:w'.heap=(withBlock w m.blk (.cells C' te fr)).heap) (h2:w'.os=w.os) (h3:w'.tape=w.tape) (h4:w'.output=w.output) (hn:n'≤cap) (hx:cap≤9223372036854775807) (hsz:m.base+o+cap*m.esz≤m.size) (hl:new.length=n'*esz)
  (hnew:∀ (k:Nat) (v':AVal),new[k]? = some v'→v'.isOne=true∧∃ u,C'[m.base+o+k]? = some u∧VRel E μ v' u) :
  Ends E μ w (.slice (some (h.size,0)) n' none) (h.puts [(j,.dead)] [.cells esz new]) (.returned (.slice (some ⟨m.blk,m.base+o,none⟩) n' cap)) w':=by
 have hlen:h.size=μ.length:=hr.len.symm
 have hnl:n'*esz≤cap*m.esz:=by rw [he]; exact f9 _ hn
 have ho:ORel E (μ.set j none++[some ⟨m.blk,m.base+o,m.size,m.esz⟩]) h.base μ.length (withBlock w m.blk (.cells C' te fr)) (.cells esz new):=by
  refine ⟨⟨m.blk,m.base+o,m.size,m.esz⟩,C',te,fr,?_,he,fe (hr.lt j m hm),hC,by rw [hl]; show m.base+o+_≤m.size; omega,fun k v' hk=>?_,fun _=>hf⟩
  ·rw [ak (by simp)]; simp
  ·obtain ⟨q1,u,q2,q3⟩:=hnew k v' hk
   exact ⟨q1,u,q2,(q3.later (jt μ j)).later (gd _ _)⟩
 have ht:=hr.take (m':=⟨m.blk,m.base+o,m.size,m.esz⟩) hb hm rfl ho
 have hst:Step (fun _=>False) (h.puts [(j,.dead)] [.cells esz new]).wmin μ w (μ.set j none++[some ⟨m.blk,m.base+o,m.size,m.esz⟩]) (withBlock w m.blk (.cells C' te fr)) :=
  Step.take (m':=⟨m.blk,m.base+o,m.size,m.esz⟩) (.cells C' te fr) hm rfl (fg _ _)
 refine ⟨_,μ.set j none++[some ⟨m.blk,m.base+o,m.size,m.esz⟩],rfl,hst.heap hw h2 h3 h4,?_,ht.same rfl rfl hw⟩
 rw [hlen]
 simp only [VRel]
 refine ⟨_,cap,rfl,⟨by simp,hx⟩,fun _=>⟨some ⟨m.blk,m.base+o,m.size,m.esz⟩,by rw [ak (by simp)]; simp,fun m' hm'=>by cases hm'; rfl⟩,(fun k hk=>by cases hk),hn,fun m' hm'=>?_⟩
 rw [ak (by simp)] at hm'
 simp at hm'; subst hm'
 simpa using hsz
theorem ends_new (hr:Rel E μ h w) {n' cap esz:Nat} {new:List AVal} {C':Array Value} {te:TypeId} {w':World} (ps:List (Nat × AObj)) (hps:ps=[]∨∃ j,ps=[(j,.dead)])
  (hw:w'.heap=w.heap.push (.cells C' te (0,0))) (h2:w'.os=w.os) (h3:w'.tape=w.tape) (h4:w'.output=w.output) (hn:n'≤cap) (hx:cap≤9223372036854775807) (hsz:cap*esz≤C'.size) (hl:new.length=n'*esz)
  (hnew:∀ (k:Nat) (v':AVal),new[k]? = some v'→v'.isOne=true∧∃ u,C'[k]? = some u∧VRel E μ v' u) :
  Ends E μ w (.slice (some (h.size,0)) n' none) (h.puts ps [.cells esz new]) (.returned (.slice (some ⟨w.heap.size,0,none⟩) n' cap)) w':=by
 have key:∀ (h1:Heap) (μ1:MM) (wm:Nat),Later μ μ1→Rel E μ1 h1 w→h1.size=h.size→wm≤h1.wmin→Step (fun _=>False) wm μ w μ1 w→h1.wmin=wm →
   Ends E μ w (.slice (some (h.size,0)) n' none) (h1.push (.cells esz new)) (.returned (.slice (some ⟨w.heap.size,0,none⟩) n' cap)) w':=by
  intro h1 μ1 wm hl1 hr1 hs1 hwm hst hwe
  have hlen:h.size=μ1.length:=by rw [← hs1]; exact hr1.len.symm
  have hnl:n'*esz≤cap*esz:=f9 _ hn
  have ho:ORel E (μ1++[some ⟨w.heap.size,0,C'.size,esz⟩]) h1.base μ1.length { w with heap:=w.heap.push (.cells C' te (0,0)) } (.cells esz new):=by
   refine ⟨⟨w.heap.size,0,C'.size,esz⟩,C',te,(0,0),by simp,rfl,by simp,rfl,by show 0+new.length≤C'.size; rw [hl,dv]; exact dh hnl hsz,fun k v' hk=>?_,fun _ off _=>by simp⟩
   obtain ⟨q1,u,q2,q3⟩:=hnew k v' hk
   exact ⟨q1,u,by rw [dv]; exact q2,(q3.later hl1).later (gd _ _)⟩
  have hp:=hr1.push (.cells esz new) (.cells C' te (0,0)) ⟨w.heap.size,0,C'.size,esz⟩ rfl ho
  have hs:Step (fun _=>False) (h1.push (.cells esz new)).wmin μ1 w (μ1++[some ⟨w.heap.size,0,C'.size,esz⟩]) { w with heap:=w.heap.push (.cells C' te (0,0)) }:=Step.push _ μ1 w _ _ (aj _)
  have hs2:=hst.trans hs (by show h1.wmin≤wm; omega)
  refine ⟨_,μ1++[some ⟨w.heap.size,0,C'.size,esz⟩],rfl,hs2.heap hw h2 h3 h4,?_,hp.same rfl rfl hw⟩
  rw [hlen]
  exact slice_new rfl hn (fun k hk=>by cases hk) hsz hx
 rcases hps with rfl | ⟨j,rfl⟩
 ·exact key h μ h.wmin (Later.refl _) hr rfl (aj _) (Step.refl _ _ _ _) rfl
 ·exact key (h.put j .dead) (μ.set j none) (min h.wmin j) (jt μ j) (hr.kill j) (by simp [Heap.put,Heap.size]) (aj _) (Step.kill μ w (fg _ _)) rfl
theorem push_set {α:Type} (a:Array α) (x y:α):(a.push x).setIfInBounds a.size y=a.push y:=by
 apply Array.ext_getElem?
 intro i
 by_cases e:a.size=i
 ·subst e; simp
 ·rw [dq e,ef,ef,if_neg (Ne.symm e),if_neg (Ne.symm e)]
def strV (s:List UInt8):Value:=.string ⟨s.toArray⟩
theorem strs_val (cs:List (List UInt8)):∀ v ∈ cs.map strV,v.oneCell'=true:=fun v hv=>by
 rw [d7] at hv
 obtain ⟨s,_,rfl⟩:=hv
 rfl
def insertF:List AVal→Heap→Option (AVal × List (Nat × AObj) × List AObj)
 | [.slice a n _,.int .i64 i,.slice (some (vi,vo)) m _],h =>
  match rowStrs a n h,rowStrs (some (vi,vo)) m h with
  | some cs,some vs =>
   if 0≤i∧i≤n∧0 < m∧(n+m)*16≤140737488355328∧h.base≤vi then
    match a with
    | none=>some (.slice (some (h.size,0)) (n+m) none,[],[.cells 1 ((cs.take i.toNat++vs++cs.drop i.toNat).map .str)])
    | some (j,_)=>if h.base≤j∧j≠vi∧rowIs h j 1=true then some (.slice (some (h.size,0)) (n+m) none,[(j,.dead)],[.cells 1 ((cs.take i.toNat++vs++cs.drop i.toNat).map .str)]) else none
   else none
  | _,_=>none
 | _,_=>none
theorem strV_get {l:List (List UInt8)} {k:Nat} {v:Value} (h:(l.map strV)[k]? = some v):∃ s,l[k]? = some s∧v=strV s:=by
 rw [cr,ae] at h
 obtain ⟨s,h1,h2⟩:=h
 exact ⟨s,h1,h2.symm⟩
theorem strs_new {l:List (List UInt8)} {C:Array Value} {at':Nat} (hC:∀ (k:Nat) (s:List UInt8),l[k]? = some s→C[at'+k]? = some (strV s)):∀ (k:Nat) (v':AVal),(l.map AVal.str)[k]? = some v'→v'.isOne=true∧∃ u,C[at'+k]? = some u∧VRel E μ v' u:=fun k v' hk=>by
 rw [cr,ae] at hk
 obtain ⟨s,h1,rfl⟩:=hk
 exact ⟨rfl,_,hC k s h1,by simp only [VRel]; rfl⟩
theorem ins_get {cs vs:List (List UInt8)} {i k:Nat} (hi:i≤cs.length):(cs.take i++vs++cs.drop i)[k]? = if k < i then cs[k]? else if k < i+vs.length then vs[k - i]? else cs[k - vs.length]?:=by
 have hl:(cs.take i).length=i:=by rw [List.length_take]; omega
 by_cases h1:k < i
 ·rw [if_pos h1,bh,ag (by omega),List.getElem?_take,if_pos h1]
 ·rw [if_neg h1]
  by_cases h2:k < i+vs.length
  ·rw [if_pos h2,ag (by rw [aw]; omega),ak (by omega),hl]
  ·rw [if_neg h2,ak (by rw [aw]; omega),aw,hl,dt]
   congr 1; omega
theorem insert_ok {ρ:Ren} (hroom1:E.room=1) (L:Lays2.n22 E.P ρ) {f:FuncId} {fn:Func} (hf:f=ρ.f 22) (hn:fn.name ≠ "runtime.NumGoroutine") (hb:fn.body.isSome=true):LibOK E f fn insertF where
 name:=hn
 body:=hb
 run:=fun args h v ps xs e μ w args' ha hr=>by
  subst hf
  unfold insertF at e
  split at e
  case h_2=>cases e
  rename_i a n c i vi vo m vc
  split at e
  case h_2=>cases e
  rename_i cs vs hcs hvs
  split at e
  case isFalse=>cases e
  rename_i hh
  obtain ⟨hi0,hin,hm,hbig,hbv⟩:=hh
  obtain ⟨q,rfl⟩:=ge hi0
  simp only [Int.toNat_natCast] at e
  simp only [VRels] at ha
  obtain ⟨v1,r1,e1,q1,v2,r2,e2,q2,v3,r3,e3,q3,e4⟩:=ha
  subst e4 e3 e2
  have ha':args' = #[v1,v2,v3]:=by rw [← Array.toList_inj,e1]
  subst ha'
  simp only [VRel] at q2
  subst q2
  obtain ⟨vb,voff,vcap,hv3,hvl,hvcap,hvb,hvcells⟩:=rowStrs_cells hr q3 hvs (by omega)
  subst hv3
  have hvsc:∀ (j:Nat) (v:Value),(vs.map strV)[j]? = some v→w.cell? ⟨vb,voff+j,none⟩=some v:=fun j v hv=>by
   obtain ⟨s,s1,rfl⟩:=strV_get hv
   exact hvcells j _ (by rw [cr,s1]; rfl)
  have hqn:q≤n:=by omega
  have hvi:∃ cx,h.get vi=some (.cells 1 cx):=by
   unfold rowStrs at hvs
   rw [if_neg (by omega)] at hvs
   simp only at hvs
   unfold Heap.get
   cases hx:h.objs[vi]? with
   | none=>rw [hx] at hvs; cases hvs
   | some ob =>
    rw [hx] at hvs
    cases ob with
    | cells ez cx =>
     split at hvs
     ·rename_i heq; cases heq; exact ⟨_,rfl⟩
     ·cases hvs
    | _=>cases hvs
  obtain ⟨cx,hvi⟩:=hvi
  obtain ⟨mv,ccv,tev,frv,a1,a2,a3,a4,a5,a6,a7⟩:=hr.obj vi _ hvi
  have hvbm:vb=mv.blk:=by
   simp only [VRel] at q3
   obtain ⟨ad,cap',g1,_,g2,_,g3,_⟩:=q3
   obtain ⟨x,x1,x2⟩:=g2 (by omega)
   rw [a1] at x1; cases x1
   have:=x2 mv rfl
   subst this
   cases g1
   rfl
  have hfv:=a7 hbv
  have hfrz:∀ off,off≤mv.size→w.frozen? ⟨vb,off,none⟩=false:=fun off ho=>by
   have:=hfv off (by rw [hroom1]; omega)
   rw [hvbm]
   simp only [World.frozen?,a3]
   simpa using this
  have hvoff:voff < mv.size:=by
   obtain ⟨x,hx⟩:∃ x,(vs.map strV)[0]? = some x:=⟨_,ah (by rw [fh]; omega)⟩
   have:=hvsc 0 x hx
   rw [hvbm,gn a3] at this
   rw [← a4]
   rcases bf voff ccv.size with h | h
   ·exact h
   ·rw [Array.getElem?_eq_none (by omega)] at this; cases this
  have h1v:=strs_val vs
  have h1c:=strs_val cs
  have hvll:(vs.map strV).length=m:=by rw [fh,hvl]
  have take:∀ {j oo:Nat} {cap:Nat} {mj:M} {cc:Array Value} {te:TypeId} {fr:Nat × Nat},h.base≤j→μ[j]? = some (some mj)→mj.esz=1→Free E.room fr mj.size→w.heap[mj.blk]? = some (.cells cc te fr)→cc.size=mj.size→(n+m≤cap∧cap≤9223372036854775807)→mj.base+oo+cap≤mj.size→cs.length=n →
    (∀ (k:Nat) (s:List UInt8),cs[k]? = some s→cc[mj.base+oo+k]? = some (strV s))→j≠vi →
    (∀ w':World,w'.heap=(withBlock w mj.blk (.cells (spliceA (spliceA cc (mj.base+oo+(q+m)) ((cs.drop q).map strV)) (mj.base+oo+q) (vs.map strV)) te fr)).heap→w'.os=w.os→w'.tape=w.tape→w'.output=w.output →
     Ends E μ w (.slice (some (h.size,0)) (n+m) none) (h.puts [(j,.dead)] [.cells 1 ((cs.take q++vs++cs.drop q).map .str)]) (.returned (.slice (some ⟨mj.blk,mj.base+oo,none⟩) (n+m) cap)) w'):=by
   intro j oo cap mj cc te fr b1 b2 b3 b4 b5 b6 b7 b8 b9 b10 b11 w' w1 w2 w3 w4
   have hdl:((cs.drop q).map strV).length=n - q:=by rw [fh,gg,b9]
   have hfit1:mj.base+oo+(q+m)+((cs.drop q).map strV).length≤cc.size:=by rw [hdl]; omega
   have hfit2:mj.base+oo+q+(vs.map strV).length≤(spliceA cc (mj.base+oo+(q+m)) ((cs.drop q).map strV)).size:=by rw [fq,hvll]; omega
   refine ends_take hr b1 b2 b3 b4 (by rw [fq,fq]; exact b6) w1 w2 w3 w4 b7.1 b7.2 (by rw [b3]; omega) (by simp; omega) (strs_new fun k s hk=>?_)
   rw [ins_get (by omega)] at hk
   rw [jp _ _ _ _ hfit2,jp _ _ _ _ hfit1,hvll,hdl]
   split at hk
   ·rw [if_neg (by omega),if_neg (by omega)]
    exact b10 k s hk
   ·split at hk
    ·rw [if_pos (by omega),show mj.base+oo+k - (mj.base+oo+q)=k - q by omega,cr,hk]
     rfl
    ·have:=ai hk
     rw [if_neg (by omega),if_pos (by omega),show mj.base+oo+k - (mj.base+oo+(q+m))=k - (q+m) by omega,cr,dt,show q+(k - (q+m))=k - vs.length by omega,hk]
     rfl
  have grow:∀ (psx:List (Nat × AObj)) (cap:Nat) (C:Array Value) (te:TypeId),(psx=[]∨∃ j,psx=[(j,.dead)])→(n+m≤cap∧cap≤9223372036854775807)→cap≤C.size→cs.length=n →
    (∀ (k:Nat) (s:List UInt8),(cs.take q++vs++cs.drop q)[k]? = some s→C[k]? = some (strV s)) →
    (∀ w':World,w'.heap=w.heap.push (.cells C te (0,0))→w'.os=w.os→w'.tape=w.tape→w'.output=w.output →
     Ends E μ w (.slice (some (h.size,0)) (n+m) none) (h.puts psx [.cells 1 ((cs.take q++vs++cs.drop q).map .str)]) (.returned (.slice (some ⟨w.heap.size,0,none⟩) (n+m) cap)) w'):=by
   intro psx cap C te b1 b2 b3 b4 b5 w' w1 w2 w3 w4
   refine ends_new hr psx b1 w1 w2 w3 w4 b2.1 b2.2 (by simpa using b3) (by simp; omega) ?_
   have:=strs_new (E:=E) (μ:=μ) (at':=0) (C:=C) fun k s hk=>by rw [dv]; exact b5 k s hk
   intro k v' hk
   obtain ⟨g1,u,g2,g3⟩:=this k v' hk
   exact ⟨g1,u,by rw [dv] at g2; exact g2,g3⟩
  have endgrow:∀ (base:Option Addr) (cap:Nat) (psx:List (Nat × AObj)),v1 = .slice base n cap→q=n→cs.length=n→(psx=[]∨∃ j,psx=[(j,.dead)])→n≤cap→cap < n+m→(base=none→n=0)→(∀ a,base=some a→∀ (j:Nat) (v:Value),(cs.map strV)[j]? = some v→w.cell? (a.add j)=some v) →
    Calls E.P (ρ.f 22) #[v1,.int .i64 (q:Int),.slice (some ⟨vb,voff,none⟩) m vcap] w (Ends E μ w (.slice (some (h.size,0)) (n+m) none) (h.puts psx [.cells 1 ((cs.take q++vs++cs.drop q).map .str)])):=by
   intro base cap psx b1 b2 b3 b4 b5 b6 b7 b8
   subst b1
   have:=Any2.slices_Insert_string_end_grow L base n cap vb voff m vcap (cs.map strV) (vs.map strV) w hm b5 b6 hbig (by rw [fh,b3]) hvll b7 b8 hvsc h1v
   rw [show ((q:Nat):Int)=((n:Nat):Int) by omega]
   refine this.mono fun e w' ⟨g1,g2⟩=>?_
   subst g1 g2
   have hg:n+m≤grownCap w (n+m) cap (ρ.t 9)∧grownCap w (n+m) cap (ρ.t 9)≤9223372036854775807:=⟨le_grown w (n+m) cap (ρ.t 9),grownCap_le_maxLen w (n+m) cap (ρ.t 9) (by show n+m≤9223372036854775807; omega)⟩
   refine grow psx _ (((cs.map strV)++(vs.map strV)).toArray++Builtin.zeroCells (Value.string ⟨#[]⟩).cells (grownCap w (n+m) cap (ρ.t 9) - (n+m))) (ρ.t 9) b4 hg ?_ b3 (fun k s hk=>?_) _ ?_ ?_ ?_ ?_
   rotate_left 2
   ·rfl
   ·rfl
   ·rfl
   ·rfl
   ·simp [Builtin.zeroCells,b3,hvl]
    have:(Value.string ⟨#[]⟩).cells.size=1:=rfl
    rw [this]
    omega
   ·rw [b2,eh (by omega),bg (by omega),ci] at hk
    rw [kj (by have:=ai hk; simpa using this)]
    rw [List.getElem?_toArray,← gy,cr,hk]
    rfl
  by_cases hn0:n=0
  ·-- nothing is there
   subst hn0
   have hcl:cs=[]:=by simpa [rowStrs] using hcs.symm
   have hcl0:cs.length=0:=by rw [hcl]; rfl
   have hq:q=0:=by omega
   cases a with
   | none =>
    simp only at e
    cases e
    simp only [VRel] at q1
    exact endgrow none 0 [] q1.2.2 hq hcl0 (.inl rfl) (aj _) (by omega) (fun _=>rfl) (fun a ha=>by cases ha)
   | some p =>
    obtain ⟨j,oo⟩:=p
    simp only at e
    split at e
    case isFalse=>cases e
    rename_i hj
    cases e
    obtain ⟨hbj,hjv,hrow⟩:=hj
    unfold rowIs at hrow
    split at hrow
    case h_2=>cases hrow
    rename_i e' csx hg
    have he':e'=1:=by simpa using hrow
    subst he'
    obtain ⟨mj,cc,te,fr,k1,k2,k3,k4,k5,k6,k7⟩:=hr.obj j _ hg
    simp only [VRel] at q1
    obtain ⟨ad,cap,g1,g2,g3,g4,g5,g6⟩:=q1
    by_cases hroom:0+m≤cap
    ·obtain ⟨x,x1,x2⟩:=g3 (by omega)
     rw [k1] at x1; cases x1
     have:=x2 mj rfl
     subst this
     subst g1
     have hs:=g6 mj k1
     rw [k2,Nat.mul_one] at hs
     have:=Any2.slices_Insert_string_end_room L mj.blk (mj.base+oo) 0 cap vb voff m vcap (vs.map strV) w hm hroom g2.2 hvll (fun i hi=>?_) (fun i hi=>?_) hvsc h1v
     ·subst hq
      refine this.mono fun e w' ⟨g7,g8⟩=>?_
      subst g7
      rw [gt,il _ _ k3] at g8
      subst g8
      refine take hbj k1 k2 (k7 hbj) k3 k4 ⟨hroom,g2.2⟩ hs hcl0 (fun k s hk=>by rw [hcl] at hk; simp at hk) hjv _ ?_ rfl rfl rfl
      rw [hcl]
      rfl
     ·rw [gn k3,ij (by rw [k4]; omega)]; rfl
     ·have:=k7 hbj (mj.base+oo+0+i) (by omega)
      simp only [World.frozen?,k3]
      simpa using this
    ·exact endgrow (some ad) cap _ g1 hq hcl0 (.inr ⟨j,rfl⟩) (dm _) (by omega) (fun h=>by cases h) (fun a ha j v hjv=>by rw [hcl] at hjv; simp at hjv)
  ·obtain ⟨bk,o,cap,hv1,hcl,hncap,hbk,hcells⟩:=rowStrs_cells hr q1 hcs hn0
   have hcsc:∀ (j:Nat) (v:Value),(cs.map strV)[j]? = some v→w.cell? ⟨bk,o+j,none⟩=some v:=fun j v hv=>by
    obtain ⟨s,s1,rfl⟩:=strV_get hv
    exact hcells j _ (by rw [cr,s1]; rfl)
   cases a with
   | none=>simp [rowStrs,hn0] at hcs
   | some p =>
    obtain ⟨j,oo⟩:=p
    simp only at e
    split at e
    case isFalse=>cases e
    rename_i hj
    cases e
    obtain ⟨hbj,hjv,hrow⟩:=hj
    unfold rowIs at hrow
    split at hrow
    case h_2=>cases hrow
    rename_i e' csx hg
    have he':e'=1:=by simpa using hrow
    subst he'
    obtain ⟨mj,cc,te,fr,k1,k2,k3,k4,k5,k6,k7⟩:=hr.obj j _ hg
    simp only [VRel] at q1
    obtain ⟨ad,cap',g1,g2,g3,g4,g5,g6⟩:=q1
    rw [hv1] at g1
    cases g1
    obtain ⟨x,x1,x2⟩:=g3 (by omega)
    rw [k1] at x1; cases x1
    have hA:=x2 mj rfl
    have hbk2:bk=mj.blk:=congrArg Addr.block hA
    have ho2:o=mj.base+oo:=congrArg Addr.off hA
    subst hbk2 ho2
    subst hv1
    have hs:=g6 mj k1
    rw [k2,Nat.mul_one] at hs
    have hcc:∀ (k:Nat) (s:List UInt8),cs[k]? = some s→cc[mj.base+oo+k]? = some (strV s):=fun k s hk=>by
     have:=hcsc k (strV s) (by rw [cr,hk]; rfl)
     rwa [gn k3] at this
    by_cases hroom:n+m≤cap
    ·have hsp:∀ i,i < n+m→(w.cell? ⟨mj.blk,mj.base+oo+i,none⟩).isSome=true:=fun i hi=>by
      rw [gn k3,ij (by rw [k4]; omega)]; rfl
     have hfz:∀ i,i < n+m→w.frozen? ⟨mj.blk,mj.base+oo+i,none⟩=false:=fun i hi=>by
      have:=k7 hbj (mj.base+oo+i) (by omega)
      simp only [World.frozen?,k3]
      simpa using this
     by_cases hqe:q=n
     ·subst hqe
      have:=Any2.slices_Insert_string_end_room L mj.blk (mj.base+oo) q cap vb voff m vcap (vs.map strV) w hm hroom g2.2 hvll (fun i hi=>by rw [cg]; exact hsp _ (by omega)) (fun i hi=>by rw [cg]; exact hfz _ (by omega)) hvsc h1v
      refine this.mono fun e w' ⟨g7,g8⟩=>?_
      subst g7
      rw [il _ _ k3] at g8
      subst g8
      refine take hbj k1 k2 (k7 hbj) k3 k4 ⟨hroom,g2.2⟩ hs hcl hcc hjv _ ?_ rfl rfl rfl
      rw [bg (by omega)]
      rfl
     ·have hne:vb≠mj.blk:=by rw [hvbm]; exact fun e=>hr.sep j vi mj mv hjv hbj k1 a1 e.symm
      have:=Any2.slices_Insert_string_shift L mj.blk (mj.base+oo) n cap q vb voff m vcap (cs.map strV) (vs.map strV) w (by omega) hm hroom g2.2 hne (by rw [fh,hcl]) hvll hcsc hsp hfz hvsc h1c h1v
       tev te mv.size mj.size (by rw [hvbm]; simp only [World.shape?,a3]; rw [a4]) (by simp only [World.shape?,k3]; rw [k4]) (by omega) (hfrz voff (by omega)) (hfrz mv.size (aj _))
      refine this.mono fun e w' ⟨g7,g8⟩=>?_
      subst g7 g8
      have e1:w.drew.setCells mj.blk (mj.base+oo+(q+m)) ((cs.map strV).drop q)=withBlock w.drew mj.blk (.cells (spliceA cc (mj.base+oo+(q+m)) ((cs.map strV).drop q)) te fr):=il _ _ k3
      have e2:=il (vs.map strV) (mj.base+oo+q) (fe (w:=w.drew) (o:=.cells (spliceA cc (mj.base+oo+(q+m)) ((cs.map strV).drop q)) te fr) (hr.lt j mj k1))
      rw [e1,e2,withBlock_twice,← List.map_drop]
      exact take hbj k1 k2 (k7 hbj) k3 k4 ⟨hroom,g2.2⟩ hs hcl hcc hjv _ rfl rfl rfl rfl
    ·by_cases hqe:q=n
     ·exact endgrow _ cap _ rfl hqe hcl (.inr ⟨j,rfl⟩) hncap (by omega) (fun h=>by cases h) (fun a ha i v hi=>by cases ha; rw [ke]; exact hcsc i v hi)
     ·have:=Any2.slices_Insert_string_grow L mj.blk (mj.base+oo) n cap q vb voff m vcap (cs.map strV) (vs.map strV) w (by omega) hm hncap (by omega) hbig (by rw [fh,hcl]) hvll hcsc hvsc h1c h1v
      refine this.mono fun e w' ⟨g7,g8⟩=>?_
      subst g7
      have hg:n+m≤grownCap w (n+m) cap (ρ.t 9)∧grownCap w (n+m) cap (ρ.t 9)≤9223372036854775807:=⟨le_grown w (n+m) cap (ρ.t 9),grownCap_le_maxLen w (n+m) cap (ρ.t 9) (by show n+m≤9223372036854775807; omega)⟩
      generalize hC0:((cs.map strV).take q).toArray++Builtin.zeroCells (Value.string ⟨#[]⟩).cells (n+m - q)++Builtin.zeroCells (Value.string ⟨#[]⟩).cells (grownCap w (n+m) cap (ρ.t 9) - (n+m))=C0 at g8
      have hC0s:C0.size=grownCap w (n+m) cap (ρ.t 9):=by
       rw [← hC0]
       have:(Value.string ⟨#[]⟩).cells.size=1:=rfl
       simp [Builtin.zeroCells,this,hcl]
       omega
      have hC0g:∀ k,k < q→C0[k]? = (cs.map strV)[k]?:=fun k hk=>by
       have hlq:((cs.map strV).take q).length=q:=by rw [List.length_take,fh]; omega
       rw [← hC0,Array.append_assoc,kj (by simp [hlq]; omega),List.getElem?_toArray,List.getElem?_take,if_pos hk]
      have hal:(w.alloc (.cells C0 (ρ.t 9))).heap[w.heap.size]? = some (.cells C0 (ρ.t 9) (0,0)):=heap_alloc_new w _
      have e1:=il (vs.map strV) q (w:=(w.alloc (.cells C0 (ρ.t 9))).drew) hal
      rw [e1] at g8
      have hlt:w.heap.size < (w.alloc (.cells C0 (ρ.t 9))).drew.heap.size:=by show w.heap.size < (w.heap.push _).size; rw [Array.size_push]; exact Nat.lt_succ_self _
      have e2:=il ((cs.map strV).drop q) (q+m) (w:=(withBlock (w.alloc (.cells C0 (ρ.t 9))).drew w.heap.size (.cells (spliceA C0 q (vs.map strV)) (ρ.t 9) (0,0))).drew) (fe hlt)
      rw [e2] at g8
      subst g8
      refine grow _ _ (spliceA (spliceA C0 q (vs.map strV)) (q+m) ((cs.map strV).drop q)) (ρ.t 9) (.inr ⟨j,rfl⟩) hg (by rw [fq,fq,hC0s]; exact aj _) hcl (fun k s hk=>?_) _ ?_ rfl rfl rfl
      ·rw [ins_get (by omega)] at hk
       have f1:q+(vs.map strV).length≤C0.size:=by rw [hvll,hC0s]; omega
       have f2:q+m+((cs.map strV).drop q).length≤(spliceA C0 q (vs.map strV)).size:=by rw [fq,hC0s,gg,fh]; omega
       rw [jp _ _ _ _ f2,jp _ _ _ _ f1,hvll,gg,fh,hcl]
       split at hk
       ·rw [if_neg (by omega),if_neg (by omega),hC0g k (by assumption),cr,hk]; rfl
       ·split at hk
        ·rw [if_neg (by omega),if_pos (by omega),cr,hk]; rfl
        ·have:=ai hk
         rw [if_pos (by omega),dt,show q+(k - (q+m))=k - vs.length by omega,cr,hk]; rfl
      ·show ((w.heap.push _).setIfInBounds w.heap.size _).setIfInBounds w.heap.size _=_
       rw [push_set,push_set]
end Go.Abs

namespace Go.Abs.AbsTyp
open Go.Abs.Short
-- base: AbsOrd
def code31:AFunc:=⟨false,false,1,15,[.tmp 2],
 .seq (R [0] [o 2 (.val F)])
 (.seq (R [2] [v 3 0,o 4 (.bin .neq (t 3) (.const (.str []))),v 5 4,g 6 5 true (.val (t 0)),g 7 5 true (.index (t 6) (n 0)),g 8 5 true (.bin .eql (t 7) (.const (.int .u8 76))),g 9 5 true (.val (t 8)),g 10 9 false (.val (t 0)),g 11 9 false (.index (t 10) (n 0)),g 12 9 false (.bin .eql (t 11) (.const (.int .u8 91))),g 13 5 true (.pick (t 9) Y (t 12)),o 14 (.pick (t 5) (t 13) F),v 2 14])
 (.live [2] (.ret))),none⟩
def code32:AFunc:=⟨false,false,1,6,[.tmp 2],
 .seq (R [0] [o 2 (.val (.const (.str [])))])
 (.seq (R [2] [v 3 0,o 4 (.bin .add (.const (.str [76])) (t 3)),o 5 (.bin .add (t 4) (.const (.str [59]))),v 2 5])
 (.live [2] (.ret))),none⟩
def code35:AFunc:=⟨false,false,1,13,[.tmp 2,.tmp 3],
 .seq (R [0] [o 2 (.val (.const (.str []))),o 3 (.val F)])
 (.seq (.seq (R [0,10] [v 4 0,o 5 (.bin .eql (t 4) (.const (.str []))),v 6 5,g 7 6 false (.val (t 0)),g 8 6 false (.index (t 7) (n 0)),g 9 6 false (.bin .neq (t 8) (.const (.int .u8 91))),o 10 (.pick (t 6) Y (t 9))])
 (.after (.cond (t 10) (.seq (R [2,3] [o 2 (.val (.const (.str []))),o 3 (.val F)])
 (.live [2,3] (.ret))) (.skip)) [0]))
 (.seq (R [2,3] [v 11 0,o 12 (.slice .str (t 11) (some (n 1)) none none),v 2 12,o 3 (.val Y)])
 (.live [2,3] (.ret)))),none⟩
def code239:AFunc:=⟨false,false,2,42,[.cell 4 (some 2),.tmp 5],
 .seq (R [0,3,4] [o 3 (.lbox (t 1)),o 4 (.lalloc [.slice none 0 (some 0),.slice none 0 (some 0)]),o 5 (.val (n 0))])
 (.seq (R [0,3,4,6,8] [o 11 (.faddr (t 3) 2),o 12 (.load none (t 11)),o 13 (.callg 38 [t 12]),v 10 13,o 14 (.extract (t 10) 0),o 15 (.extract (t 10) 1),o 16 (.extract (t 10) 2),v 6 14,v 7 15,v 8 16])
 (.seq (.seq (R [0,3,4,6,8,18] [v 17 8,o 18 (.bin .neq (t 17) (n 0))])
 (.after (.cond (t 18) (.seq (R [4,5] [o 19 (.build [.slice none 0 (some 0),.slice none 0 (some 0)] []),v 20 8,u (.store 2 (t 4) (t 19)),v 5 20])
 (.live [4,5] (.ret))) (.skip)) [0,3,4,6]))
 (.seq (R [0,3,4,9] [v 21 6,o 22 (.callg 100260 [t 21]),v 9 22])
 (.seq (.seq (R [0,3,4,9,25] [o 23 (.faddr (t 3) 0),o 24 (.load none (t 23)),o 25 (.un .not (t 24))])
 (.after (.cond (t 25) (R [3,4,9] [v 26 9,v 27 0,o 28 (.callg 32 [t 27]),o 29 (.mkslice 1 1 [.str []] [(0,1,t 28)]),o 30 (.callg 262 [t 26,n 0,t 29]),v 9 30]) (.skip)) [3,4,9]))
 (.seq (.seq (R [3,4,9,35] [v 31 9,o 32 (.len .sl (t 31)),o 33 (.faddr (t 3) 4),o 34 (.load none (t 33)),o 35 (.bin .gtr (t 32) (t 34))])
 (.after (.cond (t 35) (.seq (R [4,5] [o 36 (.build [.slice none 0 (some 0),.slice none 0 (some 0)] []),u (.store 2 (t 4) (t 36)),o 5 (.val (n 8))])
 (.live [4,5] (.ret))) (.skip)) [3,4,9]))
 (.seq (R [4,5] [v 37 9,o 38 (.faddr (t 3) 4),o 39 (.load none (t 38)),o 40 (.callg 261 [t 37,t 39]),o 41 (.build [.slice none 0 (some 0),.slice none 0 (some 0)] [(0,1,t 40)]),u (.store 2 (t 4) (t 41)),o 5 (.val (n 0))])
 (.live [4,5] (.ret)))))))),none⟩
def code240:AFunc:=⟨false,false,1,31,[.tmp 2,.tmp 3,.tmp 4],
 .seq (R [0] [o 2 (.val (.const (.ptr none))),o 3 (.val (.const (.slice none 0 (some 0)))),o 4 (.val F)])
 (.seq (R [5] [v 10 0,o 11 (.build [.slice none 0 (some 0),.int .i64 0] [(0,1,t 10)]),o 12 (.box (t 11)),o 13 (.callg 48 [t 12]),v 5 13])
 (.seq (R [5,6,7] [v 15 5,o 16 (.callg 49 [t 15]),v 14 16,o 17 (.extract (t 14) 0),o 18 (.extract (t 14) 1),v 6 17,v 7 18])
 (.seq (R [6,7,8,9] [v 20 5,o 21 (.callg 107 [t 20]),v 19 21,o 22 (.extract (t 19) 0),o 23 (.extract (t 19) 1),v 8 22,v 9 23])
 (.seq (R [2,3,4] [v 24 6,v 25 8,v 26 9,v 27 26,g 28 27 true (.val (t 7)),g 29 27 true (.bin .eql (t 28) (n 0)),o 30 (.pick (t 27) (t 29) F),v 2 24,v 3 25,v 4 30])
 (.live [2,3,4] (.ret)))))),none⟩
def code242L0:ACode :=
 .live [21,22,23] (.seq (R [21,22,23,24] [o 24 (.bin .lss (t 23) (t 22))])
 (.seq (.after (.cond (t 24) (.skip) (.live [] (.exit 0))) [21,22,23])
 (.seq (.after (.block 1 (.seq (R [4,21,22,23] [o 25 (.iaddr 1 (t 21) (t 23)),o 26 (.load none (t 25)),v 4 26])
 (.seq (R [21,22,23,29] [v 27 4,o 28 (.len .str (t 27)),o 29 (.bin .gtr (t 28) (n 150))])
 (.after (.cond (t 29) (.seq (R [2] [o 2 (.val F)])
 (.live [2] (.ret))) (.skip)) [21,22,23])))) [21,22,23])
 (R [21,22,23] [o 30 (.bin .add (t 23) (n 1)),v 23 30]))))
def code242R0:ACode :=
 .after (.region [⟨true,[0,0,2,7,0,16,63,127,0],[o 15 (.mkslice 1 0 [] []),o 16 (.faddr (t 1) 0),o 17 (.load none (t 16)),o 18 (.append 1 16 (t 15) (t 17)),o 19 (.faddr (t 1) 1),o 20 (.load none (t 19)),o 21 (.append 1 16 (t 18) (t 20)),o 22 (.len .sl (t 21)),o 23 (.val (n 0))]⟩]) [21,22,23]
def code242:AFunc:=⟨false,false,1,31,[.tmp 2],
 .seq (R [1] [o 1 (.lbox (t 0)),o 2 (.val F)])
 (.seq (.seq (R [1,14] [o 5 (.faddr (t 1) 0),o 6 (.load none (t 5)),o 7 (.len .sl (t 6)),o 8 (.bin .gtr (t 7) (n 100)),v 9 8,g 10 9 false (.faddr (t 1) 1),g 11 9 false (.load none (t 10)),g 12 9 false (.len .sl (t 11)),g 13 9 false (.bin .gtr (t 12) (n 100)),o 14 (.pick (t 9) Y (t 13))])
 (.after (.cond (t 14) (.seq (R [2] [o 2 (.val F)])
 (.live [2] (.ret))) (.skip)) [1]))
 (.seq (.seq (code242R0)
 (.after (.block 0 (.loop code242L0)) []))
 (.seq (R [2] [o 2 (.val Y)])
 (.live [2] (.ret))))),none⟩
def code243:AFunc:=⟨true,false,0,78,[.tmp 0],
 .seq (R [] [o 0 (.val F)])
 (.seq (R [1,2] [o 9 (.build [.bool false,.str [],.str [],.int .i64 0,.int .i64 0,.slice none 0 (some 0),.slice none 0 (some 0),.slice none 0 (some 0)] [(2,1,.const (.str [40,74,41,86])),(4,1,n 4)]),o 10 (.callg 239 [.const (.str [65]),t 9]),v 8 10,o 11 (.extract (t 8) 0),o 12 (.extract (t 8) 1),o 1 (.lalloc [.slice none 0 (some 0),.slice none 0 (some 0)]),u (.store 2 (t 1) (t 11)),v 2 12])
 (.seq (R [1,2,3] [o 13 (.mkslice 1 2 [.str [],.str []] [(0,1,.const (.str [74])),(1,1,.const (.str [73]))]),o 14 (.callg 100260 [t 13]),v 3 14])
 (.seq (R [1,2,3,4,5] [o 16 (.load (some 2) (t 1)),o 17 (.callg 254 [t 16,.const (.str [73]),n 1]),v 15 17,o 18 (.extract (t 15) 0),o 19 (.extract (t 15) 1),o 4 (.lalloc [.slice none 0 (some 0),.slice none 0 (some 0)]),u (.store 2 (t 4) (t 18)),v 5 19])
 (.seq (R [1,2,3,4,5,7] [o 21 (.load (some 2) (t 4)),o 22 (.callg 254 [t 21,.const (.str [73]),n 1]),v 20 22,o 23 (.extract (t 20) 0),o 24 (.extract (t 20) 1),o 6 (.lalloc [.slice none 0 (some 0),.slice none 0 (some 0)]),u (.store 2 (t 6) (t 23)),v 7 24])
 (.seq (R [0] [v 25 2,o 26 (.bin .eql (t 25) (n 0)),v 27 26,g 28 27 true (.val (t 3)),g 29 27 true (.len .sl (t 28)),g 30 27 true (.bin .eql (t 29) (n 3)),o 31 (.pick (t 27) (t 30) F),v 32 31,g 33 32 true (.val (t 3)),g 34 32 true (.iaddr 1 (t 33) (n 1)),g 35 32 true (.load none (t 34)),g 36 32 true (.bin .eql (t 35) (.const (.str [45]))),o 37 (.pick (t 32) (t 36) F),v 38 37,g 39 38 true (.faddr (t 1) 0),g 40 38 true (.load none (t 39)),g 41 38 true (.len .sl (t 40)),g 42 38 true (.bin .eql (t 41) (n 4)),o 43 (.pick (t 38) (t 42) F),v 44 43,g 45 44 true (.faddr (t 1) 0),g 46 44 true (.load none (t 45)),g 47 44 true (.iaddr 1 (t 46) (n 0)),g 48 44 true (.load none (t 47)),g 49 44 true (.bin .eql (t 48) (.const (.str [76,65,59]))),o 50 (.pick (t 44) (t 49) F),v 51 50,g 52 51 true (.faddr (t 1) 0),g 53 51 true (.load none (t 52)),g 54 51 true (.iaddr 1 (t 53) (n 2)),g 55 51 true (.load none (t 54)),g 56 51 true (.bin .eql (t 55) (.const (.str [45]))),o 57 (.pick (t 51) (t 56) F),v 58 57,g 59 58 true (.faddr (t 1) 0),g 60 58 true (.load none (t 59)),g 61 58 true (.iaddr 1 (t 60) (n 3)),g 62 58 true (.load none (t 61)),g 63 58 true (.bin .eql (t 62) (.const (.str [84]))),o 64 (.pick (t 58) (t 63) F),v 65 64,g 66 65 true (.val (t 5)),o 67 (.pick (t 65) (t 66) F),v 68 67,g 69 68 true (.val (t 7)),g 70 68 true (.un .not (t 69)),o 71 (.pick (t 68) (t 70) F),v 72 71,g 73 72 true (.faddr (t 4) 1),g 74 72 true (.load none (t 73)),g 75 72 true (.len .sl (t 74)),g 76 72 true (.bin .eql (t 75) (n 1)),o 77 (.pick (t 72) (t 76) F),v 0 77])
 (.live [0] (.ret))))))),none⟩
def code245:AFunc:=⟨false,false,3,23,[.tmp 6],
 .seq (R [3,4,5] [o 3 (.box (t 0)),o 4 (.lbox (t 1)),o 5 (.lbox (t 2)),o 6 (.val F)])
 (.seq (R [4,5,7] [o 8 (.mkfunc 271 [] [t 3]),v 7 8])
 (.seq (R [6] [o 9 (.faddr (t 4) 0),o 10 (.load none (t 9)),o 11 (.faddr (t 5) 0),o 12 (.load none (t 11)),v 13 7,o 14 (.callg 270 [t 10,t 12,t 13]),v 15 14,g 16 15 true (.faddr (t 4) 1),g 17 15 true (.load none (t 16)),g 18 15 true (.faddr (t 5) 1),g 19 15 true (.load none (t 18)),g 20 15 true (.val (t 7)),g 21 15 true (.callg 270 [t 17,t 19,t 20]),o 22 (.pick (t 15) (t 21) F),v 6 22])
 (.live [6] (.ret)))),none⟩
def code246:AFunc:=⟨false,false,3,21,[.tmp 6],
 .seq (R [0,4,5] [o 4 (.lbox (t 1)),o 5 (.lbox (t 2)),o 6 (.val F)])
 (.seq (R [6] [v 7 0,o 8 (.faddr (t 4) 0),o 9 (.load none (t 8)),o 10 (.faddr (t 5) 0),o 11 (.load none (t 10)),o 12 (.callg 272 [t 7,t 9,t 11]),v 13 12,g 14 13 true (.val (t 0)),g 15 13 true (.faddr (t 4) 1),g 16 13 true (.load none (t 15)),g 17 13 true (.faddr (t 5) 1),g 18 13 true (.load none (t 17)),g 19 13 true (.callg 272 [t 14,t 16,t 18]),o 20 (.pick (t 13) (t 19) F),v 6 20])
 (.live [6] (.ret))),none⟩
def code247:AFunc:=⟨false,false,3,24,[.tmp 6],
 .seq (R [0,1,2] [o 6 (.val F)])
 (.seq (.after (.block 0 (.seq (R [0,1,2,7] [v 8 2,o 9 (.bin .eql (t 8) (.const (.str [84]))),v 7 9])
 (.after (.cond (t 7) (.seq (R [6] [o 6 (.val Y)])
 (.live [6] (.ret))) (.seq (R [0,1,2,10] [v 11 1,o 12 (.callg 267 [t 11]),v 13 12,g 14 13 false (.val (t 2)),g 15 13 false (.callg 267 [t 14]),o 16 (.pick (t 13) Y (t 15)),v 10 16])
 (.after (.cond (t 10) (.seq (R [6] [v 17 1,v 18 2,o 19 (.bin .eql (t 17) (t 18)),v 6 19])
 (.live [6] (.ret))) (.skip)) [0,1,2]))) [0,1,2]))) [0,1,2])
 (.seq (R [6] [v 20 0,v 21 1,v 22 2,o 23 (.callg 47 [t 20,t 21,t 22]),v 6 23])
 (.live [6] (.ret)))),none⟩
def code248:AFunc:=⟨false,false,3,22,[.tmp 6],
 .seq (R [0,1,2] [o 6 (.val F)])
 (.seq (.seq (R [0,1,2,8] [v 7 2,o 8 (.bin .eql (t 7) (.const (.str [84])))])
 (.after (.cond (t 8) (.seq (R [6] [o 6 (.val Y)])
 (.live [6] (.ret))) (.skip)) [0,1,2]))
 (.seq (.seq (R [0,1,2,14] [v 9 1,o 10 (.callg 269 [t 9]),v 11 10,g 12 11 false (.val (t 2)),g 13 11 false (.callg 269 [t 12]),o 14 (.pick (t 11) Y (t 13))])
 (.after (.cond (t 14) (.seq (R [6] [v 15 1,v 16 2,o 17 (.bin .eql (t 15) (t 16)),v 6 17])
 (.live [6] (.ret))) (.skip)) [0,1,2]))
 (.seq (R [6] [v 18 0,v 19 1,v 20 2,o 21 (.callg 268 [t 18,t 19,t 20]),v 6 21])
 (.live [6] (.ret))))),none⟩
def code249:AFunc:=⟨false,false,3,76,[.tmp 6],
 .seq (R [0,4,5] [o 4 (.lbox (t 1)),o 5 (.lbox (t 2)),o 6 (.val F)])
 (.seq (.seq (R [0,4,5,11] [o 10 (.callg 243 []),o 11 (.un .not (t 10))])
 (.after (.cond (t 11) (.seq (R [6] [o 6 (.val F)])
 (.live [6] (.ret))) (.skip)) [0,4,5]))
 (.seq (.seq (R [0,4,5,24] [v 12 0,o 13 (.len .sl (t 12)),o 14 (.bin .gtr (t 13) (n 100)),v 15 14,g 16 15 false (.load (some 2) (t 4)),g 17 15 false (.callg 242 [t 16]),g 18 15 false (.un .not (t 17)),o 19 (.pick (t 15) Y (t 18)),v 20 19,g 21 20 false (.load (some 2) (t 5)),g 22 20 false (.callg 242 [t 21]),g 23 20 false (.un .not (t 22)),o 24 (.pick (t 20) Y (t 23))])
 (.after (.cond (t 24) (.seq (R [6] [o 6 (.val Y)])
 (.live [6] (.ret))) (.skip)) [0,4,5]))
 (.seq (R [4,5,7,8,9] [v 26 0,o 27 (.callg 240 [t 26]),v 25 27,o 28 (.extract (t 25) 0),o 29 (.extract (t 25) 1),o 30 (.extract (t 25) 2),v 7 28,v 8 29,v 9 30])
 (.seq (.seq (.after (.region [⟨false,[],[o 31 (.faddr (t 4) 0),o 32 (.load none (t 31)),o 33 (.len .sl (t 32)),o 34 (.bin .gtr (t 33) (n 0)),v 35 34,g 36 35 true (.faddr (t 5) 0),g 37 35 true (.load none (t 36)),g 38 35 true (.len .sl (t 37)),g 39 35 true (.bin .gtr (t 38) (n 0)),o 40 (.pick (t 35) (t 39) F),v 41 40]⟩,⟨true,[],[g 42 41 true (.val (t 7)),g 43 41 true (.faddr (t 4) 0),g 44 41 true (.load none (t 43)),g 45 41 true (.iaddr 1 (t 44) (n 0)),g 46 41 true (.load none (t 45)),g 47 41 true (.faddr (t 5) 0),g 48 41 true (.load none (t 47)),g 49 41 true (.iaddr 1 (t 48) (n 0)),g 50 41 true (.load none (t 49)),g 51 41 true (.callg 247 [t 42,t 46,t 50]),g 52 41 true (.val (t 8)),g 53 41 true (.faddr (t 4) 0),g 54 41 true (.load none (t 53)),g 55 41 true (.iaddr 1 (t 54) (n 0)),g 56 41 true (.load none (t 55)),g 57 41 true (.faddr (t 5) 0),g 58 41 true (.load none (t 57)),g 59 41 true (.iaddr 1 (t 58) (n 0)),g 60 41 true (.load none (t 59))]⟩,⟨false,[],[g 61 41 true (.callg 248 [t 52,t 56,t 60]),g 62 41 true (.beq true (t 51) (t 61)),o 63 (.pick (t 41) (t 62) F)]⟩]) [4,5,7,8,9,63])
 (.after (.cond (t 63) (.seq (R [6] [o 6 (.val F)])
 (.live [6] (.ret))) (.skip)) [4,5,7,8,9]))
 (.seq (.after (.region [⟨false,[],[v 64 9,v 65 64]⟩,⟨true,[],[g 66 65 true (.val (t 7)),g 67 65 true (.load (some 2) (t 4)),g 68 65 true (.load (some 2) (t 5)),g 69 65 true (.callg 245 [t 66,t 67,t 68]),g 70 65 true (.val (t 8)),g 71 65 true (.load (some 2) (t 4)),g 72 65 true (.load (some 2) (t 5))]⟩,⟨false,[],[g 73 65 true (.callg 246 [t 70,t 71,t 72]),g 74 65 true (.beq false (t 69) (t 73)),o 75 (.pick (t 65) (t 74) F),v 6 75]⟩]) [6])
 (.live [6] (.ret))))))),none⟩
def code254:AFunc:=⟨false,false,3,38,[.cell 6 (some 2),.tmp 7],
 .seq (R [1,2,3,6] [o 3 (.lbox (t 0)),o 6 (.lalloc [.slice none 0 (some 0),.slice none 0 (some 0)]),o 7 (.val F)])
 (.seq (R [1,2,3,6,8] [v 9 1,o 10 (.mkslice 1 1 [.str []] [(0,1,t 9)]),o 11 (.callg 100260 [t 10]),v 8 11])
 (.seq (.seq (R [3,6,8,27] [v 12 1,o 13 (.bin .eql (t 12) (.const (.str [84]))),v 14 13,g 15 14 false (.val (t 1)),g 16 14 false (.bin .eql (t 15) (.const (.str [45]))),o 17 (.pick (t 14) Y (t 16)),v 18 17,g 19 18 false (.faddr (t 3) 1),g 20 18 false (.load none (t 19)),g 21 18 false (.len .sl (t 20)),g 22 18 false (.val (t 8)),g 23 18 false (.len .sl (t 22)),g 24 18 false (.bin .add (t 21) (t 23)),g 25 18 false (.val (t 2)),g 26 18 false (.bin .gtr (t 24) (t 25)),o 27 (.pick (t 18) Y (t 26))])
 (.after (.cond (t 27) (.seq (R [6,7] [o 28 (.build [.slice none 0 (some 0),.slice none 0 (some 0)] []),u (.store 2 (t 6) (t 28)),o 7 (.val F)])
 (.live [6,7] (.ret))) (.skip)) [3,6,8]))
 (.seq (.after (.region [⟨true,[0,1,3,0,8,0,56],[o 29 (.faddr (t 3) 0),o 30 (.load none (t 29)),o 31 (.callg 273 [t 30]),o 32 (.faddr (t 3) 1),o 33 (.load none (t 32)),v 34 8,o 35 (.mkslice 1 2 [.slice none 0 (some 0),.slice none 0 (some 0)] [(0,1,t 33),(1,1,t 34)])]⟩,⟨false,[],[o 36 (.callg 274 [t 35]),o 37 (.build [.slice none 0 (some 0),.slice none 0 (some 0)] [(0,1,t 31),(1,1,t 36)]),u (.store 2 (t 6) (t 37)),o 7 (.val Y)]⟩]) [6,7])
 (.live [6,7] (.ret))))),none⟩
def code261L0:ACode :=
 .live [0,9,10] (.seq (R [0,9,10,11] [o 11 (.bin .lss (t 10) (t 9))])
 (.seq (.after (.cond (t 11) (.skip) (.live [0] (.exit 0))) [0,9,10])
 (.seq (.after (.block 1 (R [0,9,10] [v 12 0,o 13 (.mkslice 1 1 [.str []] [(0,1,.const (.str [84]))]),o 14 (.append 1 16 (t 12) (t 13)),v 0 14])) [0,9,10])
 (R [0,9,10] [o 15 (.bin .add (t 10) (n 1)),v 10 15]))))
def code261:AFunc:=⟨false,false,2,17,[.tmp 4],
 .seq (R [0,1] [o 4 (.val (.const (.slice none 0 (some 0))))])
 (.seq (.seq (R [0,9,10] [v 5 1,o 6 (.minmax false [t 5,n 300]),v 7 0,o 8 (.len .sl (t 7)),o 9 (.bin .sub (t 6) (t 8)),o 10 (.val (n 0))])
 (.after (.block 0 (.loop code261L0)) [0]))
 (.seq (R [4] [v 16 0,v 4 16])
 (.live [4] (.ret)))),none⟩
def code262:AFunc:=⟨false,false,0,0,[],.skip,some (.lib insertF)⟩
def code267:AFunc:=⟨false,false,1,17,[.tmp 2],
 .seq (R [0] [o 2 (.val F)])
 (.seq (R [2] [v 3 0,o 4 (.bin .eql (t 3) (.const (.str [84]))),v 5 4,g 6 5 false (.val (t 0)),g 7 5 false (.bin .eql (t 6) (.const (.str [73]))),o 8 (.pick (t 5) Y (t 7)),v 9 8,g 10 9 false (.val (t 0)),g 11 9 false (.bin .eql (t 10) (.const (.str [74]))),o 12 (.pick (t 9) Y (t 11)),v 13 12,g 14 13 false (.val (t 0)),g 15 13 false (.bin .eql (t 14) (.const (.str [45]))),o 16 (.pick (t 13) Y (t 15)),v 2 16])
 (.live [2] (.ret))),none⟩
def code268:AFunc:=⟨false,false,3,84,[.tmp 6],
 .seq (R [0,1,2] [o 6 (.val F)])
 (.seq (R [0,1,2,7,8] [v 16 1,o 17 (.callg 33 [t 16]),v 15 17,o 18 (.extract (t 15) 0),o 19 (.extract (t 15) 1),v 7 18,v 8 19])
 (.seq (R [0,1,2,7,8,9,10] [v 21 2,o 22 (.callg 33 [t 21]),v 20 22,o 23 (.extract (t 20) 0),o 24 (.extract (t 20) 1),v 9 23,v 10 24])
 (.seq (.seq (R [0,1,2,7,8,9,10,34] [v 25 0,v 26 1,o 27 (.callg 159 [t 25,t 26]),o 28 (.un .not (t 27)),v 29 28,g 30 29 false (.val (t 0)),g 31 29 false (.val (t 2)),g 32 29 false (.callg 159 [t 30,t 31]),g 33 29 false (.un .not (t 32)),o 34 (.pick (t 29) Y (t 33))])
 (.after (.cond (t 34) (.seq (R [6] [o 6 (.val F)])
 (.live [6] (.ret))) (.skip)) [0,1,2,7,8,9,10]))
 (.seq (.seq (R [0,1,2,7,8,9,10,37] [v 35 1,v 36 2,o 37 (.bin .eql (t 35) (t 36))])
 (.after (.cond (t 37) (.seq (R [6] [o 6 (.val Y)])
 (.live [6] (.ret))) (.skip)) [0,1,2,7,8,9,10]))
 (.seq (.seq (R [0,1,2,7,8,9,10,39] [v 38 1,o 39 (.bin .eql (t 38) (.const (.str [78])))])
 (.after (.cond (t 39) (.seq (R [6] [v 40 2,o 41 (.callg 31 [t 40]),v 6 41])
 (.live [6] (.ret))) (.skip)) [0,1,2,7,8,9,10]))
 (.seq (.seq (R [0,1,2,7,9,10,45] [v 42 8,v 43 42,g 44 43 true (.val (t 10)),o 45 (.pick (t 43) (t 44) F)])
 (.after (.cond (t 45) (.seq (R [6] [v 46 0,v 47 7,v 48 9,o 49 (.callg 279 [t 46,t 47,t 48]),v 6 49])
 (.live [6] (.ret))) (.skip)) [0,1,2,9,10]))
 (.seq (R [0,2,9,10,11,12] [v 51 1,o 52 (.callg 35 [t 51]),v 50 52,o 53 (.extract (t 50) 0),o 54 (.extract (t 50) 1),v 11 53,v 12 54])
 (.seq (R [0,9,10,11,12,13,14] [v 56 2,o 57 (.callg 35 [t 56]),v 55 57,o 58 (.extract (t 55) 0),o 59 (.extract (t 55) 1),v 13 58,v 14 59])
 (.seq (.seq (R [0,9,11,12,13,14,63] [v 60 12,v 61 60,g 62 61 true (.val (t 10)),o 63 (.pick (t 61) (t 62) F)])
 (.after (.cond (t 63) (.seq (R [6] [v 64 9,o 65 (.bin .eql (t 64) (.const (.str [79,98,106,101,99,116]))),v 6 65])
 (.live [6] (.ret))) (.skip)) [0,11,12,13,14]))
 (.seq (R [6] [v 66 12,v 67 66,g 68 67 true (.val (t 14)),o 69 (.pick (t 67) (t 68) F),v 70 69,g 71 70 true (.val (t 11)),g 72 70 true (.callg 31 [t 71]),o 73 (.pick (t 70) (t 72) F),v 74 73,g 75 74 true (.val (t 13)),g 76 74 true (.callg 31 [t 75]),o 77 (.pick (t 74) (t 76) F),v 78 77,g 79 78 true (.val (t 0)),g 80 78 true (.val (t 11)),g 81 78 true (.val (t 13)),g 82 78 true (.callg 268 [t 79,t 80,t 81]),o 83 (.pick (t 78) (t 82) F),v 6 83])
 (.live [6] (.ret)))))))))))),none⟩
def code269:AFunc:=⟨false,false,1,17,[.tmp 2],
 .seq (R [0] [o 2 (.val F)])
 (.seq (R [2] [v 3 0,o 4 (.bin .eql (t 3) (.const (.str [84]))),v 5 4,g 6 5 false (.val (t 0)),g 7 5 false (.bin .eql (t 6) (.const (.str [73]))),o 8 (.pick (t 5) Y (t 7)),v 9 8,g 10 9 false (.val (t 0)),g 11 9 false (.bin .eql (t 10) (.const (.str [74]))),o 12 (.pick (t 9) Y (t 11)),v 13 12,g 14 13 false (.val (t 0)),g 15 13 false (.bin .eql (t 14) (.const (.str [45]))),o 16 (.pick (t 13) Y (t 15)),v 2 16])
 (.live [2] (.ret))),none⟩
def code270L0:ACode :=
 .live [1,2,15,16,17] (.seq (R [1,2,15,16,17,18] [o 18 (.bin .lss (t 17) (t 16))])
 (.seq (.after (.cond (t 18) (.skip) (.live [] (.exit 0))) [1,2,15,16,17])
 (.seq (.after (.block 1 (.seq (R [1,2,7,8,15,16,17] [v 19 17,o 20 (.iaddr 1 (t 15) (t 17)),o 21 (.load none (t 20)),v 7 19,v 8 21])
 (.seq (R [1,2,8,9,15,16,17] [v 22 1,v 23 7,o 24 (.iaddr 1 (t 22) (t 23)),o 25 (.load none (t 24)),v 9 25])
 (.seq (R [1,2,15,16,17,30] [v 26 2,v 27 8,v 28 9,o 29 (.call (t 26) [t 27,t 28]),o 30 (.un .not (t 29))])
 (.after (.cond (t 30) (.seq (R [6] [o 6 (.val F)])
 (.live [6] (.ret))) (.skip)) [1,2,15,16,17]))))) [1,2,15,16,17])
 (R [1,2,15,16,17] [o 31 (.bin .add (t 17) (n 1)),v 17 31]))))
def code270:AFunc:=⟨false,false,3,32,[.tmp 6],
 .seq (R [0,1,2] [o 6 (.val F)])
 (.seq (.seq (R [0,1,2,14] [v 10 0,o 11 (.len .sl (t 10)),v 12 1,o 13 (.len .sl (t 12)),o 14 (.bin .neq (t 11) (t 13))])
 (.after (.cond (t 14) (.seq (R [6] [o 6 (.val F)])
 (.live [6] (.ret))) (.skip)) [0,1,2]))
 (.seq (.seq (R [1,2,15,16,17] [v 15 0,o 16 (.len .sl (t 15)),o 17 (.val (n 0))])
 (.after (.block 0 (.loop code270L0)) []))
 (.seq (R [6] [o 6 (.val Y)])
 (.live [6] (.ret))))),none⟩
def code271:AFunc:=⟨false,false,3,10,[.tmp 5],
 .seq (R [0,1,2] [o 5 (.val F)])
 (.seq (R [5] [o 6 (.load none (t 2)),v 7 0,v 8 1,o 9 (.callg 247 [t 6,t 7,t 8]),v 5 9])
 (.live [5] (.ret))),none⟩
def code272L0:ACode :=
 .live [0,1,2,14,15] (.seq (R [0,1,2,14,15,16] [o 16 (.bin .lss (t 15) (t 14))])
 (.seq (.after (.cond (t 16) (.skip) (.live [] (.exit 0))) [0,1,2,14,15])
 (.seq (.after (.block 1 (.seq (R [0,1,2,7,14,15] [v 17 15,v 7 17])
 (.seq (.after (.region [⟨true,[],[v 18 0,v 19 1,v 20 7,o 21 (.iaddr 1 (t 19) (t 20)),o 22 (.load none (t 21)),v 23 2,v 24 7,o 25 (.iaddr 1 (t 23) (t 24)),o 26 (.load none (t 25))]⟩,⟨false,[],[o 27 (.callg 248 [t 18,t 22,t 26]),o 28 (.un .not (t 27))]⟩]) [0,1,2,14,15,28])
 (.after (.cond (t 28) (.seq (R [6] [o 6 (.val F)])
 (.live [6] (.ret))) (.skip)) [0,1,2,14,15])))) [0,1,2,14,15])
 (R [0,1,2,14,15] [o 29 (.bin .add (t 15) (n 1)),v 15 29]))))
def code272:AFunc:=⟨false,false,3,30,[.tmp 6],
 .seq (R [0,1,2] [o 6 (.val F)])
 (.seq (.seq (R [0,1,2,12] [v 8 1,o 9 (.len .sl (t 8)),v 10 2,o 11 (.len .sl (t 10)),o 12 (.bin .neq (t 9) (t 11))])
 (.after (.cond (t 12) (.seq (R [6] [o 6 (.val F)])
 (.live [6] (.ret))) (.skip)) [0,1,2]))
 (.seq (.seq (R [0,1,2,14,15] [v 13 1,o 14 (.len .sl (t 13)),o 15 (.val (n 0))])
 (.after (.block 0 (.loop code272L0)) []))
 (.seq (R [6] [o 6 (.val Y)])
 (.live [6] (.ret))))),none⟩
def code273:AFunc:=⟨false,false,1,8,[.tmp 2],
 .seq (R [0] [o 2 (.val (.const (.slice none 0 (some 0))))])
 (.seq (.seq (R [0,4] [v 3 0,o 4 (.eqnil .slice false (t 3) (.const (.slice none 0 (some 0))))])
 (.after (.cond (t 4) (.seq (R [2] [o 2 (.val (.const (.slice none 0 (some 0))))])
 (.live [2] (.ret))) (.skip)) [0]))
 (.seq (R [2] [o 5 (.mkslice 1 0 [] []),v 6 0,o 7 (.append 1 16 (t 5) (t 6)),v 2 7])
 (.live [2] (.ret)))),none⟩
def code274L0:ACode :=
 .live [6,25,26,27] (.seq (R [6,25,26,27,28] [o 28 (.bin .lss (t 27) (t 26))])
 (.seq (.after (.cond (t 28) (.skip) (.live [6] (.exit 2))) [6,25,26,27])
 (.seq (.after (.block 3 (.seq (R [6,8,25,26,27] [o 29 (.iaddr 1 (t 25) (t 27)),o 30 (.load none (t 29)),v 8 30])
 (R [6,25,26,27] [v 31 6,v 32 8,o 33 (.append 1 16 (t 31) (t 32)),v 6 33]))) [6,25,26,27])
 (R [6,25,26,27] [o 34 (.bin .add (t 27) (n 1)),v 27 34]))))
def code274L1:ACode :=
 .live [0,3,9,10,11] (.seq (R [0,3,9,10,11,12] [o 12 (.bin .lss (t 11) (t 10))])
 (.seq (.after (.cond (t 12) (.skip) (.live [0,3] (.exit 0))) [0,3,9,10,11])
 (.seq (.after (.block 1 (.seq (R [0,3,5,9,10,11] [o 13 (.iaddr 1 (t 9) (t 11)),o 14 (.load none (t 13)),v 5 14])
 (.seq (R [0,3,9,10,11] [v 15 3,v 16 5,o 17 (.len .sl (t 16)),o 18 (.bin .add (t 15) (t 17)),v 3 18])
 (.seq (R [0,3,9,10,11,20] [v 19 3,o 20 (.bin .lss (t 19) (n 0))])
 (.after (.cond (t 20) (R [0,3,9,10,11] [o 21 (.nextStr F),u (.nextStr F)]) (.skip)) [0,3,9,10,11]))))) [0,3,9,10,11])
 (R [0,3,9,10,11] [o 22 (.bin .add (t 11) (n 1)),v 11 22]))))
def code274:AFunc:=⟨false,false,1,36,[.tmp 2],
 .seq (R [0] [o 2 (.val (.const (.slice none 0 (some 0))))])
 (.seq (R [0,3] [o 3 (.val (n 0))])
 (.seq (.seq (R [0,3,9,10,11] [v 9 0,o 10 (.len .sl (t 9)),o 11 (.val (n 0))])
 (.after (.block 0 (.loop code274L1)) [0,3]))
 (.seq (R [0,6] [v 23 3,o 24 (.callg 280 [.const (.slice none 0 (some 0)),t 23]),v 6 24])
 (.seq (.seq (R [6,25,26,27] [v 25 0,o 26 (.len .sl (t 25)),o 27 (.val (n 0))])
 (.after (.block 2 (.loop code274L0)) [6]))
 (.seq (R [2] [v 35 6,v 2 35])
 (.live [2] (.ret))))))),none⟩
def code279L0:ACode :=
 .live [2,11,12,13] (.seq (R [2,11,12,13,14] [o 14 (.bin .lss (t 13) (t 12))])
 (.seq (.after (.cond (t 14) (.skip) (.live [] (.exit 0))) [2,11,12,13])
 (.seq (.after (.block 1 (.seq (R [2,8,11,12,13] [o 15 (.iaddr 4 (t 11) (t 13)),o 16 (.load (some 4) (t 15)),o 8 (.lalloc [.str [],.str [],.slice none 0 (some 0),.slice none 0 (some 0)]),u (.store 4 (t 8) (t 16))])
 (.seq (R [2,11,12,13,20] [o 17 (.faddr (t 8) 0),o 18 (.load none (t 17)),v 19 2,o 20 (.bin .eql (t 18) (t 19))])
 (.after (.cond (t 20) (.seq (R [6] [o 6 (.val Y)])
 (.live [6] (.ret))) (.skip)) [2,11,12,13])))) [2,11,12,13])
 (R [2,11,12,13] [o 21 (.bin .add (t 13) (n 1)),v 13 21]))))
def code279:AFunc:=⟨false,false,3,22,[.tmp 6],
 .seq (R [0,1,2] [o 6 (.val F)])
 (.seq (.seq (R [2,11,12,13] [v 9 0,v 10 1,o 11 (.callg 112 [t 9,t 10]),o 12 (.len .sl (t 11)),o 13 (.val (n 0))])
 (.after (.block 0 (.loop code279L0)) []))
 (.seq (R [6] [o 6 (.val F)])
 (.live [6] (.ret)))),none⟩
def code280:AFunc:=⟨false,false,2,27,[.tmp 4],
 .seq (R [0,1] [o 4 (.val (.const (.slice none 0 (some 0))))])
 (.seq (.seq (R [0,1,6] [v 5 1,o 6 (.bin .lss (t 5) (n 0))])
 (.after (.cond (t 6) (R [0,1] [o 7 (.nextStr F),u (.nextStr F)]) (.skip)) [0,1]))
 (.seq (.seq (R [0,1] [v 8 1,v 9 0,o 10 (.ext (.pure .cap) [t 9]),v 11 0,o 12 (.len .sl (t 11)),o 13 (.bin .sub (t 10) (t 12)),o 14 (.bin .sub (t 8) (t 13)),v 1 14])
 (.seq (R [0,1,16] [v 15 1,o 16 (.bin .gtr (t 15) (n 0))])
 (.after (.cond (t 16) (R [0] [v 17 0,v 18 0,o 19 (.ext (.pure .cap) [t 18]),o 20 (.slice (.sl 1) (t 17) none (some (t 19)) none),v 21 1,o 22 (.ext (.appz 1 16 [.str []]) [t 20,t 21]),v 23 0,o 24 (.len .sl (t 23)),o 25 (.slice (.sl 1) (t 22) none (some (t 24)) none),v 0 25]) (.skip)) [0])))
 (.seq (R [4] [v 26 0,v 4 26])
 (.live [4] (.ret))))),none⟩
def code100260L0:ACode :=
 .live [3,6,7,8] (.seq (R [3,6,7,8,9] [o 9 (.bin .lss (t 8) (t 7))])
 (.seq (.after (.cond (t 9) (.skip) (.live [3] (.exit 0))) [3,6,7,8])
 (.seq (.after (.block 1 (.seq (R [3,5,6,7,8] [o 10 (.iaddr 1 (t 6) (t 8)),o 11 (.load none (t 10)),v 5 11])
 (.seq (R [3,5,6,7,8] [v 12 3,v 13 5,o 14 (.mkslice 1 1 [.str []] [(0,1,t 13)]),o 15 (.append 1 16 (t 12) (t 14)),v 3 15])
 (.seq (R [3,6,7,8,17] [v 16 5,o 17 (.bin .eql (t 16) (.const (.str [74])))])
 (.after (.cond (t 17) (R [3,6,7,8] [v 18 3,o 19 (.mkslice 1 1 [.str []] [(0,1,.const (.str [45]))]),o 20 (.append 1 16 (t 18) (t 19)),v 3 20]) (.skip)) [3,6,7,8]))))) [3,6,7,8])
 (R [3,6,7,8] [o 21 (.bin .add (t 8) (n 1)),v 8 21]))))
def code100260:AFunc:=⟨false,false,1,23,[.tmp 2],
 .seq (R [0] [o 2 (.val (.const (.slice none 0 (some 0))))])
 (.seq (R [0,3] [o 3 (.val (.const (.slice none 0 (some 0))))])
 (.seq (.seq (R [3,6,7,8] [v 6 0,o 7 (.len .sl (t 6)),o 8 (.val (n 0))])
 (.after (.block 0 (.loop code100260L0)) [3]))
 (.seq (R [2] [v 22 3,v 2 22])
 (.live [2] (.ret))))),none⟩
def T:Nat→Option AFunc:=fun g=>match AbsOrd.T g with
 | some f=>some f
 | none=>List.lookup g [(31,code31),(32,code32),(35,code35),(239,code239),(240,code240),(242,code242),(243,code243),(245,code245),(246,code246),(247,code247),(248,code248),(249,code249),(254,code254),(261,code261),(262,code262),(267,code267),(268,code268),(269,code269),(270,code270),(271,code271),(272,code272),(273,code273),(274,code274),(279,code279),(280,code280),(100260,code100260)]
theorem sub:∀ g f,AbsOrd.T g=some f→T g=some f:=fun g f h=>by unfold T; rw [h]
theorem t31:T 31=some code31:=rfl
theorem t32:T 32=some code32:=rfl
theorem t35:T 35=some code35:=rfl
theorem t239:T 239=some code239:=rfl
theorem t240:T 240=some code240:=rfl
theorem t242:T 242=some code242:=rfl
theorem t243:T 243=some code243:=rfl
theorem t245:T 245=some code245:=rfl
theorem t246:T 246=some code246:=rfl
theorem t247:T 247=some code247:=rfl
theorem t248:T 248=some code248:=rfl
theorem t249:T 249=some code249:=rfl
theorem t254:T 254=some code254:=rfl
theorem t261:T 261=some code261:=rfl
theorem t262:T 262=some code262:=rfl
theorem t267:T 267=some code267:=rfl
theorem t268:T 268=some code268:=rfl
theorem t269:T 269=some code269:=rfl
theorem t270:T 270=some code270:=rfl
theorem t271:T 271=some code271:=rfl
theorem t272:T 272=some code272:=rfl
theorem t273:T 273=some code273:=rfl
theorem t274:T 274=some code274:=rfl
theorem t279:T 279=some code279:=rfl
theorem t280:T 280=some code280:=rfl
theorem t100260:T 100260=some code100260:=rfl
end Go.Abs.AbsTyp

namespace Go.Abs.AbsDesc
variable {os:List AObj} {b w:Nat}
def wordN (n:Nat):Bool:=(decide (97≤n) && decide (n≤122)) || (decide (65≤n) && decide (n≤90)) || (decide (48≤n) && decide (n≤57)) || decide (n=95) || decide (n=36)
theorem s226 {s:List UInt8} {c:Int} {h:Heap}:xCall T 226 [.str s,.int .u8 c] h=some (.int .i64 (Lib.indexByte s c.toNat.toUInt8),h):=by
 obtain ⟨os,b,w⟩:=h
 simp [dj T t226,code226,evPrim]
theorem s205 {s:List UInt8} {c:UInt8} {h:Heap}:xCall T 205 [.str s,.str [c]] h=some (.int .i64 (Lib.indexByte s c),h):=by
 obtain ⟨os,b,w⟩:=h
 by_cases e:[c]=s
 ·subst e
  simp [dj T t205,code205,s226,inBounds,Lib.indexByte]
 ·simp [dj T t205,code205,s226,inBounds,e]
theorem s173 {s:List UInt8} {c:UInt8} {h:Heap}:xCall T 173 [.str s,.str [c]] h=some (.int .i64 (Lib.indexByte s c),h):=by
 obtain ⟨os,b,w⟩:=h
 simp [dj T t173,code173,s205]
theorem s174 {s:List UInt8} {c:UInt8} {h:Heap}:xCall T 174 [.str s,.str [c]] h=some (.int .i64 (Lib.countByte s c),h):=by
 obtain ⟨os,b,w⟩:=h
 simp [dj T t174,code174,evPrim,inBounds]
theorem s146 {n:Nat} {h:Heap}:xCall T 146 [.int .u8 n] h=some (.bool (!wordN n),h):=by
 obtain ⟨os,b,w⟩:=h
 by_cases c1:97≤n <;> by_cases c2:n≤122
 ·have d1:(97:Int)≤n:=by omega
  have d2:(n:Int)≤122:=by omega
  simp [dj T t146,code146,wordN,c1,c2,d1,d2]
 all_goals
  by_cases c3:65≤n <;> by_cases c4:n≤90 <;> by_cases c5:48≤n <;> by_cases c6:n≤57 <;> (try (exfalso; omega)) <;> by_cases c7:n=95 <;> (try (exfalso; omega)) <;> by_cases c8:n=36 <;> (try (exfalso; omega))
  all_goals
   have e1:((97:Int)≤n)=(97≤n):=by apply propext; omega
   have e2:((n:Int)≤122)=(n≤122):=by apply propext; omega
   have e3:((65:Int)≤n)=(65≤n):=by apply propext; omega
   have e4:((n:Int)≤90)=(n≤90):=by apply propext; omega
   have e5:((48:Int)≤n)=(48≤n):=by apply propext; omega
   have e6:((n:Int)≤57)=(n≤57):=by apply propext; omega
   have e7:((n:Int)=95)=(n=95):=by apply propext; omega
   have e8:((n:Int)=36)=(n=36):=by apply propext; omega
   simp [dj T t146,code146,wordN,e1,e2,e3,e4,e5,e6,e7,e8,c1,c2,c3,c4,c5,c6,c7,c8]
end Go.Abs.AbsDesc

namespace Go.Abs.AbsDesc
variable {os:List AObj} {b w:Nat}
def firstIx {α:Type} (p:α→Bool):List α→Nat→Int
 | [],_=>-1
 | x :: l,i=>if p x then i else firstIx p l (i+1)
theorem firstIx_ge {α:Type} (p:α→Bool):∀ (l:List α) (i:Nat),(decide (0≤firstIx p l i))=l.any p
 | [],i=>by simp [firstIx]
 | x :: l,i=>by
  simp only [firstIx,List.any_cons]
  by_cases h:p x=true
  ·simp [h]
  ·simp only [Bool.not_eq_true] at h
   simp [h,firstIx_ge p l (i+1)]
theorem firstIx_none {α:Type} (p:α→Bool):∀ (l:List α) (i:Nat),(∀ x ∈ l,p x=false)→firstIx p l i = -1
 | [],_,_=>rfl
 | x :: l,i,h=>by
  simp only [firstIx,h x (bc ..),am,if_false]
  exact firstIx_none p l (i+1) fun y hy=>h y (bj _ hy)
theorem firstIx_at {α:Type} (p:α→Bool):∀ (l:List α) (i j:Nat) (x:α),l[j]? = some x→p x=true→(∀ k,k < j→∀ y,l[k]? = some y→p y=false)→firstIx p l i=(i+j:Nat)
 | [],i,j,x,h,_,_=>by simp at h
 | y :: l,i,0,x,h,hp,_=>by
  simp at h; subst h
  simp [firstIx,hp]
 | y :: l,i,j+1,x,h,hp,hb=>by
  have h0:=hb 0 (by omega) y rfl
  simp only [firstIx,h0,am,if_false]
  rw [firstIx_at p l (i+1) j x (by simpa using h) hp (fun k hk z hz=>hb (k+1) (by omega) z (by simpa using hz))]
  congr 1; omega
theorem loop_find {T:Nat→Option AFunc} {α:Type} {c:ACode} (p:α→Bool) (L:List α) (st:Nat→St) (out:Nat→St) (e1 e2:AExit) (fin:St)
  (hs:∀ (i:Nat) x,L[i]? = some x→xCode T c (st i)=some (if p x then (e1,out i) else (.normal,st (i+1)))) (h1:e1 ≠ .normal) (h2:e2 ≠ .normal) (hx:xCode T c (st L.length)=some (e2,fin)) :
  (L.any p=false∧xCode T (.loop c) (st 0)=some (e2,fin))∨∃ (j:Nat) (x:α),L[j]? = some x∧p x=true∧(∀ k,k < j→∀ y,L[k]? = some y→p y=false)∧xCode T (.loop c) (st 0)=some (e1,out j):=by
 rcases first_bad (fun x=>p x=false) L with h | ⟨j,x,h3,h4,h5⟩
 ·left
  refine ⟨by rw [List.any_eq_false]; exact fun x hx=>by simp [h x hx],?_⟩
  refine loop_all st L.length (fun i hi=>?_) h2 hx
  obtain ⟨x,hx⟩:∃ x,L[i]? = some x:=⟨_,ah hi⟩
  rw [hs i x hx,h x (az hx)]
  rfl
 ·right
  simp only [Bool.not_eq_false] at h4
  refine ⟨j,x,h3,h4,h5,?_⟩
  refine loop_all st j (fun i hi=>?_) h1 (by rw [hs j x h3,h4]; rfl)
  obtain ⟨y,hy⟩:∃ y,L[i]? = some y:=⟨_,ah (Nat.lt_trans hi (get_lt h3))⟩
  rw [hs i y hy,h5 i hi y hy]
  rfl
def byteCell (c:UInt8):List AVal:=[.int .u8 c.toNat]
def strCell (s:List UInt8):List AVal:=[.str s]
theorem s176 {L:List UInt8} {a:Option (Nat × Nat)} {c:Option Nat} {g:Nat} {p:UInt8→Bool} (hR:Row os 1 byteCell L a) (hn:L.length≤9223372036854775807)
  (hg:∀ (x:UInt8) (w:Nat),xCall T g [.int .u8 x.toNat] ⟨os,b,w⟩=some (.bool (p x),⟨os,b,w⟩)) :
  xCall T 176 [.slice a L.length c,.func g [] []] ⟨os,b,w⟩=some (.int .i64 (firstIx p L 0),⟨os,b,w⟩):=by
 have hl:=loop_find (T:=T) (c:=code176L0) p L (fun i=>⟨[(0,.val (.slice a L.length c)),(1,.val (.func g [] [])),(7,.val (.int .i64 L.length)),(8,.val (.int .i64 i))],⟨os,b,os.length⟩⟩)
  (fun i=>⟨[(4,.val (.int .i64 i))],⟨os,b,os.length⟩⟩) .ret (.exit 0) ⟨[],⟨os,b,os.length⟩⟩ ?_ (by simp) (by simp) (by simp [code176L0])
 ·rcases hl with ⟨h1,h2⟩ | ⟨j,x,h1,h2,h3,h4⟩
  ·rw [List.any_eq_false] at h1
   rw [firstIx_none p L 0 fun x hx=>by simpa using h1 x hx]
   simp only [bl] at h2
   simp [dj T t176,code176,h2]
  ·rw [firstIx_at p L 0 j x h1 h2 h3]
   simp only [bl] at h4
   simp [dj T t176,code176,h4]
 ·intro i x hx
  obtain ⟨bb,o,cs,rfl,hrow,hpart⟩:=hR.at' (ne_of_get hx)
  obtain ⟨p1,p2⟩:=hpart i x hx
  have hw:=wrap_next (get_lt hx) hn
  have hi':(i:Int) < (L.length:Int):=by have:=get_lt hx; omega
  have hge:(0:Int)≤i:=by omega
  have q3:(List.take 1 (List.drop (o+i*1) cs))[0]? = some (.int .u8 x.toNat):=by rw [p2]; rfl
  have q4:cs[o+i]? = some (.int .u8 x.toNat):=by simpa using q3
  by_cases hp:p x=true
  ·simp [code176L0,hi',hge,hrow,q4,hg,hp]
  ·simp [code176L0,hi',hge,hrow,q4,hg,hp,hw]
theorem s142 {L:List (List UInt8)} {a:Option (Nat × Nat)} {c:Option Nat} {g:Nat} {p:List UInt8→Bool} (hR:Row os 1 strCell L a) (hn:L.length≤9223372036854775807)
  (hg:∀ x ∈ L,∀ (w:Nat),xCall T g [.str x] ⟨os,b,w⟩=some (.bool (p x),⟨os,b,w⟩)) :
  xCall T 142 [.slice a L.length c,.func g [] []] ⟨os,b,w⟩=some (.int .i64 (firstIx p L 0),⟨os,b,w⟩):=by
 have hl:=loop_find (T:=T) (c:=code142L0) p L (fun i=>⟨[(0,.val (.slice a L.length c)),(1,.val (.func g [] [])),(7,.val (.int .i64 L.length)),(8,.val (.int .i64 i))],⟨os,b,os.length⟩⟩)
  (fun i=>⟨[(4,.val (.int .i64 i))],⟨os,b,os.length⟩⟩) .ret (.exit 0) ⟨[],⟨os,b,os.length⟩⟩ ?_ (by simp) (by simp) (by simp [code142L0])
 ·rcases hl with ⟨h1,h2⟩ | ⟨j,x,h1,h2,h3,h4⟩
  ·rw [List.any_eq_false] at h1
   rw [firstIx_none p L 0 fun x hx=>by simpa using h1 x hx]
   simp only [bl] at h2
   simp [dj T t142,code142,h2]
  ·rw [firstIx_at p L 0 j x h1 h2 h3]
   simp only [bl] at h4
   simp [dj T t142,code142,h4]
 ·intro i x hx
  obtain ⟨bb,o,cs,rfl,hrow,hpart⟩:=hR.at' (ne_of_get hx)
  obtain ⟨p1,p2⟩:=hpart i x hx
  have hw:=wrap_next (get_lt hx) hn
  have hi':(i:Int) < (L.length:Int):=by have:=get_lt hx; omega
  have hge:(0:Int)≤i:=by omega
  have q3:(List.take 1 (List.drop (o+i*1) cs))[0]? = some (.str x):=by rw [p2]; rfl
  have q4:cs[o+i]? = some (.str x):=by simpa using q3
  have hgx:=hg x (az hx)
  by_cases hp:p x=true
  ·simp [code142L0,hi',hge,hrow,q4,hgx,hp]
  ·simp [code142L0,hi',hge,hrow,q4,hgx,hp,hw]
theorem s145 {L:List UInt8} {a:Option (Nat × Nat)} {c:Option Nat} {g:Nat} {p:UInt8→Bool} (hR:Row os 1 byteCell L a) (hn:L.length≤9223372036854775807)
  (hg:∀ (x:UInt8) (w:Nat),xCall T g [.int .u8 x.toNat] ⟨os,b,w⟩=some (.bool (p x),⟨os,b,w⟩)) :
  xCall T 145 [.slice a L.length c,.func g [] []] ⟨os,b,w⟩=some (.bool (L.any p),⟨os,b,w⟩):=by
 have h:=s176 (w:=os.length) (c:=c) hR hn hg
 have h2:=firstIx_ge p L 0
 simp [dj T t145,code145,h,h2]
theorem s91 {L:List (List UInt8)} {a:Option (Nat × Nat)} {c:Option Nat} {g:Nat} {p:List UInt8→Bool} (hR:Row os 1 strCell L a) (hn:L.length≤9223372036854775807)
  (hg:∀ x ∈ L,∀ (w:Nat),xCall T g [.str x] ⟨os,b,w⟩=some (.bool (p x),⟨os,b,w⟩)) :
  xCall T 91 [.slice a L.length c,.func g [] []] ⟨os,b,w⟩=some (.bool (L.any p),⟨os,b,w⟩):=by
 have h:=s142 (w:=os.length) (c:=c) hR hn hg
 have h2:=firstIx_ge p L 0
 simp [dj T t91,code91,h,h2]
theorem flat_bytes:∀ s:List UInt8,(s.map fun c=>AVal.int .u8 c.toNat)=s.flatMap byteCell
 | []=>rfl
 | c :: s=>by
  rw [bu,co,flat_bytes s]
  rfl
def wordL (s:List UInt8):Bool:=!s.isEmpty && s.all fun c=>wordN c.toNat
theorem any_not {α:Type} (p:α→Bool):∀ l:List α,(l.any fun x=>!p x) = !l.all p
 | []=>rfl
 | x :: l=>by rw [List.any_cons,dl,any_not p l,Bool.not_and]
theorem s144 {s:List UInt8} (hn:s.length≤9223372036854775807):xCall T 144 [.str s] ⟨os,b,w⟩=some (.bool (wordL s),⟨os,b,w⟩):=by
 have h:=fun w=>s145 (os:=os++[.cells 1 (s.map fun c=>AVal.int .u8 c.toNat)]) (b:=b) (w:=w) (L:=s) (a:=some (os.length,0)) (c:=none) (g:=146) (p:=fun x=>!wordN x.toNat)
  (Row.mk0 (fun _=>rfl) (by rw [← flat_bytes]; simp)) hn (fun x w=>s146)
 by_cases e:s=[]
 ·subst e
  simp [dj T t144,code144,wordL]
 ·have he:s.isEmpty=false:=by cases s <;> simp_all
  simp [dj T t144,code144,wordL,h,e,he,any_not,hn]
theorem s92 {s:List UInt8} (hn:s.length≤9223372036854775807):xCall T 92 [.str s] ⟨os,b,w⟩=some (.bool (!wordL s),⟨os,b,w⟩):=by
 have h:=fun w=>s144 (os:=os) (b:=b) (w:=w) hn
 simp [dj T t92,code92,h]
end Go.Abs.AbsDesc

namespace Go.Abs.AbsDesc
variable {os:List AObj} {b w:Nat}
def parts (c:UInt8):List UInt8→List (List UInt8)
 | []=>[[]]
 | x :: r=>if x == c then [] :: parts c r else match parts c r with
  | p :: ps=>(x :: p) :: ps
  | []=>[[x]]
theorem parts_ne (c:UInt8):∀ s,parts c s≠[]
 | []=>by simp [parts]
 | x :: r=>by
  simp only [parts]
  split
  ·simp
  ·split <;> simp
theorem parts_length (c:UInt8):∀ s,(parts c s).length=Lib.countByte s c+1
 | []=>rfl
 | x :: r=>by
  have ih:=parts_length c r
  simp only [parts,Lib.countByte,List.count_cons] at ih ⊢
  split
  ·rw [a8,ih]
  ·split
   ·rename_i p ps hp
    rw [hp] at ih
    simpa using ih
   ·rename_i hp
    exact absurd hp (parts_ne c r)
theorem parts_none {c:UInt8}:∀ {s:List UInt8},Lib.indexByte s c < 0→parts c s=[s]
 | [],_=>rfl
 | x :: r,h=>by
  unfold Lib.indexByte at h
  simp only [parts]
  split at h
  ·omega
  ·rename_i hx
   rw [if_neg hx]
   have:Lib.indexByte r c < 0:=by
    split at h
    ·rename_i e; simp at e; omega
    ·have:=Lib.indexByte_ge r c; rename_i e; simp at e; omega
   rw [parts_none this]
theorem parts_some {c:UInt8}:∀ {s:List UInt8} {k:Nat},Lib.indexByte s c=k→k < s.length∧parts c s=s.take k :: parts c (s.drop (k+1))
 | [],k,h=>by simp [Lib.indexByte] at h
 | x :: r,k,h=>by
  unfold Lib.indexByte at h
  simp only [parts]
  split at h
  ·rename_i hx
   have:k=0:=by omega
   subst this
   rw [if_pos hx]
   simp
  ·rename_i hx
   rw [if_neg hx]
   have hge:=Lib.indexByte_ge r c
   split at h
   ·omega
   ·cases k with
    | zero=>rename_i e; simp at e; omega
    | succ k =>
     obtain ⟨h1,h2⟩:=parts_some (s:=r) (k:=k) (c:=c) (by omega)
     rw [h2]
     simp [h1]
def rest (c:UInt8) (s:List UInt8):Nat→List UInt8
 | 0=>s
 | i+1=>(rest c s i).drop ((Lib.indexByte (rest c s i) c).toNat+1)
theorem rest_parts {c:UInt8} {s:List UInt8}:∀ i,i < (parts c s).length→parts c (rest c s i)=(parts c s).drop i∧(rest c s i).length≤s.length
 | 0,_=>⟨rfl,aj _⟩
 | i+1,hi=>by
  obtain ⟨h1,h2⟩:=rest_parts (c:=c) (s:=s) i (by omega)
  rcases (show Lib.indexByte (rest c s i) c < 0∨0≤Lib.indexByte (rest c s i) c by omega) with h | h
  ·rw [parts_none h] at h1
   have:=congrArg List.length h1
   simp at this
   omega
  ·obtain ⟨k,hk⟩:=ge h
   obtain ⟨h3,h4⟩:=parts_some hk
   rw [h4] at h1
   have h5:=congrArg List.tail h1
   simp only [List.tail_cons,List.tail_drop] at h5
   refine ⟨?_,?_⟩
   ·simp only [rest,hk,Int.toNat_natCast]
    exact h5
   ·simp only [rest,gg]; omega
theorem rest_next {c:UInt8} {s:List UInt8} {i:Nat} (hi:i+1 < (parts c s).length):∃ k:Nat,Lib.indexByte (rest c s i) c=k∧k < (rest c s i).length∧(parts c s)[i]? = some ((rest c s i).take k)∧rest c s (i+1)=(rest c s i).drop (k+1):=by
 obtain ⟨h1,h2⟩:=rest_parts (c:=c) (s:=s) i (by omega)
 rcases (show Lib.indexByte (rest c s i) c < 0∨0≤Lib.indexByte (rest c s i) c by omega) with h | h
 ·rw [parts_none h] at h1
  have:=congrArg List.length h1
  simp at this
  omega
 ·obtain ⟨k,hk⟩:=ge h
  obtain ⟨h3,h4⟩:=parts_some hk
  rw [h4] at h1
  refine ⟨k,hk,h3,?_,by simp [rest,hk]⟩
  have:=congrArg (fun l=>l[0]?) h1
  simp only [ba,dt,gt] at this
  exact this.symm
theorem rest_last {c:UInt8} {s:List UInt8} {i:Nat} (hi:i+1=(parts c s).length):(parts c s)[i]? = some (rest c s i):=by
 obtain ⟨h1,h2⟩:=rest_parts (c:=c) (s:=s) i (by omega)
 rcases (show Lib.indexByte (rest c s i) c < 0∨0≤Lib.indexByte (rest c s i) c by omega) with h | h
 ·rw [parts_none h] at h1
  have:=congrArg (fun l=>l[0]?) h1
  simp only [ba,dt,gt] at this
  exact this.symm
 ·obtain ⟨k,hk⟩:=ge h
  obtain ⟨h3,h4⟩:=parts_some hk
  rw [h4] at h1
  have hlen:=congrArg List.length h1
  have hpos:0 < (parts c ((rest c s i).drop (k+1))).length:=List.length_pos_iff.2 (parts_ne c _)
  simp only [a8,gg] at hlen
  omega
end Go.Abs.AbsDesc

namespace Go.Abs.AbsDesc
variable {os:List AObj} {b w:Nat}
def mem (L:List (List UInt8)) (i:Nat):List AVal:=(L.take i).map AVal.str++List.replicate (L.length - i) (.str [])
theorem mem_len {L:List (List UInt8)} {i:Nat} (h:i≤L.length):(mem L i).length=L.length:=by
 simp [mem]; omega
theorem mem_set {L:List (List UInt8)} {i:Nat} {x:List UInt8} (h:L[i]? = some x):splice (mem L i) i [.str x]=mem L (i+1):=by
 have hi:=ai h
 have h1:((L.take i).map AVal.str).length=i:=by simp; omega
 have h2:L.length - i=(L.length - (i+1))+1:=by omega
 unfold splice mem
 rw [List.take_left' h1,h2,List.replicate_succ,List.drop_append,h1]
 rw [bg (by rw [h1]; simp),List.take_add_one,h]
 simp
theorem mem_all (L:List (List UInt8)):mem L L.length=L.map AVal.str:=by simp [mem]
theorem mem_zero (n:Nat) (L:List (List UInt8)) (h:L.length=n):rep n [.str []]=mem L 0:=by
 subst h
 have:∀ n:Nat,(List.replicate n [AVal.str []]).flatten=List.replicate n (.str []):=by
  intro n
  induction n with
  | zero=>rfl
  | succ n ih=>rw [List.replicate_succ,List.flatten_cons,ih]; rfl
 unfold rep mem
 rw [this]
 simp
theorem count_le (c:UInt8) (s:List UInt8):Lib.countByte s c≤s.length:=List.count_le_length
theorem split_loop {s:List UInt8} {c:UInt8} (hn:s.length≤1000000) (hb:b≤os.length) :
  xCode T (.loop code143L0) ⟨[(0,.val (.str s)),(1,.val (.str [c])),(2,.val (.int .i64 0)),(3,.val (.int .i64 (Lib.countByte s c))),(9,.val (.slice (some (os.length,0)) (Lib.countByte s c+1) (some (Lib.countByte s c+1)))),(10,.val (.int .i64 (0:Nat)))],⟨os++[.cells 1 (mem (parts c s) 0)],b,os.length⟩⟩ =
   some (.exit 0,⟨[(0,.val (.str (rest c s (Lib.countByte s c)))),(9,.val (.slice (some (os.length,0)) (Lib.countByte s c+1) (some (Lib.countByte s c+1)))),(10,.val (.int .i64 (Lib.countByte s c)))],⟨os++[.cells 1 (mem (parts c s) (Lib.countByte s c))],b,os.length⟩⟩):=by
 have hlen:=parts_length c s
 have hcnt:=count_le c s
 refine loop_all (e:=.exit 0) (fun i=>⟨[(0,.val (.str (rest c s i))),(1,.val (.str [c])),(2,.val (.int .i64 0)),(3,.val (.int .i64 (Lib.countByte s c))),(9,.val (.slice (some (os.length,0)) (Lib.countByte s c+1) (some (Lib.countByte s c+1)))),(10,.val (.int .i64 i))],⟨os++[.cells 1 (mem (parts c s) i)],b,os.length⟩⟩) (Lib.countByte s c) ?_ (by simp) ?_
 ·intro i hi
  obtain ⟨k,h1,h2,h3,h4⟩:=rest_next (c:=c) (s:=s) (i:=i) (by omega)
  have hrl:=(rest_parts (c:=c) (s:=s) i (by omega)).2
  have hm:=mem_set h3
  have hml:=mem_len (L:=parts c s) (i:=i) (by omega)
  have hi':(i:Int) < (Lib.countByte s c:Int):=by omega
  have hge:(0:Int)≤i:=by omega
  have hk0:¬ ((k:Int) < 0):=by omega
  have hk1:(k:Int)≤((rest c s i).length:Int):=by omega
  have hk2:IntKind.i64.wrap ((k:Int)+0)=(k:Int):=by rw [wrap64 (by omega) (by omega)]; omega
  have hk3:IntKind.i64.wrap ((k:Int)+1)=((k+1:Nat):Int):=by rw [wrap64 (by omega) (by omega)]; omega
  have hk3':IntKind.i64.wrap ((k:Int))=(k:Int):=by rw [wrap64 (by omega) (by omega)]
  have hw:=wrap_next (i:=i) (n:=Lib.countByte s c) hi (by omega)
  have hi1:(i:Int) < (Lib.countByte s c:Int)+1:=by omega
  have hil:i+1≤(parts c s).length:=by omega
  have hk4:(k:Int)+1≤((rest c s i).length:Int):=by omega
  have hk5:(0:Int)≤(k:Int)+1:=by omega
  have htk:List.take ((rest c s i).length - (k+1)) (List.drop (k+1) (rest c s i))=List.drop (k+1) (rest c s i):=eh (by simp)
  have hm':List.take i (mem (parts c s) i)++AVal.str (List.take k (rest c s i)) :: List.drop (i+1) (mem (parts c s) i)=mem (parts c s) (i+1):=by simpa [splice] using hm
  simp only [h4]
  simp [code143L0,hi',hge,s173,h1,hk0,hk1,hk2,hk3,hk3',hw,hi1,hb,hil,hml,hm',hk4,hk5,htk]
  done
 ·simp [code143L0]
end Go.Abs.AbsDesc

namespace Go.Abs.AbsDesc
variable {os:List AObj} {b w:Nat}
theorem ids_strs:∀ L:List (List UInt8),AVal.idsL (L.map AVal.str)=[]
 | []=>rfl
 | x :: L=>by
  rw [bu]
  simp only [AVal.idsL,AVal.ids,ids_strs L]
  rfl
theorem ren_strs (f:Nat→Nat):∀ L:List (List UInt8),AVal.renL f (L.map AVal.str)=L.map AVal.str
 | []=>rfl
 | x :: L=>by
  rw [bu]
  simp only [AVal.renL,AVal.ren,ren_strs f L]
theorem s143 {s:List UInt8} {c:UInt8} (hn:s.length≤1000000) (hb:b≤os.length) :
  xCall T 143 [.str s,.str [c],.int .i64 0,.int .i64 (-1)] ⟨os,b,w⟩ =
   some (.slice (some (os.length,0)) (parts c s).length (some (parts c s).length),⟨os++[.cells 1 ((parts c s).map AVal.str)],b,w⟩):=by
 have hlen:=parts_length c s
 have hcnt:=count_le c s
 have hl:=split_loop (os:=os) (c:=c) hn hb
 have hz:=mem_zero (Lib.countByte s c+1) (parts c s) hlen
 have hlast:=mem_set (rest_last (c:=c) (s:=s) (i:=Lib.countByte s c) hlen.symm)
 rw [← hlen,mem_all] at hlast
 have hml:=mem_len (L:=parts c s) (i:=Lib.countByte s c) (by omega)
 have hlast':List.take (Lib.countByte s c) (mem (parts c s) (Lib.countByte s c))++AVal.str (rest c s (Lib.countByte s c)) :: List.drop (Lib.countByte s c+1) (mem (parts c s) (Lib.countByte s c))=(parts c s).map AVal.str:=by simpa [splice] using hlast
 have h174:=fun h=>s174 (s:=s) (c:=c) (h:=h)
 rw [hlen]
 generalize Lib.countByte s c=n at *
 have hw1:IntKind.i64.wrap ((n:Int)+1)=((n+1:Nat):Int):=by rw [wrap64 (by omega) (by omega)]; omega
 have hw2:IntKind.i64.wrap ((s.length:Int)+1)=((s.length+1:Nat):Int):=by rw [wrap64 (by omega) (by omega)]; omega
 have hw3:IntKind.i64.wrap (((n:Int)+1) - 1)=(n:Int):=by rw [wrap64 (by omega) (by omega)]; omega
 have hw4:IntKind.i64.wrap (n:Int)=(n:Int):=by rw [wrap64 (by omega) (by omega)]
 have hle:(n:Int)+1≤(s.length:Int)+1:=by omega
 have hnlt:¬ ((s.length:Int)+1 < (n:Int)+1):=by omega
 have g1:(0:Int)≤(n:Int)+1:=by omega
 have g2:((n:Int)+1)*16≤140737488355328:=by omega
 have g3:(n:Int)+1≤9223372036854775807:=by omega
 have g4:((n:Int)+1).toNat=n+1:=by omega
 have g5:(n:Int) < (n:Int)+1:=by omega
 have g6:n+1≤(parts c s).length:=by omega
 have hz':List.replicate (n+1) (AVal.str [])=mem (parts c s) 0:=by simpa [rep] using hz
 simp only [bl] at hl
 simp [dj T t143,code143,h174,hw1,hw2,hw3,hw4,hle,hnlt,g1,g2,g3,g4,g5,g6,hz',hl,hml,hlast',hb,gi,jf,ids_strs,ren_strs]
 done
theorem s90 {s:List UInt8} {c:UInt8} (hn:s.length≤1000000) (hb:b≤os.length) :
  xCall T 90 [.str s,.str [c]] ⟨os,b,w⟩=some (.slice (some (os.length,0)) (parts c s).length (some (parts c s).length),⟨os++[.cells 1 ((parts c s).map AVal.str)],b,w⟩):=by
 have h:=s143 (w:=os.length) (c:=c) hn hb
 simp [dj T t90,code90,h,gi,jf,ids_strs,ren_strs]
theorem parts_le {c:UInt8}:∀ {s:List UInt8},∀ x ∈ parts c s,x.length≤s.length
 | [],x,h=>by simp [parts] at h; simp [h]
 | y :: r,x,h=>by
  have ih:=fun z hz=>parts_le (c:=c) (s:=r) z hz
  simp only [parts] at h
  split at h
  ·rcases bt.1 h with rfl | h
   ·simp
   ·have:=ih x h; simp; omega
  ·split at h
   ·rename_i p ps hp
    rw [hp] at ih
    rcases bt.1 h with rfl | h
    ·have:=ih p (bc ..); simp; exact this
    ·have:=ih x (bj _ h); simp; omega
   ·simp at h; simp [h]
def isClass (s:List UInt8):Bool:=decide (s.length≤64) && (parts 47 s).all wordL
theorem flat_strs:∀ L:List (List UInt8),L.map AVal.str=L.flatMap strCell
 | []=>rfl
 | c :: s=>by
  rw [bu,co,flat_strs s]
  rfl
theorem s25 {s:List UInt8} (hb:b≤os.length):xCall T 25 [.str s] ⟨os,b,w⟩=some (.bool (isClass s),⟨os,b,w⟩):=by
 by_cases h64:s.length≤64
 ·have h1:=s90 (os:=os) (b:=b) (w:=os.length) (s:=s) (c:=47) (by omega) hb
  have hlen:=parts_length 47 s
  have hcnt:=count_le 47 s
  have hall:=fun x hx=>parts_le (c:=47) (s:=s) x hx
  have h2:=s91 (os:=os++[.cells 1 ((parts 47 s).map AVal.str)]) (b:=b) (w:=os.length) (L:=parts 47 s) (a:=some (os.length,0)) (c:=some (parts 47 s).length) (g:=92) (p:=fun x=>!wordL x)
   (Row.mk0 (fun _=>rfl) (by rw [← flat_strs]; simp)) (by omega) (fun x hx w=>s92 (by have:=hall x hx; omega))
  have h64':(s.length:Int)≤64:=by omega
  simp [dj T t25,code25,isClass,h64,h64',h1,h2,any_not]
 ·have h64':¬ ((s.length:Int)≤64):=by omega
  simp [dj T t25,code25,isClass,h64,h64']
end Go.Abs.AbsDesc

namespace Go.Abs.AbsDesc
def okFrom:UInt8→List UInt8→Bool
 | last,[]=>last != 47
 | last,c :: r=>(wordN c.toNat || (c == 47 && last != 47)) && okFrom c r
def restOk (s:List UInt8):Bool:=match parts 47 s with
 | p :: ps=>(p.all fun c=>wordN c.toNat) && ps.all wordL
 | []=>false
theorem okFrom_is:∀ (s:List UInt8) (last:UInt8),okFrom last s=if last == 47 then (parts 47 s).all wordL else restOk s
 | [],last=>by
  simp only [okFrom,restOk,parts]
  by_cases h:(last == 47)=true
  ·simp [h,wordL,bne]
  ·simp [h,bne]
 | c :: r,last=>by
  have ih:=okFrom_is r c
  simp only [okFrom]
  by_cases hc:(c == 47)=true
  ·have e:c=47:=by simpa using hc
   subst e
   rw [ih]
   simp only [restOk,parts,beq_self_eq_true,if_true]
   by_cases h:(last == 47)=true
   ·simp [h,wordL,bne,wordN]
   ·simp [h,wordL,bne,wordN]
  ·rw [ih]
   rw [if_neg hc]
   cases hp:parts 47 r with
   | nil=>exact absurd hp (parts_ne 47 r)
   | cons p ps =>
    simp only [restOk,parts,hp,if_neg hc]
    simp only [Bool.not_eq_true] at hc
    simp only [hc,dk,Bool.or_false,dl,wordL,List.isEmpty_cons,kk,cz,ite_self,Bool.and_assoc]
theorem isClass_ok (s:List UInt8):isClass s=(decide (s.length≤64) && okFrom 47 s):=by
 rw [okFrom_is]
 simp [isClass]
end Go.Abs.AbsDesc

namespace Go.Abs.AbsDesc
variable {os:List AObj} {b w:Nat}
def ahead (s:List UInt8) (i:Nat):UInt8:=((47 :: s)[i]?).getD 0
def badAt (s:List UInt8) (i:Nat) (c:UInt8):Bool:=!(wordN c.toNat || (c == 47 && ahead s i != 47))
def st26 (s:List UInt8) (os:List AObj) (b:Nat) (i:Nat):St:=⟨[(0,.val (.str s)),(3,.val (.int .u8 (ahead s i).toNat)),(4,.val (.int .i64 i))],⟨os,b,os.length⟩⟩
theorem ahead_next {s:List UInt8} {i:Nat} {c:UInt8} (h:s[i]? = some c):ahead s (i+1)=c:=by
 simp [ahead,h]
theorem body26 {s:List UInt8} {i:Nat} {c:UInt8} (hn:s.length≤9223372036854775807) (hc:s[i]? = some c) :
  xCode T code26L0 (st26 s os b i)=some (if badAt s i c then (.ret,⟨[(2,.val (.bool false))],⟨os,b,os.length⟩⟩) else (.normal,st26 s os b (i+1))):=by
 have hlt:=ai hc
 have hi':(i:Int) < (s.length:Int):=by omega
 have hge:(0:Int)≤i:=by omega
 have hw:=wrap_next hlt hn
 have hnx:=ahead_next hc
 unfold badAt st26
 rw [hnx]
 generalize ahead s i=l
 have hl:(l == 47)=decide (l.toNat=47):=by
  by_cases h:l=47
  ·subst h; rfl
  ·have:¬ l.toNat=47:=fun e=>h (UInt8.toNat_inj.1 e)
   simp [h,this]
 have hcc:(c == 47)=decide (c.toNat=47):=by
  by_cases h:c=47
  ·subst h; rfl
  ·have:¬ c.toNat=47:=fun e=>h (UInt8.toNat_inj.1 e)
   simp [h,this]
 have hbl:(l != 47) = !decide (l.toNat=47):=by rw [← hl]; rfl
 rw [hcc,hbl]
 generalize hm:l.toNat=m
 generalize hnn:c.toNat=n
 have e1:((97:Int)≤n)=(97≤n):=by apply propext; omega
 have e2:((n:Int)≤122)=(n≤122):=by apply propext; omega
 have e3:((65:Int)≤n)=(65≤n):=by apply propext; omega
 have e4:((n:Int)≤90)=(n≤90):=by apply propext; omega
 have e5:((48:Int)≤n)=(48≤n):=by apply propext; omega
 have e6:((n:Int)≤57)=(n≤57):=by apply propext; omega
 have e7:((n:Int)=95)=(n=95):=by apply propext; omega
 have e8:((n:Int)=36)=(n=36):=by apply propext; omega
 have e9:((n:Int)=47)=(n=47):=by apply propext; omega
 have e10:((m:Int)=47)=(m=47):=by apply propext; omega
 by_cases c1:97≤n <;> by_cases c2:n≤122 <;> by_cases c3:65≤n <;> by_cases c4:n≤90 <;> by_cases c5:48≤n <;> by_cases c6:n≤57 <;> (try (exfalso; omega)) <;> by_cases c7:n=95 <;> (try (exfalso; omega)) <;> by_cases c8:n=36 <;> (try (exfalso; omega)) <;> by_cases c9:n=47 <;> (try (exfalso; omega)) <;> by_cases c10:m=47
 all_goals simp [code26L0,hi',hge,hc,hnn,hw,wordN,e1,e2,e3,e4,e5,e6,e7,e8,e9,e10,c1,c2,c3,c4,c5,c6,c7,c8,c9,c10]
def badPair (x:UInt8 × UInt8):Bool:=!(wordN x.2.toNat || (x.2 == 47 && x.1 != 47))
theorem okFrom_all:∀ (s:List UInt8) (l:UInt8),okFrom l s=(!(((l :: s).zip s).any badPair) && (((l :: s)[s.length]?).getD 0 != 47))
 | [],l=>by simp [okFrom]
 | c :: r,l=>by
  have ih:=okFrom_all r c
  simp only [okFrom,List.zip_cons_cons,List.any_cons,a8,gu,badPair,Bool.not_or,Bool.not_not] at ih ⊢
  have hh:∀ a b:Bool,(!(!a && !b))=(a || b):=by decide
  rw [ih,Bool.and_assoc,hh]
theorem pair_at {s:List UInt8} {i:Nat} {x:UInt8 × UInt8} (h:((47 :: s).zip s)[i]? = some x):s[i]? = some x.2∧ahead s i=x.1:=by
 rw [List.getElem?_zip_eq_some] at h
 exact ⟨h.2,by simp [ahead,h.1]⟩
theorem s26 {s:List UInt8} (hn:s.length≤9223372036854775807):xCall T 26 [.str s] ⟨os,b,w⟩=some (.bool (isClass s),⟨os,b,w⟩):=by
 rw [isClass_ok,okFrom_all]
 have hzl:((47 :: s).zip s).length=s.length:=by simp
 have hl:=loop_find (T:=T) (c:=code26L0) badPair ((47 :: s).zip s) (st26 s os b) (fun _=>⟨[(2,.val (.bool false))],⟨os,b,os.length⟩⟩) .ret (.exit 0)
  ⟨[(0,.val (.str s)),(3,.val (.int .u8 (ahead s s.length).toNat))],⟨os,b,os.length⟩⟩ ?_ (by simp) (by simp) (by rw [hzl]; simp [code26L0,st26])
 ·have h0:st26 s os b 0=⟨[(0,.val (.str s)),(3,.val (.int .u8 47)),(4,.val (.int .i64 0))],⟨os,b,os.length⟩⟩:=rfl
  rw [h0] at hl
  rcases hl with ⟨h1,h2⟩ | ⟨j,x,h1,h2,_,h4⟩
  ·rw [h1]
   have hl47:((ahead s s.length).toNat=47)=(ahead s s.length=47):=by
    apply propext
    exact ⟨fun e=>UInt8.toNat_inj.1 e,fun e=>by rw [e]; rfl⟩
   have hah:((47 :: s)[s.length]?).getD 0=ahead s s.length:=rfl
   rw [hah]
   have e1:(((ahead s s.length).toNat:Int)=47)=(ahead s s.length=47):=by rw [← hl47]; apply propext; omega
   by_cases h64:s.length≤64
   ·have h64':(s.length:Int)≤64:=by omega
    by_cases h47:ahead s s.length=47
    ·simp [dj T t26,code26,h2,h64,h64',e1,h47]
    ·simp [dj T t26,code26,h2,h64,h64',e1,h47]
   ·have h64':¬ ((s.length:Int)≤64):=by omega
    simp [dj T t26,code26,h2,h64,h64']
  ·have hany:((47 :: s).zip s).any badPair=true:=List.any_eq_true.2 ⟨x,az h1,h2⟩
   rw [hany]
   simp [dj T t26,code26,h4]
 ·intro i x hx
  obtain ⟨h1,h2⟩:=pair_at hx
  have:=body26 (os:=os) (b:=b) hn h1
  have hb:badAt s i x.2=badPair x:=by simp only [badAt,badPair,h2]
  rw [hb] at this
  exact this
end Go.Abs.AbsDesc

namespace Go.Abs.AbsDesc
variable {os:List AObj} {b w:Nat}
def begins (c:UInt8):List UInt8→Bool
 | []=>false
 | x :: _=>decide (x=c)
theorem s140 {s:List UInt8} {c:UInt8}:xCall T 140 [.str s,.str [c]] ⟨os,b,w⟩=some (.bool (begins c s),⟨os,b,w⟩):=by
 cases s with
 | nil=>simp [dj T t140,code140,begins]
 | cons x r =>
  have h1:(1:Int)≤(r.length:Int)+1:=by omega
  simp [dj T t140,code140,begins,h1]
theorem s88 {s:List UInt8} {c:UInt8}:xCall T 88 [.str s,.str [c]] ⟨os,b,w⟩=some (.bool (begins c s),⟨os,b,w⟩):=by
 have h:=s140 (os:=os) (b:=b) (w:=os.length) (s:=s) (c:=c)
 simp [dj T t88,code88,h]
theorem s137 {s:List UInt8} {c:UInt8} (hn:s.length≤9223372036854775807):xCall T 137 [.str s,.str [c]] ⟨os,b,w⟩=some (.tuple [.str (if begins c s then s.tail else s),.bool (begins c s)],⟨os,b,w⟩):=by
 have h:=s140 (os:=os) (b:=b) (w:=os.length) (s:=s) (c:=c)
 cases s with
 | nil=>simp [dj T t137,code137,begins] at h ⊢; simp [h]
 | cons x r =>
  by_cases e:x=c
  ·have h1:(1:Int)≤(r.length:Int)+1:=by omega
   simp [dj T t137,code137,begins,e,h1] at h ⊢
   simp [h,h1]
  ·simp [dj T t137,code137,begins,e] at h ⊢
   simp [h]
theorem s85 {s:List UInt8} {c:UInt8} (hn:s.length≤9223372036854775807):xCall T 85 [.str s,.str [c]] ⟨os,b,w⟩=some (.tuple [.str (if begins c s then s.tail else s),.bool (begins c s)],⟨os,b,w⟩):=by
 have h:=s137 (os:=os) (b:=b) (w:=os.length) (c:=c) hn
 simp [dj T t85,code85,h]
end Go.Abs.AbsDesc

namespace Go.Abs.AbsDesc
variable {os:List AObj} {b w:Nat}
def elemV (s:List UInt8):AVal:=.tuple [.str (if begins 91 s then s.tail else []),.bool (begins 91 s)]
theorem s36 {s:List UInt8} (hn:s.length≤9223372036854775807):xCall T 36 [.str s] ⟨os,b,w⟩=some (elemV s,⟨os,b,w⟩):=by
 have h:=s85 (os:=os) (b:=b) (w:=os.length) (c:=91) hn
 by_cases e:begins 91 s=true
 ·simp [dj T t36,code36,h,elemV,e]
 ·simp [dj T t36,code36,h,elemV,e]
end Go.Abs.AbsDesc

namespace Go.Abs.AbsDesc
variable {os:List AObj} {b w:Nat}
theorem jw (x:UInt8) (n:Nat) (hn:n < 256):((x.toNat:Int)=(n:Int))=(x=UInt8.ofNat n):=by
 apply propext
 constructor
 ·intro h
  apply UInt8.toNat_inj.1
  have e:(UInt8.ofNat n).toNat=n:=by simp; omega
  omega
 ·intro h
  subst h
  have e:(UInt8.ofNat n).toNat=n:=by simp; omega
  omega
def isRef (s:List UInt8):Bool:=begins 76 s || begins 91 s
theorem s30 {s:List UInt8}:xCall T 30 [.str s] ⟨os,b,w⟩=some (.bool (isRef s),⟨os,b,w⟩):=by
 have h1:=s88 (os:=os) (b:=b) (w:=os.length) (s:=s) (c:=76)
 have h2:=s88 (os:=os) (b:=b) (w:=os.length) (s:=s) (c:=91)
 by_cases e:begins 76 s=true
 ·simp [dj T t30,code30,h1,h2,isRef,e]
 ·simp [dj T t30,code30,h1,h2,isRef,e]
end Go.Abs.AbsDesc

namespace Go.Abs.AbsDesc
variable {os:List AObj} {b w:Nat}
def ends (c:UInt8) (s:List UInt8):Bool:=decide (1≤s.length) && decide (s.drop (s.length - 1)=[c])
theorem s141 {s:List UInt8} {c:UInt8} (hn:s.length≤9223372036854775807):xCall T 141 [.str s,.str [c]] ⟨os,b,w⟩=some (.bool (ends c s),⟨os,b,w⟩):=by
 by_cases h:1≤s.length
 ·have h1:(1:Int)≤(s.length:Int):=by omega
  have h2:IntKind.i64.wrap ((s.length:Int) - 1)=((s.length - 1:Nat):Int):=by rw [wrap64 (by omega) (by omega)]; omega
  have h3:((s.length - 1:Nat):Int)≤(s.length:Int):=by omega
  have h4:List.take (s.length - (s.length - 1)) (s.drop (s.length - 1))=s.drop (s.length - 1):=eh (by simp)
  simp [dj T t141,code141,ends,h,h1,h2,h3,h4]
 ·have h1:¬ ((1:Int)≤(s.length:Int)):=by omega
  simp [dj T t141,code141,ends,h,h1]
theorem s89 {s:List UInt8} {c:UInt8} (hn:s.length≤9223372036854775807):xCall T 89 [.str s,.str [c]] ⟨os,b,w⟩=some (.bool (ends c s),⟨os,b,w⟩):=by
 have h:=s141 (os:=os) (b:=b) (w:=os.length) (c:=c) hn
 simp [dj T t89,code89,h]
end Go.Abs.AbsDesc

namespace Go.Abs.AbsDesc
variable {os:List AObj} {b w:Nat}
def isObj (s:List UInt8):Bool:=decide (2≤s.length) && begins 76 s && ends 59 s
def classV (s:List UInt8):AVal:=if isObj s then .tuple [.str ((s.drop 1).take (s.length - 2)),.bool true] else .tuple [.str [],.bool false]
theorem s34 {s:List UInt8} (hn:s.length≤9223372036854775807):xCall T 34 [.str s] ⟨os,b,w⟩=some (classV s,⟨os,b,w⟩):=by
 have h1:=s88 (os:=os) (b:=b) (w:=os.length) (s:=s) (c:=76)
 have h2:=s89 (os:=os) (b:=b) (w:=os.length) (c:=59) hn
 by_cases h:2≤s.length
 ·have c1:¬ ((s.length:Int) < 2):=by omega
  have c2:IntKind.i64.wrap ((s.length:Int) - 1)=((s.length - 1:Nat):Int):=by rw [wrap64 (by omega) (by omega)]; omega
  have c3:((s.length - 1:Nat):Int)≤(s.length:Int):=by omega
  have c4:(1:Int)≤((s.length - 1:Nat):Int):=by omega
  have c5:s.length - 1 - 1=s.length - 2:=by omega
  by_cases e1:begins 76 s=true <;> by_cases e2:ends 59 s=true
  all_goals simp [dj T t34,code34,classV,isObj,h,c1,c2,c3,c4,c5,h1,h2,e1,e2]
 ·have c1:(s.length:Int) < 2:=by omega
  simp [dj T t34,code34,classV,isObj,h,c1]
end Go.Abs.AbsDesc

namespace Go.Abs.AbsDesc
variable {os:List AObj} {b w:Nat}
theorem begins_get {s:List UInt8} {x c:UInt8} (h:s[0]? = some x):begins c s=decide (x=c):=by
 cases s with
 | nil=>simp at h
 | cons y r=>simp at h; subst h; rfl
theorem ends_get {s:List UInt8} {x c:UInt8} (h:s[s.length - 1]? = some x):ends c s=decide (x=c):=by
 have hl:=ai h
 unfold ends
 have:s.drop (s.length - 1)=[x]:=by
  rw [ea hl,bg (by omega)]
  rw [ah hl] at h
  cases h; rfl
 rw [this]
 simp; omega
section
attribute [-simp] getElem?_pos getElem?_neg
theorem s33 {s:List UInt8} (hn:s.length≤9223372036854775807):xCall T 33 [.str s] ⟨os,b,w⟩=some (classV s,⟨os,b,w⟩):=by
 by_cases h:2≤s.length
 ·obtain ⟨x,hx⟩:∃ x,s[0]? = some x:=⟨_,ah (by omega)⟩
  obtain ⟨y,hy⟩:∃ y,s[s.length - 1]? = some y:=⟨_,ah (by omega)⟩
  have b1:=begins_get (c:=76) hx
  have e1:=ends_get (c:=59) hy
  have u1:((x.toNat:Int)=76)=(x=76):=jw x 76 (by omega)
  have u2:((y.toNat:Int)=59)=(y=59):=jw y 59 (by omega)
  have ht:((s.length:Int) - 1).toNat=s.length - 1:=by omega
  have hq:s.length - 1 - 1=s.length - 2:=by omega
  by_cases c1:x=76 <;> by_cases c2:y=59
  all_goals simp (disch:=omega) [av t33,code33,classV,isObj,iltT,iltF,ileT,ileF,nltT,nltF,nleT,nleF,df,h,hx,hy,b1,e1,u1,u2,c1,c2,ht,hq]
 ·simp (disch:=omega) [av t33,code33,classV,isObj,iltT,h]
end
end Go.Abs.AbsDesc

namespace Go.Abs.AbsDesc
def bare (s:List UInt8):List UInt8:=s.dropWhile (· == 91)
def dims (s:List UInt8):Nat:=s.length - (bare s).length
theorem bare_len (s:List UInt8):(bare s).length≤s.length:=by
 unfold bare
 induction s with
 | nil=>simp
 | cons x r ih =>
  rw [List.dropWhile_cons]
  split
  ·simp; omega
  ·simp
theorem bare_split:∀ s:List UInt8,s=List.replicate (dims s) 91++bare s
 | []=>rfl
 | x :: r=>by
  have ih:=bare_split r
  have hl:=bare_len r
  unfold dims bare at *
  rw [List.dropWhile_cons]
  split
  ·rename_i h
   have:x=91:=by simpa using h
   subst this
   have e:(91 :: r).length - (List.dropWhile (· == 91) r).length=(r.length - (List.dropWhile (· == 91) r).length)+1:=by simp only [a8]; omega
   rw [e,List.replicate_succ,b0,← ih]
  ·simp
theorem bare_head {s r:List UInt8} {c:UInt8} (h:bare s=c :: r):c≠91:=by
 have:=List.head?_dropWhile_not (fun x:UInt8=>x == 91) s
 unfold bare at h
 rw [h] at this
 simpa using this
theorem bare_of {n:Nat} {c:UInt8} {r:List UInt8} (h:c≠91):bare (List.replicate n 91++c :: r)=c :: r:=by
 unfold bare
 induction n with
 | zero=>simp [h]
 | succ n ih=>rw [List.replicate_succ,b0,List.dropWhile_cons]; simpa using ih
theorem dims_of {n:Nat} {c:UInt8} {r:List UInt8} (h:c≠91):dims (List.replicate n 91++c :: r)=n:=by
 unfold dims
 rw [bare_of h]
 simp
def nameL (r:List UInt8):Option Nat:=if 0≤Lib.indexByte r 59 then (if isClass (r.take (Lib.indexByte r 59).toNat) then some (Lib.indexByte r 59).toNat else none) else none
def cutN (s:List UInt8):Nat:=match bare s with
 | []=>0
 | c :: r=>if 8 < dims s then 0
  else if c=73∨(c=74∧dims s=0)∨(c=66∧0 < dims s) then dims s+1
  else if c=76 then (match nameL r with | some k=>dims s+k+2 | none=>0) else 0
theorem ib_take {c:UInt8}:∀ {r:List UInt8} {k:Nat},Lib.indexByte r c=k→k < r.length∧r.take k++c :: r.drop (k+1)=r∧c ∉ r.take k
 | [],k,h=>by simp [Lib.indexByte] at h
 | x :: r,k,h=>by
  unfold Lib.indexByte at h
  split at h
  ·rename_i hx
   have hx:x=c:=by simpa using hx
   have:k=0:=by omega
   subst this; subst hx
   simp
  ·rename_i hx
   have hx:¬ x=c:=by simpa using hx
   have hge:=Lib.indexByte_ge r c
   split at h
   ·omega
   ·cases k with
    | zero=>rename_i e; simp at e; omega
    | succ k =>
     obtain ⟨h1,h2,h3⟩:=ib_take (r:=r) (k:=k) (c:=c) (by omega)
     refine ⟨by simp; omega,by simpa using h2,?_⟩
     simp only [List.take_succ_cons,bt,not_or]
     exact ⟨fun e=>hx e.symm,h3⟩
theorem ib_of {c:UInt8}:∀ {a b:List UInt8},c ∉ a→Lib.indexByte (a++c :: b) c=a.length
 | [],b,_=>by simp [Lib.indexByte]
 | x :: a,b,h=>by
  have h1:¬ x=c:=fun e=>h (by simp [e])
  have ih:=ib_of (a:=a) (b:=b) (c:=c) fun h'=>h (bj _ h')
  simp only [b0]
  unfold Lib.indexByte
  simp [h1,ih]
theorem parts_mem {c y:UInt8}:∀ {s:List UInt8},y ∈ s→y≠c→∃ p ∈ parts c s,y ∈ p
 | [],h,_=>by cases h
 | x :: r,h,hy=>by
  simp only [parts]
  rcases bt.1 h with rfl | h
  ·rw [if_neg (by simpa using hy)]
   cases hp:parts c r with
   | nil=>exact ⟨_,et _,et _⟩
   | cons p ps=>exact ⟨_,bc ..,bc ..⟩
  ·obtain ⟨p,hp,hyp⟩:=parts_mem h hy
   split
   ·exact ⟨p,bj _ hp,hyp⟩
   ·cases hq:parts c r with
    | nil=>rw [hq] at hp; cases hp
    | cons q ps =>
     rw [hq] at hp
     rcases bt.1 hp with rfl | hp
     ·exact ⟨_,bc ..,bj _ hyp⟩
     ·exact ⟨p,bj _ hp,hyp⟩
theorem isClass_semi {s:List UInt8} (h:isClass s=true):(59:UInt8) ∉ s:=by
 intro hm
 obtain ⟨p,hp,hy⟩:=parts_mem (c:=47) hm (by decide)
 simp only [isClass,au,al] at h
 have:=h.2 p hp
 simp only [wordL,au,al] at this
 have:=this.2 59 hy
 simp [wordN] at this
theorem isClass_ne {s:List UInt8} (h:isClass s=true):s≠[]:=by
 rintro rfl
 simp [isClass,parts,wordL] at h
theorem nameL_some {r:List UInt8} {k:Nat} (h:nameL r=some k):k < r.length∧r=r.take k++59 :: r.drop (k+1)∧isClass (r.take k)=true:=by
 unfold nameL at h
 split at h
 ·rename_i h0
  obtain ⟨j,hj⟩:=ge h0
  rw [hj] at h
  simp only [Int.toNat_natCast] at h
  split at h
  ·rename_i hc
   cases h
   obtain ⟨h1,h2,_⟩:=ib_take hj
   exact ⟨h1,h2.symm,hc⟩
  ·cases h
 ·cases h
theorem nameL_of {a b:List UInt8} (h:isClass a=true):nameL (a++59 :: b)=some a.length:=by
 have:=ib_of (b:=b) (isClass_semi h)
 unfold nameL
 rw [this,if_pos (by omega)]
 simp only [Int.toNat_natCast,List.take_left',h,if_true]
theorem cutN_le (s:List UInt8):cutN s≤s.length:=by
 have hb:=bare_split s
 have hl:=congrArg List.length hb
 simp only [aw,List.length_replicate] at hl
 unfold cutN
 cases hbs:bare s with
 | nil=>simp
 | cons c r =>
  rw [hbs] at hl
  simp only [a8] at hl
  simp only
  split
  ·omega
  ·split
   ·omega
   ·split
    ·cases hn:nameL r with
     | none=>simp
     | some k=>have:=(nameL_some hn).1; simp only; omega
    ·omega
inductive Ty:List UInt8→Prop
 | one (n:Nat) (c:UInt8) (h:n≤8) (hc:c=73∨(c=74∧n=0)∨(c=66∧0 < n)):Ty (List.replicate n 91++[c])
 | obj (n:Nat) (a:List UInt8) (h:n≤8) (ha:isClass a=true):Ty (List.replicate n 91++76 :: (a++[59]))
theorem ty_cut {t:List UInt8} (ht:Ty t) (u:List UInt8):cutN (t++u)=t.length:=by
 cases ht with
 | one n c h hc =>
  have hc91:c≠91:=by rcases hc with e | ⟨e,_⟩ | ⟨e,_⟩ <;> (subst e; decide)
  have hb:=bare_of (n:=n) (r:=u) hc91
  have hd:=dims_of (n:=n) (r:=u) hc91
  rw [show List.replicate n 91++[c]++u=List.replicate n 91++c :: u by simp]
  unfold cutN
  rw [hb,hd]
  simp only
  rw [if_neg (by omega),if_pos hc]
  simp
 | obj n a h ha =>
  have hb:=bare_of (n:=n) (c:=76) (r:=a++59 :: u) (by decide)
  have hd:=dims_of (n:=n) (c:=76) (r:=a++59 :: u) (by decide)
  rw [show List.replicate n 91++76 :: (a++[59])++u=List.replicate n 91++76 :: (a++59 :: u) by simp]
  unfold cutN
  rw [hb,hd]
  simp only
  rw [if_neg (by omega),if_neg (by simp)]
  simp only [if_true,nameL_of ha]
  simp
  omega
theorem cut_ty {s:List UInt8} (h:cutN s≠0):Ty (s.take (cutN s)):=by
 have hb:=bare_split s
 revert h
 unfold cutN
 cases hbs:bare s with
 | nil=>simp
 | cons c r =>
  rw [hbs] at hb
  simp only
  generalize hn:dims s=n at *
  split
  ·simp
  ·rename_i h8
   split
   ·rename_i hc
    intro _
    have:s.take (n+1)=List.replicate n 91++[c]:=by
     rw [hb,List.take_append,List.length_replicate,eh (by simp),show n+1 - n=1 by omega]
     rfl
    rw [this]
    exact .one n c (by omega) hc
   ·split
    ·rename_i hc
     subst hc
     cases hn':nameL r with
     | none=>simp
     | some k =>
      intro _
      obtain ⟨k1,k2,k3⟩:=nameL_some hn'
      simp only
      have:s.take (n+k+2)=List.replicate n 91++76 :: (r.take k++[59]):=by
       rw [hb,List.take_append,List.length_replicate,eh (by simp; omega),show n+k+2 - n=(k+1)+1 by omega,List.take_succ_cons]
       congr 2
       conv=>lhs; rw [k2]
       rw [List.take_append]
       have hk:(r.take k).length=k:=by simp; omega
       rw [hk,eh (by omega),show k+1 - k=1 by omega]
       rfl
      rw [this]
      exact .obj n _ (by omega) k3
    ·simp
theorem ty_ne {t:List UInt8} (ht:Ty t):t≠[]:=by
 cases ht <;> simp
def isTy (s:List UInt8):Bool:=decide (s≠[]) && decide (cutN s=s.length)
theorem isTy_iff (s:List UInt8):isTy s=true ↔ Ty s:=by
 simp only [isTy,au,decide_eq_true_eq]
 constructor
 ·rintro ⟨h1,h2⟩
  have h3:cutN s≠0:=by
   rw [h2]
   intro e
   exact h1 (bq e)
  have:=cut_ty h3
  rwa [h2,List.take_length] at this
 ·intro h
  have:=ty_cut h []
  rw [ci] at this
  exact ⟨ty_ne h,this⟩
theorem isTy_take {s:List UInt8} {n:Nat} (hn:n≤s.length) (h:isTy (s.take n)=true):n=cutN s:=by
 have h1:=ty_cut ((isTy_iff _).1 h) (s.drop n)
 rw [List.take_append_drop] at h1
 rw [h1]; simp; omega
theorem isTy_cut {s:List UInt8} (h:cutN s≠0):isTy (s.take (cutN s))=true:=(isTy_iff _).2 (cut_ty h)
end Go.Abs.AbsDesc

namespace Go.Abs.AbsDesc
variable {os:List AObj} {b w:Nat} {β:Type}
section
attribute [-simp] getElem?_pos getElem?_neg
theorem l171 {h:Heap} (k:AExit→St→Option β):∀ s:List UInt8,xK T (.loop code171L0) ⟨[(0,.val (.str s)),(1,.val (.int .u8 91))],h⟩ (k:=⟨k⟩)=k (.exit 0) ⟨[(0,.val (.str (bare s)))],h⟩
 | []=>by
  rw [cf]
  simp [code171L0,bare]
 | x :: r=>by
  have ih:=l171 (h:=h) k r
  have e:((x.toNat:Int)=91)=(x=91):=jw x 91 (by omega)
  rw [cf]
  generalize ACode.loop code171L0=L at ih ⊢
  by_cases c:x=91
  ·simp (disch:=omega) [code171L0,iltT,ileT,nltT,e,c,ih,bare,List.dropWhile_cons,ba]
  ·simp (disch:=omega) [code171L0,iltT,ileT,nltT,e,c,bare,List.dropWhile_cons,ba]
end
theorem s171 {s:List UInt8}:xCall T 171 [.str s,.int .u8 91] ⟨os,b,w⟩=some (.str (bare s),⟨os,b,w⟩):=by
 simp [av t171,code171,l171]
theorem s139 {s:List UInt8}:xCall T 139 [.str s,.str [91]] ⟨os,b,w⟩=some (.str (bare s),⟨os,b,w⟩):=by
 by_cases h:s=[]
 ·subst h
  simp [av t139,code139,bare]
 ·simp [av t139,code139,h,s171]
def cutV (c:UInt8) (s:List UInt8):AVal:=if 0≤Lib.indexByte s c then .tuple [.str (s.take (Lib.indexByte s c).toNat),.str (s.drop ((Lib.indexByte s c).toNat+1)),.bool true] else .tuple [.str s,.str [],.bool false]
theorem s172 {s:List UInt8} {c:UInt8} (hn:s.length≤9223372036854775807):xCall T 172 [.str s,.str [c]] ⟨os,b,w⟩=some (cutV c s,⟨os,b,w⟩):=by
 have h5:=fun h=>s205 (s:=s) (c:=c) (h:=h)
 by_cases h:0≤Lib.indexByte s c
 ·obtain ⟨k,hk⟩:=ge h
  obtain ⟨k1,_⟩:=ib_take hk
  have e3:((k:Int)+1).toNat=k+1:=by omega
  have hv:cutV c s = .tuple [.str (s.take k),.str (s.drop (k+1)),.bool true]:=by
   unfold cutV; rw [hk,if_pos (by omega)]; rfl
  rw [hv]
  simp (disch:=omega) [-getElem?_pos,-getElem?_neg,av t172,code172,h5,hk,iltT,ileT,nltT,nleT,df,e3]
 ·have hv:cutV c s = .tuple [.str s,.str [],.bool false]:=by
   unfold cutV; rw [if_neg h]
  rw [hv]
  simp (disch:=omega) [av t172,code172,h5,h]
theorem s138 {s:List UInt8} {c:UInt8} (hn:s.length≤9223372036854775807):xCall T 138 [.str s,.str [c]] ⟨os,b,w⟩=some (cutV c s,⟨os,b,w⟩):=by
 have h:=fun w=>s172 (os:=os) (b:=b) (w:=w) (c:=c) hn
 unfold cutV at h ⊢
 by_cases h0:0≤Lib.indexByte s c
 ·simp only [if_pos h0] at h ⊢
  simp [av t138,code138,h]
 ·simp only [if_neg h0] at h ⊢
  simp [av t138,code138,h]
theorem dims_eq {s r:List UInt8} {c:UInt8} (h:bare s=c :: r):s.length=dims s+(r.length+1):=by
 have:=congrArg List.length (bare_split s)
 simpa [h] using this
section
attribute [-simp] getElem?_pos getElem?_neg
theorem s86 {s:List UInt8} (hn:s.length≤9223372036854775807) (hb:b≤os.length):xCall T 86 [.str s] ⟨os,b,w⟩=some (.str (s.take (cutN s)),⟨os,b,w⟩):=by
 have h139:=fun w=>s139 (os:=os) (b:=b) (w:=w) (s:=s)
 have hl:=bare_len s
 have hd:((s.length:Int) - (bare s).length)=(dims s:Nat):=by unfold dims; omega
 have hle:dims s≤s.length:=by unfold dims; omega
 cases hbs:bare s with
 | nil =>
  simp only [hbs] at h139
  simp [av t86,code86,ba,h139,cutN,hbs]
 | cons c r =>
  simp only [hbs] at h139
  clear hd
  have hlen:=dims_eq hbs
  have hcut:cutN s=if 8 < dims s then 0 else if c=73∨(c=74∧dims s=0)∨(c=66∧0 < dims s) then dims s+1 else if c=76 then (match nameL r with | some k=>dims s+k+2 | none=>0) else 0:=by
   unfold cutN; rw [hbs] <;> rfl
  rw [hcut]
  clear hl hcut
  generalize dims s=d at hlen hle ⊢
  have hd:(s.length:Int) - ((r.length:Int)+1)=d:=by omega
  have e73:((c.toNat:Int)=73)=(c=73):=jw c 73 (by omega)
  have e74:((c.toNat:Int)=74)=(c=74):=jw c 74 (by omega)
  have e66:((c.toNat:Int)=66)=(c=66):=jw c 66 (by omega)
  have e76:((c.toNat:Int)=76)=(c=76):=jw c 76 (by omega)
  have ht1:((d:Int)+1).toNat=d+1:=by omega
  by_cases h8:8 < d
  ·simp (disch:=omega) [av t86,code86,ba,h139,hd,df,iltT,h8]
  ·by_cases c73:c=73
   ·simp (disch:=omega) [av t86,code86,ba,h139,hd,df,iltT,iltF,ileT,nltT,nleT,h8,e73,c73,ht1]
   ·by_cases c74:c=74
    ·subst c74
     by_cases d0:d=0
     ·simp (disch:=omega) [av t86,code86,ba,h139,hd,df,iltT,iltF,ileT,nltT,nleT,h8,d0,ht1]
     ·simp (disch:=omega) [av t86,code86,ba,h139,hd,df,iltT,iltF,ileT,nltT,nleT,h8,d0,ieqF,ht1]
    ·by_cases c66:c=66
     ·subst c66
      by_cases d0:0 < d
      ·simp (disch:=omega) [av t86,code86,ba,h139,hd,df,iltT,iltF,ileT,nltT,nleT,h8,d0,ht1]
      ·simp (disch:=omega) [av t86,code86,ba,h139,hd,df,iltT,iltF,ileT,nltT,nleT,h8,d0,ht1]
     ·by_cases c76:c=76
      ·subst c76
       have h138:=fun w=>s138 (os:=os) (b:=b) (w:=w) (s:=r) (c:=59) (by omega)
       have htr:List.take (r.length+1 - 1) r=r:=by simp
       by_cases hi:0≤Lib.indexByte r 59
       ·obtain ⟨k,hk⟩:=ge hi
        obtain ⟨k1,_⟩:=ib_take hk
        have h25:=fun w=>s25 (w:=w) (s:=r.take k) hb
        have hmin:min k r.length=k:=by omega
        simp only [cutV,hk,Int.natCast_nonneg,if_true,Int.toNat_natCast] at h138
        have ht2:((d:Int)+k+2).toNat=d+k+2:=by omega
        have hnm:nameL r=if isClass (r.take k)=true then some k else none:=by
         unfold nameL; rw [hk,if_pos (by omega)]; rfl
        by_cases hc:isClass (r.take k)=true
        ·simp (disch:=omega) [av t86,code86,ba,h139,hd,df,iltT,iltF,ileT,nltT,nleT,h8,h138,h25,hc,hnm,hmin,ht2]
        ·simp (disch:=omega) [av t86,code86,ba,h139,hd,df,iltT,iltF,ileT,nltT,nleT,h8,h138,h25,hc,hnm]
       ·have hnm:nameL r=none:=by unfold nameL; rw [if_neg hi]
        simp only [cutV,if_neg hi] at h138
        simp (disch:=omega) [av t86,code86,ba,h139,hd,df,iltT,iltF,ileT,nltT,nleT,h8,h138,hnm]
      ·simp (disch:=omega) [av t86,code86,ba,h139,hd,df,iltT,iltF,ileT,nltT,nleT,h8,e73,e74,e66,e76,c73,c74,c66,c76]
end
theorem s27 {s:List UInt8} (hn:s.length≤9223372036854775807) (hb:b≤os.length):xCall T 27 [.str s] ⟨os,b,w⟩=some (.bool (isTy s),⟨os,b,w⟩):=by
 have h:=fun w=>s86 (w:=w) hn hb
 have hc:=cutN_le s
 have e:(s.take (cutN s)=s)=(cutN s=s.length):=by
  apply propext
  constructor
  ·intro e
   have:=congrArg List.length e
   simp at this; omega
  ·intro e; rw [e,List.take_length]
 by_cases h0:s=[]
 ·simp [av t27,code27,isTy,h0]
 ·simp [av t27,code27,isTy,h0,h,e]
end Go.Abs.AbsDesc

namespace Go.Abs.AbsDesc
variable {os:List AObj} {b w:Nat} {β:Type}
def objR (s:List UInt8):Bool:=decide (3≤s.length) && begins 76 s && ends 59 s && isClass ((s.drop 1).take (s.length - 2))
theorem ends_app {a:List UInt8} {c x:UInt8}:ends c (a++[x])=decide (x=c):=by
 apply ends_get
 simp
theorem objR_name (r:List UInt8):objR (76 :: r)=match nameL r with | some k=>decide (k+1=r.length) | none=>false:=by
 cases hn:nameL r with
 | some k =>
  obtain ⟨h1,h2,h3⟩:=nameL_some hn
  simp only
  by_cases hk:k+1=r.length
  ·have hd:r.drop (k+1)=[]:=bg (by omega)
   rw [hd] at h2
   have hne:r.take k≠[]:=isClass_ne h3
   have hk0:k≠0:=by rintro rfl; simp at hne
   have e1:ends 59 (76 :: r)=true:=by
    rw [h2,show (76:UInt8) :: (r.take k++[59])=(76 :: r.take k)++[59] by rfl,ends_app]; rfl
   have e2:((76 :: r).drop 1).take ((76 :: r).length - 2)=r.take k:=by
    simp only [List.drop_succ_cons,dr,a8]
    congr 1; omega
   unfold objR
   rw [e1,e2,h3]
   simp [begins,hk]
   omega
  ·simp only [hk,decide_false]
   unfold objR
   rw [Bool.eq_false_iff]
   intro hc
   simp only [au,decide_eq_true_eq] at hc
   obtain ⟨⟨⟨c1,_⟩,c2⟩,c3⟩:=hc
   have e2:((76 :: r).drop 1).take ((76 :: r).length - 2)=r.take (r.length - 1):=by
    simp only [List.drop_succ_cons,dr,a8]
    congr 1
   rw [e2] at c3
   refine isClass_semi c3 ?_
   have:(r.take (r.length - 1))[k]? = some 59:=by
    rw [ed (by omega),h2,ak (by simp; omega)]
    simp [show min k r.length=k by omega]
   exact az this
 | none =>
  simp only
  unfold objR
  rw [Bool.eq_false_iff]
  intro hc
  simp only [au,decide_eq_true_eq] at hc
  obtain ⟨⟨⟨c1,_⟩,c2⟩,c3⟩:=hc
  simp only [a8] at c1
  have e2:((76 :: r).drop 1).take ((76 :: r).length - 2)=r.take (r.length - 1):=by
   simp only [List.drop_succ_cons,dr,a8]
   congr 1
  rw [e2] at c3
  obtain ⟨y,hy⟩:∃ y,r[r.length - 1]? = some y:=⟨_,ah (by omega)⟩
  have hl:(76 :: r)[(76 :: r).length - 1]? = some y:=by
   rw [show (76 :: r).length - 1=(r.length - 1)+1 by simp; omega,gu]; exact hy
  rw [ends_get hl] at c2
  simp only [decide_eq_true_eq] at c2
  subst c2
  have hr:r=r.take (r.length - 1)++59 :: []:=by
   have:r.drop (r.length - 1)=[59]:=by
    have hlt:=ai hy
    rw [ea hlt,bg (by omega)]
    rw [ah hlt] at hy
    rw [dg hy]
   rw [← this,List.take_append_drop]
  rw [hr,nameL_of c3] at hn
  cases hn
theorem cutN_eq {s r:List UInt8} {c:UInt8} (hbs:bare s=c :: r):cutN s=if 8 < dims s then 0 else if c=73∨(c=74∧dims s=0)∨(c=66∧0 < dims s) then dims s+1 else if c=76 then (match nameL r with | some k=>dims s+k+2 | none=>0) else 0:=by
 unfold cutN; rw [hbs] <;> rfl
theorem refTy_eq (s:List UInt8):isTy s=(!decide (8 < dims s) && ((decide (0 < dims s) && decide (bare s=[66])) || (decide (bare s=[73]) || ((decide (dims s=0) && decide (bare s=[74])) || objR (bare s))))):=by
 cases hbs:bare s with
 | nil =>
  have:cutN s=0:=by unfold cutN; rw [hbs]
  have ho:objR []=false:=rfl
  unfold isTy
  rw [this,ho]
  cases s <;> simp
 | cons c r =>
  have hlen:=dims_eq hbs
  have hcut:=cutN_eq hbs
  have hne:s≠[]:=by rintro rfl; simp [bare] at hbs
  unfold isTy
  rw [hcut,hlen]
  generalize dims s=d at *
  have hr0:(r=[]) ↔ r.length=0:=by cases r <;> simp
  by_cases h8:8 < d
  ·simp [h8,hne]
  ·by_cases c73:c=73
   ·subst c73
    have:objR (73 :: r)=false:=by simp [objR,begins]
    by_cases hr:r=[]
    ·simp [h8,hne,this,hr]
    ·have:r.length≠0:=by rwa [Ne,← hr0]
     simp [h8,hne, *]
   ·by_cases c76:c=76
    ·subst c76
     rw [objR_name]
     cases hn:nameL r with
     | none=>simp [h8,hne]
     | some k =>
      simp only [h8,hne,ne_eq,not_false_iff,decide_true,cz,if_false,if_true]
      have:(d+k+2=d+(r.length+1))=(k+1=r.length):=by apply propext; omega
      simp [this]
    ·have hob:objR (c :: r)=false:=by simp [objR,begins,c76]
     by_cases c74:c=74
     ·subst c74
      by_cases d0:d=0 <;> by_cases hr:r=[]
      ·subst d0; subst hr; simp [hne]
      ·have:r.length≠0:=by rwa [Ne,← hr0]
       subst d0; simp [hne,hob,hr,this]
      ·simp [h8,hne,hob,d0]
      ·simp [h8,hne,hob,d0]
     ·by_cases c66:c=66
      ·subst c66
       by_cases d0:0 < d <;> by_cases hr:r=[]
       ·subst hr; simp [h8,hne,hob,d0]
       ·have:r.length≠0:=by rwa [Ne,← hr0]
        simp [h8,hne,hob,d0,hr,this]
       ·simp [h8,hne,hob,d0]
       ·simp [h8,hne,hob,d0]
      ·simp [h8,hne,hob,c73,c74,c66,c76]
theorem dims_get {s:List UInt8} {i:Nat} (h:i < dims s):s[i]? = some 91:=by
 rw [bare_split s,ag (by simpa using h),List.getElem?_replicate,if_pos h]
theorem dims_drop (s:List UInt8):s.drop (dims s)=bare s:=by
 refine (congrArg (List.drop (dims s)) (bare_split s)).trans ?_
 rw [List.drop_append,List.length_replicate]
 simp
theorem l28 {h:Heap} (k:AExit→St→Option β) {s:List UInt8} (hn:s.length≤9223372036854775807):∀ j i,i+j=dims s →
  xK T (.loop code28L0) ⟨[(0,.val (.str s)),(3,.val (.int .i64 (i:Nat)))],h⟩ (k:=⟨k⟩)=k (.exit 0) ⟨[(0,.val (.str s)),(3,.val (.int .i64 (dims s:Nat)))],h⟩
 | 0,i,hi=>by
  have hi:i=dims s:=by omega
  rw [cf]
  have hl:=bare_len s
  have hd:dims s=s.length - (bare s).length:=rfl
  cases hbs:bare s with
  | nil =>
   rw [hbs] at hd
   simp only [br,Nat.sub_zero] at hd
   simp (disch:=omega) [-getElem?_pos,-getElem?_neg,code28L0,iltF,hi,hd]
  | cons c r =>
   have hlen:=dims_eq hbs
   have hc:=bare_head hbs
   have e:((c.toNat:Int)=91)=(c=91):=jw c 91 (by omega)
   have hg:s[dims s]? = some c:=by
    have:=dims_drop s
    rw [hbs] at this
    have h0:=congrArg (fun l=>l[0]?) this
    simpa using h0
   simp (disch:=omega) [-getElem?_pos,-getElem?_neg,code28L0,iltT,ileT,hi,hg,e,hc]
 | j+1,i,hi=>by
  have hg:=dims_get (s:=s) (i:=i) (by omega)
  have hle:dims s≤s.length:=by unfold dims; omega
  have ih:=l28 (h:=h) k hn j (i+1) (by omega)
  have e:((i+1:Nat):Int)=(i:Int)+1:=by omega
  rw [e] at ih
  rw [cf]
  generalize ACode.loop code28L0=L at ih ⊢
  simp (disch:=omega) [-getElem?_pos,-getElem?_neg,code28L0,iltT,ileT,df,hg,ih]
theorem s93 {s:List UInt8} (hn:s.length≤9223372036854775807):xCall T 93 [.str s] ⟨os,b,w⟩=some (.bool (objR s),⟨os,b,w⟩):=by
 by_cases h:3≤s.length
 ·obtain ⟨x,hx⟩:∃ x,s[0]? = some x:=⟨_,ah (by omega)⟩
  obtain ⟨y,hy⟩:∃ y,s[s.length - 1]? = some y:=⟨_,ah (by omega)⟩
  have b1:=begins_get (c:=76) hx
  have e1:=ends_get (c:=59) hy
  have u1:((x.toNat:Int)=76)=(x=76):=jw x 76 (by omega)
  have u2:((y.toNat:Int)=59)=(y=59):=jw y 59 (by omega)
  have ht:((s.length:Int) - 1).toNat=s.length - 1:=by omega
  have hq:s.length - 1 - 1=s.length - 2:=by omega
  have h26:=fun w=>s26 (os:=os) (b:=b) (w:=w) (s:=List.take (s.length - 2) s.tail) (by simp; omega)
  by_cases c1:x=76 <;> by_cases c2:y=59
  all_goals simp (disch:=omega) [-getElem?_pos,-getElem?_neg,av t93,code93,objR,iltT,iltF,ileT,ileF,nltT,nltF,nleT,nleF,df,h,hx,hy,b1,e1,u1,u2,c1,c2,ht,hq,h26]
 ·simp (disch:=omega) [av t93,code93,objR,ileF,h]
theorem s28 {s:List UInt8} (hn:s.length≤9223372036854775807):xCall T 28 [.str s] ⟨os,b,w⟩=some (.bool (isTy s),⟨os,b,w⟩):=by
 have hl:=fun h (k:AExit→St→Option (AVal × Heap))=>l28 (h:=h) k hn (dims s) 0 (by omega)
 simp only [bl] at hl
 have hle:dims s≤s.length:=by unfold dims; omega
 have hb:=dims_drop s
 have hbl:=bare_len s
 have h93:=fun w=>s93 (os:=os) (b:=b) (w:=w) (s:=bare s) (by omega)
 rw [refTy_eq]
 have ht:List.take (s.length - dims s) (bare s)=bare s:=by rw [← hb,jx]
 generalize dims s=d at *
 generalize bare s=r at *
 by_cases h8:8 < d
 ·simp (disch:=omega) [av t28,code28,hl,iltT,iltF,ileT,nleT,hb,h8]
 ·have hd0:(d=0) = ¬ 0 < d:=by apply propext; omega
  by_cases d0:0 < d <;> cases c66:decide (r=[66]) <;> cases c73:decide (r=[73]) <;> cases c74:decide (r=[74])
  all_goals simp (disch:=omega) [av t28,code28,hl,iltT,iltF,ileT,nleT,ieqT,ieqF,neqT,hb,ht,h8,hd0,d0,c66,c73,c74,h93]
end Go.Abs.AbsDesc
