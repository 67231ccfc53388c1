/-
  Texts joined.
-/
import Derived.Test.YtkdkjjokckokfaaGreatQ0
import Derived.Test.YtkdkjjokckokfaaGreatQ10
set_option linter.unusedVariables false
set_option linter.unusedSimpArgs false
set_option maxRecDepth 100000
namespace Go.Abs.AbsBlo
open Go.Abs.AbsBlb hiding T
open Go.Abs.Short
theorem finish_cases2 {h0 h:Heap} {v:AVal} (hv:v.under h0.size=false) :
  (∃ w,dk h0 v h=(v,⟨h.objs,h.base,w⟩)∧(w=min h0.wmin h.wmin∨(w=h0.wmin∧h0.size≤h.wmin))) ∨
  (h0.size≤h.wmin∧∃ f I X,dk h0 v h=(v.ren f,⟨h0.objs++X,h0.base,h0.wmin⟩)∧Moves f I h0.size h.objs (h0.objs++X)∧(∀ j ∈ v.ids,h0.size≤j→I j)∧∀ i,i < h0.size→f i=i):=by
 unfold dk;by_cases hw:h.wmin < h0.size
 ·rw [if_pos hw]; exact .inl ⟨_,rfl,.inl rfl⟩
 ·rw [if_neg hw,hv];simp only [de,if_false];generalize hk:reach h h0.size 1000 v.ids []=k;have hge:∀ i ∈ k,h0.size≤i:=by rw [← hk]; exact tm _ _ _ (by simp)
  split
  ·rename_i hok;refine .inr ⟨by omega,fun i=>if i < h0.size then i else h0.size+idxIn i k,fun i=>i ∈ k,_,rfl,⟨fun i obj hi ho=>?_,fun i obj hi ho j hj hn=>?_,fun i hi=>?_⟩,fun j hj hn=>?_,fun i hi=>if_pos hi⟩
   ·have h1:=hge i hi;obtain ⟨h2,h3⟩:=zbi hi;have h4:¬ i < h0.size:=by omega
    simp only [if_neg h4];have h5:h0.size=h0.objs.length:=rfl;rw [h5,aw (by omega),ji,bk,h3];have h6:h.get i=some obj:=ho;simp only [b9,h6,gh]
   ·rw [au] at hok;have h6:h.get i=some obj:=ho;have:=hok j (gc _ (dz.2 ⟨i,hi,by rw [h6]; exact hj⟩));simp only [dt,decide_eq_true_eq] at this;rcases this with h7 | h7
    ·omega
    ·simpa using h7
   ·show h0.size≤if i < h0.size then i else h0.size+idxIn i k
    rw [if_neg (by omega)]; omega
   ·rw [au] at hok;have:=hok j (e9 _ hj);simp only [dt,decide_eq_true_eq] at this;rcases this with h7 | h7
    ·omega
    ·simpa using h7
  ·exact .inl ⟨_,rfl,.inr ⟨rfl,by omega⟩⟩
theorem finish_any2 {O P:List AObj} {b w':Nat} {v:AVal} (hv:v.under O.length=false) (hw:O.length≤w') :
  (∀ w,dk ⟨O,b,w⟩ v ⟨P,b,w'⟩=(v,⟨P,b,w⟩)) ∨
  (∃ f I X,(∀ w,dk ⟨O,b,w⟩ v ⟨P,b,w'⟩=(v.ren f,⟨O++X,b,w⟩))∧Moves f I O.length P (O++X)∧(∀ j ∈ v.ids,O.length≤j→I j)∧∀ i,i < O.length→f i=i):=by
 rcases finish_cases2 (h0:=⟨O,b,0⟩) (h:=⟨P,b,w'⟩) hv with ⟨w1,e,-⟩ | ⟨-,f,I,X,e,hm,hi,hf⟩
 ·exact .inl fun w=>by rw [v7 hw,e]
 ·exact .inr ⟨f,I,X,fun w=>by rw [v7 hw,e],hm,hi,hf⟩
section
variable {H:List AObj} {b w:Nat} {fi:FI} {F:Fl}
section
attribute [-simp] getElem?_pos getElem?_neg List.all_eq_true
attribute [local simp] qZ qS nltT nltF iltT iltF ileT nleT el
theorem s572 {g:Nat} {am cm:List AVal}:xCall T 572 [.slice none 0 (some 0),.func g am cm] ⟨H,b,w⟩=some (.tuple [],⟨H,b,w⟩):=by
 have h606:∀ w,xCall T 606 [.slice none 0 (some 0),.int .i64 0,.int .i64 0,.func g am cm] ⟨H,b,w⟩=some (.tuple [],⟨H,b,w⟩):=fun w=>by simp (disch:=omega) [bc (sub _ _ AbsBlb.t606),code606,cd,code606L1]
 have h590:∀ w,xCall T 590 [.slice none 0 (some 0),.int .i64 0,.func g am cm] ⟨H,b,w⟩=some (.tuple [],⟨H,b,w⟩):=fun w=>by simp (disch:=omega) [bc (sub _ _ AbsBlb.t590),code590,cd,code590L1,code590L2,h606]
 simp (disch:=omega) [bc (sub _ _ AbsBlb.t572),code572,h590]
theorem s570 {fl n z lim m s:Nat} {x:AVal} (hs:H[s]? = some (.cells 11 (mtC fl n z lim m x))) (hb:b≤s):xCall T 570 [.ptr (some (s,0)),.slice none 0 (some 0)] ⟨H,b,w⟩=some (.int .i64 0,⟨(H++[AObj.map [] 0]).set s (.cells 11 (mtC fl n z lim H.length x)),b,min w s⟩):=by
 have hsl:=ah hs;unfold mtC at hs ⊢;have hs2:=(ag (l₂:=[AObj.map [] 0]) hsl).trans hs;have hs3:∀ o X,(H.set s o++X)[s]? = some o:=fun o X=>by rw [ag (by rw [bf]; exact hsl),eg hsl]
 have hs4:∀ o o' X,(H.set s o++X).set s o'=H.set s o'++X:=fun o o' X=>by rw [oq _ _ (by rw [bf]; exact hsl),List.set_set]
 have hs5:∀ o' X,(H++X).set s o'=H.set s o'++X:=fun o' X=>by rw [oq _ _ hsl]
 rw [hs5];simp (disch:=omega) [bc t570,code570,cd,code570L0,hs,hs2,hb,hs3,hs4,hs5]
end
def K0 (n:Nat):StU:=⟨List.replicate n z0,[],0,-1,0,0,0,false⟩
theorem cnt_rep (lim:Int) (n:Nat):∀ i,i≤n→cnt (opn lim) (List.replicate n z0) i=i
 | 0,_=>rfl
 | i+1,hi=>by
  have ih:=cnt_rep lim n i (by omega);have hx:(List.replicate n z0)[i]? = some z0:=by rw [gn,if_pos (by omega)]
  have ho:opn lim z0=true:=by simp [opn,z0]
  simp only [cnt,hx,ho,if_true,ih]
theorem p555 (h:FlA H fi F) (hbk:∀ j,j < F.b.length→F.b[j]? = some 255) (hw:∀ i,i < F.n→F.w[i]? = some 0) (hz:12≤F.z) (hn0:0 < F.n) (hb:b≤H.length) :
  ∃ H' I,Pre H H'∧I.fi=fi∧H.length≤I.s∧H.length≤I.sa∧H.length≤I.m∧StA H' I F (K0 F.n)∧∀ w,xCall T 555 [.ptr (some (fi.fl,0))] ⟨H,b,w⟩=some (.tuple [.ptr (some (I.s,0)),.int .i64 0],⟨H',b,w⟩):=by
 have hnb:=h.nb.1;have hfl:=ah h.f;have h573:=fun X w=>du sub (s573 (H:=H++X) (b:=b) (w:=w) (h.app X))
 have g0:=ga H [AObj.cells 1 [.ptr (some (H.length+2,0))],.map [] 0,.cells 11 (mtC fi.fl F.n F.z F.lim (H.length+1) (.slice none 0 (some 0)))];have gm:=kj H [AObj.cells 1 [.ptr (some (H.length+2,0))],.map [] 0,.cells 11 (mtC fi.fl F.n F.z F.lim (H.length+1) (.slice none 0 (some 0)))] 1;have gs:=kj H [AObj.cells 1 [.ptr (some (H.length+2,0))],.map [] 0,.cells 11 (mtC fi.fl F.n F.z F.lim (H.length+1) (.slice none 0 (some 0)))] 2
 obtain ⟨P1,x1,w1,i1,i2,i3⟩:=l555 (b:=b) h hbk hw hz hb (c2:=H.length) (s:=H.length+2) (m:=H.length+1) F.n 0 (H++[AObj.cells 1 [.ptr (some (H.length+2,0))],.map [] 0,.cells 11 (mtC fi.fl F.n F.z F.lim (H.length+1) (.slice none 0 (some 0)))]) (.slice none 0 (some 0)) H.length (by omega)
  ⟨fun k o hk=>by rw [ag (ah hk)]; exact hk,g0,gs,gm,.inl ⟨rfl,rfl⟩,aj _,by omega,by omega⟩ (aj _)
 have hP1l:=i1.pre.len;have hcl:=ah i1.hc;have hsl:=ah i1.hs;have h570:=fun w=>s570 (b:=b) (w:=w) i1.hs (by omega)
 have h572:=fun P w=>s572 (H:=P) (b:=b) (w:=w) (g:=571) (am:=[]) (cm:=[.ptr (some (H.length,0))])
 let P2:=(P1++[AObj.map [] 0]).set (H.length+2) (.cells 11 (mtC fi.fl F.n F.z F.lim P1.length x1))
 have hP2:(P1++[AObj.map [] 0]).set (H.length+2) (.cells 11 (mtC fi.fl F.n F.z F.lim P1.length x1))=P2:=rfl
 have up:∀ k o,k≠H.length+2→P1[k]? = some o→P2[k]? = some o:=fun k o hk ho=>by
  show ((P1++_).set _ _)[k]? = _
  rw [av (fun e=>hk e.symm),ag (ah ho)]; exact ho
 have k0:P2[H.length]? = some (.cells 1 [.ptr (some (H.length+2,0))]):=up _ _ (by omega) i1.hc;have ks:P2[H.length+2]? = some (.cells 11 (mtC fi.fl F.n F.z F.lim P1.length x1)):=eg (by rw [aq]; omega)
 have km:P2[P1.length]? = some (.map [] 0):=by
  show ((P1++[AObj.map [] 0]).set _ _)[_]? = _
  rw [av (by omega),ga]; rfl
 rcases i1.hx with ⟨e,-⟩ | ⟨-,q,hq,rfl,hrow⟩
 ·have:=congrArg List.length e;simp at this;omega
 ·rw [br] at ks hP2 h570;have hqs:q≠H.length+2:=fun e=>by rw [e,i1.hs] at hrow; simp [mtC] at hrow
  have kq:P2[q]? = some (.cells 3 ((List.replicate F.n z0).flatMap Sec.cells)):=up _ _ hqs hrow;have hpre2:Pre H P2:=fun k o hk=>up k o (by have:=ah hk; omega) (i1.pre k o hk)
  have hset0:P2.set H.length (.cells 1 [.ptr (some (H.length+2,0))])=P2:=pt k0;have hR:Row P2 3 Sec.cells (List.replicate F.n z0) (some (q,0)):=Row.mk0 (fun _=>rfl) kq;have h0:=fun c w=>du sub (s0 (os:=P2) (b:=b) (w:=w) (c:=c) (lim:=F.lim) hR (by rw [br]; omega))
  simp only [br,cnt_rep F.lim F.n F.n (aj _)] at h0;have hv:AVal.under H.length (.tuple [.ptr (some (H.length+2,0)),.int .i64 0])=false:=by simp [AVal.under,AVal.unders]
  have hx0:xCall T 555 [.ptr (some (fi.fl,0))]=fun h=>xCall T 555 [.ptr (some (fi.fl,0))] h:=rfl
  have hrun:∀ w,xCall T 555 [.ptr (some (fi.fl,0))] ⟨H,b,w⟩=some (dk ⟨H,b,w⟩ (.tuple [.ptr (some (H.length+2,0)),.int .i64 0]) ⟨P2,b,min (min w1 (H.length+2)) H.length⟩):=fun w=>by
   have ks':=ks;have k1:=i1.hc;unfold mtC at ks' g0 gs i3 ;simp only [ba] at i3;have hne0:¬ (F.n=0):=by omega
   simp (disch:=omega) [-getElem?_pos,-getElem?_neg,-List.all_eq_true,qZ,qS,nltT,nltF,iltT,iltF,ileT,nleT,el,bc t555,code555,-dk,h573,i3,h572,h570,hP2,k0,k1,ks',h0,hset0,hne0]
  have key:∀ (O:List AObj) (f:Nat→Nat),Pre H O→f fi.fl=fi.fl→O[f (H.length+2)]? = some ((AObj.cells 11 (mtC fi.fl F.n F.z F.lim P1.length (.slice (some (q,0)) F.n none))).ren f)→O[f q]? = some ((AObj.cells 3 ((List.replicate F.n z0).flatMap Sec.cells)).ren f)→O[f P1.length]? = some ((AObj.map [] 0).ren f)→StA O ⟨f (H.length+2),f q,none,f P1.length,fi⟩ F (K0 F.n):=fun O f hp hf o1 o2 o3=>by
   refine ⟨h.keep fun k o ho _=>hp k o ho,?_,?_,?_,br,.inl rfl,ge _,by show 0 < 4294967296; decide,by show 0 < 4294967296; decide⟩
   ·rw [o1];simp [mtC,AObj.ren,AVal.renL,AVal.ren,hf,StU.cells,K0]
   ·rw [o2];show some (AObj.cells 3 (AVal.renL f _))=_;rw [zaz]; rfl
   ·rw [o3]; rfl
  rcases finish_any2 (b:=b) (P:=P2) hv (w':=min (min w1 (H.length+2)) H.length) (by omega) with e | ⟨f,Ic,X,e,hm,hi,hf⟩
  ·refine ⟨P2,⟨H.length+2,q,none,P1.length,fi⟩,hpre2,rfl,by show H.length≤H.length+2; omega,hq,by show H.length≤P1.length; omega,?_,fun w=>by rw [hrun w,e w]⟩;refine key P2 id hpre2 rfl ?_ ?_ ?_
   ·show P2[H.length+2]? = _
    rw [ks];simp [mtC,AObj.ren,AVal.renL,AVal.ren]
   ·show P2[q]? = _
    rw [kq];show _=some (AObj.cells 3 (AVal.renL id _));rw [zaz]
   ·show P2[P1.length]? = _
    rw [km]; rfl
  ·have hIs:Ic (H.length+2):=hi _ (by simp [AVal.ids,AVal.idsL]) (by omega);have hcl:=hm.cl _ _ hIs ks;have hIq:Ic q:=hcl q (by simp [mtC,AObj.ids,AVal.idsL,AVal.ids]) hq;have hIm:Ic P1.length:=hcl _ (by simp [mtC,AObj.ids,AVal.idsL,AVal.ids]) (by omega)
   refine ⟨H++X,⟨f (H.length+2),f q,none,f P1.length,fi⟩,fun k o hk=>by rw [ag (ah hk)]; exact hk,rfl,hm.up _ (by omega),hm.up _ hq,hm.up _ (by omega),?_,fun w=>by rw [hrun w,e w];simp [AVal.ren,AVal.renL]⟩
   exact key _ f (fun k o hk=>by rw [ag (ah hk)]; exact hk) (hf _ hfl) (hm.at' _ _ hIs ks) (hm.at' _ _ hIq kq) (hm.at' _ _ hIm km)
end
end Go.Abs.AbsBlo

namespace Go.Abs.AbsBlo
open Go.Abs.AbsBlb hiding T
open Go.Abs.Short
section
variable {H:List AObj} {b w:Nat} {I:SI} {F:Fl} {K:StU}
end
end Go.Abs.AbsBlo

namespace Go.Abs.AbsBlo
open Go.Abs.AbsBlb hiding T
open Go.Abs.Short
def F0 (n z lim:Nat):Fl:=⟨n,z,lim,List.replicate (n*z) 255,List.replicate n 0⟩
def newO (N n z lim:Nat):List AObj:=[.cells 9 [.int .i64 n,.int .i64 z,.int .i64 lim,.slice (some (N+1,0)) (n*z) (some (n*z)),.slice (some (N+2,0)) n (some n),.bool false,.int .i64 (-1),.int .i64 0,.int .u8 0],.cells 1 ((List.replicate (n*z) (255:UInt8)).map u8V),.cells 1 (List.replicate n (.int .i64 0))]
section
variable {E:Env} {H:List AObj} {b w:Nat} {kl:List Bs}
theorem flash0 {n z lim:Nat} (hn:1≤n∧n≤64) (hz:64≤z∧z≤65536) (hl:1≤lim∧lim≤1048576):FlA (H++newO H.length n z lim) ⟨H.length,H.length+1,H.length+2,some (n*z),some n⟩ (F0 n z lim):=by
 refine ⟨?_,?_,?_,br,br,⟨hn.2,hz.2⟩,hl.2,fun x hx=>?_,by show H.length+1≠H.length+2; omega,fun c hc=>?_,fun c hc=>?_⟩
 ·show (H++newO H.length n z lim)[H.length]? = _
  rw [ga];simp [newO,Fl.cells,F0]
 ·show (H++newO H.length n z lim)[H.length+1]? = _
  rw [kj]; rfl
 ·show (H++newO H.length n z lim)[H.length+2]? = _
  rw [kj];show some (AObj.cells 1 (List.replicate n (.int .i64 0)))=_;show _=some (AObj.cells 1 ((List.replicate n 0).map natV));rw [List.map_replicate]; rfl
 ·have:x ∈ List.replicate n 0:=hx;rw [List.eq_of_mem_replicate this]; exact ge _
 ·cases hc;exact br.symm
 ·cases hc;exact br.symm
theorem inv0 {fi:FI} {n z lim:Nat} (h:FlA H fi (F0 n z lim)) (hz:12≤z):AbsBlb.Inv kl (F0 n z lim) (K0 n):=by
 have hb:∀ j,j < (F0 n z lim).b.length→(F0 n z lim).b[j]? = some 255:=fun j hj=>by have hj:j < (List.replicate (n*z) (255:UInt8)).length:=hj;rw [br] at hj;show (List.replicate (n*z) (255:UInt8))[j]? = _;rw [gn,if_pos hj]
 have hw:∀ i,i < (F0 n z lim).n→(F0 n z lim).w[i]? = some 0:=fun i hi=>by have hi:i < n:=hi;show (List.replicate n 0)[i]? = _;rw [gn,if_pos hi]
 refine ⟨hz,br,br,br,fun i hi=>?_,rfl,.inl rfl,⟨by simp [K0],by simp [K0],fun e he=>by cases he⟩,fun e he=>(by cases he),fun i hi=>absurd rfl hi⟩;rw [zbo h hb hw hi];have hi:i < n:=hi;show (List.replicate n z0)[i]? = _;rw [gn,if_pos hi]
end
end Go.Abs.AbsBlo

namespace Go.Abs.AbsBlo
open Go.Abs.AbsBlb hiding T
open Go.Abs.Short
section
variable {E:Env} {H:List AObj} {b:Nat}
end
end Go.Abs.AbsBlo

namespace Go.Abs
section
variable {E:Env} {lo nt:Nat} {μ0:MM} {w0:World} {ds:List Deferred}
theorem xj (hg:GidOK E) {f:Operand} {ps:Array Tmp} {ax bx:Code} {f':Opd} {g:Nat} {caps:List Nat} {aa ab:ACode} {ha hb:Hint} (hf:g8 E f=some f') (hca:cj E nt true ha ax=some aa) (hcb:cj E nt true hb bx=some ab) (hps:(ps.all fun t=>decide (t < nt))=true)
  (hrnd:E.rnd g=some ⟨ps.toList,aa,ab⟩) {s:Slots} {h:Heap} {a:Act} {w:World} (hat:At E lo nt μ0 w0 ds s h a w) {gf:Nat} {first cp:List AVal} {sl:List (Nat × AVal)} (hfv:f'.ev s=some (.func gf first cp)) (hsl:capsOf s caps=some sl) {R:AExit→St→Prop}
  (hcall:CallD E gf (first++[.yield h.size]++cp) (h.push (.loop g .ready none sl)) fun _ h'=>∃ e st',loopEnd s h' h.size=some (e,st')∧R e st') {Q:Exit→Act→World→Prop}
  (hn:∀ e st',R e st'→Evol h st'.h→∀ a' w',At E lo nt μ0 w0 ds st'.s st'.h a' w'→Q e.toX a' w'):(Code.rangeFunc f ps ax bx).wpIn (F0 none) 0 E.P Q a w:=by
 obtain ⟨μ,ν,k1,k2,k3,k4,k5,k6⟩:=hat;have hfr:=ce k3 hf hfv;simp only [VRel] at hfr;obtain ⟨fid,f1,c1,e1,e2,e3,e4⟩:=hfr;have hlen:h.size=μ.length:=k2.len.symm;refine wpIn_rangeFunc fun fn _=>?_
 let rec0:Loop:={ state:=.ready,pending:=none,fn:=fn,tmps:=a.tmps,params:=ps,assign:=ax,body:=bx,defers:=w.heap.size }
 let w1:World:=w.alloc (.deferred (some []))
 let w2:World:=w1.alloc (.loop rec0)
 let m:M:=⟨w.heap.size+1,0,0,0⟩
 let μ1:MM:=μ++[some m]
 have hw1:w1.heap.size=w.heap.size+1:=by simp [w1]
 have hw2:w2.heap.size=w.heap.size+2:=by simp [w2,w1]
 have hargs:VRels E μ1 (first++[.yield h.size]++cp) (f1 ++ #[Value.func (.yield (w.heap.size+1)) #[] #[]]++c1).toList:=by
  have hy:VRel E μ1 (.yield h.size) (.func (.yield (w.heap.size+1)) #[] #[]):=by simp only [VRel];exact ⟨w.heap.size+1,some m,rfl,by rw [hlen]; simp [μ1],fun m' hm'=>by cases hm'; rfl⟩
  have:=((e3.later (ij μ (some m))).append (show VRels E μ1 [.yield h.size] [_] from by simp only [VRels]; exact ⟨_,[],rfl,hy,rfl⟩)).append (e4.later (ij μ (some m)));simpa using this
 have hl1:Later μ μ1:=ij μ _
 have hr1:Rel E μ h w1:=k2.keep (by omega) (fun i m' hm'=>by
  have:=k2.lt i m' hm';show (w.heap.push _)[m'.blk]? = _;rw [di,if_neg (by omega)]) fun k _ hk=>by
  show (w.heap.push _)[k]? = _
  rw [di,if_neg (by omega)]
 have hr2:Rel E μ1 (h.push (.loop g .ready none sl)) w2:=by
  refine hr1.push _ (.loop rec0) m (by simp [m,hw1]) ⟨m,rec0,by simp,by show (w1.heap.push _)[w.heap.size+1]? = _; rw [di,if_pos (by omega)],⟨⟨⟨ps.toList,aa,ab⟩,ha,hb,hrnd,rfl,fun t ht=>?_,by rw [show rec0.tmps.size=nt from k4]; exact hca,by rw [show rec0.tmps.size=nt from k4]; exact hcb⟩,rfl,rfl,fun k x hk=>?_⟩⟩
  ·rw [Array.all_eq_true_iff_forall_mem] at hps;have:=hps t (by simpa using ht);rw [show rec0.tmps.size=nt from k4];simpa using this
  ·obtain ⟨v',h1,h2⟩:=zx k3 hsl k x hk;exact ⟨v',h1,h2.later hl1⟩
 let ν1:Fr:=⟨ν.v,w.heap.size :: ν.ds⟩
 have hblk12:∀ b,b < w.heap.size→w2.heap[b]? = w.heap[b]?:=fun b hb=>by
  show ((w.heap.push _).push _)[b]? = _
  rw [di,if_neg (by simp; omega),di,if_neg (by omega)]
 have hnewm:∀ (i:Nat) (m':M),μ1[i]? = some (some m')→m'.blk < w.heap.size∨m'.blk=w.heap.size+1:=fun i m' hm'=>by
  rcases jd hm' with q | ⟨_,q⟩
  ·exact .inl (k2.lt i m' q)
  ·cases q; exact .inr rfl
 have hold:∀ (i:Nat) (m':M),μ1[i]? = some (some m')→m'.blk < w.heap.size→μ[i]? = some (some m'):=fun i m' hm' hlt=>by
  rcases jd hm' with q | ⟨_,q⟩
  ·exact q
  ·cases q;have hlt':w.heap.size+1 < w.heap.size:=hlt;omega
 have hf2:FRel E lo ν1 μ1 (sget s) a.tmps w2:=by
  refine ⟨fun t v hv=>?_,k3.undef,fun t cs hv=>?_,k3.loc,k3.sepv,fun t cs i m' hv hm'=>?_,fun r hr=>?_,fun r hr=>⟨fun i m' hm'=>?_,fun t cs hv=>?_⟩,?_⟩
  ·obtain ⟨v',h1,h2⟩:=k3.val t v hv;exact ⟨v',h1,h2.later hl1⟩
  ·obtain ⟨h1,h2,c,e,fr,h3,h4,h5,h6⟩:=k3.var t cs hv;exact ⟨h1,h2,c,e,fr,(hblk12 _ (k3.lt hv)).trans h3,h4,h5.later hl1,h6⟩
  ·have:=k3.lt hv;rcases hnewm i m' hm' with q | q
   ·exact k3.sepm t cs i m' hv (hold i m' hm' q)
   ·intro e;have e':m'.blk=ν t:=e;omega
  ·rcases dy.1 hr with rfl | hr
   ·refine ⟨k6,?_⟩;show ((w.heap.push _).push _)[w.heap.size]? = _;rw [di,if_neg (by simp),di,if_pos rfl]
   ·obtain ⟨h1,h2⟩:=k3.ds r hr;exact ⟨h1,(hblk12 r (k3.lt_ds hr)).trans h2⟩
  ·rcases dy.1 hr with rfl | hr
   ·rcases hnewm i m' hm' with q | q <;> omega
   ·have:=k3.lt_ds hr;rcases hnewm i m' hm' with q | q
    ·exact (k3.sepd r hr).1 i m' (hold i m' hm' q)
    ·omega
  ·rcases dy.1 hr with rfl | hr
   ·have:=k3.lt hv;intro e;have e':ν t=w.heap.size:=e;omega
   ·exact (k3.sepd r hr).2 t cs hv
  ·exact ⟨ux.2 ⟨fun h=>by have:=k3.lt_ds h; omega,k3.nodup.1⟩,k3.nodup.2⟩
 have hs2:Step (fun k=>lo≤k) h.wmin μ0 w0 μ1 w2:=(k1.trans (Step.alloc _) (aj _)).trans (Step.push (X:=fun k=>lo≤k) h.wmin μ w1 (.loop rec0) m (by simp [m,hw1])) (aj _);refine ⟨w.heap.size+1,[markOf w.heap.size],w2,{ target:=.fn (.func fid) c1,args:=f1 ++ #[Value.func (.yield (w.heap.size+1)) #[] #[]] },w2,fid,f1 ++ #[Value.func (.yield (w.heap.size+1)) #[] #[]]++c1,w2,run_enterLoop_outer fn a.tmps ps ax bx,?_,fun _ _=>trivial,?_,fun hh=>by simp [F0,Fence.wide] at hh,?_⟩
 ·simp only [resolve];rw [e1];simp [Deferred.ofValue,Act.eval]
 ·have:=jo hg e2 (f1 ++ #[Value.func (.yield (w.heap.size+1)) #[] #[]]++c1) w2;simpa [invoke] using this
 ·refine CallsIn.mono (F:=F0 none) (n:=0) (hcall fid e2 μ1 w2 _ hargs hr2) ?_;rintro ending w3 ⟨_,h',⟨e,st',hend,hR⟩,hev,v',μ3,rfl,j1,j2,j3⟩;have hevl:Evol h h':=(Evol.push _ _).trans hev;unfold loopEnd at hend;split at hend;case h_2=>cases hend
  rename_i g2 st p sl2 hgi;split at hend
  ·cases hend
  rename_i hbusy;cases hend;obtain ⟨m3,r3,q1,q2,q3⟩:=j3.obj _ _ hgi;have hi1:h.size < μ1.length:=by rw [hlen]; simp [μ1]
  have hm3:m3=m:=by
   rcases j1.old h.size hi1 with q | ⟨_,q⟩
   ·rw [q] at q1;have:μ1[h.size]? = some (some m):=by rw [hlen]; simp [μ1]
    rw [this] at q1;cases q1; rfl
   ·rw [q] at q1; cases q1
  subst hm3
  have hst3:r3.state ≠ .busy:=by
   have:=q3.st;cases st <;> simp only [LoopSt.is] at this <;> rw [this]
   ·simp
   ·exact absurd rfl hbusy
   ·simp
  let w4:World:=w3.putObj (w.heap.size+1) (.loop { r3 with state:=.exhausted })
  have hf3:FRel E lo ν1 μ3 (sget s) a.tmps w3:=hf2.step j1 fun _ _ h=>h
  have hwle:h'.wmin≤h.wmin:=hev.wmin
  have hat4:At E lo nt μ0 w0 ds s (h'.put h.size .dead) { a with defers:=[markOf w.heap.size]++a.defers } w4:=by
   have hput:w4=ct w3 m.blk (.loop { r3 with state:=.exhausted }):=rfl;refine ⟨μ3.set h.size none,ν1,?_,?_,?_,k4,?_,?_⟩
   ·have hA:=hs2.trans (j1.weaken (Y:=fun k=>lo≤k) (aj _) fun b h _=>h.elim) hwle;have hB:Step (fun k=>lo≤k) (h'.put h.size .dead).wmin μ3 w3 μ3 w4:=by rw [hput]; exact Step.put q1 (fz _ _) _
    have hC:Step (fun k=>lo≤k) (h'.put h.size .dead).wmin μ3 w4 (μ3.set h.size none) w4:=Step.kill μ3 w4 (fz _ _);exact (hA.trans hB (cz _ _)).trans hC (aj _)
   ·have hkill:=j3.kill h.size;refine hkill.keep (by simp [w4]) (fun j m' hm'=>?_) fun k hk _=>by rw [hput]; exact bp (by have:=k2.tab.1; simp [m]; omega)
    rw [hput];refine bp ?_;rw [nw] at hm';split at hm'
    ·split at hm' <;> cases hm'
    ·rename_i hne;refine j3.sep h.size j m m' hne ?_ q1 hm';have h1:=j3.bs;rw [hev.base];have:=k2.bs;show h.base≤h.objs.length;exact this
   ·refine hf3.keep (ni μ3 h.size) (fun t cs hv=>by rw [hput]; exact bp (hf3.sepm t cs h.size m hv q1)) (fun t cs j m' hv hj hm'=>absurd (ah hm') (by simp; omega)) fun r hr=>⟨by rw [hput]; exact bp ((hf3.sepd r hr).1 h.size m q1),fun j m' hj hm'=>absurd (ah hm') (by simp; omega)⟩
   ·show [markOf w.heap.size]++a.defers=_
    rw [k5]; rfl
   ·have:=j1.size;simp only [w4,World.putObj_size]; omega
  refine ⟨r3.pending,w4,run_endLoop q2 hst3,?_⟩;rw [q3.pend];have hn:=hn _ _ hR (hevl.trans (Evol.put _ _ _));cases p with
  | none=>exact hn _ _ hat4
  | some e0 =>
   cases e0 with
   | normal=>exact wpIn_skip (hn _ _ hat4)
   | exit id=>exact wpIn_exit (hn _ _ hat4)
   | ret=>exact wpIn_ret (hn _ _ hat4)
theorem inv_rangeFunc {nt:Nat} {hint:Hint} {code:Code} {f':Opd} {g:Nat} {caps ps:List Nat} {aa ab:ACode} (h:cj E nt false hint code=some (.rangeFunc f' g caps ps aa ab)):∃ ha hb f qs x y,code = .rangeFunc f qs x y∧g8 E f=some f'∧cj E nt true ha x=some aa∧cj E nt true hb y=some ab∧(qs.all fun t=>decide (t < nt))=true∧ps=qs.toList:=by
 cases hint with
 | rangeFunc g caps ha hb =>
  cases code <;> simp only [cj,reduceCtorEq] at h
  split at h
  ·rename_i h0 h1 h2;split at h
   ·rename_i hh;cases h; exact ⟨_,_,_,_,_,_,rfl,h0,h1,h2,hh.2,rfl⟩
   ·cases h
  ·cases h
 | next=>obtain ⟨d,y,r,e⟩:=l7 h; cases e
 | live l a=>simp only [cj,ae] at h; obtain ⟨_,_,h⟩:=h; cases h
 | after a l=>simp only [cj,ae] at h; obtain ⟨_,_,h⟩:=h; cases h
 | stuck=>simp only [cj] at h; cases h
 | leaf=>cases code <;> simp only [cj] at h <;> cases h
 | reg s l=>cases code <;> simp only [cj,ae,reduceCtorEq] at h; obtain ⟨_,_,h⟩:=h; cases h
 | seq a b =>
  cases code <;> simp only [cj,reduceCtorEq] at h
  split at h <;> cases h
 | cond a b =>
  cases code <;> simp only [cj,reduceCtorEq] at h
  split at h <;> cases h
 | block a=>cases code <;> simp only [cj,ae,reduceCtorEq] at h; obtain ⟨_,_,h⟩:=h; cases h
 | loop a=>cases code <;> simp only [cj,ae,reduceCtorEq] at h; obtain ⟨_,_,h⟩:=h; cases h
theorem CodeD.rangeFunc (hg:GidOK E) {f':Opd} {g:Nat} {caps ps:List Nat} {aa ab:ACode} {st:St} {Q:AExit→St→Prop} {gf:Nat} {first cp:List AVal} {sl:List (Nat × AVal)} (hfv:f'.ev st.s=some (.func gf first cp)) (hsl:capsOf st.s caps=some sl)
  (hcall:CallD E gf (first++[.yield st.h.size]++cp) (st.h.push (.loop g .ready none sl)) fun _ h'=>∃ e st',loopEnd st.s h' st.h.size=some (e,st')∧Q e st'):CodeD E (.rangeFunc f' g caps ps aa ab) st Q:=by
 intro nt hint code hcc hrd lo μ0 w0 ds a w Qm hat hn;obtain ⟨ha,hb,f,qs,x,y,rfl,h0,h1,h2,h3,rfl⟩:=inv_rangeFunc hcc;exact xj hg h0 h1 h2 h3 (hrd _ (eo _)) hat hfv hsl hcall hn
end
end Go.Abs

namespace Go.Abs.AbsBlo
open Go.Abs.AbsBlb hiding T
open Go.Abs.Short
section
variable {E:Env} {P H:List AObj} {b w:Nat}
section
attribute [-simp] getElem?_pos getElem?_neg List.all_eq_true
attribute [local simp] qZ qS nltT nltF iltT iltF ileT nleT el
theorem s507 {i q m clock:Nat} (hq:P[q]? = some (.cells 1 [.map (some m)])) (hmm:P[m]? = some (.map [] clock)) (hb:b≤P.length) :
  xCall T 507 [.yield i,.ptr (some (q,0))] ⟨P,b,w⟩=some (.tuple [],⟨P,b,w⟩):=by
 have hml:=ah hmm;have hg:(P++[AObj.mapIter (some m) clock [] clock])[P.length]? = some (.mapIter (some m) clock [] clock):=ga _ _;have hgm:(P++[AObj.mapIter (some m) clock [] clock])[m]? = some (.map [] clock):=by rw [ag hml]; exact hmm
 have hset:(P++[AObj.mapIter (some m) clock [] clock]).set P.length .dead=P++[.dead]:=by rw [qv _ _ (aj _),mw]; rfl
 refine xCallW t507 rfl ?_;unfold code507;refine zbm (Wp_x rfl ?_);simp (disch:=omega) [hq,hmm];refine zbn (Wp_block (Wp_round ?_));unfold code507L0;refine Wp_live ?_;refine zbm (zbn (zbm ?_));refine Wp_next (m:=m) (i:=P.length) (since:=clock) (last:=clock) (clock:=clock) (seen:=[]) (es:=[]) (by simp) (by show b≤_; exact hb) hg hgm (fun e he=>by cases he) (aj _) (fun hall=>?_) (fun e he hne'=>by cases he);refine Wp_x rfl ?_;simp (disch:=omega) [hset];refine Wp_x rfl ?_;simp (disch:=omega) [hset]
theorem s512 {q m clock:Nat} (hq:H[q]? = some (.cells 1 [.map (some m)])) (hmm:H[m]? = some (.map [] clock)) (hb:b≤H.length) :
  xCall T 512 [.slice none 0 (some 0),.func 507 [] [.ptr (some (q,0))]] ⟨H,b,w⟩=some (.slice none 0 (some 0),⟨H,b,w⟩):=by
 have hql:=ah hq;have hml:=ah hmm;have h507:=fun w=>s507 (P:=H++[.cells 1 [.slice none 0 (some 0)],.loop 522 .ready none [(2,.ptr (some (H.length,0)))]]) (b:=b) (w:=w) (i:=H.length+1) (by rw [ag hql]; exact hq) (by rw [ag hml]; exact hmm) (by rw [aq]; omega)
 have hg:=kj H [AObj.cells 1 [.slice none 0 (some 0)],.loop 522 .ready none [(2,.ptr (some (H.length,0)))]] 1;have hs:=set_k H [AObj.cells 1 [.slice none 0 (some 0)],.loop 522 .ready none [(2,.ptr (some (H.length,0)))]] 1 .dead;simp (disch:=omega) [bc t512,code512,h507,loopEnd,callVal,capsOf,hg,hs]
theorem s506 {q m clock:Nat} (hq:H[q]? = some (.cells 1 [.map (some m)])) (hmm:H[m]? = some (.map [] clock)) (hb:b≤H.length) :
  xCall T 506 [.func 507 [] [.ptr (some (q,0))]] ⟨H,b,w⟩=some (.slice none 0 (some 0),⟨H,b,w⟩):=by
 have h512:=fun w=>s512 (b:=b) (w:=w) hq hmm hb
 simp (disch:=omega) [bc t506,code506,h512]
theorem s505z {a:Option (Nat × Nat)} {c:Option Nat}:xCall T 505 [.slice a 0 c] ⟨H,b,w⟩=some (.tuple [],⟨H,b,w⟩):=by
 have h531:∀ w,xCall T 531 [.slice a 0 c,.int .i64 0,.int .i64 0] ⟨H,b,w⟩=some (.tuple [],⟨H,b,w⟩):=fun w=>by simp (disch:=omega) [bc t531,code531,cd,code531L1]
 have h513:∀ l w,xCall T 513 [.slice a 0 c,.int .i64 0,.int .i64 0,.int .i64 l] ⟨H,b,w⟩=some (.tuple [],⟨H,b,w⟩):=fun l w=>by simp (disch:=omega) [bc t513,code513,cd,code513L0,h531]
 obtain ⟨k,hk⟩:=s166 (n:=0) (h:=⟨H,b,H.length⟩) (by omega);simp only [ba] at hk;have hk:=du sub hk;have hw0:IntKind.u64.wrap 0=0:=by decide
 simp (disch:=omega) [bc t505,code505,hk,h513,hw0]
theorem s497 {q m clock:Nat} (hq:H[q]? = some (.cells 1 [.map (some m)])) (hmm:H[m]? = some (.map [] clock)) (hb:b≤H.length) :
  xCall T 497 [.func 507 [] [.ptr (some (q,0))]] ⟨H,b,w⟩=some (.slice none 0 (some 0),⟨H,b,w⟩):=by
 have h506:=fun w=>s506 (b:=b) (w:=w) hq hmm hb
 have h505:=fun w=>s505z (H:=H) (b:=b) (w:=w) (a:=none) (c:=some 0)
 simp (disch:=omega) [bc t497,code497,h506,h505]
theorem s495z {c:Option Nat} {f:AVal}:xCall T 495 [.slice none 0 c,f] ⟨H,b,w⟩=some (.slice none 0 c,⟨H,b,w⟩):=by
 have h142:∀ w,xCall T 142 [.slice none 0 c,f] ⟨H,b,w⟩=some (.int .i64 (-1),⟨H,b,w⟩):=fun w=>by simp (disch:=omega) [bc t142,code142,cd,code142L0]
 simp (disch:=omega) [bc t495,code495,h142]
theorem s496 {m:Nat} (hm:m < H.length):xCall T 496 [.map (some m)] ⟨H,b,w⟩=some (.func 507 [] [.ptr (some (H.length,0))],⟨H++[.cells 1 [.map (some m)]],b,w⟩):=by simp (disch:=omega) [bc t496,code496,mb,md,zbc,hm]
theorem s480z {I:SI} {F:Fl} {K:StU} (h:StA H I F K) (hx:K.ix=[]) (hb:b≤H.length) {p:Bs}:xCall T 480 [.ptr (some (I.s,0)),.str p] ⟨H,b,w⟩=some (.slice none 0 (some 0),⟨H,b,w⟩):=by
 have gs:=h.s
 have gm:H[I.m]? = some (.map [] K.clock):=by have:=h.m;unfold StU.map at this;rw [hx] at this;exact this
 unfold StU.cells at gs;have gs1:∀ X,(H++X)[I.s]? = _:=fun X=>(ag (ah gs)).trans gs
 have h496:=fun w=>s496 (H:=H++[.cells 1 [.str p]]) (b:=b) (w:=w) (m:=I.m) (by have:=ah gm; rw [aq]; omega)
 have h497:=fun w=>s497 (H:=H++[.cells 1 [.str p]]++[.cells 1 [.map (some I.m)]]) (b:=b) (w:=w) (q:=H.length+1) (m:=I.m) (clock:=K.clock) (by rw [az]; exact kj H _ 1) (by rw [az,ag (ah gm)]; exact gm) (by rw [aq,aq]; omega)
 have h495:=fun P f w=>s495z (H:=P) (b:=b) (w:=w) (c:=some 0) (f:=f)
 simp only [aq,bt,ep,ed,az,d7,ff] at h496 h497;simp (disch:=omega) [bc t480,code480,gs1,h496,h497,h495]
end
end
end Go.Abs.AbsBlo

namespace Go.Abs.AbsNat
open Go.Abs.AbsBlb hiding T
open Go.Abs.AbsBlo (GoodC Fits Kept CommitQ jk CodeD.run OpsD.run s480z)
open Go.Abs.Short
section
variable {H:List AObj} {b w:Nat} {I:SI} {F:Fl} {K:StU}
section
attribute [-simp] getElem?_pos getElem?_neg List.all_eq_true
attribute [local simp] qZ qS nltT nltF iltT iltF ileT nleT el
theorem p671 (h:StA H I F K) {s k:Bs} {r:RecsU} {cr:Bool} (hs:isName s=true) (hk:isName k=true) {x:Nat × PlU} (hf:findK (keyB s k) K.ix=some x) (hx:x.2.blob=r.bytes) (hr:r.ok) (hl:x.2.blob.length≤1000000) (hb:b≤H.length) :
  EntsEnd H b r.list 671 [.ptr (some (I.s,0)),.str s,.str k,.bool cr] fun x=>.tuple [r.val x,.int .i64 0]:=by
 obtain ⟨H1,A,y,i1,⟨i2,i3⟩,i4,i5⟩:=p675 h hs hk hf hx hr hl hb;obtain ⟨H2,A2,y2,k1,k2,k3,k4,k5⟩:=zaw (b:=b) (w':=H.length) (fun y=>.tuple [r.val y,.int .i64 0]) (fun y=>by simp [RecsU.val,AVal.ids,AVal.idsL]) (fun f y=>by simp [RecsU.val,AVal.ren,AVal.renL]) (fun n p o k c=>by simp [RecsU.val,AVal.under,AVal.unders]) (fun n=>by simp [RecsU.val,AVal.under,AVal.unders]) (aj _) i2 i3 i1 (aj _);refine ⟨H2,A2,y2,k1,⟨k2,k4⟩,by rw [k3,i4],fun w=>?_⟩;obtain ⟨a,c,rfl,-⟩:=FRow.row (f:=EV.cells) (fun _=>rfl) i2;unfold RecsU.val at k5 i5 ⊢;simp (disch:=omega) [bc t671,code671,-dk,i5,k5]
theorem s671n (h:StA H I F K) {s k:Bs} (hs:isName s=true) (hk:isName k=true) (hf:findK (keyB s k) K.ix=none) :
  xCall T 671 [.ptr (some (I.s,0)),.str s,.str k,.bool false] ⟨H,b,w⟩=some (.tuple [.agg [.int .u32 0,.int .u32 0,.slice none 0 (some 0)],.int .i64 11],⟨H,b,w⟩):=by
 have h1:=fun w=>s675n (b:=b) (w:=w) h hs hk hf
 simp (disch:=omega) [bc t671,code671,h1]
theorem s671x {s k:Bs} {v:AVal} {cr:Bool} (hl:s.length≤140737488355328) (hs:isName s=false) :
  xCall T 671 [v,.str s,.str k,.bool cr] ⟨H,b,w⟩=some (.tuple [.agg [.int .u32 0,.int .u32 0,.slice none 0 (some 0)],.int .i64 13],⟨H,b,w⟩):=by
 have h1:=fun w=>s675x (H:=H) (b:=b) (w:=w) (k:=k) (v:=v) hl hs
 simp (disch:=omega) [bc t671,code671,h1]
end
def e671:ACode:=.seq (R [8,10,12,41] [v 40 12,o 41 (.bin .neq (t 40) (n 0))])
 (.after (.cond (t 41) (.seq (R [8,9] [o 42 (.build [.int .u32 0,.int .u32 0,.slice none 0 (some 0)] []),v 43 12,u (.store 3 (t 8) (t 42)),v 9 43])
 (.live [8,9] (.ret))) (.skip)) [8,10])
def f671:ACode:=.seq (R [8,9] [o 44 (.load (some 3) (t 10)),u (.store 3 (t 8) (t 44)),o 9 (.val (n 0))])
 (.live [8,9] (.ret))
theorem body671:code671.body = .seq (R [0,1,2,3,8] [o 8 (.lalloc [.int .u32 0,.int .u32 0,.slice none 0 (some 0)]),o 9 (.val (n 0))])
 (.seq (R [0,1,2,3,8,10,11] [v 14 0,v 15 1,v 16 2,o 17 (.callg 675 [t 14,t 15,t 16]),v 13 17,o 18 (.extract (t 13) 0),o 19 (.extract (t 13) 1),o 10 (.lalloc [.int .u32 0,.int .u32 0,.slice none 0 (some 0)]),u (.store 3 (t 10) (t 18)),v 11 19])
 (.seq (.seq (R [0,1,2,8,10,11,25] [v 20 11,o 21 (.bin .neq (t 20) (n 11)),v 22 21,g 23 22 false (.val (t 3)),g 24 22 false (.un .not (t 23)),o 25 (.pick (t 22) Y (t 24))])
 (.after (.cond (t 25) (.seq (R [8,9] [o 26 (.load (some 3) (t 10)),v 27 11,u (.store 3 (t 8) (t 26)),v 9 27])
 (.live [8,9] (.ret))) (.skip)) [0,1,2,8,10]))
 (.seq (.seq (R [0,1,2,8,10,32] [v 28 0,v 29 1,o 30 (.callg 681 [t 28,t 29]),o 31 (.len .sl (t 30)),o 32 (.bin .geq (t 31) (n 8))])
 (.after (.cond (t 32) (.seq (R [8,9] [o 33 (.build [.int .u32 0,.int .u32 0,.slice none 0 (some 0)] []),u (.store 3 (t 8) (t 33)),o 9 (.val (n 9))])
 (.live [8,9] (.ret))) (.skip)) [0,1,2,8,10]))
 (.seq (R [0,1,2,8,10] [o 34 (.build [.int .u32 0,.int .u32 0,.slice none 0 (some 0)] [(0,1,.const (.int .u32 1))]),u (.store 3 (t 10) (t 34))])
 (.seq (.seq (R [8,10,12] [v 35 0,v 36 1,v 37 2,o 38 (.load (some 3) (t 10)),o 39 (.callg 680 [t 35,t 36,t 37,t 38]),v 12 39])
 e671)
 f671))))):=rfl
def newR:RecsU:=⟨1,0,[]⟩
theorem we:newR.ok:=⟨by decide,by decide,by decide⟩
theorem pv:newR.bytes.length=10:=by decide
end
section
variable {E:Env} {kl:List Bs} {H:List AObj} {b w:Nat} {I:SI} {F:Fl} {K:StU}
theorem fe671 {P:List AObj} {w':Nat} {x y z:Int} {c:Option Nat}:funcEnd code671 ⟨H,b,w⟩ (.ret,⟨[(8,.var [.int .u32 x,.int .u32 y,.slice none 0 c]),(9,.val (.int .i64 z))],⟨P,b,w'⟩⟩)=some (.tuple [.agg [.int .u32 x,.int .u32 y,.slice none 0 c],.int .i64 z],if w' < H.length then ⟨P,b,min w w'⟩ else ⟨H,b,w⟩):=by
 by_cases c:w' < H.length
 ·simp [funcEnd,code671,resultsL,result1,sget,tupled,dk,Heap.size,c]
 ·simp [funcEnd,code671,resultsL,result1,sget,tupled,dk,Heap.size,c,AVal.under,AVal.unders]
end
end Go.Abs.AbsNat

namespace Go.Abs.AbsNat
open Go.Abs.AbsBlb hiding T
open Go.Abs.AbsBlo (jk)
open Go.Abs.Short
section
variable {H:List AObj} {b w:Nat}
section
attribute [-simp] getElem?_pos getElem?_neg List.all_eq_true
attribute [local simp] qZ qS nltT nltF iltT iltF ileT nleT el
theorem s675y {s k:Bs} {v:AVal} (hl:k.length≤140737488355328) (hs:isName s=true) (hk:isName k=false) :
  xCall T 675 [v,.str s,.str k] ⟨H,b,w⟩=some (.tuple [.agg [.int .u32 0,.int .u32 0,.slice none 0 (some 0)],.int .i64 13],⟨H,b,w⟩):=by
 have h1:=fun w=>s520 (H:=H) (b:=b) (w:=w) (s:=s) (by have:=g9 hs; omega)
 have h2:=fun w=>s520 (H:=H) (b:=b) (w:=w) (s:=k) hl
 rw [hs] at h1;rw [hk] at h2;simp (disch:=omega) [bc t675,code675,h1,h2]
theorem s671y {s k:Bs} {v:AVal} {cr:Bool} (hl:k.length≤140737488355328) (hs:isName s=true) (hk:isName k=false) :
  xCall T 671 [v,.str s,.str k,.bool cr] ⟨H,b,w⟩=some (.tuple [.agg [.int .u32 0,.int .u32 0,.slice none 0 (some 0)],.int .i64 13],⟨H,b,w⟩):=by
 have h1:=fun w=>s675y (H:=H) (b:=b) (w:=w) (v:=v) hl hs hk
 simp (disch:=omega) [bc t671,code671,h1]
end
end
section
variable {kl:List Bs} {H:List AObj} {b:Nat} {I:SI} {F:Fl} {K:StU}
theorem p680 (h:SO kl H I F K) (hkl:∀ k ∈ kl,1≤k.length∧k.length≤64) (hb:I.lo b) (hbN:b≤H.length) (hFn:0 < F.n) {s k:Bs} (hs:s.length≤1000) (hk:k.length≤1000) (hkey:keyB s k ∈ kl)
  {r:RecsU} (hr:r.ok) {L:List EV} {a:Option (Nat × Nat)} {c:Option Nat} (hL:L.map Prod.fst=r.list) (hR:Row H 2 EV.cells L a) (hok:∀ p ∈ L,EV.ok H p) (ha:∀ p o,a=some (p,o)→p < H.length) (hlen:r.bytes.length≤4096) (hn2:32+(keyB s k).length+r.bytes.length≤(F.z - 12) / 2) (hG:AbsBlo.Good F K (32+(keyB s k).length+r.bytes.length)) :
  ∃ H' F' K',∃ nx:Nat→Nat,StF I H H'∧SO kl H' I F' K'∧FlE F F'∧(∀ w,min w b≤nx w∧nx w≤I.hi)∧StepN F K (32+(keyB s k).length+r.bytes.length) K'∧K'.head ≠ -1∧PutIx K K' (keyB s k) r.bytes ∧
   ∀ w,xCall T 680 [.ptr (some (I.s,0)),.str s,.str k,r.val (.slice a L.length c)] ⟨H,b,w⟩=some (.int .i64 0,⟨H',b,nx w⟩):=by
 have hIhi:=h.a.hi;have hrr:=hr.rr;rw [← hL] at hrr;have h688:=fun w=>s688 (b:=b) (w:=w) (c:=c) hR hok hrr hr.nn hr.vv ha hbN
 rw [hL] at h688;have hrb:recsB r.next r.ver r.list=r.bytes:=rfl
 rw [hrb] at h688;have h683:=fun H w=>s683 (H:=H) (b:=b) (w:=w) (s:=s) (k:=k) (by omega) (by omega)
 have hl4:¬ ((4096:Int) < r.bytes.length):=by omega
 have hg0:=ga H [AObj.cells 1 (r.bytes.map u8V),.cells 3 [.bool false,.str (keyB s k),.slice (some (H.length,0)) r.bytes.length none]];have hg1:=kj H [AObj.cells 1 (r.bytes.map u8V),.cells 3 [.bool false,.str (keyB s k),.slice (some (H.length,0)) r.bytes.length none]] 1;have hSM:=jk h [AObj.cells 1 (r.bytes.map u8V),.cells 3 [.bool false,.str (keyB s k),.slice (some (H.length,0)) r.bytes.length none]];have hMl:(H++[AObj.cells 1 (r.bytes.map u8V),.cells 3 [.bool false,.str (keyB s k),.slice (some (H.length,0)) r.bytes.length none]]).length=H.length+2:=by simp
 have hSF:StF I H (H++[AObj.cells 1 (r.bytes.map u8V),.cells 3 [.bool false,.str (keyB s k),.slice (some (H.length,0)) r.bytes.length none]]):=StF.refl.app _;have hRc:Row (H++[AObj.cells 1 (r.bytes.map u8V),.cells 3 [.bool false,.str (keyB s k),.slice (some (H.length,0)) r.bytes.length none]]) 3 ChU.cells [⟨false,keyB s k,r.bytes,.slice (some (H.length,0)) r.bytes.length none⟩] (some (H.length+1,0)):=Row.mk0 (fun _=>rfl) (by rw [hg1]; rfl)
 have hfine:(⟨false,keyB s k,r.bytes,.slice (some (H.length,0)) r.bytes.length none⟩:ChU).fine (H++[AObj.cells 1 (r.bytes.map u8V),.cells 3 [.bool false,.str (keyB s k),.slice (some (H.length,0)) r.bytes.length none]]) :=
  ⟨⟨some (H.length,0),none,rfl,fun p o e=>by cases e; omega,.inr ⟨H.length,0,rfl,SlB.whole hg0 rfl,by simp⟩⟩,⟨_,_,_,_,rfl⟩,(hkl _ hkey).1,(hkl _ hkey).2,hlen⟩
 obtain ⟨H',F',K',nx,c1,c2,c3,c4,c5,c6,c7,-,c9⟩:=p549o (lc:=some 1) hSM hkl hb (by omega) hFn hRc (.inl hfine) hkey hn2 hG;have hn:=c4 H.length;have hlt:nx H.length < H.length:=by omega
 have h549:=fun w=>du sub (c9 w)
 refine ⟨H',F',K',fun w=>min w (nx H.length),hSF.trans c1,c2,c3,fun w=>?_,c5,c6,c7 rfl,fun w=>?_⟩
 ·show min w b≤min w (nx H.length)∧min w (nx H.length)≤I.hi
  omega
 ·unfold RecsU.val;generalize r.bytes.map u8V=Y at *;generalize r.bytes.length=N at *;simp (disch:=omega) [-getElem?_pos,-getElem?_neg,-List.all_eq_true,qZ,qS,nltT,nltF,iltT,iltF,ileT,nleT,el,bc t680,code680,h688,hl4,h683,h549,hlt]
end
end Go.Abs.AbsNat

namespace Go.Abs.AbsBlo
open Go.Abs.AbsBlb hiding T
open Go.Abs.Short
section
attribute [-simp] getElem?_pos getElem?_neg List.all_eq_true
attribute [local simp] qZ qS nltT nltF iltT iltF ileT nleT el
theorem s542 {x:Bs} {h:Heap}:xCall T 542 [.str x] h=some (.bool false,h):=by obtain ⟨os,b,w⟩:=h;simp (disch:=omega) [bc t542,code542]
theorem s525 {x y:Bs} {h:Heap}:xCall T 525 [.str x,.str y] h=some (.bool (aBytesLess x y),h):=by
 obtain ⟨os,b,w⟩:=h;have h542:=fun x h=>s542 (x:=x) (h:=h)
 simp (disch:=omega) [bc t525,code525,h542]
end
section
variable {H:List AObj} {b q n:Nat} {c:Option Nat}
section
attribute [-simp] getElem?_pos getElem?_neg List.all_eq_true
attribute [local simp] qZ qS nltT nltF iltT iltF ileT nleT el
theorem l531a (hqb:b≤q) (hql:q < H.length) (hn:n≤1000000) {i:Nat} :
  ∀ (j:Nat) (L:List Bs) (w:Nat),j < n→L.length=n→∃ L' w',L'.Perm L∧min w q≤w'∧w'≤w∧∀ {β:Type} (k:AExit→St→Option β),
  xK T (.loop code531L0) ⟨[(0,.val (.slice (some (q,0)) n c)),(1,.val (.int .i64 0)),(2,.val (.int .i64 n)),(6,.val (.int .i64 i)),(7,.val (.int .i64 j))],⟨H.set q (strsO L),b,w⟩⟩ (k:=⟨k⟩) =
   k (.exit 2) ⟨[(0,.val (.slice (some (q,0)) n c)),(1,.val (.int .i64 0)),(2,.val (.int .i64 n)),(6,.val (.int .i64 i))],⟨H.set q (strsO L'),b,w'⟩⟩
 | 0,L,w,hj,hL=>by refine ⟨L,w,.refl _,cz _ _,aj _,fun k=>?_⟩;rw [cd];simp (disch:=omega) [code531L0]
 | j+1,L,w,hj,hL=>by
  obtain ⟨x,hx⟩:∃ x,L[j+1]? = some x:=⟨_,ai (by omega)⟩;obtain ⟨y,hy⟩:∃ y,L[j]? = some y:=⟨_,ai (by omega)⟩;have gx:(L.map AVal.str)[j+1]? = some (.str x):=by rw [bk,hx]; rfl
  have gy:(L.map AVal.str)[j]? = some (.str y):=by rw [bk,hy]; rfl
  have hc':=fun w=>s525 (x:=x) (y:=y) (h:=⟨H.set q (strsO L),b,w⟩)
  have ej:((j+1:Nat):Int)=(j:Int)+1:=by omega
  cases d:aBytesLess x y with
  | true =>
   let L1:=(L.set (j+1) y).set j x
   have hp:L1.Perm L:=by
    have:=@List.set_set_perm _ L (j+1) j (by omega) (by omega);have e1:L[j+1]=x:=by rw [ai (by omega)] at hx; exact dr hx
    have e2:L[j]=y:=by rw [ai (by omega)] at hy; exact dr hy
    rw [e1,e2] at this;exact this
   obtain ⟨L',w',p1,p2,p3,p4⟩:=l531a (i:=i) hqb hql hn j L1 (min (min w q) q) (by omega) (by rw [hp.length_eq]; exact hL);refine ⟨L',w',p1.trans hp,by omega,by omega,fun k=>?_⟩;rw [cd,← p4 k];have hml:(L.map AVal.str).length=n:=by rw [bh]; exact hL
   have hs1:(L.map AVal.str).set (j+1) (.str y)=(L.set (j+1) y).map AVal.str:=by rw [List.map_set]
   have hs2:((L.set (j+1) y).map AVal.str).set j (.str x)=L1.map AVal.str:=by rw [← List.map_set]
   rw [← m9 _ (by rw [bh]; omega)] at hs1;rw [← m9 _ (by rw [bh,bf]; omega)] at hs2
   have hids:AVal.idsL ((L.set (j+1) y).map AVal.str)=[]:=idsL_none fun v hv=>by obtain ⟨z,-,rfl⟩:=cq.1 hv;simp [AVal.ids]
   have hml1:((L.set (j+1) y).map AVal.str).length=n:=by rw [bh,bf]; exact hL
   have hg2:∀ o,(H.set q o)[q]? = some o:=fun o=>eg hql
   have hss:∀ o o',(H.set q o).set q o'=H.set q o':=fun o o'=>List.set_set ..
   generalize hM1:L1=M1 at *;rw [show ∀ M,strsO M = .cells 1 (M.map AVal.str) from fun _=>rfl] at hc' ⊢;rw [show ∀ M,strsO M = .cells 1 (M.map AVal.str) from fun _=>rfl];generalize (L.set (j+1) y).map AVal.str=Y1 at *;generalize L.map AVal.str=Y at *;generalize M1.map AVal.str=Y2 at *;generalize ACode.loop code531L0=LL;rw [d] at hc';simp (disch:=omega) [-sget,sgetN,zbh,sgetT,-fj,jf,jg,gu,code531L0,bz,benign,again,AVal.eqb,hg2,hss,gx,gy,hc',hml,hml1,hs1,hs2,hids,ej]
  | false =>
   refine ⟨L,w,.refl _,cz _ _,aj _,fun k=>?_⟩;rw [cd];have hml:(L.map AVal.str).length=n:=by rw [bh]; exact hL
   rw [show ∀ M,strsO M = .cells 1 (M.map AVal.str) from fun _=>rfl] at hc' ⊢;have hg2:∀ o,(H.set q o)[q]? = some o:=fun o=>eg hql
   generalize L.map AVal.str=Y at *;generalize ACode.loop code531L0=LL;rw [d] at hc';simp (disch:=omega) [code531L0,hg2,gx,gy,hc',hml,ej]
theorem l531b (hqb:b≤q) (hql:q < H.length) (hn:n≤1000000) :
  ∀ (d i:Nat) (L:List Bs) (w:Nat),i+d=n∨(n≤i∧d=0)→L.length=n→∃ L' w',L'.Perm L∧min w q≤w'∧w'≤w∧∀ {β:Type} (k:AExit→St→Option β),
  xK T (.loop code531L1) ⟨[(0,.val (.slice (some (q,0)) n c)),(1,.val (.int .i64 0)),(2,.val (.int .i64 n)),(6,.val (.int .i64 i))],⟨H.set q (strsO L),b,w⟩⟩ (k:=⟨k⟩) =
   k (.exit 0) ⟨[],⟨H.set q (strsO L'),b,w'⟩⟩
 | 0,i,L,w,hd,hL=>by
  refine ⟨L,w,.refl _,cz _ _,aj _,fun k=>?_⟩;have:¬ ((i:Int) < n):=by omega
  rw [cd];simp (disch:=omega) [code531L1,this]
 | d+1,i,L,w,hd,hL=>by
  obtain ⟨L1,w1,p1,p2,p3,p4⟩:=l531a (c:=c) hqb hql hn (i:=i) i L w (by omega) hL;obtain ⟨L',w',q1,q2,q3,q4⟩:=l531b hqb hql hn d (i+1) L1 w1 (by omega) (by rw [p1.length_eq]; exact hL);refine ⟨L',w',q1.trans p1,by omega,by omega,fun k=>?_⟩;rw [cd,← q4 k];have ei:((i+1:Nat):Int)=(i:Int)+1:=by omega
  rw [ei];have hlt:(i:Int) < n:=by omega
  have hin:i≤1000000:=by omega
  generalize ACode.loop code531L1=LL;simp (disch:=omega) [code531L1,p4,hlt]
theorem s505 (hqb:b≤q) (hql:q < H.length) {L:List Bs} (hn:L.length≤12) (h0:L.length=n) (hq:H[q]? = some (strsO L)) :
  ∃ L',∃ nx:Nat→Nat,L'.Perm L∧(∀ w,min w q≤nx w∧nx w≤w)∧∀ w,xCall T 505 [.slice (some (q,0)) n c] ⟨H,b,w⟩=some (.tuple [],⟨H.set q (strsO L'),b,nx w⟩):=by
 obtain ⟨L',w',p1,p2,p3,p4⟩:=l531b (c:=c) hqb hql (by omega) (n - 1) 1 L H.length (by omega) h0;have hs:H.set q (strsO L)=H:=pt hq;rw [hs] at p4;simp only [ba] at p4;have hl:(H.set q (strsO L')).length=H.length:=bf;obtain ⟨k,hk⟩:=s166 (n:=n) (h:=⟨H,b,H.length⟩) (by omega);have hk:=du sub hk;have q0:IntKind.u64.wrap (n:Int)=n:=l9 (by omega);have hn':(n:Int)≤12:=by omega
 by_cases hw:w' < H.length
 ·have h531:∀ w,xCall T 531 [.slice (some (q,0)) n c,.int .i64 0,.int .i64 n] ⟨H,b,w⟩=some (.tuple [],⟨H.set q (strsO L'),b,min w w'⟩):=fun w=>by simp (disch:=omega) [bc t531,code531,p4,hw]
  have h513:∀ l w,xCall T 513 [.slice (some (q,0)) n c,.int .i64 0,.int .i64 n,.int .i64 l] ⟨H,b,w⟩=some (.tuple [],⟨H.set q (strsO L'),b,min w w'⟩):=fun l w=>by simp (disch:=omega) [bc t513,code513,cd,code513L0,h531,hn',hw]
  refine ⟨L',fun w=>min w w',p1,fun w=>by show min w q≤min w w'∧min w w'≤w; omega,fun w=>?_⟩;simp (disch:=omega) [bc t505,code505,h513,hk,q0,hw]
 ·have h531:∀ w,xCall T 531 [.slice (some (q,0)) n c,.int .i64 0,.int .i64 n] ⟨H,b,w⟩=some (.tuple [],⟨H,b,w⟩):=fun w=>by simp (disch:=omega) [bc t531,code531,p4,hw]
  have h513:∀ l w,xCall T 513 [.slice (some (q,0)) n c,.int .i64 0,.int .i64 n,.int .i64 l] ⟨H,b,w⟩=some (.tuple [],⟨H,b,w⟩):=fun l w=>by simp (disch:=omega) [bc t513,code513,cd,code513L0,h531,hn',hw]
  refine ⟨L,fun w=>w,.refl _,fun w=>by show min w q≤w∧w≤w; omega,fun w=>?_⟩;rw [hs];simp (disch:=omega) [bc t505,code505,h513,hk,q0,hw]
end
end
end Go.Abs.AbsBlo

namespace Go.Abs.AbsBlo
open Go.Abs.AbsBlb hiding T
open Go.Abs.Short
def kp (p:Bs→Bool) (x:Bs):Bool:=!p x
section
variable {H:List AObj} {b q n cb:Nat} {c:Option Nat} {p:Bs→Bool}
section
attribute [-simp] getElem?_pos getElem?_neg List.all_eq_true
attribute [local simp] qZ qS nltT nltF iltT iltF ileT nleT el
theorem l142k {L:List Bs} (hL:L.length=n) (hn:n≤1000000) (hq:H[q]? = some (strsO L)) (hg:∀ (x:Bs) (w:Nat),xCall T 494 [.str x,.ptr (some (cb,0))] ⟨H,b,w⟩=some (.bool (p x),⟨H,b,w⟩)):∀ (d i w:Nat),i+d=n →
  ((L.drop i).filter (kp p)=L.drop i∧∀ {β:Type} (k:AExit→St→Option β),xK T (.loop code142L0) ⟨[(0,.val (.slice (some (q,0)) n c)),(1,.val (.func 494 [] [.ptr (some (cb,0))])),(7,.val (.int .i64 n)),(8,.val (.int .i64 i))],⟨H,b,w⟩⟩ (k:=⟨k⟩)=k (.exit 0) ⟨[],⟨H,b,w⟩⟩) ∨
  (∃ j,i≤j∧j < n∧(L.drop i).filter (kp p)=(L.drop i).take (j - i)++(L.drop (j+1)).filter (kp p)∧∀ {β:Type} (k:AExit→St→Option β),xK T (.loop code142L0) ⟨[(0,.val (.slice (some (q,0)) n c)),(1,.val (.func 494 [] [.ptr (some (cb,0))])),(7,.val (.int .i64 n)),(8,.val (.int .i64 i))],⟨H,b,w⟩⟩ (k:=⟨k⟩)=k .ret ⟨[(4,.val (.int .i64 j))],⟨H,b,w⟩⟩)
 | 0,i,w,hi=>by
  have hd:L.drop i=[]:=co (by omega);refine .inl ⟨by rw [hd]; rfl,fun k=>?_⟩;rw [cd];have:¬ ((i:Int) < n):=by omega
  simp (disch:=omega) [code142L0,this]
 | d+1,i,w,hi=>by
  obtain ⟨x,hx⟩:∃ x,L[i]? = some x:=⟨_,ai (by omega)⟩;have gx:(L.map AVal.str)[i]? = some (.str x):=by rw [bk,hx]; rfl
  have hd1:=ie hx;have hil:(i:Int) < n:=by omega
  have hg':=hg x;have hml:(L.map AVal.str).length=n:=by rw [bh]; exact hL
  unfold strsO at hq;have ei:((i+1:Nat):Int)=(i:Int)+1:=by omega
  cases hp:p x with
  | true =>
   refine .inr ⟨i,aj _,by omega,?_,fun k=>?_⟩
   ·rw [hd1,List.filter_cons_of_neg (by simp [kp,hp]),mw]; rfl
   ·rw [cd];rw [hp] at hg';generalize L.map AVal.str=Y at *;generalize ACode.loop code142L0=LL;simp (disch:=omega) [code142L0,hil,hq,gx,hml,hg']
  | false =>
   have hkp:kp p x=true:=by simp [kp,hp]
   have step:∀ {β:Type} (k:AExit→St→Option β),xK T (.loop code142L0) ⟨[(0,.val (.slice (some (q,0)) n c)),(1,.val (.func 494 [] [.ptr (some (cb,0))])),(7,.val (.int .i64 n)),(8,.val (.int .i64 i))],⟨H,b,w⟩⟩ (k:=⟨k⟩)=xK T (.loop code142L0) ⟨[(0,.val (.slice (some (q,0)) n c)),(1,.val (.func 494 [] [.ptr (some (cb,0))])),(7,.val (.int .i64 n)),(8,.val (.int .i64 (i+1:Nat)))],⟨H,b,w⟩⟩ (k:=⟨k⟩):=fun k=>by rw [cd,ei];rw [hp] at hg';generalize L.map AVal.str=Y at *;generalize ACode.loop code142L0=LL;simp (disch:=omega) [code142L0,hil,hq,gx,hml,hg']
   rcases l142k hL hn hq hg d (i+1) w (by omega) with ⟨h1,h2⟩ | ⟨j,h1,h2,h3,h4⟩
   ·exact .inl ⟨by rw [hd1,List.filter_cons_of_pos hkp,h1],fun k=>(step k).trans (h2 k)⟩
   ·refine .inr ⟨j,by omega,h2,?_,fun k=>(step k).trans (h4 k)⟩;rw [hd1,List.filter_cons_of_pos hkp,h3,show j - i=(j - (i+1))+1 by omega,ku,d7]
theorem s142k {L:List Bs} (hL:L.length=n) (hn:n≤1000000) (hq:H[q]? = some (strsO L)) (hg:∀ (x:Bs) (w:Nat),xCall T 494 [.str x,.ptr (some (cb,0))] ⟨H,b,w⟩=some (.bool (p x),⟨H,b,w⟩)) :
  (L.filter (kp p)=L∧∀ w,xCall T 142 [.slice (some (q,0)) n c,.func 494 [] [.ptr (some (cb,0))]] ⟨H,b,w⟩=some (.int .i64 (-1),⟨H,b,w⟩)) ∨
  (∃ j:Nat,j < n∧L.filter (kp p)=L.take j++(L.drop (j+1)).filter (kp p)∧∀ w,xCall T 142 [.slice (some (q,0)) n c,.func 494 [] [.ptr (some (cb,0))]] ⟨H,b,w⟩=some (.int .i64 j,⟨H,b,w⟩)):=by
 rcases l142k (c:=c) hL hn hq hg n 0 H.length (by omega) with ⟨h1,h2⟩ | ⟨j,h1,h2,h3,h4⟩
 ·simp only [ba] at h2;refine .inl ⟨h1,fun w=>?_⟩;simp (disch:=omega) [bc t142,code142,h2]
 ·simp only [ba] at h4;refine .inr ⟨j,h2,h3,fun w=>?_⟩;simp (disch:=omega) [bc t142,code142,h4]
theorem l495 (hqb:b≤q) (hql:q < H.length) (hn:n≤1000000) (hg:∀ (R:List Bs) (x:Bs) (w:Nat),xCall T 494 [.str x,.ptr (some (cb,0))] ⟨H.set q (strsO R),b,w⟩=some (.bool (p x),⟨H.set q (strsO R),b,w⟩)) :
  ∀ (d j i:Nat) (R:List Bs) (w:Nat),j+d=n→i < j→R.length=n→∃ R' i' w',R'.length=n∧i'≤n∧R'.take i'=R.take i++(R.drop j).filter (kp p)∧min w q≤w'∧w'≤w∧∀ {β:Type} (k:AExit→St→Option β),
  xK T (.loop code495L0) ⟨[(0,.val (.slice (some (q,0)) n c)),(1,.val (.func 494 [] [.ptr (some (cb,0))])),(5,.val (.int .i64 i)),(6,.val (.int .i64 j))],⟨H.set q (strsO R),b,w⟩⟩ (k:=⟨k⟩) =
   k (.exit 0) ⟨[(0,.val (.slice (some (q,0)) n c)),(5,.val (.int .i64 i'))],⟨H.set q (strsO R'),b,w'⟩⟩
 | 0,j,i,R,w,hj,hij,hR=>by
  have hd:R.drop j=[]:=co (by omega);refine ⟨R,i,w,hR,by omega,by rw [hd]; simp,cz _ _,aj _,fun k=>?_⟩;rw [cd];have:¬ ((j:Int) < n):=by omega
  simp (disch:=omega) [code495L0,this]
 | d+1,j,i,R,w,hj,hij,hR=>by
  obtain ⟨x,hx⟩:∃ x,R[j]? = some x:=⟨_,ai (by omega)⟩;have gx:(R.map AVal.str)[j]? = some (.str x):=by rw [bk,hx]; rfl
  have hd1:=ie hx;have hil:(j:Int) < n:=by omega
  have hg':=hg R x;have hml:(R.map AVal.str).length=n:=by rw [bh]; exact hR
  have ej:((j+1:Nat):Int)=(j:Int)+1:=by omega
  have ei:((i+1:Nat):Int)=(i:Int)+1:=by omega
  have hg2:∀ o,(H.set q o)[q]? = some o:=fun o=>eg hql
  have hss:∀ o o',(H.set q o).set q o'=H.set q o':=fun o o'=>List.set_set ..
  cases hp:p x with
  | true =>
   obtain ⟨R',i',w',r1,r2,r3,r4,r5,r6⟩:=l495 hqb hql hn hg d (j+1) i R w (by omega) (by omega) hR;refine ⟨R',i',w',r1,r2,by rw [r3,hd1,List.filter_cons_of_neg (by simp [kp,hp])],r4,r5,fun k=>?_⟩;rw [cd,← r6 k,ej];rw [hp] at hg';unfold strsO at hg' ⊢;generalize R.map AVal.str=Y at *;generalize ACode.loop code495L0=LL;simp (disch:=omega) [code495L0,hil,hg2,gx,hml,hg']
  | false =>
   have hkp:kp p x=true:=by simp [kp,hp]
   obtain ⟨R',i',w',r1,r2,r3,r4,r5,r6⟩:=l495 hqb hql hn hg d (j+1) (i+1) (R.set i x) (min w q) (by omega) (by omega) (by rw [bf]; exact hR);refine ⟨R',i',w',r1,r2,?_,by omega,by omega,fun k=>?_⟩
   ·have e1:(R.set i x).take (i+1)=R.take i++[x]:=by rw [List.take_add_one,List.take_set,List.set_eq_of_length_le (by rw [dh]; omega),eg (by omega)]; rfl
    have e2:(R.set i x).drop (j+1)=R.drop (j+1):=by rw [List.drop_set_of_lt (by omega)]
    rw [r3,e1,e2,hd1,List.filter_cons_of_pos hkp,az]; rfl
   ·rw [cd,← r6 k,ej,ei];have hs1:(R.map AVal.str).set i (.str x)=(R.set i x).map AVal.str:=by rw [List.map_set]
    rw [← m9 _ (by rw [bh]; omega)] at hs1;rw [hp] at hg';have hs:∀ M,strsO M = .cells 1 (M.map AVal.str):=fun _=>rfl
    rw [hs] at hg' ⊢;rw [hs];generalize (R.set i x).map AVal.str=Y1 at *;generalize R.map AVal.str=Y at *;generalize ACode.loop code495L0=LL;simp (disch:=omega) [code495L0,hil,hg2,hss,gx,hml,hg',hs1]
end
end
end Go.Abs.AbsBlo

namespace Go.Abs.AbsBlo
open Go.Abs.AbsBlb hiding T
open Go.Abs.Short
abbrev lpO (vc:Nat):AObj:=.loop 522 .ready none [(2,.ptr (some (vc,0)))]
section
variable {H P:List AObj} {b w:Nat}
theorem y522 {N lp vc:Nat} {A:List Bs} {x:AVal} (k:Bs) (hlp:P[lp]? = some (lpO vc)) (hvc:P[vc]? = some (.cells 1 [x])) (hv:vc < lp) (hlN:lp < N) (hN:N≤P.length) (hb:b≤vc) (hx:FRow N 1 keyC A P x) (hA:A.length≤1000) :
  ∃ P' x',P'[lp]? = some (lpO vc)∧P'[vc]? = some (.cells 1 [x'])∧FRow N 1 keyC (A++[k]) P' x'∧(∀ (i:Nat) (o:AObj),P[i]? = some o→i≠vc→(N≤i→∀ cs,o ≠ .cells 1 cs)→P'[i]? = some o)∧P.length≤P'.length ∧
   ∀ w,xCall T 522 [.ptr (some (lp,0)),.str k] ⟨P,b,w⟩=some (.bool true,⟨P',b,min w vc⟩):=by
 have hlol:=ah hlp;let P1:=P.set lp (.loop 522 .busy none [(2,.ptr (some (vc,0)))])
 have up:∀ k o,k≠lp→P[k]? = some o→P1[k]? = some o:=fun k o hk ho=>by show (P.set _ _)[k]? = _; rw [av (fun e=>hk e.symm)]; exact ho
 have hP1l:P1.length=P.length:=bf;have hx1:=hx.monoE (P':=P1) fun k cs hk ho=>up _ _ (by omega) ho
 obtain ⟨P2,x2,n2,f1,f2,f3,f4,f5⟩:=hx1.add' (b:=b) (by':=16) (fun _=>rfl) (by omega) (by omega) (by omega) (by omega) k
 obtain ⟨a2,n3,c2,rfl⟩:∃ a n c,x2 = .slice a n c:=by
  rcases f1 with ⟨h,-⟩ | ⟨-,q,-,h,-⟩
  ·simp at h
  ·exact ⟨_,_,_,h⟩
 have hvc1:P1[vc]? = some (.cells 1 [x]):=up _ _ (by omega) hvc;have hlp1:P1[lp]? = some (.loop 522 .busy none [(2,.ptr (some (vc,0)))]):=jr hlp;have hvc2:=f2 _ _ hvc1 (fun h=>by omega);have hlp2:=f2 _ _ hlp1 (fun h=>by omega);have hlpl:=ah hlp2;have hvcl:=ah hvc2;refine ⟨(P2.set vc (.cells 1 [.slice a2 n3 c2])).set lp (lpO vc),.slice a2 n3 c2,?_,?_,f1.monoE fun i cs hi ho=>?_,fun i o ho hi hN=>?_,?_,?_⟩
 ·rw [eg (by rw [bf]; exact hlpl)]
 ·rw [av (by omega),eg hvcl]
 ·rw [av (by omega),av (by omega)]; exact ho
 ·by_cases c:i=lp
  ·subst c;rw [hlp] at ho;cases ho;rw [eg (by rw [bf]; exact hlpl)]
  ·rw [av (fun e=>c e.symm),av (fun e=>hi e.symm)];exact f2 _ _ (up _ _ c ho) hN
 ·rw [bf,bf]; omega
 ·intro w;have hP1:P.set lp (.loop 522 .busy none [(2,.ptr (some (vc,0)))])=P1:=rfl;have g2:∀ o,((P2.set vc o))[lp]? = some (.loop 522 .busy none [(2,.ptr (some (vc,0)))]):=fun o=>by rw [av (by omega)]; exact hlp2
  have hn:=f4 lp;unfold keyC at f5;rw [hP1l] at f5;simp (disch:=omega) [-getElem?_pos,-getElem?_neg,-List.all_eq_true,qZ,qS,nltT,nltF,iltT,iltF,ileT,nleT,el,xRoundK t522 rfl,round522,rcode522a,rcode522b,ol,my,roundOut,setArgs,ofCaps,-ex,hlp,hP1,hvc1,hP1l,f5,g2,hvc2]
def SelK (ix:List Ent) (A:List Bs) (seen:List Nat):Prop:=A.Nodup∧∀ k,k ∈ A ↔ ∃ e ∈ ix,e.2.2 ∈ seen∧e.1=k
def KeyJ (H1:List AObj) (m0 clock it lp vc b w0:Nat) (ix:List Ent) (m:Nat) (st:St):Prop:=∃ seen A P x w',m=(ix.filter fun e=>!seen.contains e.2.2).length∧(∀ (i:Nat) (o:AObj),H1[i]? = some o→i≠vc→P[i]? = some o)∧P[it]? = some (.mapIter (some m0) clock seen clock)∧P[vc]? = some (.cells 1 [x])∧FRow it 1 keyC A P x∧SelK ix A seen∧it+1≤P.length∧min w0 vc≤w'∧(w'≤vc∨A=[]) ∧
  st=⟨[(0,.val (.yield lp)),(5,.val (.ptr (some (it,0))))],⟨P,b,w'⟩⟩
def KeyN (H1:List AObj) (m0 clock it lp vc b w0:Nat) (ix:List Ent) (m:Nat) (st:St):Prop:=∃ j,j < m∧KeyJ H1 m0 clock it lp vc b w0 ix j st
def KeyE (H1:List AObj) (it vc b w0:Nat) (ix:List Ent) (e:AExit) (st:St):Prop :=
 e = .exit 0∧∃ A P x w',(∀ (i:Nat) (o:AObj),H1[i]? = some o→i≠vc→P[i]? = some o)∧P[vc]? = some (.cells 1 [x])∧FRow it 1 keyC A P x∧A.Nodup∧(∀ k,k ∈ A ↔ ∃ e ∈ ix,e.1=k)∧it+1≤P.length∧min w0 vc≤w'∧(w'≤vc∨A=[])∧st=⟨[],⟨P,b,w'⟩⟩
variable {I:SI} {K:StU}
theorem sel_add {ix:List Ent} {clock:Nat} (hx:IxOK ix clock) {A:List Bs} {seen:List Nat} (h:SelK ix A seen) {e0:Ent} (h0:e0 ∈ ix) (hns:e0.2.2 ∉ seen):SelK ix (A++[e0.1]) (seen++[e0.2.2]):=by
 refine ⟨?_,fun k=>?_⟩
 ·rw [List.nodup_append];refine ⟨h.1,by simp,fun a ha y hy=>?_⟩;rw [bq] at hy;subst hy;obtain ⟨e,h1,h2,h4⟩:=(h.2 a).1 ha;intro hh;obtain ⟨j1,hj1⟩:=qw.1 h1;obtain ⟨j2,hj2⟩:=qw.1 h0;have:=rq hx.k hj1 hj2 (h4.trans hh);subst this;rw [hj1] at hj2;cases hj2;exact hns h2
 ·rw [bw,bq,h.2 k];constructor
  ·rintro (⟨e,h1,h2,h4⟩ | rfl)
   ·exact ⟨e,h1,e9 _ h2,h4⟩
   ·exact ⟨e0,h0,by simp,rfl⟩
  ·rintro ⟨e,h1,h2,h4⟩;rcases bw.1 h2 with h2 | h2
   ·exact .inl ⟨e,h1,h2,h4⟩
   ·rw [bq] at h2;right;obtain ⟨j1,hj1⟩:=qw.1 h1;obtain ⟨j2,hj2⟩:=qw.1 h0
    have e3:j1=j2:=by
     have q1:(ix.map (·.2.2))[j1]? = some e.2.2:=by rw [bk,hj1]; rfl
     have q2:(ix.map (·.2.2))[j2]? = some e.2.2:=by rw [bk,hj2,h2]; rfl
     exact (List.getElem?_inj (ah q1) hx.t).1 (q1.trans q2.symm)
    subst e3;rw [hj1] at hj2;cases hj2;exact h4.symm
section
attribute [-simp] getElem?_pos getElem?_neg List.all_eq_true
attribute [local simp] qZ qS nltT nltF iltT iltF ileT nleT el
theorem key_loop {H1:List AObj} {m it lp vc w0 clock:Nat} {ix:List Ent} (hI:H1[m]? = some (.map (ix.map entV) clock)) (hx:IxOK ix clock) (hxl:ix.length≤1000) (hit:it=H1.length) (hlp:H1[lp]? = some (lpO vc)) (hvc:H1[vc]? = some (.cells 1 [.slice none 0 (some 0)])) (hv:vc < lp) (hb:b≤vc) :
  Wp T (.loop code507L0) ⟨[(0,.val (.yield lp)),(5,.val (.ptr (some (it,0))))],⟨H1++[.mapIter (some m) clock [] clock],b,w0⟩⟩ (KeyE H1 it vc b w0 ix):=by
 have hlpl:=ah hlp;refine Wp_loop (KeyJ H1 m clock it lp vc b w0 ix) (fun m1 st hJ=>?_) _ _ ⟨[],[],_,_,w0,rfl,fun k o hk _=>by rw [ag (ah hk)]; exact hk,by rw [hit]; exact ga _ _,by rw [ag (ah hvc)]; exact hvc,.inl ⟨rfl,rfl⟩,⟨by simp,fun k=>by simp⟩,by simp [hit],cz _ _,.inr rfl,rfl⟩;obtain ⟨seen,A,P,x,w1,rfl,s1,s2,s3,s4,s5,s6,s7,s8,rfl⟩:=hJ;have hIt:m < it:=by have:=ah hI; omega
 have hmv:m≠vc:=fun e=>by rw [e,hvc] at hI; cases hI
 have hPm:P[m]? = some (.map (ix.map entV) clock):=s1 _ _ hI hmv;have hPlp:P[lp]? = some (lpO vc):=s1 _ _ hlp (by omega);have hitl:=ah s2;unfold code507L0;refine Wp_live ?_;refine zbm (zbn (zbm ?_));refine Wp_next (m:=m) (i:=it) (since:=clock) (last:=clock) (clock:=clock) (seen:=seen) (es:=ix.map entV) (by simp) (by show b≤_; omega) s2 hPm (fun e he=>?_) (aj _) (fun hall=>?_) (fun e he hne'=>?_)
 ·obtain ⟨e0,h0,rfl⟩:=cq.1 he;exact hx.c e0 h0
 ·have hse:∀ k,k ∈ A ↔ ∃ e ∈ ix,e.1=k:=fun k=>by
   rw [s5.2 k];constructor
   ·rintro ⟨e,h1,-,h3⟩; exact ⟨e,h1,h3⟩
   ·rintro ⟨e,h1,h3⟩; exact ⟨e,h1,hall _ (cq.2 ⟨e,h1,rfl⟩),h3⟩
  have fin:KeyE H1 it vc b w0 ix (.exit 0) ⟨[],⟨P.set it .dead,b,min w1 it⟩⟩:=⟨rfl,A,P.set it .dead,x,min w1 it,fun k o hk hne=>by
   rw [av (by have:=ah hk; omega)]; exact s1 _ _ hk hne,by rw [av (by omega)]; exact s3,s4.monoE fun k o hk ho=>by
   rw [av (fun e=>by rw [← e,s2] at ho; cases ho)]; exact ho,s5.1,hse,by rw [bf]; exact s6,by omega,s8.imp (fun h=>by omega) id,rfl⟩
  refine Wp_x rfl ?_;simp (disch:=omega) [];refine Wp_x rfl ?_;simp (disch:=omega) [fin]
 ·obtain ⟨e0,h0,rfl⟩:=cq.1 he;have hns:e0.2.2 ∉ seen:=hne';have hfs:=zbj hx.t h0
  have hAl:A.length≤ix.length:=by
   have:=nodup_len (l':=ix.map (·.1)) s5.1 fun k hk=>by obtain ⟨e,h1,-,h4⟩:=(s5.2 k).1 hk;exact cq.2 ⟨e,h1,h4⟩
   rwa [bh] at this
  let P1:=P.set it (.mapIter (some m) clock (seen++[e0.2.2]) clock)
  have hP1l:P1.length=P.length:=bf;have g1:∀ k o,k≠it→P[k]? = some o→P1[k]? = some o:=fun k o hk ho=>by show (P.set _ _)[k]? = _; rw [av (fun e=>hk e.symm)]; exact ho
  have g2:P1[it]? = some (.mapIter (some m) clock (seen++[e0.2.2]) clock):=jr s2;have hPm1:P1[m]? = some (.map (ix.map entV) clock):=g1 _ _ (by omega) hPm;have hlp1:P1[lp]? = some (lpO vc):=g1 _ _ (by omega) hPlp;have hvc1:P1[vc]? = some (.cells 1 [x]):=g1 _ _ (by omega) s3;have fr1:FRow it 1 keyC A P1 x:=s4.monoE fun k o hk ho=>g1 _ _ (fun e=>by rw [e,s2] at ho; cases ho) ho
  have hlt:(ix.filter fun e=>!(seen++[e0.2.2]).contains e.2.2).length < (ix.filter fun e=>!seen.contains e.2.2).length:=filt_lt (fun y _ hy=>by simp only [fp,List.contains_eq_mem,bw,bq,decide_eq_false_iff_not,not_or] at hy ⊢;exact hy.1) ⟨e0,h0,by simpa using hns,by simp⟩
  have hen:∀ w,dj .entry [.ptr (some (it,0))] ⟨P1,b,w⟩=some (.tuple [.str e0.1,e0.2.1.val],⟨P1,b,w⟩):=fun w=>by simp only [dj,Heap.get,g2,hPm1,List.getLast?_append,List.getLast?_singleton,Option.some_or,if_true,hfs,b9]; rfl
  obtain ⟨P2,x2,f1,f2,f3,f4,f5,f6⟩:=y522 (b:=b) (N:=it) e0.1 hlp1 hvc1 hv (by omega) (by omega) hb fr1 (by omega)
  have fin:∀ w',min w0 vc≤w'→w'≤vc→KeyN H1 m clock it lp vc b w0 ix (ix.filter fun e=>!seen.contains e.2.2).length ⟨[(0,.val (.yield lp)),(5,.val (.ptr (some (it,0))))],⟨P2,b,w'⟩⟩:=fun w' hw' hw2 =>
   ⟨_,hlt,seen++[e0.2.2],A++[e0.1],P2,x2,w',rfl,fun k o hk hne=>f4 _ _ (g1 _ _ (by have:=ah hk; omega) (s1 _ _ hk hne)) hne fun hh=>by have:=ah hk; omega,f4 _ _ g2 (by omega) (fun hh cs e=>by cases e),f2,f3,sel_add hx s5 h0 hns,by omega,hw',.inl hw2,rfl⟩
  have fin:=fin (min w1 vc) (by omega) (by omega);unfold PlU.val at hen;refine Wp_x rfl ?_;simp (disch:=omega) [];refine Wp_x rfl ?_;have hset:P.set it (.mapIter (some m) clock (seen++[e0.2.2]) clock)=P1:=rfl;have hv1:(entV e0).1 = .str e0.1:=rfl;have hv2:(entV e0).2.2=e0.2.2:=rfl;rw [hv2,hset];generalize P1=P1 at *;have hgl:∀ w,(⟨P1,b,w⟩:Heap).get lp=some (lpO vc):=fun w=>hlp1
  simp (disch:=omega) [-dj,hen,f6,hP1l,hlp1];unfold KeyN at fin;simpa using fin
end
end
end Go.Abs.AbsBlo

namespace Go.Abs.AbsBlo
open Go.Abs.AbsBlb hiding T
open Go.Abs.Short
section
variable {H P:List AObj} {b w:Nat}
theorem qt {A:List Bs} {q n w':Nat} {c:Option Nat} (hq:P[q]? = some (strsO A)) (hH:H.length≤q) (hw:H.length≤w'):dk ⟨H,b,w⟩ (.slice (some (q,0)) n c) ⟨P,b,w'⟩=(.slice (some (H.length,0)) n c,⟨H++[strsO A],b,w⟩):=by
 have h1:¬ w' < H.length:=by omega
 have h2:¬ q < H.length:=by omega
 have hids:AVal.idsL (A.map AVal.str)=[]:=idsL_none fun v hv=>by obtain ⟨z,-,rfl⟩:=cq.1 hv;simp [AVal.ids]
 have hren:∀ g,AVal.renL g (A.map AVal.str)=A.map AVal.str:=fun g=>AbsBlb.renL_none fun x hx=>by obtain ⟨k,-,rfl⟩:=cq.1 hx; simp [AVal.ren]
 unfold strsO at hq ⊢;generalize A.map AVal.str=Y at *;simp (disch:=omega) [dk,Heap.size,h1,h2,AVal.under,AVal.ids,mb,md,zbc,hq,hids,hren,AVal.ren,AObj.ren,AObj.ids,idxIn]
def KeysQ (keys:List Bs) (H:List AObj) (b w:Nat) (v:AVal) (h':Heap):Prop:=∃ L,L.Perm keys ∧
 ((L=[]∧v = .slice none 0 (some 0)∧h'=⟨H,b,w⟩)∨(L≠[]∧v = .slice (some (H.length,0)) L.length none∧h'=⟨H++[strsO L],b,w⟩))
variable {E:Env}
theorem d507 (hT:AgreesX E T) (hm:E.P.follows .mixedOrders=true) (hF:IsCode E 507 code507) {H1:List AObj} {q m lp vc clock:Nat} {ix:List Ent} (hq:H1[q]? = some (.cells 1 [.map (some m)])) (hI:H1[m]? = some (.map (ix.map entV) clock)) (hx:IxOK ix clock) (hxl:ix.length≤1000) (hlp:H1[lp]? = some (lpO vc)) (hvc:H1[vc]? = some (.cells 1 [.slice none 0 (some 0)])) (hv:vc < lp) (hb:b≤vc) (w:Nat) :
  CallD E 507 [.yield lp,.ptr (some (q,0))] ⟨H1,b,w⟩ fun v h'=>v = .tuple []∧∃ A P x w',h'=⟨P,b,w'⟩∧(∀ (i:Nat) (o:AObj),H1[i]? = some o→i≠vc→P[i]? = some o)∧P[vc]? = some (.cells 1 [x])∧FRow H1.length 1 keyC A P x∧A.Nodup∧(∀ k,k ∈ A ↔ ∃ e ∈ ix,e.1=k)∧min w vc≤w':=by
 have hvl:=ah hvc;refine CallD.of_code hF rfl ?_;have hbody:code507.body = .seq (R [0,5] [o 4 (.load none (t 1)),o 5 (.ext .mkiter [t 4])]) (.after (.block 0 (.loop code507L0)) []):=rfl;rw [hbody];have hen:enter 0 [AVal.yield lp,.ptr (some (q,0))]=[(0,.val (.yield lp)),(1,.val (.ptr (some (q,0))))]:=rfl;have hsz:(⟨H1,b,w⟩:Heap).size=H1.length:=rfl;rw [hen];simp only [hsz]
 refine CodeD.seq nofun (CodeD.run hT hm (e:=.normal) (st':=⟨[(0,.val (.yield lp)),(5,.val (.ptr (some (H1.length,0))))],⟨H1++[.mapIter (some m) clock [] clock],b,H1.length⟩⟩) (fun k'=>by generalize ix.map entV=es at *;simp (disch:=omega) [-getElem?_pos,-getElem?_neg,-List.all_eq_true,qZ,qS,nltT,nltF,iltT,iltF,ileT,nleT,el,hq,hI,dj]) ?_)
 refine CodeD.after (CodeD.block ((CodeD.of_wpX hT hm (key_loop (w0:=H1.length) hI hx hxl rfl hlp hvc hv hb)).mono fun e st hq _=>?_));obtain ⟨rfl,A,P,x,w',p1,p2,p3,p4,p5,p6,p7,p8,rfl⟩:=hq;simp only [blkE_e,if_true];have hk1:keepK [] ([]:Slots)=[]:=rfl;rw [hk1];by_cases hw:w' < H1.length
 ·refine ⟨.tuple [],⟨P,b,min w w'⟩,by simp [funcEnd,code507,resultsL,tupled,dk,Heap.size,hw],rfl,A,P,x,min w w',rfl,p1,p2,p3,p4,p5,by omega⟩
 ·rcases p8 with p8 | rfl
  ·omega
  ·refine ⟨.tuple [],⟨H1,b,w⟩,by simp [funcEnd,code507,resultsL,tupled,dk,Heap.size,hw,AVal.under,AVal.unders],rfl,[],H1,.slice none 0 (some 0),w,rfl,fun i o ho _=>ho,hvc,.inl ⟨rfl,rfl⟩,p4,p5,cz _ _⟩
end
end Go.Abs.AbsBlo

namespace Go.Abs.AbsBlo
open Go.Abs.AbsBlb hiding T
open Go.Abs.Short
section
variable {H P:List AObj} {b w:Nat} {E:Env}
theorem rv {w':Nat} (hw:H.length≤w'):dk ⟨H,b,w⟩ (.slice none 0 (some 0)) ⟨P,b,w'⟩=(.slice none 0 (some 0),⟨H,b,w⟩):=by
 have h1:¬ w' < H.length:=by omega
 simp [dk,Heap.size,h1,AVal.under]
theorem perm_keys {ix:List Ent} {clock:Nat} (hx:IxOK ix clock) {A:List Bs} (h1:A.Nodup) (h2:∀ k,k ∈ A ↔ ∃ e ∈ ix,e.1=k):A.Perm (ix.map (·.1)) :=
 (List.perm_ext_iff_of_nodup h1 hx.k).2 fun k=>by rw [h2 k,cq]
section
attribute [-simp] getElem?_pos getElem?_neg List.all_eq_true
attribute [local simp] qZ qS nltT nltF iltT iltF ileT nleT el
theorem d512 (hT:AgreesX E T) (hm:E.P.follows .mixedOrders=true) (hF:IsCode E 507 code507) (hF2:IsCode E 512 code512) {q m clock:Nat} {ix:List Ent} (hq:H[q]? = some (.cells 1 [.map (some m)])) (hI:H[m]? = some (.map (ix.map entV) clock)) (hx:IxOK ix clock) (hxl:ix.length≤1000) (hb:b≤H.length) (w:Nat) :
  CallD E 512 [.slice none 0 (some 0),.func 507 [] [.ptr (some (q,0))]] ⟨H,b,w⟩ (KeysQ (ix.map (·.1)) H b w):=by
 have hql:=ah hq;have hml:=ah hI;refine CallD.of_code hF2 rfl ?_
 have hbody:code512.body = .seq (R [1,2] [o 2 (.box (t 0)),o 4 (.val (.const (.slice none 0 (some 0))))])
  (.seq (.seq (R [2,6] [v 6 1])
  (.after (.block 0 (.after (.rangeFunc (t 6) 522 [2] [7] rcode522a rcode522b) [2])) [2]))
  (.seq (R [4] [o 12 (.load none (t 2)),v 4 12])
  (.live [4] (.ret)))):=rfl
 rw [hbody];have hen:enter 0 [AVal.slice none 0 (some 0),.func 507 [] [.ptr (some (q,0))]]=[(0,.val (.slice none 0 (some 0))),(1,.val (.func 507 [] [.ptr (some (q,0))]))]:=rfl;have hsz:(⟨H,b,w⟩:Heap).size=H.length:=rfl;rw [hen];simp only [hsz];refine CodeD.seq nofun (CodeD.run hT hm (e:=.normal) (st':=⟨[(1,.val (.func 507 [] [.ptr (some (q,0))])),(2,.val (.ptr (some (H.length,0))))],⟨H++[.cells 1 [.slice none 0 (some 0)]],b,H.length⟩⟩) (fun k'=>by simp (disch:=omega) []) ?_);refine CodeD.seq nofun (CodeD.seq nofun (CodeD.run hT hm (e:=.normal) (st':=⟨[(2,.val (.ptr (some (H.length,0)))),(6,.val (.func 507 [] [.ptr (some (q,0))]))],⟨H++[.cells 1 [.slice none 0 (some 0)]],b,H.length⟩⟩) (fun k'=>by simp (disch:=omega) []) ?_));have hl1:(H++[AObj.cells 1 [.slice none 0 (some 0)]]).length=H.length+1:=by simp
 obtain ⟨T',hs,hA⟩:=id hT;have hg0:=ga H [AObj.cells 1 [.slice none 0 (some 0)],lpO H.length];have hg1:=kj H [AObj.cells 1 [.slice none 0 (some 0)],lpO H.length] 1;have hcall:=d507 (b:=b) hT hm hF (H1:=H++[AObj.cells 1 [.slice none 0 (some 0)],lpO H.length]) (q:=q) (lp:=H.length+1) (vc:=H.length) (by rw [ag hql]; exact hq) (by rw [ag hml]; exact hI) hx hxl hg1 hg0 (Nat.lt_succ_self _) hb H.length;refine CodeD.after (CodeD.block (CodeD.after (CodeD.rangeFunc (sl:=[(2,.ptr (some (H.length,0)))]) hA.gid rfl rfl ?_)))
 have hpush:(Heap.push ⟨H++[AObj.cells 1 [.slice none 0 (some 0)]],b,H.length⟩ (.loop 522 .ready none [(2,.ptr (some (H.length,0)))]))=⟨H++[AObj.cells 1 [.slice none 0 (some 0)],lpO H.length],b,H.length⟩:=by simp [Heap.push]
 have hsz2:(⟨H++[AObj.cells 1 [.slice none 0 (some 0)]],b,H.length⟩:Heap).size=H.length+1:=hl1;rw [hpush,hsz2];refine hcall.mono fun vv hh hq=>?_
 obtain ⟨-,A,P,x,w',rfl,p1,p2,p3,p4,p5,p6⟩:=hq;have hlp:=p1 _ _ hg1 (by omega);have hPl:=ah hlp;have hN:(H++[AObj.cells 1 [.slice none 0 (some 0)],lpO H.length]).length=H.length+2:=by simp
 rw [hN] at p3
 refine ⟨.normal,⟨[(2,.val (.ptr (some (H.length,0)))),(6,.val (.func 507 [] [.ptr (some (q,0))]))],⟨P.set (H.length+1) .dead,b,min w' (H.length+1)⟩⟩,by
  have hb1:b≤H.length+1:=by omega
  simp [loopEnd,Heap.get,hlp,Heap.put],?_⟩
 have hk1:keepK [2] [(2,Slot.val (AVal.ptr (some (H.length,0)))),(6,.val (.func 507 [] [.ptr (some (q,0))]))]=[(2,.val (.ptr (some (H.length,0))))]:=by simp
 have hk2:keepK [2] [(2,Slot.val (AVal.ptr (some (H.length,0))))]=[(2,.val (.ptr (some (H.length,0))))]:=by simp
 simp only [hk1,hk2,blkE];have hvc:(P.set (H.length+1) .dead)[H.length]? = some (.cells 1 [x]):=by rw [av (by omega)]; exact p2
 have hx2:∃ a n c,x = .slice a n c:=by
  rcases p3 with ⟨-,h⟩ | ⟨-,q,-,h,-⟩
  ·exact ⟨_,_,_,h⟩
  ·exact ⟨_,_,_,h⟩
 obtain ⟨xa,xn,xc,rfl⟩:=hx2;refine CodeD.run hT hm (e:=.ret) (st':=⟨[(4,.val (.slice xa xn xc))],⟨P.set (H.length+1) .dead,b,min w' (H.length+1)⟩⟩) (fun k'=>by simp (disch:=omega) [hvc]) ?_;have hw:H.length≤min w' (H.length+1):=by omega
 have hfe:funcEnd code512 ⟨H,b,w⟩ (.ret,⟨[(4,.val (.slice xa xn xc))],⟨P.set (H.length+1) .dead,b,min w' (H.length+1)⟩⟩)=some (dk ⟨H,b,w⟩ (.slice xa xn xc) ⟨P.set (H.length+1) .dead,b,min w' (H.length+1)⟩):=by simp [-dk,funcEnd,code512,resultsL,result1,sget,tupled]
 rw [hfe];have hperm:=perm_keys hx p4 p5;rcases p3 with ⟨rfl,h⟩ | ⟨hne,q',hq',h,hrow⟩
 ·rw [h];rw [rv hw];exact ⟨_,_,rfl,[],hperm,.inl ⟨rfl,rfl,rfl⟩⟩
 ·rw [h];rw [qt (A:=A) (q:=q') (by rw [av (by omega)]; unfold strsO; rw [← jt]; exact hrow) (by omega) hw];exact ⟨_,_,rfl,A,hperm,.inr ⟨hne,rfl,rfl⟩⟩
theorem d506 (hT:AgreesX E T) (hm:E.P.follows .mixedOrders=true) (hF:IsCode E 507 code507) (hF2:IsCode E 512 code512) (hF3:IsCode E 506 code506) {q m clock:Nat} {ix:List Ent} (hq:H[q]? = some (.cells 1 [.map (some m)])) (hI:H[m]? = some (.map (ix.map entV) clock)) (hx:IxOK ix clock) (hxl:ix.length≤1000) (hb:b≤H.length) (w:Nat) :
  CallD E 506 [.func 507 [] [.ptr (some (q,0))]] ⟨H,b,w⟩ (KeysQ (ix.map (·.1)) H b w):=by
 refine CallD.of_code hF3 rfl ?_
 have hbody:code506.body = .seq (R [0] [o 2 (.val (.const (.slice none 0 (some 0))))])
  (.seq (R [2] [v 3 0,o 4 (.callg 512 [.const (.slice none 0 (some 0)),t 3]),v 2 4])
  (.live [2] (.ret))):=rfl
 rw [hbody];have hen:enter 0 [AVal.func 507 [] [.ptr (some (q,0))]]=[(0,.val (.func 507 [] [.ptr (some (q,0))]))]:=rfl;have hsz:(⟨H,b,w⟩:Heap).size=H.length:=rfl;rw [hen];simp only [hsz];refine CodeD.seq nofun (CodeD.run hT hm (e:=.normal) (st':=⟨[(0,.val (.func 507 [] [.ptr (some (q,0))]))],⟨H,b,H.length⟩⟩) (fun k'=>by simp (disch:=omega) []) ?_);refine CodeD.seq nofun (CodeD.after (CodeD.regionX hT hm ?_));refine OpsD.run (l:=[v 3 0]) (r:=[o 4 (.callg 512 [.const (.slice none 0 (some 0)),t 3]),v 2 4]) (s1:=[(3,.val (.func 507 [] [.ptr (some (q,0))])),(0,.val (.func 507 [] [.ptr (some (q,0))]))]) (h1:=⟨H,b,H.length⟩) (fun k'=>by simp (disch:=omega) []) ?_;refine OpsD.call (g:=512) (xs:=[.const (.slice none 0 (some 0)),t 3]) rfl rfl rfl (d512 hT hm hF hF2 hq hI hx hxl hb H.length) fun vv hh hR'=>?_
 obtain ⟨L,hp,hc⟩:=hR'
 have hvs:∃ a n c,vv = .slice a n c:=by rcases hc with ⟨-,h,-⟩ | ⟨-,h,-⟩ <;> exact ⟨_,_,_,h⟩
 obtain ⟨xa,xn,xc,rfl⟩:=hvs
 have hhb:∃ M,hh=⟨M,b,H.length⟩∧H.length≤M.length:=by
  rcases hc with ⟨-,-,h⟩ | ⟨-,-,h⟩
  ·exact ⟨_,h,aj _⟩
  ·exact ⟨_,h,by simp⟩
 obtain ⟨M,rfl,hM⟩:=hhb;refine OpsD.run (l:=[v 2 4]) (r:=[]) (s1:=[(2,.val (.slice xa xn xc)),(4,.val (.slice xa xn xc)),(3,.val (.func 507 [] [.ptr (some (q,0))])),(0,.val (.func 507 [] [.ptr (some (q,0))]))]) (h1:=⟨M,b,H.length⟩) (fun k'=>by simp (disch:=omega) []) (OpsD.done ?_);refine CodeD.run hT hm (e:=.ret) (st':=⟨[(2,.val (.slice xa xn xc))],⟨M,b,H.length⟩⟩) (fun k'=>by simp (disch:=omega) []) ?_
 have hfe:funcEnd code506 ⟨H,b,w⟩ (.ret,⟨[(2,.val (.slice xa xn xc))],⟨M,b,H.length⟩⟩)=some (dk ⟨H,b,w⟩ (.slice xa xn xc) ⟨M,b,H.length⟩):=by simp [-dk,funcEnd,code506,resultsL,result1,sget,tupled]
 rw [hfe];rcases hc with ⟨rfl,h,h2⟩ | ⟨hne,h,h2⟩
 ·rw [h];rw [rv (aj _)];exact ⟨_,_,rfl,[],hp,.inl ⟨rfl,rfl,rfl⟩⟩
 ·cases h2;rw [h,qt (A:=L) (ga _ _) (aj _) (aj _)];exact ⟨_,_,rfl,L,hp,.inr ⟨hne,rfl,rfl⟩⟩
end
end
end Go.Abs.AbsBlo

namespace Go.Abs.AbsBlo
open Go.Abs.AbsBlb hiding T
open Go.Abs.Short
def begP (p k:Bs):Bool:=decide (p.length≤k.length) && decide (k.take p.length=p)
section
variable {H P:List AObj} {b w:Nat}
section
attribute [-simp] getElem?_pos getElem?_neg List.all_eq_true
attribute [local simp] qZ qS nltT nltF iltT iltF ileT nleT el
theorem s140k {p k:Bs}:xCall T 140 [.str k,.str p] ⟨P,b,w⟩=some (.bool (begP p k),⟨P,b,w⟩):=by
 unfold begP;by_cases c:p.length≤k.length
 ·have c':(p.length:Int)≤k.length:=by omega
  by_cases d:k.take p.length=p
  ·simp (disch:=omega) [bc t140,code140,c,c',d]
  ·simp (disch:=omega) [bc t140,code140,c,c',d]
 ·have c':¬ (p.length:Int)≤k.length:=by omega
  simp (disch:=omega) [bc t140,code140,c,c']
theorem s88k {p k:Bs}:xCall T 88 [.str k,.str p] ⟨P,b,w⟩=some (.bool (begP p k),⟨P,b,w⟩):=by
 have h:=fun w=>s140k (P:=P) (b:=b) (w:=w) (p:=p) (k:=k)
 simp (disch:=omega) [bc t88,code88,h]
theorem s494k {p k:Bs} {cb:Nat} (hc:P[cb]? = some (.cells 1 [.str p])):xCall T 494 [.str k,.ptr (some (cb,0))] ⟨P,b,w⟩=some (.bool (!begP p k),⟨P,b,w⟩):=by
 have h:=fun w=>s88k (P:=P) (b:=b) (w:=w) (p:=p) (k:=k)
 simp (disch:=omega) [bc t494,code494,h,hc]
end
theorem rep_str (n:Nat):rep n [AVal.str []]=(List.replicate n ([]:Bs)).map AVal.str:=by
 unfold rep;induction n with
 | zero=>rfl
 | succ n ih=>rw [ue,oo,ih,ue]; rfl
section
attribute [-simp] getElem?_pos getElem?_neg List.all_eq_true
attribute [local simp] qZ qS nltT nltF iltT iltF ileT nleT el
theorem s495 {q n cb:Nat} {p:Bs→Bool} (hqb:b≤q) (hql:q < H.length) {L:List Bs} (hL:L.length=n) (hn:n≤1000000) (hq:H[q]? = some (strsO L)) (hg:∀ (R:List Bs) (x:Bs) (w:Nat),xCall T 494 [.str x,.ptr (some (cb,0))] ⟨H.set q (strsO R),b,w⟩=some (.bool (p x),⟨H.set q (strsO R),b,w⟩)) :
  ∃ R' m,∃ nx:Nat→Nat,R'.length=n∧m≤n∧R'.take m=L.filter (kp p)∧(∀ w,min w q≤nx w∧nx w≤w)∧∀ w,xCall T 495 [.slice (some (q,0)) n none,.func 494 [] [.ptr (some (cb,0))]] ⟨H,b,w⟩=some (.slice (some (q,0)) m none,⟨H.set q (strsO R'),b,nx w⟩):=by
 have hs:H.set q (strsO L)=H:=pt hq;have hg0:=hg L;rw [hs] at hg0;rcases s142k (c:=none) hL hn hq hg0 with ⟨h1,h2⟩ | ⟨j,h1,h2,h3⟩
 ·refine ⟨L,n,fun w=>w,hL,aj _,by rw [h1,ew (by omega)],fun w=>⟨cz _ _,aj _⟩,fun w=>?_⟩;rw [hs];simp (disch:=omega) [bc t495,code495,h2]
 ·obtain ⟨R1,i',w1,r1,r2,r3,r4,r5,r6⟩:=l495 (c:=none) hqb hql hn hg (n - (j+1)) (j+1) j L H.length (by omega) (Nat.lt_succ_self _) hL;rw [hs] at r6
  have hlt:i' < n:=by have e1:=congrArg List.length r3;have e2:=List.length_filter_le (kp p) (L.drop (j+1));rw [dh,aq,dh] at e1;rw [gg] at e2;omega
  have ej:((j+1:Nat):Int)=(j:Int)+1:=by omega
  rw [ej] at r6;refine ⟨R1.take i'++List.replicate (n - i') [],i',fun w=>min w q,by rw [aq,dh,br]; omega,by omega,?_,fun w=>⟨aj _,cz _ _⟩,fun w=>?_⟩
  ·rw [List.take_append_of_le_length (by rw [dh]; omega),List.take_take,Nat.min_self,r3,← h2]
  ·have hrow:strsO (R1.take i'++List.replicate (n - i') []) = .cells 1 (splice (R1.map AVal.str) i' (rep (n - i') [.str []])):=by unfold strsO splice;rw [rep_str,bh,br,co (by rw [bh]; omega),gq,ic,uw]
   rw [hrow];have hs1:strsO R1 = .cells 1 (R1.map AVal.str):=rfl;rw [hs1] at r6;have hml:(R1.map AVal.str).length=n:=by rw [bh]; exact r1
   have hg2:∀ o,(H.set q o)[q]? = some o:=fun o=>eg hql
   have hss:∀ o o',(H.set q o).set q o'=H.set q o':=fun o o'=>List.set_set ..
   generalize R1.map AVal.str=Y at *;have hne:¬ n - i'=0:=by omega
   have hin:(i':Int)≤n:=by omega
   have hle:i'+(n - i')≤n:=by omega
   have hw1:min w1 q=q:=by omega
   simp (disch:=omega) [-splice,bc t495,code495,h3,r6,hg2,hss,hml,hne,hin,hle,hw1,hql]
end
end
end Go.Abs.AbsBlo

namespace Go.Abs.AbsBlo
open Go.Abs.AbsBlb hiding T
open Go.Abs.Short
structure CodesK (E:Env):Prop where
 t:AgreesX E T
 m:E.P.follows .mixedOrders=true
 a507:IsCode E 507 code507
 a512:IsCode E 512 code512
 a506:IsCode E 506 code506
 a497:IsCode E 497 code497
 a480:IsCode E 480 code480
section
variable {H P:List AObj} {b w:Nat} {E:Env}
section
attribute [-simp] getElem?_pos getElem?_neg List.all_eq_true
attribute [local simp] qZ qS nltT nltF iltT iltF ileT nleT el
theorem d497 (hC:CodesK E) {q m clock:Nat} {ix:List Ent} (hq:H[q]? = some (.cells 1 [.map (some m)])) (hI:H[m]? = some (.map (ix.map entV) clock)) (hx:IxOK ix clock) (hxl:ix.length≤12) (hb:b≤H.length) (w:Nat) :
  CallD E 497 [.func 507 [] [.ptr (some (q,0))]] ⟨H,b,w⟩ (KeysQ (ix.map (·.1)) H b w):=by
 have hT:=hC.t;have hm:=hC.m;refine CallD.of_code hC.a497 rfl ?_
 have hbody:code497.body = .seq (R [0] [o 2 (.val (.const (.slice none 0 (some 0))))])
  (.seq (R [3] [v 4 0,o 5 (.callg 506 [t 4]),v 3 5])
  (.seq (R [3] [v 6 3,o 7 (.callg 505 [t 6])])
  (.seq (R [2] [v 8 3,v 2 8])
  (.live [2] (.ret))))):=rfl
 rw [hbody];have hen:enter 0 [AVal.func 507 [] [.ptr (some (q,0))]]=[(0,.val (.func 507 [] [.ptr (some (q,0))]))]:=rfl;have hsz:(⟨H,b,w⟩:Heap).size=H.length:=rfl;rw [hen];simp only [hsz];refine CodeD.seq nofun (CodeD.run hT hm (e:=.normal) (st':=⟨[(0,.val (.func 507 [] [.ptr (some (q,0))]))],⟨H,b,H.length⟩⟩) (fun k'=>by simp (disch:=omega) []) ?_);refine CodeD.seq nofun (CodeD.after (CodeD.regionX hT hm ?_));refine OpsD.run (l:=[v 4 0]) (r:=[o 5 (.callg 506 [t 4]),v 3 5]) (s1:=[(4,.val (.func 507 [] [.ptr (some (q,0))])),(0,.val (.func 507 [] [.ptr (some (q,0))]))]) (h1:=⟨H,b,H.length⟩) (fun k'=>by simp (disch:=omega) []) ?_;refine OpsD.call (g:=506) (xs:=[t 4]) rfl rfl rfl (d506 hT hm hC.a507 hC.a512 hC.a506 hq hI hx (by omega) hb H.length) fun vv hh hR'=>?_
 obtain ⟨L,hp,hc⟩:=hR';have hLl:L.length≤12:=by rw [hp.length_eq,bh]; exact hxl
 have hfe:∀ x M w',funcEnd code497 ⟨H,b,w⟩ (.ret,⟨[(2,.val x)],⟨M,b,w'⟩⟩)=some (dk ⟨H,b,w⟩ x ⟨M,b,w'⟩):=fun x M w'=>by simp [-dk,funcEnd,code497,resultsL,result1,sget,tupled]
 rcases hc with ⟨rfl,rfl,rfl⟩ | ⟨hne,rfl,rfl⟩
 ·refine OpsD.run (l:=[v 3 5]) (r:=[]) (s1:=[(3,.val (.slice none 0 (some 0))),(5,.val (.slice none 0 (some 0))),(4,.val (.func 507 [] [.ptr (some (q,0))])),(0,.val (.func 507 [] [.ptr (some (q,0))]))]) (h1:=⟨H,b,H.length⟩) (fun k'=>by simp (disch:=omega) []) (OpsD.done ?_);have h505:=fun w=>s505z (H:=H) (b:=b) (w:=w) (a:=none) (c:=some 0)
  refine CodeD.run hT hm (e:=.ret) (st':=⟨[(2,.val (.slice none 0 (some 0)))],⟨H,b,H.length⟩⟩) (fun k'=>by simp (disch:=omega) [h505]) ?_;rw [hfe,rv (aj _)];exact ⟨_,_,rfl,[],hp,.inl ⟨rfl,rfl,rfl⟩⟩
 ·have hg0:=ga H [strsO L];obtain ⟨L',nx,p1,p2,p3⟩:=s505 (H:=H++[strsO L]) (b:=b) (q:=H.length) (n:=L.length) (c:=none) hb (by simp) hLl rfl hg0;have hset:(H++[strsO L]).set H.length (strsO L')=H++[strsO L']:=set_k0 H [strsO L] (strsO L');rw [hset] at p3;refine OpsD.run (l:=[v 3 5]) (r:=[]) (s1:=[(3,.val (.slice (some (H.length,0)) L.length none)),(5,.val (.slice (some (H.length,0)) L.length none)),(4,.val (.func 507 [] [.ptr (some (q,0))])),(0,.val (.func 507 [] [.ptr (some (q,0))]))]) (h1:=⟨H++[strsO L],b,H.length⟩) (fun k'=>by simp (disch:=omega) []) (OpsD.done ?_);refine CodeD.run hT hm (e:=.ret) (st':=⟨[(2,.val (.slice (some (H.length,0)) L.length none))],⟨H++[strsO L'],b,nx H.length⟩⟩) (fun k'=>by simp (disch:=omega) [p3]) ?_;rw [hfe,qt (A:=L') (ga _ _) (aj _) (by have:=(p2 H.length).1; omega)];refine ⟨_,_,rfl,L',p1.trans hp,.inr ⟨fun e=>?_,by rw [p1.length_eq],rfl⟩⟩;rw [e] at p1
  exact hne (List.nil_perm.1 p1)
end
def KeysP (keys:List Bs) (H:List AObj) (b w:Nat) (v:AVal) (h':Heap):Prop:=∃ kept,kept.Perm keys ∧
 ((kept=[]∧v = .slice none 0 (some 0)∧h'=⟨H,b,w⟩)∨(∃ R,R.take kept.length=kept∧kept.length≤R.length∧v = .slice (some (H.length,0)) kept.length none∧h'=⟨H++[strsO R],b,w⟩))
variable {I:SI} {F:Fl} {K:StU}
section
attribute [-simp] getElem?_pos getElem?_neg List.all_eq_true
attribute [local simp] qZ qS nltT nltF iltT iltF ileT nleT el
theorem d480 (hC:CodesK E) (h:StA H I F K) (hx:IxOK K.ix K.clock) (hxl:K.ix.length≤12) (hb:b≤H.length) (p:Bs) (w:Nat) :
  CallD E 480 [.ptr (some (I.s,0)),.str p] ⟨H,b,w⟩ (KeysP ((K.ix.map (·.1)).filter (begP p)) H b w):=by
 have hT:=hC.t;have hm:=hC.m;have gs:=h.s;have gm:H[I.m]? = some (.map (K.ix.map entV) K.clock):=h.m;unfold StU.cells at gs;have gsl:=ah gs;have gml:=ah gm;refine CallD.of_code hC.a480 rfl ?_
 have hbody:code480.body = .seq (R [0,3] [o 3 (.box (t 1)),o 4 (.val (.const (.slice none 0 (some 0))))])
  (.seq (.seq (R [0,3,7] [v 6 0,o 7 (.eqnil .ptr false (t 6) (.const (.ptr none)))])
  (.after (.cond (t 7) (.seq (R [4] [o 4 (.val (.const (.slice none 0 (some 0))))])
  (.live [4] (.ret))) (.skip)) [0,3]))
  (.seq (R [3,5] [v 8 0,o 9 (.nilcheck (t 8)),o 10 (.faddr (t 9) 5),o 11 (.load none (t 10)),o 12 (.callg 496 [t 11]),o 13 (.callg 497 [t 12]),v 5 13])
  (.seq (R [4] [v 14 5,o 15 (.mkfunc 494 [] [t 3]),o 16 (.callg 495 [t 14,t 15]),v 4 16])
  (.live [4] (.ret))))):=rfl
 rw [hbody];have hen:enter 0 [AVal.ptr (some (I.s,0)),.str p]=[(0,.val (.ptr (some (I.s,0)))),(1,.val (.str p))]:=rfl;have hsz:(⟨H,b,w⟩:Heap).size=H.length:=rfl;rw [hen];simp only [hsz];refine CodeD.seq nofun (CodeD.run hT hm (e:=.normal) (st':=⟨[(0,.val (.ptr (some (I.s,0)))),(3,.val (.ptr (some (H.length,0))))],⟨H++[.cells 1 [.str p]],b,H.length⟩⟩) (fun k'=>by simp (disch:=omega) []) ?_);refine CodeD.seq nofun (CodeD.run hT hm (e:=.normal) (st':=⟨[(0,.val (.ptr (some (I.s,0)))),(3,.val (.ptr (some (H.length,0))))],⟨H++[.cells 1 [.str p]],b,H.length⟩⟩) (fun k'=>by simp (disch:=omega) []) ?_);have gs1:=(ag (l₂:=[AObj.cells 1 [.str p]]) gsl).trans gs;have h496:=fun w=>s496 (H:=H++[.cells 1 [.str p]]) (b:=b) (w:=w) (m:=I.m) (by rw [aq]; omega)
 simp only [aq,bt,ep,ed,az,d7,ff] at h496;have hg1:=kj H [AObj.cells 1 [.str p],.cells 1 [.map (some I.m)]] 1;have hg0:=ga H [AObj.cells 1 [.str p],.cells 1 [.map (some I.m)]];have gm2:(H++[AObj.cells 1 [.str p],.cells 1 [.map (some I.m)]])[I.m]? = _:=(ag gml).trans gm;have hMl:(H++[AObj.cells 1 [.str p],.cells 1 [.map (some I.m)]]).length=H.length+2:=by simp
 refine CodeD.seq nofun (CodeD.after (CodeD.regionX hT hm ?_));refine OpsD.run (l:=[v 8 0,o 9 (.nilcheck (t 8)),o 10 (.faddr (t 9) 5),o 11 (.load none (t 10)),o 12 (.callg 496 [t 11])]) (r:=[o 13 (.callg 497 [t 12]),v 5 13]) (s1:=[(12,.val (.func 507 [] [.ptr (some (H.length+1,0))])),(11,.val (.map (some I.m))),(10,.val (.ptr (some (I.s,5)))),(9,.val (.ptr (some (I.s,0)))),(8,.val (.ptr (some (I.s,0)))),(0,.val (.ptr (some (I.s,0)))),(3,.val (.ptr (some (H.length,0))))]) (h1:=⟨H++[.cells 1 [.str p],.cells 1 [.map (some I.m)]],b,H.length⟩) (fun k'=>by simp (disch:=omega) [gs1,h496]) ?_;refine OpsD.call (g:=497) (xs:=[t 12]) rfl rfl rfl (d497 hC hg1 gm2 hx hxl (by omega) H.length) fun vv hh hR'=>?_
 obtain ⟨L,hp,hc⟩:=hR';have hLl:L.length≤12:=by rw [hp.length_eq,bh]; exact hxl
 have hfe:∀ x M w',funcEnd code480 ⟨H,b,w⟩ (.ret,⟨[(4,.val x)],⟨M,b,w'⟩⟩)=some (dk ⟨H,b,w⟩ x ⟨M,b,w'⟩):=fun x M w'=>by simp [-dk,funcEnd,code480,resultsL,result1,sget,tupled]
 rcases hc with ⟨rfl,rfl,rfl⟩ | ⟨hne,rfl,rfl⟩
 ·refine OpsD.run (l:=[v 5 13]) (r:=[]) (s1:=[(5,.val (.slice none 0 (some 0))),(13,.val (.slice none 0 (some 0))),(12,.val (.func 507 [] [.ptr (some (H.length+1,0))])),(11,.val (.map (some I.m))),(10,.val (.ptr (some (I.s,5)))),(9,.val (.ptr (some (I.s,0)))),(8,.val (.ptr (some (I.s,0)))),(0,.val (.ptr (some (I.s,0)))),(3,.val (.ptr (some (H.length,0))))]) (h1:=⟨H++[.cells 1 [.str p],.cells 1 [.map (some I.m)]],b,H.length⟩) (fun k'=>by simp (disch:=omega) []) (OpsD.done ?_);have h495:=fun P f w=>s495z (H:=P) (b:=b) (w:=w) (c:=some 0) (f:=f)
  refine CodeD.run hT hm (e:=.ret) (st':=⟨[(4,.val (.slice none 0 (some 0)))],⟨H++[.cells 1 [.str p],.cells 1 [.map (some I.m)]],b,H.length⟩⟩) (fun k'=>by simp (disch:=omega) [h495]) ?_;rw [hfe,rv (aj _)];have hp2:=hp.filter (begP p);exact ⟨_,_,rfl,[],hp2,.inl ⟨rfl,rfl,rfl⟩⟩
 ·have hM3:((H++[AObj.cells 1 [.str p],.cells 1 [.map (some I.m)]])++[strsO L])[H.length+2]? = some (strsO L):=by rw [← hMl]; exact ga _ _
  have hM3l:((H++[AObj.cells 1 [.str p],.cells 1 [.map (some I.m)]])++[strsO L]).length=H.length+3:=by simp
  have hcp:∀ R,(((H++[AObj.cells 1 [.str p],.cells 1 [.map (some I.m)]])++[strsO L]).set (H.length+2) (strsO R))[H.length]? = some (.cells 1 [.str p]):=fun R=>by rw [av (by omega),ag (by omega)]; exact hg0
  rw [hMl];generalize (H++[AObj.cells 1 [.str p],.cells 1 [.map (some I.m)]])++[strsO L]=M at *;obtain ⟨R,mm,nx,e1,e2,e3,e4,e5⟩:=s495 (H:=M) (b:=b) (q:=H.length+2) (n:=L.length) (cb:=H.length) (p:=fun k=>!begP p k) (by omega) (by omega) rfl (by omega) hM3 (fun R x w=>s494k (hcp R))
  have hkp:L.filter (kp fun k=>!begP p k)=L.filter (begP p):=by congr 1;funext x;simp [kp]
  rw [hkp] at e3;have hml:(L.filter (begP p)).length=mm:=by rw [← e3,dh]; omega
  refine OpsD.run (l:=[v 5 13]) (r:=[]) (s1:=[(5,.val (.slice (some (H.length+2,0)) L.length none)),(13,.val (.slice (some (H.length+2,0)) L.length none)),(12,.val (.func 507 [] [.ptr (some (H.length+1,0))])),(11,.val (.map (some I.m))),(10,.val (.ptr (some (I.s,5)))),(9,.val (.ptr (some (I.s,0)))),(8,.val (.ptr (some (I.s,0)))),(0,.val (.ptr (some (I.s,0)))),(3,.val (.ptr (some (H.length,0))))]) (h1:=⟨M,b,H.length⟩) (fun k'=>by simp (disch:=omega) []) (OpsD.done ?_);have hnx:=(e4 H.length).1
  refine CodeD.run hT hm (e:=.ret) (st':=⟨[(4,.val (.slice (some (H.length+2,0)) mm none))],⟨M.set (H.length+2) (strsO R),b,nx H.length⟩⟩) (fun k'=>by
   have hHl:H.length < M.length:=by omega
   have hnx2:=(e4 H.length).2;simp (disch:=omega) [e5,hHl]) ?_
  rw [hfe,qt (A:=R) (eg (by omega)) (by omega) (by omega)];refine ⟨_,_,rfl,L.filter (begP p),hp.filter _,.inr ⟨R,by rw [hml]; exact e3,by omega,by rw [hml],rfl⟩⟩
end
end
end Go.Abs.AbsBlo

namespace Go.Abs.AbsNat
open Go.Abs.AbsBlb hiding T
open Go.Abs.AbsBlo (CodeD.run OpsD.run jk keyC jt begP s140k KeysP CodesK d480 qt rv)
open Go.Abs.Short
theorem zat (p k:Bs):begP p (p++k)=true:=by
 unfold begP;have h1:p.length≤(p++k).length:=by rw [aq]; omega
 have h2:(p++k).take p.length=p:=by rw [uy]; rfl
 rw [h2]; simp [h1]
section
variable {H P:List AObj} {b w:Nat}
section
attribute [-simp] getElem?_pos getElem?_neg List.all_eq_true
attribute [local simp] qZ qS nltT nltF iltT iltF ileT nleT el
theorem s498k {p k:Bs} (hk:k.length≤1000000) (hp:p.length≤1000000):xCall T 498 [.str (p++k),.str p] ⟨P,b,w⟩=some (.str k,⟨P,b,w⟩):=by
 have h:=fun w=>du sub (s140k (P:=P) (b:=b) (w:=w) (p:=p) (k:=p++k))
 rw [zat] at h;have h1:(p++k).drop p.length=k:=by rw [qd]; rfl
 have h2:(p++k).length=p.length+k.length:=aq;have h3:((p++k).drop p.length).take ((p++k).length - p.length)=k:=by rw [h1,h2,ew (by omega)]
 generalize p++k=q at *;simp (disch:=omega) [bc t498,code498,h,h1,h2,h3]
theorem s479k {p k:Bs} (hk:k.length≤1000000) (hp:p.length≤1000000):xCall T 479 [.str (p++k),.str p] ⟨P,b,w⟩=some (.str k,⟨P,b,w⟩):=by
 have h:=fun w=>s498k (P:=P) (b:=b) (w:=w) hk hp
 simp (disch:=omega) [bc t479,code479,h]
theorem l681 {H0:List AObj} {lo:Nat} {s:Bs} {R kept:List Bs} {q m:Nat} (hq:H0[q]? = some (AbsBlb.strsO R)) (hk:R.take m=kept) (hml:kept.length=m) (hm:m≤1000) (hn:∀ k ∈ kept,∃ n,k=keyB s n∧isName n=true) (hs:s.length≤1000) (hb:b≤H0.length) (hlo:lo≤H0.length):∀ (j i w:Nat) (P:List AObj) (A:List Bs) (x:AVal),i+j=m→A.length=i→Pre H0 P→FRow H0.length 1 keyC A P x→lo≤w →
  ∃ P' A' x' w',Pre H0 P'∧FRow H0.length 1 keyC (A++A') P' x'∧A'.length=j∧lo≤w'∧∀ {β:Type} (k:AExit→St→Option β),
   xK T (.loop code681L0) ⟨[(1,.val (.str s)),(5,.val x),(15,.val (.slice (some (q,0)) m none)),(16,.val (.int .i64 m)),(17,.val (.int .i64 i))],⟨P,b,w⟩⟩ (k:=⟨k⟩)=k (.exit 0) ⟨[(5,.val x')],⟨P',b,w'⟩⟩
 | 0,i,w,P,A,x,hi,hA,hp,hx,hw=>by
  refine ⟨P,[],x,w,hp,by rw [gq]; exact hx,rfl,hw,fun k=>?_⟩;rw [cd];have:¬ ((i:Int) < m):=by omega
  simp (disch:=omega) [code681L0,this]
 | j+1,i,w,P,A,x,hi,hA,hp,hx,hw=>by
  obtain ⟨k,hki⟩:∃ k,kept[i]? = some k:=⟨_,ai (by omega)⟩;obtain ⟨n,rfl,hnn⟩:=hn k (bn hki)
  have hRi:R[i]? = some (keyB s n):=by rw [← hk,fh,if_pos (by omega)] at hki; exact hki
  have gx:(R.map AVal.str)[i]? = some (.str (keyB s n)):=by rw [bk,hRi]; rfl
  have hPq:=hp _ _ hq;unfold AbsBlb.strsO at hPq;have hnl:=g9 hnn;have hpl:(preB s).length≤1003:=by unfold preB; simp only [aq,bt,ep]; omega
  obtain ⟨P2,x2,n2,f1,f2,f3,f4,f5⟩:=hx.add' (b:=b) (by':=16) (fun _=>rfl) hp.len hb (by omega) (by omega) n;have hpre2:Pre H0 P2:=fun k o ho=>f2 _ _ (hp _ _ ho) fun h=>by have:=ah ho; omega
  obtain ⟨P',A',x',w',i1,i2,i3,i4,i5⟩:=l681 hq hk hml hm hn hs hb hlo j (i+1) (n2 w) P2 _ x2 (by omega) (by rw [aq]; simp; omega) hpre2 f1 (by have:=(f4 w).2; omega);refine ⟨P',n :: A',x',w',i1,by rw [az] at i2; exact i2,by rw [bt,i3],i4,fun k=>?_⟩;have ih:=i5 k;have ei:((i+1:Nat):Int)=(i:Int)+1:=by omega
  rw [ei] at ih;rw [cd,← ih];have hil:(i:Int) < m:=by omega
  have h687:=fun w=>s687 (H:=P) (b:=b) (w:=w) (s:=s) (by omega)
  have h479:=fun w=>s479k (P:=P) (b:=b) (w:=w) (p:=preB s) (k:=n) (by omega) (by omega)
  have h520:=fun w=>s520 (H:=P) (b:=b) (w:=w) (s:=n) (by omega)
  rw [hnn] at h520;unfold keyB at gx;unfold keyC at f5;generalize R.map AVal.str=Y at *;generalize preB s=pp at *;generalize ACode.loop code681L0=LL;simp (disch:=omega) [code681L0,-ex,hil,hPq,gx,h687,h479,h520,f5]
end
structure CodesR (E:Env):Prop where
 c:Codes E
 k:CodesK E
 a681:IsCode E 681 code681
 a671:IsCode E 671 code671
variable {E:Env} {I:SI} {F:Fl} {K:StU}
def cntP (K:StU) (s:Bs):Nat:=((K.ix.map (·.1)).filter (begP (preB s))).length
section
attribute [-simp] getElem?_pos getElem?_neg List.all_eq_true
attribute [local simp] qZ qS nltT nltF iltT iltF ileT nleT el
theorem d681 (hC:CodesR E) (h:StA H I F K) (hx:IxOK K.ix K.clock) (hxl:K.ix.length≤12) (hb:b≤H.length) {s:Bs} (hs:isName s=true) (hkeys:∀ e ∈ K.ix,begP (preB s) e.1=true→∃ n,e.1=keyB s n∧isName n=true) (w:Nat) :
  CallD E 681 [.ptr (some (I.s,0)),.str s] ⟨H,b,w⟩ fun v h'=>∃ L:List Bs,L.length=cntP K s∧((L=[]∧v = .slice none 0 (some 0)∧h'=⟨H,b,w⟩)∨(L≠[]∧v = .slice (some (H.length,0)) L.length none∧h'=⟨H++[AbsBlb.strsO L],b,w⟩)):=by
 have hT:=hC.c.t;have hm:=hC.c.m;have hsl:=g9 hs;refine CallD.of_code hC.a681 rfl ?_
 have hbody:code681.body = .seq (R [0,1] [o 4 (.val (.const (.slice none 0 (some 0))))])
  (.seq (.seq (R [0,1,11] [v 9 1,o 10 (.callg 520 [t 9]),o 11 (.un .not (t 10))])
  (.after (.cond (t 11) (.seq (R [4] [o 4 (.val (.const (.slice none 0 (some 0))))])
  (.live [4] (.ret))) (.skip)) [0,1]))
  (.seq (R [0,1,5] [o 5 (.val (.const (.slice none 0 (some 0))))])
  (.seq (.seq (R [1,5,15,16,17] [v 12 0,v 13 1,o 14 (.callg 687 [t 13]),o 15 (.callg 480 [t 12,t 14]),o 16 (.len .sl (t 15)),o 17 (.val (n 0))])
  (.after (.block 0 (.loop code681L0)) [5]))
  (.seq (R [4] [v 32 5,v 4 32])
  (.live [4] (.ret)))))):=rfl
 rw [hbody];have hen:enter 0 [AVal.ptr (some (I.s,0)),.str s]=[(0,.val (.ptr (some (I.s,0)))),(1,.val (.str s))]:=rfl;have hsz:(⟨H,b,w⟩:Heap).size=H.length:=rfl;rw [hen];simp only [hsz];have h520:=fun w=>s520 (H:=H) (b:=b) (w:=w) (s:=s) (by omega)
 rw [hs] at h520;have h687:=fun w=>s687 (H:=H) (b:=b) (w:=w) (s:=s) (by omega)
 refine CodeD.seq nofun (CodeD.run hT hm (e:=.normal) (st':=⟨[(0,.val (.ptr (some (I.s,0)))),(1,.val (.str s))],⟨H,b,H.length⟩⟩) (fun k'=>by simp (disch:=omega) []) ?_);refine CodeD.seq nofun (CodeD.run hT hm (e:=.normal) (st':=⟨[(0,.val (.ptr (some (I.s,0)))),(1,.val (.str s))],⟨H,b,H.length⟩⟩) (fun k'=>by simp (disch:=omega) [h520]) ?_);refine CodeD.seq nofun (CodeD.run hT hm (e:=.normal) (st':=⟨[(0,.val (.ptr (some (I.s,0)))),(1,.val (.str s)),(5,.val (.slice none 0 (some 0)))],⟨H,b,H.length⟩⟩) (fun k'=>by simp (disch:=omega) []) ?_);refine CodeD.seq nofun (CodeD.seq nofun (CodeD.after (CodeD.regionX hT hm ?_)))
 refine OpsD.run (l:=[v 12 0,v 13 1,o 14 (.callg 687 [t 13])]) (r:=[o 15 (.callg 480 [t 12,t 14]),o 16 (.len .sl (t 15)),o 17 (.val (n 0))]) (s1:=[(14,.val (.str (preB s))),(13,.val (.str s)),(12,.val (.ptr (some (I.s,0)))),(0,.val (.ptr (some (I.s,0)))),(1,.val (.str s)),(5,.val (.slice none 0 (some 0)))]) (h1:=⟨H,b,H.length⟩) (fun k'=>by simp (disch:=omega) [h687]) ?_;refine OpsD.call (g:=480) (xs:=[t 12,t 14]) rfl rfl rfl (d480 hC.k h hx hxl hb (preB s) H.length) fun vv hh hR'=>?_
 obtain ⟨kept,hp,hc⟩:=hR';have hcl:kept.length=cntP K s:=hp.length_eq
 have hfe:∀ x M w',funcEnd code681 ⟨H,b,w⟩ (.ret,⟨[(4,.val x)],⟨M,b,w'⟩⟩)=some (dk ⟨H,b,w⟩ x ⟨M,b,w'⟩):=fun x M w'=>by simp [-dk,funcEnd,code681,resultsL,result1,sget,tupled]
 have hkm:∀ k ∈ kept,∃ n,k=keyB s n∧isName n=true:=fun k hk=>by have h1:=gi.1 (hp.mem_iff.1 hk);obtain ⟨e,he,rfl⟩:=cq.1 h1.1;exact hkeys e he h1.2
 have hkl:kept.length≤12:=by rw [hcl];unfold cntP;have:=List.length_filter_le (begP (preB s)) (K.ix.map (·.1));rw [bh] at this;omega
 rcases hc with ⟨rfl,rfl,rfl⟩ | ⟨R,hR1,hR2,rfl,rfl⟩
 ·refine OpsD.run (l:=[o 16 (.len .sl (t 15)),o 17 (.val (n 0))]) (r:=[]) (s1:=[(17,.val (.int .i64 0)),(16,.val (.int .i64 0)),(15,.val (.slice none 0 (some 0))),(14,.val (.str (preB s))),(13,.val (.str s)),(12,.val (.ptr (some (I.s,0)))),(0,.val (.ptr (some (I.s,0)))),(1,.val (.str s)),(5,.val (.slice none 0 (some 0)))]) (h1:=⟨H,b,H.length⟩) (fun k'=>by simp (disch:=omega) []) (OpsD.done ?_);refine CodeD.run hT hm (e:=.normal) (st':=⟨[(5,.val (.slice none 0 (some 0)))],⟨H,b,H.length⟩⟩) (fun k'=>by simp (disch:=omega) [cd,code681L0]) ?_;refine CodeD.run hT hm (e:=.ret) (st':=⟨[(4,.val (.slice none 0 (some 0)))],⟨H,b,H.length⟩⟩) (fun k'=>by simp (disch:=omega) []) ?_;rw [hfe,rv (aj _)];exact ⟨_,_,rfl,[],hcl,.inl ⟨rfl,rfl,rfl⟩⟩
 ·have hl1:(H++[AbsBlb.strsO R]).length=H.length+1:=by simp
  obtain ⟨P',A',x',w',i1,i2,i3,i4,i5⟩:=l681 (b:=b) (H0:=H++[AbsBlb.strsO R]) (lo:=H.length) (s:=s) (R:=R) (kept:=kept) (q:=H.length) (m:=kept.length) (ga _ _) hR1 rfl (by omega) hkm (by omega) (by omega) (by omega) kept.length 0 H.length (H++[AbsBlb.strsO R]) [] (.slice none 0 (some 0)) (by omega) rfl (fun _ _ h=>h) (.inl ⟨rfl,rfl⟩) (aj _);rw [ff] at i2;simp only [ba] at i5;refine OpsD.run (l:=[o 16 (.len .sl (t 15)),o 17 (.val (n 0))]) (r:=[]) (s1:=[(17,.val (.int .i64 0)),(16,.val (.int .i64 kept.length)),(15,.val (.slice (some (H.length,0)) kept.length none)),(14,.val (.str (preB s))),(13,.val (.str s)),(12,.val (.ptr (some (I.s,0)))),(0,.val (.ptr (some (I.s,0)))),(1,.val (.str s)),(5,.val (.slice none 0 (some 0)))]) (h1:=⟨H++[AbsBlb.strsO R],b,H.length⟩) (fun k'=>by simp (disch:=omega) []) (OpsD.done ?_)
  refine CodeD.run hT hm (e:=.normal) (st':=⟨[(5,.val x')],⟨P',b,w'⟩⟩) (fun k'=>by
   have i5:=fun (k:AExit→St→Option Unit)=>i5 k
   simp (disch:=omega) [i5]) ?_
  have hx2:∃ a n c,x' = .slice a n c:=by
   rcases i2 with ⟨-,h⟩ | ⟨-,q,-,h,-⟩
   ·exact ⟨_,_,_,h⟩
   ·exact ⟨_,_,_,h⟩
  obtain ⟨xa,xn,xc,rfl⟩:=hx2;refine CodeD.run hT hm (e:=.ret) (st':=⟨[(4,.val (.slice xa xn xc))],⟨P',b,w'⟩⟩) (fun k'=>by simp (disch:=omega) []) ?_;rw [hfe];rcases i2 with ⟨rfl,h⟩ | ⟨hne,q',hq',h,hrow⟩
  ·rw [h,rv i4];exact ⟨_,_,rfl,[],by rw [i3,hcl],.inl ⟨rfl,rfl,rfl⟩⟩
  ·rw [h,qt (A:=A') (q:=q') (by unfold AbsBlb.strsO; rw [← jt]; exact hrow) (by omega) i4];exact ⟨_,_,rfl,A',by rw [i3,hcl],.inr ⟨hne,rfl,rfl⟩⟩
end
end
end Go.Abs.AbsNat

namespace Go.Abs.AbsNat
open Go.Abs.AbsBlb hiding T
open Go.Abs.AbsBlo (CodeD.run OpsD.run jk begP)
open Go.Abs.Short
section
variable {E:Env} {kl:List Bs} {H:List AObj} {b:Nat} {I:SI} {F:Fl} {K:StU}
def MadeQ (kl:List Bs) (H:List AObj) (I:SI) (F:Fl) (K:StU) (key:Bs) (b w:Nat) (full:Prop) (v:AVal) (h':Heap):Prop :=
 (full∧v = .tuple [.agg [.int .u32 0,.int .u32 0,.slice none 0 (some 0)],.int .i64 9]∧h'=⟨H,b,w⟩) ∨
 (¬ full∧v = .tuple [.agg [.int .u32 1,.int .u32 0,.slice none 0 (some 0)],.int .i64 0]∧∃ H' F' K' w',h'=⟨H',b,w'⟩∧StF I H H'∧SO kl H' I F' K'∧FlE F F'∧min w b≤w'∧w'≤I.hi∧StepN F K (32+key.length+10) K'∧K'.head ≠ -1∧PutIx K K' key newR.bytes)
section
attribute [-simp] getElem?_pos getElem?_neg List.all_eq_true
attribute [local simp] qZ qS nltT nltF iltT iltF ileT nleT el
theorem d671 (hC:CodesR E) (h:SO kl H I F K) (hkl:∀ k ∈ kl,1≤k.length∧k.length≤64) (hxl:K.ix.length≤12) (hb:I.lo b) (hbN:b≤H.length) (hFn:0 < F.n) {s k:Bs} (hs:isName s=true) (hk:isName k=true) (hkey:¬ 8≤cntP K s→keyB s k ∈ kl) (hf:findK (keyB s k) K.ix=none)
  (hkeys:∀ e ∈ K.ix,begP (preB s) e.1=true→∃ n,e.1=keyB s n∧isName n=true) (hn2:32+(keyB s k).length+10≤(F.z - 12) / 2) (hG:AbsBlo.Good F K (32+(keyB s k).length+10)) (w:Nat) :
  CallD E 671 [.ptr (some (I.s,0)),.str s,.str k,.bool true] ⟨H,b,w⟩ (MadeQ kl H I F K (keyB s k) b w (8≤cntP K s)):=by
 have hT:=hC.c.t;have hm:=hC.c.m;have hIhi:=h.a.hi;have ls:=g9 hs;have lk:=g9 hk;refine CallD.of_code hC.a671 rfl ?_;rw [body671];have hen:enter 0 [AVal.ptr (some (I.s,0)),.str s,.str k,.bool true]=[(0,.val (.ptr (some (I.s,0)))),(1,.val (.str s)),(2,.val (.str k)),(3,.val (.bool true))]:=rfl;have hsz:(⟨H,b,w⟩:Heap).size=H.length:=rfl;rw [hen];simp only [hsz];have h675:=fun w=>s675n (b:=b) (w:=w) h.a hs hk hf
 refine CodeD.seq nofun (CodeD.run hT hm (e:=.normal) (st':=⟨[(0,.val (.ptr (some (I.s,0)))),(1,.val (.str s)),(2,.val (.str k)),(3,.val (.bool true)),(8,.var [.int .u32 0,.int .u32 0,.slice none 0 (some 0)])],⟨H,b,H.length⟩⟩) (fun k'=>by simp (disch:=omega) []) ?_);refine CodeD.seq nofun (CodeD.run hT hm (e:=.normal) (st':=⟨[(0,.val (.ptr (some (I.s,0)))),(1,.val (.str s)),(2,.val (.str k)),(3,.val (.bool true)),(8,.var [.int .u32 0,.int .u32 0,.slice none 0 (some 0)]),(10,.var [.int .u32 0,.int .u32 0,.slice none 0 (some 0)]),(11,.val (.int .i64 11))],⟨H,b,H.length⟩⟩) (fun k'=>by simp (disch:=omega) [h675]) ?_)
 refine CodeD.seq nofun (CodeD.run hT hm (e:=.normal) (st':=⟨[(0,.val (.ptr (some (I.s,0)))),(1,.val (.str s)),(2,.val (.str k)),(8,.var [.int .u32 0,.int .u32 0,.slice none 0 (some 0)]),(10,.var [.int .u32 0,.int .u32 0,.slice none 0 (some 0)])],⟨H,b,H.length⟩⟩) (fun k'=>by simp (disch:=omega) []) ?_);refine CodeD.seq nofun (CodeD.seq nofun (CodeD.after (CodeD.regionX hT hm ?_)));refine OpsD.run (l:=[v 28 0,v 29 1]) (r:=[o 30 (.callg 681 [t 28,t 29]),o 31 (.len .sl (t 30)),o 32 (.bin .geq (t 31) (n 8))]) (s1:=[(29,.val (.str s)),(28,.val (.ptr (some (I.s,0)))),(0,.val (.ptr (some (I.s,0)))),(1,.val (.str s)),(2,.val (.str k)),(8,.var [.int .u32 0,.int .u32 0,.slice none 0 (some 0)]),(10,.var [.int .u32 0,.int .u32 0,.slice none 0 (some 0)])]) (h1:=⟨H,b,H.length⟩) (fun k'=>by simp (disch:=omega) []) ?_
 refine OpsD.call (g:=681) (xs:=[t 28,t 29]) rfl rfl rfl (d681 hC h.a h.v.ix hxl hbN hs hkeys H.length) fun vv hh hR'=>?_
 obtain ⟨L,hLn,hc⟩:=hR'
 obtain ⟨a,c,M,rfl,rfl,hM⟩:∃ a c M,vv = .slice a L.length c∧hh=⟨M,b,H.length⟩∧∃ X,M=H++X:=by
  rcases hc with ⟨rfl,rfl,rfl⟩ | ⟨-,rfl,rfl⟩
  ·exact ⟨_,_,_,rfl,rfl,[],by simp⟩
  ·exact ⟨_,_,_,rfl,rfl,_,rfl⟩
 obtain ⟨X,rfl⟩:=hM
 refine OpsD.run (l:=[o 31 (.len .sl (t 30)),o 32 (.bin .geq (t 31) (n 8))]) (r:=[]) (s1:=[(32,.val (.bool (decide (8≤cntP K s)))),(31,.val (.int .i64 L.length)),(30,.val (.slice a L.length c)),(29,.val (.str s)),(28,.val (.ptr (some (I.s,0)))),(0,.val (.ptr (some (I.s,0)))),(1,.val (.str s)),(2,.val (.str k)),(8,.var [.int .u32 0,.int .u32 0,.slice none 0 (some 0)]),(10,.var [.int .u32 0,.int .u32 0,.slice none 0 (some 0)])]) (h1:=⟨H++X,b,H.length⟩) (fun k'=>by
  by_cases h8:8≤cntP K s
  ·have h9:(8:Int)≤L.length:=by omega
   simp (disch:=omega) [h8,h9]
  ·have h9:¬ (8:Int)≤L.length:=by omega
   simp (disch:=omega) [h8,h9]) (OpsD.done ?_)
 simp only [];have hk0:keepK [0,1,2,8,10,32] [(32,Slot.val (.bool (decide (8≤cntP K s)))),(31,.val (.int .i64 L.length)),(30,.val (.slice a L.length c)),(29,.val (.str s)),(28,.val (.ptr (some (I.s,0)))),(0,.val (.ptr (some (I.s,0)))),(1,.val (.str s)),(2,.val (.str k)),(8,.var [.int .u32 0,.int .u32 0,.slice none 0 (some 0)]),(10,.var [.int .u32 0,.int .u32 0,.slice none 0 (some 0)])]=[(0,.val (.ptr (some (I.s,0)))),(1,.val (.str s)),(2,.val (.str k)),(8,.var [.int .u32 0,.int .u32 0,.slice none 0 (some 0)]),(10,.var [.int .u32 0,.int .u32 0,.slice none 0 (some 0)]),(32,.val (.bool (decide (8≤cntP K s))))]:=by simp
 rw [hk0];by_cases h8:8≤cntP K s
 ·rw [decide_eq_true h8];refine CodeD.run hT hm (e:=.ret) (st':=⟨[(8,.var [.int .u32 0,.int .u32 0,.slice none 0 (some 0)]),(9,.val (.int .i64 9))],⟨H++X,b,H.length⟩⟩) (fun k'=>by simp (disch:=omega) []) ?_;refine ⟨_,_,fe671,.inl ⟨h8,rfl,?_⟩⟩;rw [if_neg (Nat.lt_irrefl _)]
 ·rw [decide_eq_false h8];refine CodeD.run hT hm (e:=.normal) (st':=⟨[(0,.val (.ptr (some (I.s,0)))),(1,.val (.str s)),(2,.val (.str k)),(8,.var [.int .u32 0,.int .u32 0,.slice none 0 (some 0)]),(10,.var [.int .u32 0,.int .u32 0,.slice none 0 (some 0)])],⟨H++X,b,H.length⟩⟩) (fun k'=>by simp (disch:=omega) []) ?_;refine CodeD.seq nofun (CodeD.run hT hm (e:=.normal) (st':=⟨[(0,.val (.ptr (some (I.s,0)))),(1,.val (.str s)),(2,.val (.str k)),(8,.var [.int .u32 0,.int .u32 0,.slice none 0 (some 0)]),(10,.var [.int .u32 1,.int .u32 0,.slice none 0 (some 0)])],⟨H++X,b,H.length⟩⟩) (fun k'=>by simp (disch:=omega) []) ?_);have hSX:=jk h X;have hlX:(H++X).length=H.length+X.length:=aq
  obtain ⟨H',F',K',nx,c1,c2,c3,c4,c5,c6,c7,c9⟩:=p680 (r:=newR) (L:=[]) (a:=none) (c:=some 0) hSX hkl hb (by omega) hFn (s:=s) (k:=k) (by omega) (by omega) (hkey h8) we rfl ⟨fun h=>absurd rfl h⟩ (fun p hp=>by cases hp) (fun p o e=>by cases e) (by rw [pv]; decide) (by rw [pv]; exact hn2) (by rw [pv]; exact hG);have hnv:newR.val (.slice none 0 (some 0)) = .agg [.int .u32 1,.int .u32 0,.slice none 0 (some 0)]:=rfl;rw [ep,hnv] at c9;have hn:=c4 H.length;refine CodeD.run hT hm (e:=.ret) (st':=⟨[(8,.var [.int .u32 1,.int .u32 0,.slice none 0 (some 0)]),(9,.val (.int .i64 0))],⟨H',b,nx H.length⟩⟩) (fun k'=>by simp (disch:=omega) [e671,f671,c9]) ?_;refine ⟨_,_,fe671,.inr ⟨h8,rfl,?_⟩⟩;rw [if_pos (by omega)];exact ⟨H',F',K',min w (nx H.length),rfl,(StF.refl.app X).trans c1,c2,c3,by omega,by omega,by rw [pv] at c5; exact c5,c6,c7⟩
end
end
end Go.Abs.AbsNat

namespace Go.Abs.AbsNat
open Go.Abs.AbsBlb hiding T
open Go.Abs.AbsBlo (GoodC Fits Kept CommitQ jk CodeD.run OpsD.run s480z)
open Go.Abs.Short
def wOf (x:AVal) (w:Nat):Nat:=match x with | .slice (some (i,_)) _ _=>min w i | _=>w
theorem add_len {α:Type} {N e b:Nat} {f:α→List AVal} {A:List α} {P:List AObj} {x:AVal} (h:FRow N e f A P x) (hf:∀ y,(f y).length=e) (hb:b≤N) {by':Nat} (hl:(A.length+1)*by'≤140737488355328) (hl2:A.length≤1000000000) (y:α) :
  ∃ P',P'.length=P.length+2∧∀ w,ex e by' ⟨P++[.cells e (f y)],b,w⟩ x (.slice (some (P.length,0)) 1 (some 1))=some (.slice (some (P.length+1,0)) (A.length+1) none,⟨P',b,wOf x w⟩):=by
 have hz:∀ w,iw e ⟨P++[.cells e (f y)],b,w⟩ (.slice (some (P.length,0)) 1 (some 1))=some (f y):=fun w =>
  uv (by show (P++[AObj.cells e (f y)])[P.length]? = _; rw [ga]; rfl) (by rw [hf,Nat.one_mul])
 rcases h with ⟨rfl,rfl⟩ | ⟨h1,i,h2,rfl,h4⟩
 ·refine ⟨P++[.cells e (f y),.cells e (f y)],by simp,fun w=>?_⟩;unfold ex;simp only [hz,xh,aApp,alen];have q1:¬ (1:Nat)=0:=by decide
  have q2:(0+1)*by'≤140737488355328∧0+1≤9223372036854775807:=⟨by simpa using hl,by decide⟩
  simp only [eq_false q1,eq_true q2,if_false,if_true];simp [Heap.push,Heap.size,wOf]
 ·have hi:=ah h4;have h5:(P++[AObj.cells e (f y)])[i]? = some (.cells e (A.flatMap f)):=by rw [ag hi]; exact h4
  have hfl:(A.flatMap f).length=A.length*e:=zbg f e hf A;have hz1:∀ w,iw e ⟨P++[.cells e (f y)],b,w⟩ (.slice (some (i,0)) A.length none)=some (A.flatMap f):=fun w=>uv h5 hfl
  have hr:∀ w,rowIs ⟨P++[.cells e (f y)],b,w⟩ i e=true:=fun w=>by unfold rowIs Heap.get;simp only [h5];simp
  refine ⟨P.set i .dead++[.cells e (f y),.cells e (A.flatMap f++f y)],by simp,fun w=>?_⟩;unfold ex;simp only [hz,hz1,aApp,alen];have q1:¬ (1:Nat)=0:=by decide
  have q2:(A.length+1)*by'≤140737488355328∧A.length+1≤9223372036854775807:=⟨hl,by omega⟩
  have q3:¬ (none:Option Nat)=some A.length:=by simp
  have q4:(⟨P++[AObj.cells e (f y)],b,w⟩:Heap).base≤i∧rowIs ⟨P++[AObj.cells e (f y)],b,w⟩ i e=true:=⟨by show b≤i; omega,hr w⟩;simp only [eq_false q1,eq_true q2,eq_false q3,eq_true q4,if_false,if_true];have hs:(P++[AObj.cells e (f y)]).length=P.length+1:=by simp
  simp only [Heap.push,Heap.put,Heap.size,oq _ _ hi,bf,hs,az,d7,ff,wOf]
section
variable {M:List AObj} {b:Nat}
section
attribute [-simp] getElem?_pos getElem?_neg List.all_eq_true
attribute [local simp] qZ qS nltT nltF iltT iltF ileT nleT el
theorem p672 {N ro db ib next ver:Nat} {A:List EV} {x dv:AVal} {data:Bs} (hr:M[ro]? = some (.cells 3 [.int .u32 next,.int .u32 ver,x])) (hd:M[db]? = some (.cells 1 [dv])) (hi:M[ib]? = some (.cells 1 [.int .u32 0])) (hx:FRow N 2 EV.cells A M x) (hN:ib < N∧db < N∧N≤ro) (hb:b≤ib) (hdv:BlobV M dv data) (hdl:data.length≤512) (hA:A.length < 64) (hAo:∀ p ∈ A,EV.ok M p) (hn:next < 4294967295) :
  ∃ M' x',∃ nx:Nat→Nat,M'[ib]? = some (.cells 1 [.int .u32 next])∧M'[ro]? = some (.cells 3 [.int .u32 (next+1:Nat),.int .u32 ver,x'])∧FRow N 2 EV.cells (A++[(⟨next,data⟩,dv)]) M' x'∧M.length≤M'.length∧(∀ (k:Nat) (o:AObj),k≠ib→k≠ro→M[k]? = some o→(N≤k→∀ cs,o ≠ .cells 2 cs)→M'[k]? = some o)∧(∀ w,nx w≤ib∧min w ib≤nx w) ∧
   ∀ w,xCall T 672 [.ptr (some (ro,0)),.ptr (some (db,0)),.ptr (some (ib,0))] ⟨M,b,w⟩=some (.int .i64 0,⟨M',b,nx w⟩):=by
 have hrl:=ah hr;have hil:=ah hi;obtain ⟨da,dc,rfl,did,-⟩:=id hdv;have s1:∀ (k:Nat) (o:AObj),k≠ib→M[k]? = some o→(M.set ib (.cells 1 [.int .u32 next]))[k]? = some o:=fun k o hk ho=>by rw [av (fun e=>hk e.symm)]; exact ho
 have hi1:=jr hi (y:=.cells 1 [.int .u32 next]);have hr1:=s1 _ _ (by omega) hr;have hdi:db≠ib:=fun e=>by rw [e,hi] at hd; cases hd
 have hd1:=s1 _ _ hdi hd;have fr1:=hx.mono fun k o hk ho=>s1 k o (by omega) ho
 have hl1:(M.set ib (.cells 1 [.int .u32 next])).length=M.length:=bf;obtain ⟨a0,c0,rfl,-,ha0⟩:=FRow.row (f:=EV.cells) (fun _=>rfl) hx;generalize hM1:M.set ib (.cells 1 [.int .u32 next])=M1 at *;obtain ⟨M2,x2,n2,f1,f2,f3,f4,f5⟩:=fr1.add' (b:=b) (by':=32) (fun _=>rfl) (by omega) (by omega) (by omega) (by omega) (⟨next,data⟩,.slice da data.length dc);have hr2:=f2 _ _ hr1 fun _ cs e=>by simp at e
 have hi2:=f2 _ _ hi1 fun h=>by omega
 obtain ⟨P2,hP2,eP2⟩:=add_len (b:=b) (by':=32) fr1 (fun _=>rfl) (by omega) (by omega) (by omega) ((⟨next,data⟩:EnU),AVal.slice da data.length dc)
 have hn2:∀ w,x2 = .slice (some (M1.length+1,0)) (A.length+1) none∧M2=P2∧n2 w=wOf (.slice a0 A.length c0) w:=fun w=>by have:=eP2 w;rw [f5] at this;simp only [eu,jn,Heap.mk.injEq] at this;exact ⟨this.1,this.2.1,this.2.2.2⟩
 obtain ⟨rfl,rfl,-⟩:=hn2 0;have hn2:=fun w=>(hn2 w).2.2
 rw [hl1] at hP2 f1 f5
 have hrow:M2[M.length+1]? = some (.cells 2 ((A++[((⟨next,data⟩:EnU),AVal.slice da data.length dc)]).flatMap EV.cells)):=by
  rcases f1 with ⟨h,-⟩ | ⟨-,q5,-,h,h5⟩
  ·simp at h
  ·simp only [AVal.slice.injEq,eu,jn] at h;rw [h.1.1]; exact h5
 have hr3:=jr hr2 (y:=.cells 3 [.int .u32 next,.int .u32 ver,.slice (some (M.length+1,0)) (A.length+1) none]);have hset:∀ y z,(M2.set ro y).set ro z=M2.set ro z:=fun y z=>List.set_set ..
 refine ⟨M2.set ro (.cells 3 [.int .u32 (next+1:Nat),.int .u32 ver,.slice (some (M.length+1,0)) (A.length+1) none]),.slice (some (M.length+1,0)) (A.length+1) none,fun w=>min w (n2 ib),?_,jr hr2,?_,?_,?_,fun w=>?_,fun w=>?_⟩
 ·rw [av (by omega)]; exact hi2
 ·rcases f1 with ⟨h,-⟩ | ⟨h0,q5,h1,h2,h3⟩
  ·simp at h
  ·refine .inr ⟨h0,q5,h1,h2,?_⟩;rw [av (fun e=>by rw [← e,hr2] at h3; simp at h3)]; exact h3
 ·rw [bf]; omega
 ·intro k o h1 h2 h3 h4;rw [av (fun e=>h2 e.symm)];exact f2 _ _ (s1 _ _ h1 h3) h4
 ·have:=f4 ib;show min w (n2 ib)≤ib∧min w ib≤min w (n2 ib);omega
 ·have hw:=f4 ib;have d1:¬ ((512:Int) < data.length):=by omega
  have d2:¬ ((64:Int)≤A.length):=by omega
  have d3:¬ (next=4294967295):=by omega
  have d4:¬ ((next:Int)=4294967295):=by omega
  have wn:IntKind.u32.wrap ((next:Int)+1)=(next:Int)+1:=by unfold IntKind.wrap;show (if (false && _)=true then _ else (_ % 2 ^ 32))=_;simp; omega
  have e1:((next+1:Nat):Int)=(next:Int)+1:=by omega
  unfold EV.cells at f5;simp only at f5;have hg5:∀ y,(M1++[y])[M.length]? = some y:=fun y=>by rw [← hl1]; exact ga _ _
  have hids:∀ m ds,(AVal.idsL ((A++[((⟨next,data⟩:EnU),AVal.slice da data.length dc)]).flatMap EV.cells)).all (okId M.length m ds)=true:=fun m ds=>by
   rw [au];intro i hi
   have:i < M.length:=by
    rw [qr,dz] at hi;obtain ⟨v,hv,hi⟩:=hi;obtain ⟨p,hp,hv⟩:=dz.1 hv
    have key:∀ v l,BlobV M v l→∀ i ∈ v.ids,i < M.length:=fun v l hv i hi=>by
     obtain ⟨a,c,rfl,h,-⟩:=hv;cases a with
     | none=>simp [AVal.ids] at hi
     | some q=>simp [AVal.ids] at hi; rw [hi]; exact h q.1 q.2 rfl
    have hv:v = .int .u32 p.1.id∨v=p.2:=by unfold EV.cells at hv;simpa using hv
    rcases hv with rfl | rfl
    ·simp [AVal.ids] at hi
    ·rcases bw.1 hp with hp | hp
     ·exact key _ _ (hAo p hp) i hi
     ·rw [bq.1 hp] at hi;exact key _ _ hdv i hi
   unfold okId;simp [this]
  generalize (A++[((⟨next,data⟩:EnU),AVal.slice da data.length dc)]).flatMap EV.cells=Y at *;generalize data.length=dl at *;rw [e1];rcases a0 with _ | ⟨ap,ao⟩
  ·rcases da with _ | ⟨dp,dq⟩
   ·simp (disch:=omega) [bc t672,code672,-ex,-fj,jf,jg,gu,bz,hr,hd,hi,hr1,hd1,hi1,hl1,hr2,hr3,hset,f5,d1,d2,d3,d4,wn,hg5,hM1,hP2,hrow,hids,hn2,wOf]
   ·have hdp:=did dp dq rfl;simp (disch:=omega) [bc t672,code672,-ex,-fj,jf,jg,gu,bz,hr,hd,hi,hr1,hd1,hi1,hl1,hr2,hr3,hset,f5,d1,d2,d3,d4,wn,hg5,hM1,hP2,hrow,hids,hn2,wOf,hdp]
  ·have hap:=(ha0 ap ao rfl).2;have hapn:¬ ap=M.length+1:=by omega
   have hapi:=(ha0 ap ao rfl).1
   have hapr:¬ ap=ro:=fun e=>by
    rcases hx with ⟨-,e2⟩ | ⟨-,q,-,e2,e3⟩
    ·cases e2
    ·simp only [AVal.slice.injEq,eu,jn] at e2;rw [← e2.1.1,e,hr] at e3; simp at e3
   rcases da with _ | ⟨dp,dq⟩
   ·simp (disch:=omega) [bc t672,code672,-ex,-fj,jf,jg,gu,bz,hr,hd,hi,hr1,hd1,hi1,hl1,hr2,hr3,hset,f5,d1,d2,d3,d4,wn,hg5,hM1,hP2,hrow,hids,hn2,wOf,hap,hapn,hapr]
   ·have hdp:=did dp dq rfl;simp (disch:=omega) [bc t672,code672,-ex,-fj,jf,jg,gu,bz,hr,hd,hi,hr1,hd1,hi1,hl1,hr2,hr3,hset,f5,d1,d2,d3,d4,wn,hg5,hM1,hP2,hrow,hids,hn2,wOf,hap,hapn,hapr,hdp]
end
end
end Go.Abs.AbsNat

namespace Go.Abs.AbsNat
open Go.Abs.AbsBlb hiding T
open Go.Abs.AbsBlo (GoodC Fits Kept CommitQ jk CodeD.run OpsD.run s480z)
open Go.Abs.Short
def addR (r:RecsU) (data:Bs):RecsU:=⟨r.next+1,r.ver+1,r.list++[⟨r.next,data⟩]⟩
theorem zbp {next:Nat} {data:Bs} (hd:data.length≤512):∀ {L:List EnU} {before:Nat},before < next→rightL next before L=true→rightL (next+1) before (L++[⟨next,data⟩])=true
 | [],before,hb,_=>by
  show (decide (before < next) && decide (next < next+1) && decide (data.length≤512) && true)=true
  simp [hb,hd]
 | e :: L,before,hb,h=>by unfold rightL at h;simp only [a7,decide_eq_true_eq] at h;have ih:=zbp hd (before:=e.id) h.1.1.2 h.2;rw [d7];unfold rightL;simp only [a7,decide_eq_true_eq];exact ⟨⟨⟨h.1.1.1,by have:=h.1.1.2; omega⟩,h.1.2⟩,ih⟩
theorem addR_ok {r:RecsU} {data:Bs} (h:r.ok) (hd:data.length≤512) (hl:r.list.length < 64) (hn:r.next < 4294967295) (hv:r.ver < 4294967295):(addR r data).ok:=by have hr:=h.rr;unfold rightR at hr;simp only [a7,decide_eq_true_eq] at hr;refine ⟨?_,by show r.next+1 < _; omega,by show r.ver+1 < _; omega⟩;unfold rightR addR;simp only [a7,decide_eq_true_eq,aq,bt,ep];exact ⟨zbp hd hr.2.2 hr.1,by omega,by omega⟩
def g673:ACode:=.seq (R [8] [v 34 0,v 35 1,v 36 2,o 37 (.load (some 3) (t 9)),o 38 (.callg 680 [t 34,t 35,t 36,t 37]),v 8 38])
 (.live [8] (.ret))
def d673:ACode:=.seq (R [0,1,2,9,11] [v 22 3,o 23 (.call (t 22) [t 9]),v 11 23])
 (.seq (R [0,1,2,9,11,25] [v 24 11,o 25 (.bin .neq (t 24) (n 0))])
 (.after (.cond (t 25) (.seq (R [8] [v 26 11,v 8 26])
 (.live [8] (.ret))) (.skip)) [0,1,2,9]))
theorem body673:code673.body = .seq (R [0,1,2,3] [o 8 (.val (n 0))])
 (.seq (R [0,1,2,3,9,10] [v 13 0,v 14 1,v 15 2,o 16 (.callg 675 [t 13,t 14,t 15]),v 12 16,o 17 (.extract (t 12) 0),o 18 (.extract (t 12) 1),o 9 (.alloc 3 [.int .u32 0,.int .u32 0,.slice none 0 (some 0)]),u (.store 3 (t 9) (t 17)),v 10 18])
 (.seq (.seq (R [0,1,2,3,9,10,20] [v 19 10,o 20 (.bin .neq (t 19) (n 0))])
 (.after (.cond (t 20) (.seq (R [8] [v 21 10,v 8 21])
 (.live [8] (.ret))) (.skip)) [0,1,2,3,9]))
 (.seq d673
 (.seq (.seq (R [0,1,2,9,29] [o 27 (.faddr (t 9) 1),o 28 (.load none (t 27)),o 29 (.bin .lss (t 28) (.const (.int .u32 4294967295)))])
 (.after (.cond (t 29) (R [0,1,2,9] [o 30 (.faddr (t 9) 1),o 31 (.load none (t 30)),o 32 (.bin .add (t 31) (.const (.int .u32 1))),o 33 (.faddr (t 9) 1),u (.store 1 (t 33) (t 32))]) (.skip)) [0,1,2,9]))
 g673)))):=rfl
section
variable {E:Env} {kl:List Bs} {H:List AObj} {b w:Nat} {I:SI} {F:Fl} {K:StU}
theorem fe673 {P:List AObj} {w':Nat} {v:Int}:funcEnd code673 ⟨H,b,w⟩ (.ret,⟨[(8,.val (.int .i64 v))],⟨P,b,w'⟩⟩)=some (.int .i64 v,if w' < H.length then ⟨P,b,min w w'⟩ else ⟨H,b,w⟩):=by
 by_cases c:w' < H.length
 ·simp [funcEnd,code673,resultsL,result1,sget,tupled,dk,Heap.size,c]
 ·simp [funcEnd,code673,resultsL,result1,sget,tupled,dk,Heap.size,c,AVal.under]
def f665:ACode:=.seq (R [8,9] [o 20 (.load none (t 10)),v 8 20,o 9 (.val (n 0))])
 (.live [8,9] (.ret))
theorem body665:code665.body = .seq (R [0,1,2,7] [o 7 (.box (t 3)),o 8 (.val (.const (.int .u32 0))),o 9 (.val (n 0))])
 (.seq (R [0,1,2,7,10] [o 10 (.alloc 1 [.int .u32 0])])
 (.seq (R [10,11] [v 12 0,v 13 1,v 14 2,o 15 (.mkfunc 672 [] [t 7,t 10]),o 16 (.callg 673 [t 12,t 13,t 14,t 15]),v 11 16])
 (.seq (.seq (R [10,11,18] [v 17 11,o 18 (.bin .neq (t 17) (n 0))])
 (.after (.cond (t 18) (.seq (R [8,9] [v 19 11,o 8 (.val (.const (.int .u32 0))),v 9 19])
 (.live [8,9] (.ret))) (.skip)) [10]))
 f665))):=rfl
theorem fe665 {P:List AObj} {w':Nat} {x y:Int}:funcEnd code665 ⟨H,b,w⟩ (.ret,⟨[(8,.val (.int .u32 x)),(9,.val (.int .i64 y))],⟨P,b,w'⟩⟩)=some (.tuple [.int .u32 x,.int .i64 y],if w' < H.length then ⟨P,b,min w w'⟩ else ⟨H,b,w⟩):=by
 by_cases c:w' < H.length
 ·simp [funcEnd,code665,resultsL,result1,sget,tupled,dk,Heap.size,c]
 ·simp [funcEnd,code665,resultsL,result1,sget,tupled,dk,Heap.size,c,AVal.under,AVal.unders]
end
end Go.Abs.AbsNat

namespace Go.Abs.AbsNat
open Go.Abs.AbsBlb hiding T
open Go.Abs.AbsBlo (jk CodeD.run OpsD.run)
open Go.Abs.Short
section
variable {E:Env} {kl:List Bs} {H:List AObj} {b w:Nat} {I:SI} {F:Fl} {K:StU}
section
attribute [-simp] getElem?_pos getElem?_neg List.all_eq_true
attribute [local simp] qZ qS nltT nltF iltT iltF ileT nleT el
theorem e673 (hC:Codes E) (hF2:IsCode E 673 code673) (h:SO kl H I F K) (hkl:∀ k ∈ kl,1≤k.length∧k.length≤64) (hb:I.lo b) (hbN:b≤H.length) (hFn:0 < F.n) {s k:Bs} (hs:isName s=true) (hk:isName k=true) (hkey:keyB s k ∈ kl)
  {r:RecsU} (hr:r.ok) {x:Nat × PlU} (hf:findK (keyB s k) K.ix=some x) (hx:x.2.blob=r.bytes) (hxl:x.2.blob.length≤1000000) {dv:AVal} {data:Bs} (hdv:BlobV H dv data) (hd:data.length≤512) (hl:r.list.length < 64) (hn:r.next < 4294967295) (hv:r.ver < 4294967295) (hlen:(addR r data).bytes.length≤4096)
  (hn2:32+(keyB s k).length+(addR r data).bytes.length≤(F.z - 12) / 2) (hG:AbsBlo.Good F K (32+(keyB s k).length+(addR r data).bytes.length)) (w:Nat) :
  CallD E 673 [.ptr (some (I.s,0)),.str s,.str k,.func 672 [] [.ptr (some (H.length,0)),.ptr (some (H.length+1,0))]] ⟨H++[.cells 1 [dv],.cells 1 [.int .u32 0]],b,w⟩ fun v h'=>v = .int .i64 0∧∃ P F' K' w',h'=⟨P,b,w'⟩∧P[H.length+1]? = some (.cells 1 [.int .u32 r.next])∧StF I H P∧SO kl P I F' K'∧FlE F F'∧min w b≤w'∧w'≤I.hi∧StepN F K (32+(keyB s k).length+(addR r data).bytes.length) K'∧K'.head ≠ -1∧PutIx K K' (keyB s k) (addR r data).bytes:=by
 have hT:=hC.t;have hm:=hC.m;have hIhi:=h.a.hi;have hIfl:=ah h.a.fl.f;have ls:=g9 hs;have lk:=g9 hk;refine CallD.of_code hF2 rfl ?_;rw [body673];have h0:=jk h [.cells 1 [dv],.cells 1 [.int .u32 0]];have hp0:Pre H (H++[AObj.cells 1 [dv],.cells 1 [.int .u32 0]]):=Pre.app _ _;have hl0:(H++[AObj.cells 1 [dv],.cells 1 [.int .u32 0]]).length=H.length+2:=by simp
 have hd0:=ga H [AObj.cells 1 [dv],.cells 1 [.int .u32 0]];have hi0:=kj H [AObj.cells 1 [dv],.cells 1 [.int .u32 0]] 1;generalize H++[AObj.cells 1 [dv],.cells 1 [.int .u32 0]]=M0 at *;have hen:enter 0 [AVal.ptr (some (I.s,0)),.str s,.str k,.func 672 [] [.ptr (some (H.length,0)),.ptr (some (H.length+1,0))]]=[(0,.val (.ptr (some (I.s,0)))),(1,.val (.str s)),(2,.val (.str k)),(3,.val (.func 672 [] [.ptr (some (H.length,0)),.ptr (some (H.length+1,0))]))]:=rfl;have hsz:(⟨M0,b,w⟩:Heap).size=M0.length:=rfl;rw [hen];simp only [hsz];obtain ⟨H2,A,y,i1,i2,i3,i4⟩:=p675 (b:=b) h0.a hs hk hf hx hr hxl (by omega);have hp2:=i1.len;obtain ⟨ya,yc,rfl,j1,j2,j3⟩:=i2.row;obtain ⟨i2a,i2b⟩:=i2
 refine CodeD.seq nofun (CodeD.run hT hm (e:=.normal) (st':=⟨[(0,.val (.ptr (some (I.s,0)))),(1,.val (.str s)),(2,.val (.str k)),(3,.val (.func 672 [] [.ptr (some (H.length,0)),.ptr (some (H.length+1,0))]))],⟨M0,b,M0.length⟩⟩) (fun k'=>by simp (disch:=omega) []) ?_);have hset2:∀ y z:AObj,(H2++[y]).set H2.length z=H2++[z]:=fun y z=>set_k0 H2 [y] z
 unfold RecsU.val at i4;refine CodeD.seq nofun (CodeD.run hT hm (e:=.normal) (st':=⟨[(0,.val (.ptr (some (I.s,0)))),(1,.val (.str s)),(2,.val (.str k)),(3,.val (.func 672 [] [.ptr (some (H.length,0)),.ptr (some (H.length+1,0))])),(9,.val (.ptr (some (H2.length,0)))),(10,.val (.int .i64 0))],⟨H2++[.cells 3 [.int .u32 r.next,.int .u32 r.ver,.slice ya A.length yc]],b,M0.length⟩⟩) (fun k'=>by simp (disch:=omega) [i4,hset2]) ?_);refine CodeD.seq nofun (CodeD.run hT hm (e:=.normal) (st':=⟨[(0,.val (.ptr (some (I.s,0)))),(1,.val (.str s)),(2,.val (.str k)),(3,.val (.func 672 [] [.ptr (some (H.length,0)),.ptr (some (H.length+1,0))])),(9,.val (.ptr (some (H2.length,0))))],⟨H2++[.cells 3 [.int .u32 r.next,.int .u32 r.ver,.slice ya A.length yc]],b,M0.length⟩⟩) (fun k'=>by simp (disch:=omega) []) ?_);have hAl:A.length=r.list.length:=by rw [← i3,bh]
 have up:∀ (k:Nat) (o:AObj) z,H2[k]? = some o→(H2++[z])[k]? = some o:=fun k o z hk=>by rw [ag (ah hk)]; exact hk
 have hdH:∀ (q o n:Nat) c,dv = .slice (some (q,o)) n c→q < H.length:=fun q o n c e=>by obtain ⟨a,c,rfl,h1,-⟩:=hdv;simp only [AVal.slice.injEq] at e;exact h1 q o e.1
 obtain ⟨M',x',nx,q1,q2,q3,q4,q5,q6,q7⟩:=p672 (b:=b) (N:=M0.length) (ro:=H2.length) (db:=H.length) (ib:=H.length+1) (next:=r.next) (ver:=r.ver) (A:=A) (x:=.slice ya A.length yc) (dv:=dv) (data:=data) (M:=H2++[.cells 3 [.int .u32 r.next,.int .u32 r.ver,.slice ya A.length yc]]) (ga _ _) (up _ _ _ (i1 _ _ hd0)) (up _ _ _ (i1 _ _ hi0)) (i2a.mono fun k o _ ho=>up _ _ _ ho) (by omega) (by omega) (hdv.mono (by rw [aq]; omega) fun q o n c e y hy=>up _ _ _ (i1 _ _ (hp0 _ _ hy))) hd (by omega) (fun p hp=>(j3 p hp).mono (by rw [aq]; omega) fun q o n c e y hy=>up _ _ _ hy) hn;obtain ⟨L,hL⟩:∃ L:List EV,A++[((⟨r.next,data⟩:EnU),dv)]=L:=⟨_,rfl⟩;rw [hL] at q3;refine CodeD.seq nofun ?_;unfold d673
 refine CodeD.seq nofun (CodeD.run hT hm (e:=.normal) (st':=⟨[(0,.val (.ptr (some (I.s,0)))),(1,.val (.str s)),(2,.val (.str k)),(9,.val (.ptr (some (H2.length,0)))),(11,.val (.int .i64 0))],⟨M',b,nx M0.length⟩⟩) (fun k'=>by simp (disch:=omega) [q7]) ?_);refine CodeD.run hT hm (e:=.normal) (st':=⟨[(0,.val (.ptr (some (I.s,0)))),(1,.val (.str s)),(2,.val (.str k)),(9,.val (.ptr (some (H2.length,0))))],⟨M',b,nx M0.length⟩⟩) (fun k'=>by simp (disch:=omega) []) ?_
 have wn:IntKind.u32.wrap ((r.ver:Int)+1)=(r.ver:Int)+1:=by unfold IntKind.wrap;show (if (false && _)=true then _ else (_ % 2 ^ 32))=_;simp; omega
 have ev:((r.ver+1:Nat):Int)=(r.ver:Int)+1:=by omega
 obtain ⟨xa,xc,rfl,x1,x2⟩:=FRow.row (f:=EV.cells) (fun _=>rfl) q3;have hnx:=q6 M0.length
 refine CodeD.seq nofun (CodeD.run hT hm (e:=.normal) (st':=⟨[(0,.val (.ptr (some (I.s,0)))),(1,.val (.str s)),(2,.val (.str k)),(9,.val (.ptr (some (H2.length,0))))],⟨M'.set H2.length (.cells 3 [.int .u32 (r.next+1:Nat),.int .u32 (r.ver+1:Nat),.slice xa L.length xc]),b,nx M0.length⟩⟩) (fun k'=>by
  rw [ev];generalize ((r.next+1:Nat):Int)=nn at *;have hle:nx M0.length≤H2.length:=by omega
  simp (disch:=omega) [q2,hv,wn,hle]) ?_)
 have r2:=jr q2 (y:=.cells 3 [.int .u32 (r.next+1:Nat),.int .u32 (r.ver+1:Nat),.slice xa L.length xc]);have hM'l:(M'.set H2.length (.cells 3 [.int .u32 (r.next+1:Nat),.int .u32 (r.ver+1:Nat),.slice xa L.length xc])).length=M'.length:=bf
 have keep:∀ (k:Nat) (o:AObj),k≠H2.length→M'[k]? = some o→(M'.set H2.length (.cells 3 [.int .u32 (r.next+1:Nat),.int .u32 (r.ver+1:Nat),.slice xa L.length xc]))[k]? = some o:=fun k o hk ho=>by rw [av (fun e=>hk e.symm)]; exact ho
 generalize M'.set H2.length (.cells 3 [.int .u32 (r.next+1:Nat),.int .u32 (r.ver+1:Nat),.slice xa L.length xc])=M2 at *
 have low:∀ (k:Nat) (o:AObj),k < H.length→H[k]? = some o→M2[k]? = some o:=fun k o hk ho =>
  keep k o (by omega) (q5 k o (by omega) (by omega) (up _ _ _ (i1 _ _ (hp0 _ _ ho))) fun h=>by omega)
 have hi2:=keep _ _ (by omega) q1;have hlen1:H2.length+1≤M'.length:=by rw [aq] at q4; exact q4
 have hSO:SO kl M2 I F K:=⟨h.a.low (N:=H.length) ⟨hIhi,hIfl⟩ low,h.v⟩;have hSF:StF I H M2:=⟨by omega,fun k o ho _ _ _ _ _=>low k o (ah ho) ho⟩
 have hRow:Row M2 2 EV.cells L xa:=by
  rcases q3 with ⟨e,-⟩ | ⟨-,qq,hq,e,hrow⟩
  ·rw [e] at hL; simp at hL
  ·simp only [AVal.slice.injEq] at e;rw [e.1];exact Row.mk0 (fun _=>rfl) (keep _ _ (fun e=>by rw [e,q2] at hrow; simp at hrow) hrow)
 have hokM:∀ p ∈ L,EV.ok M2 p:=fun p hp=>by
  rw [← hL] at hp;rcases bw.1 hp with hp | hp
  ·refine (j3 p hp).mono (by omega) fun q o n c e y hy=>?_
   obtain ⟨g1,X,g2⟩:=(i2b p hp).2 q o n c e;rw [hy] at g2;cases g2;have:=ah hy;exact keep _ _ (by omega) (q5 _ _ (by omega) (by omega) (up _ _ _ hy) fun _ cs e=>by simp at e)
  ·rw [bq.1 hp];exact hdv.mono (by omega) fun q o n c e y hy=>low q y (hdH q o n c e) hy
 have haM:∀ p o,xa=some (p,o)→p < M2.length:=fun p o e=>by have:=x2 p o e; omega
 obtain ⟨P,F',K',nx2,t1,t2,t3,t45,t6,t7,t8,t9⟩:=p680 (r:=addR r data) (a:=xa) (c:=xc) hSO hkl hb (by omega) hFn (s:=s) (k:=k) (by omega) (by omega) hkey (addR_ok hr hd hl hn hv) (by rw [← hL,ic,i3]; rfl) hRow hokM haM hlen hn2 hG;have hval:(addR r data).val (.slice xa L.length xc) = .agg [.int .u32 (r.next+1:Nat),.int .u32 (r.ver+1:Nat),.slice xa L.length xc]:=rfl;rw [hval] at t9;have hnw:=t45 (nx M0.length);generalize hal:L.length=al at *
 refine CodeD.run hT hm (e:=.ret) (st':=⟨[(8,.val (.int .i64 0))],⟨P,b,nx2 (nx M0.length)⟩⟩) (fun k'=>by generalize ((r.next+1:Nat):Int)=nn at *;generalize ((r.ver+1:Nat):Int)=vv at *;simp (disch:=omega) [g673,r2,t9]) ?_
 refine ⟨_,_,fe673,rfl,?_⟩;rw [if_pos (by omega)];have hblo:=hb.1;have hsl:=ah h.a.s;exact ⟨P,F',K',min w (nx2 (nx M0.length)),rfl,t1.above hIhi _ _ (by omega) hi2,hSF.trans t1,t2,t3,by omega,by omega,t6,t7,t8⟩
theorem e665 (hC:Codes E) (hF2:IsCode E 673 code673) (hF3:IsCode E 665 code665) (h:SO kl H I F K) (hkl:∀ k ∈ kl,1≤k.length∧k.length≤64) (hb:I.lo b) (hbN:b≤H.length) (hFn:0 < F.n) {s k:Bs} (hs:isName s=true) (hk:isName k=true) (hkey:keyB s k ∈ kl)
  {r:RecsU} (hr:r.ok) {x:Nat × PlU} (hf:findK (keyB s k) K.ix=some x) (hx:x.2.blob=r.bytes) (hxl:x.2.blob.length≤1000000) {dv:AVal} {data:Bs} (hdv:BlobV H dv data) (hd:data.length≤512) (hl:r.list.length < 64) (hn:r.next < 4294967295) (hv:r.ver < 4294967295) (hlen:(addR r data).bytes.length≤4096)
  (hn2:32+(keyB s k).length+(addR r data).bytes.length≤(F.z - 12) / 2) (hG:AbsBlo.Good F K (32+(keyB s k).length+(addR r data).bytes.length)) (w:Nat) :
  CallD E 665 [.ptr (some (I.s,0)),.str s,.str k,dv] ⟨H,b,w⟩ fun v h'=>v = .tuple [.int .u32 r.next,.int .i64 0]∧∃ P F' K' w',h'=⟨P,b,w'⟩∧StF I H P∧SO kl P I F' K'∧FlE F F'∧min w b≤w'∧w'≤I.hi∧StepN F K (32+(keyB s k).length+(addR r data).bytes.length) K'∧K'.head ≠ -1∧PutIx K K' (keyB s k) (addR r data).bytes:=by
 have hT:=hC.t;have hm:=hC.m;have hIhi:=h.a.hi;refine CallD.of_code hF3 rfl ?_;rw [body665];have hen:enter 0 [AVal.ptr (some (I.s,0)),.str s,.str k,dv]=[(0,.val (.ptr (some (I.s,0)))),(1,.val (.str s)),(2,.val (.str k)),(3,.val dv)]:=rfl;have hsz:(⟨H,b,w⟩:Heap).size=H.length:=rfl;rw [hen];simp only [hsz];obtain ⟨da,dc,hdve,-,-⟩:=id hdv;refine CodeD.seq nofun (CodeD.run hT hm (e:=.normal) (st':=⟨[(0,.val (.ptr (some (I.s,0)))),(1,.val (.str s)),(2,.val (.str k)),(7,.val (.ptr (some (H.length,0))))],⟨H++[.cells 1 [dv]],b,H.length⟩⟩) (fun k'=>by rw [hdve]; simp (disch:=omega) []) ?_);refine CodeD.seq nofun (CodeD.run hT hm (e:=.normal) (st':=⟨[(0,.val (.ptr (some (I.s,0)))),(1,.val (.str s)),(2,.val (.str k)),(7,.val (.ptr (some (H.length,0)))),(10,.val (.ptr (some (H.length+1,0))))],⟨H++[.cells 1 [dv],.cells 1 [.int .u32 0]],b,H.length⟩⟩) (fun k'=>by simp (disch:=omega) []) ?_)
 refine CodeD.seq nofun (CodeD.after (CodeD.regionX hT hm ?_));refine OpsD.run (l:=[v 12 0,v 13 1,v 14 2,o 15 (.mkfunc 672 [] [t 7,t 10])]) (r:=[o 16 (.callg 673 [t 12,t 13,t 14,t 15]),v 11 16]) (s1:=[(15,.val (.func 672 [] [.ptr (some (H.length,0)),.ptr (some (H.length+1,0))])),(14,.val (.str k)),(13,.val (.str s)),(12,.val (.ptr (some (I.s,0)))),(0,.val (.ptr (some (I.s,0)))),(1,.val (.str s)),(2,.val (.str k)),(7,.val (.ptr (some (H.length,0)))),(10,.val (.ptr (some (H.length+1,0))))]) (h1:=⟨H++[.cells 1 [dv],.cells 1 [.int .u32 0]],b,H.length⟩) (fun k'=>by simp (disch:=omega) []) ?_;refine OpsD.call (g:=673) (xs:=[t 12,t 13,t 14,t 15]) rfl rfl rfl (e673 hC hF2 h hkl hb hbN hFn hs hk hkey hr hf hx hxl hdv hd hl hn hv hlen hn2 hG H.length) fun vv hh hR'=>?_
 obtain ⟨rfl,P,F',K',w',rfl,t0,t1,t2,t3,t4,t5,t6,t7,t8⟩:=hR';refine OpsD.run (l:=[v 11 16]) (r:=[]) (s1:=[(11,.val (.int .i64 0)),(16,.val (.int .i64 0)),(15,.val (.func 672 [] [.ptr (some (H.length,0)),.ptr (some (H.length+1,0))])),(14,.val (.str k)),(13,.val (.str s)),(12,.val (.ptr (some (I.s,0)))),(0,.val (.ptr (some (I.s,0)))),(1,.val (.str s)),(2,.val (.str k)),(7,.val (.ptr (some (H.length,0)))),(10,.val (.ptr (some (H.length+1,0))))]) (h1:=⟨P,b,w'⟩) (fun k'=>by simp (disch:=omega) []) (OpsD.done ?_);simp only []
 have hk1:keepK [10,11] [(11,Slot.val (.int .i64 0)),(16,.val (.int .i64 0)),(15,.val (.func 672 [] [.ptr (some (H.length,0)),.ptr (some (H.length+1,0))])),(14,.val (.str k)),(13,.val (.str s)),(12,.val (.ptr (some (I.s,0)))),(0,.val (.ptr (some (I.s,0)))),(1,.val (.str s)),(2,.val (.str k)),(7,.val (.ptr (some (H.length,0)))),(10,.val (.ptr (some (H.length+1,0))))]=[(10,.val (.ptr (some (H.length+1,0)))),(11,.val (.int .i64 0))]:=by simp
 rw [hk1];refine CodeD.seq nofun (CodeD.run hT hm (e:=.normal) (st':=⟨[(10,.val (.ptr (some (H.length+1,0))))],⟨P,b,w'⟩⟩) (fun k'=>by simp (disch:=omega) []) ?_);refine CodeD.run hT hm (e:=.ret) (st':=⟨[(8,.val (.int .u32 r.next)),(9,.val (.int .i64 0))],⟨P,b,w'⟩⟩) (fun k'=>by simp (disch:=omega) [f665,t0]) ?_;refine ⟨_,_,fe665,rfl,?_⟩;rw [if_pos (by omega)];exact ⟨P,F',K',min w w',rfl,t1,t2,t3,by omega,by omega,t6,t7,t8⟩
end
end
end Go.Abs.AbsNat

namespace Go.Abs.AbsNat
open Go.Abs.AbsBlb hiding T
open Go.Abs.AbsBlo (begP)
theorem pre_eq:∀ {s s':Bs} {l:Bs},(47:UInt8) ∉ s→(47:UInt8) ∉ s'→(s'++47 :: l).take (s.length+1)=s++[47]→s=s'
 | [],[],_,_,_,_=>rfl
 | [],c :: r,l,_,h',h=>by
  rw [d7] at h;have:c=47:=by simpa using h
  exact absurd (by rw [this]; exact bg ..) h'
 | c :: r,[],l,h',_,h=>by
  have:(47:UInt8)=c:=by rw [ff,bt,ku,d7] at h;exact (List.cons.inj h).1
  exact absurd (by rw [← this]; exact bg ..) h'
 | c :: r,c' :: r',l,h1,h2,h=>by rw [d7,bt,ku,d7] at h;obtain ⟨e1,e2⟩:=List.cons.inj h;rw [← e1,pre_eq (fun hm=>h1 (bj _ hm)) (fun hm=>h2 (bj _ hm)) e2]
theorem wh:∀ (s:Bs) (i:Nat),firstOdd s i < 0→∀ c ∈ s,nameC c=true
 | [],_,_,c,hc=>by cases hc
 | a :: s,i,h,c,hc=>by
  unfold firstOdd at h;by_cases ha:nameC a=true
  ·rw [if_pos ha] at h;rcases dy.1 hc with rfl | hc
   ·exact ha
   ·exact wh s (i+1) h c hc
  ·rw [if_neg ha] at h; omega
theorem name_no {s:Bs} (h:isName s=true):(47:UInt8) ∉ s:=fun hm=>by unfold isName at h;simp only [a7,decide_eq_true_eq] at h;have:=wh s 0 h.2.2 47 hm;revert this;decide
theorem zj {s s' n:Bs} (hs:isName s=true) (hs':isName s'=true):begP (preB s) (keyB s' n)=true ↔ s=s':=by
 constructor
 ·intro h;unfold begP at h;simp only [a7,decide_eq_true_eq] at h;have h2:=h.2;have e1:(preB s).length=(s.length+1)+2:=by unfold preB; simp only [aq,bt,ep]; omega
  have e2:keyB s' n=114 :: 47 :: (s'++47 :: n):=by unfold keyB preB; simp
  have e3:preB s=114 :: 47 :: (s++[47]):=by unfold preB; simp
  rw [e1,e2,e3,ku,ku] at h2;exact pre_eq (name_no hs) (name_no hs') (List.cons.inj (List.cons.inj h2).2).2
 ·rintro rfl;exact zat _ _
theorem keyB_inj {s n n':Bs} (h:keyB s n=keyB s n'):n=n':=List.append_cancel_left h
theorem wj (s n:Bs):(keyB s n).length=3+s.length+n.length:=by unfold keyB preB;simp only [aq,bt,ep]; omega
end Go.Abs.AbsNat

namespace Go.Abs.AbsNat
open Go.Abs.AbsBlb hiding T
open Go.Abs.AbsBlo (begP)
theorem xk {k:Bs}:∀ {ix:List Ent},findK k ix=none ↔ k ∉ ix.map (·.1)
 | []=>by simp [findK]
 | e :: r=>by
  unfold findK;by_cases h:e.1=k
  ·rw [if_pos h]; simp [h]
  ·rw [if_neg h,zd,xk (ix:=r),bo,dy,not_or];exact ⟨fun h2=>⟨fun h3=>h h3.symm,h2⟩,fun h2=>h2.2⟩
theorem wg {α:Type} [DecidableEq α] {a:α}:∀ {l:List α} {i:Nat},l.Nodup→l[i]? = some a→l.eraseIdx i=l.filter (fun x=>decide (x≠a))
 | [],i,_,h=>by simp at h
 | x :: l,0,hn,h=>by
  have hx:x=a:=by simpa using h
  subst hx;have hn:=ux.1 hn;rw [List.eraseIdx_cons_zero,List.filter_cons_of_neg (by simp)];refine (ud.2 fun y hy=>?_).symm;simp only [ne_eq,decide_not,fp,decide_eq_false_iff_not];intro e;rw [e] at hy;exact hn.1 hy
 | x :: l,i+1,hn,h=>by
  have hn:=ux.1 hn;have h:l[i]? = some a:=by simpa using h
  have hx:x≠a:=fun e=>hn.1 (by rw [e]; exact bn h)
  rw [List.eraseIdx_cons_succ,List.filter_cons_of_pos (by simp [hx]),wg hn.2 h]
abbrev keyP (p:Bs × Bs):Bs:=keyB p.1 p.2
structure KsOK (K:StU) (A:List (Bs × Bs)):Prop where
 ks:K.ix.map (·.1)=A.map keyP
 nd:A.Nodup
 nm:∀ p ∈ A,isName p.1=true∧isName p.2=true
 bl:∀ e ∈ K.ix,e.2.1.blob=newR.bytes
theorem keyP_inj {s k s' k':Bs} (hs:isName s=true) (hs':isName s'=true) (h:keyB s k=keyB s' k'):s=s'∧k=k':=by
 have h1:begP (preB s) (keyB s' k')=true:=by rw [← h]; exact zat _ _
 have e:=(zj hs hs').1 h1;subst e;exact ⟨rfl,keyB_inj h⟩
section
variable {K K':StU} {A:List (Bs × Bs)} {s k:Bs}
theorem KsOK.nf (h:KsOK K A) (hs:isName s=true) (hn:(s,k) ∉ A):findK (keyB s k) K.ix=none:=by rw [xk,h.ks];intro hm;obtain ⟨p,hp,e⟩:=cq.1 hm;obtain ⟨e1,e2⟩:=keyP_inj (h.nm p hp).1 hs e;apply hn;rw [← e1,← e2];exact hp
theorem KsOK.yf (h:KsOK K A) (hs:isName s=true) (hm:(s,k) ∈ A):∃ x,findK (keyB s k) K.ix=some x∧x.2.blob=newR.bytes∧A[x.1]? = some (s,k):=by
 cases hf:findK (keyB s k) K.ix with
 | none =>
  rw [xk,h.ks] at hf;exact absurd (cq.2 ⟨(s,k),hm,rfl⟩) hf
 | some x =>
  obtain ⟨e,h1,h2,h3⟩:=rp hf;refine ⟨x,rfl,by rw [← h3]; exact h.bl e (bn h1),?_⟩;have h4:(K.ix.map (·.1))[x.1]? = some (keyB s k):=by rw [bk,h1]; exact congrArg _ h2
  rw [h.ks,bk] at h4;cases hA:A[x.1]? with
  | none=>rw [hA] at h4; simp at h4
  | some p =>
   rw [hA] at h4;have h5:keyB p.1 p.2=keyB s k:=by simpa using h4
   obtain ⟨e1,e2⟩:=keyP_inj (h.nm p (bn hA)).1 hs h5;rw [← e1,← e2]
theorem KsOK.put (h:KsOK K A) (hs:isName s=true) (hk:isName k=true) (hn:(s,k) ∉ A) (hp:PutIx K K' (keyB s k) newR.bytes):KsOK K' (A++[(s,k)]):=by
 obtain ⟨p,c,e,h1,-⟩:=hp;have hix:=h1 (h.nf hs hn);refine ⟨by rw [hix,ic,ic,h.ks]; rfl,?_,fun q hq=>?_,fun q hq=>?_⟩
 ·rw [List.nodup_append];refine ⟨h.nd,by simp,fun a ha y hy=>?_⟩;rw [bq] at hy;rw [hy];intro e;rw [e] at ha;exact hn ha
 ·rcases bw.1 hq with hq | hq
  ·exact h.nm q hq
  ·rw [bq.1 hq]; exact ⟨hs,hk⟩
 ·rw [hix] at hq;rcases bw.1 hq with hq | hq
  ·exact h.bl q hq
  ·rw [bq.1 hq]; exact e
theorem KsOK.del (h:KsOK K A) (hs:isName s=true) (hm:(s,k) ∈ A) (hd:DelIx K K' (keyB s k)):KsOK K' (A.filter fun p=>decide (p≠(s,k))):=by
 obtain ⟨x,h1,-,h3⟩:=h.yf hs hm;have hix:=hd.2 x h1;have he:=wg h.nd h3;refine ⟨by rw [hix,← he,← tx,h.ks,tx],?_,fun q hq=>h.nm q (gi.1 hq).1,fun q hq=>?_⟩
 ·exact h.nd.sublist (List.filter_sublist ..)
 ·rw [hix] at hq;exact h.bl q (List.mem_of_mem_eraseIdx hq)
theorem KsOK.cnt (h:KsOK K A) (hs:isName s=true):cntP K s=(A.filter fun p=>decide (p.1=s)).length:=by
 unfold cntP;rw [h.ks]
 have:∀ (B:List (Bs × Bs)),(∀ p ∈ B,isName p.1=true)→((B.map keyP).filter (begP (preB s))).length=(B.filter fun p=>decide (p.1=s)).length:=by
  intro B;induction B with
  | nil=>intro _; rfl
  | cons p r ih =>
   intro hB;have hp:=hB p (bg ..);have ih:=ih fun q hq=>hB q (bj _ hq)
   rw [bo];by_cases c:s=p.1
   ·rw [List.filter_cons_of_pos ((zj hs hp).2 c),List.filter_cons_of_pos (by simp [c]),bt,bt,ih]
   ·have h1:¬ begP (preB s) (keyP p)=true:=fun e=>c ((zj hs hp).1 e)
    rw [List.filter_cons_of_neg h1,List.filter_cons_of_neg (by simpa using fun e=>c e.symm),ih]
 exact this A fun p hp=>(h.nm p hp).1
theorem KsOK.own (h:KsOK K A) (hs:isName s=true):∀ e ∈ K.ix,begP (preB s) e.1=true→∃ n,e.1=keyB s n∧isName n=true:=fun e he hb=>by have h1:e.1 ∈ K.ix.map (·.1):=cq.2 ⟨e,he,rfl⟩;rw [h.ks] at h1;obtain ⟨p,hp,e1⟩:=cq.1 h1;rw [← e1] at hb ⊢;obtain ⟨g1,g2⟩:=h.nm p hp;have:=(zj hs g1).1 hb;exact ⟨p.2,by rw [this],g2⟩
theorem KsOK.len (h:KsOK K A):K.ix.length=A.length:=by have:=congrArg List.length h.ks;rwa [bh,bh] at this
end
end Go.Abs.AbsNat

namespace Go.Abs.AbsNat
open Go.Abs.AbsBlb hiding T
open Go.Abs.AbsBlo (begP jk)
open Go.Abs.Short
def cntS (A:List (Bs × Bs)) (s:Bs):Nat:=(A.filter fun p=>decide (p.1=s)).length
def opE (A:List (Bs × Bs)) (s k:Bs):Int:=if isName s=true∧isName k=true then (if (s,k) ∈ A then 0 else if 8≤cntS A s then 9 else 0) else 13
def opA (A:List (Bs × Bs)) (s k:Bs):List (Bs × Bs):=if isName s=true∧isName k=true∧(s,k) ∉ A∧¬ 8≤cntS A s then A++[(s,k)] else A
structure LawS (kl:List Bs) (I:SI) (P:List AObj) (F:Fl) (K:StU) (A:List (Bs × Bs)) (t:Nat):Prop where
 so:SO kl P I F K
 ks:KsOK K A
 bd:30≤bud F K+t
 sq:K.seq≤t
 z:400≤F.z
 n:0 < F.n
section
variable {E:Env} {kl:List Bs} {P P':List AObj} {b:Nat} {I:SI} {F F':Fl} {K K':StU} {A A':List (Bs × Bs)} {t:Nat}
theorem LawS.pre (h:LawS kl I P F K A t) (hp:Pre P P'):LawS kl I P' F K A t :=
 ⟨⟨h.so.a.low (N:=P.length) ⟨h.so.a.hi,ah h.so.a.fl.f⟩ fun k o _ ho=>hp k o ho,h.so.v⟩,h.ks,h.bd,h.sq,h.z,h.n⟩
theorem LawS.le (h:LawS kl I P F K A t) {t':Nat} (ht:t≤t'):LawS kl I P F K A t':=⟨h.so,h.ks,by have:=h.bd; omega,by have:=h.sq; omega,h.z,h.n⟩
theorem LawS.step (h:LawS kl I P F K A t) (ht:t < 30) {n:Nat} (hn:n≤64) (hso:SO kl P' I F' K') (hF:FlE F F') (hs:StepN F K n K') (hks:KsOK K' A'):LawS kl I P' F' K' A' (t+1):=by obtain ⟨h1,h2⟩:=hs.bud hF h.z hn;exact ⟨hso,hks,by have:=h.bd; omega,by have:=h.sq; omega,by rw [hF.z]; exact h.z,by rw [hF.n]; exact h.n⟩
theorem LawS.good (h:LawS kl I P F K A t) (ht:t < 30) {n:Nat} (hn:n≤64):AbsBlo.Good F K n∧n≤(F.z - 12) / 2:=by have h1:=h.bd;have h2:=h.sq;have h3:=h.z;exact ⟨bud_good h.z hn (by omega) (by omega),by omega⟩
theorem open_any (hC:CodesR E) (h:LawS kl I P F K A t) (ht:t < 30) (hA:A.length≤12) (hkl:∀ k ∈ kl,1≤k.length∧k.length≤64) (hb:I.lo b) (hbN:b≤P.length) {s k:Bs} (hs:s.length≤140737488355328) (hk:k.length≤140737488355328) (hsk:isName s=true→isName k=true→s.length+k.length≤19)
  (hkey:isName s=true→isName k=true→(s,k) ∉ A→¬ 8≤cntS A s→keyB s k ∈ kl) (w:Nat) :
  CallD E 671 [.ptr (some (I.s,0)),.str s,.str k,.bool true] ⟨P,b,w⟩ fun v h'=>∃ y1 y2 y3,v = .tuple [.agg [y1,y2,y3],.int .i64 (opE A s k)]∧∃ P' F' K' w' t',h'=⟨P',b,w'⟩∧StF I P P'∧LawS kl I P' F' K' (opA A s k) t'∧t'≤t+1∧min w b≤w':=by
 have hT:=hC.c.t;have hm:=hC.c.m;cases is:isName s with
 | false =>
  refine CallD.of_xX hT hm (s671x hs is) ⟨_,_,_,by unfold opE; rw [if_neg (by simp [is])],P,F,K,w,t,rfl,.refl,?_,wq _,cz _ _⟩;unfold opA;rw [if_neg (by simp [is])];exact h
 | true =>
  cases ik:isName k with
  | false =>
   refine CallD.of_xX hT hm (s671y hk is ik) ⟨_,_,_,by unfold opE; rw [if_neg (by simp [ik])],P,F,K,w,t,rfl,.refl,?_,wq _,cz _ _⟩;unfold opA;rw [if_neg (by simp [ik])];exact h
  | true =>
   by_cases hm':(s,k) ∈ A
   ·obtain ⟨x,h1,h2,-⟩:=h.ks.yf is hm';obtain ⟨H1,B,y,i1,-,-,i4⟩:=p671 (b:=b) (cr:=true) h.so.a is ik h1 h2 we (by rw [h2,pv]; decide) hbN;refine CallD.of_xX hT hm (i4 w) ⟨_,_,_,by unfold opE; rw [if_pos ⟨is,ik⟩,if_pos hm']; rfl,H1,F,K,w,t,rfl,⟨i1.len,fun k o ho _ _ _ _ _=>i1 k o ho⟩,?_,wq _,cz _ _⟩;unfold opA;rw [if_neg (by simp [hm'])];exact h.pre i1
   ·have hc:=h.ks.cnt is;have hsl:=hsk is ik;have hkl2:=wj s k;obtain ⟨g1,g2⟩:=h.good ht (n:=32+(keyB s k).length+10) (by omega);refine (d671 hC h.so hkl (by rw [h.ks.len]; exact hA) hb hbN h.n is ik (fun h8=>hkey is ik hm' (by rw [hc] at h8; exact h8)) (h.ks.nf is hm') (h.ks.own is) g2 g1 w).mono fun v h' hq=>?_
    rw [hc] at hq;rcases hq with ⟨h8,rfl,rfl⟩ | ⟨h8,rfl,P',F',K',w',rfl,q1,q2,q3,q4,q5,q6,q7,q8⟩
    ·have h8:8≤cntS A s:=h8;refine ⟨_,_,_,by unfold opE; rw [if_pos ⟨is,ik⟩,if_neg hm',if_pos h8],P,F,K,w,t,rfl,.refl,?_,wq _,cz _ _⟩;unfold opA;rw [if_neg (by simp [h8])];exact h
    ·have h8:¬ 8≤cntS A s:=h8;refine ⟨_,_,_,by unfold opE; rw [if_pos ⟨is,ik⟩,if_neg hm',if_neg h8],P',F',K',w',t+1,rfl,q1,?_,aj _,q4⟩;unfold opA;rw [if_pos ⟨is,ik,hm',h8⟩];exact h.step ht (by omega) q2 q3 q6 (h.ks.put is ik hm' q8)
end
end Go.Abs.AbsNat

namespace Go.Abs
def SegsD (E:Env) (T:Nat→Option AFunc) (K:Slots→Heap→Prop):List Seg→Slots→Heap→Prop
 | [],s,h=>K s h
 | g :: r,s,h=>if g.quiet=true then ∃ s1 h1,jq (xCall T) [g] s h=some (s1,h1)∧SegsD E T K r s1 h1 else OpsD E T (fun s1 h1=>SegsD E T K r s1 h1) g.ops s h
section
variable {E:Env} {T:Nat→Option AFunc} {lo nt:Nat} {μ0:MM} {w0:World} {ds:List Deferred} {ops:Array Oper} {locs:List Nat} {aZ:List AOper} {Q:Exit→Act→World→Prop}
end
end Go.Abs

namespace Go.Abs.AbsNat
open Go.Abs.AbsBlb hiding T
open Go.Abs.AbsBlo (GoodC Fits Kept CommitQ jk CodeD.run OpsD.run s480z)
open Go.Abs.Short
section
variable {H:List AObj} {b w:Nat} {I:SI} {F:Fl} {K:StU}
end
section
variable {E:Env} {kl:List Bs} {H:List AObj} {b w:Nat} {I:SI} {F:Fl} {K:StU}
end
end Go.Abs.AbsNat

namespace Go.Abs.AbsNat
open Go.Abs.AbsBlb hiding T
open Go.Abs.AbsBlo (keyC jt)
open Go.Abs.Short
section
variable {H P:List AObj} {b w:Nat}
end
end Go.Abs.AbsNat

namespace Go.Abs.AbsNat
open Go.Abs.AbsBlb hiding T
open Go.Abs.AbsBlo (CodeD.run OpsD.run)
open Go.Abs.Short
abbrev dataK:Bs:=[100,97,116,97]
section
variable {H:List AObj} {b w:Nat} {I:SI} {F:Fl} {K:StU}
end
section
variable {E:Env} {kl:List Bs} {H:List AObj} {b w:Nat} {I:SI} {F:Fl} {K:StU}
end
end Go.Abs.AbsNat

namespace Go.Abs.AbsNat
open Go.Abs.AbsBlb hiding T
open Go.Abs.AbsBlo (CodeD.run OpsD.run)
open Go.Abs.Short
section
variable {H:List AObj} {b w:Nat} {I:SI} {F:Fl} {K:StU}
end
end Go.Abs.AbsNat

namespace Go.Abs.AbsNat
open Go.Abs.AbsBlb hiding T
open Go.Abs.AbsBlo (CodeD.run OpsD.run)
open Go.Abs.Short
section
variable {H:List AObj} {b w:Nat} {I:SI} {F:Fl} {K:StU}
end
end Go.Abs.AbsNat

namespace Go.Abs.AbsNat
open Go.Abs.AbsBlb hiding T
open Go.Abs.AbsBlo (CodeD.run OpsD.run)
open Go.Abs.Short
theorem renL_i64 (f:Nat→Nat) (l:List Nat):AVal.renL f (l.map natV)=l.map natV:=AbsBlb.renL_none fun x hx=>by obtain ⟨k,-,rfl⟩:=cq.1 hx; simp [AVal.ren,natV]
section
variable {H:List AObj} {b w:Nat} {I:SI} {F:Fl} {K:StU}
def SI.mv (f:Nat→Nat) (I:SI):SI:=⟨f I.s,f I.sa,I.sc,f I.m,⟨f I.fi.fl,f I.fi.fb,f I.fi.fw,I.fi.cb,I.fi.cw⟩⟩
theorem sa_moves {O:List AObj} {f:Nat→Nat} {Ic:Nat→Prop} {n:Nat} (h:StA H I F K) (hx:K.ix=[]) (hm:Moves f Ic n H O) (hi:Ic I.s) (hlo:n≤I.s∧n≤I.sa∧n≤I.m∧n≤I.fi.fl∧n≤I.fi.fb∧n≤I.fi.fw) (hne:F.b≠[]) :
  StA O (SI.mv f I) F K∧(n≤f I.s∧n≤f I.sa∧n≤f I.m∧n≤f I.fi.fl∧n≤f I.fi.fb∧n≤f I.fi.fw):=by
 obtain ⟨l1,l2,l3,l4,l5,l6⟩:=hlo;have hcl:=hm.cl _ _ hi h.s;have hsa:Ic I.sa:=hcl _ (by simp [AObj.ids,StU.cells,AVal.idsL,AVal.ids]) l2;have hmm:Ic I.m:=hcl _ (by simp [AObj.ids,StU.cells,AVal.idsL,AVal.ids]) l3;have hfl:Ic I.fi.fl:=hcl _ (by simp [AObj.ids,StU.cells,AVal.idsL,AVal.ids]) l4;have hcf:=hm.cl _ _ hfl h.fl.f;have hfb:Ic I.fi.fb:=hcf _ (by simp [AObj.ids,Fl.cells,AVal.idsL,AVal.ids]) l5;have hfw:Ic I.fi.fw:=hcf _ (by simp [AObj.ids,Fl.cells,AVal.idsL,AVal.ids]) l6;have o1:=hm.at' _ _ hi h.s;have o2:=hm.at' _ _ hsa h.r;have o3:=hm.at' _ _ hmm h.m;have o4:=hm.at' _ _ hfl h.fl.f;have o5:=hm.at' _ _ hfb h.fl.b;have o6:=hm.at' _ _ hfw h.fl.w
 have e5:(AObj.cells 1 (F.b.map u8V)).ren f = .cells 1 (F.b.map u8V):=by
  show AObj.cells 1 (AVal.renL f _)=_
  rw [mg]
 have e6:(AObj.cells 1 (F.w.map natV)).ren f = .cells 1 (F.w.map natV):=by
  show AObj.cells 1 (AVal.renL f _)=_
  rw [renL_i64]
 rw [e5] at o5;rw [e6] at o6;refine ⟨⟨⟨?_,o5,o6,h.fl.bl,h.fl.wl,h.fl.nb,h.fl.lb,h.fl.wb,?_,h.fl.cbo,h.fl.cwo⟩,?_,?_,?_,h.ln,h.hd,h.ab,h.sb,h.tb⟩,hm.up _ l1,hm.up _ l2,hm.up _ l3,hm.up _ l4,hm.up _ l5,hm.up _ l6⟩
 ·show O[f I.fi.fl]? = _
  rw [o4];simp [AObj.ren,Fl.cells,AVal.renL,AVal.ren,SI.mv]
 ·show f I.fi.fb≠f I.fi.fw
  intro e;rw [e,o6] at o5;simp only [eu,AObj.cells.injEq,true_and] at o5;cases hb:F.b with
  | nil=>exact hne hb
  | cons x l =>
   rw [hb] at o5;cases hw:F.w with
   | nil=>rw [hw] at o5; simp at o5
   | cons y k=>rw [hw] at o5; simp [u8V,natV] at o5
 ·show O[f I.s]? = _
  rw [o1];simp [AObj.ren,StU.cells,AVal.renL,AVal.ren,SI.mv]
 ·show O[f I.sa]? = _
  rw [o2];show some (AObj.cells 3 (AVal.renL f _))=_;rw [zaz]
 ·show O[f I.m]? = _
  rw [o3];unfold StU.map;rw [hx]; rfl
theorem store1 {kl:List Bs} {n z lim:Nat} (hn:1≤n∧n≤64) (hz:64≤z∧z≤65536) (hl:1≤lim∧lim≤1048576) (hnz:n*z≤262144) (hb:b≤H.length) :
  ∃ M H' I,Pre H H'∧SO kl H' I (AbsBlo.F0 n z lim) (AbsBlo.K0 n)∧(H.length≤I.s∧H.length≤I.sa∧H.length≤I.m∧H.length≤I.fi.fl∧H.length≤I.fi.fb∧H.length≤I.fi.fw)∧((AbsBlo.F0 n z lim).b≠[]∧I.fi.fl=H.length) ∧
   (∀ w,xCall T 556 [.agg [.int .i64 n,.int .i64 z,.int .i64 lim]] ⟨H,b,w⟩=some (.tuple [.ptr (some (H.length,0)),.int .i64 0],⟨M,b,w⟩)) ∧
   ∀ w,xCall T 555 [.ptr (some (H.length,0))] ⟨M,b,w⟩=some (.tuple [.ptr (some (I.s,0)),.int .i64 0],⟨H',b,w⟩):=by
 have hf:=AbsBlo.flash0 (H:=H) hn hz hl;have hll:(H++AbsBlo.newO H.length n z lim).length=H.length+3:=by simp [AbsBlo.newO]
 have hb':∀ j,j < (AbsBlo.F0 n z lim).b.length→(AbsBlo.F0 n z lim).b[j]? = some 255:=fun j hj=>by have hj:j < (List.replicate (n*z) (255:UInt8)).length:=hj;rw [br] at hj;show (List.replicate (n*z) (255:UInt8))[j]? = _;rw [gn,if_pos hj]
 have hw:∀ i,i < (AbsBlo.F0 n z lim).n→(AbsBlo.F0 n z lim).w[i]? = some 0:=fun i hi=>by have hi:i < n:=hi;show (List.replicate n 0)[i]? = _;rw [gn,if_pos hi]
 obtain ⟨H',I,k1,k2,k3,k4,k5,k6,k7⟩:=AbsBlo.p555 (b:=b) hf hb' hw (by show 12≤z; omega) (by show 0 < n; omega) (by omega);refine ⟨H++AbsBlo.newO H.length n z lim,H',I,(Pre.app _ _).trans k1,⟨k6,AbsBlo.inv0 hf (by omega)⟩,?_,⟨fun e=>?_,by rw [k2]⟩,fun w=>du sub (AbsBlo.s556 hn hz hl hnz),fun w=>du sub (k7 w)⟩
 ·rw [k2];exact ⟨by omega,by omega,by omega,aj _,by show H.length≤H.length+1; omega,by show H.length≤H.length+2; omega⟩
 ·have h2:(List.replicate (n*z) (255:UInt8)).length=0:=by have h3:(AbsBlo.F0 n z lim).b=List.replicate (n*z) (255:UInt8):=rfl;rw [← h3,e]; rfl
  rw [br] at h2;have:=Nat.mul_pos (show 0 < n by omega) (show 0 < z by omega);omega
end
end Go.Abs.AbsNat

namespace Go.Abs.AbsNat
open Go.Abs.AbsBlb hiding T
open Go.Abs.AbsBlo (CodeD.run OpsD.run jk keyC jt)
open Go.Abs.Short
abbrev app:Bs:=[97,112,112]
abbrev keyL:List Bs:=[keyB app dataK]
structure CodesN (E:Env):Prop where
 c:Codes E
 a680:IsCode E 680 code680
 a671:IsCode E 671 code671
 a666:IsCode E 666 code666
 a673:IsCode E 673 code673
 a665:IsCode E 665 code665
 a660:IsCode E 660 code660
section
variable {E:Env} {H:List AObj} {b:Nat}
end
end Go.Abs.AbsNat

namespace Go.Abs.AbsNat
open Go.Abs.AbsBlb hiding T
open Go.Abs.AbsBlo (CodeD.run OpsD.run jk keyC jt)
open Go.Abs.Short
section
variable {O:List AObj} {b:Nat}
end
def okN (n:Int):Prop:=-9223372036854775808≤n∧n≤9223372036854775807
section
variable {H P:List AObj} {b:Nat}
end
end Go.Abs.AbsNat

namespace Go.Abs.AbsNat
open Go.Abs.AbsBlb hiding T
open Go.Abs.AbsBlo (CodeD.run OpsD.run jk keyC jt)
open Go.Abs.Short
section
variable {E:Env} {H:List AObj} {b:Nat}
end
end Go.Abs.AbsNat
