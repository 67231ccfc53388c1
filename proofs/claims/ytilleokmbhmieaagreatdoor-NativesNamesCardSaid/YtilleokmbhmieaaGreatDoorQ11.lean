/-
  Texts joined.
-/
import Derived.Test.YtilleokmbhmieaaGreatDoorQ0
import Derived.Test.YtilleokmbhmieaaGreatDoorQ10
import Derived.Test.YtilleokmbhmieaaGreatDoorQ9
import Derived.Test.YtilleokmbhmieaaGreatDoorQ5
set_option linter.unusedVariables false
set_option linter.unusedSimpArgs false
set_option maxRecDepth 100000
namespace Go.Abs.AbsBlo
open Go.Abs.AbsBlb hiding T
open Go.Abs.Short
section
variable {E:Env} {P H:List AObj} {b w:Nat}
section
attribute [-simp] getElem?_pos getElem?_neg List.all_eq_true
attribute [local simp] qZ qS nltT nltF iltT iltF ileT nleT dz
theorem s507 {i q m clock:Nat} (hq:P[q]? = some (.cells 1 [.map (some m)])) (hmm:P[m]? = some (.map [] clock)) (hb:b≤P.length) :
  xCall T 507 [.yield i,.ptr (some (q,0))] ⟨P,b,w⟩=some (.tuple [],⟨P,b,w⟩):=by
 have hml:=ah hmm;have hg:(P++[AObj.mapIter (some m) clock [] clock])[P.length]? = some (.mapIter (some m) clock [] clock):=fo _ _;have hgm:(P++[AObj.mapIter (some m) clock [] clock])[m]? = some (.map [] clock):=by rw [ag hml]; exact hmm
 have hset:(P++[AObj.mapIter (some m) clock [] clock]).set P.length .dead=P++[.dead]:=by rw [pz _ _ (aj _),nu]; rfl
 refine xCallW t507 rfl ?_;unfold code507;refine Wp_seq (Wp_x rfl ?_);simp (disch:=omega) [hq,hmm];refine Wp_after (Wp_block (Wp_round ?_));unfold code507L0;refine Wp_live ?_;refine Wp_seq (Wp_after (Wp_seq ?_));refine Wp_next (m:=m) (i:=P.length) (since:=clock) (last:=clock) (clock:=clock) (seen:=[]) (es:=[]) (by simp) (by show b≤_; exact hb) hg hgm (fun e he=>by cases he) (aj _) (fun hall=>?_) (fun e he hne'=>by cases he);refine Wp_x rfl ?_;simp (disch:=omega) [hset];refine Wp_x rfl ?_;simp (disch:=omega) [hset]
theorem s512 {q m clock:Nat} (hq:H[q]? = some (.cells 1 [.map (some m)])) (hmm:H[m]? = some (.map [] clock)) (hb:b≤H.length) :
  xCall T 512 [.slice none 0 (some 0),.func 507 [] [.ptr (some (q,0))]] ⟨H,b,w⟩=some (.slice none 0 (some 0),⟨H,b,w⟩):=by
 have hql:=ah hq;have hml:=ah hmm;have h507:=fun w=>s507 (P:=H++[.cells 1 [.slice none 0 (some 0)],.loop 522 .ready none [(2,.ptr (some (H.length,0)))]]) (b:=b) (w:=w) (i:=H.length+1) (by rw [ag hql]; exact hq) (by rw [ag hml]; exact hmm) (by rw [au]; omega)
 have hg:=j9 H [AObj.cells 1 [.slice none 0 (some 0)],.loop 522 .ready none [(2,.ptr (some (H.length,0)))]] 1;have hs:=set_k H [AObj.cells 1 [.slice none 0 (some 0)],.loop 522 .ready none [(2,.ptr (some (H.length,0)))]] 1 .dead;simp (disch:=omega) [ba t512,code512,h507,loopEnd,callVal,capsOf,hg,hs]
theorem s506 {q m clock:Nat} (hq:H[q]? = some (.cells 1 [.map (some m)])) (hmm:H[m]? = some (.map [] clock)) (hb:b≤H.length) :
  xCall T 506 [.func 507 [] [.ptr (some (q,0))]] ⟨H,b,w⟩=some (.slice none 0 (some 0),⟨H,b,w⟩):=by
 have h512:=fun w=>s512 (b:=b) (w:=w) hq hmm hb
 simp (disch:=omega) [ba t506,code506,h512]
theorem s505z {a:Option (Nat × Nat)} {c:Option Nat}:xCall T 505 [.slice a 0 c] ⟨H,b,w⟩=some (.tuple [],⟨H,b,w⟩):=by
 have h531:∀ w,xCall T 531 [.slice a 0 c,.int .i64 0,.int .i64 0] ⟨H,b,w⟩=some (.tuple [],⟨H,b,w⟩):=fun w=>by simp (disch:=omega) [ba t531,code531,c8,code531L1]
 have h513:∀ l w,xCall T 513 [.slice a 0 c,.int .i64 0,.int .i64 0,.int .i64 l] ⟨H,b,w⟩=some (.tuple [],⟨H,b,w⟩):=fun l w=>by simp (disch:=omega) [ba t513,code513,c8,code513L0,h531]
 obtain ⟨k,hk⟩:=s166 (n:=0) (h:=⟨H,b,H.length⟩) (by omega);simp only [bg] at hk;have hk:=fe sub hk;have hw0:IntKind.u64.wrap 0=0:=by decide
 simp (disch:=omega) [ba t505,code505,hk,h513,hw0]
theorem s497 {q m clock:Nat} (hq:H[q]? = some (.cells 1 [.map (some m)])) (hmm:H[m]? = some (.map [] clock)) (hb:b≤H.length) :
  xCall T 497 [.func 507 [] [.ptr (some (q,0))]] ⟨H,b,w⟩=some (.slice none 0 (some 0),⟨H,b,w⟩):=by
 have h506:=fun w=>s506 (b:=b) (w:=w) hq hmm hb
 have h505:=fun w=>s505z (H:=H) (b:=b) (w:=w) (a:=none) (c:=some 0)
 simp (disch:=omega) [ba t497,code497,h506,h505]
theorem s495z {c:Option Nat} {f:AVal}:xCall T 495 [.slice none 0 c,f] ⟨H,b,w⟩=some (.slice none 0 c,⟨H,b,w⟩):=by
 have h142:∀ w,xCall T 142 [.slice none 0 c,f] ⟨H,b,w⟩=some (.int .i64 (-1),⟨H,b,w⟩):=fun w=>by simp (disch:=omega) [ba t142,code142,c8,code142L0]
 simp (disch:=omega) [ba t495,code495,h142]
theorem s496 {m:Nat} (hm:m < H.length):xCall T 496 [.map (some m)] ⟨H,b,w⟩=some (.func 507 [] [.ptr (some (H.length,0))],⟨H++[.cells 1 [.map (some m)]],b,w⟩):=by simp (disch:=omega) [ba t496,code496,jo,jp,sj,hm]
theorem s480z {I:SI} {F:Fl} {K:StU} (h:StA H I F K) (hx:K.ix=[]) (hb:b≤H.length) {p:Bs}:xCall T 480 [.ptr (some (I.s,0)),.str p] ⟨H,b,w⟩=some (.slice none 0 (some 0),⟨H,b,w⟩):=by
 have gs:=h.s
 have gm:H[I.m]? = some (.map [] K.clock):=by have:=h.m;unfold StU.map at this;rw [hx] at this;exact this
 unfold StU.cells at gs;have gs1:∀ X,(H++X)[I.s]? = _:=fun X=>(ag (ah gs)).trans gs
 have h496:=fun w=>s496 (H:=H++[.cells 1 [.str p]]) (b:=b) (w:=w) (m:=I.m) (by have:=ah gm; rw [au]; omega)
 have h497:=fun w=>s497 (H:=H++[.cells 1 [.str p]]++[.cells 1 [.map (some I.m)]]) (b:=b) (w:=w) (q:=H.length+1) (m:=I.m) (clock:=K.clock) (by rw [a7]; exact j9 H _ 1) (by rw [a7,ag (ah gm)]; exact gm) (by rw [au,au]; omega)
 have h495:=fun P f w=>s495z (H:=P) (b:=b) (w:=w) (c:=some 0) (f:=f)
 simp only [au,b8,dt,dh,a7,e8,fg] at h496 h497;simp (disch:=omega) [ba t480,code480,gs1,h496,h497,h495]
end
end
end Go.Abs.AbsBlo

namespace Go.Abs.AbsNat
open Go.Abs.AbsBlb hiding T
open Go.Abs.AbsBlo (GoodC Fits Kept CommitQ lq CodeD.run OpsD.run s480z)
open Go.Abs.Short
section
variable {H:List AObj} {b w:Nat} {I:SI} {F:Fl} {K:StU}
section
attribute [-simp] getElem?_pos getElem?_neg List.all_eq_true
attribute [local simp] qZ qS nltT nltF iltT iltF ileT nleT dz
theorem s681z (h:StA H I F K) (hx:K.ix=[]) (hb:b≤H.length) {s:Bs} (hs:isName s=true):xCall T 681 [.ptr (some (I.s,0)),.str s] ⟨H,b,w⟩=some (.slice none 0 (some 0),⟨H,b,w⟩):=by
 have ls:=ku hs;have h1:=fun w=>s520 (H:=H) (b:=b) (w:=w) (s:=s) (by omega)
 rw [hs] at h1;have h2:=fun w=>s687 (H:=H) (b:=b) (w:=w) (s:=s) (by omega)
 have h3:=fun w=>fe sub (s480z (b:=b) (w:=w) h hx hb (p:=preB s))
 simp (disch:=omega) [ba t681,code681,h1,h2,h3,c8,code681L0]
theorem p671 (h:StA H I F K) {s k:Bs} {r:RecsU} {cr:Bool} (hs:isName s=true) (hk:isName k=true) {x:Nat × PlU} (hf:findK (keyB s k) K.ix=some x) (hx:x.2.blob=r.bytes) (hr:r.ok) (hl:x.2.blob.length≤1000000) (hb:b≤H.length) :
  EntsEnd H b r.list 671 [.ptr (some (I.s,0)),.str s,.str k,.bool cr] fun x=>.tuple [r.val x,.int .i64 0]:=by
 obtain ⟨H1,A,y,i1,⟨i2,i3⟩,i4,i5⟩:=p675 h hs hk hf hx hr hl hb;obtain ⟨H2,A2,y2,k1,k2,k3,k4,k5⟩:=tt (b:=b) (w':=H.length) (fun y=>.tuple [r.val y,.int .i64 0]) (fun y=>by simp [RecsU.val,AVal.ids,AVal.idsL]) (fun f y=>by simp [RecsU.val,AVal.ren,AVal.renL]) (fun n p o k c=>by simp [RecsU.val,AVal.under,AVal.unders]) (fun n=>by simp [RecsU.val,AVal.under,AVal.unders]) (aj _) i2 i3 i1 (aj _);refine ⟨H2,A2,y2,k1,⟨k2,k4⟩,by rw [k3,i4],fun w=>?_⟩;obtain ⟨a,c,rfl,-⟩:=FRow.row (f:=EV.cells) (fun _=>rfl) i2;unfold RecsU.val at k5 i5 ⊢;simp (disch:=omega) [ba t671,code671,-dg,i5,k5]
theorem s671n (h:StA H I F K) {s k:Bs} (hs:isName s=true) (hk:isName k=true) (hf:findK (keyB s k) K.ix=none) :
  xCall T 671 [.ptr (some (I.s,0)),.str s,.str k,.bool false] ⟨H,b,w⟩=some (.tuple [.agg [.int .u32 0,.int .u32 0,.slice none 0 (some 0)],.int .i64 11],⟨H,b,w⟩):=by
 have h1:=fun w=>s675n (b:=b) (w:=w) h hs hk hf
 simp (disch:=omega) [ba t671,code671,h1]
theorem s671x {s k:Bs} {v:AVal} {cr:Bool} (hl:s.length≤1000000) (hs:isName s=false) :
  xCall T 671 [v,.str s,.str k,.bool cr] ⟨H,b,w⟩=some (.tuple [.agg [.int .u32 0,.int .u32 0,.slice none 0 (some 0)],.int .i64 13],⟨H,b,w⟩):=by
 have h1:=fun w=>s675x (H:=H) (b:=b) (w:=w) (k:=k) (v:=v) hl hs
 simp (disch:=omega) [ba t671,code671,h1]
end
def e671:ACode:=.seq (R [8,10,12,41] [v 40 12,o 41 (.bin .neq (t 40) (n 0))])
 (.after (.cond (t 41) (.seq (R [8,9] [o 42 (.build [.int .u32 0,.int .u32 0,.slice none 0 (some 0)] []),v 43 12,u (.store 3 (t 8) (t 42)),v 9 43])
 (.live [8,9] (.ret))) (.skip)) [8,10])
def f671:ACode:=.seq (R [8,9] [o 44 (.load (some 3) (t 10)),u (.store 3 (t 8) (t 44)),o 9 (.val (n 0))])
 (.live [8,9] (.ret))
theorem body671:code671.body = .seq (R [0,1,2,3,8] [o 8 (.lalloc [.int .u32 0,.int .u32 0,.slice none 0 (some 0)]),o 9 (.val (n 0))])
 (.seq (R [0,1,2,3,8,10,11] [v 14 0,v 15 1,v 16 2,o 17 (.callg 675 [t 14,t 15,t 16]),v 13 17,o 18 (.extract (t 13) 0),o 19 (.extract (t 13) 1),o 10 (.lalloc [.int .u32 0,.int .u32 0,.slice none 0 (some 0)]),u (.store 3 (t 10) (t 18)),v 11 19])
 (.seq (.seq (R [0,1,2,8,10,11,25] [v 20 11,o 21 (.bin .neq (t 20) (n 11)),v 22 21,g 23 22 false (.val (t 3)),g 24 22 false (.un .not (t 23)),o 25 (.pick (t 22) Y (t 24))])
 (.after (.cond (t 25) (.seq (R [8,9] [o 26 (.load (some 3) (t 10)),v 27 11,u (.store 3 (t 8) (t 26)),v 9 27])
 (.live [8,9] (.ret))) (.skip)) [0,1,2,8,10]))
 (.seq (.seq (R [0,1,2,8,10,32] [v 28 0,v 29 1,o 30 (.callg 681 [t 28,t 29]),o 31 (.len .sl (t 30)),o 32 (.bin .geq (t 31) (n 8))])
 (.after (.cond (t 32) (.seq (R [8,9] [o 33 (.build [.int .u32 0,.int .u32 0,.slice none 0 (some 0)] []),u (.store 3 (t 8) (t 33)),o 9 (.val (n 9))])
 (.live [8,9] (.ret))) (.skip)) [0,1,2,8,10]))
 (.seq (R [0,1,2,8,10] [o 34 (.build [.int .u32 0,.int .u32 0,.slice none 0 (some 0)] [(0,1,.const (.int .u32 1))]),u (.store 3 (t 10) (t 34))])
 (.seq (.seq (R [8,10,12] [v 35 0,v 36 1,v 37 2,o 38 (.load (some 3) (t 10)),o 39 (.callg 680 [t 35,t 36,t 37,t 38]),v 12 39])
 e671)
 f671))))):=rfl
def newR:RecsU:=⟨1,0,[]⟩
theorem xt:newR.ok:=⟨by decide,by decide,by decide⟩
theorem pi:newR.bytes.length=10:=by decide
end
section
variable {E:Env} {kl:List Bs} {H:List AObj} {b w:Nat} {I:SI} {F:Fl} {K:StU}
theorem fe671 {P:List AObj} {w':Nat} {x y z:Int} {c:Option Nat}:funcEnd code671 ⟨H,b,w⟩ (.ret,⟨[(8,.var [.int .u32 x,.int .u32 y,.slice none 0 c]),(9,.val (.int .i64 z))],⟨P,b,w'⟩⟩)=some (.tuple [.agg [.int .u32 x,.int .u32 y,.slice none 0 c],.int .i64 z],if w' < H.length then ⟨P,b,min w w'⟩ else ⟨H,b,w⟩):=by
 by_cases c:w' < H.length
 ·simp [funcEnd,code671,resultsL,result1,sget,tupled,dg,Heap.size,c]
 ·simp [funcEnd,code671,resultsL,result1,sget,tupled,dg,Heap.size,c,AVal.under,AVal.unders]
section
attribute [-simp] getElem?_pos getElem?_neg List.all_eq_true
attribute [local simp] qZ qS nltT nltF iltT iltF ileT nleT dz
theorem c671 (hC:Codes E) (hF:IsCode E 680 code680) (hF2:IsCode E 671 code671) (h:SO kl H I F K) (hkl:∀ k ∈ kl,1≤k.length∧k.length≤64) (hkn:kl.length≤12) (hb:I.lo b) (hbN:b≤H.length) (hFn:0 < F.n) {s k:Bs} (hs:isName s=true) (hk:isName k=true) (hkey:keyB s k ∈ kl) (hx:K.ix=[])
  (hroom:RoomFor F K (keyB s k) newR.bytes) (w:Nat) :
  CallD E 671 [.ptr (some (I.s,0)),.str s,.str k,.bool true] ⟨H,b,w⟩ fun v h'=>v = .tuple [.agg [.int .u32 1,.int .u32 0,.slice none 0 (some 0)],.int .i64 0]∧Wrote kl H I F K (keyB s k) newR.bytes b w h':=by
 have hT:=hC.t;have hm:=hC.m;have hIhi:=h.a.hi;have ls:=ku hs;have lk:=ku hk;refine CallD.of_code hF2 rfl ?_;rw [body671];have hen:enter 0 [AVal.ptr (some (I.s,0)),.str s,.str k,.bool true]=[(0,.val (.ptr (some (I.s,0)))),(1,.val (.str s)),(2,.val (.str k)),(3,.val (.bool true))]:=rfl;have hsz:(⟨H,b,w⟩:Heap).size=H.length:=rfl;rw [hen];simp only [hsz];have h675:=fun w=>s675n (b:=b) (w:=w) h.a hs hk (by rw [hx]; rfl)
 have h681:=fun w=>s681z (b:=b) (w:=w) h.a hx hbN hs
 refine CodeD.seq nofun (CodeD.run hT hm (e:=.normal) (st':=⟨[(0,.val (.ptr (some (I.s,0)))),(1,.val (.str s)),(2,.val (.str k)),(3,.val (.bool true)),(8,.var [.int .u32 0,.int .u32 0,.slice none 0 (some 0)])],⟨H,b,H.length⟩⟩) (fun k'=>by simp (disch:=omega) []) ?_);refine CodeD.seq nofun (CodeD.run hT hm (e:=.normal) (st':=⟨[(0,.val (.ptr (some (I.s,0)))),(1,.val (.str s)),(2,.val (.str k)),(3,.val (.bool true)),(8,.var [.int .u32 0,.int .u32 0,.slice none 0 (some 0)]),(10,.var [.int .u32 0,.int .u32 0,.slice none 0 (some 0)]),(11,.val (.int .i64 11))],⟨H,b,H.length⟩⟩) (fun k'=>by simp (disch:=omega) [h675]) ?_)
 refine CodeD.seq nofun (CodeD.run hT hm (e:=.normal) (st':=⟨[(0,.val (.ptr (some (I.s,0)))),(1,.val (.str s)),(2,.val (.str k)),(8,.var [.int .u32 0,.int .u32 0,.slice none 0 (some 0)]),(10,.var [.int .u32 0,.int .u32 0,.slice none 0 (some 0)])],⟨H,b,H.length⟩⟩) (fun k'=>by simp (disch:=omega) []) ?_);refine CodeD.seq nofun (CodeD.run hT hm (e:=.normal) (st':=⟨[(0,.val (.ptr (some (I.s,0)))),(1,.val (.str s)),(2,.val (.str k)),(8,.var [.int .u32 0,.int .u32 0,.slice none 0 (some 0)]),(10,.var [.int .u32 0,.int .u32 0,.slice none 0 (some 0)])],⟨H,b,H.length⟩⟩) (fun k'=>by simp (disch:=omega) [h681]) ?_)
 refine CodeD.seq nofun (CodeD.run hT hm (e:=.normal) (st':=⟨[(0,.val (.ptr (some (I.s,0)))),(1,.val (.str s)),(2,.val (.str k)),(8,.var [.int .u32 0,.int .u32 0,.slice none 0 (some 0)]),(10,.var [.int .u32 1,.int .u32 0,.slice none 0 (some 0)])],⟨H,b,H.length⟩⟩) (fun k'=>by simp (disch:=omega) []) ?_);refine CodeD.seq nofun (CodeD.seq nofun (CodeD.after (CodeD.regionX hT hm ?_)));have hkeep:=c680 (r:=newR) (L:=[]) (a:=none) (c:=some 0) hC hF h hkl hkn hb hbN hFn (s:=s) (k:=k) (by omega) (by omega) hkey xt rfl ⟨fun h=>absurd rfl h⟩ (fun p hp=>by cases hp) (fun p o e=>by cases e) (by rw [pi]; decide) hroom H.length;have hnv:newR.val (.slice none 0 (some 0)) = .agg [.int .u32 1,.int .u32 0,.slice none 0 (some 0)]:=rfl;rw [dt,hnv] at hkeep
 refine OpsD.run (l:=[v 35 0,v 36 1,v 37 2,o 38 (.load (some 3) (t 10))]) (r:=[o 39 (.callg 680 [t 35,t 36,t 37,t 38]),v 12 39]) (s1:=[(38,.val (.agg [.int .u32 1,.int .u32 0,.slice none 0 (some 0)])),(37,.val (.str k)),(36,.val (.str s)),(35,.val (.ptr (some (I.s,0)))),(0,.val (.ptr (some (I.s,0)))),(1,.val (.str s)),(2,.val (.str k)),(8,.var [.int .u32 0,.int .u32 0,.slice none 0 (some 0)]),(10,.var [.int .u32 1,.int .u32 0,.slice none 0 (some 0)])]) (h1:=⟨H,b,H.length⟩) (fun k'=>by simp (disch:=omega) []) ?_;refine OpsD.call (g:=680) (xs:=[t 35,t 36,t 37,t 38]) rfl rfl rfl hkeep fun vv hh hR'=>?_
 obtain ⟨rfl,P,F',K',w',rfl,s1,s2,s3,s4,s5,s6⟩:=hR';refine OpsD.run (l:=[v 12 39]) (r:=[]) (s1:=[(12,.val (.int .i64 0)),(39,.val (.int .i64 0)),(38,.val (.agg [.int .u32 1,.int .u32 0,.slice none 0 (some 0)])),(37,.val (.str k)),(36,.val (.str s)),(35,.val (.ptr (some (I.s,0)))),(0,.val (.ptr (some (I.s,0)))),(1,.val (.str s)),(2,.val (.str k)),(8,.var [.int .u32 0,.int .u32 0,.slice none 0 (some 0)]),(10,.var [.int .u32 1,.int .u32 0,.slice none 0 (some 0)])]) (h1:=⟨P,b,w'⟩) (fun k'=>by simp (disch:=omega) []) (OpsD.done ?_);simp only []
 have hk1:keepK [8,10,12] [(12,Slot.val (.int .i64 0)),(39,.val (.int .i64 0)),(38,.val (.agg [.int .u32 1,.int .u32 0,.slice none 0 (some 0)])),(37,.val (.str k)),(36,.val (.str s)),(35,.val (.ptr (some (I.s,0)))),(0,.val (.ptr (some (I.s,0)))),(1,.val (.str s)),(2,.val (.str k)),(8,.var [.int .u32 0,.int .u32 0,.slice none 0 (some 0)]),(10,.var [.int .u32 1,.int .u32 0,.slice none 0 (some 0)])]=[(8,.var [.int .u32 0,.int .u32 0,.slice none 0 (some 0)]),(10,.var [.int .u32 1,.int .u32 0,.slice none 0 (some 0)]),(12,.val (.int .i64 0))]:=by simp
 rw [hk1];refine CodeD.run hT hm (e:=.normal) (st':=⟨[(8,.var [.int .u32 0,.int .u32 0,.slice none 0 (some 0)]),(10,.var [.int .u32 1,.int .u32 0,.slice none 0 (some 0)])],⟨P,b,w'⟩⟩) (fun k'=>by simp (disch:=omega) [e671]) ?_;refine CodeD.run hT hm (e:=.ret) (st':=⟨[(8,.var [.int .u32 1,.int .u32 0,.slice none 0 (some 0)]),(9,.val (.int .i64 0))],⟨P,b,w'⟩⟩) (fun k'=>by simp (disch:=omega) [f671]) ?_;refine ⟨_,_,fe671,rfl,?_⟩;rw [if_pos (by omega)];exact ⟨P,F',K',min w w',rfl,s1,s2,s3,by omega,by omega,s6⟩
end
end
end Go.Abs.AbsNat

namespace Go.Abs.AbsNat
open Go.Abs.AbsBlb hiding T
open Go.Abs.AbsBlo (GoodC Fits Kept CommitQ lq CodeD.run OpsD.run s480z)
open Go.Abs.Short
def wOf (x:AVal) (w:Nat):Nat:=match x with | .slice (some (i,_)) _ _=>min w i | _=>w
theorem add_len {α:Type} {N e b:Nat} {f:α→List AVal} {A:List α} {P:List AObj} {x:AVal} (h:FRow N e f A P x) (hf:∀ y,(f y).length=e) (hb:b≤N) {by':Nat} (hl:(A.length+1)*by'≤140737488355328) (hl2:A.length≤1000000000) (y:α) :
  ∃ P',P'.length=P.length+2∧∀ w,du e by' ⟨P++[.cells e (f y)],b,w⟩ x (.slice (some (P.length,0)) 1 (some 1))=some (.slice (some (P.length+1,0)) (A.length+1) none,⟨P',b,wOf x w⟩):=by
 have hz:∀ w,ic e ⟨P++[.cells e (f y)],b,w⟩ (.slice (some (P.length,0)) 1 (some 1))=some (f y):=fun w =>
  tm (by show (P++[AObj.cells e (f y)])[P.length]? = _; rw [fo]; rfl) (by rw [hf,u0])
 rcases h with ⟨rfl,rfl⟩ | ⟨h1,i,h2,rfl,h4⟩
 ·refine ⟨P++[.cells e (f y),.cells e (f y)],by simp,fun w=>?_⟩;unfold du;simp only [hz,vw,aApp,alen];have q1:¬ (1:Nat)=0:=by decide
  have q2:(0+1)*by'≤140737488355328∧0+1≤9223372036854775807:=⟨by simpa using hl,by decide⟩
  simp only [eq_false q1,eq_true q2,if_false,if_true];simp [Heap.push,Heap.size,wOf]
 ·have hi:=ah h4;have h5:(P++[AObj.cells e (f y)])[i]? = some (.cells e (A.flatMap f)):=by rw [ag hi]; exact h4
  have hfl:(A.flatMap f).length=A.length*e:=y5 f e hf A;have hz1:∀ w,ic e ⟨P++[.cells e (f y)],b,w⟩ (.slice (some (i,0)) A.length none)=some (A.flatMap f):=fun w=>tm h5 hfl
  have hr:∀ w,rowIs ⟨P++[.cells e (f y)],b,w⟩ i e=true:=fun w=>by unfold rowIs Heap.get;simp only [h5];simp
  refine ⟨P.set i .dead++[.cells e (f y),.cells e (A.flatMap f++f y)],by simp,fun w=>?_⟩;unfold du;simp only [hz,hz1,aApp,alen];have q1:¬ (1:Nat)=0:=by decide
  have q2:(A.length+1)*by'≤140737488355328∧A.length+1≤9223372036854775807:=⟨hl,by omega⟩
  have q3:¬ (none:Option Nat)=some A.length:=by simp
  have q4:(⟨P++[AObj.cells e (f y)],b,w⟩:Heap).base≤i∧rowIs ⟨P++[AObj.cells e (f y)],b,w⟩ i e=true:=⟨by show b≤i; omega,hr w⟩;simp only [eq_false q1,eq_true q2,eq_false q3,eq_true q4,if_false,if_true];have hs:(P++[AObj.cells e (f y)]).length=P.length+1:=by simp
  simp only [Heap.push,Heap.put,Heap.size,nr _ _ hi,bf,hs,a7,e8,fg,wOf]
section
variable {M:List AObj} {b:Nat}
section
attribute [-simp] getElem?_pos getElem?_neg List.all_eq_true
attribute [local simp] qZ qS nltT nltF iltT iltF ileT nleT dz
theorem p672 {N ro db ib next ver:Nat} {A:List EV} {x dv:AVal} {data:Bs} (hr:M[ro]? = some (.cells 3 [.int .u32 next,.int .u32 ver,x])) (hd:M[db]? = some (.cells 1 [dv])) (hi:M[ib]? = some (.cells 1 [.int .u32 0])) (hx:FRow N 2 EV.cells A M x) (hN:ib < N∧db < N∧N≤ro) (hb:b≤ib) (hdv:BlobV M dv data) (hdl:data.length≤512) (hA:A.length < 64) (hAo:∀ p ∈ A,EV.ok M p) (hn:next < 4294967295) :
  ∃ M' x',∃ nx:Nat→Nat,M'[ib]? = some (.cells 1 [.int .u32 next])∧M'[ro]? = some (.cells 3 [.int .u32 (next+1:Nat),.int .u32 ver,x'])∧FRow N 2 EV.cells (A++[(⟨next,data⟩,dv)]) M' x'∧M.length≤M'.length∧(∀ (k:Nat) (o:AObj),k≠ib→k≠ro→M[k]? = some o→(N≤k→∀ cs,o ≠ .cells 2 cs)→M'[k]? = some o)∧(∀ w,nx w≤ib∧min w ib≤nx w) ∧
   ∀ w,xCall T 672 [.ptr (some (ro,0)),.ptr (some (db,0)),.ptr (some (ib,0))] ⟨M,b,w⟩=some (.int .i64 0,⟨M',b,nx w⟩):=by
 have hrl:=ah hr;have hil:=ah hi;obtain ⟨da,dc,rfl,did,-⟩:=id hdv;have s1:∀ (k:Nat) (o:AObj),k≠ib→M[k]? = some o→(M.set ib (.cells 1 [.int .u32 next]))[k]? = some o:=fun k o hk ho=>by rw [av (fun e=>hk e.symm)]; exact ho
 have hi1:=ju hi (y:=.cells 1 [.int .u32 next]);have hr1:=s1 _ _ (by omega) hr;have hdi:db≠ib:=fun e=>by rw [e,hi] at hd; cases hd
 have hd1:=s1 _ _ hdi hd;have fr1:=hx.mono fun k o hk ho=>s1 k o (by omega) ho
 have hl1:(M.set ib (.cells 1 [.int .u32 next])).length=M.length:=bf;obtain ⟨a0,c0,rfl,-,ha0⟩:=FRow.row (f:=EV.cells) (fun _=>rfl) hx;generalize hM1:M.set ib (.cells 1 [.int .u32 next])=M1 at *;obtain ⟨M2,x2,n2,f1,f2,f3,f4,f5⟩:=fr1.add' (b:=b) (by':=32) (fun _=>rfl) (by omega) (by omega) (by omega) (by omega) (⟨next,data⟩,.slice da data.length dc);have hr2:=f2 _ _ hr1 fun _ cs e=>by simp at e
 have hi2:=f2 _ _ hi1 fun h=>by omega
 obtain ⟨P2,hP2,eP2⟩:=add_len (b:=b) (by':=32) fr1 (fun _=>rfl) (by omega) (by omega) (by omega) ((⟨next,data⟩:EnU),AVal.slice da data.length dc)
 have hn2:∀ w,x2 = .slice (some (M1.length+1,0)) (A.length+1) none∧M2=P2∧n2 w=wOf (.slice a0 A.length c0) w:=fun w=>by have:=eP2 w;rw [f5] at this;simp only [c9,gu,Heap.mk.injEq] at this;exact ⟨this.1,this.2.1,this.2.2.2⟩
 obtain ⟨rfl,rfl,-⟩:=hn2 0;have hn2:=fun w=>(hn2 w).2.2
 rw [hl1] at hP2 f1 f5
 have hrow:M2[M.length+1]? = some (.cells 2 ((A++[((⟨next,data⟩:EnU),AVal.slice da data.length dc)]).flatMap EV.cells)):=by
  rcases f1 with ⟨h,-⟩ | ⟨-,q5,-,h,h5⟩
  ·simp at h
  ·simp only [AVal.slice.injEq,c9,gu] at h;rw [h.1.1]; exact h5
 have hr3:=ju hr2 (y:=.cells 3 [.int .u32 next,.int .u32 ver,.slice (some (M.length+1,0)) (A.length+1) none]);have hset:∀ y z,(M2.set ro y).set ro z=M2.set ro z:=fun y z=>List.set_set ..
 refine ⟨M2.set ro (.cells 3 [.int .u32 (next+1:Nat),.int .u32 ver,.slice (some (M.length+1,0)) (A.length+1) none]),.slice (some (M.length+1,0)) (A.length+1) none,fun w=>min w (n2 ib),?_,ju hr2,?_,?_,?_,fun w=>?_,fun w=>?_⟩
 ·rw [av (by omega)]; exact hi2
 ·rcases f1 with ⟨h,-⟩ | ⟨h0,q5,h1,h2,h3⟩
  ·simp at h
  ·refine .inr ⟨h0,q5,h1,h2,?_⟩;rw [av (fun e=>by rw [← e,hr2] at h3; simp at h3)]; exact h3
 ·rw [bf]; omega
 ·intro k o h1 h2 h3 h4;rw [av (fun e=>h2 e.symm)];exact f2 _ _ (s1 _ _ h1 h3) h4
 ·have:=f4 ib;show min w (n2 ib)≤ib∧min w ib≤min w (n2 ib);omega
 ·have hw:=f4 ib;have d1:¬ ((512:Int) < data.length):=by omega
  have d2:¬ ((64:Int)≤A.length):=by omega
  have d3:¬ (next=4294967295):=by omega
  have d4:¬ ((next:Int)=4294967295):=by omega
  have wn:IntKind.u32.wrap ((next:Int)+1)=(next:Int)+1:=by unfold IntKind.wrap;show (if (false && _)=true then _ else (_ % 2 ^ 32))=_;simp; omega
  have e1:((next+1:Nat):Int)=(next:Int)+1:=by omega
  unfold EV.cells at f5;simp only at f5;have hg5:∀ y,(M1++[y])[M.length]? = some y:=fun y=>by rw [← hl1]; exact fo _ _
  have hids:∀ m ds,(AVal.idsL ((A++[((⟨next,data⟩:EnU),AVal.slice da data.length dc)]).flatMap EV.cells)).all (okId M.length m ds)=true:=fun m ds=>by
   rw [ai];intro i hi
   have:i < M.length:=by
    rw [py,df] at hi;obtain ⟨v,hv,hi⟩:=hi;obtain ⟨p,hp,hv⟩:=df.1 hv
    have key:∀ v l,BlobV M v l→∀ i ∈ v.ids,i < M.length:=fun v l hv i hi=>by
     obtain ⟨a,c,rfl,h,-⟩:=hv;cases a with
     | none=>simp [AVal.ids] at hi
     | some q=>simp [AVal.ids] at hi; rw [hi]; exact h q.1 q.2 rfl
    have hv:v = .int .u32 p.1.id∨v=p.2:=by unfold EV.cells at hv;simpa using hv
    rcases hv with rfl | rfl
    ·simp [AVal.ids] at hi
    ·rcases cf.1 hp with hp | hp
     ·exact key _ _ (hAo p hp) i hi
     ·rw [b9.1 hp] at hi;exact key _ _ hdv i hi
   unfold okId;simp [this]
  generalize (A++[((⟨next,data⟩:EnU),AVal.slice da data.length dc)]).flatMap EV.cells=Y at *;generalize data.length=dl at *;rw [e1];rcases a0 with _ | ⟨ap,ao⟩
  ·rcases da with _ | ⟨dp,dq⟩
   ·simp (disch:=omega) [ba t672,code672,-du,-el,g7,g8,fq,bi,hr,hd,hi,hr1,hd1,hi1,hl1,hr2,hr3,hset,f5,d1,d2,d3,d4,wn,hg5,hM1,hP2,hrow,hids,hn2,wOf]
   ·have hdp:=did dp dq rfl;simp (disch:=omega) [ba t672,code672,-du,-el,g7,g8,fq,bi,hr,hd,hi,hr1,hd1,hi1,hl1,hr2,hr3,hset,f5,d1,d2,d3,d4,wn,hg5,hM1,hP2,hrow,hids,hn2,wOf,hdp]
  ·have hap:=(ha0 ap ao rfl).2;have hapn:¬ ap=M.length+1:=by omega
   have hapi:=(ha0 ap ao rfl).1
   have hapr:¬ ap=ro:=fun e=>by
    rcases hx with ⟨-,e2⟩ | ⟨-,q,-,e2,e3⟩
    ·cases e2
    ·simp only [AVal.slice.injEq,c9,gu] at e2;rw [← e2.1.1,e,hr] at e3; simp at e3
   rcases da with _ | ⟨dp,dq⟩
   ·simp (disch:=omega) [ba t672,code672,-du,-el,g7,g8,fq,bi,hr,hd,hi,hr1,hd1,hi1,hl1,hr2,hr3,hset,f5,d1,d2,d3,d4,wn,hg5,hM1,hP2,hrow,hids,hn2,wOf,hap,hapn,hapr]
   ·have hdp:=did dp dq rfl;simp (disch:=omega) [ba t672,code672,-du,-el,g7,g8,fq,bi,hr,hd,hi,hr1,hd1,hi1,hl1,hr2,hr3,hset,f5,d1,d2,d3,d4,wn,hg5,hM1,hP2,hrow,hids,hn2,wOf,hap,hapn,hapr,hdp]
end
end
end Go.Abs.AbsNat

namespace Go.Abs.AbsNat
open Go.Abs.AbsBlb hiding T
open Go.Abs.AbsBlo (GoodC Fits Kept CommitQ lq CodeD.run OpsD.run s480z)
open Go.Abs.Short
def addR (r:RecsU) (data:Bs):RecsU:=⟨r.next+1,r.ver+1,r.list++[⟨r.next,data⟩]⟩
theorem ye {next:Nat} {data:Bs} (hd:data.length≤512):∀ {L:List EnU} {before:Nat},before < next→rightL next before L=true→rightL (next+1) before (L++[⟨next,data⟩])=true
 | [],before,hb,_=>by
  show (decide (before < next) && decide (next < next+1) && decide (data.length≤512) && true)=true
  simp [hb,hd]
 | e :: L,before,hb,h=>by unfold rightL at h;simp only [aw,decide_eq_true_eq] at h;have ih:=ye hd (before:=e.id) h.1.1.2 h.2;rw [e8];unfold rightL;simp only [aw,decide_eq_true_eq];exact ⟨⟨⟨h.1.1.1,by have:=h.1.1.2; omega⟩,h.1.2⟩,ih⟩
theorem addR_ok {r:RecsU} {data:Bs} (h:r.ok) (hd:data.length≤512) (hl:r.list.length < 64) (hn:r.next < 4294967295) (hv:r.ver < 4294967295):(addR r data).ok:=by have hr:=h.rr;unfold rightR at hr;simp only [aw,decide_eq_true_eq] at hr;refine ⟨?_,by show r.next+1 < _; omega,by show r.ver+1 < _; omega⟩;unfold rightR addR;simp only [aw,decide_eq_true_eq,au,b8,dt];exact ⟨ye hd hr.2.2 hr.1,by omega,by omega⟩
def g673:ACode:=.seq (R [8] [v 34 0,v 35 1,v 36 2,o 37 (.load (some 3) (t 9)),o 38 (.callg 680 [t 34,t 35,t 36,t 37]),v 8 38])
 (.live [8] (.ret))
def d673:ACode:=.seq (R [0,1,2,9,11] [v 22 3,o 23 (.call (t 22) [t 9]),v 11 23])
 (.seq (R [0,1,2,9,11,25] [v 24 11,o 25 (.bin .neq (t 24) (n 0))])
 (.after (.cond (t 25) (.seq (R [8] [v 26 11,v 8 26])
 (.live [8] (.ret))) (.skip)) [0,1,2,9]))
theorem body673:code673.body = .seq (R [0,1,2,3] [o 8 (.val (n 0))])
 (.seq (R [0,1,2,3,9,10] [v 13 0,v 14 1,v 15 2,o 16 (.callg 675 [t 13,t 14,t 15]),v 12 16,o 17 (.extract (t 12) 0),o 18 (.extract (t 12) 1),o 9 (.alloc 3 [.int .u32 0,.int .u32 0,.slice none 0 (some 0)]),u (.store 3 (t 9) (t 17)),v 10 18])
 (.seq (.seq (R [0,1,2,3,9,10,20] [v 19 10,o 20 (.bin .neq (t 19) (n 0))])
 (.after (.cond (t 20) (.seq (R [8] [v 21 10,v 8 21])
 (.live [8] (.ret))) (.skip)) [0,1,2,3,9]))
 (.seq d673
 (.seq (.seq (R [0,1,2,9,29] [o 27 (.faddr (t 9) 1),o 28 (.load none (t 27)),o 29 (.bin .lss (t 28) (.const (.int .u32 4294967295)))])
 (.after (.cond (t 29) (R [0,1,2,9] [o 30 (.faddr (t 9) 1),o 31 (.load none (t 30)),o 32 (.bin .add (t 31) (.const (.int .u32 1))),o 33 (.faddr (t 9) 1),u (.store 1 (t 33) (t 32))]) (.skip)) [0,1,2,9]))
 g673)))):=rfl
section
variable {E:Env} {kl:List Bs} {H:List AObj} {b w:Nat} {I:SI} {F:Fl} {K:StU}
theorem fe673 {P:List AObj} {w':Nat} {v:Int}:funcEnd code673 ⟨H,b,w⟩ (.ret,⟨[(8,.val (.int .i64 v))],⟨P,b,w'⟩⟩)=some (.int .i64 v,if w' < H.length then ⟨P,b,min w w'⟩ else ⟨H,b,w⟩):=by
 by_cases c:w' < H.length
 ·simp [funcEnd,code673,resultsL,result1,sget,tupled,dg,Heap.size,c]
 ·simp [funcEnd,code673,resultsL,result1,sget,tupled,dg,Heap.size,c,AVal.under]
section
attribute [-simp] getElem?_pos getElem?_neg List.all_eq_true
attribute [local simp] qZ qS nltT nltF iltT iltF ileT nleT dz
theorem c673 (hC:Codes E) (hF:IsCode E 680 code680) (hF2:IsCode E 673 code673) (h:SO kl H I F K) (hkl:∀ k ∈ kl,1≤k.length∧k.length≤64) (hkn:kl.length≤12) (hb:I.lo b) (hbN:b≤H.length) (hFn:0 < F.n) {s k:Bs} (hs:isName s=true) (hk:isName k=true) (hkey:keyB s k ∈ kl)
  {r:RecsU} (hr:r.ok) {x:Nat × PlU} (hf:findK (keyB s k) K.ix=some x) (hx:x.2.blob=r.bytes) (hxl:x.2.blob.length≤1000000) {dv:AVal} {data:Bs} (hdv:BlobV H dv data) (hd:data.length≤512) (hl:r.list.length < 64) (hn:r.next < 4294967295) (hv:r.ver < 4294967295) (hlen:(addR r data).bytes.length≤4096)
  (hroom:RoomFor F K (keyB s k) (addR r data).bytes) (w:Nat) :
  CallD E 673 [.ptr (some (I.s,0)),.str s,.str k,.func 672 [] [.ptr (some (H.length,0)),.ptr (some (H.length+1,0))]] ⟨H++[.cells 1 [dv],.cells 1 [.int .u32 0]],b,w⟩ fun v h'=>v = .int .i64 0∧∃ P F' K' w',h'=⟨P,b,w'⟩∧P[H.length+1]? = some (.cells 1 [.int .u32 r.next])∧StF I H P∧SO kl P I F' K'∧FlE F F'∧min w b≤w'∧w'≤I.hi∧(∃ x,findK (keyB s k) K'.ix=some x∧x.2.blob=(addR r data).bytes)∧K'.head ≠ -1∧K'.at_≤K.at_+12+(32+(keyB s k).length+(addR r data).bytes.length):=by
 have hT:=hC.t;have hm:=hC.m;have hIhi:=h.a.hi;have hIfl:=ah h.a.fl.f;have ls:=ku hs;have lk:=ku hk;refine CallD.of_code hF2 rfl ?_;rw [body673];have h0:=lq h [.cells 1 [dv],.cells 1 [.int .u32 0]];have hp0:Pre H (H++[AObj.cells 1 [dv],.cells 1 [.int .u32 0]]):=Pre.app _ _;have hl0:(H++[AObj.cells 1 [dv],.cells 1 [.int .u32 0]]).length=H.length+2:=by simp
 have hd0:=fo H [AObj.cells 1 [dv],.cells 1 [.int .u32 0]];have hi0:=j9 H [AObj.cells 1 [dv],.cells 1 [.int .u32 0]] 1;generalize H++[AObj.cells 1 [dv],.cells 1 [.int .u32 0]]=M0 at *;have hen:enter 0 [AVal.ptr (some (I.s,0)),.str s,.str k,.func 672 [] [.ptr (some (H.length,0)),.ptr (some (H.length+1,0))]]=[(0,.val (.ptr (some (I.s,0)))),(1,.val (.str s)),(2,.val (.str k)),(3,.val (.func 672 [] [.ptr (some (H.length,0)),.ptr (some (H.length+1,0))]))]:=rfl;have hsz:(⟨M0,b,w⟩:Heap).size=M0.length:=rfl;rw [hen];simp only [hsz];obtain ⟨H2,A,y,i1,i2,i3,i4⟩:=p675 (b:=b) h0.a hs hk hf hx hr hxl (by omega);have hp2:=i1.len;obtain ⟨ya,yc,rfl,j1,j2,j3⟩:=i2.row;obtain ⟨i2a,i2b⟩:=i2
 refine CodeD.seq nofun (CodeD.run hT hm (e:=.normal) (st':=⟨[(0,.val (.ptr (some (I.s,0)))),(1,.val (.str s)),(2,.val (.str k)),(3,.val (.func 672 [] [.ptr (some (H.length,0)),.ptr (some (H.length+1,0))]))],⟨M0,b,M0.length⟩⟩) (fun k'=>by simp (disch:=omega) []) ?_);have hset2:∀ y z:AObj,(H2++[y]).set H2.length z=H2++[z]:=fun y z=>set_k0 H2 [y] z
 unfold RecsU.val at i4;refine CodeD.seq nofun (CodeD.run hT hm (e:=.normal) (st':=⟨[(0,.val (.ptr (some (I.s,0)))),(1,.val (.str s)),(2,.val (.str k)),(3,.val (.func 672 [] [.ptr (some (H.length,0)),.ptr (some (H.length+1,0))])),(9,.val (.ptr (some (H2.length,0)))),(10,.val (.int .i64 0))],⟨H2++[.cells 3 [.int .u32 r.next,.int .u32 r.ver,.slice ya A.length yc]],b,M0.length⟩⟩) (fun k'=>by simp (disch:=omega) [i4,hset2]) ?_);refine CodeD.seq nofun (CodeD.run hT hm (e:=.normal) (st':=⟨[(0,.val (.ptr (some (I.s,0)))),(1,.val (.str s)),(2,.val (.str k)),(3,.val (.func 672 [] [.ptr (some (H.length,0)),.ptr (some (H.length+1,0))])),(9,.val (.ptr (some (H2.length,0))))],⟨H2++[.cells 3 [.int .u32 r.next,.int .u32 r.ver,.slice ya A.length yc]],b,M0.length⟩⟩) (fun k'=>by simp (disch:=omega) []) ?_);have hAl:A.length=r.list.length:=by rw [← i3,bt]
 have up:∀ (k:Nat) (o:AObj) z,H2[k]? = some o→(H2++[z])[k]? = some o:=fun k o z hk=>by rw [ag (ah hk)]; exact hk
 have hdH:∀ (q o n:Nat) c,dv = .slice (some (q,o)) n c→q < H.length:=fun q o n c e=>by obtain ⟨a,c,rfl,h1,-⟩:=hdv;simp only [AVal.slice.injEq] at e;exact h1 q o e.1
 obtain ⟨M',x',nx,q1,q2,q3,q4,q5,q6,q7⟩:=p672 (b:=b) (N:=M0.length) (ro:=H2.length) (db:=H.length) (ib:=H.length+1) (next:=r.next) (ver:=r.ver) (A:=A) (x:=.slice ya A.length yc) (dv:=dv) (data:=data) (M:=H2++[.cells 3 [.int .u32 r.next,.int .u32 r.ver,.slice ya A.length yc]]) (fo _ _) (up _ _ _ (i1 _ _ hd0)) (up _ _ _ (i1 _ _ hi0)) (i2a.mono fun k o _ ho=>up _ _ _ ho) (by omega) (by omega) (hdv.mono (by rw [au]; omega) fun q o n c e y hy=>up _ _ _ (i1 _ _ (hp0 _ _ hy))) hd (by omega) (fun p hp=>(j3 p hp).mono (by rw [au]; omega) fun q o n c e y hy=>up _ _ _ hy) hn;obtain ⟨L,hL⟩:∃ L:List EV,A++[((⟨r.next,data⟩:EnU),dv)]=L:=⟨_,rfl⟩;rw [hL] at q3;refine CodeD.seq nofun ?_;unfold d673
 refine CodeD.seq nofun (CodeD.run hT hm (e:=.normal) (st':=⟨[(0,.val (.ptr (some (I.s,0)))),(1,.val (.str s)),(2,.val (.str k)),(9,.val (.ptr (some (H2.length,0)))),(11,.val (.int .i64 0))],⟨M',b,nx M0.length⟩⟩) (fun k'=>by simp (disch:=omega) [q7]) ?_);refine CodeD.run hT hm (e:=.normal) (st':=⟨[(0,.val (.ptr (some (I.s,0)))),(1,.val (.str s)),(2,.val (.str k)),(9,.val (.ptr (some (H2.length,0))))],⟨M',b,nx M0.length⟩⟩) (fun k'=>by simp (disch:=omega) []) ?_
 have wn:IntKind.u32.wrap ((r.ver:Int)+1)=(r.ver:Int)+1:=by unfold IntKind.wrap;show (if (false && _)=true then _ else (_ % 2 ^ 32))=_;simp; omega
 have ev:((r.ver+1:Nat):Int)=(r.ver:Int)+1:=by omega
 obtain ⟨xa,xc,rfl,x1,x2⟩:=FRow.row (f:=EV.cells) (fun _=>rfl) q3;have hnx:=q6 M0.length
 refine CodeD.seq nofun (CodeD.run hT hm (e:=.normal) (st':=⟨[(0,.val (.ptr (some (I.s,0)))),(1,.val (.str s)),(2,.val (.str k)),(9,.val (.ptr (some (H2.length,0))))],⟨M'.set H2.length (.cells 3 [.int .u32 (r.next+1:Nat),.int .u32 (r.ver+1:Nat),.slice xa L.length xc]),b,nx M0.length⟩⟩) (fun k'=>by
  rw [ev];generalize ((r.next+1:Nat):Int)=nn at *;have hle:nx M0.length≤H2.length:=by omega
  simp (disch:=omega) [q2,hv,wn,hle]) ?_)
 have r2:=ju q2 (y:=.cells 3 [.int .u32 (r.next+1:Nat),.int .u32 (r.ver+1:Nat),.slice xa L.length xc]);have hM'l:(M'.set H2.length (.cells 3 [.int .u32 (r.next+1:Nat),.int .u32 (r.ver+1:Nat),.slice xa L.length xc])).length=M'.length:=bf
 have keep:∀ (k:Nat) (o:AObj),k≠H2.length→M'[k]? = some o→(M'.set H2.length (.cells 3 [.int .u32 (r.next+1:Nat),.int .u32 (r.ver+1:Nat),.slice xa L.length xc]))[k]? = some o:=fun k o hk ho=>by rw [av (fun e=>hk e.symm)]; exact ho
 generalize M'.set H2.length (.cells 3 [.int .u32 (r.next+1:Nat),.int .u32 (r.ver+1:Nat),.slice xa L.length xc])=M2 at *
 have low:∀ (k:Nat) (o:AObj),k < H.length→H[k]? = some o→M2[k]? = some o:=fun k o hk ho =>
  keep k o (by omega) (q5 k o (by omega) (by omega) (up _ _ _ (i1 _ _ (hp0 _ _ ho))) fun h=>by omega)
 have hi2:=keep _ _ (by omega) q1;have hlen1:H2.length+1≤M'.length:=by rw [au] at q4; exact q4
 have hSO:SO kl M2 I F K:=⟨h.a.low (N:=H.length) ⟨hIhi,hIfl⟩ low,h.v⟩;have hSF:StF I H M2:=⟨by omega,fun k o ho _ _ _ _ _=>low k o (ah ho) ho⟩
 have hRow:Row M2 2 EV.cells L xa:=by
  rcases q3 with ⟨e,-⟩ | ⟨-,qq,hq,e,hrow⟩
  ·rw [e] at hL; simp at hL
  ·simp only [AVal.slice.injEq] at e;rw [e.1];exact Row.mk0 (fun _=>rfl) (keep _ _ (fun e=>by rw [e,q2] at hrow; simp at hrow) hrow)
 have hokM:∀ p ∈ L,EV.ok M2 p:=fun p hp=>by
  rw [← hL] at hp;rcases cf.1 hp with hp | hp
  ·refine (j3 p hp).mono (by omega) fun q o n c e y hy=>?_
   obtain ⟨g1,X,g2⟩:=(i2b p hp).2 q o n c e;rw [hy] at g2;cases g2;have:=ah hy;exact keep _ _ (by omega) (q5 _ _ (by omega) (by omega) (up _ _ _ hy) fun _ cs e=>by simp at e)
  ·rw [b9.1 hp];exact hdv.mono (by omega) fun q o n c e y hy=>low q y (hdH q o n c e) hy
 have haM:∀ p o,xa=some (p,o)→p < M2.length:=fun p o e=>by have:=x2 p o e; omega
 have hkeep:=c680 (r:=addR r data) (a:=xa) (c:=xc) hC hF hSO hkl hkn hb (by omega) hFn (s:=s) (k:=k) (by omega) (by omega) hkey (addR_ok hr hd hl hn hv) (by rw [← hL,kg,i3]; rfl) hRow hokM haM hlen hroom (nx M0.length);have hval:(addR r data).val (.slice xa L.length xc) = .agg [.int .u32 (r.next+1:Nat),.int .u32 (r.ver+1:Nat),.slice xa L.length xc]:=rfl;rw [hval] at hkeep;generalize hal:L.length=al at *;unfold g673;refine CodeD.seq nofun (CodeD.after (CodeD.regionX hT hm ?_))
 refine OpsD.run (l:=[v 34 0,v 35 1,v 36 2,o 37 (.load (some 3) (t 9))]) (r:=[o 38 (.callg 680 [t 34,t 35,t 36,t 37]),v 8 38]) (s1:=[(37,.val (.agg [.int .u32 (r.next+1:Nat),.int .u32 (r.ver+1:Nat),.slice xa al xc])),(36,.val (.str k)),(35,.val (.str s)),(34,.val (.ptr (some (I.s,0)))),(0,.val (.ptr (some (I.s,0)))),(1,.val (.str s)),(2,.val (.str k)),(9,.val (.ptr (some (H2.length,0))))]) (h1:=⟨M2,b,nx M0.length⟩) (fun k'=>by generalize ((r.next+1:Nat):Int)=nn at *;generalize ((r.ver+1:Nat):Int)=vv at *;simp (disch:=omega) [r2]) ?_
 refine OpsD.call (g:=680) (xs:=[t 34,t 35,t 36,t 37]) rfl rfl rfl hkeep fun vv hh hR'=>?_
 obtain ⟨rfl,P,F',K',w',rfl,t1,t2,t3,t4,t5,t6,t7,t8⟩:=hR';refine OpsD.run (l:=[v 8 38]) (r:=[]) (s1:=[(8,.val (.int .i64 0)),(38,.val (.int .i64 0)),(37,.val (.agg [.int .u32 (r.next+1:Nat),.int .u32 (r.ver+1:Nat),.slice xa al xc])),(36,.val (.str k)),(35,.val (.str s)),(34,.val (.ptr (some (I.s,0)))),(0,.val (.ptr (some (I.s,0)))),(1,.val (.str s)),(2,.val (.str k)),(9,.val (.ptr (some (H2.length,0))))]) (h1:=⟨P,b,w'⟩) (fun k'=>by simp (disch:=omega) []) (OpsD.done ?_);refine CodeD.run hT hm (e:=.ret) (st':=⟨[(8,.val (.int .i64 0))],⟨P,b,w'⟩⟩) (fun k'=>by simp (disch:=omega) []) ?_;refine ⟨_,_,fe673,rfl,?_⟩;rw [if_pos (by omega)];have hblo:=hb.1;have hsl:=ah h.a.s;exact ⟨P,F',K',min w w',rfl,t1.above hIhi _ _ (by omega) hi2,hSF.trans t1,t2,t3,by omega,by omega,t6,t7,t8⟩
end
def f665:ACode:=.seq (R [8,9] [o 20 (.load none (t 10)),v 8 20,o 9 (.val (n 0))])
 (.live [8,9] (.ret))
theorem body665:code665.body = .seq (R [0,1,2,7] [o 7 (.box (t 3)),o 8 (.val (.const (.int .u32 0))),o 9 (.val (n 0))])
 (.seq (R [0,1,2,7,10] [o 10 (.alloc 1 [.int .u32 0])])
 (.seq (R [10,11] [v 12 0,v 13 1,v 14 2,o 15 (.mkfunc 672 [] [t 7,t 10]),o 16 (.callg 673 [t 12,t 13,t 14,t 15]),v 11 16])
 (.seq (.seq (R [10,11,18] [v 17 11,o 18 (.bin .neq (t 17) (n 0))])
 (.after (.cond (t 18) (.seq (R [8,9] [v 19 11,o 8 (.val (.const (.int .u32 0))),v 9 19])
 (.live [8,9] (.ret))) (.skip)) [10]))
 f665))):=rfl
theorem fe665 {P:List AObj} {w':Nat} {x y:Int}:funcEnd code665 ⟨H,b,w⟩ (.ret,⟨[(8,.val (.int .u32 x)),(9,.val (.int .i64 y))],⟨P,b,w'⟩⟩)=some (.tuple [.int .u32 x,.int .i64 y],if w' < H.length then ⟨P,b,min w w'⟩ else ⟨H,b,w⟩):=by
 by_cases c:w' < H.length
 ·simp [funcEnd,code665,resultsL,result1,sget,tupled,dg,Heap.size,c]
 ·simp [funcEnd,code665,resultsL,result1,sget,tupled,dg,Heap.size,c,AVal.under,AVal.unders]
section
attribute [-simp] getElem?_pos getElem?_neg List.all_eq_true
attribute [local simp] qZ qS nltT nltF iltT iltF ileT nleT dz
theorem c665 (hC:Codes E) (hF:IsCode E 680 code680) (hF2:IsCode E 673 code673) (hF3:IsCode E 665 code665) (h:SO kl H I F K) (hkl:∀ k ∈ kl,1≤k.length∧k.length≤64) (hkn:kl.length≤12) (hb:I.lo b) (hbN:b≤H.length) (hFn:0 < F.n) {s k:Bs} (hs:isName s=true) (hk:isName k=true) (hkey:keyB s k ∈ kl)
  {r:RecsU} (hr:r.ok) {x:Nat × PlU} (hf:findK (keyB s k) K.ix=some x) (hx:x.2.blob=r.bytes) (hxl:x.2.blob.length≤1000000) {dv:AVal} {data:Bs} (hdv:BlobV H dv data) (hd:data.length≤512) (hl:r.list.length < 64) (hn:r.next < 4294967295) (hv:r.ver < 4294967295) (hlen:(addR r data).bytes.length≤4096)
  (hroom:RoomFor F K (keyB s k) (addR r data).bytes) (w:Nat) :
  CallD E 665 [.ptr (some (I.s,0)),.str s,.str k,dv] ⟨H,b,w⟩ fun v h'=>v = .tuple [.int .u32 r.next,.int .i64 0]∧Wrote kl H I F K (keyB s k) (addR r data).bytes b w h':=by
 have hT:=hC.t;have hm:=hC.m;have hIhi:=h.a.hi;refine CallD.of_code hF3 rfl ?_;rw [body665];have hen:enter 0 [AVal.ptr (some (I.s,0)),.str s,.str k,dv]=[(0,.val (.ptr (some (I.s,0)))),(1,.val (.str s)),(2,.val (.str k)),(3,.val dv)]:=rfl;have hsz:(⟨H,b,w⟩:Heap).size=H.length:=rfl;rw [hen];simp only [hsz];obtain ⟨da,dc,hdve,-,-⟩:=id hdv;refine CodeD.seq nofun (CodeD.run hT hm (e:=.normal) (st':=⟨[(0,.val (.ptr (some (I.s,0)))),(1,.val (.str s)),(2,.val (.str k)),(7,.val (.ptr (some (H.length,0))))],⟨H++[.cells 1 [dv]],b,H.length⟩⟩) (fun k'=>by rw [hdve]; simp (disch:=omega) []) ?_);refine CodeD.seq nofun (CodeD.run hT hm (e:=.normal) (st':=⟨[(0,.val (.ptr (some (I.s,0)))),(1,.val (.str s)),(2,.val (.str k)),(7,.val (.ptr (some (H.length,0)))),(10,.val (.ptr (some (H.length+1,0))))],⟨H++[.cells 1 [dv],.cells 1 [.int .u32 0]],b,H.length⟩⟩) (fun k'=>by simp (disch:=omega) []) ?_)
 refine CodeD.seq nofun (CodeD.after (CodeD.regionX hT hm ?_));refine OpsD.run (l:=[v 12 0,v 13 1,v 14 2,o 15 (.mkfunc 672 [] [t 7,t 10])]) (r:=[o 16 (.callg 673 [t 12,t 13,t 14,t 15]),v 11 16]) (s1:=[(15,.val (.func 672 [] [.ptr (some (H.length,0)),.ptr (some (H.length+1,0))])),(14,.val (.str k)),(13,.val (.str s)),(12,.val (.ptr (some (I.s,0)))),(0,.val (.ptr (some (I.s,0)))),(1,.val (.str s)),(2,.val (.str k)),(7,.val (.ptr (some (H.length,0)))),(10,.val (.ptr (some (H.length+1,0))))]) (h1:=⟨H++[.cells 1 [dv],.cells 1 [.int .u32 0]],b,H.length⟩) (fun k'=>by simp (disch:=omega) []) ?_;refine OpsD.call (g:=673) (xs:=[t 12,t 13,t 14,t 15]) rfl rfl rfl (c673 hC hF hF2 h hkl hkn hb hbN hFn hs hk hkey hr hf hx hxl hdv hd hl hn hv hlen hroom H.length) fun vv hh hR'=>?_
 obtain ⟨rfl,P,F',K',w',rfl,t0,t1,t2,t3,t4,t5,t6,t7,t8⟩:=hR';refine OpsD.run (l:=[v 11 16]) (r:=[]) (s1:=[(11,.val (.int .i64 0)),(16,.val (.int .i64 0)),(15,.val (.func 672 [] [.ptr (some (H.length,0)),.ptr (some (H.length+1,0))])),(14,.val (.str k)),(13,.val (.str s)),(12,.val (.ptr (some (I.s,0)))),(0,.val (.ptr (some (I.s,0)))),(1,.val (.str s)),(2,.val (.str k)),(7,.val (.ptr (some (H.length,0)))),(10,.val (.ptr (some (H.length+1,0))))]) (h1:=⟨P,b,w'⟩) (fun k'=>by simp (disch:=omega) []) (OpsD.done ?_);simp only []
 have hk1:keepK [10,11] [(11,Slot.val (.int .i64 0)),(16,.val (.int .i64 0)),(15,.val (.func 672 [] [.ptr (some (H.length,0)),.ptr (some (H.length+1,0))])),(14,.val (.str k)),(13,.val (.str s)),(12,.val (.ptr (some (I.s,0)))),(0,.val (.ptr (some (I.s,0)))),(1,.val (.str s)),(2,.val (.str k)),(7,.val (.ptr (some (H.length,0)))),(10,.val (.ptr (some (H.length+1,0))))]=[(10,.val (.ptr (some (H.length+1,0)))),(11,.val (.int .i64 0))]:=by simp
 rw [hk1];refine CodeD.seq nofun (CodeD.run hT hm (e:=.normal) (st':=⟨[(10,.val (.ptr (some (H.length+1,0))))],⟨P,b,w'⟩⟩) (fun k'=>by simp (disch:=omega) []) ?_);refine CodeD.run hT hm (e:=.ret) (st':=⟨[(8,.val (.int .u32 r.next)),(9,.val (.int .i64 0))],⟨P,b,w'⟩⟩) (fun k'=>by simp (disch:=omega) [f665,t0]) ?_;refine ⟨_,_,fe665,rfl,?_⟩;rw [if_pos (by omega)];exact ⟨P,F',K',min w w',rfl,t1,t2,t3,by omega,by omega,t6,t7,t8⟩
end
end
end Go.Abs.AbsNat

namespace Go.Abs
def SegsD (E:Env) (T:Nat→Option AFunc) (K:Slots→Heap→Prop):List Seg→Slots→Heap→Prop
 | [],s,h=>K s h
 | g :: r,s,h=>if g.quiet=true then ∃ s1 h1,iu (xCall T) [g] s h=some (s1,h1)∧SegsD E T K r s1 h1 else OpsD E T (fun s1 h1=>SegsD E T K r s1 h1) g.ops s h
section
variable {E:Env} {T:Nat→Option AFunc} {lo nt:Nat} {μ0:MM} {w0:World} {ds:List Deferred} {ops:Array Oper} {locs:List Nat} {aZ:List AOper} {Q:Exit→Act→World→Prop}
theorem vz (hT:Agrees E T) (hm:E.P.follows .mixedOrders=true) (has:ke E nt ops locs 0 ops.toList=some aZ) (hb:edgesBack ops=true) {K:Slots→Heap→Prop} {h0:Heap} (hn:∀ s' h',K s' h'→Evol h0 h'→∀ a' w',At E lo nt μ0 w0 ds s' h' a' w'→Q .normal a' w') :
  ∀ (segs:List (Bool × Nat)) (p:Nat) (gs:List Seg) (s:Slots) (h:Heap) (listed:Array Bool) (a:Act) (w:World),segsOk aZ (befs ops.toList []) p segs=true→splitSegs (befs ops.toList []) p segs (aZ.drop p)=some gs →
  SegsD E T K gs s h→Evol h0 h→Exact ops listed p→At E lo nt μ0 w0 ds s h a w→wpAnyIn (F0 none) 0 E.P .any ops Q (ops.size - p) listed a w
 | [],p,gs,s,h,listed,a,w,hok,hsp,hev,hevol,hex,hat=>by
  obtain ⟨q1,_⟩:=jd _ _ _ has;simp only [dx] at q1;simp only [segsOk,beq_iff_eq] at hok;have hp:p=ops.size:=by omega
  subst hp;rw [nu];unfold splitSegs at hsp;split at hsp
  ·cases hsp;simp only [SegsD] at hev;refine ⟨?_,hn _ _ hev hevol _ _ hat⟩;apply List.eq_nil_iff_forall_not_mem.2;intro i hi;obtain ⟨o,k1,k2,_⟩:=ml hex.1 hi;have his:i < ops.size:=ah (l:=ops.toList) (by simpa using k1);rw [hex.2 i his] at k2;simp [his] at k2
  ·cases hsp
  ·contradiction
 | (true,n) :: r,p,gs,s,h,listed,a,w,hok,hsp,hev,hevol,hex,hat=>by
  obtain ⟨q1,_⟩:=jd _ _ _ has;simp only [dx] at q1;have hblen:=jk ops.toList [];simp only [dt,dh,dx] at hblen;simp only [segsOk,aw,decide_eq_true_eq] at hok;obtain ⟨⟨⟨a1,a2⟩,a34⟩,a5⟩:=hok;simp only [splitSegs] at hsp;split at hsp;case isFalse=>cases hsp
  rw [ae] at hsp;obtain ⟨gs',hsp,rfl⟩:=hsp;rw [ge] at hsp;simp only [SegsD,if_true] at hev;obtain ⟨s2,h2,he,hrest⟩:=hev;obtain ⟨nc,he⟩:=tg T he;have hc:=ng hT hm nc;have hev0:=lf T nc;have hg:=hT.gid;have hevol2:=hevol.trans (vq hev0 he);simp only [iu,if_true] at he;split at he;case h_2=>cases he
  rename_i s3 h3 hq;cases he;have he:=hq
  have hgo:∀ listed' a' w',Exact ops listed' (p+n)→At E lo nt μ0 w0 ds s2 h2 a' w'→wpAnyIn (F0 none) 0 E.P .any ops Q (ops.size - (p+n)) listed' a' w':=fun listed' a' w' hex' hat' =>
   vz hT hm has hb hn r (p+n) gs' s2 h2 listed' a' w' a5 hsp hrest hevol2 hex' hat'
  unfold quietSeg at a34;split at a34
  case isFalse hnv =>
   simp only [aw] at a34;obtain ⟨⟨hsm,a3⟩,a4⟩:=a34;rw [if_pos (by simpa using hsm)] at he;unfold evQ at he;rw [if_neg hnv] at he;split at he;case isFalse=>cases he
   rename_i hnl;refine zab hc hev0 hg has hb a2 (m9 (by omega) r (p+n) a5) (fun x y oi oj hx hy hi hj=>?_) (fun x o hx ho=>?_) (qm _ hnl) he hgo listed a w hex hat
   ·rw [ai] at a3;have:=a3 x (ce.2 hx);rw [ai] at this;have:=this y (ce.2 hy);rw [hi,hj] at this;exact this
   ·rw [ai] at a4;have:=a4 x (ce.2 hx);rw [ho] at this;exact this
  rename_i hnv;simp only [aw] at a34;obtain ⟨a3,a4⟩:=a34
  have hap:∀ x y oi oj,x < n→y < n→aZ[p+x]? = some oi→aZ[p+y]? = some oj→apart (befs ops.toList []) (p+x) (p+y) oi oj=true:=fun x y oi oj hx hy hi hj=>by rw [ai] at a3;have:=a3 x (ce.2 hx);rw [ai] at this;have:=this y (ce.2 hy);rw [hi,hj] at this;exact this
  have hcs:∀ x o,x < n→aZ[p+x]? = some o→calm o.op=true∧(nq (befs ops.toList []) p ((aZ.drop p).take n)=[]∨soft o.op=true):=fun x o hx ho=>by rw [ai] at a4;have:=a4 x (ce.2 hx);rw [ho] at this;simpa using this
  unfold evQ at he;rw [if_pos hnv] at he;split at he
  ·exact quiet_any hc hev0 hg has hb a2 (m9 (by omega) r (p+n) a5) hap (fun x o hx ho=>(hcs x o hx ho).1) he hgo listed a w hex hat
  ·rename_i hne;refine open_any hc hev0 hg has hb a2 (m9 (by omega) r (p+n) a5) hap (fun x o hx ho=>(hcs x o hx ho).2.resolve_left hne) (fun x hx=>?_) he hgo listed a w hex hat;unfold nq at hne ⊢;split at hne
   ·rename_i hm;rw [if_pos hm];have hl:((aZ.drop p).take n).length=n:=by simp; omega
    rw [hl,gy,br,List.getElem?_range hx];rfl
   ·exact absurd rfl hne
 | (false,n) :: r,p,gs,s,h,listed,a,w,hok,hsp,hev,hevol,hex,hat=>by
  obtain ⟨q1,_⟩:=jd _ _ _ has;simp only [dx] at q1;have hblen:=jk ops.toList [];simp only [dt,dh,dx] at hblen;simp only [segsOk,aw,decide_eq_true_eq] at hok;obtain ⟨⟨a2,a3⟩,a5⟩:=hok;simp only [splitSegs] at hsp;split at hsp;case isFalse=>cases hsp
  rw [ae] at hsp;obtain ⟨gs',hsp,rfl⟩:=hsp;rw [ge] at hsp;simp only [SegsD,cd,if_false] at hev;refine zae (h0:=h0) hT hm has hb n p s h listed a w a2 (fun x hx hlt=>?_) hev hevol hex hat (fun s1 h1 k e listed' a' w' hex' hat'=>?_)
  ·rcases bc x n with h3 | h3
   ·rw [ai] at a3;exact a3 x (ce.2 h3)
   ·have:x=n:=by omega
    subst this;exact m9 (by omega) r (p+x) a5
  ·exact vz hT hm has hb hn r (p+n) gs' s1 h1 listed' a' w' a5 hsp k e hex' hat'
theorem CodeD.regions0 (hT:Agrees E T) (hm:E.P.follows .mixedOrders=true) {g1 g2:Seg} {gs0:List Seg} {st:St} {Q:AExit→St→Prop} (hl:SegsD E T (fun s h=>Q .normal ⟨s,h⟩) (g1 :: g2 :: gs0) st.s st.h):CodeD E (.region (g1 :: g2 :: gs0)) st Q:=by
 intro nt hint code hcc hrd lo μ0 w0 ds a w Qm hat hn;obtain ⟨segs,locs,id,ops,draw,rfl,hcr⟩:=zaf hcc;unfold cRegion at hcr;split at hcr;case h_2=>cases hcr
 rename_i aZ has;split at hcr
 ·rename_i hd;subst hd;split at hcr;case isFalse=>cases hcr
  rename_i hh;simp only [aw] at hh;apply wpIn_region_any hm
  have hat':At E lo nt μ0 w0 ds st.s st.h a { w with drawn:=w.drawn+1 }:=by obtain ⟨μ,ν,k1,k2,k3,k4,k5,k6⟩:=hat;exact ⟨μ,ν,k1.heap rfl rfl rfl rfl,k2.same rfl rfl rfl,k3.heap rfl,k4,k5,k6⟩
  exact vz (h0:=st.h) hT hm has hh.1 (fun s' h' k e a' w' hat'=>hn .normal ⟨s',h'⟩ k e a' w' hat') segs 0 _ st.s st.h _ a _ hh.2 (by simpa using hcr) hl (Evol.refl _) ⟨by simp,fun i hi=>by simp [hi]⟩ hat'
 ·rename_i hd;have:draw=false:=by simpa using hd
  subst this;cases hcr
theorem OpsD.mono {K K':Slots→Heap→Prop} (hk:∀ s h,K s h→K' s h) {l:List AOper} {s:Slots} {h:Heap} (hl:OpsD E T K l s h):OpsD E T K' l s h:=by
 induction hl with
 | done k=>exact .done (hk _ _ k)
 | op e _ ih=>exact .op e ih
 | call h1 h2 h3 h4 _ ih=>exact .call h1 h2 h3 h4 ih
 | callv h1 h2 h3 h4 h5 _ ih=>exact .callv h1 h2 h3 h4 h5 ih
 | noZero h1 h2 h3 h4 _ ih=>exact .noZero h1 h2 h3 h4 ih
theorem SegsD.up {T':Nat→Option AFunc} (hs:∀ g f,T g=some f→T' g=some f) {K:Slots→Heap→Prop}:∀ {l:List Seg} {s:Slots} {h:Heap},SegsD E T K l s h→SegsD E T' K l s h
 | [],s,h,k=>by simp only [SegsD] at k ⊢; exact k
 | g :: r,s,h,k=>by
  simp only [SegsD] at k ⊢;split at k
  ·rename_i hq;rw [if_pos hq];obtain ⟨s1,h1,e,k⟩:=k;exact ⟨s1,h1,n8 (xCall_le hs) _ _ _ _ e,SegsD.up hs k⟩
  ·rename_i hq;rw [if_neg hq];exact (k.mono fun s1 h1 k=>SegsD.up hs k).up hs
theorem CodeD.regionsX (hT:AgreesX E T) (hm:E.P.follows .mixedOrders=true) {g1 g2:Seg} {gs0:List Seg} {st:St} {Q:AExit→St→Prop} (hl:SegsD E T (fun s h=>Q .normal ⟨s,h⟩) (g1 :: g2 :: gs0) st.s st.h):CodeD E (.region (g1 :: g2 :: gs0)) st Q:=by obtain ⟨T',hs,hT⟩:=hT;exact CodeD.regions0 hT hm (hl.up hs)
end
end Go.Abs

namespace Go.Abs.AbsNat
open Go.Abs.AbsBlb hiding T
open Go.Abs.AbsBlo (GoodC Fits Kept CommitQ lq CodeD.run OpsD.run s480z)
open Go.Abs.Short
theorem SegsD.q {E:Env} {T:Nat→Option AFunc} {K:Slots→Heap→Prop} {g:Seg} {r:List Seg} {s s1:Slots} {h h1:Heap} (hq:g.quiet=true) (e:∀ k:Slots→Heap→Option (Slots × Heap),segsK (xCall T) [g] s h (k:=⟨k⟩)=k s1 h1) (hr:SegsD E T K r s1 h1):SegsD E T K (g :: r) s h:=by
 simp only [SegsD,hq,if_true];refine ⟨s1,h1,?_,hr⟩;have:=e fun s h=>some (s,h)
 unfold segsK at this;cases hx:iu (xCall T) [g] s h with
 | none=>rw [hx] at this; cases this
 | some p=>rw [hx] at this; exact this
theorem SegsD.f {E:Env} {T:Nat→Option AFunc} {K:Slots→Heap→Prop} {g:Seg} {r:List Seg} {s:Slots} {h:Heap} (hq:g.quiet=false) (e:OpsD E T (fun s1 h1=>SegsD E T K r s1 h1) g.ops s h):SegsD E T K (g :: r) s h:=by simp only [SegsD,hq,cd,if_false];exact e
section
variable {H:List AObj} {b w:Nat} {I:SI} {F:Fl} {K:StU}
section
attribute [-simp] getElem?_pos getElem?_neg List.all_eq_true
attribute [local simp] qZ qS nltT nltF iltT iltF ileT nleT dz
theorem s654 {o:Option (Nat × Nat)} {s:Bs} (ho:∀ p q,o=some (p,q)→p < H.length):xCall T 654 [.ptr o,.str s] ⟨H,b,w⟩=some (.ptr (some (H.length,0)),⟨H++[.cells 3 [.ptr o,.str s,.slice none 0 (some 0)]],b,w⟩):=by
 cases o with
 | none=>simp (disch:=omega) [ba t654,code654,jo,jp,sj]
 | some p =>
  obtain ⟨p,q⟩:=p;have hp:=ho p q rfl;simp (disch:=omega) [ba t654,code654,jo,jp,sj,hp]
theorem s666z {cr:Bool}:xCall T 666 [.ptr none,.bool cr] ⟨H,b,w⟩=some (.tuple [.agg [.int .u32 0,.int .u32 0,.slice none 0 (some 0)],.int .i64 5],⟨H,b,w⟩):=by simp (disch:=omega) [ba t666,code666]
theorem s666n (h:StA H I F K) {s:Bs} {e:Nat} {lv:AVal} (he:H[e]? = some (.cells 3 [.ptr (some (I.s,0)),.str s,lv])) (hs:isName s=true) (hf:findK (keyB s [100,97,116,97]) K.ix=none) :
  xCall T 666 [.ptr (some (e,0)),.bool false] ⟨H,b,w⟩=some (.tuple [.agg [.int .u32 0,.int .u32 0,.slice none 0 (some 0)],.int .i64 11],⟨H,b,w⟩):=by
 have h1:=fun w=>s671n (b:=b) (w:=w) h hs (k:=[100,97,116,97]) (by decide) hf
 simp (disch:=omega) [ba t666,code666,he,h1]
theorem s666x {s:Bs} {e:Nat} {sv:Option (Nat × Nat)} {lv:AVal} {cr:Bool} (he:H[e]? = some (.cells 3 [.ptr sv,.str s,lv])) (hl:s.length≤1000000) (hs:isName s=false) :
  xCall T 666 [.ptr (some (e,0)),.bool cr] ⟨H,b,w⟩=some (.tuple [.agg [.int .u32 0,.int .u32 0,.slice none 0 (some 0)],.int .i64 13],⟨H,b,w⟩):=by
 have h1:=fun w=>s671x (H:=H) (b:=b) (w:=w) (k:=[100,97,116,97]) (v:=.ptr sv) (cr:=cr) hl hs
 simp (disch:=omega) [ba t666,code666,he,h1]
theorem p666 (h:StA H I F K) {s:Bs} {r:RecsU} {cr:Bool} {e:Nat} {lv:AVal} (he:H[e]? = some (.cells 3 [.ptr (some (I.s,0)),.str s,lv])) (hs:isName s=true) {x:Nat × PlU} (hf:findK (keyB s [100,97,116,97]) K.ix=some x) (hx:x.2.blob=r.bytes) (hr:r.ok) (hl:x.2.blob.length≤1000000) (hb:b≤H.length) :
  EntsEnd H b r.list 666 [.ptr (some (e,0)),.bool cr] fun x=>.tuple [r.val x,.int .i64 0]:=by
 obtain ⟨H1,A,y,i1,⟨i2,i3⟩,i4,i5⟩:=p671 (cr:=cr) h hs (k:=[100,97,116,97]) (by decide) hf hx hr hl hb;obtain ⟨H2,A2,y2,k1,k2,k3,k4,k5⟩:=tt (b:=b) (w':=H.length) (fun y=>.tuple [r.val y,.int .i64 0]) (fun y=>by simp [RecsU.val,AVal.ids,AVal.idsL]) (fun f y=>by simp [RecsU.val,AVal.ren,AVal.renL]) (fun n p o k c=>by simp [RecsU.val,AVal.under,AVal.unders]) (fun n=>by simp [RecsU.val,AVal.under,AVal.unders]) (aj _) i2 i3 i1 (aj _);refine ⟨H2,A2,y2,k1,⟨k2,k4⟩,by rw [k3,i4],fun w=>?_⟩;obtain ⟨a,c,rfl,-⟩:=FRow.row (f:=EV.cells) (fun _=>rfl) i2;unfold RecsU.val at k5 i5 ⊢;simp (disch:=omega) [ba t666,code666,-dg,he,i5,k5]
end
end
section
variable {E:Env} {kl:List Bs} {H:List AObj} {b w:Nat} {I:SI} {F:Fl} {K:StU}
theorem body666:code666.body = .seq (R [0,1,4] [o 4 (.lalloc [.int .u32 0,.int .u32 0,.slice none 0 (some 0)]),o 5 (.val (n 0))])
 (.seq (.seq (R [0,1,4,7] [v 6 0,o 7 (.eqnil .ptr false (t 6) (.const (.ptr none)))])
 (.after (.cond (t 7) (.seq (R [4,5] [o 8 (.build [.int .u32 0,.int .u32 0,.slice none 0 (some 0)] []),u (.store 3 (t 4) (t 8)),o 5 (.val (n 5))])
 (.live [4,5] (.ret))) (.skip)) [0,1,4]))
 (.seq (.after (.region [⟨true,[],[v 9 0,o 10 (.nilcheck (t 9)),o 11 (.faddr (t 10) 0),o 12 (.load none (t 11)),v 13 0,o 14 (.nilcheck (t 13)),o 15 (.faddr (t 14) 1),o 16 (.load none (t 15)),v 17 1]⟩,⟨false,[],[o 18 (.callg 671 [t 12,t 16,.const (.str [100,97,116,97]),t 17])]⟩,⟨true,[],[o 19 (.extract (t 18) 0),o 20 (.extract (t 18) 1)]⟩,⟨false,[],[u (.store 3 (t 4) (t 19)),v 5 20]⟩]) [4,5])
 (.live [4,5] (.ret)))):=rfl
theorem fe666 {P:List AObj} {w':Nat} {x y z:Int} {c:Option Nat}:funcEnd code666 ⟨H,b,w⟩ (.ret,⟨[(4,.var [.int .u32 x,.int .u32 y,.slice none 0 c]),(5,.val (.int .i64 z))],⟨P,b,w'⟩⟩)=some (.tuple [.agg [.int .u32 x,.int .u32 y,.slice none 0 c],.int .i64 z],if w' < H.length then ⟨P,b,min w w'⟩ else ⟨H,b,w⟩):=by
 by_cases c:w' < H.length
 ·simp [funcEnd,code666,resultsL,result1,sget,tupled,dg,Heap.size,c]
 ·simp [funcEnd,code666,resultsL,result1,sget,tupled,dg,Heap.size,c,AVal.under,AVal.unders]
section
attribute [-simp] getElem?_pos getElem?_neg List.all_eq_true
attribute [local simp] qZ qS nltT nltF iltT iltF ileT nleT dz
theorem c666 (hC:Codes E) (hF:IsCode E 680 code680) (hF2:IsCode E 671 code671) (hF3:IsCode E 666 code666) (h:SO kl H I F K) (hkl:∀ k ∈ kl,1≤k.length∧k.length≤64) (hkn:kl.length≤12) (hb:I.lo b) (hbN:b≤H.length) (hFn:0 < F.n) {s:Bs} {e:Nat} {lv:AVal} (he:H[e]? = some (.cells 3 [.ptr (some (I.s,0)),.str s,lv])) (hs:isName s=true) (hkey:keyB s [100,97,116,97] ∈ kl) (hx:K.ix=[])
  (hroom:RoomFor F K (keyB s [100,97,116,97]) newR.bytes) (w:Nat) :
  CallD E 666 [.ptr (some (e,0)),.bool true] ⟨H,b,w⟩ fun v h'=>v = .tuple [.agg [.int .u32 1,.int .u32 0,.slice none 0 (some 0)],.int .i64 0]∧Wrote kl H I F K (keyB s [100,97,116,97]) newR.bytes b w h':=by
 have hT:=hC.t;have hm:=hC.m;have hIhi:=h.a.hi;refine CallD.of_code hF3 rfl ?_;rw [body666];have hen:enter 0 [AVal.ptr (some (e,0)),.bool true]=[(0,.val (.ptr (some (e,0)))),(1,.val (.bool true))]:=rfl;have hsz:(⟨H,b,w⟩:Heap).size=H.length:=rfl;rw [hen];simp only [hsz];refine CodeD.seq nofun (CodeD.run hT hm (e:=.normal) (st':=⟨[(0,.val (.ptr (some (e,0)))),(1,.val (.bool true)),(4,.var [.int .u32 0,.int .u32 0,.slice none 0 (some 0)])],⟨H,b,H.length⟩⟩) (fun k'=>by simp (disch:=omega) []) ?_);refine CodeD.seq nofun (CodeD.run hT hm (e:=.normal) (st':=⟨[(0,.val (.ptr (some (e,0)))),(1,.val (.bool true)),(4,.var [.int .u32 0,.int .u32 0,.slice none 0 (some 0)])],⟨H,b,H.length⟩⟩) (fun k'=>by simp (disch:=omega) []) ?_);refine CodeD.seq nofun (CodeD.after (CodeD.regionsX hT hm ?_))
 refine SegsD.q (s1:=[(17,.val (.bool true)),(16,.val (.str s)),(15,.val (.ptr (some (e,1)))),(14,.val (.ptr (some (e,0)))),(13,.val (.ptr (some (e,0)))),(12,.val (.ptr (some (I.s,0)))),(11,.val (.ptr (some (e,0)))),(10,.val (.ptr (some (e,0)))),(9,.val (.ptr (some (e,0)))),(0,.val (.ptr (some (e,0)))),(1,.val (.bool true)),(4,.var [.int .u32 0,.int .u32 0,.slice none 0 (some 0)])]) (h1:=⟨H,b,H.length⟩) rfl (fun k'=>by simp (disch:=omega) [he]) ?_;refine SegsD.f rfl (OpsD.call (g:=671) (xs:=[t 12,t 16,.const (.str [100,97,116,97]),t 17]) rfl rfl rfl (c671 hC hF hF2 h hkl hkn hb hbN hFn hs (k:=[100,97,116,97]) (by decide) hkey hx hroom H.length) fun vv hh hR'=>OpsD.done ?_);obtain ⟨rfl,P,F',K',w',rfl,s1,s2,s3,s4,s5,s6⟩:=hR'
 refine SegsD.q (s1:=(20,.val (.int .i64 0)) :: (19,.val (.agg [.int .u32 1,.int .u32 0,.slice none 0 (some 0)])) :: (18,.val (.tuple [.agg [.int .u32 1,.int .u32 0,.slice none 0 (some 0)],.int .i64 0])) :: [(17,.val (.bool true)),(16,.val (.str s)),(15,.val (.ptr (some (e,1)))),(14,.val (.ptr (some (e,0)))),(13,.val (.ptr (some (e,0)))),(12,.val (.ptr (some (I.s,0)))),(11,.val (.ptr (some (e,0)))),(10,.val (.ptr (some (e,0)))),(9,.val (.ptr (some (e,0)))),(0,.val (.ptr (some (e,0)))),(1,.val (.bool true)),(4,.var [.int .u32 0,.int .u32 0,.slice none 0 (some 0)])]) (h1:=⟨P,b,w'⟩) rfl (fun k'=>by simp (disch:=omega) []) ?_
 refine SegsD.f rfl (OpsD.run (l:=[u (.store 3 (t 4) (t 19)),v 5 20]) (r:=[]) (s1:=[(5,.val (.int .i64 0)),(4,.var [.int .u32 1,.int .u32 0,.slice none 0 (some 0)]),(20,.val (.int .i64 0)),(19,.val (.agg [.int .u32 1,.int .u32 0,.slice none 0 (some 0)])),(18,.val (.tuple [.agg [.int .u32 1,.int .u32 0,.slice none 0 (some 0)],.int .i64 0])),(17,.val (.bool true)),(16,.val (.str s)),(15,.val (.ptr (some (e,1)))),(14,.val (.ptr (some (e,0)))),(13,.val (.ptr (some (e,0)))),(12,.val (.ptr (some (I.s,0)))),(11,.val (.ptr (some (e,0)))),(10,.val (.ptr (some (e,0)))),(9,.val (.ptr (some (e,0)))),(0,.val (.ptr (some (e,0)))),(1,.val (.bool true)),(4,.var [.int .u32 0,.int .u32 0,.slice none 0 (some 0)])]) (h1:=⟨P,b,w'⟩) (fun k'=>by simp (disch:=omega) []) (OpsD.done ?_));simp only [SegsD]
 refine CodeD.run hT hm (e:=.ret) (st':=⟨[(4,.var [.int .u32 1,.int .u32 0,.slice none 0 (some 0)]),(5,.val (.int .i64 0))],⟨P,b,w'⟩⟩) (fun k'=>by simp (disch:=omega) []) ?_;refine ⟨_,_,fe666,rfl,?_⟩;rw [if_pos (by omega)];exact ⟨P,F',K',min w w',rfl,s1,s2,s3,by omega,by omega,s6⟩
end
end
end Go.Abs.AbsNat

namespace Go.Abs.AbsNat
open Go.Abs.AbsBlb hiding T
open Go.Abs.AbsBlo (keyC mr)
open Go.Abs.Short
section
variable {H P:List AObj} {b w:Nat}
theorem s444 {n:Int} (hn:-9223372036854775808≤n∧n≤9223372036854775807):xCall T 444 [.int .i64 n,.int .i64 10] ⟨H,b,w⟩=some (.str (AbsList.itoaS n),⟨H,b,w⟩):=by refine (xLib_eq T t444 _ _ (F:=fmtA)).trans ?_;unfold fmtA;simp only [if_pos hn]; rfl
section
attribute [-simp] getElem?_pos getElem?_neg List.all_eq_true
attribute [local simp] qZ qS nltT nltF iltT iltF ileT nleT dz
theorem s653z {n:Int}:xCall T 653 [.ptr none,.int .i64 n] ⟨H,b,w⟩=some (.tuple [],⟨H,b,w⟩):=by simp (disch:=omega) [ba t653,code653]
theorem s661z {v:AVal}:xCall T 661 [.ptr none,v] ⟨H,b,w⟩=some (.tuple [],⟨H,b,w⟩):=by simp (disch:=omega) [ba t661,code661]
theorem s651z:xCall T 651 [.ptr none] ⟨H,b,w⟩=some (.slice none 0 (some 0),⟨H,b,w⟩):=by simp (disch:=omega) [ba t651,code651]
end
def EnvA (P:List AObj) (e:Nat) (sv:Option (Nat × Nat)) (s:Bs) (lv:AVal) (A:List Bs):Prop:=P[e]? = some (.cells 3 [.ptr sv,.str s,lv])∧FRow (e+1) 1 keyC A P lv
theorem yd (A:List Bs):AVal.idsL (A.flatMap keyC)=[]:=by rw [mr];exact AbsBlb.idsL_none fun x hx=>by obtain ⟨k,-,rfl⟩:=fz.1 hx; simp [AVal.ids]
theorem line_add {e:Nat} {sv:Option (Nat × Nat)} {s:Bs} {lv:AVal} {A:List Bs} (h:EnvA P e sv s lv A) (hb:b≤e) (hA:A.length≤1000) (y:Bs) :
  ∃ P2 a0 c0,lv = .slice a0 A.length c0∧(∀ p o,a0=some (p,o)→e+1≤p∧p < P.length)∧P2.length=P.length+2∧P2[e]? = some (.cells 3 [.ptr sv,.str s,lv])∧P2[P.length+1]? = some (.cells 1 ((A++[y]).flatMap keyC)) ∧
   (∀ (k:Nat) (o:AObj),k≤e→P[k]? = some o→P2[k]? = some o)∧(∀ w,du 1 16 ⟨P++[.cells 1 [.str y]],b,w⟩ lv (.slice (some (P.length,0)) 1 (some 1))=some (.slice (some (P.length+1,0)) (A.length+1) none,⟨P2,b,wOf lv w⟩)):=by
 obtain ⟨he,hx⟩:=h;have hel:=ah he;obtain ⟨a0,c0,rfl,-,ha0⟩:=FRow.row (f:=keyC) (fun _=>rfl) hx;obtain ⟨M2,x2,n2,f1,f2,f3,f4,f5⟩:=hx.add' (b:=b) (by':=16) (fun _=>rfl) (by omega) (by omega) (by omega) (by omega) y;obtain ⟨P2,hP2,eP2⟩:=add_len (b:=b) (by':=16) hx (fun _=>rfl) (by omega) (by omega) (by omega) y;have h0:=eP2 0;rw [f5] at h0;simp only [c9,gu,Heap.mk.injEq] at h0;obtain ⟨rfl,rfl,-,-⟩:=h0;refine ⟨M2,a0,c0,rfl,ha0,hP2,f2 _ _ he fun h=>by omega,?_,fun k o hk ho=>f2 _ _ ho fun h=>by omega,eP2⟩;rcases f1 with ⟨h,-⟩ | ⟨-,q5,-,h,h5⟩
 ·simp at h
 ·simp only [AVal.slice.injEq,c9,gu] at h;rw [h.1.1]; exact h5
theorem env_of {e:Nat} {sv:Option (Nat × Nat)} {s:Bs} {lv:AVal} {A:List Bs} {y:Bs} {P2:List AObj} (he:P2[e]? = some (.cells 3 [.ptr sv,.str s,lv])) (hr:P2[P.length+1]? = some (.cells 1 ((A++[y]).flatMap keyC))) (hel:e < P.length) :
  EnvA (P2.set e (.cells 3 [.ptr sv,.str s,.slice (some (P.length+1,0)) (A.length+1) none])) e sv s (.slice (some (P.length+1,0)) (A.length+1) none) (A++[y]):=by
 refine ⟨ju he,.inr ⟨by simp,P.length+1,by omega,by rw [au]; rfl,?_⟩⟩;rw [av (by omega)]; exact hr
section
attribute [-simp] getElem?_pos getElem?_neg List.all_eq_true
attribute [local simp] qZ qS nltT nltF iltT iltF ileT nleT dz
theorem p653 {e:Nat} {sv:Option (Nat × Nat)} {s:Bs} {lv:AVal} {A:List Bs} (h:EnvA P e sv s lv A) (hb:b≤e) (hA:A.length≤1000) {n:Int} (hn:-9223372036854775808≤n∧n≤9223372036854775807) :
  ∃ P' lv',EnvA P' e sv s lv' (A++[AbsList.itoaS n])∧P.length≤P'.length∧(∀ (k:Nat) (o:AObj),k < e→P[k]? = some o→P'[k]? = some o)∧∀ w,xCall T 653 [.ptr (some (e,0)),.int .i64 n] ⟨P,b,w⟩=some (.tuple [],⟨P',b,min w e⟩):=by
 have hel:=ah h.1;have hPe:=h.1;obtain ⟨P2,a0,c0,rfl,ha0,l1,l2,l3,l4,l5⟩:=line_add (b:=b) h hb hA (AbsList.itoaS n);refine ⟨P2.set e (.cells 3 [.ptr sv,.str s,.slice (some (P.length+1,0)) (A.length+1) none]),_,env_of l2 l3 hel,by rw [bf]; omega,fun k o hk ho=>by rw [av (by omega)]; exact l4 k o (by omega) ho,fun w=>?_⟩;have h444:=fun w=>s444 (H:=P) (b:=b) (w:=w) hn
 have hids:=yd (A++[AbsList.itoaS n]);have hg:∀ y,(P++[y])[P.length]? = some y:=fun y=>fo _ _
 generalize (A++[AbsList.itoaS n]).flatMap keyC=Y at *;generalize AbsList.itoaS n=ln at *;rcases a0 with _ | ⟨ap,ao⟩
 ·simp (disch:=omega) [ba t653,code653,-du,-el,g7,g8,fq,bi,hPe,h444,l1,l2,l3,l5,wOf,hids,hg]
 ·obtain ⟨hap1,hap2⟩:=ha0 ap ao rfl;have hapn:¬ ap=P.length+1:=by omega
  have hape:¬ ap=e:=by omega
  simp (disch:=omega) [ba t653,code653,-du,-el,g7,g8,fq,bi,hPe,h444,l1,l2,l3,l5,wOf,hids,hg,hap2,hapn,hape]
theorem p661 {e q:Nat} {sv:Option (Nat × Nat)} {s:Bs} {lv:AVal} {A:List Bs} {l:Bs} {c:Option Nat} (h:EnvA P e sv s lv A) (hb:b≤e) (hA:A.length≤1000) (hq:P[q]? = some (.cells 1 (l.map u8V))) (hl:0 < l.length∧l.length≤1000000) :
  ∃ P' lv',EnvA P' e sv s lv' (A++[l])∧P.length≤P'.length∧(∀ (k:Nat) (o:AObj),k < e→P[k]? = some o→P'[k]? = some o)∧∀ w,xCall T 661 [.ptr (some (e,0)),.slice (some (q,0)) l.length c] ⟨P,b,w⟩=some (.tuple [],⟨P',b,min w e⟩):=by
 have hel:=ah h.1;have hPe:=h.1;have hql:=ah hq;obtain ⟨P2,a0,c0,rfl,ha0,l1,l2,l3,l4,l5⟩:=line_add (b:=b) h hb hA l;refine ⟨P2.set e (.cells 3 [.ptr sv,.str s,.slice (some (P.length+1,0)) (A.length+1) none]),_,env_of l2 l3 hel,by rw [bf]; omega,fun k o hk ho=>by rw [av (by omega)]; exact l4 k o (by omega) ho,fun w=>?_⟩;have hids:=yd (A++[l]);have hg:∀ y,(P++[y])[P.length]? = some y:=fun y=>fo _ _
 generalize (A++[l]).flatMap keyC=Y at *;have hbo:=om l;have hln:(l.map u8V).length=l.length:=bt _;have hne:¬ l.length=0:=by omega
 have htk:(l.map u8V).take l.length=l.map u8V:=dr (by rw [hln]; omega);generalize l.map u8V=L at *;rcases a0 with _ | ⟨ap,ao⟩
 ·simp (disch:=omega) [ba t661,code661,-du,-el,g7,g8,fq,bi,hPe,hq,hbo,hln,hne,htk,l1,l2,l3,l5,wOf,hids,hg,hql]
 ·obtain ⟨hap1,hap2⟩:=ha0 ap ao rfl;have hapn:¬ ap=P.length+1:=by omega
  have hape:¬ ap=e:=by omega
  simp (disch:=omega) [ba t661,code661,-du,-el,g7,g8,fq,bi,hPe,hq,hbo,hln,hne,htk,l1,l2,l3,l5,wOf,hids,hg,hql,hap2,hapn,hape]
theorem s651 {e:Nat} {sv:Option (Nat × Nat)} {s:Bs} {lv:AVal} {A:List Bs} (h:EnvA P e sv s lv A) (h0:A≠[]) (hA:A.length≤1000) (hb:b≤P.length) :
  xCall T 651 [.ptr (some (e,0))] ⟨P,b,w⟩=some (.slice (some (P.length,0)) A.length none,⟨P++[.cells 1 (A.map AVal.str)],b,w⟩):=by
 obtain ⟨he,hx⟩:=h;rcases hx with ⟨e0,-⟩ | ⟨-,q,hq,rfl,hrow⟩
 ·exact absurd e0 h0
 ·rw [mr] at hrow;have hlen:=si.2 h0;have hne:¬ A.length=0:=by omega
  have hln:(A.map AVal.str).length=A.length:=bt _;have hql:=ah hrow;have hids:AVal.idsL (A.map AVal.str)=[]:=by rw [← mr]; exact yd A
  have hren:∀ g,AVal.renL g (A.map AVal.str)=A.map AVal.str:=fun g=>AbsBlb.renL_none fun x hx=>by obtain ⟨k,-,rfl⟩:=fz.1 hx; simp [AVal.ren]
  have hcl:∀ w,xCall T 100273 [.slice (some (q,0)) A.length none] ⟨P,b,w⟩=some (.slice (some (P.length,0)) A.length none,⟨P++[.cells 1 (A.map AVal.str)],b,w⟩):=fun w=>by
   have htk:(A.map AVal.str).take A.length=A.map AVal.str:=dr (by rw [hln]; omega);generalize A.map AVal.str=Y at *;have hrow1:∀ z,(P++[z])[q]? = some (.cells 1 Y):=fun z=>by rw [ag hql]; exact hrow
   simp (disch:=omega) [ba t100273,code100273,hrow,hrow1,hln,hne,htk,hids,hren,jo,jp,sj]
  generalize A.map AVal.str=Y at *;simp (disch:=omega) [ba t651,code651,he,hcl,jo,jp,hids,hren,sj]
end
end
end Go.Abs.AbsNat

namespace Go.Abs.AbsNat
open Go.Abs.AbsBlb hiding T
open Go.Abs.AbsBlo (CodeD.run OpsD.run)
open Go.Abs.Short
abbrev dataK:Bs:=[100,97,116,97]
section
variable {H:List AObj} {b w:Nat} {I:SI} {F:Fl} {K:StU}
section
attribute [-simp] getElem?_pos getElem?_neg List.all_eq_true
attribute [local simp] qZ qS nltT nltF iltT iltF ileT nleT dz
theorem s659z:xCall T 659 [.ptr none] ⟨H,b,w⟩=some (.tuple [.int .i32 0,.int .i64 5],⟨H,b,w⟩):=by
 have h1:=fun w=>s666z (H:=H) (b:=b) (w:=w) (cr:=false)
 simp (disch:=omega) [ba t659,code659,h1]
theorem s659x {s:Bs} {e:Nat} {sv:Option (Nat × Nat)} {lv:AVal} (he:H[e]? = some (.cells 3 [.ptr sv,.str s,lv])) (hl:s.length≤1000000) (hs:isName s=false) :
  xCall T 659 [.ptr (some (e,0))] ⟨H,b,w⟩=some (.tuple [.int .i32 0,.int .i64 13],⟨H,b,w⟩):=by
 have h1:=fun w=>s666x (b:=b) (w:=w) (cr:=false) he hl hs
 simp (disch:=omega) [ba t659,code659,h1]
theorem s659n (h:StA H I F K) {s:Bs} {e:Nat} {lv:AVal} (he:H[e]? = some (.cells 3 [.ptr (some (I.s,0)),.str s,lv])) (hs:isName s=true) (hf:findK (keyB s dataK) K.ix=none) :
  xCall T 659 [.ptr (some (e,0))] ⟨H,b,w⟩=some (.tuple [.int .i32 0,.int .i64 0],⟨H,b,w⟩):=by
 have h1:=fun w=>s666n (b:=b) (w:=w) h he hs hf
 have hw:IntKind.i32.wrap 0=0:=by decide
 simp (disch:=omega) [ba t659,code659,h1,hw]
theorem s659 (h:StA H I F K) {s:Bs} {r:RecsU} {e:Nat} {lv:AVal} (he:H[e]? = some (.cells 3 [.ptr (some (I.s,0)),.str s,lv])) (hs:isName s=true) {x:Nat × PlU} (hf:findK (keyB s dataK) K.ix=some x) (hx:x.2.blob=r.bytes) (hr:r.ok) (hl:x.2.blob.length≤1000000) (hb:b≤H.length) :
  xCall T 659 [.ptr (some (e,0))] ⟨H,b,w⟩=some (.tuple [.int .i32 r.list.length,.int .i64 0],⟨H,b,w⟩):=by
 obtain ⟨H1,A,y,i1,i2,i3,i4⟩:=p666 (cr:=false) h he hs hf hx hr hl hb;obtain ⟨a,c,rfl,-⟩:=i2.row;have hr2:=hr.rr;unfold rightR at hr2;simp only [aw,decide_eq_true_eq] at hr2;have hAl:A.length=r.list.length:=by rw [← i3,bt]
 rw [hAl] at i4
 have hw:IntKind.i32.wrap (r.list.length:Int)=r.list.length:=by
  have:∀ m:Nat,m≤64→IntKind.i32.wrap (m:Int)=m:=fun m hm=>by unfold IntKind.wrap;simp [IntKind.signed,IntKind.bits];omega
  exact this _ hr2.2.1
 unfold RecsU.val at i4;simp (disch:=omega) [ba t659,code659,i4,hw]
theorem s660z {v:AVal}:xCall T 660 [.ptr none,v] ⟨H,b,w⟩=some (.tuple [.int .i32 0,.int .i64 5],⟨H,b,w⟩):=by
 have h1:=fun w=>s666z (H:=H) (b:=b) (w:=w) (cr:=true)
 simp (disch:=omega) [ba t660,code660,h1]
theorem s660x {s:Bs} {e:Nat} {sv:Option (Nat × Nat)} {lv v:AVal} (he:H[e]? = some (.cells 3 [.ptr sv,.str s,lv])) (hl:s.length≤1000000) (hs:isName s=false) :
  xCall T 660 [.ptr (some (e,0)),v] ⟨H,b,w⟩=some (.tuple [.int .i32 0,.int .i64 13],⟨H,b,w⟩):=by
 have h1:=fun w=>s666x (b:=b) (w:=w) (cr:=true) he hl hs
 simp (disch:=omega) [ba t660,code660,h1]
end
end
section
variable {E:Env} {kl:List Bs} {H:List AObj} {b w:Nat} {I:SI} {F:Fl} {K:StU}
def b660:ACode:=.after (.block 0 (.seq (R [0,1,6,7,14] [v 15 7,o 16 (.bin .neq (t 15) (n 0)),v 14 16])
 (.after (.cond (t 14) (.seq (R [4,5] [v 17 7,o 4 (.val (.const (.int .i32 0))),v 5 17])
 (.live [4,5] (.ret))) (.seq (R [0,1,18] [o 19 (.faddr (t 6) 0),o 20 (.load none (t 19)),o 21 (.bin .gtr (t 20) (.const (.int .u32 2147483647))),v 18 21])
 (.after (.cond (t 18) (.seq (R [4,5] [o 4 (.val (.const (.int .i32 0))),o 5 (.val (n 9))])
 (.live [4,5] (.ret))) (.skip)) [0,1]))) [0,1]))) [0,1]
def f660:ACode:=.seq (R [4,5] [v 35 8,o 36 (.conv (.int .i32) (t 35)),v 37 7,v 4 36,v 5 37])
 (.live [4,5] (.ret))
theorem body660:code660.body = .seq (R [0,1] [o 4 (.val (.const (.int .i32 0))),o 5 (.val (n 0))])
 (.seq (R [0,1,6,7] [v 10 0,o 11 (.callg 666 [t 10,.const (.bool true)]),v 9 11,o 12 (.extract (t 9) 0),o 13 (.extract (t 9) 1),o 6 (.lalloc [.int .u32 0,.int .u32 0,.slice none 0 (some 0)]),u (.store 3 (t 6) (t 12)),v 7 13])
 (.seq b660
 (.seq (.after (.region [⟨true,[],[v 23 0,o 24 (.nilcheck (t 23)),o 25 (.faddr (t 24) 0),o 26 (.load none (t 25)),v 27 0,o 28 (.nilcheck (t 27)),o 29 (.faddr (t 28) 1),o 30 (.load none (t 29)),v 31 1]⟩,⟨false,[],[o 32 (.callg 665 [t 26,t 30,.const (.str [100,97,116,97]),t 31]),v 22 32]⟩,⟨true,[],[o 33 (.extract (t 22) 0),o 34 (.extract (t 22) 1),v 8 33]⟩,⟨false,[],[v 7 34]⟩]) [7,8])
 f660))):=rfl
theorem fe660 {P:List AObj} {w':Nat} {x y:Int}:funcEnd code660 ⟨H,b,w⟩ (.ret,⟨[(4,.val (.int .i32 x)),(5,.val (.int .i64 y))],⟨P,b,w'⟩⟩)=some (.tuple [.int .i32 x,.int .i64 y],if w' < H.length then ⟨P,b,min w w'⟩ else ⟨H,b,w⟩):=by
 by_cases c:w' < H.length
 ·simp [funcEnd,code660,resultsL,result1,sget,tupled,dg,Heap.size,c]
 ·simp [funcEnd,code660,resultsL,result1,sget,tupled,dg,Heap.size,c,AVal.under,AVal.unders]
def Added (kl:List Bs) (H:List AObj) (I:SI) (F:Fl) (key bytes:Bs) (b w:Nat) (h':Heap):Prop :=
 ∃ H' F' K' w',h'=⟨H',b,w'⟩∧StF I H H'∧SO kl H' I F' K'∧FlE F F'∧min w b≤w'∧w'≤I.hi∧(∃ x,findK key K'.ix=some x∧x.2.blob=bytes)
section
attribute [-simp] getElem?_pos getElem?_neg List.all_eq_true
attribute [local simp] qZ qS nltT nltF iltT iltF ileT nleT dz
theorem c660 (hC:Codes E) (hF:IsCode E 680 code680) (hF2:IsCode E 671 code671) (hF3:IsCode E 666 code666) (hF4:IsCode E 673 code673) (hF5:IsCode E 665 code665) (hF6:IsCode E 660 code660) (h:SO kl H I F K) (hkl:∀ k ∈ kl,1≤k.length∧k.length≤64) (hkn:kl.length≤12) (hb:I.lo b) (hbN:b≤H.length) (hFn:0 < F.n) {s:Bs} {e:Nat} {lv:AVal} (he:H[e]? = some (.cells 3 [.ptr (some (I.s,0)),.str s,lv])) (hIe:I.hi < e) (hs:isName s=true) (hkey:keyB s dataK ∈ kl) (hx:K.ix=[])
  {dv:AVal} {data:Bs} (hdv:BlobS I H dv data) (hd:data.length≤512) (hlen:(addR newR data).bytes.length≤4096)
  (hroom:RoomFor F K (keyB s dataK) newR.bytes) (hroom2:∀ F' K',FlE F F'→K'.head ≠ -1→K'.at_≤K.at_+12+(32+(keyB s dataK).length+newR.bytes.length)→RoomFor F' K' (keyB s dataK) (addR newR data).bytes) (w:Nat) :
  CallD E 660 [.ptr (some (e,0)),dv] ⟨H,b,w⟩ fun v h'=>v = .tuple [.int .i32 1,.int .i64 0]∧Added kl H I F (keyB s dataK) (addR newR data).bytes b w h':=by
 have hT:=hC.t;have hm:=hC.m;have hIhi:=h.a.hi;refine CallD.of_code hF6 rfl ?_;rw [body660];have hen:enter 0 [AVal.ptr (some (e,0)),dv]=[(0,.val (.ptr (some (e,0)))),(1,.val dv)]:=rfl;have hsz:(⟨H,b,w⟩:Heap).size=H.length:=rfl;rw [hen];simp only [hsz];obtain ⟨da,dc,hdve,hdid,-⟩:=id hdv.1;refine CodeD.seq nofun (CodeD.run hT hm (e:=.normal) (st':=⟨[(0,.val (.ptr (some (e,0)))),(1,.val dv)],⟨H,b,H.length⟩⟩) (fun k'=>by rw [hdve]; simp (disch:=omega) []) ?_);refine CodeD.seq nofun (CodeD.after (CodeD.regionX hT hm ?_))
 refine OpsD.run (l:=[v 10 0]) (r:=[o 11 (.callg 666 [t 10,.const (.bool true)]),v 9 11,o 12 (.extract (t 9) 0),o 13 (.extract (t 9) 1),o 6 (.lalloc [.int .u32 0,.int .u32 0,.slice none 0 (some 0)]),u (.store 3 (t 6) (t 12)),v 7 13]) (s1:=[(10,.val (.ptr (some (e,0)))),(0,.val (.ptr (some (e,0)))),(1,.val dv)]) (h1:=⟨H,b,H.length⟩) (fun k'=>by rw [hdve]; simp (disch:=omega) []) ?_;refine OpsD.call (g:=666) (xs:=[t 10,.const (.bool true)]) rfl rfl rfl (c666 hC hF hF2 hF3 h hkl hkn hb hbN hFn he hs hkey hx hroom H.length) fun vv hh hR'=>?_
 obtain ⟨rfl,P,F',K',w',rfl,s1,s2,s3,s4,s5,s6,s7,s8⟩:=hR';have hdP:=hdv.mono h.a s1;have heP:=s1.above (N:=e) (by omega) _ _ (aj _) he;have hPl:=s1.len;refine OpsD.run (l:=[v 9 11,o 12 (.extract (t 9) 0),o 13 (.extract (t 9) 1),o 6 (.lalloc [.int .u32 0,.int .u32 0,.slice none 0 (some 0)]),u (.store 3 (t 6) (t 12)),v 7 13]) (r:=[]) (s1:=[(7,.val (.int .i64 0)),(6,.var [.int .u32 1,.int .u32 0,.slice none 0 (some 0)]),(6,.var [.int .u32 0,.int .u32 0,.slice none 0 (some 0)]),(13,.val (.int .i64 0)),(12,.val (.agg [.int .u32 1,.int .u32 0,.slice none 0 (some 0)])),(9,.val (.tuple [.agg [.int .u32 1,.int .u32 0,.slice none 0 (some 0)],.int .i64 0])),(11,.val (.tuple [.agg [.int .u32 1,.int .u32 0,.slice none 0 (some 0)],.int .i64 0])),(10,.val (.ptr (some (e,0)))),(0,.val (.ptr (some (e,0)))),(1,.val dv)]) (h1:=⟨P,b,w'⟩) (fun k'=>by rw [hdve]; simp (disch:=omega) []) (OpsD.done ?_)
 simp only [];have hk1:keepK [0,1,6,7] [(7,Slot.val (.int .i64 0)),(6,.var [.int .u32 1,.int .u32 0,.slice none 0 (some 0)]),(6,.var [.int .u32 0,.int .u32 0,.slice none 0 (some 0)]),(13,.val (.int .i64 0)),(12,.val (.agg [.int .u32 1,.int .u32 0,.slice none 0 (some 0)])),(9,.val (.tuple [.agg [.int .u32 1,.int .u32 0,.slice none 0 (some 0)],.int .i64 0])),(11,.val (.tuple [.agg [.int .u32 1,.int .u32 0,.slice none 0 (some 0)],.int .i64 0])),(10,.val (.ptr (some (e,0)))),(0,.val (.ptr (some (e,0)))),(1,.val dv)]=[(0,.val (.ptr (some (e,0)))),(1,.val dv),(6,.var [.int .u32 1,.int .u32 0,.slice none 0 (some 0)]),(7,.val (.int .i64 0))]:=by simp
 rw [hk1];refine CodeD.seq nofun (CodeD.run hT hm (e:=.normal) (st':=⟨[(0,.val (.ptr (some (e,0)))),(1,.val dv)],⟨P,b,w'⟩⟩) (fun k'=>by rw [hdve]; simp (disch:=omega) [b660]) ?_);refine CodeD.seq nofun (CodeD.after (CodeD.regionsX hT hm ?_));refine SegsD.q (s1:=[(31,.val dv),(30,.val (.str s)),(29,.val (.ptr (some (e,1)))),(28,.val (.ptr (some (e,0)))),(27,.val (.ptr (some (e,0)))),(26,.val (.ptr (some (I.s,0)))),(25,.val (.ptr (some (e,0)))),(24,.val (.ptr (some (e,0)))),(23,.val (.ptr (some (e,0)))),(0,.val (.ptr (some (e,0)))),(1,.val dv)]) (h1:=⟨P,b,w'⟩) rfl (fun k'=>by rw [hdve]; simp (disch:=omega) [heP]) ?_;obtain ⟨x,hxf,hxb⟩:=s6;have hxl:x.2.blob.length≤1000000:=by rw [hxb,pi]; decide
 have hadd:=c665 (r:=newR) (data:=data) (dv:=dv) hC hF hF4 hF5 s2 hkl hkn hb (by omega) (by rw [s3.n]; exact hFn) hs (k:=dataK) (by decide) hkey xt hxf hxb hxl hdP.1 hd (by decide) (by decide) (by decide) hlen (hroom2 F' K' s3 s7 s8) w';refine SegsD.f rfl (OpsD.call (g:=665) (xs:=[t 26,t 30,.const (.str [100,97,116,97]),t 31]) (by rfl) (by rfl) (by rfl) hadd fun vv hh hR'=>?_);obtain ⟨rfl,P2,F2,K2,w2,rfl,t1,t2,t3,t4,t5,t6,t7,t8⟩:=hR';have hnx:((newR.next:Nat):Int)=1:=rfl;rw [hnx]
 refine OpsD.run (l:=[v 22 32]) (r:=[]) (s1:=[(22,.val (.tuple [.int .u32 1,.int .i64 0])),(32,.val (.tuple [.int .u32 1,.int .i64 0])),(31,.val dv),(30,.val (.str s)),(29,.val (.ptr (some (e,1)))),(28,.val (.ptr (some (e,0)))),(27,.val (.ptr (some (e,0)))),(26,.val (.ptr (some (I.s,0)))),(25,.val (.ptr (some (e,0)))),(24,.val (.ptr (some (e,0)))),(23,.val (.ptr (some (e,0)))),(0,.val (.ptr (some (e,0)))),(1,.val dv)]) (h1:=⟨P2,b,w2⟩) (fun k'=>by rw [hdve]; simp (disch:=omega) []) (OpsD.done ?_)
 refine SegsD.q (s1:=[(8,.val (.int .u32 1)),(34,.val (.int .i64 0)),(33,.val (.int .u32 1)),(22,.val (.tuple [.int .u32 1,.int .i64 0])),(32,.val (.tuple [.int .u32 1,.int .i64 0])),(31,.val dv),(30,.val (.str s)),(29,.val (.ptr (some (e,1)))),(28,.val (.ptr (some (e,0)))),(27,.val (.ptr (some (e,0)))),(26,.val (.ptr (some (I.s,0)))),(25,.val (.ptr (some (e,0)))),(24,.val (.ptr (some (e,0)))),(23,.val (.ptr (some (e,0)))),(0,.val (.ptr (some (e,0)))),(1,.val dv)]) (h1:=⟨P2,b,w2⟩) rfl (fun k'=>by rw [hdve]; simp (disch:=omega) []) ?_
 refine SegsD.f rfl (OpsD.run (l:=[v 7 34]) (r:=[]) (s1:=[(7,.val (.int .i64 0)),(8,.val (.int .u32 1)),(34,.val (.int .i64 0)),(33,.val (.int .u32 1)),(22,.val (.tuple [.int .u32 1,.int .i64 0])),(32,.val (.tuple [.int .u32 1,.int .i64 0])),(31,.val dv),(30,.val (.str s)),(29,.val (.ptr (some (e,1)))),(28,.val (.ptr (some (e,0)))),(27,.val (.ptr (some (e,0)))),(26,.val (.ptr (some (I.s,0)))),(25,.val (.ptr (some (e,0)))),(24,.val (.ptr (some (e,0)))),(23,.val (.ptr (some (e,0)))),(0,.val (.ptr (some (e,0)))),(1,.val dv)]) (h1:=⟨P2,b,w2⟩) (fun k'=>by rw [hdve]; simp (disch:=omega) []) (OpsD.done ?_));simp only [SegsD]
 have hk2:keepK [7,8] [(7,Slot.val (.int .i64 0)),(8,.val (.int .u32 1)),(34,.val (.int .i64 0)),(33,.val (.int .u32 1)),(22,.val (.tuple [.int .u32 1,.int .i64 0])),(32,.val (.tuple [.int .u32 1,.int .i64 0])),(31,.val dv),(30,.val (.str s)),(29,.val (.ptr (some (e,1)))),(28,.val (.ptr (some (e,0)))),(27,.val (.ptr (some (e,0)))),(26,.val (.ptr (some (I.s,0)))),(25,.val (.ptr (some (e,0)))),(24,.val (.ptr (some (e,0)))),(23,.val (.ptr (some (e,0)))),(0,.val (.ptr (some (e,0)))),(1,.val dv)]=[(7,.val (.int .i64 0)),(8,.val (.int .u32 1))]:=by simp
 rw [hk2];have hw1:IntKind.i32.wrap 1=1:=by decide
 refine CodeD.run hT hm (e:=.ret) (st':=⟨[(4,.val (.int .i32 1)),(5,.val (.int .i64 0))],⟨P2,b,w2⟩⟩) (fun k'=>by simp (disch:=omega) [f660,hw1]) ?_;refine ⟨_,_,fe660,rfl,?_⟩;rw [if_pos (by omega)];exact ⟨P2,F2,K2,min w w2,rfl,s1.trans t1,t2,s3.trans t3,by omega,by omega,t6⟩
end
end
end Go.Abs.AbsNat

namespace Go.Abs.AbsNat
open Go.Abs.AbsBlb hiding T
open Go.Abs.AbsBlo (CodeD.run OpsD.run)
open Go.Abs.Short
theorem isAt_none {L:List EnU} {id k:Nat} (h:∀ e ∈ L,e.id≠id):isAt L id k=false:=by
 unfold isAt;cases hk:L[k]? with
 | none=>rfl
 | some e=>exact decide_eq_false (h e (bp hk))
section
variable {H:List AObj} {b w:Nat} {I:SI} {F:Fl} {K:StU}
theorem s667n (h:StA H I F K) {s k:Bs} {r:RecsU} (hs:isName s=true) (hk:isName k=true) {x:Nat × PlU} (hf:findK (keyB s k) K.ix=some x) (hx:x.2.blob=r.bytes) (hr:r.ok) (hl:x.2.blob.length≤1000000) (hb:b≤H.length) {id:Nat} (hid:∀ e ∈ r.list,e.id≠id) :
  xCall T 667 [.ptr (some (I.s,0)),.str s,.str k,.int .u32 id] ⟨H,b,w⟩=some (.tuple [.slice none 0 (some 0),.int .i64 11],⟨H,b,w⟩):=by
 obtain ⟨H1,A,y,i1,i2,i3,i4⟩:=p675 h hs hk hf hx hr hl hb;obtain ⟨a,c,rfl,j1,j2,j3⟩:=i2.row;have hr2:=hr.rr;unfold rightR at hr2;simp only [aw,decide_eq_true_eq] at hr2;obtain ⟨r1,r2,r3⟩:=hr2;have hAl:A.length=r.list.length:=by rw [← i3,bt]
 have hget:∀ (t:Nat) (z:EV),A[t]? = some z→r.list[t]? = some z.1:=fun t z hz=>by rw [← i3,br,hz]; rfl
 obtain ⟨m,-,m3⟩:=s674 (b:=b) (c:=c) (id:=id) (y1:=.int .u32 r.next) (y2:=.int .u32 r.ver) j1 (by omega) (fun t u z z' htu hz hz'=>lw r1 t u _ _ htu (hget _ _ hz) (hget _ _ hz'));rw [i3,isAt_none hid] at m3;unfold RecsU.val at i4;simp (disch:=omega) [-getElem?_pos,-getElem?_neg,-List.all_eq_true,qZ,qS,nltT,nltF,iltT,iltF,ileT,nleT,dz,ba t667,code667,i4,m3]
theorem wrapI32 {id:Int} (h:0≤id∧id < 4294967296):IntKind.u32.wrap id=id:=by unfold IntKind.wrap;show (if (false && _)=true then _ else (_ % 2 ^ 32))=_;simp; omega
section
attribute [-simp] getElem?_pos getElem?_neg List.all_eq_true
attribute [local simp] qZ qS nltT nltF iltT iltF ileT nleT dz
theorem s662x {s:Bs} {e:Nat} {sv:Option (Nat × Nat)} {lv:AVal} {id:Int} (he:H[e]? = some (.cells 3 [.ptr sv,.str s,lv])) (hl:s.length≤1000000) (hs:isName s=false) :
  xCall T 662 [.ptr (some (e,0)),.int .i32 id] ⟨H,b,w⟩=some (.tuple [.slice none 0 (some 0),.bool false,.int .i64 13],⟨H,b,w⟩):=by
 have h1:=fun w=>s666x (b:=b) (w:=w) (cr:=false) he hl hs
 simp (disch:=omega) [ba t662,code662,h1]
theorem s662l (h:StA H I F K) {s:Bs} {r:RecsU} {e:Nat} {lv:AVal} (he:H[e]? = some (.cells 3 [.ptr (some (I.s,0)),.str s,lv])) (hs:isName s=true) {x:Nat × PlU} (hf:findK (keyB s dataK) K.ix=some x) (hx:x.2.blob=r.bytes) (hr:r.ok) (hl:x.2.blob.length≤1000000) (hb:b≤H.length) {id:Int} (hid:id < 1) :
  xCall T 662 [.ptr (some (e,0)),.int .i32 id] ⟨H,b,w⟩=some (.tuple [.slice none 0 (some 0),.bool false,.int .i64 0],⟨H,b,w⟩):=by
 obtain ⟨H1,A,y,i1,i2,i3,i4⟩:=p666 (cr:=false) h he hs hf hx hr hl hb;obtain ⟨a,c,rfl,-⟩:=i2.row;unfold RecsU.val at i4;simp (disch:=omega) [ba t662,code662,i4,hid]
theorem s662n (h:StA H I F K) {s:Bs} {r:RecsU} {e:Nat} {lv:AVal} (he:H[e]? = some (.cells 3 [.ptr (some (I.s,0)),.str s,lv])) (hs:isName s=true) {x:Nat × PlU} (hf:findK (keyB s dataK) K.ix=some x) (hx:x.2.blob=r.bytes) (hr:r.ok) (hl:x.2.blob.length≤1000000) (hb:b≤H.length) (hIe:I.hi < e) {id:Nat} (h1:1≤id) (h2:id < 4294967296) (hid:∀ e ∈ r.list,e.id≠id) :
  xCall T 662 [.ptr (some (e,0)),.int .i32 id] ⟨H,b,w⟩=some (.tuple [.slice none 0 (some 0),.bool false,.int .i64 0],⟨H,b,w⟩):=by
 obtain ⟨H1,A,y,i1,i2,i3,i4⟩:=p666 (cr:=false) h he hs hf hx hr hl hb;obtain ⟨a,c,rfl,-⟩:=i2.row;have hhi:=h.hi;have hA1:StA H1 I F K:=h.low (N:=H.length) ⟨hhi,ah h.fl.f⟩ fun k o _ ho=>i1 k o ho
 have hg:=fun w=>s667n (b:=b) (w:=w) hA1 hs (k:=dataK) (by decide) hf hx hr hl (bz hb i1.len) hid
 have he1:=i1 _ _ he;have hwu:=wrapI32 (id:=(id:Int)) (by omega);have hc:¬ ((id:Int) < 1):=by omega
 unfold RecsU.val at i4;simp (disch:=omega) [ba t662,code662,i4,he1,hg,hwu,hc]
theorem p662 (h:StA H I F K) {s:Bs} {r:RecsU} {e:Nat} {lv:AVal} (he:H[e]? = some (.cells 3 [.ptr (some (I.s,0)),.str s,lv])) (hs:isName s=true) {x:Nat × PlU} (hf:findK (keyB s dataK) K.ix=some x) (hx:x.2.blob=r.bytes) (hr:r.ok) (hl:x.2.blob.length≤1000000) (hb:b≤H.length) {id j:Nat} {en:EnU} (h1:1≤id) (h2:id < 4294967296) (hj:r.list[j]? = some en) (hid:en.id=id) :
  ∃ H' v,Pre H H'∧BlobV H' v en.data∧(∀ q o n k,v = .slice (some (q,o)) n k→H.length≤q∧∃ X,H'[q]? = some (.cells 1 X))∧∀ w,xCall T 662 [.ptr (some (e,0)),.int .i32 id] ⟨H,b,w⟩=some (.tuple [v,.bool true,.int .i64 0],⟨H',b,w⟩):=by
 obtain ⟨H1,A,y,i1,i2,i3,i4⟩:=p666 (cr:=false) h he hs hf hx hr hl hb;obtain ⟨a,c,rfl,-⟩:=i2.row;have hhi:=h.hi;have hA1:StA H1 I F K:=h.low (N:=H.length) ⟨hhi,ah h.fl.f⟩ fun k o _ ho=>i1 k o ho
 obtain ⟨H2,v,k1,k2,k3,k4⟩:=p667 (b:=b) hA1 hs (k:=dataK) (by decide) hf hx hr hl (bz hb i1.len) hj hid;have he1:=i1 _ _ he;have hwu:=wrapI32 (id:=(id:Int)) (by omega);have hc:¬ ((id:Int) < 1):=by omega
 have hp1:=i1.len;obtain ⟨H3,v3,l1,l2,l3,l4⟩:=qp (b:=b) (w':=H.length) (fun y=>.tuple [y,.bool true,.int .i64 0]) (fun y=>by simp [AVal.ids,AVal.idsL]) (fun f y=>by simp [AVal.ren,AVal.renL]) (fun n p o k c=>by simp [AVal.under,AVal.unders]) (fun n k c=>by simp [AVal.under,AVal.unders]) k2 (fun q o n k e=>by have:=k3 q o n k e; exact ⟨by omega,this.2⟩) (i1.trans k1) (aj _);refine ⟨H3,v3,l1,l2,l3,fun w=>?_⟩;obtain ⟨va,vc,rfl,-,-⟩:=k2;unfold RecsU.val at i4;simp (disch:=omega) [ba t662,code662,-dg,i4,he1,k4,hwu,hc,l4]
end
end
end Go.Abs.AbsNat

namespace Go.Abs.AbsNat
open Go.Abs.AbsBlb hiding T
open Go.Abs.AbsBlo (CodeD.run OpsD.run)
open Go.Abs.Short
section
variable {H:List AObj} {b w:Nat} {I:SI} {F:Fl} {K:StU}
section
attribute [-simp] getElem?_pos getElem?_neg List.all_eq_true
attribute [local simp] qZ qS nltT nltF iltT iltF ileT nleT dz
theorem s669z {id:Int} {f:AVal}:xCall T 669 [.ptr none,.int .i32 id,f] ⟨H,b,w⟩=some (.int .i64 5,⟨H,b,w⟩):=by
 have h1:=fun w=>s666z (H:=H) (b:=b) (w:=w) (cr:=false)
 simp (disch:=omega) [ba t669,code669,h1]
theorem s669x {s:Bs} {e:Nat} {sv:Option (Nat × Nat)} {lv:AVal} {id:Int} {f:AVal} (he:H[e]? = some (.cells 3 [.ptr sv,.str s,lv])) (hl:s.length≤1000000) (hs:isName s=false) :
  xCall T 669 [.ptr (some (e,0)),.int .i32 id,f] ⟨H,b,w⟩=some (.int .i64 13,⟨H,b,w⟩):=by
 have h1:=fun w=>s666x (b:=b) (w:=w) (cr:=false) he hl hs
 simp (disch:=omega) [ba t669,code669,h1]
theorem s656z {id:Int} {a:Option (Nat × Nat)} {n:Nat} {c:Option Nat}:xCall T 656 [.ptr none,.int .i32 id,.slice a n c] ⟨H,b,w⟩=some (.int .i64 5,⟨H,b,w⟩):=by
 have h1:=fun P f w=>s669z (H:=P) (b:=b) (w:=w) (id:=id) (f:=f)
 simp (disch:=omega) [ba t656,code656,h1]
theorem s657z {id:Int}:xCall T 657 [.ptr none,.int .i32 id] ⟨H,b,w⟩=some (.int .i64 5,⟨H,b,w⟩):=by
 have h1:=fun P f w=>s669z (H:=P) (b:=b) (w:=w) (id:=id) (f:=f)
 simp (disch:=omega) [ba t657,code657,h1]
theorem s656x {s:Bs} {e:Nat} {sv:Option (Nat × Nat)} {lv:AVal} {id:Int} {a:Option (Nat × Nat)} {n:Nat} {c:Option Nat} (he:H[e]? = some (.cells 3 [.ptr sv,.str s,lv])) (hl:s.length≤1000000) (hs:isName s=false):xCall T 656 [.ptr (some (e,0)),.int .i32 id,.slice a n c] ⟨H,b,w⟩=some (.int .i64 13,⟨H,b,w⟩):=by
 have h1:=fun X f w=>s669x (H:=H++X) (b:=b) (w:=w) (id:=id) (f:=f) (by rw [ag (ah he)]; exact he) hl hs
 simp (disch:=omega) [ba t656,code656,h1]
theorem s657x {s:Bs} {e:Nat} {sv:Option (Nat × Nat)} {lv:AVal} {id:Int} (he:H[e]? = some (.cells 3 [.ptr sv,.str s,lv])) (hl:s.length≤1000000) (hs:isName s=false):xCall T 657 [.ptr (some (e,0)),.int .i32 id] ⟨H,b,w⟩=some (.int .i64 13,⟨H,b,w⟩):=by
 have h1:=fun X f w=>s669x (H:=H++X) (b:=b) (w:=w) (id:=id) (f:=f) (by rw [ag (ah he)]; exact he) hl hs
 simp (disch:=omega) [ba t657,code657,h1]
theorem s677n {M:List AObj} {A:List EV} {a:Option (Nat × Nat)} {c:Option Nat} {y1 y2:AVal} {ro ib db id:Nat} (hr:M[ro]? = some (.cells 3 [y1,y2,.slice a A.length c])) (hy:∃ k k' x x',y1 = .int k x∧y2 = .int k' x') (hi:M[ib]? = some (.cells 1 [.int .u32 id])) (hR:Row M 2 EV.cells A a) (hn:A.length≤1000) (hs:∀ (i j:Nat) (x y:EV),i < j→A[i]? = some x→A[j]? = some y→x.1.id < y.1.id) (ha:∀ p o,a=some (p,o)→p < M.length) (hid:∀ e ∈ A.map Prod.fst,e.id≠id) :
  xCall T 677 [.ptr (some (ro,0)),.ptr (some (ib,0)),.ptr (some (db,0))] ⟨M,b,w⟩=some (.int .i64 11,⟨M,b,w⟩):=by
 obtain ⟨k,k',x,x',rfl,rfl⟩:=hy;obtain ⟨m,-,m3⟩:=s674 (b:=b) (c:=c) (id:=id) (y1:=.int k x) (y2:=.int k' x') hR hn hs;rw [isAt_none hid] at m3;simp (disch:=omega) [ba t677,code677,hr,hi,m3]
theorem s673n (h:StA H I F K) {s k:Bs} {r:RecsU} (hs:isName s=true) (hk:isName k=true) {x:Nat × PlU} (hf:findK (keyB s k) K.ix=some x) (hx:x.2.blob=r.bytes) (hr:r.ok) (hl:x.2.blob.length≤1000000) (hb:b≤H.length) {ib db id:Nat} (hi:H[ib]? = some (.cells 1 [.int .u32 id])) (hdb:db < H.length) (hid:∀ e ∈ r.list,e.id≠id) :
  xCall T 673 [.ptr (some (I.s,0)),.str s,.str k,.func 677 [] [.ptr (some (ib,0)),.ptr (some (db,0))]] ⟨H,b,w⟩=some (.int .i64 11,⟨H,b,w⟩):=by
 obtain ⟨H1,A,y,i1,i2,i3,i4⟩:=p675 h hs hk hf hx hr hl hb;obtain ⟨a,c,rfl,j1,j2,j3⟩:=i2.row;have hr2:=hr.rr;unfold rightR at hr2;simp only [aw,decide_eq_true_eq] at hr2;obtain ⟨r1,r2,r3⟩:=hr2;have hAl:A.length=r.list.length:=by rw [← i3,bt]
 have hget:∀ (t:Nat) (z:EV),A[t]? = some z→r.list[t]? = some z.1:=fun t z hz=>by rw [← i3,br,hz]; rfl
 have hp1:=i1.len;have h677:=fun w=>s677n (M:=H1++[.cells 3 [.int .u32 r.next,.int .u32 r.ver,.slice a A.length c]]) (b:=b) (w:=w) (ro:=H1.length) (ib:=ib) (db:=db) (id:=id) (fo _ _) ⟨_,_,_,_,rfl,rfl⟩ (by rw [ag (by have:=ah hi; omega)]; exact i1 _ _ hi) (j1.ext _) (by omega) (fun t u z z' htu hz hz'=>lw r1 t u _ _ htu (hget _ _ hz) (hget _ _ hz')) (fun p o e=>by have:=j2 p o e; rw [au]; omega) (by rw [i3]; exact hid)
 have hset2:∀ y z:AObj,(H1++[y]).set H1.length z=H1++[z]:=fun y z=>set_k0 H1 [y] z
 unfold RecsU.val at i4;simp (disch:=omega) [ba t673,code673,i4,h677,hset2]
theorem s676n (h:StA H I F K) {s k:Bs} {r:RecsU} (hs:isName s=true) (hk:isName k=true) {x:Nat × PlU} (hf:findK (keyB s k) K.ix=some x) (hx:x.2.blob=r.bytes) (hr:r.ok) (hl:x.2.blob.length≤1000000) (hb:b≤H.length) {id:Nat} (hid:∀ e ∈ r.list,e.id≠id) :
  xCall T 676 [.ptr (some (I.s,0)),.str s,.str k,.int .u32 id,.slice none 0 (some 0)] ⟨H,b,w⟩=some (.int .i64 11,⟨H,b,w⟩):=by
 have h673:=fun w=>s673n (H:=H++[.cells 1 [.int .u32 id],.cells 1 [.slice none 0 (some 0)]]) (b:=b) (w:=w) (h.app _) hs hk hf hx hr hl (by rw [au]; omega) (ib:=H.length) (db:=H.length+1) (id:=id) (fo _ _) (by rw [au]; exact Nat.lt_succ_self _) hid
 simp (disch:=omega) [ba t676,code676,h673]
theorem s668n (h:StA H I F K) {s:Bs} {r:RecsU} {e q1 q2:Nat} {lv:AVal} (he:H[e]? = some (.cells 3 [.ptr (some (I.s,0)),.str s,lv])) (hq1:H[q1]? = some (.cells 1 [.ptr (some (e,0))])) (hq2:H[q2]? = some (.cells 1 [.slice none 0 (some 0)])) (hs:isName s=true) {x:Nat × PlU} (hf:findK (keyB s dataK) K.ix=some x) (hx:x.2.blob=r.bytes) (hr:r.ok) (hl:x.2.blob.length≤1000000) (hb:b≤H.length) {id:Nat} (hid:∀ e ∈ r.list,e.id≠id) :
  xCall T 668 [.int .u32 id,.ptr (some (q1,0)),.ptr (some (q2,0))] ⟨H,b,w⟩=some (.int .i64 11,⟨H,b,w⟩):=by
 have h676:=fun w=>s676n (b:=b) (w:=w) h hs (k:=dataK) (by decide) hf hx hr hl hb hid
 simp (disch:=omega) [ba t668,code668,he,hq1,hq2,h676]
theorem s669n (h:StA H I F K) {s:Bs} {r:RecsU} {e q1 q2:Nat} {lv:AVal} (he:H[e]? = some (.cells 3 [.ptr (some (I.s,0)),.str s,lv])) (hq1:H[q1]? = some (.cells 1 [.ptr (some (e,0))])) (hq2:H[q2]? = some (.cells 1 [.slice none 0 (some 0)])) (hs:isName s=true) {x:Nat × PlU} (hf:findK (keyB s dataK) K.ix=some x) (hx:x.2.blob=r.bytes) (hr:r.ok) (hl:x.2.blob.length≤1000000) (hb:b≤H.length) {id:Nat} (h1:1≤id) (h2:id < 4294967296) (hid:∀ e ∈ r.list,e.id≠id) :
  xCall T 669 [.ptr (some (e,0)),.int .i32 id,.func 668 [] [.ptr (some (q1,0)),.ptr (some (q2,0))]] ⟨H,b,w⟩=some (.int .i64 11,⟨H,b,w⟩):=by
 have hc:¬ ((id:Int) < 1):=by omega
 have hwu:=wrapI32 (id:=(id:Int)) (by omega);obtain ⟨H1,A,y,i1,i2,i3,i4⟩:=p666 (cr:=false) h he hs hf hx hr hl hb;obtain ⟨a,c,rfl,-⟩:=i2.row;have hA1:StA H1 I F K:=h.low (N:=H.length) ⟨h.hi,ah h.fl.f⟩ fun k o _ ho=>i1 k o ho
 have h668:=fun w=>s668n (b:=b) (w:=w) hA1 (i1 _ _ he) (i1 _ _ hq1) (i1 _ _ hq2) hs hf hx hr hl (bz hb i1.len) hid
 unfold RecsU.val at i4;simp (disch:=omega) [ba t669,code669,i4,hwu,hc,h668]
theorem s656n (h:StA H I F K) {s:Bs} {r:RecsU} {e:Nat} {lv:AVal} (he:H[e]? = some (.cells 3 [.ptr (some (I.s,0)),.str s,lv])) (hs:isName s=true) {x:Nat × PlU} (hf:findK (keyB s dataK) K.ix=some x) (hx:x.2.blob=r.bytes) (hr:r.ok) (hl:x.2.blob.length≤1000000) (hb:b≤H.length) {id:Nat} (h1:1≤id) (h2:id < 4294967296) (hid:∀ e ∈ r.list,e.id≠id) :
  xCall T 656 [.ptr (some (e,0)),.int .i32 id,.slice none 0 (some 0)] ⟨H,b,w⟩=some (.int .i64 11,⟨H,b,w⟩):=by
 have hel:=ah he;have h669:=fun w=>s669n (H:=H++[.cells 1 [.ptr (some (e,0))],.cells 1 [.slice none 0 (some 0)]]) (b:=b) (w:=w) (q1:=H.length) (q2:=H.length+1) (h.app _) (by rw [ag hel]; exact he) (fo _ _) (j9 H _ 1) hs hf hx hr hl (by rw [au]; omega) h1 h2 hid
 simp (disch:=omega) [ba t656,code656,h669]
end
end
end Go.Abs.AbsNat

namespace Go.Abs.AbsNat
open Go.Abs.AbsBlb hiding T
open Go.Abs.AbsBlo (CodeD.run OpsD.run)
open Go.Abs.Short
theorem renL_i64 (f:Nat→Nat) (l:List Nat):AVal.renL f (l.map natV)=l.map natV:=AbsBlb.renL_none fun x hx=>by obtain ⟨k,-,rfl⟩:=fz.1 hx; simp [AVal.ren,natV]
section
variable {H:List AObj} {b w:Nat} {I:SI} {F:Fl} {K:StU}
def SI.mv (f:Nat→Nat) (I:SI):SI:=⟨f I.s,f I.sa,I.sc,f I.m,⟨f I.fi.fl,f I.fi.fb,f I.fi.fw,I.fi.cb,I.fi.cw⟩⟩
theorem sa_moves {O:List AObj} {f:Nat→Nat} {Ic:Nat→Prop} {n:Nat} (h:StA H I F K) (hx:K.ix=[]) (hm:Moves f Ic n H O) (hi:Ic I.s) (hlo:n≤I.s∧n≤I.sa∧n≤I.m∧n≤I.fi.fl∧n≤I.fi.fb∧n≤I.fi.fw) (hne:F.b≠[]) :
  StA O (SI.mv f I) F K∧(n≤f I.s∧n≤f I.sa∧n≤f I.m∧n≤f I.fi.fl∧n≤f I.fi.fb∧n≤f I.fi.fw):=by
 obtain ⟨l1,l2,l3,l4,l5,l6⟩:=hlo;have hcl:=hm.cl _ _ hi h.s;have hsa:Ic I.sa:=hcl _ (by simp [AObj.ids,StU.cells,AVal.idsL,AVal.ids]) l2;have hmm:Ic I.m:=hcl _ (by simp [AObj.ids,StU.cells,AVal.idsL,AVal.ids]) l3;have hfl:Ic I.fi.fl:=hcl _ (by simp [AObj.ids,StU.cells,AVal.idsL,AVal.ids]) l4;have hcf:=hm.cl _ _ hfl h.fl.f;have hfb:Ic I.fi.fb:=hcf _ (by simp [AObj.ids,Fl.cells,AVal.idsL,AVal.ids]) l5;have hfw:Ic I.fi.fw:=hcf _ (by simp [AObj.ids,Fl.cells,AVal.idsL,AVal.ids]) l6;have o1:=hm.at' _ _ hi h.s;have o2:=hm.at' _ _ hsa h.r;have o3:=hm.at' _ _ hmm h.m;have o4:=hm.at' _ _ hfl h.fl.f;have o5:=hm.at' _ _ hfb h.fl.b;have o6:=hm.at' _ _ hfw h.fl.w
 have e5:(AObj.cells 1 (F.b.map u8V)).ren f = .cells 1 (F.b.map u8V):=by
  show AObj.cells 1 (AVal.renL f _)=_
  rw [lj]
 have e6:(AObj.cells 1 (F.w.map natV)).ren f = .cells 1 (F.w.map natV):=by
  show AObj.cells 1 (AVal.renL f _)=_
  rw [renL_i64]
 rw [e5] at o5;rw [e6] at o6;refine ⟨⟨⟨?_,o5,o6,h.fl.bl,h.fl.wl,h.fl.nb,h.fl.lb,h.fl.wb,?_,h.fl.cbo,h.fl.cwo⟩,?_,?_,?_,h.ln,h.hd,h.ab,h.sb,h.tb⟩,hm.up _ l1,hm.up _ l2,hm.up _ l3,hm.up _ l4,hm.up _ l5,hm.up _ l6⟩
 ·show O[f I.fi.fl]? = _
  rw [o4];simp [AObj.ren,Fl.cells,AVal.renL,AVal.ren,SI.mv]
 ·show f I.fi.fb≠f I.fi.fw
  intro e;rw [e,o6] at o5;simp only [c9,AObj.cells.injEq,true_and] at o5;cases hb:F.b with
  | nil=>exact hne hb
  | cons x l =>
   rw [hb] at o5;cases hw:F.w with
   | nil=>rw [hw] at o5; simp at o5
   | cons y k=>rw [hw] at o5; simp [u8V,natV] at o5
 ·show O[f I.s]? = _
  rw [o1];simp [AObj.ren,StU.cells,AVal.renL,AVal.ren,SI.mv]
 ·show O[f I.sa]? = _
  rw [o2];show some (AObj.cells 3 (AVal.renL f _))=_;rw [yh]
 ·show O[f I.m]? = _
  rw [o3];unfold StU.map;rw [hx]; rfl
theorem store1 {kl:List Bs} {n z lim:Nat} (hn:1≤n∧n≤64) (hz:64≤z∧z≤65536) (hl:1≤lim∧lim≤1048576) (hnz:n*z≤131072) (hb:b≤H.length) :
  ∃ M H' I,Pre H H'∧SO kl H' I (AbsBlo.F0 n z lim) (AbsBlo.K0 n)∧(H.length≤I.s∧H.length≤I.sa∧H.length≤I.m∧H.length≤I.fi.fl∧H.length≤I.fi.fb∧H.length≤I.fi.fw)∧(AbsBlo.F0 n z lim).b≠[] ∧
   (∀ w,xCall T 556 [.agg [.int .i64 n,.int .i64 z,.int .i64 lim]] ⟨H,b,w⟩=some (.tuple [.ptr (some (H.length,0)),.int .i64 0],⟨M,b,w⟩)) ∧
   ∀ w,xCall T 555 [.ptr (some (H.length,0))] ⟨M,b,w⟩=some (.tuple [.ptr (some (I.s,0)),.int .i64 0],⟨H',b,w⟩):=by
 have hf:=AbsBlo.flash0 (H:=H) hn hz hl;have hll:(H++AbsBlo.newO H.length n z lim).length=H.length+3:=by simp [AbsBlo.newO]
 have hb':∀ j,j < (AbsBlo.F0 n z lim).b.length→(AbsBlo.F0 n z lim).b[j]? = some 255:=fun j hj=>by have hj:j < (List.replicate (n*z) (255:UInt8)).length:=hj;rw [bn] at hj;show (List.replicate (n*z) (255:UInt8))[j]? = _;rw [f9,if_pos hj]
 have hw:∀ i,i < (AbsBlo.F0 n z lim).n→(AbsBlo.F0 n z lim).w[i]? = some 0:=fun i hi=>by have hi:i < n:=hi;show (List.replicate n 0)[i]? = _;rw [f9,if_pos hi]
 obtain ⟨H',I,k1,k2,k3,k4,k5,k6,k7⟩:=AbsBlo.p555 (b:=b) hf hb' hw (by show 12≤z; omega) (by show 0 < n; omega) (by omega);refine ⟨H++AbsBlo.newO H.length n z lim,H',I,(Pre.app _ _).trans k1,⟨k6,AbsBlo.inv0 hf (by omega)⟩,?_,fun e=>?_,fun w=>fe sub (AbsBlo.s556 hn hz hl hnz),fun w=>fe sub (k7 w)⟩
 ·rw [k2];exact ⟨by omega,by omega,by omega,aj _,by show H.length≤H.length+1; omega,by show H.length≤H.length+2; omega⟩
 ·have h2:(List.replicate (n*z) (255:UInt8)).length=0:=by have h3:(AbsBlo.F0 n z lim).b=List.replicate (n*z) (255:UInt8):=rfl;rw [← h3,e]; rfl
  rw [bn] at h2;have:=Nat.mul_pos (show 0 < n by omega) (show 0 < z by omega);omega
theorem p663 {kl:List Bs} (hb:b≤H.length):∃ H' I,Pre H H'∧I.lo b∧SO kl H' I (AbsBlo.F0 5 16384 1000) (AbsBlo.K0 5)∧(H.length≤I.s∧H.length≤I.sa∧H.length≤I.m∧H.length≤I.fi.fl∧H.length≤I.fi.fb∧H.length≤I.fi.fw) ∧
  ∀ w,xCall T 663 [] ⟨H,b,w⟩=some (.tuple [.ptr (some (I.s,0)),.bool true],⟨H',b,w⟩):=by
 obtain ⟨M,H',I,hpre,hSO,hlo,hne,h556,h555⟩:=store1 (H:=H) (b:=b) (kl:=kl) (n:=5) (z:=16384) (lim:=1000) (by decide) (by decide) (by decide) (by decide) hb;have hx:(AbsBlo.K0 5).ix=[]:=rfl;generalize AbsBlo.F0 5 16384 1000=FF at *;generalize AbsBlo.K0 5=KK at *
 have hrun:∀ w,xCall T 663 [] ⟨H,b,w⟩=some (dg ⟨H,b,w⟩ (.tuple [.ptr (some (I.s,0)),.bool true]) ⟨H',b,H.length⟩):=fun w=>by simp only [bg] at h556;simp (disch:=omega) [-getElem?_pos,-getElem?_neg,-List.all_eq_true,qZ,qS,nltT,nltF,iltT,iltF,ileT,nleT,dz,ba t663,code663,-dg,h556,h555]
 have hsl:H.length≤I.s:=hlo.1
 have hv:AVal.under H.length (.tuple [.ptr (some (I.s,0)),.bool true])=false:=by
  have:¬ I.s < H.length:=by omega
  simp [AVal.under,AVal.unders,this]
 rcases AbsBlo.finish_any2 (b:=b) (P:=H') hv (aj H.length) with e | ⟨f,Ic,X,e,hm,hi,-⟩
 ·exact ⟨H',I,hpre,⟨by omega,by omega,by omega,by omega,by omega⟩,hSO,hlo,fun w=>by rw [hrun w,e w]⟩
 ·have hiS:Ic I.s:=hi _ (by simp [AVal.ids,AVal.idsL]) hsl;obtain ⟨m1,m2⟩:=sa_moves hSO.a hx hm hiS hlo hne;refine ⟨H++X,SI.mv f I,Pre.app _ _,⟨by have:=m2.1; exact bz hb this,bz hb m2.2.1,bz hb m2.2.2.1,bz hb m2.2.2.2.2.1,bz hb m2.2.2.2.2.2⟩,⟨m1,hSO.v⟩,m2,fun w=>?_⟩;rw [hrun w,e w];simp [AVal.ren,AVal.renL,SI.mv]
end
end Go.Abs.AbsNat

namespace Go.Abs.AbsNat
open Go.Abs.AbsBlb hiding T
open Go.Abs.AbsBlo (CodeD.run OpsD.run lq keyC mr)
open Go.Abs.Short
abbrev app:Bs:=[97,112,112]
abbrev keyL:List Bs:=[keyB app dataK]
def r655:ACode:=.seq (R [0] [v 44 2,v 45 44,g 46 45 true (.val (t 11)),g 47 45 true (.len .sl (t 46)),g 48 45 true (.bin .eql (t 47) (n 2)),o 49 (.pick (t 45) (t 48) F),v 50 49,g 51 50 true (.val (t 11)),g 52 50 true (.iaddr 1 (t 51) (n 0)),g 53 50 true (.load none (t 52)),g 54 50 true (.bin .eql (t 53) (.const (.str [45,53]))),o 55 (.pick (t 50) (t 54) F),v 56 55,g 57 56 true (.val (t 11)),g 58 56 true (.iaddr 1 (t 57) (n 1)),g 59 56 true (.load none (t 58)),g 60 56 true (.bin .eql (t 59) (.const (.str [104,105]))),o 61 (.pick (t 56) (t 60) F),v 62 61,g 63 62 true (.val (t 4)),g 64 62 true (.bin .eql (t 63) (.const (.int .i32 0))),o 65 (.pick (t 62) (t 64) F),v 66 65,g 67 66 true (.val (t 5)),g 68 66 true (.bin .eql (t 67) (n 0)),o 69 (.pick (t 66) (t 68) F),v 70 69,g 71 70 true (.val (t 6)),g 72 70 true (.bin .eql (t 71) (.const (.int .i32 1))),o 73 (.pick (t 70) (t 72) F),v 74 73,g 75 74 true (.val (t 7)),g 76 74 true (.bin .eql (t 75) (n 0)),o 77 (.pick (t 74) (t 76) F),v 78 77,g 79 78 true (.val (t 8)),g 80 78 true (.conv .string (t 79)),g 81 78 true (.bin .eql (t 80) (.const (.str [120]))),o 82 (.pick (t 78) (t 81) F),v 83 82,g 84 83 true (.val (t 9)),o 85 (.pick (t 83) (t 84) F),v 86 85,g 87 86 true (.val (t 10)),g 88 86 true (.bin .eql (t 87) (n 0)),o 89 (.pick (t 86) (t 88) F),v 90 89,g 91 90 true (.val (t 3)),g 92 90 true (.callg 656 [t 91,.const (.int .i32 2),.const (.slice none 0 (some 0))]),g 93 90 true (.bin .eql (t 92) (n 11)),o 94 (.pick (t 90) (t 93) F),v 0 94])
 (.live [0] (.ret))
theorem body655:code655.body = .seq (R [] [o 0 (.val F)])
 (.seq (R [1,2] [o 13 (.callg 663 []),v 12 13,o 14 (.extract (t 12) 0),o 15 (.extract (t 12) 1),v 1 14,v 2 15])
 (.seq (R [2,3] [v 16 1,o 17 (.callg 654 [t 16,.const (.str [97,112,112])]),v 3 17])
 (.seq (R [2,3] [v 18 3,o 19 (.callg 653 [t 18,.const (.int .i64 (-5))])])
 (.seq (R [2,3] [v 20 3,o 21 (.mkslice 1 2 [.int .u8 0,.int .u8 0] [(0,1,.const (.int .u8 104)),(1,1,.const (.int .u8 105))]),o 22 (.conv .same (t 21)),o 23 (.callg 661 [t 20,t 22])])
 (.seq (R [2,3,4,5] [v 25 3,o 26 (.callg 659 [t 25]),v 24 26,o 27 (.extract (t 24) 0),o 28 (.extract (t 24) 1),v 4 27,v 5 28])
 (.seq (R [2,3,4,5,6,7] [v 30 3,o 31 (.mkslice 1 1 [.int .u8 0] [(0,1,.const (.int .u8 120))]),o 32 (.conv .same (t 31)),o 33 (.callg 660 [t 30,t 32]),v 29 33,o 34 (.extract (t 29) 0),o 35 (.extract (t 29) 1),v 6 34,v 7 35])
 (.seq (R [2,3,4,5,6,7,8,9,10] [v 37 3,o 38 (.callg 662 [t 37,.const (.int .i32 1)]),v 36 38,o 39 (.extract (t 36) 0),o 40 (.extract (t 36) 1),o 41 (.extract (t 36) 2),v 8 39,v 9 40,v 10 41])
 (.seq (R [2,3,4,5,6,7,8,9,10,11] [v 42 3,o 43 (.callg 651 [t 42]),v 11 43])
 r655)))))))):=rfl
structure CodesN (E:Env):Prop where
 c:Codes E
 a680:IsCode E 680 code680
 a671:IsCode E 671 code671
 a666:IsCode E 666 code666
 a673:IsCode E 673 code673
 a665:IsCode E 665 code665
 a660:IsCode E 660 code660
section
variable {E:Env} {H:List AObj} {b:Nat}
theorem fe655 {P:List AObj} {w w':Nat} (hw:H.length≤w'):funcEnd code655 ⟨H,b,w⟩ (.ret,⟨[(0,.val (.bool true))],⟨P,b,w'⟩⟩)=some (.bool true,⟨H,b,w⟩):=by
 have:¬ w' < H.length:=by omega
 simp [funcEnd,code655,resultsL,result1,sget,tupled,dg,Heap.size,this,AVal.under]
theorem room0:RoomFor (AbsBlo.F0 5 16384 1000) (AbsBlo.K0 5) (keyB app dataK) newR.bytes:=by refine ⟨by decide,fun _=>⟨by decide,by decide,by decide,by decide⟩⟩
theorem room1 {F':Fl} {K':StU} {data:Bs} (h:FlE (AbsBlo.F0 5 16384 1000) F') (hh:K'.head ≠ -1) (ha:K'.at_≤(AbsBlo.K0 5).at_+12+(32+(keyB app dataK).length+newR.bytes.length)) (hd:data.length≤512):RoomFor F' K' (keyB app dataK) (addR newR data).bytes:=by
 have hz:F'.z=16384:=h.z;have hk:(keyB app dataK).length=10:=by decide
 have h0:(AbsBlo.K0 5).at_=0:=rfl
 have hl:(addR newR data).bytes.length=16+data.length:=by
  show (recsB 2 1 [⟨1,data⟩]).length=_
  rw [qr];simp [ry]; omega
 rw [hk,pi,h0] at ha;refine ⟨by rw [hz,hk,hl]; omega,fun hf=>absurd ⟨hh,by rw [hz,hk,hl]; omega⟩ hf⟩
section
attribute [-simp] getElem?_pos getElem?_neg List.all_eq_true
attribute [local simp] qZ qS nltT nltF iltT iltF ileT nleT dz
theorem c655 (hC:CodesN E) (hF:IsCode E 655 code655) (hb:b=H.length) (w:Nat):CallD E 655 [] ⟨H,b,w⟩ fun v h'=>v = .bool true∧h'=⟨H,b,w⟩:=by
 have hT:=hC.c.t;have hm:=hC.c.m;refine CallD.of_code hF rfl ?_;rw [body655];have hen:enter 0 ([]:List AVal)=[]:=rfl;have hsz:(⟨H,b,w⟩:Heap).size=H.length:=rfl;rw [hen];simp only [hsz];obtain ⟨H1,I,k1,k2,k3,k4,h663⟩:=p663 (H:=H) (b:=b) (kl:=keyL) (by omega);have hp1:=k1.len;have hIs:=ah k3.a.s;have hIhi:=k3.a.hi;have hIfl:=ah k3.a.fl.f;have hn0:0 < (AbsBlo.F0 5 16384 1000).n:=by decide
 refine CodeD.seq nofun (CodeD.run hT hm (e:=.normal) (st':=⟨[],⟨H,b,H.length⟩⟩) (fun k'=>by simp (disch:=omega) []) ?_);refine CodeD.seq nofun (CodeD.run hT hm (e:=.normal) (st':=⟨[(1,.val (.ptr (some (I.s,0)))),(2,.val (.bool true))],⟨H1,b,H.length⟩⟩) (fun k'=>by simp (disch:=omega) [h663]) ?_);have h654:=fun w=>s654 (H:=H1) (b:=b) (w:=w) (s:=app) (o:=some (I.s,0)) (fun p q e=>by cases e; exact hIs)
 refine CodeD.seq nofun (CodeD.run hT hm (e:=.normal) (st':=⟨[(2,.val (.bool true)),(3,.val (.ptr (some (H1.length,0))))],⟨H1++[.cells 3 [.ptr (some (I.s,0)),.str app,.slice none 0 (some 0)]],b,H.length⟩⟩) (fun k'=>by simp (disch:=omega) [h654]) ?_);have hE2:EnvA (H1++[.cells 3 [.ptr (some (I.s,0)),.str app,.slice none 0 (some 0)]]) H1.length (some (I.s,0)) app (.slice none 0 (some 0)) []:=⟨fo _ _,.inl ⟨rfl,rfl⟩⟩;have hS2:=lq k3 [.cells 3 [.ptr (some (I.s,0)),.str app,.slice none 0 (some 0)]];have hl2:(H1++[AObj.cells 3 [.ptr (some (I.s,0)),.str app,.slice none 0 (some 0)]]).length=H1.length+1:=by simp
 generalize H1++[AObj.cells 3 [.ptr (some (I.s,0)),.str app,.slice none 0 (some 0)]]=H2 at *;obtain ⟨H3,lv3,e3,m1,m2,m3⟩:=p653 (b:=b) hE2 (by omega) (by decide) (n:=-5) (by decide);have hi5:AbsList.itoaS (-5)=[45,53]:=by decide
 rw [hi5,fg] at e3;have hS3:SO keyL H3 I (AbsBlo.F0 5 16384 1000) (AbsBlo.K0 5):=⟨hS2.a.low (N:=H1.length) ⟨hIhi,hIfl⟩ m2,hS2.v⟩;have hmw:min H.length H1.length=H.length:=by omega
 refine CodeD.seq nofun (CodeD.run hT hm (e:=.normal) (st':=⟨[(2,.val (.bool true)),(3,.val (.ptr (some (H1.length,0))))],⟨H3,b,H.length⟩⟩) (fun k'=>by simp (disch:=omega) [m3,hmw]) ?_);have hl3:H1.length+1≤H3.length:=by omega
 have e4:EnvA (H3++[.cells 1 [.int .u8 104,.int .u8 105]]) H1.length (some (I.s,0)) app lv3 [[45,53]]:=⟨by rw [ag (ah e3.1)]; exact e3.1,e3.2.mono fun k o _ ho=>by rw [ag (ah ho)]; exact ho⟩;have hq4:(H3++[AObj.cells 1 [.int .u8 104,.int .u8 105]])[H3.length]? = some (.cells 1 (([104,105]:Bs).map u8V)):=fo _ _;have hS4:=lq hS3 [.cells 1 [.int .u8 104,.int .u8 105]];have hl4:(H3++[AObj.cells 1 [.int .u8 104,.int .u8 105]]).length=H3.length+1:=by simp
 obtain ⟨H5,lv5,e5,n1,n2,n3⟩:=p661 (b:=b) (c:=some 2) e4 (by omega) (by decide) hq4 (by decide);have n3:=n3;rw [e8,fg] at e5;simp only [b8,dt,dh,Nat.reduceAdd] at n3
 refine CodeD.seq nofun (CodeD.run hT hm (e:=.normal) (st':=⟨[(2,.val (.bool true)),(3,.val (.ptr (some (H1.length,0))))],⟨H5,b,H.length⟩⟩) (fun k'=>by
  have hmw3:min H3.length H1.length=H1.length:=by omega
  simp (disch:=omega) [n3,hmw]) ?_)
 have hS5:SO keyL H5 I (AbsBlo.F0 5 16384 1000) (AbsBlo.K0 5):=⟨hS4.a.low (N:=H1.length) ⟨hIhi,hIfl⟩ n2,hS4.v⟩;have hl5:H3.length+1≤H5.length:=by omega
 have h659:=fun w=>s659n (b:=b) (w:=w) hS5.a e5.1 (by decide) rfl
 refine CodeD.seq nofun (CodeD.run hT hm (e:=.normal) (st':=⟨[(2,.val (.bool true)),(3,.val (.ptr (some (H1.length,0)))),(4,.val (.int .i32 0)),(5,.val (.int .i64 0))],⟨H5,b,H.length⟩⟩) (fun k'=>by simp (disch:=omega) [h659]) ?_);have hS6:=lq hS5 [.cells 1 [.int .u8 120]];have hq6:(H5++[AObj.cells 1 [.int .u8 120]])[H5.length]? = some (.cells 1 (([120]:Bs).map u8V)):=fo _ _;have he6:(H5++[AObj.cells 1 [.int .u8 120]])[H1.length]? = _:=(ag (ah e5.1)).trans e5.1;have hl6:(H5++[AObj.cells 1 [.int .u8 120]]).length=H5.length+1:=by simp
 have hx6:∀ (k:Nat) (o:AObj),H5[k]? = some o→(H5++[AObj.cells 1 [.int .u8 120]])[k]? = some o:=fun k o ho=>by rw [ag (ah ho)]; exact ho
 have hbI:I.fi.fb≤I.hi∧I.fi.fw≤I.hi:=by unfold SI.hi; omega
 have hdv:BlobS I (H5++[AObj.cells 1 [.int .u8 120]]) (.slice (some (H5.length,0)) 1 (some 1)) [120]:=⟨⟨some (H5.length,0),some 1,rfl,fun p o e=>by cases e; omega,.inr ⟨H5.length,0,rfl,SlB.whole hq6 rfl,aj _⟩⟩,fun p o n c e=>by simp only [AVal.slice.injEq,c9,gu] at e;omega⟩
 generalize hH6:H5++[AObj.cells 1 [.int .u8 120]]=H6 at *;have hq6':H6[H5.length]? = some (.cells 1 [.int .u8 120]):=hq6;have hset6:H6.set H5.length (.cells 1 [.int .u8 120])=H6:=qw hq6';have hadd:=c660 hC.c hC.a680 hC.a671 hC.a666 hC.a673 hC.a665 hC.a660 hS6 (fun k hk=>by rw [b9] at hk; subst hk; decide) (by decide) k2 (by omega) hn0 he6 hIhi (by decide) (ex _) rfl hdv (by decide) (by decide) room0 (fun F' K' h1 h2 h3=>room1 h1 h2 h3 (by decide)) H.length;refine CodeD.seq nofun (CodeD.after (CodeD.regionX hT hm ?_))
 refine OpsD.run (l:=[v 30 3,o 31 (.mkslice 1 1 [.int .u8 0] [(0,1,.const (.int .u8 120))]),o 32 (.conv .same (t 31))]) (r:=[o 33 (.callg 660 [t 30,t 32]),v 29 33,o 34 (.extract (t 29) 0),o 35 (.extract (t 29) 1),v 6 34,v 7 35]) (s1:=[(32,.val (.slice (some (H5.length,0)) 1 (some 1))),(31,.val (.slice (some (H5.length,0)) 1 (some 1))),(30,.val (.ptr (some (H1.length,0)))),(2,.val (.bool true)),(3,.val (.ptr (some (H1.length,0)))),(4,.val (.int .i32 0)),(5,.val (.int .i64 0))]) (h1:=⟨H6,b,H.length⟩) (fun k'=>by simp (disch:=omega) [hH6,hq6',hset6]) ?_;refine OpsD.call (g:=660) (xs:=[t 30,t 32]) rfl rfl rfl hadd fun vv hh hR'=>?_
 obtain ⟨rfl,P,F',K',w',rfl,t1,t2,t3,t4,t5,x,t6,t7⟩:=hR';refine OpsD.run (l:=[v 29 33,o 34 (.extract (t 29) 0),o 35 (.extract (t 29) 1),v 6 34,v 7 35]) (r:=[]) (s1:=[(7,.val (.int .i64 0)),(6,.val (.int .i32 1)),(35,.val (.int .i64 0)),(34,.val (.int .i32 1)),(29,.val (.tuple [.int .i32 1,.int .i64 0])),(33,.val (.tuple [.int .i32 1,.int .i64 0])),(32,.val (.slice (some (H5.length,0)) 1 (some 1))),(31,.val (.slice (some (H5.length,0)) 1 (some 1))),(30,.val (.ptr (some (H1.length,0)))),(2,.val (.bool true)),(3,.val (.ptr (some (H1.length,0)))),(4,.val (.int .i32 0)),(5,.val (.int .i64 0))]) (h1:=⟨P,b,w'⟩) (fun k'=>by simp (disch:=omega) []) (OpsD.done ?_);simp only []
 have hk1:keepK [2,3,4,5,6,7] [(7,Slot.val (.int .i64 0)),(6,.val (.int .i32 1)),(35,.val (.int .i64 0)),(34,.val (.int .i32 1)),(29,.val (.tuple [.int .i32 1,.int .i64 0])),(33,.val (.tuple [.int .i32 1,.int .i64 0])),(32,.val (.slice (some (H5.length,0)) 1 (some 1))),(31,.val (.slice (some (H5.length,0)) 1 (some 1))),(30,.val (.ptr (some (H1.length,0)))),(2,.val (.bool true)),(3,.val (.ptr (some (H1.length,0)))),(4,.val (.int .i32 0)),(5,.val (.int .i64 0))]=[(2,.val (.bool true)),(3,.val (.ptr (some (H1.length,0)))),(4,.val (.int .i32 0)),(5,.val (.int .i64 0)),(6,.val (.int .i32 1)),(7,.val (.int .i64 0))]:=by simp
 rw [hk1];have hPl:=t1.len;have up:∀ (k:Nat) (o:AObj),H1.length≤k→H6[k]? = some o→P[k]? = some o:=fun k o hk ho=>t1.above (N:=H1.length) hIhi k o hk ho
 have hEP:EnvA P H1.length (some (I.s,0)) app lv5 [[45,53],[104,105]]:=⟨up _ _ (aj _) he6,e5.2.mono fun k o hk ho=>up k o (by omega) (hx6 k o ho)⟩;have hr:(addR newR [120]).ok:=addR_ok xt (by decide) (by decide) (by decide) (by decide);have hxl:x.2.blob.length≤1000000:=by rw [t7]; decide
 obtain ⟨H8,v8,u1,u2,u3,u4⟩:=p662 (b:=b) (id:=1) (j:=0) (en:=⟨1,[120]⟩) t2.a hEP.1 (by decide) t6 t7 hr hxl (by omega) (by decide) (by decide) rfl rfl;simp only [bg] at u4;have hE8:EnvA H8 H1.length (some (I.s,0)) app lv5 [[45,53],[104,105]]:=⟨u1 _ _ hEP.1,hEP.2.mono fun k o _ ho=>u1 _ _ ho⟩;have hS8:StA H8 I F' K':=t2.a.low (N:=P.length) ⟨t2.a.hi,ah t2.a.fl.f⟩ fun k o _ ho=>u1 k o ho
 have hl8:=u1.len;have h651:=fun w=>s651 (b:=b) (w:=w) hE8 (by simp) (by decide) (by omega)
 have h656:=fun X w=>s656n (H:=H8++X) (b:=b) (w:=w) (hS8.app X) (by rw [ag (ah hE8.1)]; exact hE8.1) (by decide) t6 t7 hr hxl (by rw [au]; omega) (id:=2) (by decide) (by decide) (fun e he=>by have:e ∈ [(⟨1,[120]⟩:EnU)]:=he;rw [b9] at this;rw [this]; show (1:Nat)≠2; decide)
 obtain ⟨va,vc,rfl,-,hvb⟩:=id u2;rcases hvb with hvb | ⟨vp,vo,rfl,⟨-,X,hvp,hvX⟩,-⟩
 ·cases hvb
 have hvo:vo+1≤X.length:=by have:=congrArg List.length hvX;simp only [dk,ft,bt,b8,dt] at this;omega
 simp only [b8,dt,dh,Nat.reduceAdd] at u4 hvX h651;have hvX:(X.drop vo).take 1=[.int .u8 120]:=hvX;have hbo:bytesOf [AVal.int .u8 120]=some [120]:=om [120];refine CodeD.seq nofun (CodeD.run hT hm (e:=.normal) (st':=⟨[(2,.val (.bool true)),(3,.val (.ptr (some (H1.length,0)))),(4,.val (.int .i32 0)),(5,.val (.int .i64 0)),(6,.val (.int .i32 1)),(7,.val (.int .i64 0)),(8,.val (.slice (some (vp,vo)) 1 vc)),(9,.val (.bool true)),(10,.val (.int .i64 0))],⟨H8,b,w'⟩⟩) (fun k'=>by simp (disch:=omega) [u4]) ?_)
 refine CodeD.seq nofun (CodeD.run hT hm (e:=.normal) (st':=⟨[(2,.val (.bool true)),(3,.val (.ptr (some (H1.length,0)))),(4,.val (.int .i32 0)),(5,.val (.int .i64 0)),(6,.val (.int .i32 1)),(7,.val (.int .i64 0)),(8,.val (.slice (some (vp,vo)) 1 vc)),(9,.val (.bool true)),(10,.val (.int .i64 0)),(11,.val (.slice (some (H8.length,0)) 2 none))],⟨H8++[.cells 1 [.str [45,53],.str [104,105]]],b,w'⟩⟩) (fun k'=>by simp (disch:=omega) [h651]) ?_);have h656:=fun w=>h656 [.cells 1 [.str [45,53],.str [104,105]]] w
 simp only [bg] at h656;have hvp1:(H8++[AObj.cells 1 [.str [45,53],.str [104,105]]])[vp]? = some (.cells 1 X):=by rw [ag (ah hvp)]; exact hvp
 have hg8:=fo H8 [AObj.cells 1 [.str [45,53],.str [104,105]]]
 refine CodeD.run hT hm (e:=.ret) (st':=⟨[(0,.val (.bool true))],⟨H8++[.cells 1 [.str [45,53],.str [104,105]]],b,w'⟩⟩) (fun k'=>by simp (disch:=omega) [r655,hg8,hvp1,hvX,hvo,hbo,h656]) ?_
 exact ⟨_,_,fe655 (by omega),rfl,rfl⟩
end
end
end Go.Abs.AbsNat

namespace Go.Abs.AbsNat
open Go.Abs.AbsBlb hiding T
open Go.Abs.AbsBlo (CodeD.run OpsD.run lq keyC mr)
open Go.Abs.Short
section
variable {O:List AObj} {b:Nat}
end
def okN (n:Int):Prop:=-9223372036854775808≤n∧n≤9223372036854775807
section
variable {H P:List AObj} {b:Nat}
end
end Go.Abs.AbsNat

namespace Go.Abs.AbsNat
open Go.Abs.AbsBlb hiding T
open Go.Abs.AbsBlo (CodeD.run OpsD.run lq keyC mr)
open Go.Abs.Short
section
variable {E:Env} {H:List AObj} {b:Nat}
end
end Go.Abs.AbsNat

namespace Go.Abs.AbsNat
open Go.Abs.AbsBlb hiding T
open Go.Abs.AbsBlo (CodeD.run OpsD.run lq)
open Go.Abs.Short
section
variable {H:List AObj} {b:Nat}
section
attribute [-simp] getElem?_pos getElem?_neg List.all_eq_true
attribute [local simp] qZ qS nltT nltF iltT iltF ileT nleT dz
theorem l658 {s:Bs} (hl:s.length≤1000000):∀ (j i w:Nat),i+j=s.length→∀ {β:Type} (k:AExit→St→Option β),
  xK T (.loop code658L0) ⟨[(0,.val (.str s)),(3,.val (.int .i64 i))],⟨H,b,w⟩⟩ (k:=⟨k⟩) =
   if (s.drop i).all nameC=true then k (.exit 0) ⟨[(0,.val (.str s))],⟨H,b,w⟩⟩ else k .ret ⟨[(2,.val (.bool false))],⟨H,b,w⟩⟩
 | 0,i,w,hi,β,k=>by
  have hd:s.drop i=[]:=d0 (by omega);rw [hd,c8];have:¬ ((i:Int) < s.length):=by omega
  simp (disch:=omega) [code658L0,this]
 | j+1,i,w,hi,β,k=>by
  obtain ⟨c,hc⟩:∃ c,s[i]? = some c:=⟨_,aq (by omega)⟩;have hil:(i:Int) < s.length:=by omega
  have e2:((i+1:Nat):Int)=(i:Int)+1:=by omega
  have ih:=l658 hl j (i+1) w (by omega) k;rw [e2] at ih;rw [jm hc,List.all_cons,c8];generalize ACode.loop code658L0=LL at *;have hn:nameC c=((decide (97≤c.toNat) && decide (c.toNat≤122)) || (decide (48≤c.toNat) && decide (c.toNat≤57)) || decide (c.toNat=95) || decide (c.toNat=45)):=rfl;rw [hn];have hc256:c.toNat < 256:=c.toNat_lt;obtain ⟨z,hz⟩:∃ z,c.toNat=z:=⟨_,rfl⟩;rw [hz] at hc256 ⊢;clear hn;by_cases h1:97≤z
  ·have g1:(97:Int)≤z:=by omega
   by_cases h2:z≤122
   ·have g2:(z:Int)≤122:=by omega
    simp (disch:=omega) [code658L0,hil,hc,hz,h1,h2,g1,g2,ih]
   ·have g2:¬ (z:Int)≤122:=by omega
    have g3:(48:Int)≤z:=by omega
    have g4:¬ (z:Int)≤57:=by omega
    have g5:¬ (z:Int)=95:=by omega
    have g6:¬ (z:Int)=45:=by omega
    have h4:¬ z≤57:=by omega
    have h5:¬ z=95:=by omega
    have h6:¬ z=45:=by omega
    simp (disch:=omega) [code658L0,hil,hc,hz,h1,h2,g1,g2,g3,g4,g5,g6,h4,h5,h6,ih]
  ·have g1:¬ (97:Int)≤z:=by omega
   by_cases h3:48≤z
   ·have g3:(48:Int)≤z:=by omega
    by_cases h4:z≤57
    ·have g4:(z:Int)≤57:=by omega
     simp (disch:=omega) [code658L0,hil,hc,hz,h1,h3,h4,g1,g3,g4,ih]
    ·have g4:¬ (z:Int)≤57:=by omega
     have h6:¬ z=45:=by omega
     have g6:¬ (z:Int)=45:=by omega
     by_cases h5:z=95
     ·subst h5;simp (disch:=omega) [code658L0,hil,hc,hz,ih]
     ·have g5:¬ (z:Int)=95:=by omega
      simp (disch:=omega) [code658L0,hil,hc,hz,h1,h3,h4,h5,h6,g1,g3,g4,g5,g6,ih]
   ·have g3:¬ (48:Int)≤z:=by omega
    have h5:¬ z=95:=by omega
    have g5:¬ (z:Int)=95:=by omega
    by_cases h6:z=45
    ·subst h6;simp (disch:=omega) [code658L0,hil,hc,hz,ih]
    ·have g6:¬ (z:Int)=45:=by omega
     simp (disch:=omega) [code658L0,hil,hc,hz,h1,h3,h5,h6,g1,g3,g5,g6,ih]
end
theorem tr:∀ (s:Bs) (i:Nat),decide (firstOdd s i < 0)=s.all nameC
 | [],i=>rfl
 | c :: s,i=>by
  unfold firstOdd;rw [List.all_cons];cases h:nameC c
  ·have:¬ ((i:Int) < 0):=by omega
   simp
  ·simp only [if_true,Bool.true_and];exact tr s (i+1)
section
attribute [-simp] getElem?_pos getElem?_neg List.all_eq_true
attribute [local simp] qZ qS nltT nltF iltT iltF ileT nleT dz
theorem s658 {s:Bs} (hl:s.length≤1000000) {w:Nat}:xCall T 658 [.str s] ⟨H,b,w⟩=some (.bool (isName s),⟨H,b,w⟩):=by
 have hk:=fun {β:Type} w (k:AExit→St→Option β)=>l658 (H:=H) (b:=b) hl s.length 0 w (by omega) k
 simp only [bg,e7] at hk;unfold isName;rw [tr];by_cases h:s.all nameC=true
 ·rw [h];simp only [h,if_true] at hk;by_cases h0:s=[]
  ·subst h0;simp (disch:=omega) [ba t658,code658,hk]
  ·have h1:0 < s.length:=si.2 h0;have h1':(1:Int)≤s.length:=by omega
   by_cases h2:s.length≤16
   ·have h2':(s.length:Int)≤16:=by omega
    simp (disch:=omega) [ba t658,code658,hk,h0,h1',h2,h2']
   ·have h2':¬ (s.length:Int)≤16:=by omega
    simp (disch:=omega) [ba t658,code658,hk,h0,h1',h2,h2']
 ·have h':s.all nameC=false:=by simpa using h
  rw [h'];simp only [h',cd,if_false] at hk;simp (disch:=omega) [ba t658,code658,hk]
end
end
end Go.Abs.AbsNat

namespace Go.Abs.AbsBlo
open Go.Abs.AbsBlb hiding T
open Go.Abs.Short
def byteU (x:UInt8):List AVal:=[u8V x]
theorem zaj:∀ L:Bs,L.flatMap byteU=L.map u8V
 | []=>rfl
 | x :: L=>by rw [dy,bh,zaj L]; rfl
theorem has_byteU {os:List AObj} {b w:Nat} {d:Dat} {cs:List AVal} (h:Has ⟨os,b,w⟩ (.int .u8) d cs):∃ x:UInt8,cs=byteU x∧True:=by
 obtain ⟨n,_,rfl,h1,h2⟩:=h.int;have e1:IntKind.u8.min=0:=rfl;have e2:IntKind.u8.max=255:=rfl;rw [e1] at h1;rw [e2] at h2;refine ⟨UInt8.ofNat n.toNat,?_,trivial⟩;unfold byteU u8V
 have:((UInt8.ofNat n.toNat).toNat:Int)=n:=by rw [UInt8.toNat_ofNat'];have:n.toNat % 2 ^ 8=n.toNat:=jv (by omega);rw [this]; omega
 rw [this]
theorem blob_in {os:List AObj} {b w:Nat} {d:Dat} {cs:List AVal} (hb:b≤os.length) (h:Has ⟨os,b,w⟩ (.slice (.int .u8)) d cs):∃ (a:Option (Nat × Nat)) (c:Option Nat) (B:Bs),cs=[.slice a B.length c]∧BlobV os (.slice a B.length c) B∧∀ p o,a=some (p,o)→p < b:=by
 have hc:cs=[.slice none 0 (some 0)]∨∃ i n,cs=[.slice (some (i,0)) n none]∧i < b:=by
  cases d <;> simp only [Has] at h
  ·exact .inl h
  ·obtain ⟨_,i,_,e,h2,_⟩:=h;exact .inr ⟨i,_,e,h2⟩
 obtain ⟨a,L,c,rfl,hR,-,-,-,-⟩:=h.row fun d c h=>has_byteU h
 rcases hc with e | ⟨i,n,e,hi⟩
 ·simp only [List.cons.injEq,AVal.slice.injEq,and_true] at e;obtain ⟨rfl,e2,rfl⟩:=e;have hL:L=[]:=bu e2;subst hL;exact ⟨none,some 0,[],rfl,⟨none,some 0,rfl,fun p o e=>(by cases e),.inl rfl⟩,fun p o e=>by cases e⟩
 ·simp only [List.cons.injEq,AVal.slice.injEq,and_true] at e;obtain ⟨rfl,rfl,rfl⟩:=e;refine ⟨_,_,L,rfl,⟨some (i,0),none,rfl,fun p o e=>?_,?_⟩,fun p o e=>?_⟩
  ·cases e; omega
  ·by_cases h0:L=[]
   ·exact .inl h0
   ·right;obtain ⟨p,o,cs,e1,e2,e3⟩:=hR.at' h0;cases e1;refine ⟨i,0,rfl,⟨rfl,cs,e2,?_⟩,aj _⟩;have:=row_flat (e:=1) (f:=byteU) L 0 e3;rw [Nat.mul_one] at this;rw [this,zaj]
  ·cases e; exact hi
section
variable {E:Env} {H:List AObj} {b:Nat} {I:SI} {F:Fl} {K:StU} {kl:List Bs}
end
end Go.Abs.AbsBlo

namespace Go.Abs.AbsNat
open Go.Abs.AbsBlb hiding T
open Go.Abs.AbsBlo (CodeD.run OpsD.run lq)
open Go.Abs.Short
theorem xr (s:Bs):(keyB s dataK).length=7+s.length:=by unfold keyB preB;simp only [au,b8,dt]; omega
theorem name_len {s:Bs} (h:isName s=true):s.length≤16:=by unfold isName at h;simp only [aw,decide_eq_true_eq] at h;exact h.2.1
theorem room0S {s:Bs} (hs:s.length≤16):RoomFor (AbsBlo.F0 5 16384 1000) (AbsBlo.K0 5) (keyB s dataK) newR.bytes:=by have hz:(AbsBlo.F0 5 16384 1000).z=16384:=rfl;refine ⟨by rw [xr,pi,hz]; omega,fun _=>⟨by decide,by decide,by decide,by rw [xr,pi,hz]; omega⟩⟩
theorem room1S {F':Fl} {K':StU} {s data:Bs} (hs:s.length≤16) (h:FlE (AbsBlo.F0 5 16384 1000) F') (hh:K'.head ≠ -1) (ha:K'.at_≤(AbsBlo.K0 5).at_+12+(32+(keyB s dataK).length+newR.bytes.length)) (hd:data.length≤512):RoomFor F' K' (keyB s dataK) (addR newR data).bytes:=by
 have hz:F'.z=16384:=h.z;have hk:=xr s;have h0:(AbsBlo.K0 5).at_=0:=rfl
 have hl:(addR newR data).bytes.length=16+data.length:=by
  show (recsB 2 1 [⟨1,data⟩]).length=_
  rw [qr];simp [ry]; omega
 rw [hk,pi,h0] at ha;refine ⟨by rw [hz,hk,hl]; omega,fun hf=>absurd ⟨hh,by rw [hz,hk,hl]; omega⟩ hf⟩
section
variable {H:List AObj} {b w:Nat} {I:SI} {F:Fl} {K:StU}
theorem g662 (h:StA H I F K) {s:Bs} {r:RecsU} {e:Nat} {lv:AVal} (he:H[e]? = some (.cells 3 [.ptr (some (I.s,0)),.str s,lv])) (hs:isName s=true) {x:Nat × PlU} (hf:findK (keyB s dataK) K.ix=some x) (hx:x.2.blob=r.bytes) (hr:r.ok) (hl:x.2.blob.length≤1000000) (hb:b≤H.length) (hIe:I.hi < e) {id:Int} (hi:id < 4294967296) :
  ∃ H' v o,Pre H H'∧∀ w,xCall T 662 [.ptr (some (e,0)),.int .i32 id] ⟨H,b,w⟩=some (.tuple [v,.bool o,.int .i64 0],⟨H',b,w⟩):=by
 by_cases h1:id < 1
 ·exact ⟨H,_,_,Pre.refl _,fun w=>s662l h he hs hf hx hr hl hb h1⟩
 ·obtain ⟨n,rfl⟩:∃ n:Nat,id=n:=⟨id.toNat,by omega⟩;by_cases h2:∀ e ∈ r.list,e.id≠n
  ·exact ⟨H,_,_,Pre.refl _,fun w=>s662n h he hs hf hx hr hl hb hIe (by omega) (by omega) h2⟩
  ·obtain ⟨en,hen,hid⟩:∃ en,en ∈ r.list∧en.id=n:=by refine Classical.byContradiction fun c=>h2 fun e he hne=>c ⟨e,he,hne⟩
   obtain ⟨j,hj⟩:=gg hen;obtain ⟨H',v,k1,-,-,k4⟩:=p662 (b:=b) h he hs hf hx hr hl hb (id:=n) (by omega) (by omega) hj hid;exact ⟨H',v,true,k1,k4⟩
end
def p664:ACode:=.seq (R [0,1,2,33] [v 26 0,o 27 (.len .str (t 26)),o 28 (.bin .gtr (t 27) (n 200)),v 29 28,g 30 29 false (.val (t 2)),g 31 29 false (.len .sl (t 30)),g 32 29 false (.bin .gtr (t 31) (n 300)),o 33 (.pick (t 29) Y (t 32))])
 (.after (.cond (t 33) (.seq (R [6] [o 6 (.val Y)])
 (.live [6] (.ret))) (.skip)) [0,1,2])
def m664:ACode:=.seq (R [0,1,2,8,9,11,13,16,103] [v 75 19,v 76 22,o 77 (.bin .neq (t 75) (t 76)),v 78 77,g 79 78 false (.val (t 21)),g 80 78 false (.val (t 22)),g 81 78 false (.bin .neq (t 79) (t 80)),o 82 (.pick (t 78) Y (t 81)),v 83 82,g 84 83 false (.val (t 17)),g 85 83 false (.val (t 1)),g 86 83 false (.val (t 2)),g 87 83 false (.callg 656 [t 84,t 85,t 86]),g 88 83 false (.val (t 22)),g 89 83 false (.bin .neq (t 87) (t 88)),o 90 (.pick (t 83) Y (t 89)),v 91 90,g 92 91 false (.val (t 17)),g 93 91 false (.val (t 1)),g 94 91 false (.callg 657 [t 92,t 93]),g 95 91 false (.val (t 22)),g 96 91 false (.bin .neq (t 94) (t 95)),o 97 (.pick (t 91) Y (t 96)),v 98 97,g 99 98 false (.val (t 17)),g 100 98 false (.callg 651 [t 99]),g 101 98 false (.len .sl (t 100)),g 102 98 false (.bin .neq (t 101) (n 0)),o 103 (.pick (t 98) Y (t 102))])
 (.after (.cond (t 103) (.seq (R [6] [o 6 (.val F)])
 (.live [6] (.ret))) (.skip)) [0,1,2,8,9,11,13,16])
def e664:ACode:=.seq (.seq (R [1,2,8,9,11,13,16,106] [v 104 0,o 105 (.callg 658 [t 104]),o 106 (.un .not (t 105))])
 (.after (.cond (t 106) (.seq (R [1,2,9,11,13,16,23] [o 23 (.val (n 13))])
 (.seq (R [6] [v 107 11,v 108 23,o 109 (.bin .eql (t 107) (t 108)),v 110 109,g 111 110 true (.val (t 13)),g 112 110 true (.val (t 23)),g 113 110 true (.bin .eql (t 111) (t 112)),o 114 (.pick (t 110) (t 113) F),v 115 114,g 116 115 true (.val (t 16)),g 117 115 true (.val (t 23)),g 118 115 true (.bin .eql (t 116) (t 117)),o 119 (.pick (t 115) (t 118) F),v 120 119,g 121 120 true (.val (t 9)),g 122 120 true (.val (t 1)),g 123 120 true (.val (t 2)),g 124 120 true (.callg 656 [t 121,t 122,t 123]),g 125 120 true (.val (t 23)),g 126 120 true (.bin .eql (t 124) (t 125)),o 127 (.pick (t 120) (t 126) F),v 128 127,g 129 128 true (.val (t 9)),g 130 128 true (.val (t 1)),g 131 128 true (.callg 657 [t 129,t 130]),g 132 128 true (.val (t 23)),g 133 128 true (.bin .eql (t 131) (t 132)),o 134 (.pick (t 128) (t 133) F),v 6 134])
 (.live [6] (.ret)))) (.skip)) [8,11,13,16]))
 (.seq (R [6] [v 135 8,v 136 135,g 137 136 true (.val (t 11)),g 138 136 true (.bin .eql (t 137) (n 0)),o 139 (.pick (t 136) (t 138) F),v 140 139,g 141 140 true (.val (t 13)),g 142 140 true (.bin .eql (t 141) (n 0)),o 143 (.pick (t 140) (t 142) F),v 144 143,g 145 144 true (.val (t 16)),g 146 144 true (.bin .eql (t 145) (n 0)),o 147 (.pick (t 144) (t 146) F),v 6 147])
 (.live [6] (.ret)))
def n664:ACode:=.seq (R [0,1,2,8,9,11,13,16,17] [o 17 (.val (.const (.ptr none)))])
 (.seq (R [0,1,2,8,9,11,13,16,17] [v 59 17,o 60 (.callg 653 [t 59,n 1])])
 (.seq (R [0,1,2,8,9,11,13,16,17] [v 61 17,v 62 2,o 63 (.callg 661 [t 61,t 62])])
 (.seq (R [0,1,2,8,9,11,13,16,17,19] [v 65 17,v 66 2,o 67 (.callg 660 [t 65,t 66]),v 64 67,o 68 (.extract (t 64) 0),o 69 (.extract (t 64) 1),v 18 68,v 19 69])
 (.seq (R [0,1,2,8,9,11,13,16,17,19,21] [v 71 17,o 72 (.callg 659 [t 71]),v 70 72,o 73 (.extract (t 70) 0),o 74 (.extract (t 70) 1),v 20 73,v 21 74])
 (.seq (R [0,1,2,8,9,11,13,16,17,19,21,22] [o 22 (.val (n 5))])
 (.seq m664
 e664))))))
theorem body664:code664.body = .seq (R [0,1,2] [o 6 (.val F)])
 (.seq (.seq (R [0,1,2,25] [o 24 (.callg 655 []),o 25 (.un .not (t 24))])
 (.after (.cond (t 25) (.seq (R [6] [o 6 (.val F)])
 (.live [6] (.ret))) (.skip)) [0,1,2]))
 (.seq p664
 (.seq (R [0,1,2,7,8] [o 35 (.callg 663 []),v 34 35,o 36 (.extract (t 34) 0),o 37 (.extract (t 34) 1),v 7 36,v 8 37])
 (.seq (R [0,1,2,8,9] [v 38 7,v 39 0,o 40 (.callg 654 [t 38,t 39]),v 9 40])
 (.seq (R [0,1,2,8,9,11] [v 42 9,v 43 2,o 44 (.callg 660 [t 42,t 43]),v 41 44,o 45 (.extract (t 41) 0),o 46 (.extract (t 41) 1),v 10 45,v 11 46])
 (.seq (R [0,1,2,8,9,11,13] [v 48 9,o 49 (.callg 659 [t 48]),v 47 49,o 50 (.extract (t 47) 0),o 51 (.extract (t 47) 1),v 12 50,v 13 51])
 (.seq (R [0,1,2,8,9,11,13,16] [v 53 9,v 54 1,o 55 (.callg 662 [t 53,t 54]),v 52 55,o 56 (.extract (t 52) 0),o 57 (.extract (t 52) 1),o 58 (.extract (t 52) 2),v 14 56,v 15 57,v 16 58])
 n664))))))):=rfl
section
variable {P H:List AObj} {b w:Nat}
section
attribute [-simp] getElem?_pos getElem?_neg List.all_eq_true
attribute [local simp] qZ qS nltT nltF iltT iltF ileT nleT dz
theorem mm664 {s:Bs} {id:Int} {a:Option (Nat × Nat)} {n:Nat} {c:Option Nat} {e:Nat} {x:Int} {β:Type} (k:AExit→St→Option β) :
  xK T n664 ⟨[(0,.val (.str s)),(1,.val (.int .i32 id)),(2,.val (.slice a n c)),(8,.val (.bool true)),(9,.val (.ptr (some (e,0)))),(11,.val (.int .i64 x)),(13,.val (.int .i64 x)),(16,.val (.int .i64 x))],⟨P,b,w⟩⟩ (k:=⟨k⟩) =
   xK T e664 ⟨[(0,.val (.str s)),(1,.val (.int .i32 id)),(2,.val (.slice a n c)),(8,.val (.bool true)),(9,.val (.ptr (some (e,0)))),(11,.val (.int .i64 x)),(13,.val (.int .i64 x)),(16,.val (.int .i64 x))],⟨P,b,w⟩⟩ (k:=⟨k⟩):=by
 have h1:=fun v w=>s653z (H:=P) (b:=b) (w:=w) (n:=v)
 have h2:=fun v w=>s661z (H:=P) (b:=b) (w:=w) (v:=v)
 have h3:=fun v w=>s660z (H:=P) (b:=b) (w:=w) (v:=v)
 have h4:=fun w=>s659z (H:=P) (b:=b) (w:=w)
 have h5:=fun w=>s656z (H:=P) (b:=b) (w:=w) (id:=id) (a:=a) (n:=n) (c:=c)
 have h6:=fun w=>s657z (H:=P) (b:=b) (w:=w) (id:=id)
 have h7:=fun w=>s651z (H:=P) (b:=b) (w:=w)
 unfold n664 m664;generalize e664=EE;simp (disch:=omega) [h1,h2,h3,h4,h5,h6,h7]
theorem ea664 {s:Bs} {id:Int} {a:Option (Nat × Nat)} {n:Nat} {c:Option Nat} {e:Nat} (hs:isName s=true) {β:Type} (k:AExit→St→Option β) :
  xK T e664 ⟨[(0,.val (.str s)),(1,.val (.int .i32 id)),(2,.val (.slice a n c)),(8,.val (.bool true)),(9,.val (.ptr (some (e,0)))),(11,.val (.int .i64 0)),(13,.val (.int .i64 0)),(16,.val (.int .i64 0))],⟨P,b,w⟩⟩ (k:=⟨k⟩)=k .ret ⟨[(6,.val (.bool true))],⟨P,b,w⟩⟩:=by
 have h1:=fun w=>s658 (H:=P) (b:=b) (w:=w) (s:=s) (by have:=name_len hs; omega)
 rw [hs] at h1;simp (disch:=omega) [e664,h1]
theorem eb664 {s:Bs} {id:Int} {a:Option (Nat × Nat)} {n:Nat} {c:Option Nat} {e:Nat} {sv:Option (Nat × Nat)} {lv:AVal} (he:P[e]? = some (.cells 3 [.ptr sv,.str s,lv])) (hl:s.length≤1000000) (hs:isName s=false) {β:Type} (k:AExit→St→Option β) :
  xK T e664 ⟨[(0,.val (.str s)),(1,.val (.int .i32 id)),(2,.val (.slice a n c)),(8,.val (.bool true)),(9,.val (.ptr (some (e,0)))),(11,.val (.int .i64 13)),(13,.val (.int .i64 13)),(16,.val (.int .i64 13))],⟨P,b,w⟩⟩ (k:=⟨k⟩)=k .ret ⟨[(6,.val (.bool true))],⟨P,b,w⟩⟩:=by
 have h1:=fun w=>s658 (H:=P) (b:=b) (w:=w) (s:=s) hl
 rw [hs] at h1;have h2:=fun w=>s656x (b:=b) (w:=w) (id:=id) (a:=a) (n:=n) (c:=c) he hl hs
 have h3:=fun w=>s657x (b:=b) (w:=w) (id:=id) he hl hs
 simp (disch:=omega) [e664,h1,h2,h3]
end
end
section
variable {E:Env} {H:List AObj} {b:Nat}
theorem fe664 {P:List AObj} {w w':Nat} (hw:H.length≤w'):funcEnd code664 ⟨H,b,w⟩ (.ret,⟨[(6,.val (.bool true))],⟨P,b,w'⟩⟩)=some (.bool true,⟨H,b,w⟩):=by
 have:¬ w' < H.length:=by omega
 simp [funcEnd,code664,resultsL,result1,sget,tupled,dg,Heap.size,this,AVal.under]
section
attribute [-simp] getElem?_pos getElem?_neg List.all_eq_true
attribute [local simp] qZ qS nltT nltF iltT iltF ileT nleT dz
theorem c664 (hC:CodesN E) (hF5:IsCode E 655 code655) (hF:IsCode E 664 code664) {s data:Bs} {id:Int} (hid:id < 4294967296) {a:Option (Nat × Nat)} {c:Option Nat} (hB:BlobV H (.slice a data.length c) data) (hb:b=H.length) (w:Nat) :
  CallD E 664 [.str s,.int .i32 id,.slice a data.length c] ⟨H,b,w⟩ fun v h'=>v = .bool true∧h'=⟨H,b,w⟩:=by
 have hT:=hC.c.t;have hm:=hC.c.m;refine CallD.of_code hF rfl ?_;rw [body664];have hen:enter 0 [AVal.str s,.int .i32 id,.slice a data.length c]=[(0,.val (.str s)),(1,.val (.int .i32 id)),(2,.val (.slice a data.length c))]:=rfl;have hsz:(⟨H,b,w⟩:Heap).size=H.length:=rfl;rw [hen];simp only [hsz];refine CodeD.seq nofun (CodeD.run hT hm (e:=.normal) (st':=⟨[(0,.val (.str s)),(1,.val (.int .i32 id)),(2,.val (.slice a data.length c))],⟨H,b,H.length⟩⟩) (fun k'=>by simp (disch:=omega) []) ?_);refine CodeD.seq nofun (CodeD.seq nofun (CodeD.after (CodeD.regionX hT hm ?_)));refine OpsD.call (g:=655) (xs:=[]) rfl rfl rfl (c655 hC hF5 hb H.length) fun vv hh hR'=>?_
 obtain ⟨rfl,rfl⟩:=hR';refine OpsD.run (l:=[o 25 (.un .not (t 24))]) (r:=[]) (s1:=[(25,.val (.bool false)),(24,.val (.bool true)),(0,.val (.str s)),(1,.val (.int .i32 id)),(2,.val (.slice a data.length c))]) (h1:=⟨H,b,H.length⟩) (fun k'=>by simp (disch:=omega) []) (OpsD.done ?_);simp only [];have hk1:keepK [0,1,2,25] [(25,Slot.val (.bool false)),(24,.val (.bool true)),(0,.val (.str s)),(1,.val (.int .i32 id)),(2,.val (.slice a data.length c))]=[(0,.val (.str s)),(1,.val (.int .i32 id)),(2,.val (.slice a data.length c)),(25,.val (.bool false))]:=by simp
 rw [hk1];refine CodeD.run hT hm (e:=.normal) (st':=⟨[(0,.val (.str s)),(1,.val (.int .i32 id)),(2,.val (.slice a data.length c))],⟨H,b,H.length⟩⟩) (fun k'=>by simp (disch:=omega) []) ?_;by_cases hl:¬ (s.length≤200∧data.length≤300)
 ·have hrun:∀ k':AExit→St→Option Unit,xK T p664 ⟨[(0,.val (.str s)),(1,.val (.int .i32 id)),(2,.val (.slice a data.length c))],⟨H,b,H.length⟩⟩ (k:=⟨k'⟩)=k' .ret ⟨[(6,.val (.bool true))],⟨H,b,H.length⟩⟩:=fun k'=>by
   by_cases h1:s.length≤200
   ·have h1':¬ ((200:Int) < s.length):=by omega
    have h2':(300:Int) < data.length:=by omega
    simp (disch:=omega) [p664,h1',h2']
   ·have h1':(200:Int) < s.length:=by omega
    simp (disch:=omega) [p664,h1']
  refine CodeD.seq nofun (CodeD.run hT hm (e:=.ret) (st':=⟨[(6,.val (.bool true))],⟨H,b,H.length⟩⟩) hrun ?_);exact ⟨_,_,fe664 (aj _),rfl,rfl⟩
 obtain ⟨hl1,hl2⟩:=Classical.not_not.1 hl;have h1':¬ ((200:Int) < s.length):=by omega
 have h2':¬ ((300:Int) < data.length):=by omega
 refine CodeD.seq nofun (CodeD.run hT hm (e:=.normal) (st':=⟨[(0,.val (.str s)),(1,.val (.int .i32 id)),(2,.val (.slice a data.length c))],⟨H,b,H.length⟩⟩) (fun k'=>by simp (disch:=omega) [p664,h1',h2']) ?_);obtain ⟨H1,I,k1,k2,k3,k4,h663⟩:=p663 (H:=H) (b:=b) (kl:=[keyB s dataK]) (by omega);have hp1:=k1.len;have hIs:=ah k3.a.s;have hIhi:=k3.a.hi;have hIfl:=ah k3.a.fl.f;have hn0:0 < (AbsBlo.F0 5 16384 1000).n:=by decide
 refine CodeD.seq nofun (CodeD.run hT hm (e:=.normal) (st':=⟨[(0,.val (.str s)),(1,.val (.int .i32 id)),(2,.val (.slice a data.length c)),(7,.val (.ptr (some (I.s,0)))),(8,.val (.bool true))],⟨H1,b,H.length⟩⟩) (fun k'=>by simp (disch:=omega) [h663]) ?_);have h654:=fun w=>s654 (H:=H1) (b:=b) (w:=w) (s:=s) (o:=some (I.s,0)) (fun p q e=>by cases e; exact hIs)
 refine CodeD.seq nofun (CodeD.run hT hm (e:=.normal) (st':=⟨[(0,.val (.str s)),(1,.val (.int .i32 id)),(2,.val (.slice a data.length c)),(8,.val (.bool true)),(9,.val (.ptr (some (H1.length,0))))],⟨H1++[.cells 3 [.ptr (some (I.s,0)),.str s,.slice none 0 (some 0)]],b,H.length⟩⟩) (fun k'=>by simp (disch:=omega) [h654]) ?_);have he2:(H1++[AObj.cells 3 [.ptr (some (I.s,0)),.str s,.slice none 0 (some 0)]])[H1.length]? = some (.cells 3 [.ptr (some (I.s,0)),.str s,.slice none 0 (some 0)]):=fo _ _;have hS2:=lq k3 [.cells 3 [.ptr (some (I.s,0)),.str s,.slice none 0 (some 0)]];have hl2':(H1++[AObj.cells 3 [.ptr (some (I.s,0)),.str s,.slice none 0 (some 0)]]).length=H1.length+1:=by simp
 have hpre2:Pre H (H1++[AObj.cells 3 [.ptr (some (I.s,0)),.str s,.slice none 0 (some 0)]]):=k1.trans (Pre.app _ _);generalize H1++[AObj.cells 3 [.ptr (some (I.s,0)),.str s,.slice none 0 (some 0)]]=H2 at *;cases hs:isName s with
 | false =>
  have h660:=fun v w=>s660x (b:=b) (w:=w) (v:=v) he2 (by omega) hs
  have h659:=fun w=>s659x (b:=b) (w:=w) he2 (by omega) hs
  have h662:=fun w=>s662x (b:=b) (w:=w) (id:=id) he2 (by omega) hs
  have hn:=fun {β:Type} w (k:AExit→St→Option β)=>(mm664 (P:=H2) (b:=b) (w:=w) (s:=s) (id:=id) (a:=a) (n:=data.length) (c:=c) (e:=H1.length) (x:=13) k).trans (eb664 he2 (by omega) hs k)
  refine CodeD.run hT hm (e:=.ret) (st':=⟨[(6,.val (.bool true))],⟨H2,b,H.length⟩⟩) (fun k'=>by
   have hn:=fun w=>hn w k'
   simp (disch:=omega) [h660,h659,h662,hn]) ?_
  exact ⟨_,_,fe664 (aj _),rfl,rfl⟩
 | true =>
  have hsl:=name_len hs;obtain ⟨q1,q2,q3,q4,q5,q6⟩:=k4
  have hdv:BlobS I H2 (.slice a data.length c) data:=by refine ⟨hB.mono hpre2.len fun p o n c e x hx=>hpre2 _ _ hx,fun p o n c e=>?_⟩;obtain ⟨a',c',e',hid',-⟩:=hB;rw [e'] at e;simp only [AVal.slice.injEq] at e;have:=hid' p o e.1;omega
  have hkl:=xr s
  have hadd:=c660 hC.c hC.a680 hC.a671 hC.a666 hC.a673 hC.a665 hC.a660 hS2 (fun k hk=>by rw [b9] at hk; subst hk; omega) (by show 1≤12; decide) k2 (by omega) hn0 he2 hIhi hs (ex _) rfl hdv (by omega) (by
    have:(addR newR data).bytes.length=16+data.length:=by
     show (recsB 2 1 [⟨1,data⟩]).length=_
     rw [qr];simp [ry]; omega
    omega) (room0S hsl) (fun F' K' h1 h2 h3=>room1S hsl h1 h2 h3 (by omega)) H.length
  refine CodeD.seq nofun (CodeD.after (CodeD.regionX hT hm ?_));refine OpsD.run (l:=[v 42 9,v 43 2]) (r:=[o 44 (.callg 660 [t 42,t 43]),v 41 44,o 45 (.extract (t 41) 0),o 46 (.extract (t 41) 1),v 10 45,v 11 46]) (s1:=[(43,.val (.slice a data.length c)),(42,.val (.ptr (some (H1.length,0)))),(0,.val (.str s)),(1,.val (.int .i32 id)),(2,.val (.slice a data.length c)),(8,.val (.bool true)),(9,.val (.ptr (some (H1.length,0))))]) (h1:=⟨H2,b,H.length⟩) (fun k'=>by simp (disch:=omega) []) ?_;refine OpsD.call (g:=660) (xs:=[t 42,t 43]) rfl rfl rfl hadd fun vv hh hR'=>?_
  obtain ⟨rfl,P,F',K',w',rfl,t1,t2,t3,t4,t5,x,t6,t7⟩:=hR';refine OpsD.run (l:=[v 41 44,o 45 (.extract (t 41) 0),o 46 (.extract (t 41) 1),v 10 45,v 11 46]) (r:=[]) (s1:=[(11,.val (.int .i64 0)),(10,.val (.int .i32 1)),(46,.val (.int .i64 0)),(45,.val (.int .i32 1)),(41,.val (.tuple [.int .i32 1,.int .i64 0])),(44,.val (.tuple [.int .i32 1,.int .i64 0])),(43,.val (.slice a data.length c)),(42,.val (.ptr (some (H1.length,0)))),(0,.val (.str s)),(1,.val (.int .i32 id)),(2,.val (.slice a data.length c)),(8,.val (.bool true)),(9,.val (.ptr (some (H1.length,0))))]) (h1:=⟨P,b,w'⟩) (fun k'=>by simp (disch:=omega) []) (OpsD.done ?_);simp only []
  have hk1:keepK [0,1,2,8,9,11] [(11,Slot.val (.int .i64 0)),(10,.val (.int .i32 1)),(46,.val (.int .i64 0)),(45,.val (.int .i32 1)),(41,.val (.tuple [.int .i32 1,.int .i64 0])),(44,.val (.tuple [.int .i32 1,.int .i64 0])),(43,.val (.slice a data.length c)),(42,.val (.ptr (some (H1.length,0)))),(0,.val (.str s)),(1,.val (.int .i32 id)),(2,.val (.slice a data.length c)),(8,.val (.bool true)),(9,.val (.ptr (some (H1.length,0))))]=[(0,.val (.str s)),(1,.val (.int .i32 id)),(2,.val (.slice a data.length c)),(8,.val (.bool true)),(9,.val (.ptr (some (H1.length,0)))),(11,.val (.int .i64 0))]:=by simp
  rw [hk1];have hPl:=t1.len;have heP:=t1.above (N:=H1.length) hIhi _ _ (aj _) he2;have hr:(addR newR data).ok:=addR_ok xt (by omega) (by decide) (by decide) (by decide)
  have hbl:(addR newR data).bytes.length=16+data.length:=by
   show (recsB 2 1 [⟨1,data⟩]).length=_
   rw [qr];simp [ry]; omega
  have hxl:x.2.blob.length≤1000000:=by rw [t7,hbl]; omega
  have h659:=fun w=>s659 (b:=b) (w:=w) t2.a heP hs t6 t7 hr hxl (by omega)
  have hln:((addR newR data).list.length:Int)=1:=rfl;rw [hln] at h659;obtain ⟨H8,v8,o8,u1,u4⟩:=g662 (b:=b) t2.a heP hs t6 t7 hr hxl (by omega) hIhi hid;have hn:=fun {β:Type} w (k:AExit→St→Option β)=>(mm664 (P:=H8) (b:=b) (w:=w) (s:=s) (id:=id) (a:=a) (n:=data.length) (c:=c) (e:=H1.length) (x:=0) k).trans (ea664 hs k)
  refine CodeD.run hT hm (e:=.ret) (st':=⟨[(6,.val (.bool true))],⟨H8,b,w'⟩⟩) (fun k'=>by
   have hn:=fun w=>hn w k'
   simp (disch:=omega) [h659,u4,hn]) ?_
  exact ⟨_,_,fe664 (by omega),rfl,rfl⟩
end
end
end Go.Abs.AbsNat

namespace Go.Abs
def AOper.isLoc (o:AOper):Bool:=match o.op with
 | .lalloc _ | .lbox _ | .ext (.hstore _) _=>true
 | _=>false
def locsOf:Nat→List AOper→List Nat
 | _,[]=>[]
 | i,o :: r=>if o.isLoc then i :: locsOf (i+1) r else locsOf (i+1) r
def ACode.hint:ACode→Hint
 | .skip | .exit _ | .ret | .next _ _=>.leaf
 | .region gs=>.reg (gs.map fun g=>(g.quiet,g.ops.length)) (locsOf 0 (gs.flatMap Seg.ops))
 | .seq (.next _ _) _=>.next
 | .seq a b=>.seq a.hint b.hint
 | .cond (.const (.str [])) .skip .skip=>.stuck
 | .cond _ a b=>.cond a.hint b.hint
 | .block _ c=>.block c.hint
 | .loop c=>.loop c.hint
 | .live l c=>.live l c.hint
 | .after c l=>.after c.hint l
 | .rangeFunc _ g caps _ a b=>.rangeFunc g caps a.hint b.hint
theorem ow {E:Env} {T:Nat→Option AFunc} {f g:Nat} {fn:Func} {c:AFunc} {b:Bool} {hint:Hint} (h3:ru E b hint fn=some c) (h1:E.P.funcs[f]? = some fn) (h2:T g=some c) (h4:RndOK E c.body.rounds):FnOK E T f g:=.inr (.inl ⟨_,_,_,_,h1,h2,h3,h4⟩)
end Go.Abs
