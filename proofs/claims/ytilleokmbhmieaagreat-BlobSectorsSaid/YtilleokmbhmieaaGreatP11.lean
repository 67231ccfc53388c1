/-
  Texts joined.
-/
import Derived.Test.YtilleokmbhmieaaGreatP0
import Derived.Test.YtilleokmbhmieaaGreatP10
import Derived.Test.YtilleokmbhmieaaGreatP6
set_option linter.unusedVariables false
set_option linter.unusedSimpArgs false
set_option maxRecDepth 100000
namespace Go.Abs.AbsBlo
open Go.Abs.AbsBlb hiding T
open Go.Abs.Short
def LawJ (I:SI) (F:Fl) (B:Bs) (v:AVal) (tp b k:Nat) (st:St):Prop :=
 ∃ i P F1 K1 w1 at_,i≤20∧k=20 - i∧SO keyL P I F1 K1∧FlE F F1∧TapA P tp v B at_∧b≤w1∧st=⟨[(3,.val (.ptr (some (I.fi.fl,0)))),(5,.val (.ptr (some (I.s,0)))),(7,.val (.ptr (some (tp,0)))),(8,.val (.int .i64 (i:Nat)))],⟨P,b,w1⟩⟩
def LawQ (I:SI) (F:Fl) (b:Nat) (e:AExit) (st:St):Prop :=
 e = .exit 0∧∃ P F1 K1 w1,SO keyL P I F1 K1∧FlE F F1∧b≤w1∧st=⟨[(3,.val (.ptr (some (I.fi.fl,0)))),(5,.val (.ptr (some (I.s,0))))],⟨P,b,w1⟩⟩
theorem keyL_len:∀ k ∈ keyL,1≤k.length∧k.length≤64:=by decide
section
variable {E:Env} {b:Nat} {I:SI} {F:Fl} {B:Bs}
section
attribute [-simp] getElem?_pos getElem?_neg List.all_eq_true
attribute [local simp] qZ qS nltT nltF iltT iltF ileT nleT dj
theorem law_loop (hT:Agrees E T) (hm:E.P.follows .mixedOrders=true) (hF:IsCode E 617 code617) (hF2:IsCode E 599 code599) (hF3:IsCode E 580 code580) (hF4:IsCode E 549 code549) (hb:I.lo b) (hFn:0 < F.n) {tp:Nat} (htp:I.hi < tp∧I.fi.fl < tp∧b≤tp) {a:Option (Nat × Nat)} {c:Option Nat} (hv:∀ p o,a=some (p,o)→p < b) {k:Nat} {st:St} (h0:LawJ I F B (.slice a B.length c) tp b k st) :
  CodeD E (.loop code565L1) st (LawQ I F b):=by
 refine CodeD.loop (LawJ I F B (.slice a B.length c) tp b) (fun k st hJ=>?_) k st h0
 obtain ⟨i,P,F1,K1,w1,at_,hi,rfl,s1,s2,s3,s4,rfl⟩:=hJ
 have hI:I.s≤I.hi∧I.sa≤I.hi∧I.m≤I.hi∧I.fi.fb≤I.hi∧I.fi.fw≤I.hi:=by unfold SI.hi; omega
 obtain ⟨b1,b2,b3,b4,b5⟩:=id hb
 have hts:=s3.r
 have htl:=ah hts
 have hal:=s3.a
 rw [body565L]
 refine CodeD.live ?_
 have hkk:keepK [3,5,7,8] [(3,Slot.val (.ptr (some (I.fi.fl,0)))),(5,.val (.ptr (some (I.s,0)))),(7,.val (.ptr (some (tp,0)))),(8,.val (.int .i64 (i:Nat)))]=[(3,.val (.ptr (some (I.fi.fl,0)))),(5,.val (.ptr (some (I.s,0)))),(7,.val (.ptr (some (tp,0)))),(8,.val (.int .i64 (i:Nat)))]:=by simp
 simp only [hkk]
 by_cases c1:i < 20∧at_ < B.length
 ·have ci:(i:Int) < 20:=by omega
  have ca:(at_:Int) < B.length:=by omega
  refine CodeD.seq nofun (CodeD.run (e:=.normal) (st':=⟨[(3,.val (.ptr (some (I.fi.fl,0)))),(5,.val (.ptr (some (I.s,0)))),(7,.val (.ptr (some (tp,0)))),(8,.val (.int .i64 (i:Nat)))],⟨P,b,w1⟩⟩) hT hm (fun k'=>by
   have ci':i < 20:=c1.1
   have ca':at_ < B.length:=c1.2
   simp (disch:=omega) [h565,hts,ci,ca,ci',ca']) ?_)
  refine CodeD.seq nofun (CodeD.after (CodeD.block (CodeD.after (CodeD.region hT hm ?_))))
  obtain ⟨P2,A,x2,at2,n2,t1,t2,t3,t4,t5,t6,t7,t8,t9,t10⟩:=p566 (b:=b) s3 c1.2 (fun p o n c e=>by
   simp only [AVal.slice.injEq] at e
   have:=hv p o e.1
   omega) htp.2.2
  have h566:=fun w=>dc sub (t10 w)
  refine OpsD.run (l:=[v 56 5,v 57 7,o 58 (.callg 566 [t 57])]) (r:=[o 59 (.callg 549 [t 56,t 58])]) (s1:=[(58,.val x2),(57,.val (.ptr (some (tp,0)))),(56,.val (.ptr (some (I.s,0)))),(3,.val (.ptr (some (I.fi.fl,0)))),(5,.val (.ptr (some (I.s,0)))),(7,.val (.ptr (some (tp,0)))),(8,.val (.int .i64 (i:Nat)))]) (h1:=⟨P2,b,n2 w1⟩) (fun k'=>by simp (disch:=omega) [h566]) ?_
  have hAne:A≠[]:=fun e=>by rw [e] at t4; simp at t4
  rcases t3 with ⟨e,-⟩ | ⟨-,q,hq,rfl,hrow⟩
  ·exact absurd e hAne
  ·have hSO:SO keyL P2 I F1 K1:=⟨s1.a.low (N:=tp) ⟨htp.1,htp.2.1⟩ fun k o hk ho=>t7 k o ho (by omega),s1.v⟩
   have hfine:∀ c ∈ A,c.fine P2∧c.key ∈ keyL:=fun c hc=>by
    obtain ⟨u1,u2,u3,u4,u5⟩:=t8 c hc
    have:=keyL_len _ u3
    exact ⟨⟨u1,u5,this.1,this.2,by omega⟩,u3⟩
   have hn2:=t9 w1
   refine OpsD.call (g:=549) (xs:=[t 56,t 58]) rfl rfl rfl (commit_ok hT hm hF hF2 hF3 hF4 hSO keyL_len (by decide) hb (by omega) (by rw [s2.n]; exact hFn) (Row.mk0 (fun _=>rfl) hrow) hAne (by omega) hfine (lc:=none) (n2 w1)) fun vv hh hR'=>?_
   obtain ⟨P3,F3,K3,w3,e,rfl,r1,r2,r3,r4,r5,rfl,-⟩:=hR'
   refine OpsD.done ?_
   simp only [blkE,setSlot]
   have hk1:keepK [3,5,7,8] ((59,Slot.val (.int .i64 e)) :: [(58,.val (.slice (some (q,0)) A.length none)),(57,.val (.ptr (some (tp,0)))),(56,.val (.ptr (some (I.s,0)))),(3,.val (.ptr (some (I.fi.fl,0)))),(5,.val (.ptr (some (I.s,0)))),(7,.val (.ptr (some (tp,0)))),(8,.val (.int .i64 (i:Nat)))])=[(3,.val (.ptr (some (I.fi.fl,0)))),(5,.val (.ptr (some (I.s,0)))),(7,.val (.ptr (some (tp,0)))),(8,.val (.int .i64 (i:Nat)))]:=by simp
   rw [hk1,hkk]
   refine CodeD.run (e:=.normal) (st':=⟨[(3,.val (.ptr (some (I.fi.fl,0)))),(5,.val (.ptr (some (I.s,0)))),(7,.val (.ptr (some (tp,0)))),(8,.val (.int .i64 (i+1:Nat)))],⟨P3,b,w3⟩⟩) hT hm (fun k'=>by
    have e1:((i+1:Nat):Int)=(i:Int)+1:=by omega
    rw [e1]
    simp (disch:=omega) []) ?_
   have htp3:TapA P3 tp (.slice a B.length c) B at2:=by
    obtain ⟨y1,y2,y3,y4⟩:=t1
    refine ⟨r1.keep _ _ y1 (by omega) (by omega) (by omega) (by omega) (by omega),y2.mono r1.len fun p o n c' e x hx=>?_,y3,y4⟩
    simp only [AVal.slice.injEq] at e
    have:=hv p o e.1
    exact r1.keep _ _ hx (by omega) (by omega) (by omega) (by omega) (by omega)
   exact ⟨20 - (i+1),by omega,i+1,P3,F3,K3,w3,at2,by omega,rfl,r2,s2.trans r3,htp3,by omega,rfl⟩
 ·refine CodeD.seq nofun (CodeD.run (e:=.exit 0) (st':=⟨[(3,.val (.ptr (some (I.fi.fl,0)))),(5,.val (.ptr (some (I.s,0))))],⟨P,b,w1⟩⟩) hT hm (fun k'=>by
   by_cases ci:i < 20
   ·have ca:¬ at_ < B.length:=fun h=>c1 ⟨ci,h⟩
    have ci':(i:Int) < 20:=by omega
    have ca':¬ (at_:Int) < B.length:=by omega
    simp (disch:=omega) [h565,hts,ci,ca,ci',ca']
   ·have ci':¬ (i:Int) < 20:=by omega
    simp (disch:=omega) [h565,hts,ci,ci']) ?_)
  exact ⟨rfl,P,F1,K1,w1,s1,s2,s4,rfl⟩
end
theorem fe565 {H P:List AObj} {w w':Nat} (hw:H.length≤w'):funcEnd code565 ⟨H,b,w⟩ (.ret,⟨[(2,.val (.bool true))],⟨P,b,w'⟩⟩)=some (.bool true,⟨H,b,w⟩):=by
 have:¬ w' < H.length:=by omega
 simp [funcEnd,code565,resultsL,result1,sget,tupled,finish,Heap.size,this,AVal.under]
section
attribute [-simp] getElem?_pos getElem?_neg List.all_eq_true
attribute [local simp] qZ qS nltT nltF iltT iltF ileT nleT dj
theorem c565 (hT:Agrees E T) (hm:E.P.follows .mixedOrders=true) (hF:IsCode E 617 code617) (hF2:IsCode E 599 code599) (hF3:IsCode E 580 code580) (hF4:IsCode E 549 code549) (hF5:IsCode E 557 code557) (hF6:IsCode E 565 code565) {H:List AObj} (hbH:b=H.length) {a:Option (Nat × Nat)} {c:Option Nat} {B:Bs} (hB:BlobV H (.slice a B.length c) B) (hv:∀ p o,a=some (p,o)→p < b) (w:Nat) :
  CallD E 565 [.slice a B.length c] ⟨H,b,w⟩ fun v h'=>v = .bool true∧h'=⟨H,b,w⟩:=by
 refine CallD.of_code hF6 rfl ?_
 rw [body565]
 have hen:enter 0 [AVal.slice a B.length c]=[(0,.val (.slice a B.length c))]:=rfl
 have hsz:(⟨H,b,w⟩:Heap).size=H.length:=rfl
 rw [hen]
 simp only [hsz]
 refine CodeD.seq nofun (CodeD.run (e:=.normal) (st':=⟨[(0,.val (.slice a B.length c))],⟨H,b,H.length⟩⟩) hT hm (fun k'=>by simp (disch:=omega) []) ?_)
 refine CodeD.seq nofun ?_
 refine CodeD.seq nofun (CodeD.after (CodeD.region hT hm ?_))
 refine OpsD.call (g:=557) (xs:=[]) rfl rfl rfl (c557 hT hm hF hF2 hF3 hF4 hF5 hbH H.length) fun vv hh hR'=>?_
 obtain ⟨rfl,rfl⟩:=hR'
 refine OpsD.run (l:=[o 17 (.un .not (t 16))]) (r:=[]) (s1:=[(17,.val (.bool false)),(16,.val (.bool true)),(0,.val (.slice a B.length c))]) (h1:=⟨H,b,H.length⟩) (fun k'=>by simp (disch:=omega) []) (OpsD.done ?_)
 simp only []
 have hk1:keepK [0,17] [(17,Slot.val (.bool false)),(16,.val (.bool true)),(0,.val (.slice a B.length c))]=[(0,.val (.slice a B.length c)),(17,.val (.bool false))]:=by simp
 rw [hk1]
 refine CodeD.run (e:=.normal) (st':=⟨[(0,.val (.slice a B.length c))],⟨H,b,H.length⟩⟩) hT hm (fun k'=>by simp (disch:=omega) []) ?_
 by_cases hl:B.length≤200
 ·have hli:¬ (200:Int) < B.length:=by omega
  refine CodeD.seq nofun (CodeD.run (e:=.normal) (st':=⟨[(0,.val (.slice a B.length c))],⟨H,b,H.length⟩⟩) hT hm (fun k'=>by simp (disch:=omega) [hli]) ?_)
  obtain ⟨h556,H2,I,k1,k2,k3,k4,k5,h555⟩:=store0 (H:=H) (b:=b) (kl:=keyL) (n:=5) (z:=200) (lim:=100) (by decide) (by decide) (by decide) (by decide) (by omega)
  simp only [a9] at h556
  refine CodeD.seq nofun (CodeD.run (e:=.normal) (st':=⟨[(0,.val (.slice a B.length c)),(3,.val (.ptr (some (H.length,0)))),(4,.val (.int .i64 0))],⟨H++AbsBlo.newO H.length 5 200 100,b,H.length⟩⟩) hT hm (fun k'=>by simp (disch:=omega) [h556]) ?_)
  refine CodeD.seq nofun (CodeD.run (e:=.normal) (st':=⟨[(0,.val (.slice a B.length c)),(3,.val (.ptr (some (H.length,0)))),(4,.val (.int .i64 0)),(5,.val (.ptr (some (I.s,0)))),(6,.val (.int .i64 0))],⟨H2,b,H.length⟩⟩) hT hm (fun k'=>by simp (disch:=omega) [h555]) ?_)
  refine CodeD.seq nofun (CodeD.run (e:=.normal) (st':=⟨[(0,.val (.slice a B.length c)),(3,.val (.ptr (some (H.length,0)))),(5,.val (.ptr (some (I.s,0))))],⟨H2,b,H.length⟩⟩) hT hm (fun k'=>by simp (disch:=omega) [g565]) ?_)
  refine CodeD.seq nofun (CodeD.run (e:=.normal) (st':=⟨[(3,.val (.ptr (some (H.length,0)))),(5,.val (.ptr (some (I.s,0)))),(7,.val (.ptr (some (H2.length,0))))],⟨H2++[.cells 2 [.slice a B.length c,.int .i64 0]],b,H.length⟩⟩) hT hm (fun k'=>by simp (disch:=omega) []) ?_)
  refine CodeD.seq nofun ?_
  refine CodeD.seq nofun (CodeD.run (e:=.normal) (st':=⟨[(3,.val (.ptr (some (H.length,0)))),(5,.val (.ptr (some (I.s,0)))),(7,.val (.ptr (some (H2.length,0)))),(8,.val (.int .i64 (0:Nat)))],⟨H2++[.cells 2 [.slice a B.length c,.int .i64 0]],b,H.length⟩⟩) hT hm (fun k'=>by simp (disch:=omega) []) ?_)
  have hpre:=k1.len
  have hnl:(H++AbsBlo.newO H.length 5 200 100).length=H.length+3:=by simp [AbsBlo.newO]
  have hIhi:=k5.a.hi
  have hIfl:=ah k5.a.fl.f
  have hfl:I.fi.fl=H.length:=by rw [k3]
  have htape:TapA (H2++[.cells 2 [.slice a B.length c,.int .i64 0]]) H2.length (.slice a B.length c) B 0:=by
   refine ⟨fp _ _,hB.mono (by rw [ap]; omega) fun p o n c' e x hx=>?_,by omega,eo _⟩
   rw [ag (by have:=ah hx; omega)]
   exact k1 _ _ (by rw [ag (ah hx)]; exact hx)
  refine CodeD.after (CodeD.block ((law_loop hT hm hF hF2 hF3 hF4 (B:=B) k2 (F:=F0 5 200 100) (by decide) (tp:=H2.length) ⟨hIhi,hIfl,by omega⟩ hv (k:=20) ⟨0,_,_,_,H.length,0,by omega,rfl,so_app k5 _,.refl _,htape,by omega,by rw [hfl]⟩).mono fun e st hq _=>?_))
  obtain ⟨rfl,P,F1,K1,w1,s1,s2,s4,rfl⟩:=hq
  simp only [blkE_e,if_true]
  have hk2:keepK [3,5] [(3,Slot.val (.ptr (some (I.fi.fl,0)))),(5,.val (.ptr (some (I.s,0))))]=[(3,.val (.ptr (some (I.fi.fl,0)))),(5,.val (.ptr (some (I.s,0))))]:=by simp
  rw [hk2]
  have hF1n:F1.n=5:=s2.n
  have hsl:K1.secs.length=5:=s1.v.ln.trans hF1n
  have hPhi:=s1.a.hi
  have hbP:b≤P.length:=by have:=k2.1; have:=ah s1.a.s; omega
  have h560:=fun w=>dc sub (s560 (b:=b) (w:=w) s1.a s1.v.dn (by omega))
  have h560b:=fun X w=>dc sub (s560 (b:=b) (w:=w) (s1.a.app X) s1.v.dn (by omega))
  have hS:=so_app s1 [.cells 3 (K1.secs.flatMap Sec.cells)]
  have hl5:=fun (k:AExit→St→Option Unit) w=>l565 hS (b:=b) (by rw [ap]; omega) (q:=P.length) (fp _ _) F1.n 0 w (by omega) k
  have h482:=fun X k w=>n482 (H:=P++X) (b:=b) (w:=w) (k:=k)
  have h561:=fun X w=>n561 (H:=P++X) (b:=b) (w:=w)
  have h480:=fun X k w=>n480 (H:=P++X) (b:=b) (w:=w) (k:=k)
  have h549:=fun X x w=>n549 (H:=P++X) (b:=b) (w:=w) (x:=x)
  have h562:=fun X w=>n562 (H:=P++X) (b:=b) (w:=w)
  have h563:=fun X w=>n563 (H:=P++X) (b:=b) (w:=w)
  have h560n:=fun X w=>n560 (H:=P++X) (b:=b) (w:=w)
  rw [hsl] at h560 h560b
  rw [hF1n] at hl5
  simp only [a9] at h560 h560b hl5
  simp only [ap,bv,dw,c6,aw,ff,eh] at h560b
  generalize K1.secs.flatMap Sec.cells=Y at *
  refine CodeD.run (e:=.ret) (st':=⟨[(2,.val (.bool true))],⟨P++[.cells 3 Y,.cells 3 Y],b,w1⟩⟩) hT hm (fun k'=>by
   simp (disch:=omega) [f565,h560,h560b,hl5,h482,h561,h480,h549,h562,h563,h560n]) ?_
  exact ⟨_,_,fe565 (by omega),rfl,rfl⟩
 ·have hli:(200:Int) < B.length:=by omega
  have hu:CodeD E (.seq (R [0,20] [v 18 0,o 19 (.len .sl (t 18)),o 20 (.bin .gtr (t 19) (n 200))])
 (.after (.cond (t 20) (.seq (R [2] [o 2 (.val Y)])
 (.live [2] (.ret))) (.skip)) [0])) ⟨[(0,.val (.slice a B.length c))],⟨H,b,H.length⟩⟩ (fun e st=>e = .ret∧st=⟨[(2,.val (.bool true))],⟨H,b,H.length⟩⟩) :=
   CodeD.run (e:=.ret) (st':=⟨[(2,.val (.bool true))],⟨H,b,H.length⟩⟩) hT hm (fun k'=>by simp (disch:=omega) [hli]) ⟨rfl,rfl⟩
  refine CodeD.seq nofun (hu.mono fun e st hq _=>?_)
  obtain ⟨rfl,rfl⟩:=hq
  exact ⟨_,_,fe565 (ai _),rfl,rfl⟩
end
end
end Go.Abs.AbsBlo

namespace Go.Abs
def AOper.isLoc (o:AOper):Bool:=match o.op with
 | .lalloc _ | .lbox _ | .ext (.hstore _) _=>true
 | _=>false
def locsOf:Nat→List AOper→List Nat
 | _,[]=>[]
 | i,o :: r=>if o.isLoc then i :: locsOf (i+1) r else locsOf (i+1) r
def ACode.hint:ACode→Hint
 | .skip | .exit _ | .ret | .next _ _=>.leaf
 | .region gs=>.reg (gs.map fun g=>(g.quiet,g.ops.length)) (locsOf 0 (gs.flatMap Seg.ops))
 | .seq (.next _ _) _=>.next
 | .seq a b=>.seq a.hint b.hint
 | .cond (.const (.str [])) .skip .skip=>.stuck
 | .cond _ a b=>.cond a.hint b.hint
 | .block _ c=>.block c.hint
 | .loop c=>.loop c.hint
 | .live l c=>.live l c.hint
 | .after c l=>.after c.hint l
 | .rangeFunc _ g caps _ a b=>.rangeFunc g caps a.hint b.hint
theorem ow {E:Env} {T:Nat→Option AFunc} {f g:Nat} {fn:Func} {c:AFunc} {b:Bool} {hint:Hint} (h3:cFunc E b hint fn=some c) (h1:E.P.funcs[f]? = some fn) (h2:T g=some c) (h4:RndOK E c.body.rounds):FnOK E T f g:=.inr (.inl ⟨_,_,_,_,h1,h2,h3,h4⟩)
end Go.Abs

namespace Go.Abs.AbsBlb
open Go.Abs.Short
theorem and32 {m:Nat} (h:m < 4294967296):andI .u64 m 4294967295=m:=by
 unfold andI
 have e1:(BitVec.ofInt IntKind.u64.bits (m:Int) &&& BitVec.ofInt IntKind.u64.bits 4294967295).toNat=m:=by
  show (BitVec.ofInt 64 (m:Int) &&& BitVec.ofInt 64 4294967295).toNat=m
  rw [BitVec.toNat_and]
  have e2:(BitVec.ofInt 64 (m:Int)).toNat=m:=by
   rw [BitVec.toNat_ofInt]; omega
  have e3:(BitVec.ofInt 64 4294967295).toNat=2 ^ 32 - 1:=by decide
  rw [e2,e3,Nat.and_two_pow_sub_one_eq_mod]
  omega
 rw [e1]
 exact wrapU (by omega)
section
attribute [-simp] getElem?_pos getElem?_neg List.all_eq_true
attribute [local simp] qZ qS nltT nltF iltT iltF ileT nleT dj
theorem s466 {H:List AObj} {b w n:Nat} (hn:n≤8192):xCall T 466 [.int .u64 1,.int .u64 n] ⟨H,b,w⟩=some (.tuple [.int .u64 0,.int .u64 n],⟨H,b,w⟩):=by
 have a1:andI .u64 1 4294967295=1:=and32 (m:=1) (by decide)
 have a0:andI .u64 0 4294967295=0:=and32 (m:=0) (by decide)
 have an:andI .u64 n 4294967295=n:=and32 (by omega)
 have w0:IntKind.u64.wrap 0=0:=by decide
 have w1:IntKind.u64.wrap 1=1:=by decide
 have wn:IntKind.u64.wrap (n:Int)=n:=wrapU (by omega)
 have f0:(n:Int).fdiv (2 ^ min 32 IntKind.u64.bits)=0:=by
  show (n:Int).fdiv 4294967296=0
  rw [Int.fdiv_eq_ediv_of_nonneg _ (by omega)]; omega
 have f1:Int.fdiv 1 (2 ^ min 32 IntKind.u64.bits)=0:=by decide
 have f2:Int.fdiv 0 (2 ^ min 32 IntKind.u64.bits)=0:=by decide
 simp (disch:=omega) [ba t466,code466,aBits_and,a1,a0,an,w0,w1,wn,f0,f1,f2]
theorem s454 {H:List AObj} {b w n:Nat} (hn:n≤8192):xCall T 454 [.int .u64 1,.int .u64 n] ⟨H,b,w⟩=some (.tuple [.int .u64 0,.int .u64 n],⟨H,b,w⟩):=by
 have h466:=fun w=>s466 (H:=H) (b:=b) (w:=w) hn
 simp (disch:=omega) [ba t454,code454,h466]
end
end Go.Abs.AbsBlb
namespace Go.Abs.AbsBlo
open Go.Abs.AbsBlb hiding T
open Go.Abs.Short
def raw567L0:ACode :=
 .live [7,8,9,10] (.seq (.seq (R [7,8,9,10,63] [v 61 10,v 62 7,o 63 (.bin .lss (t 61) (t 62))])
 (.after (.cond (t 63) (.skip) (.live [9] (.exit 0))) [7,8,9,10]))
 (.after (.block 1 (.seq (R [7,8,9,10,11] [v 64 10,v 65 8,o 66 (.minmax false [t 64,t 65]),v 11 66])
 (.after (.region [⟨true,[0,0,0,6,0,0,48,126],[v 67 10,v 68 9,v 69 10,o 70 (.slice (.sl 1) (t 68) (some (t 69)) none none),v 71 9,v 72 11,o 73 (.slice (.sl 1) (t 71) none (some (t 72)) none),o 74 (.ext (.copy 1) [t 70,t 73])]⟩,⟨false,[],[o 75 (.bin .add (t 67) (t 74)),v 10 75]⟩]) [7,8,9,10]))) [7,8,9,10]))
def raw567:AFunc:=⟨false,false,2,77,[.tmp 4],
 .seq (R [0,1] [o 4 (.val (.const (.slice none 0 (some 0))))])
 (.seq (.seq (R [0,1,13] [v 12 1,o 13 (.bin .eql (t 12) (n 0))])
 (.after (.cond (t 13) (.seq (R [4] [o 14 (.mkslice 1 0 [] []),v 4 14])
 (.live [4] (.ret))) (.skip)) [0,1]))
 (.seq (.seq (R [0,1,16] [v 15 1,o 16 (.bin .lss (t 15) (n 0))])
 (.after (.cond (t 16) (R [0,1] [o 17 (.nextStr F),u (.nextStr F)]) (.skip)) [0,1]))
 (.seq (R [0,5,6] [v 19 0,o 20 (.len .sl (t 19)),o 21 (.conv (.int .u64) (t 20)),v 22 1,o 23 (.conv (.int .u64) (t 22)),o 24 (.callg 454 [t 21,t 23]),v 18 24,o 25 (.extract (t 18) 0),o 26 (.extract (t 18) 1),v 5 25,v 6 26])
 (.seq (.seq (R [0,6,32] [v 27 5,o 28 (.bin .gtr (t 27) (.const (.int .u64 0))),v 29 28,g 30 29 false (.val (t 6)),g 31 29 false (.bin .gtr (t 30) (.const (.int .u64 9223372036854775807))),o 32 (.pick (t 29) Y (t 31))])
 (.after (.cond (t 32) (R [0,6] [o 33 (.nextStr F),u (.nextStr F)]) (.skip)) [0,6]))
 (.seq (R [0,7] [v 34 6,o 35 (.conv (.int .i64) (t 34)),v 7 35])
 (.seq (.seq (R [0,7,38] [v 36 0,o 37 (.len .sl (t 36)),o 38 (.bin .eql (t 37) (n 0))])
 (.after (.cond (t 38) (.seq (R [4] [o 39 (.mkslice 1 0 [] []),v 4 39])
 (.live [4] (.ret))) (.skip)) [0,7]))
 (.seq (R [0,7,8] [v 40 7,v 8 40])
 (.seq (.seq (R [0,7,8,42] [v 41 8,o 42 (.bin .gtr (t 41) (n 8192))])
 (.after (.cond (t 42) (.seq (R [0,7,8] [v 43 0,o 44 (.len .sl (t 43)),o 45 (.bin .quo (n 8192) (t 44)),v 46 0,o 47 (.len .sl (t 46)),o 48 (.bin .mul (t 45) (t 47)),v 8 48])
 (.seq (R [0,7,8,50] [v 49 8,o 50 (.bin .eql (t 49) (n 0))])
 (.after (.cond (t 50) (R [0,7,8] [v 51 0,o 52 (.len .sl (t 51)),v 8 52]) (.skip)) [0,7,8]))) (.skip)) [0,7,8]))
 (.seq (R [0,7,8,9] [v 53 7,o 54 (.ext (.pure (.prim .noZero)) [t 53]),v 55 7,v 56 7,o 57 (.slice (.sl 1) (t 54) none (some (t 55)) (some (t 56))),v 9 57])
 (.seq (R [7,8,9,10] [v 58 9,v 59 0,o 60 (.ext (.copy 1) [t 58,t 59]),v 10 60])
 (.seq (.after (.block 0 (.loop raw567L0)) [9])
 (.seq (R [4] [v 76 9,v 4 76])
 (.live [4] (.ret)))))))))))))),none⟩
def T0:Nat→Option AFunc:=fun g=>if g=567 then some raw567 else T g
theorem subR:∀ g f,AbsBlb.T g=some f→T0 g=some f:=fun g f h=>by
 unfold T0
 rw [if_neg,sub g f h]
 rintro rfl
 cases h
theorem rnd0:∀ g ar,rndOf T g=some ar→rndOf T0 g=some ar:=fun g ar h=>by
 by_cases e:g=567
 ·subst e
  simp [rndOf,t567,code567,ASpec.rnd] at h
 ·unfold rndOf T0 at *
  rw [if_neg e]; exact h
def Full (n m:Nat) (ys:Bs):Prop:=ys.length=n∧m≤n∧∀ j,j < m→ys[j]? = some 255
section
variable {H:List AObj} {b n:Nat}
theorem full_step {m k:Nat} {ys:Bs} (h:Full n m ys) (hk:k≤m) (hkn:m+k≤n):Full n (m+k) (spliceB ys m (ys.take k)):=by
 obtain ⟨h1,h2,h3⟩:=h
 have hl:(ys.take k).length=k:=by rw [dg]; omega
 refine ⟨by rw [fm (by omega)]; exact h1,hkn,fun j hj=>?_⟩
 rw [jd (by omega)]
 split
 ·exact h3 j (by omega)
 ·rw [hl,if_pos hj,dp,if_pos (by omega)]
  exact h3 _ (by omega)
theorem copy_step {m k w:Nat} {ys:Bs} {c1 c2:Option Nat} (hl:ys.length=n) (hk0:0 < k) (hm:m < n) (hk:k≤n) (hb:b≤H.length) (hc:k≤c2.getD k) :
  evExt (.copy 1) [.slice (some (H.length,m)) (n - m) c1,.slice (some (H.length,0)) k c2] ⟨H++[.cells 1 (ys.map u8V)],b,w⟩=some (.int .i64 ((min (n - m) k:Nat):Int),⟨H++[.cells 1 ((spliceB ys m (ys.take (min (n - m) k))).map u8V)],b,min w H.length⟩):=by
 have hg:(H++[AObj.cells 1 (ys.map u8V)])[H.length]? = some (.cells 1 (ys.map u8V)):=fp _ _
 have hmin:0 < min (n - m) k:=by omega
 have hr:rowK 1 ⟨H++[.cells 1 (ys.map u8V)],b,w⟩ (min (n - m) k) (.slice (some (H.length,0)) k c2)=some ((ys.take (min (n - m) k)).map u8V):=by
  have q0:min (n - m) k≤k:=by omega
  have q1:¬ min (n - m) k=0:=by omega
  have q2:min (n - m) k≤n:=by omega
  unfold rowK rowOf
  simp only [if_pos q0,if_neg q1,Heap.get,hg,Nat.mul_one,c6,bj,hl,q2,and_self,if_true,dz,List.map_take]
 have hml:((ys.take (min (n - m) k)).map u8V).length=min (n - m) k:=by rw [bj,dg]; omega
 have hle:m+min (n - m) k≤n:=by omega
 unfold evExt
 simp only [alen,hr,show ¬ min (n - m) k=0 from by omega,if_false,Heap.get,hg,hml,bj,hl,hb,hle,and_self,if_true,Heap.put,set_k0]
 have hs:splice (ys.map u8V) m ((ys.take (min (n - m) k)).map u8V)=(spliceB ys m (ys.take (min (n - m) k))).map u8V:=by
  rw [map_spliceB]
  unfold splice
  have ht:(ys.take (min (n - m) k)).length=min (n - m) k:=by rw [dg]; omega
  rw [hml,ht]
 rw [hs]; rfl
section
attribute [-simp] getElem?_pos getElem?_neg List.all_eq_true
attribute [local simp] qZ qS nltT nltF iltT iltF ileT nleT dj
theorem l567 (hb:b≤H.length) (hn:n≤8192):∀ (d m w:Nat) (ys:Bs),n - m≤d→0 < m→H.length≤w→Full n m ys→∃ (ys':Bs) (w':Nat),Full n n ys'∧H.length≤w'∧∀ {β:Type} (k:AExit→St→Option β),
  xK T0 (.loop raw567L0) ⟨[(7,.val (.int .i64 n)),(8,.val (.int .i64 n)),(9,.val (.slice (some (H.length,0)) n (some n))),(10,.val (.int .i64 m))],⟨H++[.cells 1 (ys.map u8V)],b,w⟩⟩ (k:=⟨k⟩) =
   k (.exit 0) ⟨[(9,.val (.slice (some (H.length,0)) n (some n)))],⟨H++[.cells 1 (ys'.map u8V)],b,w'⟩⟩:=by
 intro d
 induction d with
 | zero =>
  intro m w ys hd h0 hw hF
  have hmn:m=n:=by have:=hF.2.1; omega
  subst hmn
  refine ⟨ys,w,hF,hw,fun k=>?_⟩
  rw [b9]
  simp (disch:=omega) [raw567L0]
 | succ d ih =>
  intro m w ys hd h0 hw hF
  by_cases c:m < n
  ·have hcs:=fun w=>copy_step (b:=b) (w:=w) (c1:=some (n - m)) (c2:=some n) hF.1 h0 c (by omega) hb (show m≤(some n).getD m by simp; omega)
   have hk:min (n - m) m≤m:=by omega
   have hkn:m+min (n - m) m≤n:=by omega
   have hF2:=full_step hF hk hkn
   have hpos:0 < min (n - m) m:=by omega
   obtain ⟨ys',w',i1,i2,i3⟩:=ih (m+min (n - m) m) (min w H.length) _ (by omega) (by omega) (by omega) hF2
   refine ⟨ys',w',i1,i2,fun k=>?_⟩
   rw [b9,← i3 k]
   have e1:((m+min (n - m) m:Nat):Int)=(m:Int)+((min (n - m) m:Nat):Int):=by omega
   rw [e1]
   have hmn:m≤n:=by omega
   have hnm:¬ n=m:=by omega
   have hle:min (n - m) m≤8192:=by omega
   have ci:(m:Int) < n:=by omega
   have hids:AVal.idsL ((spliceB ys m (ys.take (min (n - m) m))).map u8V)=[]:=ju _
   generalize (spliceB ys m (ys.take (min (n - m) m))).map u8V=Y2 at *
   have hyl:(ys.map u8V).length=n:=by rw [bj]; exact hF.1
   generalize ys.map u8V=Y at *
   generalize min (n - m) m=kk at *
   generalize ACode.loop raw567L0=LL
   simp (disch:=omega) [raw567L0,-evExt,-sget,sgetN,sgetH,sgetT,-rdIds,jr,js,im,ge,hcs,ci,c,hmn,hyl,hids,hnm,eszIs]
  ·exact ih m w ys (by omega) h0 hw hF
end
end
def q567:ACode:=.seq (R [7,8,9,10] [v 58 9,v 59 0,o 60 (.ext (.copy 1) [t 58,t 59]),v 10 60])
 (.seq (.after (.block 0 (.loop raw567L0)) [9])
 (.seq (R [4] [v 76 9,v 4 76])
 (.live [4] (.ret))))
theorem bodyR:raw567.body = .seq (R [0,1] [o 4 (.val (.const (.slice none 0 (some 0))))])
 (.seq (.seq (R [0,1,13] [v 12 1,o 13 (.bin .eql (t 12) (n 0))])
 (.after (.cond (t 13) (.seq (R [4] [o 14 (.mkslice 1 0 [] []),v 4 14])
 (.live [4] (.ret))) (.skip)) [0,1]))
 (.seq (.seq (R [0,1,16] [v 15 1,o 16 (.bin .lss (t 15) (n 0))])
 (.after (.cond (t 16) (R [0,1] [o 17 (.nextStr F),u (.nextStr F)]) (.skip)) [0,1]))
 (.seq (R [0,5,6] [v 19 0,o 20 (.len .sl (t 19)),o 21 (.conv (.int .u64) (t 20)),v 22 1,o 23 (.conv (.int .u64) (t 22)),o 24 (.callg 454 [t 21,t 23]),v 18 24,o 25 (.extract (t 18) 0),o 26 (.extract (t 18) 1),v 5 25,v 6 26])
 (.seq (.seq (R [0,6,32] [v 27 5,o 28 (.bin .gtr (t 27) (.const (.int .u64 0))),v 29 28,g 30 29 false (.val (t 6)),g 31 29 false (.bin .gtr (t 30) (.const (.int .u64 9223372036854775807))),o 32 (.pick (t 29) Y (t 31))])
 (.after (.cond (t 32) (R [0,6] [o 33 (.nextStr F),u (.nextStr F)]) (.skip)) [0,6]))
 (.seq (R [0,7] [v 34 6,o 35 (.conv (.int .i64) (t 34)),v 7 35])
 (.seq (.seq (R [0,7,38] [v 36 0,o 37 (.len .sl (t 36)),o 38 (.bin .eql (t 37) (n 0))])
 (.after (.cond (t 38) (.seq (R [4] [o 39 (.mkslice 1 0 [] []),v 4 39])
 (.live [4] (.ret))) (.skip)) [0,7]))
 (.seq (R [0,7,8] [v 40 7,v 8 40])
 (.seq (.seq (R [0,7,8,42] [v 41 8,o 42 (.bin .gtr (t 41) (n 8192))])
 (.after (.cond (t 42) (.seq (R [0,7,8] [v 43 0,o 44 (.len .sl (t 43)),o 45 (.bin .quo (n 8192) (t 44)),v 46 0,o 47 (.len .sl (t 46)),o 48 (.bin .mul (t 45) (t 47)),v 8 48])
 (.seq (R [0,7,8,50] [v 49 8,o 50 (.bin .eql (t 49) (n 0))])
 (.after (.cond (t 50) (R [0,7,8] [v 51 0,o 52 (.len .sl (t 51)),v 8 52]) (.skip)) [0,7,8]))) (.skip)) [0,7,8]))
 (.seq (R [0,7,8,9] [v 53 7,o 54 (.ext (.pure (.prim .noZero)) [t 53]),v 55 7,v 56 7,o 57 (.slice (.sl 1) (t 54) none (some (t 55)) (some (t 56))),v 9 57])
 q567))))))))):=rfl
theorem full_rep {n:Nat} {ys:Bs} (h:Full n n ys):ys=List.replicate n 255:=by
 obtain ⟨h1,-,h3⟩:=h
 refine gu fun j=>?_
 by_cases c:j < n
 ·rw [h3 j c,d7,if_pos c]
 ·rw [bp (by omega),bp (by rw [bg]; omega)]
section
variable {E:Env} {H:List AObj} {b n:Nat}
section
attribute [-simp] getElem?_pos getElem?_neg List.all_eq_true
attribute [local simp] qZ qS nltT nltF iltT iltF ileT nleT dj
theorem c567 (hT:Agrees E T0) (hm:E.P.follows .mixedOrders=true) (hF:IsCode E 567 raw567) {p o:Nat} {c:Option Nat} {X:List AVal} (hp:H[p]? = some (.cells 1 X)) (hX:X[o]? = some (.int .u8 255)) (hn:0 < n∧n≤8192) (hb:b≤H.length) (w:Nat) :
  CallD E 567 [.slice (some (p,o)) 1 c,.int .i64 n] ⟨H,b,w⟩ fun v h'=>v = .slice (some (H.length,0)) n (some n)∧h'=⟨H++[.cells 1 (List.replicate n (.int .u8 255))],b,w⟩:=by
 have hpl:=ah hp
 refine CallD.of_code hF rfl ?_
 rw [bodyR]
 have hen:enter 0 [AVal.slice (some (p,o)) 1 c,.int .i64 n]=[(0,.val (.slice (some (p,o)) 1 c)),(1,.val (.int .i64 n))]:=rfl
 have hsz:(⟨H,b,w⟩:Heap).size=H.length:=rfl
 rw [hen]
 simp only [hsz]
 have n1:¬ ((n:Int)=0):=by omega
 have n2:¬ ((n:Int) < 0):=by omega
 have n3:¬ (n=0):=by omega
 have wn:IntKind.u64.wrap (n:Int)=n:=wrapU (by omega)
 have wi:IntKind.i64.wrap (n:Int)=n:=by
  have:∀ m:Nat,m≤8192→IntKind.i64.wrap (m:Int)=m:=fun m hm=>by
   unfold IntKind.wrap
   simp [IntKind.signed,IntKind.bits]
   omega
  exact this n hn.2
 have w1:IntKind.u64.wrap 1=1:=by decide
 have c1:¬ ((9223372036854775807:Int) < n):=by omega
 have c2:¬ ((8192:Int) < n):=by omega
 have h454:=fun w=>dc subR (s454 (H:=H) (b:=b) (w:=w) hn.2)
 refine CodeD.seq nofun (CodeD.run (e:=.normal) (st':=⟨[(0,.val (.slice (some (p,o)) 1 c)),(1,.val (.int .i64 n))],⟨H,b,H.length⟩⟩) hT hm (fun k'=>by simp (disch:=omega) []) ?_)
 refine CodeD.seq nofun (CodeD.run (e:=.normal) (st':=⟨[(0,.val (.slice (some (p,o)) 1 c)),(1,.val (.int .i64 n))],⟨H,b,H.length⟩⟩) hT hm (fun k'=>by simp (disch:=omega) [n1,n3]) ?_)
 refine CodeD.seq nofun (CodeD.run (e:=.normal) (st':=⟨[(0,.val (.slice (some (p,o)) 1 c)),(1,.val (.int .i64 n))],⟨H,b,H.length⟩⟩) hT hm (fun k'=>by simp (disch:=omega) [n2]) ?_)
 refine CodeD.seq nofun (CodeD.run (e:=.normal) (st':=⟨[(0,.val (.slice (some (p,o)) 1 c)),(5,.val (.int .u64 0)),(6,.val (.int .u64 n))],⟨H,b,H.length⟩⟩) hT hm (fun k'=>by simp (disch:=omega) [wn,w1,h454]) ?_)
 refine CodeD.seq nofun (CodeD.run (e:=.normal) (st':=⟨[(0,.val (.slice (some (p,o)) 1 c)),(6,.val (.int .u64 n))],⟨H,b,H.length⟩⟩) hT hm (fun k'=>by simp (disch:=omega) [c1]) ?_)
 refine CodeD.seq nofun (CodeD.run (e:=.normal) (st':=⟨[(0,.val (.slice (some (p,o)) 1 c)),(7,.val (.int .i64 n))],⟨H,b,H.length⟩⟩) hT hm (fun k'=>by simp (disch:=omega) [wi]) ?_)
 refine CodeD.seq nofun (CodeD.run (e:=.normal) (st':=⟨[(0,.val (.slice (some (p,o)) 1 c)),(7,.val (.int .i64 n))],⟨H,b,H.length⟩⟩) hT hm (fun k'=>by simp (disch:=omega) []) ?_)
 refine CodeD.seq nofun (CodeD.run (e:=.normal) (st':=⟨[(0,.val (.slice (some (p,o)) 1 c)),(7,.val (.int .i64 n)),(8,.val (.int .i64 n))],⟨H,b,H.length⟩⟩) hT hm (fun k'=>by simp (disch:=omega) []) ?_)
 refine CodeD.seq nofun (CodeD.run (e:=.normal) (st':=⟨[(0,.val (.slice (some (p,o)) 1 c)),(7,.val (.int .i64 n)),(8,.val (.int .i64 n))],⟨H,b,H.length⟩⟩) hT hm (fun k'=>by simp (disch:=omega) [c2]) ?_)
 refine CodeD.seq nofun (CodeD.after (CodeD.region hT hm ?_))
 refine OpsD.run (l:=[v 53 7]) (r:=[Go.Abs.Short.o 54 (.ext (.pure (.prim .noZero)) [t 53]),v 55 7,v 56 7,Go.Abs.Short.o 57 (.slice (.sl 1) (t 54) none (some (t 55)) (some (t 56))),v 9 57]) (s1:=[(53,.val (.int .i64 n)),(0,.val (.slice (some (p,o)) 1 c)),(7,.val (.int .i64 n)),(8,.val (.int .i64 n))]) (h1:=⟨H,b,H.length⟩) (fun k'=>by simp (disch:=omega) []) ?_
 refine OpsD.noZero (x:=t 53) (n:=n) rfl rfl rfl (by omega) fun bs hbs=>?_
 have hpush:(⟨H,b,H.length⟩:Heap).push (.cells 1 (bs.map fun b=>.int .u8 b.toNat))=⟨H++[.cells 1 (bs.map u8V)],b,H.length⟩:=rfl
 rw [hpush]
 have hbl:(bs.map u8V).length=n:=by rw [bj]; exact hbs
 have hxl:=ah hX
 have hids0:AVal.idsL (bs.map u8V)=[]:=ju _
 refine OpsD.run (l:=[v 55 7,v 56 7,Go.Abs.Short.o 57 (.slice (.sl 1) (t 54) none (some (t 55)) (some (t 56))),v 9 57]) (r:=[]) (s1:=[(9,.val (.slice (some (H.length,0)) n (some n))),(57,.val (.slice (some (H.length,0)) n (some n))),(56,.val (.int .i64 n)),(55,.val (.int .i64 n)),(54,.val (.slice (some (H.length,0)) n none)),(53,.val (.int .i64 n)),(0,.val (.slice (some (p,o)) 1 c)),(7,.val (.int .i64 n)),(8,.val (.int .i64 n))]) (h1:=⟨H++[.cells 1 (bs.map u8V)],b,H.length⟩) (fun k'=>by
  show opsK (xCall T0) _ ((54,Slot.val (.slice (some (H.length,0)) n none)) :: _) _ (k:=⟨k'⟩)=_
  generalize bs.map u8V=Y at *
  simp (disch:=omega) [hbl,eszIs]) (OpsD.done ?_)
 simp only []
 have hk1:keepK [0,7,8,9] [(9,Slot.val (.slice (some (H.length,0)) n (some n))),(57,.val (.slice (some (H.length,0)) n (some n))),(56,.val (.int .i64 n)),(55,.val (.int .i64 n)),(54,.val (.slice (some (H.length,0)) n none)),(53,.val (.int .i64 n)),(0,.val (.slice (some (p,o)) 1 c)),(7,.val (.int .i64 n)),(8,.val (.int .i64 n))]=[(0,.val (.slice (some (p,o)) 1 c)),(7,.val (.int .i64 n)),(8,.val (.int .i64 n)),(9,.val (.slice (some (H.length,0)) n (some n)))]:=by simp
 rw [hk1]
 have hF1:Full n 1 (spliceB bs 0 [255]):=by
  refine ⟨by rw [fm (by show 0+1≤_; omega)]; exact hbs,hn.1,fun j hj=>?_⟩
  obtain rfl:j=0:=by omega
  rw [jd (by show 0+1≤_; omega)]; rfl
 have hcopy:∀ w,evExt (.copy 1) [.slice (some (H.length,0)) n (some n),.slice (some (p,o)) 1 c] ⟨H++[.cells 1 (bs.map u8V)],b,w⟩=some (.int .i64 1,⟨H++[.cells 1 ((spliceB bs 0 [255]).map u8V)],b,min w H.length⟩):=fun w=>by
  have hg:(H++[AObj.cells 1 (bs.map u8V)])[H.length]? = some (.cells 1 (bs.map u8V)):=fp _ _
  have hgp:(H++[AObj.cells 1 (bs.map u8V)])[p]? = some (.cells 1 X):=by rw [ag hpl]; exact hp
  have hmin:min n 1=1:=by omega
  have htk:(X.drop o).take 1=[.int .u8 255]:=by
   rw [List.take_one,List.head?_drop,hX]; rfl
  have hox:o+1≤X.length:=by omega
  have hr:rowK 1 ⟨H++[.cells 1 (bs.map u8V)],b,w⟩ 1 (.slice (some (p,o)) 1 c)=some [.int .u8 255]:=by
   unfold rowK rowOf
   simp only [ai,if_true,Heap.get,hgp,Nat.mul_one,hox,and_self,htk]
   rfl
  have hle:0+1≤n:=by omega
  have hs:splice (bs.map u8V) 0 [.int .u8 255]=(spliceB bs 0 [255]).map u8V:=by
   rw [map_spliceB]; rfl
  unfold evExt
  simp only [alen,hmin,hr,Nat.one_ne_zero,if_false,Heap.get,hg,bv,dw,c6,hbl,hb,hn.1,and_self,if_true,Heap.put,set_k0,hs]
  have:¬ n < 1:=by omega
  simp [this,Nat.succ_le_of_lt hn.1]
 obtain ⟨ys,w',i1,i2,i3⟩:=l567 (b:=b) hb hn.2 n 1 H.length (spliceB bs 0 [255]) (by omega) (by decide) (ai _) hF1
 have hys:=full_rep i1
 have hym:ys.map u8V=List.replicate n (.int .u8 255):=by rw [hys,List.map_replicate]; rfl
 rw [hym] at i3
 have i3:=fun (k:AExit→St→Option Unit)=>i3 k
 simp only [a9] at i3
 have hmw:min H.length H.length=H.length:=Nat.min_self _
 refine CodeD.run (e:=.ret) (st':=⟨[(4,.val (.slice (some (H.length,0)) n (some n)))],⟨H++[.cells 1 (List.replicate n (.int .u8 255))],b,w'⟩⟩) hT hm (fun k'=>by
  generalize (spliceB bs 0 [255]).map u8V=Y2 at *
  generalize bs.map u8V=Y at *
  simp (disch:=omega) [q567,-evExt,hcopy,i3]) ?_
 refine ⟨_,_,?_,rfl,rfl⟩
 have hids:AVal.idsL (List.replicate n (AVal.int .u8 255))=[]:=AbsBlb.idsL_none fun x hx=>by rw [List.eq_of_mem_replicate hx]; simp [AVal.ids]
 have hren:∀ g,AVal.renL g (List.replicate n (AVal.int .u8 255))=List.replicate n (.int .u8 255):=fun g=>AbsBlb.renL_none fun x hx=>by rw [List.eq_of_mem_replicate hx]; simp [AVal.ren]
 have hf:=jw (O:=H) (P:=H++[.cells 1 (List.replicate n (.int .u8 255))]) (b:=b) (w:=w) (W:=w') (q:=H.length) (n:=n) (c:=some n) (fp H _) hids hren (ai _) i2
 simp only [funcEnd,raw567,resultsL,result1,sgetH,sget]
 simp [-finish,tupled,hf]
end
theorem rep_ok {f:FuncId} {fn:Func} (hT:Agrees E T0) (hm:E.P.follows .mixedOrders=true) (hF:IsCode E 567 raw567) (hg:E.gid f=some 567) (hn:fn.name ≠ "runtime.NumGoroutine") (hb:fn.body.isSome=true):LibOK E f fn repF :=
 LibOK.of_calls hg hn hb fun args h v ps xs e=>by
  obtain ⟨os,b,w⟩:=h
  unfold repF at e
  split at e
  case h_2=>cases e
  rename_i p o c n
  split at e
  case h_2=>cases e
  rename_i X hp
  split at e
  case h_2=>cases e
  rename_i hX
  split at e
  case isFalse=>cases e
  rename_i hn'
  cases e
  intro f' hgid μ W args' ha hr
  have hbs:b≤os.length:=hr.bs
  have e1:n=((n.toNat:Nat):Int):=by omega
  have:=c567 hT hm hF (b:=b) (w:=w) (c:=c) (H:=os) hp hX (n:=n.toNat) (by omega) hbs
  rw [← e1] at this
  exact (this.mono fun v h' ⟨g1,g2⟩=>⟨g1,g2⟩) f' hgid μ W args' ha hr
end
end Go.Abs.AbsBlo
