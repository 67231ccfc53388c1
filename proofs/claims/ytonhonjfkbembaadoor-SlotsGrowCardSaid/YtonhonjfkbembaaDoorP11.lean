/-
  Texts joined.
-/
import Derived.Test.YtonhonjfkbembaaDoorP0
import Derived.Test.YtonhonjfkbembaaDoorP10
import Derived.Test.YtonhonjfkbembaaDoorP8
import Derived.Test.YtonhonjfkbembaaDoorP6
set_option linter.unusedVariables false
set_option linter.unusedSimpArgs false
set_option maxRecDepth 100000
namespace Go.Abs.AbsSlot
open Go.Abs.AbsHier Go.Abs.AbsDesc
open Go.Abs.Short
section
variable {E:Env} {P:Par} {b:Nat}
abbrev noQ:Nat→Prop:=fun _=>False
section
attribute [-simp] getElem?_pos getElem?_neg List.all_eq_true
attribute [local simp] gz gs nltT nltF iltT iltF ileT nleT dh
theorem l116D (hT:Agrees E T) (hm:E.P.follows .mixedOrders=true) (hF:IsCode E 161 code161) (hP:P.ok b) {H0:List AObj} {w0:Nat} (k0:Nat) (st0:St) {x5:AVal} (hx5:x5 = .slice (some (P.fi,0)) P.W.length P.fc)
  (h0:∃ (i:Nat) (H:List AObj) (C:List LClsU) (M:List LMethU) (D:List Bool) (S:List (Option Nat)) (Z:List (Key × Int)) (w:Nat),i+k0=P.W.length∧st0=⟨[(3,.val (.ptr (some (P.K,0)))),(5,.val x5),(16,.val (.slice (some (P.di,0)) P.W.length P.dc)),(152,.val (.int .i64 P.W.length)),(153,.val (.int .i64 i))],⟨H,b,w⟩⟩∧LS P H C M D S Z noQ noQ∧(∀ j,j < i→D[j]? = some true)∧Upd5 P H0 H∧P.m0≤w∧w≤w0) :
  CodeD E (.loop code116L0) st0 fun e st=>e = .exit 6∧∃ (H:List AObj) (C:List LClsU) (M:List LMethU) (D:List Bool) (S:List (Option Nat)) (Z:List (Key × Int)) (w:Nat),st=⟨[(3,.val (.ptr (some (P.K,0))))],⟨H,b,w⟩⟩∧LS P H C M D S Z noQ noQ∧(∀ j,j < P.W.length→D[j]? = some true)∧Upd5 P H0 H∧P.m0≤w∧w≤w0:=by
 subst hx5
 refine CodeD.loop (fun k0 st0=>∃ (i:Nat) (H:List AObj) (C:List LClsU) (M:List LMethU) (D:List Bool) (S:List (Option Nat)) (Z:List (Key × Int)) (w:Nat),i+k0=P.W.length∧st0=⟨[(3,.val (.ptr (some (P.K,0)))),(5,.val (.slice (some (P.fi,0)) P.W.length P.fc)),(16,.val (.slice (some (P.di,0)) P.W.length P.dc)),(152,.val (.int .i64 P.W.length)),(153,.val (.int .i64 i))],⟨H,b,w⟩⟩∧LS P H C M D S Z noQ noQ∧(∀ j,j < i→D[j]? = some true)∧Upd5 P H0 H∧P.m0≤w∧w≤w0) ?_ k0 st0 h0
 rintro k st ⟨i,H,C,M,D,S,Z,w,hi,rfl,h,hD,hU,hw,hw0⟩
 have hwl:=hP.wl
 unfold code116L0
 refine CodeD.live ?_
 refine CodeD.seq nofun (CodeD.run (e:=.normal) (st':=⟨[(3,.val (.ptr (some (P.K,0)))),(5,.val (.slice (some (P.fi,0)) P.W.length P.fc)),(16,.val (.slice (some (P.di,0)) P.W.length P.dc)),(152,.val (.int .i64 P.W.length)),(153,.val (.int .i64 i)),(154,.val (.bool (decide (i < P.W.length))))],⟨H,b,w⟩⟩) hT hm (fun k'=>by simp (disch:=omega) []) ?_)
 cases k with
 | zero =>
  have:¬ i < P.W.length:=by omega
  rw [decide_eq_false this]
  refine CodeD.seq nofun (CodeD.run (e:=.exit 6) (st':=⟨[(3,.val (.ptr (some (P.K,0))))],⟨H,b,w⟩⟩) hT hm (fun k'=>by simp (disch:=omega) []) ?_)
  exact ⟨rfl,H,C,M,D,S,Z,w,rfl,h,fun j hj=>hD j (by omega),hU,hw,hw0⟩
 | succ k =>
  have hil:i < P.W.length:=by omega
  rw [decide_eq_true hil]
  refine CodeD.seq nofun (CodeD.run (e:=.normal) (st':=⟨[(3,.val (.ptr (some (P.K,0)))),(5,.val (.slice (some (P.fi,0)) P.W.length P.fc)),(16,.val (.slice (some (P.di,0)) P.W.length P.dc)),(152,.val (.int .i64 P.W.length)),(153,.val (.int .i64 i))],⟨H,b,w⟩⟩) hT hm (fun k'=>by simp (disch:=omega) []) ?_)
  refine CodeD.seq nofun ?_
  refine CodeD.after (CodeD.block ?_)
  refine CodeD.seq nofun (CodeD.run (e:=.normal) (st':=⟨[(3,.val (.ptr (some (P.K,0)))),(5,.val (.slice (some (P.fi,0)) P.W.length P.fc)),(16,.val (.slice (some (P.di,0)) P.W.length P.dc)),(17,.val (.int .i64 i)),(152,.val (.int .i64 P.W.length)),(153,.val (.int .i64 i))],⟨H,b,w⟩⟩) hT hm (fun k'=>by simp (disch:=omega) []) ?_)
  refine CodeD.after (CodeD.region hT hm ?_)
  refine OpsD.run (l:=[v 156 3,v 157 17,v 158 5,v 159 16]) (r:=[o 160 (.callg 161 [t 156,t 157,t 158,t 159])])
   (s1:=[(159,.val (.slice (some (P.di,0)) P.W.length P.dc)),(158,.val (.slice (some (P.fi,0)) P.W.length P.fc)),(157,.val (.int .i64 i)),(156,.val (.ptr (some (P.K,0)))),(3,.val (.ptr (some (P.K,0)))),(5,.val (.slice (some (P.fi,0)) P.W.length P.fc)),(16,.val (.slice (some (P.di,0)) P.W.length P.dc)),(17,.val (.int .i64 i)),(152,.val (.int .i64 P.W.length)),(153,.val (.int .i64 i))]) (h1:=⟨H,b,w⟩) (fun k'=>by simp (disch:=omega) []) ?_
  refine OpsD.call (g:=161) (xs:=[t 156,t 157,t 158,t 159]) rfl rfl rfl (c161 hT hm hF hP (P.dep i+1) i (by omega) hil H C M D S Z noQ noQ w (fun _ h=>h.elim) h) fun vv hh hR=>OpsD.done ?_
  obtain ⟨rfl,H3,w3,C3,M3,D3,S3,Z3,rfl,L3,d1,d2,d3,d4,d5,d6⟩:=hR
  have hkeep:∀ vv:AVal,keepK [3,5,16,152,153] (setSlot (some 160) (.val vv) [(159,.val (.slice (some (P.di,0)) P.W.length P.dc)),(158,.val (.slice (some (P.fi,0)) P.W.length P.fc)),(157,.val (.int .i64 i)),(156,.val (.ptr (some (P.K,0)))),(3,.val (.ptr (some (P.K,0)))),(5,.val (.slice (some (P.fi,0)) P.W.length P.fc)),(16,.val (.slice (some (P.di,0)) P.W.length P.dc)),(17,.val (.int .i64 i)),(152,.val (.int .i64 P.W.length)),(153,.val (.int .i64 i))]) =
   [(3,.val (.ptr (some (P.K,0)))),(5,.val (.slice (some (P.fi,0)) P.W.length P.fc)),(16,.val (.slice (some (P.di,0)) P.W.length P.dc)),(152,.val (.int .i64 P.W.length)),(153,.val (.int .i64 i))]:=fun vv=>by simp
  simp only [blkE]
  rw [hkeep]
  have hk2:keepK [3,5,16,152,153] [(3,.val (.ptr (some (P.K,0)))),(5,.val (.slice (some (P.fi,0)) P.W.length P.fc)),(16,.val (.slice (some (P.di,0)) P.W.length P.dc)),(152,.val (.int .i64 P.W.length)),(153,.val (.int .i64 i))]=[(3,.val (.ptr (some (P.K,0)))),(5,.val (.slice (some (P.fi,0)) P.W.length P.fc)),(16,.val (.slice (some (P.di,0)) P.W.length P.dc)),(152,.val (.int .i64 P.W.length)),(153,.val (.int .i64 i))]:=by simp
  rw [hk2]
  have e2:((i+1:Nat):Int)=(i:Int)+1:=by omega
  refine CodeD.run (e:=.normal) (st':=⟨[(3,.val (.ptr (some (P.K,0)))),(5,.val (.slice (some (P.fi,0)) P.W.length P.fc)),(16,.val (.slice (some (P.di,0)) P.W.length P.dc)),(152,.val (.int .i64 P.W.length)),(153,.val (.int .i64 (i+1:Nat)))],⟨H3,b,w3⟩⟩) hT hm (fun k'=>by rw [e2]; simp (disch:=omega) []) ?_
  refine ⟨k,by omega,i+1,H3,C3,M3,D3,S3,Z3,w3,by omega,rfl,L3,fun j hj=>?_,hU.trans d3,by omega,by omega⟩
  by_cases e:j=i
  ·subst e; exact d1
  ·exact d2 j (hD j (by omega))
end
end
structure LayR (W:List UnitU) (n:Nat) (H:List AObj) (kk ci mi mz:Nat) (C:List LClsU) (cc:Option Nat) (M:List LMethU) (mc:Option Nat) (ra:Option (Nat × Nat)) (rc:Option Nat) (x4 x5 x7:AVal) (Z:List (Key × Int)):Prop where
 k:H[kk]? = some (.cells 8 [.slice (some (ci,0)) C.length cc,.slice (some (mi,0)) M.length mc,.int .i64 (psW W).n,.slice ra (psW W).R.length rc,x4,x5,.map (some mz),x7])
 cs:H[ci]? = some (.cells 5 (C.flatMap LClsU.cells))
 ms:H[mi]? = some (.cells 6 (M.flatMap LMethU.cells))
 zs:H[mz]? = some (zObj Z)
 rs:RV 1 intC n H (psW W).R ra rc
 cv:∀ c ∈ C,RV 1 intC n H c.refs c.ra c.rc∧RV 1 intC n H c.table c.ta c.tc
 le:n≤kk∧n≤ci∧n≤mi∧n≤mz
 cl:C.length=W.length
 ct:∀ i u,W[i]? = some u→∃ c,C[i]? = some c∧c.name=u.name∧c.super=supI (supW W i)∧c.cells'=(RW W i).cells∧c.refs=(RW W i).refs∧c.table=(RW W i).table
 ml:M.length=(psW W).M.length
 mt:∀ i u j m,W[i]? = some u→u.meths[j]? = some m→M[frW W i+j]? = ((psW W).M[frW W i+j]?).map fun y=>if m.st then y else slotM ((idxN (RW W i).names (m.name,m.desc)).getD 0) y
 zt:∀ i u n d,W[i]? = some u→getE Z (u.name,n,d)=getE (cellsZ u.name u.fields (baseW W i).cells (psW W).Z) (u.name,n,d)
def renCl (f:Nat→Nat) (c:LClsU):LClsU:={ c with ra:=renA f c.ra,ta:=renA f c.ta }
section
variable {f:Nat→Nat} {I:Nat→Prop} {n:Nat} {O O':List AObj}
theorem rvMove (h:Moves f I n O O') {L:List Int} {a:Option (Nat × Nat)} {c:Option Nat} (hr:RV 1 intC n O L a c) (ha:inI I a):RV 1 intC n O' L (renA f a) c:=by
 rcases hr with ⟨rfl,rfl,rfl⟩ | ⟨h1,p,h2,rfl,rfl,h5⟩
 ·exact .inl ⟨rfl,rfl,rfl⟩
 ·refine .inr ⟨h1,f p,h.up p h2,rfl,rfl,?_⟩
  rw [h.at' p _ (ha p 0 rfl) h5,ir]
  simp only [AObj.ren,renL_int]
theorem renL_meths' (g:Nat→Nat) (M:List LMethU):AVal.renL g (M.flatMap LMethU.cells)=M.flatMap LMethU.cells:=by
 induction M with
 | nil=>rfl
 | cons x M ih=>rw [bu,renL_app,ih]; rfl
theorem renL_clss (g:Nat→Nat) (C:List LClsU):AVal.renL g (C.flatMap LClsU.cells)=(C.map (renCl g)).flatMap LClsU.cells:=by
 induction C with
 | nil=>rfl
 | cons x C ih =>
  rw [bu,renL_app,ih,bo,bu]
  congr 1
  simp only [LClsU.cells,AVal.renL,Go.Abs.ren_sl,renCl,AVal.ren]
theorem LayR.move {W:List UnitU} {kk ci mi mz:Nat} {C:List LClsU} {cc:Option Nat} {M:List LMethU} {mc:Option Nat} {ra:Option (Nat × Nat)} {rc:Option Nat} {x4 x5 x7:AVal} {Z:List (Key × Int)} (h:LayR W n O kk ci mi mz C cc M mc ra rc x4 x5 x7 Z) (hM:Moves f I n O O') (hI:I kk) :
  LayR W n O' (f kk) (f ci) (f mi) (f mz) (C.map (renCl f)) cc M mc (renA f ra) rc (x4.ren f) (x5.ren f) (x7.ren f) Z:=by
 have hids:∀ j ∈ (AObj.cells 8 [.slice (some (ci,0)) C.length cc,.slice (some (mi,0)) M.length mc,.int .i64 (psW W).n,.slice ra (psW W).R.length rc,x4,x5,.map (some mz),x7]).ids,n≤j→I j:=hM.cl kk _ hI h.k
 obtain ⟨l1,l2,l3,l4⟩:=h.le
 have i1:I ci:=hids ci (by simp [AObj.ids,AVal.idsL,AVal.ids]) l2
 have i2:I mi:=hids mi (by simp [AObj.ids,AVal.idsL,AVal.ids]) l3
 have i3:I mz:=hids mz (by simp [AObj.ids,AVal.idsL,AVal.ids]) l4
 have i4:inI I ra:=fun p q e=>hids p (by rw [e]; simp [AObj.ids,AVal.idsL,AVal.ids]) (by
  subst e; exact (h.rs.lt rfl).1)
 have i5:∀ c ∈ C,inI I c.ra∧inI I c.ta:=fun c hc=>by
  have hcl:∀ j ∈ AVal.idsL c.cells,n≤j→I j:=fun j hj hn=>hM.cl ci _ i1 h.cs j (by
   show j ∈ AVal.idsL (C.flatMap LClsU.cells)
   rw [idsL_flat,dv] at hj ⊢
   obtain ⟨v,hv,hj⟩:=hj
   exact ⟨v,dv.2 ⟨c,hc,hv⟩,hj⟩) hn
  obtain ⟨v1,v2⟩:=h.cv c hc
  refine ⟨fun p q e=>hcl p ?_ (v1.lt e).1,fun p q e=>hcl p ?_ (v2.lt e).1⟩
  ·simp [LClsU.cells,AVal.idsL,AVal.ids,e]
  ·simp [LClsU.cells,AVal.idsL,AVal.ids,e]
 refine ⟨?_,?_,?_,?_,rvMove hM h.rs i4,fun c hc=>?_,⟨hM.up _ l1,hM.up _ l2,hM.up _ l3,hM.up _ l4⟩,by rw [ip]; exact h.cl,fun i u hu=>?_,h.ml,h.mt,h.zt⟩
 ·rw [hM.at' kk _ hI h.k,ip]
  simp only [AObj.ren,AVal.renL,Go.Abs.ren_sl,renA]
  simp only [AVal.ren,bi]
 ·rw [hM.at' ci _ i1 h.cs]; simp only [AObj.ren,renL_clss]
 ·rw [hM.at' mi _ i2 h.ms]; simp only [AObj.ren,renL_meths']
 ·rw [hM.at' mz _ i3 h.zs,mObj_ren (fun _=>rfl) (fun _=>rfl)]
 ·obtain ⟨d,hd,rfl⟩:=dw.1 hc
  obtain ⟨v1,v2⟩:=h.cv d hd
  exact ⟨rvMove hM v1 (i5 d hd).1,rvMove hM v2 (i5 d hd).2⟩
 ·obtain ⟨c,hc,h1⟩:=h.ct i u hu
  exact ⟨renCl f c,by rw [cq,hc]; rfl,h1⟩
end
end Go.Abs.AbsSlot

namespace Go.Abs.AbsSlot
open Go.Abs.AbsHier Go.Abs.AbsDesc
open Go.Abs.Short
theorem run_le:∀ (us:List UnitU) (i:Nat) (s:PS),(∀ u ∈ us,u.fields.length≤70∧u.meths.length≤40)→s.le i→(PS.run i us s).le (i+us.length)
 | [],i,s,_,h=>h
 | u :: us,i,s,hf,h=>by
  obtain ⟨h1,h2⟩:=hf u (a8 ..)
  have:=run_le us (i+1) (s.step i u) (fun v hv=>hf v (bh _ hv)) (h.le_step h1 h2)
  rw [PS.run,az,show i+(us.length+1)=i+1+us.length by omega]; exact this
theorem le0:ps0.le 0:=⟨ak _,Int.le_refl _,Int.le_refl _,ak _,rfl,ak _⟩
section
variable {W:List UnitU} {dep:Nat→Nat}
theorem psW_le (g:GW W dep):(psW W).le W.length:=by
 have:=run_le W 0 ps0 g.few le0
 rw [bt] at this
 exact this
theorem psW_F (W:List UnitU) {i:Nat} (hi:i < W.length):(psW W).F[i]? = some (frW W i):=by
 have:=run_F W 0 ps0 i hi
 rw [show ps0.F.length+i=i from bt i,show ps0.M.length+frW W i=frW W i from bt _] at this
 exact this
theorem psW_Mlen (W:List UnitU):(psW W).M.length=frW W W.length:=by
 have:=run_Mlen W 0 ps0
 rw [show ps0.M.length+frW W W.length=frW W W.length from bt _] at this
 exact this
theorem psW_A (W:List UnitU) (n:Str):getE (psW W).A n=(idxU W n).map Int.ofNat:=by
 have:=run_A W 0 ps0 n
 refine this.trans ?_
 show (idxU W n).map (fun j=>((0+j:Nat):Int))=_
 simp only [bt]
 rfl
theorem psW_U (W:List UnitU) (n:Str):getE (psW W).U n=(idxU W n).map fun j=>j*4:=by
 have:=run_U W 0 ps0 n
 refine this.trans ?_
 show (idxU W n).map (fun j=>(0+j)*4)=_
 simp only [bt]
theorem psW_M (W:List UnitU) {q j:Nat} {u:UnitU} {m:MethU} (h:W[q]? = some u) (hm:u.meths[j]? = some m):∃ z,(psW W).M[frW W q+j]? = some ⟨(q:Int),m.name,m.desc,m.st,-1,z⟩:=by
 obtain ⟨z,hz⟩:=run_M W 0 ps0 q j u m h hm
 rw [show ps0.M.length+frW W q+j=frW W q+j by show 0+_+_=_; omega,bt] at hz
 exact ⟨z,hz⟩
def parW (W:List UnitU) (dep:Nat→Nat) (n K ci mi si mt mz mu ui fi lt:Nat) (a:AD):Par :=
 ⟨K,ci,mi,si,si+1,mz,mu,ui,fi,lt,n,a.cc,a.mc,some W.length,some W.length,a.fc,(psW W).n,.slice a.ra (psW W).R.length a.rc,.map (some mt),W,(psW W).F,(psW W).M,(psW W).Z,(psW W).U,supW W,dep,RW W⟩
theorem parW_ok (g:GW W dep) {n K ci mi si mt mz mu ui fi lt b:Nat} {a:AD} (h1:K < lt∧ci < lt∧mi < lt∧si < lt∧si+1 < lt∧mz < lt∧mu < lt∧ui < lt∧fi < lt) (h2:n≤ci∧n≤mi∧n≤si∧n≤mz) (hb:b≤n) (h3:si≠fi∧si+1≠fi) (h4:mu≠mz):(parW W dep n K ci mi si mt mz mu ui fi lt a).ok b:=by
 have hl:=g.len
 have hle:=psW_le g
 have hF:∀ {i fr:Nat},(psW W).F[i]? = some fr→i < W.length→fr=frW W i:=fun {i fr} h hi=>by
  rw [psW_F W hi] at h; exact (b9 h).symm
 refine ⟨h1,⟨h2.1,h2.2.1,h2.2.2.1,by have:=h2.2.2.1; show n≤si+1; omega,h2.2.2.2⟩,hb,⟨by show si≠si+1; omega,h3.1,h3.2⟩,h4,fun i u hu=>?_,?_,by show W.length≤_; omega,fun i u fr hu hf=>?_,?_,fun i i' u u' fr fr' j j' hu hu' hf hf' hj hj' hne=>?_,fun i j h hi=>⟨supW_lt h,g.sup h⟩,fun i u fr hu hf=>?_,fun i=>?_,fun u hu=>?_⟩
 ·show getE (psW W).U u.name=_
  rw [psW_U,idxU_at g.nd hu]; rfl
 ·exact hle.f
 ·have hu:W[i]? = some u:=hu
  have hi:=aj hu
  have:=hF hf hi
  subst this
  show frW W i+_≤(psW W).M.length
  rw [psW_Mlen,← frW_succ hu]
  exact frW_mono hi
 ·show (psW W).M.length≤_
  have:=hle.m; omega
 ·have hu:W[i]? = some u:=hu
  have hu':W[i']? = some u':=hu'
  have e1:=hF hf (aj hu)
  have e2:=hF hf' (aj hu')
  subst e1; subst e2
  have s1:=frW_succ hu
  have s2:=frW_succ hu'
  rcases a9 i i' with h | h
  ·have:=frW_mono (W:=W) (show i+1≤i' from h); omega
  ·have:=frW_mono (W:=W) (show i'+1≤i by omega); omega
 ·have hu:W[i]? = some u:=hu
  have:=hF hf (aj hu)
  subst this
  have:=RW_eq g hu
  show RW W i=_
  rw [this]; rfl
 ·obtain ⟨b1,b2,b3,b4,b5⟩:=RN_bound g 101 i
  exact ⟨b1,by show (RN W 101 i).cells≤_; omega,by show (RN W 101 i).refs.length≤_; omega,by show (RN W 101 i).table.length≤_; omega,b5⟩
 ·obtain ⟨f1,f2⟩:=g.few u hu
  omega
theorem clsOf_init (W:List UnitU) {i:Nat} {u:UnitU} (hu:W[i]? = some u):clsOf (psW W).A u=⟨u.name,supI (supW W i),0,[],none,some 0,[],none,some 0⟩:=by
 unfold clsOf clsV
 rw [psW_A]
 have e:supW W i=idxU W u.super:=by unfold supW; rw [hu]; rfl
 rw [e]
 cases idxU W u.super <;> rfl
def firstO (H:List AObj) (K n:Nat) (kc:List AVal):List AObj:=(H.set K (.cells 8 kc)++[.cells 1 (List.replicate n (.map none))])++[.cells 1 (List.replicate n (.bool false))]
theorem LS.first {H0 H:List AObj} {n K mt mz mu ui ci mi fi:Nat} {a:AD} (h:TO H0 H K mt mz mu ui (W.map (clsOf (psW W).A)) (psW W) a) (hU:H0[ui]? = some (.cells 4 (W.flatMap UnitU.cells)))
  (hrows:∀ u ∈ W,Row H0 3 FieldU.cells u.fields u.fa∧Row H0 8 MethU.cells u.meths u.ma∧(∀ q,u.fa≠some (K,q))∧(∀ q,u.ma≠some (K,q))∧under H0.length u.fa∧under H0.length u.ma)
  (hci:a.ca=some (ci,0)) (hmi:a.ma=some (mi,0)) (hfi:a.fa=some (fi,0)) :
  LS (parW W dep n K ci mi H.length mt mz mu ui fi (H.length+2) a) (firstO H K W.length (parW W dep n K ci mi H.length mt mz mu ui fi (H.length+2) a).kc) (W.map (clsOf (psW W).A)) (psW W).M (List.replicate W.length false) (List.replicate W.length none) (psW W).Z noQ noQ:=by
 obtain ⟨l1,l2,l3,l4⟩:=h.lts
 obtain ⟨k1,k2,k3⟩:=h.nek
 have hln:=h.len
 generalize hkc:(parW W dep n K ci mi H.length mt mz mu ui fi (H.length+2) a).kc=kc
 have gl:(firstO H K W.length kc).length=H.length+2:=by simp [firstO]
 have g0:∀ i o,H[i]? = some o→i≠K→(firstO H K W.length kc)[i]? = some o:=fun i o hg hne=>by
  have:=aj hg
  unfold firstO
  rw [ah (by simp; omega),ah (by rw [br]; exact this),ai (Ne.symm hne)]; exact hg
 have gK:(firstO H K W.length kc)[K]? = some (.cells 8 kc):=by
  unfold firstO
  rw [ah (by simp; omega),ah (by simp; omega),bv (by omega)]
 have g1:(firstO H K W.length kc)[H.length]? = some (.cells 1 (List.replicate W.length (.map none))):=by
  unfold firstO
  rw [ah (by simp),aq (by simp)]; simp
 have g2:(firstO H K W.length kc)[H.length+1]? = some (.cells 1 (List.replicate W.length (.bool false))):=by
  unfold firstO
  rw [aq (by simp)]; simp
 have c5:H[ci]? = some (.cells 5 ((W.map (clsOf (psW W).A)).flatMap LClsU.cells)):=by
  rcases h.cs with ⟨_,e,_⟩ | ⟨_,p,_,e,_,e2⟩
  ·rw [e] at hci; cases hci
  ·rw [e] at hci; cases hci; exact e2
 have c6:H[mi]? = some (.cells 6 ((psW W).M.flatMap LMethU.cells)):=by
  rcases h.ms with ⟨_,e,_⟩ | ⟨_,p,_,e,_,e2⟩
  ·rw [e] at hmi; cases hmi
  ·rw [e] at hmi; cases hmi; exact e2
 have c1:H[fi]? = some (.cells 1 ((psW W).F.map natV)):=by
  rcases h.fs with ⟨_,e,_⟩ | ⟨_,p,_,e,_,e2⟩
  ·rw [e] at hfi; cases hfi
  ·rw [e] at hfi; cases hfi; rw [natC_flat] at e2; exact e2
 have hciK:=(h.cs.lt hci).1
 have hmiK:=(h.ms.lt hmi).1
 have hfiK:=(h.fs.lt hfi).1
 have hui:ui≠K:=fun e=>by
  obtain ⟨_,h1⟩:=h.k0
  rw [e,h1] at hU; cases hU
 have hget:∀ (i:Nat) (x:Bool),((List.replicate W.length false)[i]? = some x)→x=false:=fun i x hx=>by
  rw [List.getElem?_replicate] at hx
  split at hx
  ·exact (b9 hx).symm
  ·cases hx
 have row:∀ {α:Type} {e:Nat} {f:α→List AVal} {L:List α} {x:Option (Nat × Nat)},Row H0 e f L x→(∀ q,x≠some (K,q))→Row (firstO H K W.length kc) e f L x:=fun {α e f L x} hr hK =>
  ⟨fun hne=>by
   obtain ⟨p,o,cs,q1,q2,q3⟩:=(h.row hr hK).at' hne
   exact ⟨p,o,cs,q1,g0 _ _ q2 (fun e=>hK o (by rw [q1,e])),q3⟩⟩
 refine ⟨by rw [hkc]; exact gK,g0 ci _ c5 (by omega),g0 mi _ c6 (by omega),?_,?_,g0 mz _ h.zs k2.symm,g0 fi _ c1 (by omega),g0 ui _ (h.get hU hui) hui,g0 mu _ h.us k3.symm,fun u hu=>?_,by show (W.map _).length=W.length; simp,rfl,by show (List.replicate W.length false).length=W.length; simp,by show (List.replicate W.length (none:Option Nat)).length=W.length; simp,by rw [gl]; exact ak _,fun i hi=>hi.elim,fun i hi _=>?_,fun i u hu _=>?_,fun i u fr j m hu hf hm=>?_,fun i u nn d hu=>?_⟩
 ·show (firstO H K W.length kc)[H.length]? = _
  rw [g1,List.map_replicate]
 ·show (firstO H K W.length kc)[H.length+1]? = _
  rw [g2,List.map_replicate]
 ·obtain ⟨r1,r2,r3,r4,r5,r6⟩:=hrows u hu
  refine ⟨row r1 r3,fun p q e=>?_,row r2 r4,fun p q e=>?_⟩
  ·have:=r5 p q e; show p < H.length+2; omega
  ·have:=r6 p q e; show p < H.length+2; omega
 ·exact absurd (hget i _ hi) (by simp)
 ·have hu:W[i]? = some u:=hu
  rw [cq,hu]
  simp only [bi,clsOf_init W hu]; rfl
 ·rw [if_neg fun q=>absurd (hget i _ q.1) (by simp)]; rfl
 ·rw [if_neg fun q=>absurd (hget i _ q.1) (by simp)]; rfl
end
end Go.Abs.AbsSlot

namespace Go.Abs.AbsSlot
open Go.Abs.AbsHier Go.Abs.AbsDesc
open Go.Abs.Short
theorem lyO_get (O:List AObj) (k:Nat):(lyO O)[O.length+k]? = [mt0,zObj [],mu0 0,.cells 8 (kT O.length (O.length+1) (O.length+2) [] ps0 ad0)][k]?:=by
 unfold lyO
 rw [aq (by omega),Nat.add_sub_cancel_left]
theorem built_mem {m:Nat} {u:UnitU} (h:u ∈ builtV' m):(u.fields=[]∧u.fa=none)∧((u.meths=[]∧u.ma=none)∨(u.meths=natL.map natM∧u.ma=some (m,0))):=by
 simp only [builtV',built3V,faultsL,bo,gq,db,c9,cr,kh,or_false] at h
 rcases h with rfl | rfl | rfl | rfl | rfl | rfl | rfl | rfl | rfl
 ·exact ⟨⟨rfl,rfl⟩,.inl ⟨rfl,rfl⟩⟩
 ·exact ⟨⟨rfl,rfl⟩,.inl ⟨rfl,rfl⟩⟩
 ·exact ⟨⟨rfl,rfl⟩,.inr ⟨rfl,rfl⟩⟩
 all_goals exact ⟨⟨rfl,rfl⟩,.inl ⟨rfl,rfl⟩⟩
theorem row_nil {O:List AObj} {α:Type} {e:Nat} {f:α→List AVal} {L:List α} {a:Option (Nat × Nat)} (h:L=[]):Row O e f L a:=⟨fun hne=>absurd h hne⟩
theorem rowsW {O H:List AObj} {L:List UnitU} (hok:∀ u ∈ L,u.ok O) (hH:∀ (i:Nat) (o:AObj),O[i]? = some o→H[i]? = some o) (hN:H[O.length+5]? = some natO) (hl:O.length+6≤H.length) :
  ∀ u ∈ allW O.length L,Row H 3 FieldU.cells u.fields u.fa∧Row H 8 MethU.cells u.meths u.ma∧(∀ q,u.fa≠some (O.length+3,q))∧(∀ q,u.ma≠some (O.length+3,q))∧under H.length u.fa∧under H.length u.ma:=by
 intro u hu
 rcases bg.1 hu with hu | hu
 ·obtain ⟨⟨h1,h2⟩,h3⟩:=built_mem hu
  rcases h3 with ⟨h3,h4⟩ | ⟨h3,h4⟩
  ·exact ⟨row_nil h1,row_nil h3,fun q e=>by rw [h2] at e; (cases e),fun q e=>by rw [h4] at e; (cases e),fun p q e=>by rw [h2] at e; (cases e),fun p q e=>by rw [h4] at e; (cases e)⟩
  ·refine ⟨row_nil h1,?_,fun q e=>by rw [h2] at e; (cases e),fun q e=>by rw [h4] at e; injection e with e; injection e with e; omega,fun p q e=>by rw [h2] at e; (cases e),fun p q e=>by rw [h4] at e; cases e; omega⟩
   rw [h3,h4]
   exact RV.row (lo:=0) (c:=none) (.inr ⟨by simp [natL],_,gj _,rfl,rfl,hN⟩) meth_len8
 ·have ho:=hok u hu
  have row:∀ {α:Type} {e:Nat} {f:α→List AVal} {L:List α} {x:Option (Nat × Nat)},Row O e f L x→Row H e f L x:=fun {α e f L x} hr=>⟨fun hne=>by
   obtain ⟨p,o,cs,h1,h2,h3⟩:=hr.at' hne
   exact ⟨p,o,cs,h1,hH _ _ h2,h3⟩⟩
  exact ⟨row ho.f,row ho.m,fun q e=>by have:=ho.fu _ _ e; omega,fun q e=>by have:=ho.mu _ _ e; omega,fun p q e=>by have:=ho.fu _ _ e; omega,fun p q e=>by have:=ho.mu _ _ e; omega⟩
def Post116 (O:List AObj) (b:Nat) (L:List UnitU) (w:Nat) (v:AVal) (h':Heap):Prop :=
 ∃ (kk ci mi mz:Nat) (C:List LClsU) (cc:Option Nat) (M:List LMethU) (mc:Option Nat) (ra:Option (Nat × Nat)) (rc:Option Nat) (x4 x5 x7:AVal) (Z:List (Key × Int)),v = .ptr (some (kk,0))∧h'.base=b∧Pre O h'.objs∧min w O.length≤h'.wmin∧LayR (allW O.length L) O.length h'.objs kk ci mi mz C cc M mc ra rc x4 x5 x7 Z
section
variable {E:Env} {O:List AObj} {b:Nat} {dep:Nat→Nat}
section
attribute [-simp] getElem?_pos getElem?_neg List.all_eq_true
attribute [local simp] gz gs nltT nltF iltT iltF ileT nleT dh
theorem c116 (hT:Agrees E T) (hm:E.P.follows .mixedOrders=true) (hF:IsCode E 116 code116) (hF1:IsCode E 161 code161) {L:List UnitU} {aa:Option (Nat × Nat)} {cc:Option Nat} (hR:Row O 4 UnitU.cells L aa) (hok:∀ u ∈ L,u.ok O) (g:GW (allW O.length L) dep) (hb:b≤O.length) (w:Nat) :
  CallD E 116 [.slice aa L.length cc] ⟨O,b,w⟩ (Post116 O b L w):=by
 have hWl:(allW O.length L).length=9+L.length:=by unfold allW; rw [bc]; rfl
 have hgl:=g.len
 refine CallD.of_code hF rfl ?_
 rw [body116]
 have hen:enter 0 [AVal.slice aa L.length cc]=[(0,.val (.slice aa L.length cc))]:=rfl
 rw [hen]
 have hsz:(⟨O,b,w⟩:Heap).size=O.length:=rfl
 simp only [hsz]
 refine CodeD.seq nofun (CodeD.run hT hm (fun k'=>r116_0 k') ?_)
 refine CodeD.seq nofun (CodeD.run hT hm (fun k'=>r116_1 k') ?_)
 obtain ⟨H,ui,c4,w2,hU,p1,p2,p3,p4,p5,p6,hr2⟩:=r116_2 (x3:=.ptr (some (O.length+3,0))) (cc:=cc) hR (by omega) hb (ak O.length)
 refine CodeD.seq nofun (CodeD.run hT hm (fun k'=>hr2 k') ?_)
 refine CodeD.seq nofun (CodeD.run hT hm (fun k'=>r116_3 k') ?_)
 refine CodeD.seq nofun (CodeD.run hT hm (fun k'=>r116_4 k') ?_)
 simp only []
 have g3:H[O.length+3]? = some (.cells 8 (kT O.length (O.length+1) (O.length+2) [] ps0 ad0)):=p2 _ _ (by rw [lyO_get]; rfl)
 have g0:H[O.length]? = some mt0:=p2 _ _ (by have:=lyO_get O 0; rw [ef] at this; rw [this]; rfl)
 have g1:H[O.length+1]? = some (zObj []):=p2 _ _ (by rw [lyO_get]; rfl)
 have g2:H[O.length+2]? = some (mu0 ui):=p2 _ _ (by rw [lyO_get]; rfl)
 have hOH:∀ (i:Nat) (o:AObj),O[i]? = some o→H[i]? = some o:=fun i o hg=>p2 i o (by
  unfold lyO
  rw [ah (aj hg)]; exact hg)
 have hT0:TO H H (O.length+3) O.length (O.length+1) (O.length+2) ui [] ps0 ad0:=⟨fun _ _ hg _ _ _ _=>hg,ak _,⟨_,g3⟩,⟨_,_,g0⟩,⟨_,_,g1⟩,⟨_,_,g2⟩,⟨by omega,by omega,by omega⟩,g3,g0,g1,g2,RV.nil,RV.nil,RV.nil,RV.nil,fun p q q' e=>by cases e⟩
 have hrw:=rowsW (L:=L) hok hOH p3 p4
 generalize hW:allW O.length L=W at *
 obtain ⟨H3,a3,w3,t1,t2,t3,t4,t5,t6⟩:=l116 (b:=b) (m:=O.length) (C:=[]) (c4:=c4) hU (fun u hu=>by obtain ⟨r1,r2,r3,r4,_⟩:=hrw u hu; exact ⟨r1,r2,r3,r4⟩) g.few g.len g.nd ⟨by omega,by omega,by omega,by omega,by omega⟩ ⟨by omega,by omega,by omega,by omega,by omega⟩ W.length 0 w2 H ps0 ad0 (by omega) le0 (fun x hx=>by cases hx) (fun x hx=>by cases hx) hT0 p5
 rw [d8] at t1 t2 t6
 have ew:PS.run 0 W ps0=psW W:=rfl
 rw [ew] at t1 t2 t6
 refine CodeD.seq nofun (CodeD.run hT hm (fun k'=>r116_5 k' (y5:=.slice a3.fa (psW W).F.length a3.fc) t6) ?_)
 obtain ⟨H4,ca,cc4,w4,u1,u2,u3,u4⟩:=l116c (b:=b) (m:=O.length) (c4:=c4) (x5:=.slice a3.fa (psW W).F.length a3.fc) hU g.len (fun u hu=>by obtain ⟨_,_,_,_,r5,r6⟩:=hrw u hu; exact ⟨r5,r6⟩) ⟨by omega,by omega⟩ ⟨by omega,by omega⟩ W.length 0 w3 H3 [] a3 (by omega) rfl (fun c hc=>by cases hc) t1 t4
 rw [d8,c9] at u1
 refine CodeD.seq nofun (CodeD.run hT hm (fun k'=>r116_6 k' u4) ?_)
 generalize ha4:({ a3 with ca:=ca,cc:=cc4 }:AD)=a4 at u1
 have hfa:a4.fa=a3.fa∧a4.fc=a3.fc:=by rw [← ha4]; exact ⟨rfl,rfl⟩
 rw [← hfa.1,← hfa.2]
 have hCl:(W.map (clsOf (psW W).A)).length=W.length:=by simp
 obtain ⟨ci,hci⟩:∃ ci,a4.ca=some (ci,0):=by
  rcases u1.cs with ⟨e,_⟩ | ⟨_,p,_,e,_⟩
  ·exact absurd (List.map_eq_nil_iff.1 e) g.pos
  ·exact ⟨p,e⟩
 obtain ⟨mi,hmi⟩:∃ mi,a4.ma=some (mi,0):=by
  rcases u1.ms with ⟨e,_⟩ | ⟨_,p,_,e,_⟩
  ·have:=psW_Mlen W
   rw [e] at this
   have:=g.mpos
   simp at *
   omega
  ·exact ⟨p,e⟩
 obtain ⟨fi,hfi⟩:∃ fi,a4.fa=some (fi,0):=by
  rcases u1.fs with ⟨e,_⟩ | ⟨_,p,_,e,_⟩
  ·have:=t2.f
   rw [e] at this
   exact absurd (List.length_eq_zero_iff.1 this.symm) g.pos
  ·exact ⟨p,e⟩
 have k4:=u1.k
 unfold kT at k4
 rw [hCl] at k4
 refine CodeD.seq nofun (CodeD.run hT hm (fun k'=>r116_7 (n:=W.length) k' k4 (by omega) (by omega)) ?_)
 refine CodeD.seq nofun (CodeD.run hT hm (fun k'=>r116_8 (n:=W.length) k' (by omega)) ?_)
 obtain ⟨lK,lt,lz,lu⟩:=u1.lts
 have h4l:=u1.len
 have hul:=aj hU
 have hc4:=u1.cs.lt hci
 have hm4:=u1.ms.lt hmi
 have hf4:=u1.fs.lt hfi
 have hPok:=parW_ok (W:=W) (dep:=dep) (n:=O.length) (K:=O.length+3) (ci:=ci) (mi:=mi) (si:=H4.length) (mt:=O.length) (mz:=O.length+1) (mu:=O.length+2) (ui:=ui) (fi:=fi) (lt:=H4.length+2) (b:=b) (a:=a4) g ⟨by omega,by omega,by omega,by omega,by omega,by omega,by omega,by omega,by omega⟩ ⟨by omega,by omega,by omega,by omega⟩ hb ⟨by omega,by omega⟩ (by omega)
 have hLS:=LS.first (dep:=dep) (n:=O.length) u1 hU hrw hci hmi hfi
 have hsl:(H4.set (O.length+3) (.cells 8 [.slice a4.ca W.length a4.cc,.slice a4.ma (psW W).M.length a4.mc,.int .i64 (psW W).n,.slice a4.ra (psW W).R.length a4.rc,.map (some O.length),.slice (some (H4.length,0)) W.length (some W.length),.map (some (O.length+1)),.map (some (O.length+2))])++[AObj.cells 1 (List.replicate W.length (.map none))]).length=H4.length+1:=by simp
 rw [hsl]
 have hGe:(H4.set (O.length+3) (.cells 8 [.slice a4.ca W.length a4.cc,.slice a4.ma (psW W).M.length a4.mc,.int .i64 (psW W).n,.slice a4.ra (psW W).R.length a4.rc,.map (some O.length),.slice (some (H4.length,0)) W.length (some W.length),.map (some (O.length+1)),.map (some (O.length+2))])++[AObj.cells 1 (List.replicate W.length (.map none))])++[AObj.cells 1 (List.replicate W.length (.bool false))]=firstO H4 (O.length+3) W.length (parW W dep O.length (O.length+3) ci mi H4.length O.length (O.length+1) (O.length+2) ui fi (H4.length+2) a4).kc:=by
  rw [hci,hmi]; rfl
 rw [hGe]
 have hFO:∀ (i:Nat) (o:AObj),H4[i]? = some o→i≠O.length+3→(firstO H4 (O.length+3) W.length (parW W dep O.length (O.length+3) ci mi H4.length O.length (O.length+1) (O.length+2) ui fi (H4.length+2) a4).kc)[i]? = some o:=fun i o hg hne=>by
  have:=aj hg
  unfold firstO
  rw [ah (by simp; omega),ah (by rw [br]; exact this),ai (Ne.symm hne)]; exact hg
 generalize hP:parW W dep O.length (O.length+3) ci mi H4.length O.length (O.length+1) (O.length+2) ui fi (H4.length+2) a4=P at hPok hLS hFO
 generalize hFe:firstO H4 (O.length+3) W.length P.kc=FO at hLS hFO
 have eK:P.K=O.length+3:=by rw [← hP]; rfl
 have eW:P.W=W:=by rw [← hP]; rfl
 have efi:P.fi=fi:=by rw [← hP]; rfl
 have efc:P.fc=a4.fc:=by rw [← hP]; rfl
 have edi:P.di=H4.length+1:=by rw [← hP]; rfl
 have edc:P.dc=some W.length:=by rw [← hP]; rfl
 have em0:P.m0=O.length:=by rw [← hP]; rfl
 have eF:(psW W).F.length=W.length:=t2.f
 refine CodeD.seq nofun (?_:CodeD E q116_9 _ _)
 unfold q116_9
 refine CodeD.seq nofun (CodeD.run (e:=.normal) (st':=⟨[(3,.val (.ptr (some (P.K,0)))),(5,.val (.slice (some (P.fi,0)) P.W.length P.fc)),(16,.val (.slice (some (P.di,0)) P.W.length P.dc)),(152,.val (.int .i64 P.W.length)),(153,.val (.int .i64 (0:Nat)))],⟨FO,b,min w4 (O.length+3)⟩⟩) hT hm (fun k'=>by rw [eK,eW,efi,efc,edi,edc,hfi,eF]; simp only [bf]; simp (disch:=omega) []) ?_)
 refine CodeD.after (CodeD.block ?_)
 refine (l116D hT hm hF1 hPok (H0:=FO) (w0:=min w4 (O.length+3)) P.W.length _ rfl ⟨0,FO,_,_,_,_,_,_,by omega,rfl,hLS,fun j hj=>by omega,Upd5.refl P FO,by rw [em0]; omega,ak _⟩).mono fun e st hq _=>?_
 obtain ⟨rfl,H5,C5,M5,D5,S5,Z5,w5,rfl,L5,d1,d2,d3,d4⟩:=hq
 simp only [blkE_e,if_true]
 have hk3:keepK [3] [(3,Slot.val (.ptr (some (P.K,0))))]=[(3,.val (.ptr (some (P.K,0))))]:=by simp
 rw [hk3]
 unfold q116_10 q116_11
 refine CodeD.seq nofun (CodeD.run (e:=.normal) (st':=⟨[(2,.val (.ptr (some (P.K,0))))],⟨H5,b,w5⟩⟩) hT hm (fun k'=>by simp (disch:=omega) []) ?_)
 refine CodeD.run (e:=.ret) (st':=⟨[(2,.val (.ptr (some (P.K,0))))],⟨H5,b,w5⟩⟩) hT hm (fun k'=>by simp (disch:=omega) []) ?_
 have hfe:funcEnd code116 ⟨O,b,w⟩ (.ret,⟨[(2,.val (.ptr (some (P.K,0))))],⟨H5,b,w5⟩⟩)=some (finish ⟨O,b,w⟩ (.ptr (some (P.K,0))) ⟨H5,b,w5⟩):=by
  simp [funcEnd,code116,resultsL,tupled,-finish]
 cases hfq:finish ⟨O,b,w⟩ (.ptr (some (P.K,0))) ⟨H5,b,w5⟩ with | mk v1 hh1 =>
 rw [hfq] at hfe
 refine ⟨v1,hh1,hfe,?_⟩
 obtain ⟨y1,y2,y3,y4,y5,y6,y7,y8,y9⟩:=hPok.lts
 obtain ⟨z1,z2,z3,z4,z5⟩:=hPok.ms
 rw [em0] at z1 z2 z3 z4 z5 d3
 have hl5:=L5.len
 have hpre:Pre O H5:=fun i o hg=>by
  have hil:=aj hg
  exact d2 i o (hFO i o (u1.up i o (hOH i o hg) (by omega) (by omega) (by omega) (by omega)) (by omega)) (by omega) (by omega) (by omega) (by omega) (by omega)
 have hDt:∀ i,i < W.length→D5[i]? = some true:=fun i hi=>d1 i (by rw [eW]; exact hi)
 have eci:P.ci=ci:=by rw [← hP]; rfl
 have emi:P.mi=mi:=by rw [← hP]; rfl
 have esi:P.si=H4.length:=by rw [← hP]; rfl
 have emz:P.mz=O.length+1:=by rw [← hP]; rfl
 have hrs:RV 1 intC O.length H5 (psW W).R a4.ra a4.rc:=(u1.rs.le (by omega)).keep fun p q o hp hg=>by
  obtain ⟨cs,hpc⟩:=u1.rs.cell hp
  have hpl:=u1.rs.lt hp
  refine d2 p o (hFO p o hg (by omega)) ?_ ?_ (by rw [esi]; omega) (by rw [edi]; omega) (by rw [emz]; omega)
  ·rw [eci]; intro e
   obtain ⟨cs',hc'⟩:=u1.cs.cell hci
   rw [e,hc'] at hpc; cases hpc
  ·rw [emi]; intro e
   obtain ⟨cs',hc'⟩:=u1.ms.cell hmi
   rw [e,hc'] at hpc; cases hpc
 have hfin:∀ i,i < W.length→Fin P H5 C5 S5 noQ i:=fun i hi=>L5.fin i (hDt i hi) (fun h=>h)
 have hLay:LayR W O.length H5 P.K P.ci P.mi P.mz C5 P.cc M5 P.mc a4.ra a4.rc P.mt (.slice (some (P.si,0)) P.W.length P.sc) (.map (some P.mu)) Z5:=by
  have hk5:=L5.k
  have est:P.stat=(psW W).n:=by rw [← hP]; rfl
  have esr:P.sr = .slice a4.ra (psW W).R.length a4.rc:=by rw [← hP]; rfl
  have eM0:P.M0=(psW W).M:=by rw [← hP]; rfl
  have eZ0:P.Z0=(psW W).Z:=by rw [← hP]; rfl
  have eRR:P.R=RW W:=by rw [← hP]; rfl
  have esp:P.sup=supW W:=by rw [← hP]; rfl
  have eFF:P.F=(psW W).F:=by rw [← hP]; rfl
  have ebs:∀ i,P.base i=baseW W i:=fun i=>by unfold Par.base baseW; rw [esp,eRR]; cases supW W i <;> rfl
  have hcl:=L5.cl
  rw [eW] at hcl
  have hml:=L5.ml
  refine ⟨?_,L5.cs,L5.ms,L5.zs,hrs,fun c hc=>?_,⟨by omega,z1,z2,z5⟩,hcl,fun i u hu=>?_,by rw [hml,eM0],fun i u j m hu hm=>?_,fun i u n d hu=>?_⟩
  ·rw [hk5,hcl,hml]
   unfold Par.kc
   rw [est,esr,eW]
  ·obtain ⟨i,hi⟩:=dt hc
   have hil:=aj hi
   rw [hcl] at hil
   obtain ⟨_,c',_,_,_,f1,_,f2,f3,_⟩:=hfin i hil
   rw [hi] at f1; cases f1
   exact ⟨f2.le (by omega),f3.le (by omega)⟩
  ·obtain ⟨u',c',_,_,f0,f1,f2,_⟩:=hfin i (aj hu)
   rw [eW,hu] at f0; cases f0
   rw [eRR,esp] at f2
   exact ⟨c',f1,f2⟩
  ·have:=L5.mst i u (frW W i) j m (by rw [eW]; exact hu) (by rw [eFF]; exact psW_F W (aj hu)) hm
   rw [if_pos ⟨hDt i (aj hu),fun h=>h⟩,eM0] at this
   rw [this]
   unfold Par.slot
   rw [eRR]
  ·have:=L5.zst i u n d (by rw [eW]; exact hu)
   rw [if_pos ⟨hDt i (aj hu),fun h=>h⟩,ebs,eZ0] at this
   exact this
 have hun:(AVal.ptr (some (P.K,0))).under (⟨O,b,w⟩:Heap).size=false:=by
  have:¬ P.K < O.length:=by rw [eK]; omega
  simp [AVal.under,Heap.size,this]
 rcases finish_cases (h:=⟨H5,b,w5⟩) hun with ⟨wx,h1,h2⟩ | ⟨h1,f,I,X,h2,h3,h4⟩
 ·rw [hfq] at h1
  cases h1
  refine ⟨P.K,_,_,_,_,_,_,_,_,_,_,_,_,_,rfl,rfl,hpre,?_,by rw [hW]; exact hLay⟩
  rcases h2 with h2 | ⟨h2,_⟩
  ·show min w O.length≤wx
   have h2:wx=min w w5:=h2
   omega
  ·show min w O.length≤wx
   have h2:wx=w:=h2
   omega
 ·rw [hfq] at h2
  cases h2
  have:=hLay.move h3 (h4 P.K (by simp [AVal.ids]) (by show O.length≤P.K; omega))
  exact ⟨f P.K,_,_,_,_,_,_,_,_,_,_,_,_,_,rfl,rfl,Pre.app _ _,iq _ _,by rw [hW]; exact this⟩
end
end
end Go.Abs.AbsSlot

namespace Go.Abs.AbsHier
open Go.Abs.AbsDesc
variable {os O H:List AObj} {b w:Nat}
def namesU:List UnitU→List UnitU→Bool
 | _,[]=>true
 | A,u :: r=>A.all (fun v=>!decide (u.name=v.name)) && namesU (A++[u]) r
def allU (m:Nat) (l:List UnitU):List UnitU:=builtU m++l
def worldU (m:Nat) (l:List UnitU):Bool:=decide (l.length≤32) && (namesU [] (allU m l) && l.all (unitU (allU m l)))
end Go.Abs.AbsHier

namespace Go.Abs.AbsHier
open Go.Abs.AbsDesc
variable {os O H:List AObj} {b w:Nat}
end Go.Abs.AbsHier

namespace Go.Abs.AbsHier
open Go.Abs.AbsDesc
theorem findU_none {W:List UnitU} {n:Str}:findU W n=none ↔ ∀ u ∈ W,u.name≠n:=by
 unfold findU; rw [List.find?_eq_none]; simp
theorem findU_cons (u:UnitU) (W:List UnitU) (n:Str):findU (u :: W) n=if u.name=n then some u else findU W n:=by
 unfold findU; rw [List.find?_cons]
 by_cases h:u.name=n <;> simp [h]
theorem getE_sup:∀ (W:List UnitU) (n:Str),getE (W.map supE) n=(findU W n).map UnitU.super
 | [],n=>rfl
 | u :: W,n=>by
  rw [findU_cons]
  simp only [bo,getE,supE]
  by_cases h:u.name=n
  ·simp [h]
  ·simp only [h,if_false]; exact getE_sup W n
theorem thereS_eq (W:List UnitU) (t:Str):thereS (W.map supE) t=thereU W t:=by
 unfold thereS thereU
 cases classOf (bare t) with
 | none=>rfl
 | some c=>simp [getE_sup]
theorem trapOk_eq (W:List UnitU) (t:TrapU):trapOk (W.map supE) t=trapU W t:=by
 unfold trapOk trapU; simp [getE_sup]
theorem lineS_eq (W:List UnitU):∀ (k:Nat) (c:Str),lineS (W.map supE) k c=(lineU W k c).map UnitU.name
 | 0,c=>rfl
 | k+1,c=>by
  unfold lineU
  simp only [lineS,getE_sup]
  cases h:findU W c with
  | none=>rfl
  | some v =>
   have:=(findU_mem h).2
   simp only [bi,goL,bo,this]
   rw [lineS_eq W k v.super]; rfl
theorem goL_succ (W:List UnitU):∀ (k:Nat) (u:Option UnitU),(goL W (k+1) u).length≤k→goL W (k+1) u=goL W k u
 | 0,none,_=>rfl
 | 0,some v,h=>by simp [goL] at h
 | k+1,none,_=>rfl
 | k+1,some v,h=>by
  simp only [goL,az] at h ⊢
  rw [goL_succ W k (findU W v.super) (by omega)]
theorem lineU_succ {W:List UnitU} {k:Nat} {c:Str} (h:(lineU W (k+1) c).length≤k):lineU W (k+1) c=lineU W k c:=goL_succ W k _ h
theorem lineU_cons {W:List UnitU} {k:Nat} {c:Str} {v:UnitU} (h:findU W c=some v):lineU W (k+1) c=v :: lineU W k v.super:=by
 unfold lineU; rw [h]; rfl
theorem lineU_none {W:List UnitU} {k:Nat} {c:Str} (h:findU W c=none):lineU W k c=[]:=by
 unfold lineU; rw [h]; cases k <;> rfl
theorem goL_last (W:List UnitU):∀ (k:Nat) (u:Option UnitU) (v:UnitU),(goL W (k+1) u).length=k+1→(goL W k u).getLast? = some v→(findU W v.super).isSome=true
 | 0,u,v,_,h=>by simp [goL] at h
 | k+1,none,v,h,_=>by simp [goL] at h
 | 1,some x,v,h,h2=>by
  simp only [goL,List.getLast?_singleton,Option.some.injEq] at h2
  subst h2
  cases hf:findU W x.super with
  | none=>simp [goL,hf] at h
  | some _=>rfl
 | k+2,some x,v,h,h2=>by
  have h3:(goL W (k+2) (findU W x.super)).length=k+2:=by simp only [goL,az] at h ⊢; omega
  refine goL_last W (k+1) (findU W x.super) v h3 ?_
  cases hf:findU W x.super with
  | none=>rw [hf] at h3; simp [goL] at h3
  | some y =>
   simp only [goL,hf] at h2 ⊢
   rwa [List.getLast?_cons_cons] at h2
def rightU (W:List UnitU) (m:MethU):Bool:=match methL m.desc with
 | some (A,r)=>isName m.name && (thereU W r && (A.all (thereU W) && m.traps.all (trapU W)))
 | none=>false
theorem rightS_eq (W:List UnitU) (m:MethU):rightS (W.map supE) m=rightU W m:=by
 unfold rightS rightU
 cases methL m.desc with
 | none=>rfl
 | some q =>
  obtain ⟨A,r⟩:=q
  simp only [List.all_append,eo,List.all_nil,Bool.and_true]
  have h1:A.all (thereS (W.map supE))=A.all (thereU W):=by congr 1; funext t; exact thereS_eq W t
  have h2:m.traps.all (trapOk (W.map supE))=m.traps.all (trapU W):=by congr 1; funext t; exact trapOk_eq W t
  rw [h1,h2,thereS_eq]
  cases isName m.name <;> cases thereU W r <;> cases A.all (thereU W) <;> cases m.traps.all (trapU W) <;> rfl
theorem methodU_eq (W:List UnitU) (u:UnitU) (m:MethU):methodU W u m=(rightU W m && (lineU W (W.length+1) u.name).all (evenM m)):=by
 unfold methodU rightU
 cases methL m.desc with
 | none=>rfl
 | some q =>
  obtain ⟨A,r⟩:=q
  simp only [Bool.and_assoc]
def fieldsD:List FieldU→List FieldU→Bool
 | _,[]=>true
 | A,f :: r=>A.all (fun g=>!decide (f.name=g.name)) && fieldsD (A++[f]) r
def methsD:List MethU→List MethU→Bool
 | _,[]=>true
 | A,m :: r=>A.all (fun g=>!(decide (m.name=g.name) && decide (m.desc=g.desc))) && methsD (A++[m]) r
def fieldR (W:List UnitU) (f:FieldU):Bool:=isName f.name && (isTy f.desc && thereU W f.desc)
theorem fieldsU_eq (W:List UnitU):∀ (A l:List FieldU),fieldsU W A l=(l.all (fieldR W) && fieldsD A l)
 | _,[]=>rfl
 | A,f :: r=>by
  simp only [fieldsU,eo,fieldsD,fieldsU_eq W (A++[f]) r,fieldR]
  cases isName f.name <;> cases isTy f.desc <;> cases thereU W f.desc <;> cases A.all (fun g=>!decide (f.name=g.name)) <;> simp
theorem methsU_eq (W:List UnitU) (u:UnitU):∀ (A l:List MethU),methsU W u A l=(l.all (methodU W u) && methsD A l)
 | _,[]=>rfl
 | A,m :: r=>by
  simp only [methsU,eo,methsD,methsU_eq W u (A++[m]) r]
  cases methodU W u m <;> cases A.all (fun g=>!(decide (m.name=g.name) && decide (m.desc=g.desc))) <;> simp
theorem getE_names (n:Str):∀ A:List FieldU,(getE (A.map fun f=>(f.name,true)) n).getD false = !(A.all fun g=>!decide (n=g.name))
 | []=>rfl
 | f :: A=>by
  simp only [bo,getE,eo]
  by_cases h:f.name=n
  ·simp [h]
  ·have h':¬ n=f.name:=fun e=>h e.symm
   simp only [h,h',if_false,decide_false,Bool.not_false,gn]
   exact getE_names n A
theorem fieldsS_eq (W:List UnitU):∀ (A l:List FieldU),fieldsS (W.map supE) (A.map fun f=>(f.name,true)) l=(l.all (fieldR W) && fieldsD A l)
 | _,[]=>rfl
 | A,f :: r=>by
  have ih:=fieldsS_eq W (A++[f]) r
  rw [fj] at ih
  simp only [bo,gq] at ih
  simp only [fieldsS,fieldOk,eo,fieldsD,fieldR,thereS_eq,getE_names,Bool.not_not,ih]
  cases isName f.name <;> cases isTy f.desc <;> cases thereU W f.desc <;> cases A.all (fun g=>!decide (f.name=g.name)) <;> simp
theorem getE_meths (c n d:Str):∀ A:List MethU,getE (A.map (methE c)) (c,n,d)=(methAt A n d).map fun x=>⟨c,x.st⟩
 | []=>rfl
 | m :: A=>by
  have ih:=getE_meths c n d A
  unfold methAt at ih ⊢
  simp only [bo,getE,methE,List.find?_cons]
  by_cases h1:m.name=n
  ·by_cases h2:m.desc=d
   ·simp [h1,h2]
   ·simp only [Prod.mk.injEq,h1,h2,and_false,if_false,decide_true,decide_false,Bool.and_false]
    exact ih
  ·simp only [Prod.mk.injEq,h1,false_and,and_false,if_false,decide_false,Bool.false_and]
   exact ih
theorem methAt_isSome (n d:Str) (A:List MethU):(methAt A n d).isSome = !(A.all fun g=>!(decide (n=g.name) && decide (d=g.desc))):=by
 induction A with
 | nil=>rfl
 | cons m A ih =>
  unfold methAt at ih ⊢
  rw [List.find?_cons]
  have e1:decide (m.name=n)=decide (n=m.name):=by rw [decide_eq_decide]; exact eq_comm
  have e2:decide (m.desc=d)=decide (d=m.desc):=by rw [decide_eq_decide]; exact eq_comm
  rw [e1,e2,eo]
  cases decide (n=m.name) && decide (d=m.desc) with
  | true=>simp
  | false=>simpa using ih
theorem methsS_eq (W:List UnitU) (c:Str) (M:List (Key × Mem)) (hM:∀ x ∈ M,x.1.1≠c):∀ (A l:List MethU),methsS (W.map supE) c (M++A.map (methE c)) l=(l.all (rightU W) && methsD A l)
 | _,[]=>rfl
 | A,m :: r=>by
  have ih:=methsS_eq W c M hM (A++[m]) r
  rw [fj,← ba] at ih
  simp only [bo,gq] at ih
  have hg:(getE (M++A.map (methE c)) (c,m.name,m.desc)).isSome = !(A.all fun g=>!(decide (m.name=g.name) && decide (m.desc=g.desc))):=by
   rw [jl,getE_none.2 (fun x hx e=>hM x hx (by rw [e])),Option.none_or,getE_meths,Option.isSome_map,methAt_isSome]
  simp only [methsS,methOk,eo,methsD,rightS_eq,hg,Bool.not_not,ih]
  cases rightU W m <;> cases A.all (fun g=>!(decide (m.name=g.name) && decide (m.desc=g.desc))) <;> simp
def membF (u:UnitU):List (Key × Mem):=u.fields.map (fieldE u.name)
def membM (u:UnitU):List (Key × Mem):=u.meths.map (methE u.name)
theorem built_S (m:Nat):(builtU m).map supE=builtS:=rfl
theorem built_M (m:Nat):(builtU m).flatMap membM=builtM:=rfl
theorem built_F (m:Nat):(builtU m).flatMap membF=[]:=rfl
theorem getE_classes {g:UnitU→List (Key × Mem)} (hg:∀ u,∀ x ∈ g u,x.1.1=u.name) (k:Key):∀ {W:List UnitU},(W.map UnitU.name).Nodup→getE (W.flatMap g) k=(findU W k.1).bind fun u=>getE (g u) k
 | [],_=>rfl
 | u :: W,h=>by
  rw [bo,je] at h
  rw [bu,jl,getE_classes hg k h.2,findU_cons]
  by_cases e:u.name=k.1
  ·have hn:findU W k.1=none:=findU_none.2 fun v hv e2=>h.1 (dw.2 ⟨v,hv,by rw [e2,e]⟩)
   rw [if_pos e,hn]
   simp
  ·have hn:getE (g u) k=none:=getE_none.2 fun x hx e2=>e (by rw [← hg u x hx,e2])
   rw [if_neg e,hn]; rfl
theorem memb_M (u:UnitU):∀ x ∈ membM u,x.1.1=u.name:=fun x hx=>by
 obtain ⟨m,_,rfl⟩:=dw.1 hx; rfl
theorem getM {W:List UnitU} (h:(W.map UnitU.name).Nodup) (c n d:Str):getE (W.flatMap membM) (c,n,d)=(findU W c).bind fun u=>(methAt u.meths n d).map fun x=>⟨u.name,x.st⟩:=by
 rw [getE_classes memb_M _ h]
 cases hf:findU W c with
 | none=>rfl
 | some u =>
  simp only [Option.bind_some,membM]
  rw [← (findU_mem hf).2,getE_meths]
theorem goL_found (W:List UnitU):∀ (k:Nat) (u:Option UnitU),(∀ v,u=some v→findU W v.name=some v)→∀ v ∈ goL W k u,findU W v.name=some v
 | 0,_,_,v,hv=>by simp [goL] at hv
 | _+1,none,_,v,hv=>by simp [goL] at hv
 | k+1,some x,h,v,hv=>by
  simp only [goL,cr] at hv
  rcases hv with rfl | hv
  ·exact h _ rfl
  ·exact goL_found W k _ (fun y hy=>by rw [(findU_mem hy).2]; exact hy) v hv
theorem lineU_found {W:List UnitU} {k:Nat} {c:Str}:∀ v ∈ lineU W k c,findU W v.name=some v:=goL_found W k _ fun y hy=>by rw [(findU_mem hy).2]; exact hy
def endsU (W:List UnitU) (c:Str):Bool:=decide (2≤(lineU W (W.length+1) c).length) && (decide ((lineU W (W.length+1) c).length≤W.length) && decide (lastName (lineU W (W.length+1) c)=objectT))
def ownU (W:List UnitU) (u:UnitU):Bool:=endsU W u.name && (u.fields.all (fieldR W) && (fieldsD [] u.fields && (u.meths.all (rightU W) && methsD [] u.meths)))
def nameU (u:UnitU):Bool:=isClass u.name && !decide (u.super=sysT)
def evenU (W:List UnitU) (u:UnitU):Bool:=u.meths.all fun m=>(lineU W (W.length+1) u.name).all (evenM m)
theorem unitU_eq (W:List UnitU) (u:UnitU):unitU W u=(nameU u && (ownU W u && evenU W u)):=by
 have h:u.meths.all (methodU W u)=(u.meths.all (rightU W) && evenU W u):=by
  unfold evenU
  induction u.meths with
  | nil=>rfl
  | cons m r ih =>
   simp only [eo,ih,methodU_eq]
   cases rightU W m <;> cases (lineU W (W.length+1) u.name).all (evenM m) <;> simp
 unfold unitU nameU ownU endsU
 rw [fieldsU_eq,methsU_eq,h]
 simp only [Bool.and_assoc]
 cases isClass u.name <;> cases decide (u.super=sysT) <;> cases decide (2≤(lineU W (W.length+1) u.name).length) <;> cases decide ((lineU W (W.length+1) u.name).length≤W.length) <;> cases decide (lastName (lineU W (W.length+1) u.name)=objectT) <;>
  cases u.fields.all (fieldR W) <;> cases fieldsD [] u.fields <;> cases u.meths.all (rightU W) <;> cases evenU W u <;> simp
theorem namesU_eq:∀ (A l:List UnitU),(A.map UnitU.name).Nodup→(namesU A l=true ↔ ((A++l).map UnitU.name).Nodup)
 | A,[],h=>by simp [namesU,h]
 | A,u :: r,h=>by
  have e:A++u :: r=(A++[u])++r:=by simp
  simp only [namesU,aw,al]
  by_cases c:∀ x ∈ A,(!decide (u.name=x.name))=true
  ·have h2:((A++[u]).map UnitU.name).Nodup:=by
    rw [fj,List.nodup_append]
    refine ⟨h,by simp,fun a ha b hb=>?_⟩
    obtain ⟨x,hx,rfl⟩:=dw.1 ha
    simp only [bo,gq,b0] at hb
    subst hb
    have:=c x hx
    intro e
    simp [e] at this
   rw [e,← namesU_eq (A++[u]) r h2]
   exact ⟨fun h=>h.2,fun h=>⟨c,h⟩⟩
  ·refine ⟨fun h=>absurd h.1 c,fun hn=>absurd (fun x hx=>?_) c⟩
   rw [fj,List.nodup_append] at hn
   have:=hn.2.2 x.name (dw.2 ⟨x,hx,rfl⟩) u.name (by simp)
   simpa using fun e=>this e.symm
end Go.Abs.AbsHier

namespace Go.Abs.AbsHier
open Go.Abs.AbsDesc
theorem supersS_iff:∀ {l:List UnitU} {S:List (Str × Str)},(supersS S l).isSome=true ↔ ((l.map UnitU.name).Nodup∧∀ u ∈ l,getE S u.name=none∧nameU u=true)
 | [],S=>by simp [supersS]
 | u :: l,S=>by
  simp only [supersS]
  by_cases c:superOk S u=true
  ·rw [if_pos c,supersS_iff]
   unfold superOk at c
   simp only [aw,eg,Option.isSome_eq_false_iff,Option.isNone_iff_eq_none] at c
   obtain ⟨⟨c1,c2⟩,c3⟩:=c
   have c4:nameU u=true:=by unfold nameU; rw [c2,c3]; rfl
   rw [bo,je]
   refine ⟨fun ⟨h1,h2⟩=>⟨⟨fun hm=>?_,h1⟩,fun v hv=>?_⟩,fun ⟨h1,h2⟩=>⟨h1.2,fun v hv=>?_⟩⟩
   ·obtain ⟨v,hv,e⟩:=dw.1 hm
    have:=(h2 v hv).1
    rw [jl,e,c1] at this
    simp [getE] at this
   ·rcases cr.1 hv with rfl | hv
    ·exact ⟨c1,c4⟩
    ·have:=(h2 v hv).1
     rw [jl] at this
     refine ⟨?_,(h2 v hv).2⟩
     cases hq:getE S v.name with
     | none=>rfl
     | some y=>rw [hq] at this; cases this
   ·obtain ⟨d1,d2⟩:=h2 v (bh _ hv)
    refine ⟨?_,d2⟩
    rw [jl,d1,Option.none_or]
    simp only [getE]
    rw [if_neg fun e=>h1.1 (dw.2 ⟨v,hv,e.symm⟩)]
  ·rw [if_neg c]
   refine ⟨fun h=>(by cases h),fun h=>absurd ?_ c⟩
   have h2:=h.2
   obtain ⟨d1,d2⟩:=h2 u (a8 ..)
   unfold nameU at d2
   simp only [aw] at d2
   unfold superOk
   rw [d1,d2.1,d2.2]; rfl
theorem endsS_eq {W:List UnitU} {o:UnitU} (h0:findU W []=none) (ho:findU W objectT=some o) (hs:o.super=[]) (c:Str):endsS (W.map supE) c=endsU W c:=by
 unfold endsS endsU
 rw [ip,lineS_eq,ip]
 have hlast:∀ L:List UnitU,(L.map UnitU.name).getLastD []=lastName L:=fun L=>by
  unfold lastName
  rw [List.getLastD_eq_getLast?,List.getLast?_map]
 rw [hlast]
 by_cases hl:(lineU W (W.length+1) c).length≤W.length
 ·have hl2:=lineU_succ hl
  rw [hl2] at hl ⊢
  have e:decide (1 < (lineU W W.length c).length)=decide (2≤(lineU W W.length c).length):=rfl
  rw [e,decide_eq_true hl]
  cases decide (lastName (lineU W W.length c)=objectT) <;> cases decide (2≤(lineU W W.length c).length) <;> rfl
 ·rw [decide_eq_false hl,Bool.false_and,Bool.and_false,Bool.and_eq_false_iff]
  refine .inl (decide_eq_false ?_)
  intro e
  have hlen:(lineU W (W.length+1) c).length=W.length+1:=by have:=goL_len W (W.length+1) (findU W c); unfold lineU at hl ⊢; omega
  unfold lastName at e
  cases hv:(lineU W W.length c).getLast? with
  | none=>rw [hv] at e; exact absurd e (by decide)
  | some v =>
   rw [hv] at e
   have e:v.name=objectT:=e
   have hm:v ∈ lineU W W.length c:=List.mem_of_getLast? hv
   have hf:=lineU_found v hm
   rw [e,ho] at hf
   have:=goL_last W W.length (findU W c) v hlen hv
   rw [← b9 hf,hs,h0] at this
   cases this
theorem membersS_eq {W:List UnitU} (hends:∀ c,endsS (W.map supE) c=endsU W c):∀ {l:List UnitU} {F M:List (Key × Mem)},(l.map UnitU.name).Nodup→(∀ x ∈ M,∀ u ∈ l,x.1.1≠u.name) →
  membersS (W.map supE) F M l=if l.all (ownU W) then some (F++l.flatMap membF,M++l.flatMap membM) else none
 | [],F,M,_,_=>by simp [membersS]
 | u :: l,F,M,hn,hM=>by
  rw [bo,je] at hn
  have hu:unitOk (W.map supE) M u=ownU W u:=by
   have h1:=fieldsS_eq W [] u.fields
   have h2:=methsS_eq W u.name M (fun x hx=>hM x hx u (a8 ..)) [] u.meths
   simp only [gq,cz] at h1 h2
   unfold unitOk ownU
   rw [hends,h1,h2]
   simp only [Bool.and_assoc]
  simp only [membersS,hu,eo]
  rcases ep (ownU W u) with c | c
  ·simp only [c,if_true,gn]
   rw [membersS_eq hends hn.2]
   ·simp only [bu,ba]; rfl
   ·intro x hx v hv e
    rcases bg.1 hx with hx | hx
    ·exact hM x hx v (bh _ hv) e
    ·exact hn.1 (dw.2 ⟨v,hv,by rw [← e,memb_M u x hx]⟩)
  ·simp [c]
def keysU (l:List MethU):Prop:=l.Pairwise fun a c=>¬ (a.name=c.name∧a.desc=c.desc)
theorem methsD_keys:∀ (A l:List MethU),methsD A l=true→keysU A→keysU (A++l)
 | A,[],_,h=>by simpa using h
 | A,m :: r,hd,h=>by
  simp only [methsD,aw,al] at hd
  have e:A++m :: r=(A++[m])++r:=by simp
  rw [e]
  refine methsD_keys (A++[m]) r hd.2 ?_
  unfold keysU
  rw [List.pairwise_append]
  refine ⟨h,by simp,fun a ha c hc hh=>?_⟩
  simp only [b0] at hc
  subst hc
  have:=hd.1 a ha
  simp [hh.1,hh.2] at this
theorem even_eq {m:MethU}:∀ {l:List MethU},keysU l→(match (methAt l m.name m.desc).map MethU.st with | some y=>y == m.st | none=>true)=l.all fun x=>!oddM m x
 | [],_=>rfl
 | x :: l,h=>by
  have h:=List.pairwise_cons.1 h
  have ih:=even_eq (m:=m) h.2
  unfold methAt at ih ⊢
  rw [List.find?_cons,eo]
  by_cases h1:x.name=m.name
  ·by_cases h2:x.desc=m.desc
   ·have hr:(l.all fun x=>!oddM m x)=true:=by
     rw [al]
     intro y hy
     have:=h.1 y hy
     unfold oddM
     by_cases g1:y.name=m.name
     ·by_cases g2:y.desc=m.desc
      ·exact absurd ⟨h1.trans g1.symm,h2.trans g2.symm⟩ this
      ·simp [g2]
     ·simp [g1]
    rw [hr]
    unfold oddM
    simp only [h1,h2,decide_true,Bool.and_self,bi,gn,Bool.not_not,Bool.and_true]
    cases x.st <;> cases m.st <;> rfl
   ·unfold oddM
    simp only [h1,h2,decide_true,decide_false,Bool.and_false,Bool.false_and,Bool.not_false,gn]
    exact ih
  ·unfold oddM
   simp only [h1,decide_false,Bool.false_and,Bool.not_false,gn]
   exact ih
theorem overS_eq {W:List UnitU} (hn:(W.map UnitU.name).Nodup) (hk:∀ v ∈ W,keysU v.meths) {u:UnitU} (hl:(lineU W (W.length+1) u.name).length≤W.length):overS (W.map supE) (W.flatMap membM) u=evenU W u:=by
 unfold overS evenU
 congr 1
 funext m
 unfold overM
 rw [ip,lineS_eq,lineU_succ hl]
 have hf:=lineU_found (W:=W) (k:=W.length) (c:=u.name)
 generalize lineU W W.length u.name=L at hf ⊢
 induction L with
 | nil=>rfl
 | cons v L ih =>
  rw [bo,eo,eo,ih fun x hx=>hf x (bh _ hx)]
  congr 1
  have hv:=hf v (a8 ..)
  have:=even_eq (m:=m) (hk v (findU_mem hv).1)
  unfold overOk evenM
  rw [getM hn,hv,Option.bind_some]
  rw [← this]
  cases methAt v.meths m.name m.desc <;> rfl
theorem built_keys (m:Nat):∀ v ∈ builtU m,keysU v.meths:=by
 have:(builtU m).all (fun v=>methsD [] v.meths)=true:=rfl
 intro v hv
 exact methsD_keys [] _ (al.1 this v hv) List.Pairwise.nil
theorem isClass_nil:isClass []=false:=by decide
theorem built_none (m:Nat):findU (builtU m) []=none:=rfl
theorem built_names (m:Nat):((builtU m).map UnitU.name).Nodup:=by
 have:(builtU m).map UnitU.name=[objectT,throwT,sysT]++faultsL:=rfl
 rw [this]; decide
theorem all_unit (W:List UnitU):∀ l:List UnitU,l.all (unitU W)=(l.all nameU && (l.all (ownU W) && l.all (evenU W)))
 | []=>rfl
 | u :: r=>by
  simp only [eo,unitU_eq,all_unit W r]
  cases nameU u <;> cases ownU W u <;> cases evenU W u <;> cases r.all nameU <;> cases r.all (ownU W) <;> cases r.all (evenU W) <;> rfl
theorem worldS_eq (m:Nat) (l:List UnitU):worldS l=if worldU m l then some ((allU m l).map supE,(allU m l).flatMap membF,(allU m l).flatMap membM) else none:=by
 unfold worldS worldU
 by_cases c1:l.length≤32
 ·rw [if_pos c1,decide_eq_true c1,gn]
  have hS:builtS++l.map supE=(allU m l).map supE:=by unfold allU; rw [fj,built_S]
  have hM:builtM++l.flatMap membM=(allU m l).flatMap membM:=by unfold allU; rw [ix,built_M]
  have hF:l.flatMap membF=(allU m l).flatMap membF:=by unfold allU; rw [ix,built_F]; rfl
  have hnames:namesU [] (allU m l)=true ↔ ((allU m l).map UnitU.name).Nodup:=namesU_eq [] _ (by simp)
  have hall:l.all (unitU (allU m l))=(l.all nameU && (l.all (ownU (allU m l)) && l.all (evenU (allU m l)))):=by
   exact all_unit _ l
  have hcat:((allU m l).map UnitU.name).Nodup ↔ ((l.map UnitU.name).Nodup∧∀ u ∈ l,getE builtS u.name=none):=by
   unfold allU
   rw [fj,List.nodup_append,← built_S m]
   refine ⟨fun ⟨_,h2,h3⟩=>⟨h2,fun u hu=>?_⟩,fun ⟨h1,h2⟩=>⟨built_names m,h1,fun a ha b hb e=>?_⟩⟩
   ·rw [getE_sup,Option.map_eq_none_iff,findU_none]
    exact fun v hv e=>h3 v.name (dw.2 ⟨v,hv,rfl⟩) u.name (dw.2 ⟨u,hu,rfl⟩) e
   ·obtain ⟨v,hv,rfl⟩:=dw.1 ha
    obtain ⟨u,hu,rfl⟩:=dw.1 hb
    have:=h2 u hu
    rw [getE_sup,Option.map_eq_none_iff,findU_none] at this
    exact this v hv e
  rw [hall]
  by_cases c2:((allU m l).map UnitU.name).Nodup
  ·rw [hnames.2 c2,gn]
   rcases ep (l.all nameU) with c3 | c3
   ·have hsup:(supersS builtS l).isSome=true:=supersS_iff.2 ⟨(hcat.1 c2).1,fun u hu=>⟨(hcat.1 c2).2 u hu,al.1 c3 u hu⟩⟩
    obtain ⟨S,hS1⟩:=Option.isSome_iff_exists.1 hsup
    have hS2:=(supersS_eq hS1).1
    rw [hS] at hS2
    subst hS2
    rw [hS1,c3,gn]
    have h0:findU (allU m l) []=none:=by
     unfold allU findU
     rw [List.find?_append]
     have:=built_none m
     unfold findU at this
     rw [this,Option.none_or,List.find?_eq_none]
     intro u hu
     have:=al.1 c3 u hu
     unfold nameU at this
     intro e
     have e:u.name=[]:=by simpa using e
     rw [e,isClass_nil] at this
     cases this
    have hends:=endsS_eq (W:=allU m l) (o:=plainU objectT []) h0 rfl rfl
    have hmem:=membersS_eq (F:=[]) (M:=builtM) hends (hcat.1 c2).1 (fun x hx u hu=>by
     have h1:=(hcat.1 c2).2 u hu
     rw [← built_M m] at hx
     obtain ⟨v,hv,hx⟩:=dv.1 hx
     rw [memb_M v x hx]
     rw [← built_S m,getE_sup,Option.map_eq_none_iff,findU_none] at h1
     exact h1 v hv)
    simp only
    rw [hmem,hM,c9,hF]
    rcases ep (l.all (ownU (allU m l))) with c4 | c4
    ·rw [c4,if_pos rfl,gn]
     simp only
     have hkeys:∀ v ∈ allU m l,keysU v.meths:=fun v hv=>by
      rcases bg.1 hv with hv | hv
      ·exact built_keys m v hv
      ·have:=al.1 c4 v hv
       unfold ownU at this
       simp only [aw] at this
       exact methsD_keys [] _ this.2.2.2.2 List.Pairwise.nil
     have hov:l.all (overS ((allU m l).map supE) ((allU m l).flatMap membM))=l.all (evenU (allU m l)):=by
      rw [Bool.eq_iff_iff,al,al]
      have key:∀ u ∈ l,overS ((allU m l).map supE) ((allU m l).flatMap membM) u=evenU (allU m l) u:=fun u hu=>by
       have:=al.1 c4 u hu
       unfold ownU endsU at this
       simp only [aw,decide_eq_true_eq] at this
       exact overS_eq c2 hkeys this.1.2.1
      exact ⟨fun h u hu=>by rw [← key u hu]; exact h u hu,fun h u hu=>by rw [key u hu]; exact h u hu⟩
     rw [hov]
    ·rw [c4]; rfl
   ·have hsup:supersS builtS l=none:=by
     rw [← Option.not_isSome_iff_eq_none,supersS_iff]
     intro h
     have:l.all nameU=true:=al.2 fun u hu=>(h.2 u hu).2
     rw [c3] at this; cases this
    rw [hsup,c3]; rfl
  ·have hsup:supersS builtS l=none:=by
    rw [← Option.not_isSome_iff_eq_none,supersS_iff]
    exact fun h=>c2 (hcat.2 ⟨h.1,fun u hu=>(h.2 u hu).1⟩)
   have hn:namesU [] (allU m l)=false:=by
    rw [← Bool.not_eq_true]; exact fun h=>c2 (hnames.1 h)
   rw [hsup,hn]; rfl
 ·rw [if_neg c1,decide_eq_false c1]; rfl
end Go.Abs.AbsHier

namespace Go.Abs.AbsHier
open Go.Abs.AbsDesc
end Go.Abs.AbsHier

namespace Go.Abs.AbsSlot
open Go.Abs.AbsHier Go.Abs.AbsDesc
open Go.Abs.Short
theorem allW_sup (n:Nat) (L:List UnitU):(allW n L).map supE=(allU 0 L).map supE:=by
 unfold allW allU; rw [fj,fj]; rfl
theorem allW_names (n:Nat) (L:List UnitU):(allW n L).map UnitU.name=(allU 0 L).map UnitU.name:=by
 unfold allW allU; rw [fj,fj]; rfl
theorem line_len (n:Nat) (L:List UnitU) (k:Nat) (c:Str):(lineU (allW n L) k c).length=(lineU (allU 0 L) k c).length:=by
 have h1:=lineS_eq (allW n L) k c
 have h2:=lineS_eq (allU 0 L) k c
 rw [allW_sup,h2] at h1
 have:=congrArg List.length h1
 simpa using this.symm
def depW (W:List UnitU) (i:Nat):Nat:=match W[i]? with
 | none=>0
 | some u=>(lineU W (W.length+1) u.name).length - 1
theorem findU_at {W:List UnitU} (hn:(W.map UnitU.name).Nodup) {j:Nat} {u:UnitU} (h:W[j]? = some u):findU W u.name=some u:=by
 induction W generalizing j with
 | nil=>simp at h
 | cons x W ih =>
  rw [bo,je] at hn
  rw [findU_cons]
  cases j with
  | zero=>simp at h; subst h; rw [if_pos rfl]
  | succ j =>
   simp at h
   rw [if_neg fun e=>hn.1 (dw.2 ⟨u,au h,e.symm⟩)]
   exact ih hn.2 h
theorem gw_of_world {L:List UnitU} (h:worldS L≠none) (hf:∀ u ∈ L,u.fields.length≤70∧u.meths.length≤40) (n:Nat):GW (allW n L) (depW (allW n L)):=by
 have hw:worldU 0 L=true:=by
  rw [worldS_eq 0 L] at h
  cases hc:worldU 0 L with
  | true=>rfl
  | false=>rw [hc] at h; exact absurd rfl h
 unfold worldU at hw
 simp only [aw,decide_eq_true_eq,al] at hw
 obtain ⟨w1,w2,w3⟩:=hw
 have hnd:((allU 0 L).map UnitU.name).Nodup:=(namesU_eq [] _ (by simp)).1 w2
 have hndW:((allW n L).map UnitU.name).Nodup:=by rw [allW_names]; exact hnd
 have hlen:(allW n L).length=9+L.length:=by unfold allW; rw [bc]; rfl
 have hlenU:(allU 0 L).length=9+L.length:=by unfold allU; rw [bc]; rfl
 have hnil:findU (allU 0 L) []=none:=by
  rw [findU_none]
  intro u hu e
  rcases bg.1 hu with hu | hu
  ·exact findU_none.1 (built_none 0) u hu e
  ·have:=w3 u hu
   unfold unitU at this
   rw [e] at this
   simp [isClass_nil] at this
 have hsup:∀ c s,findU (builtU 0) c=some (plainU c s)→findU (allU 0 L) c=some (plainU c s):=fun c s hc=>by
  unfold allU findU at *
  rw [List.find?_append,hc]; rfl
 have hobj:∀ k,lineU (allU 0 L) (k+1) objectT=[plainU objectT []]:=fun k=>by
  rw [lineU_cons (hsup objectT [] rfl)]
  show _ :: lineU (allU 0 L) k []=_
  rw [lineU_none hnil]
 have hthr:∀ k,lineU (allU 0 L) (k+2) throwT=[plainU throwT objectT,plainU objectT []]:=fun k=>by
  rw [lineU_cons (hsup throwT objectT rfl)]
  show _ :: lineU (allU 0 L) (k+1) objectT=_
  rw [hobj]
 have hflt:∀ f ∈ faultsL,∀ k,(lineU (allU 0 L) (k+3) f).length=3:=fun f hf k=>by
  have:findU (builtU 0) f=some (plainU f throwT):=by
   simp only [faultsL,cr,kh,or_false] at hf
   rcases hf with rfl | rfl | rfl | rfl | rfl | rfl <;> rfl
  rw [lineU_cons (hsup f throwT this)]
  show (_ :: lineU (allU 0 L) (k+2) throwT).length=_
  rw [hthr]; rfl
 have hsys:∀ k,(lineU (allU 0 L) (k+2) sysT).length=2:=fun k=>by
  have:findU (allU 0 L) sysT=some (sysU 0):=by
   unfold allU findU
   rw [List.find?_append]; rfl
  rw [lineU_cons this]
  show (_ :: lineU (allU 0 L) (k+1) objectT).length=_
  rw [hobj]; rfl
 have hline:∀ u ∈ allW n L,(lineU (allW n L) ((allW n L).length+1) u.name).length≤(allW n L).length:=by
  intro u hu
  rw [line_len,hlen]
  rcases bg.1 hu with hu | hu
  ·simp only [builtV',built3V,faultsL,bo,gq,db,c9,cr,kh,or_false] at hu
   rcases hu with rfl | rfl | rfl | rfl | rfl | rfl | rfl | rfl | rfl
   ·show (lineU (allU 0 L) (9+L.length+1) objectT).length≤_
    rw [hobj]; simp; omega
   ·rw [show 9+L.length+1=(8+L.length)+2 by omega]
    show (lineU (allU 0 L) (8+L.length+2) throwT).length≤_
    rw [hthr]; simp; omega
   ·have:=hsys (8+L.length)
    rw [show 9+L.length+1=(8+L.length)+2 by omega]
    show (lineU (allU 0 L) (8+L.length+2) sysT).length≤_
    omega
   all_goals
    rw [show 9+L.length+1=(7+L.length)+3 by omega]
    refine du (Nat.le_of_eq (hflt _ ?_ (7+L.length))) (by omega)
    simp [faultsL,faultU,plainU]
  ·have:=w3 u hu
   unfold unitU at this
   simp only [aw,decide_eq_true_eq] at this
   rw [hlenU] at this
   omega
 refine ⟨hndW,by omega,fun e=>?_,?_,fun u hu=>?_,fun i j u hu hj=>?_,fun i hi=>?_⟩
 ·rw [e] at hlen; simp at hlen; omega
 ·have h1:frW (allW n L) 3=8:=by
   unfold frW allW
   rw [List.take_append_of_le_length (show 3≤(builtV' (n+5)).length from (by decide:3≤9))]; rfl
  have:=frW_mono (W:=allW n L) (show 3≤(allW n L).length by omega)
  omega
 ·rcases bg.1 hu with hu | hu
  ·obtain ⟨⟨h1,_⟩,h3⟩:=built_mem hu
   rw [h1]
   rcases h3 with ⟨h3,_⟩ | ⟨h3,_⟩ <;> rw [h3] <;> simp [natL]
  ·exact hf u hu
 ·obtain ⟨v,hv,hvn⟩:=idxU_some hj
  unfold depW
  rw [hu,hv]
  simp only
  have h1:=hline u (au hu)
  have h2:=hline v (au hv)
  have h3:=lineU_cons (k:=(allW n L).length) (findU_at hndW hu)
  rw [h3,az] at h1 ⊢
  have h4:=lineU_succ h2
  have h5:=lineU_cons (k:=(allW n L).length) (findU_at hndW hv)
  rw [h4] at h5
  have h6:=congrArg List.length h5
  rw [az] at h6
  rw [h4]
  rw [hvn] at h6 ⊢
  omega
 ·unfold depW
  rw [ag hi]
  have:=hline _ (List.getElem_mem hi)
  simp only
  omega
structure LayX (W:List UnitU) (n:Nat) (H:List AObj) (ci mi:Nat) (C:List LClsU) (M:List LMethU) (ra:Option (Nat × Nat)) (rc:Option Nat):Prop where
 cs:H[ci]? = some (.cells 5 (C.flatMap LClsU.cells))
 ms:H[mi]? = some (.cells 6 (M.flatMap LMethU.cells))
 rs:RV 1 intC n H (psW W).R ra rc
 cv:∀ c ∈ C,RV 1 intC n H c.refs c.ra c.rc∧RV 1 intC n H c.table c.ta c.tc
 cl:C.length=W.length
 ct:∀ i u,W[i]? = some u→∃ c,C[i]? = some c∧c.name=u.name∧c.super=supI (supW W i)∧c.cells'=(RW W i).cells∧c.refs=(RW W i).refs∧c.table=(RW W i).table
 ml:M.length=(psW W).M.length
 mt:∀ i u j m,W[i]? = some u→u.meths[j]? = some m→M[frW W i+j]? = ((psW W).M[frW W i+j]?).map fun y=>if m.st then y else slotM ((idxN (RW W i).names (m.name,m.desc)).getD 0) y
def zLay:List AVal:=[.slice none 0 (some 0),.slice none 0 (some 0),.int .i64 0,.slice none 0 (some 0)]
def layV (W:List UnitU) (ci mi:Nat) (C:List LClsU) (cc:Option Nat) (M:List LMethU) (mc:Option Nat) (ra:Option (Nat × Nat)) (rc:Option Nat):List AVal:=[.slice (some (ci,0)) C.length cc,.slice (some (mi,0)) M.length mc,.int .i64 (psW W).n,.slice ra (psW W).R.length rc]
def Post59 (O:List AObj) (b:Nat) (L:List UnitU) (w:Nat) (v:AVal) (h':Heap):Prop :=
 (worldS L=none∧v = .tuple [.agg zLay,.int .i64 15]∧h'=⟨O,b,w⟩) ∨
 (worldS L≠none∧∃ (n m:Nat) (ci mi:Nat) (C:List LClsU) (cc:Option Nat) (M:List LMethU) (mc:Option Nat) (ra:Option (Nat × Nat)) (rc:Option Nat),v = .tuple [.agg (layV (allW n L) ci mi C cc M mc ra rc),.int .i64 0]∧h'.base=b∧Pre O h'.objs∧min w O.length≤h'.wmin∧LayX (allW n L) m h'.objs ci mi C M ra rc)
section
variable {f:Nat→Nat} {I:Nat→Prop} {n:Nat} {O O':List AObj}
theorem LayX.move {W:List UnitU} {ci mi:Nat} {C:List LClsU} {M:List LMethU} {ra:Option (Nat × Nat)} {rc:Option Nat} (h:LayX W n O ci mi C M ra rc) (hM:Moves f I n O O') (i1:I ci) (i2:I mi) (i4:inI I ra) :
  LayX W n O' (f ci) (f mi) (C.map (renCl f)) M (renA f ra) rc:=by
 have i5:∀ c ∈ C,inI I c.ra∧inI I c.ta:=fun c hc=>by
  have hcl:∀ j ∈ AVal.idsL c.cells,n≤j→I j:=fun j hj hn=>hM.cl ci _ i1 h.cs j (by
   show j ∈ AVal.idsL (C.flatMap LClsU.cells)
   rw [idsL_flat,dv] at hj ⊢
   obtain ⟨v,hv,hj⟩:=hj
   exact ⟨v,dv.2 ⟨c,hc,hv⟩,hj⟩) hn
  obtain ⟨v1,v2⟩:=h.cv c hc
  refine ⟨fun p q e=>hcl p ?_ (v1.lt e).1,fun p q e=>hcl p ?_ (v2.lt e).1⟩
  ·simp [LClsU.cells,AVal.idsL,AVal.ids,e]
  ·simp [LClsU.cells,AVal.idsL,AVal.ids,e]
 refine ⟨?_,?_,rvMove hM h.rs i4,fun c hc=>?_,by rw [ip]; exact h.cl,fun i u hu=>?_,h.ml,h.mt⟩
 ·rw [hM.at' ci _ i1 h.cs]; simp only [AObj.ren,renL_clss]
 ·rw [hM.at' mi _ i2 h.ms]; simp only [AObj.ren,renL_meths']
 ·obtain ⟨d,hd,rfl⟩:=dw.1 hc
  obtain ⟨v1,v2⟩:=h.cv d hd
  exact ⟨rvMove hM v1 (i5 d hd).1,rvMove hM v2 (i5 d hd).2⟩
 ·obtain ⟨c,hc,h1⟩:=h.ct i u hu
  exact ⟨renCl f c,by rw [cq,hc]; rfl,h1⟩
end
section
variable {E:Env} {O:List AObj} {b:Nat}
theorem s49 {l:List UnitU} {a:Option (Nat × Nat)} {c:Option Nat} (hR:Row O 4 UnitU.cells l a) (hok:∀ u ∈ l,u.ok O) (hn:l.length≤9223372036854775807) (hb:b≤O.length) {w:Nat} :
  xCall T 49 [.slice a l.length c] ⟨O,b,w⟩=some (AbsHier.newV O.length (worldS l),⟨AbsHier.newO O (worldS l),b,w⟩):=jd sub (AbsHier.s49 hR hok hn hb)
def q59_0:ACode:=R [0,2] [o 2 (.lalloc [.slice none 0 (some 0),.slice none 0 (some 0),.int .i64 0,.slice none 0 (some 0)]),o 3 (.val (n 0))]
def q59_1:ACode:=R [0,2,5] [v 7 0,o 8 (.callg 49 [t 7]),v 6 8,o 9 (.extract (t 6) 0),o 10 (.extract (t 6) 1),v 4 9,v 5 10]
def q59_2:ACode:=R [0,2,5,12] [v 11 5,o 12 (.bin .neq (t 11) (n 0))]
def q59_3:ACode:=.after (.cond (t 12) (.seq (R [2,3] [o 13 (.build [.slice none 0 (some 0),.slice none 0 (some 0),.int .i64 0,.slice none 0 (some 0)] []),v 14 5,u (.store 4 (t 2) (t 13)),v 3 14])
 (.live [2,3] (.ret))) (.skip)) [0,2]
theorem body59:code59.body = .seq q59_0 (.seq (.seq q59_1 (.seq q59_2 q59_3)) (.seq (R [2,3] [v 15 0,o 16 (.callg 116 [t 15]),o 17 (.nilcheck (t 16)),o 18 (.faddr (t 17) 0),o 19 (.load (some 4) (t 18)),u (.store 4 (t 2) (t 19)),o 3 (.val (n 0))]) (.live [2,3] (.ret)))):=rfl
section
attribute [-simp] getElem?_pos getElem?_neg List.all_eq_true
attribute [local simp] gz gs nltT nltF iltT iltF ileT nleT dh
theorem c59 (hT:Agrees E T) (hm:E.P.follows .mixedOrders=true) (hF:IsCode E 116 code116) (hF1:IsCode E 161 code161) (hF2:IsCode E 59 code59) {L:List UnitU} {aa:Option (Nat × Nat)} {cc:Option Nat} (hR:Row O 4 UnitU.cells L aa) (hok:∀ u ∈ L,u.ok O) (hf:∀ u ∈ L,u.fields.length≤70∧u.meths.length≤40) (hl:L.length≤1000) (hb:b≤O.length) (w:Nat) :
  CallD E 59 [.slice aa L.length cc] ⟨O,b,w⟩ (Post59 O b L w):=by
 have h49:=fun w=>s49 (b:=b) (w:=w) (c:=cc) hR hok (by omega) hb
 refine CallD.of_code hF2 rfl ?_
 rw [body59]
 have hen:enter 0 [AVal.slice aa L.length cc]=[(0,.val (.slice aa L.length cc))]:=rfl
 rw [hen]
 have hsz:(⟨O,b,w⟩:Heap).size=O.length:=rfl
 simp only [hsz]
 unfold q59_0 q59_1 q59_2 q59_3
 refine CodeD.seq nofun (CodeD.run (e:=.normal) (st':=⟨[(0,.val (.slice aa L.length cc)),(2,.var zLay)],⟨O,b,O.length⟩⟩) hT hm (fun k'=>by unfold zLay; simp (disch:=omega) []) ?_)
 cases hw:worldS L with
 | none =>
  have hu:CodeD E (.seq (R [0,2,5] [v 7 0,o 8 (.callg 49 [t 7]),v 6 8,o 9 (.extract (t 6) 0),o 10 (.extract (t 6) 1),v 4 9,v 5 10]) (.seq (R [0,2,5,12] [v 11 5,o 12 (.bin .neq (t 11) (n 0))]) (.after (.cond (t 12) (.seq (R [2,3] [o 13 (.build [.slice none 0 (some 0),.slice none 0 (some 0),.int .i64 0,.slice none 0 (some 0)] []),v 14 5,u (.store 4 (t 2) (t 13)),v 3 14])
 (.live [2,3] (.ret))) (.skip)) [0,2]))) ⟨[(0,.val (.slice aa L.length cc)),(2,.var zLay)],⟨O,b,O.length⟩⟩ (fun e st=>e = .ret∧st=⟨[(2,.var zLay),(3,.val (.int .i64 15))],⟨O,b,O.length⟩⟩):=by
   refine CodeD.run (e:=.ret) (st':=⟨[(2,.var zLay),(3,.val (.int .i64 15))],⟨O,b,O.length⟩⟩) hT hm (fun k'=>?_) ⟨rfl,rfl⟩
   simp only [hw,AbsHier.newV,AbsHier.newO] at h49
   unfold zLay
   simp (disch:=omega) [h49]
  refine CodeD.seq nofun (hu.mono fun e st hq _=>?_)
  obtain ⟨rfl,rfl⟩:=hq
  refine ⟨.tuple [.agg zLay,.int .i64 15],⟨O,b,w⟩,?_,.inl ⟨hw,rfl,rfl⟩⟩
  simp [funcEnd,code59,resultsL,tupled,finish,zLay,AVal.under,AVal.unders,Heap.size]
 | some q =>
  have hg:=gw_of_world (L:=L) (by rw [hw]; exact fun h=>by cases h) hf (AbsHier.newO O (worldS L)).length
  have hnl:(AbsHier.newO O (worldS L)).length=O.length+5:=by rw [hw]; simp [AbsHier.newO,wO]
  have hpre:Pre O (AbsHier.newO O (worldS L)):=by rw [hw]; exact wO_pre _ _ _ _ _
  generalize hG:AbsHier.newO O (worldS L)=G at h49 hg hnl hpre
  simp only [hw,AbsHier.newV] at h49
  refine CodeD.seq nofun (CodeD.run (e:=.normal) (st':=⟨[(0,.val (.slice aa L.length cc)),(2,.var zLay)],⟨G,b,O.length⟩⟩) hT hm (fun k'=>by unfold zLay; simp (disch:=omega) [h49]) ?_)
  have hRG:Row G 4 UnitU.cells L aa:=⟨fun hne=>by
   obtain ⟨p,o,cs,h1,h2,h3⟩:=hR.at' hne
   exact ⟨p,o,cs,h1,hpre _ _ h2,h3⟩⟩
  refine CodeD.seq nofun (CodeD.after (CodeD.region hT hm ?_))
  refine OpsD.run (l:=[v 15 0]) (r:=[o 16 (.callg 116 [t 15]),o 17 (.nilcheck (t 16)),o 18 (.faddr (t 17) 0),o 19 (.load (some 4) (t 18)),u (.store 4 (t 2) (t 19)),o 3 (.val (n 0))])
   (s1:=[(15,.val (.slice aa L.length cc)),(0,.val (.slice aa L.length cc)),(2,.var zLay)]) (h1:=⟨G,b,O.length⟩) (fun k'=>by simp (disch:=omega) []) ?_
  refine OpsD.call (g:=116) (xs:=[t 15]) rfl rfl rfl (c116 hT hm hF hF1 hRG (fun u hu=>(hok u hu).pre hpre) hg (by omega) O.length) fun vv hh hR'=>?_
  obtain ⟨kk,ci,mi,mz,C,cc',M,mc,ra,rc,x4,x5,x7,Z,rfl,hbs,hpr,hwm,hL⟩:=hR'
  obtain ⟨H1,b1,w1⟩:=hh
  simp only at hbs hpr hwm hL
  subst hbs
  have hk:=hL.k
  refine OpsD.run (l:=[o 17 (.nilcheck (t 16)),o 18 (.faddr (t 17) 0),o 19 (.load (some 4) (t 18)),u (.store 4 (t 2) (t 19)),o 3 (.val (n 0))]) (r:=[]) (s1:=[(3,.val (.int .i64 0)),(2,.var (layV (allW G.length L) ci mi C cc' M mc ra rc)),(19,.val (.agg (layV (allW G.length L) ci mi C cc' M mc ra rc))),(18,.val (.ptr (some (kk,0)))),(17,.val (.ptr (some (kk,0)))),(16,.val (.ptr (some (kk,0)))),(15,.val (.slice aa L.length cc)),(0,.val (.slice aa L.length cc)),(2,.var zLay)]) (h1:=⟨H1,b1,w1⟩) (fun k'=>by unfold layV zLay; simp (disch:=omega) [hk]) (OpsD.done ?_)
  simp only []
  have hkeep:∀ a b c d e f g:Slot,keepK [2,3] [(3,.val (.int .i64 0)),(2,.var (layV (allW G.length L) ci mi C cc' M mc ra rc)),(19,a),(18,b),(17,c),(16,d),(15,e),(0,f),(2,g)]=[(2,.var (layV (allW G.length L) ci mi C cc' M mc ra rc)),(3,.val (.int .i64 0))]:=fun a b c d e f g=>by simp
  rw [hkeep]
  refine CodeD.run (e:=.ret) (st':=⟨[(2,.var (layV (allW G.length L) ci mi C cc' M mc ra rc)),(3,.val (.int .i64 0))],⟨H1,b1,w1⟩⟩) hT hm (fun k'=>by simp (disch:=omega) []) ?_
  have hfe:funcEnd code59 ⟨O,b1,w⟩ (.ret,⟨[(2,.var (layV (allW G.length L) ci mi C cc' M mc ra rc)),(3,.val (.int .i64 0))],⟨H1,b1,w1⟩⟩)=some (finish ⟨O,b1,w⟩ (.tuple [.agg (layV (allW G.length L) ci mi C cc' M mc ra rc),.int .i64 0]) ⟨H1,b1,w1⟩):=by
   simp [funcEnd,code59,resultsL,tupled,-finish,layV]
  cases hfq:finish ⟨O,b1,w⟩ (.tuple [.agg (layV (allW G.length L) ci mi C cc' M mc ra rc),.int .i64 0]) ⟨H1,b1,w1⟩ with | mk v1 hh1 =>
  rw [hfq] at hfe
  refine ⟨v1,hh1,hfe,.inr ⟨by rw [hw]; exact (fun h=>by cases h),?_⟩⟩
  obtain ⟨l1,l2,l3,l4⟩:=hL.le
  have hX:LayX (allW G.length L) O.length H1 ci mi C M ra rc:=⟨hL.cs,hL.ms,hL.rs.le (by omega),fun c hc=>⟨(hL.cv c hc).1.le (by omega),(hL.cv c hc).2.le (by omega)⟩,hL.cl,hL.ct,hL.ml,hL.mt⟩
  have hun:(AVal.tuple [.agg (layV (allW G.length L) ci mi C cc' M mc ra rc),.int .i64 0]).under (⟨O,b1,w⟩:Heap).size=false:=by
   have:¬ ci < O.length:=by omega
   simp [layV,AVal.under,AVal.unders,Heap.size,this]
  have hww:O.length≤w1:=by omega
  rcases finish_cases (h:=⟨H1,b1,w1⟩) hun with ⟨wx,h1,h2⟩ | ⟨h1,f,I,X,h2,h3,h4⟩
  ·rw [hfq] at h1
   cases h1
   refine ⟨G.length,O.length,ci,mi,C,cc',M,mc,ra,rc,rfl,rfl,hpre.trans hpr,?_,hX⟩
   rcases h2 with h2 | ⟨h2,_⟩
   ·show min w O.length≤wx
    have h2:wx=min w w1:=h2
    omega
   ·show min w O.length≤wx
    have h2:wx=w:=h2
    omega
  ·rw [hfq] at h2
   cases h2
   have hI:∀ j ∈ AVal.idsL (layV (allW G.length L) ci mi C cc' M mc ra rc),O.length≤j→I j:=fun j hj hn=>h4 j (by simpa [AVal.ids,AVal.idsL] using hj) hn
   have:=hX.move h3 (hI ci (by simp [layV,AVal.idsL,AVal.ids]) (by omega)) (hI mi (by simp [layV,AVal.idsL,AVal.ids]) (by omega)) fun p q e=>hI p (by rw [e]; simp [layV,AVal.idsL,AVal.ids]) (by subst e; have:=(hL.rs.lt rfl).1; omega)
   refine ⟨G.length,O.length,f ci,f mi,C.map (renCl f),cc',M,mc,renA f ra,rc,?_,rfl,Pre.app _ _,iq _ _,this⟩
   simp only [layV,AVal.ren,AVal.renL,Go.Abs.ren_sl,renA,ip]
end
end
end Go.Abs.AbsSlot

namespace Go.Abs.AbsSlot
open Go.Abs.AbsHier Go.Abs.AbsDesc
theorem cellsR_pre:∀ (fs:List FieldU) (n:Int) (R:List Int),∃ X,(cellsR fs n R).2=R++X
 | [],n,R=>⟨[],by simp [cellsR]⟩
 | f :: fs,n,R=>by
  simp only [cellsR]
  split
  ·exact cellsR_pre fs n R
  ·split
   ·obtain ⟨X,h⟩:=cellsR_pre fs (n+1) (R++[n])
    exact ⟨n :: X,by rw [h]; simp⟩
   ·exact cellsR_pre fs (n+1) R
theorem idxN_get {N:List Nm} {k:Nm} {q:Nat} (h:idxN N k=some q):N[q]? = some k:=by
 unfold idxN at h
 obtain ⟨h1,h2⟩:=List.findIdx?_eq_some_iff_findIdx_eq.1 h
 have:=List.findIdx_getElem (w:=by rw [h2]; exact h1) (xs:=N) (p:=fun x=>decide (x=k))
 rw [ag h1]
 subst h2
 simpa using this
theorem idxN_none {N:List Nm} {k:Nm} (h:idxN N k=none):k ∉ N:=by
 unfold idxN at h
 rw [List.findIdx?_eq_none_iff] at h
 intro hm
 simpa using h k hm
structure TI (own:Nm→Int→Prop) (N:List Nm) (T:List Int):Prop where
 nd:N.Nodup
 len:N.length=T.length
 t:∀ (q:Nat) (n:Nm) (x:Int),N[q]? = some n→T[q]? = some x→own n x
theorem methsT_ti {own:Nm→Int→Prop} (fr:Nat):∀ (ms:List MethU) (i:Nat) (N:List Nm) (T:List Int),(∀ (j:Nat) (m:MethU),ms[j]? = some m→m.st=false→own (m.name,m.desc) ((fr+(i+j):Nat):Int))→TI own N T →
  TI own (methsT fr i ms N T).1 (methsT fr i ms N T).2∧(∃ X,(methsT fr i ms N T).1=N++X)∧∀ (j:Nat) (m:MethU),ms[j]? = some m→m.st=false→∃ q,idxN (methsT fr i ms N T).1 (m.name,m.desc)=some q
 | [],i,N,T,_,h=>⟨h,⟨[],by simp [methsT]⟩,fun j m hj=>by simp at hj⟩
 | m :: ms,i,N,T,ho,h=>by
  have ho':∀ (j:Nat) (m':MethU),ms[j]? = some m'→m'.st=false→own (m'.name,m'.desc) ((fr+(i+1+j):Nat):Int):=fun j m' hj hs=>by
   have:=ho (j+1) m' (by simpa using hj) hs
   rw [show i+(j+1)=i+1+j by omega] at this
   exact this
  simp only [methsT]
  cases hst:m.st with
  | true =>
   simp only [if_true]
   obtain ⟨a1,a2,a3⟩:=methsT_ti fr ms (i+1) N T ho' h
   refine ⟨a1,a2,fun j m' hj hs=>?_⟩
   cases j with
   | zero=>simp at hj; subst hj; rw [hst] at hs; cases hs
   | succ j=>exact a3 j m' (by simpa using hj) hs
  | false =>
   have h0:=ho 0 m rfl hst
   rw [ef] at h0
   simp only [av,if_false]
   cases hx:idxN N (m.name,m.desc) with
   | some s =>
    simp only
    have hg:=idxN_get hx
    obtain ⟨a1,⟨X,a2⟩,a3⟩:=methsT_ti fr ms (i+1) N (T.set s ((fr+i:Nat):Int)) ho' ⟨h.nd,by simpa using h.len,fun q n x hn hq=>by
     by_cases e:s=q
     ·subst e
      rw [hg] at hn; cases hn
      rw [bv (by rw [← h.len]; exact aj hg)] at hq; cases hq
      exact h0
     ·rw [ai e] at hq; exact h.t q n x hn hq⟩
    refine ⟨a1,⟨X,a2⟩,fun j m' hj hs=>?_⟩
    cases j with
    | zero =>
     simp at hj; subst hj
     exact ⟨s,jq ms _ _ _ hx⟩
    | succ j=>exact a3 j m' (by simpa using hj) hs
   | none =>
    simp only
    have hni:=idxN_none hx
    obtain ⟨a1,⟨X,a2⟩,a3⟩:=methsT_ti fr ms (i+1) (N++[(m.name,m.desc)]) (T++[((fr+i:Nat):Int)]) ho' ⟨by
      rw [List.nodup_append]
      exact ⟨h.nd,by simp,fun a ha c hc e=>by simp at hc; subst hc; subst e; exact hni ha⟩,by simpa using h.len,fun q n x hn hq=>by
     rcases a9 q N.length with hl | hl
     ·rw [ah hl] at hn
      rw [ah (by rw [← h.len]; exact hl)] at hq
      exact h.t q n x hn hq
     ·have hq':=aj hn
      simp at hq'
      have:q=N.length:=by omega
      subst this
      simp at hn
      rw [aq (by rw [← h.len]; exact ak _)] at hq
      rw [h.len,Nat.sub_self] at hq
      simp at hq
      subst hn; subst hq
      exact h0⟩
    refine ⟨a1,⟨(m.name,m.desc) :: X,by rw [a2]; simp⟩,fun j m' hj hs=>?_⟩
    cases j with
    | zero =>
     simp at hj; subst hj
     exact ⟨N.length,jq ms _ _ _ (by rw [idxN_snoc hx,if_pos rfl])⟩
    | succ j=>exact a3 j m' (by simpa using hj) hs
inductive AnC (W:List UnitU):Nat→Nat→Prop
 | refl (i:Nat):AnC W i i
 | up {i j k:Nat}:supW W i=some j→AnC W k j→AnC W k i
def OwnM (W:List UnitU) (i:Nat) (n:Nm) (x:Int):Prop:=∃ k u j m,W[k]? = some u∧u.meths[j]? = some m∧m.st=false∧n=(m.name,m.desc)∧x=((frW W k+j:Nat):Int)∧AnC W k i
section
variable {W:List UnitU} {dep:Nat→Nat}
theorem RW_ti (g:GW W dep):∀ (d i:Nat) (u:UnitU),dep i < d→W[i]? = some u→TI (OwnM W i) (RW W i).names (RW W i).table∧(∃ X,(RW W i).names=(baseW W i).names++X)∧∀ (j:Nat) (m:MethU),u.meths[j]? = some m→m.st=false→∃ q,idxN (RW W i).names (m.name,m.desc)=some q
 | 0,i,u,h,_=>by omega
 | d+1,i,u,h,hu=>by
  rw [RW_eq g hu]
  simp only [stepC]
  refine methsT_ti (own:=OwnM W i) (frW W i) u.meths 0 _ _ (fun j m hj hs=>⟨i,u,j,m,hu,hj,hs,rfl,by rw [bt],AnC.refl i⟩) ?_
  unfold baseW
  cases hs:supW W i with
  | none=>exact ⟨List.nodup_nil,rfl,fun q n x hn=>by simp [r0] at hn⟩
  | some j =>
   simp only
   have hj:=supW_lt hs
   have hd:=g.sup hs
   obtain ⟨v,hv⟩:∃ v,W[j]? = some v:=⟨_,ag hj⟩
   obtain ⟨t1,_,_⟩:=RW_ti g d j v (by omega) hv
   exact ⟨t1.nd,t1.len,fun q n x hn hx=>by
    obtain ⟨k,u',j',m,a1,a2,a3,a4,a5,a6⟩:=t1.t q n x hn hx
    exact ⟨k,u',j',m,a1,a2,a3,a4,a5,.up hs a6⟩⟩
theorem AnC.pre (g:GW W dep) {k i:Nat} (h:AnC W k i):∀ u,W[i]? = some u→∃ X,(RW W i).names=(RW W k).names++X:=by
 induction h with
 | refl i=>exact fun u _=>⟨[],by simp⟩
 | @up i j k hs _ ih =>
  intro u hu
  obtain ⟨v,hv⟩:∃ v,W[j]? = some v:=⟨_,ag (supW_lt hs)⟩
  obtain ⟨X,hX⟩:=ih v hv
  obtain ⟨_,⟨Y,hY⟩,_⟩:=RW_ti g _ i u (Nat.lt_succ_self _) hu
  have:baseW W i=RW W j:=by unfold baseW; rw [hs]
  rw [this,hX] at hY
  exact ⟨X++Y,by rw [hY,ba]⟩
theorem table_at (g:GW W dep) {i q:Nat} {u:UnitU} {x:Int} (hu:W[i]? = some u) (hx:(RW W i).table[q]? = some x):∃ k u' j m,W[k]? = some u'∧u'.meths[j]? = some m∧m.st=false∧(RW W i).names[q]? = some (m.name,m.desc)∧x=((frW W k+j:Nat):Int)∧AnC W k i∧idxN (RW W k).names (m.name,m.desc)=some q:=by
 obtain ⟨t1,_,_⟩:=RW_ti g _ i u (Nat.lt_succ_self _) hu
 obtain ⟨nm,hn⟩:∃ nm,(RW W i).names[q]? = some nm:=⟨_,ag (by rw [t1.len]; exact aj hx)⟩
 obtain ⟨k,u',j,m,a1,a2,a3,rfl,a5,a6⟩:=t1.t q nm x hn hx
 refine ⟨k,u',j,m,a1,a2,a3,hn,a5,a6,?_⟩
 obtain ⟨_,_,b3⟩:=RW_ti g _ k u' (Nat.lt_succ_self _) a1
 obtain ⟨q',hq'⟩:=b3 j m a2 a3
 obtain ⟨X,hX⟩:=a6.pre g u hu
 have h1:=idxN_get hq'
 have h2:(RW W i).names[q']? = some (m.name,m.desc):=by rw [hX,ah (aj h1)]; exact h1
 have:q'=q:=(List.getElem?_inj (aj h2) t1.nd).1 (h2.trans hn.symm)
 rw [hq',this]
theorem grow (g:GW W dep) {i j:Nat} {u v:UnitU} (hu:W[i]? = some u) (hs:supW W i=some j) (hv:W[j]? = some v) :
  (RW W j).cells≤(RW W i).cells∧(∃ X,(RW W i).refs=(RW W j).refs++X)∧(RW W j).table.length≤(RW W i).table.length∧(∃ X,(RW W i).names=(RW W j).names++X):=by
 have hb:baseW W i=RW W j:=by unfold baseW; rw [hs]
 obtain ⟨t1,⟨X,hX⟩,_⟩:=RW_ti g _ i u (Nat.lt_succ_self _) hu
 obtain ⟨t2,_,_⟩:=RW_ti g _ j v (Nat.lt_succ_self _) hv
 rw [hb] at hX
 refine ⟨?_,?_,?_,X,hX⟩
 ·rw [RW_eq g hu,hb]
  exact (cellsR_bound u.fields _ _).1
 ·rw [RW_eq g hu,hb]
  exact cellsR_pre u.fields _ _
 ·rw [← t1.len,← t2.len,hX,bc]; omega
end
theorem line_mem {W:List UnitU} {dep:Nat→Nat} (g:GW W dep) {C:List LClsU} (hC:∀ i u,W[i]? = some u→∃ c,C[i]? = some c∧c.super=supI (supW W i)) {k i:Nat} (h:AnC W k i):∀ (d:Nat) (u:UnitU),W[i]? = some u→dep i < d→(k:Int) ∈ lineX C d i:=by
 induction h with
 | refl i =>
  intro d u hu hd
  obtain ⟨c,hc,_⟩:=hC i u hu
  obtain ⟨d,rfl⟩:∃ e,d=e+1:=⟨d - 1,by omega⟩
  have:atI C (i:Int)=some c:=by unfold atI; rw [if_pos (by omega)]; simpa using hc
  simp only [lineX,this]
  exact a8 ..
 | @up i j k hs _ ih =>
  intro d u hu hd
  obtain ⟨c,hc,hcs⟩:=hC i u hu
  obtain ⟨d,rfl⟩:∃ e,d=e+1:=⟨d - 1,by omega⟩
  have:atI C (i:Int)=some c:=by unfold atI; rw [if_pos (by omega)]; simpa using hc
  simp only [lineX,this]
  refine bh _ ?_
  rw [hcs,hs]
  obtain ⟨v,hv⟩:∃ v,W[j]? = some v:=⟨_,ag (supW_lt hs)⟩
  have:=g.sup hs
  exact ih d v hv (by omega)
end Go.Abs.AbsSlot

namespace Go.Abs.AbsSlot
open Go.Abs.AbsHier Go.Abs.AbsDesc
open Go.Abs.Short
theorem frW_find:∀ (W:List UnitU) (q:Nat),q < frW W W.length→∃ (i:Nat) (u:UnitU) (j:Nat) (m:MethU),W[i]? = some u∧u.meths[j]? = some m∧q=frW W i+j
 | [],q,h=>by simp [frW] at h
 | u :: W,q,h=>by
  rw [az,frW_cons] at h
  rcases a9 q u.meths.length with hl | hl
  ·exact ⟨0,u,q,_,rfl,ag hl,by rw [frW_zero]; omega⟩
  ·obtain ⟨i,v,j,m,h1,h2,h3⟩:=frW_find W (q - u.meths.length) (by omega)
   exact ⟨i+1,v,j,m,by simpa using h1,h2,by rw [frW_cons]; omega⟩
def namesOk (W:List UnitU):Prop:=∀ u ∈ W,u.name.length≤reachB∧∀ m ∈ u.meths,m.name.length≤reachB∧m.desc.length≤reachB
theorem built_namesOk (m:Nat):namesOk (builtV' m):=by
 have:(builtV' m).all (fun u=>decide (u.name.length≤20) && u.meths.all fun m=>decide (m.name.length≤20) && decide (m.desc.length≤20))=true:=rfl
 have hr:reachB=140737488351232:=rfl
 intro u hu
 have h1:=al.1 this u hu
 simp only [aw,decide_eq_true_eq] at h1
 refine ⟨by omega,fun m hm=>?_⟩
 have h2:=al.1 h1.2 m hm
 simp only [aw,decide_eq_true_eq] at h2
 omega
theorem allW_namesOk {n:Nat} {L:List UnitU} (hf:∀ u ∈ L,u.fits):namesOk (allW n L):=by
 intro u hu
 rcases bg.1 hu with hu | hu
 ·exact built_namesOk _ u hu
 ·exact ⟨(hf u hu).name,fun m hm=>⟨((hf u hu).ms m hm).name,((hf u hu).ms m hm).desc⟩⟩
def layU (W:List UnitU) (ci mi:Nat) (C:List LClsU) (cc:Option Nat) (M:List LMethU) (mc:Option Nat) (ra:Option (Nat × Nat)) (rc:Option Nat):LayU:=⟨C,some (ci,0),cc,M,some (mi,0),mc,(psW W).n,(psW W).R,ra,rc⟩
theorem layU_cells (W:List UnitU) (ci mi:Nat) (C:List LClsU) (cc:Option Nat) (M:List LMethU) (mc:Option Nat) (ra:Option (Nat × Nat)) (rc:Option Nat):(layU W ci mi C cc M mc ra rc).cells=layV W ci mi C cc M mc ra rc:=rfl
section
variable {W:List UnitU} {dep:Nat→Nat} {n ci mi:Nat} {H:List AObj} {C:List LClsU} {M:List LMethU} {ra:Option (Nat × Nat)} {rc:Option Nat}
theorem LayX.at' (h:LayX W n H ci mi C M ra rc) {i j:Nat} {u:UnitU} {m:MethU} (hu:W[i]? = some u) (hm:u.meths[j]? = some m):∃ z,M[frW W i+j]? = some ⟨(i:Int),m.name,m.desc,m.st,if m.st then -1 else (((idxN (RW W i).names (m.name,m.desc)).getD 0:Nat):Int),z⟩:=by
 obtain ⟨z,hz⟩:=psW_M W hu hm
 refine ⟨z,?_⟩
 rw [h.mt i u j m hu hm,hz,bi]
 cases m.st <;> rfl
theorem LayX.meth (h:LayX W n H ci mi C M ra rc) {y:LMethU} (hy:y ∈ M):∃ (i:Nat) (u:UnitU) (j:Nat) (m:MethU),W[i]? = some u∧u.meths[j]? = some m∧y.name=m.name∧y.desc=m.desc:=by
 obtain ⟨q,hq⟩:=dt hy
 have hql:=aj hq
 rw [h.ml,psW_Mlen] at hql
 obtain ⟨i,u,j,m,h1,h2,rfl⟩:=frW_find W q hql
 obtain ⟨z,hz⟩:=h.at' h1 h2
 rw [hz] at hq; cases hq
 exact ⟨i,u,j,m,h1,h2,rfl,rfl⟩
theorem LayX.cls (h:LayX W n H ci mi C M ra rc) {i:Nat} {c:LClsU} (hc:C[i]? = some c):∃ u,W[i]? = some u∧c.name=u.name∧c.super=supI (supW W i)∧c.cells'=(RW W i).cells∧c.refs=(RW W i).refs∧c.table=(RW W i).table:=by
 have hil:=aj hc
 rw [h.cl] at hil
 obtain ⟨u,hu⟩:∃ u,W[i]? = some u:=⟨_,ag hil⟩
 obtain ⟨c',h1,h2⟩:=h.ct i u hu
 rw [hc] at h1; cases h1
 exact ⟨u,hu,h2⟩
theorem RW_bound (g:GW W dep) (i:Nat):0≤(RW W i).cells∧(RW W i).cells≤7070∧(RW W i).refs.length≤7070∧(RW W i).table.length≤4040:=by
 obtain ⟨b1,b2,b3,b4,_⟩:=RN_bound g 101 i
 exact ⟨b1,by show (RN W 101 i).cells≤_; omega,by show (RN W 101 i).refs.length≤_; omega,by show (RN W 101 i).table.length≤_; omega⟩
theorem LayX.ok (h:LayX W n H ci mi C M ra rc) (g:GW W dep) (hn:namesOk W) (cc mc:Option Nat):(layU W ci mi C cc M mc ra rc).ok H:=by
 have hr:reachB=140737488351232:=rfl
 have hgl:=g.len
 have hle:=psW_le g
 have hlt1:=aj h.cs
 have hlt2:=aj h.ms
 have hCne:C≠[]:=fun e=>by have:=h.cl; rw [e] at this; exact g.pos (List.length_eq_zero_iff.1 this.symm)
 have hMne:M≠[]:=fun e=>by have:=h.ml; rw [e,psW_Mlen] at this; have:=g.mpos; simp at *; omega
 refine ⟨RV.row (lo:=0) (c:=none) (.inr ⟨hCne,ci,gj _,rfl,rfl,h.cs⟩) ei,by show C.length≤_; rw [h.cl]; omega,fun p q e=>by cases e; exact hlt1,fun y hy=>?_,RV.row (lo:=0) (c:=none) (.inr ⟨hMne,mi,gj _,rfl,rfl,h.ms⟩) lmeth_len,by show M.length≤_; rw [h.ml]; have:=hle.m; omega,fun p q e=>by cases e; exact hlt2,fun y hy=>?_,h.rs.row km,by have:=hle.r; show (psW W).R.length≤_; omega,fun p q e=>(h.rs.lt e).2.1⟩
 ·obtain ⟨i,hi⟩:=dt hy
  obtain ⟨u,hu,h1,h2,h3,h4,h5⟩:=h.cls hi
  obtain ⟨v1,v2⟩:=h.cv y hy
  obtain ⟨b1,b2,b3,b4⟩:=RW_bound g i
  exact ⟨by rw [h1]; exact (hn u (au hu)).1,v1.row km,by rw [h4]; omega,fun p q e=>(v1.lt e).2.1,v2.row km,by rw [h5]; omega,fun p q e=>(v2.lt e).2.1⟩
 ·obtain ⟨i,u,j,m,h1,h2,h3,h4⟩:=h.meth hy
  have:=(hn u (au h1)).2 m (au h2)
  exact ⟨by rw [h3]; exact this.1,by rw [h4]; exact this.2⟩
theorem LayX.clsI (h:LayX W n H ci mi C M ra rc) (nm:Str):clsI C nm=idxU W nm:=by
 have e:C.map LClsU.name=W.map UnitU.name:=by
  refine eu fun i=>?_
  rw [cq,cq]
  cases hu:W[i]? with
  | none =>
   rw [fz] at hu
   rw [fz.2 (by rw [h.cl]; exact hu)]; rfl
  | some u =>
   obtain ⟨c,hc,h1,_⟩:=h.ct i u hu
   rw [hc]; simp [h1]
 have h1:C.findIdx? (fun c=>decide (c.name=nm))=(C.map LClsU.name).findIdx? (fun x=>decide (x=nm)):=by rw [List.findIdx?_map]; rfl
 have h2:W.findIdx? (fun c=>decide (c.name=nm))=(W.map UnitU.name).findIdx? (fun x=>decide (x=nm)):=by rw [List.findIdx?_map]; rfl
 unfold AbsSlot.clsI idxU
 rw [h1,h2,e]
end
section
variable {k n ci mi:Nat} {H:List AObj} {C:List LClsU} {M:List LMethU} {ra:Option (Nat × Nat)} {rc:Option Nat}
theorem lay0 (h:LayX (allW k []) n H ci mi C M ra rc) (cc mc:Option Nat):C.length=9∧M.length=8∧clsI C sysT=some 2 ∧
  ((clsI C sysT).bind fun z=>methI (layU (allW k []) ci mi C cc M mc ra rc) (lineX C C.length z) [99,111,117,110,116] [40,41,73])=some 7∧((lineX C C.length 3).any fun c=>decide (c=1))=true:=by
 have hcl:C.length=9:=h.cl
 have hml:M.length=8:=h.ml.trans (psW_Mlen _)
 have hs:clsI C sysT=some 2:=by rw [h.clsI]; rfl
 have at':∀ (i:Nat) (u:UnitU) (s:Int),(allW k [])[i]? = some u→supI (supW (allW k []) i)=s→∃ c,atI C (i:Int)=some c∧c.super=s:=fun i u s hu e=>by
  obtain ⟨c,hc,_,h2,_⟩:=h.ct i u hu
  exact ⟨c,by unfold atI; rw [if_pos (by omega)]; simpa using hc,h2.trans e⟩
 obtain ⟨c0,a0,e0⟩:=at' 0 _ (-1) rfl rfl
 obtain ⟨c1,a1,e1⟩:=at' 1 _ 0 rfl rfl
 obtain ⟨c2,a2,e2⟩:=at' 2 _ 0 rfl rfl
 obtain ⟨c3,a3,e3⟩:=at' 3 _ 1 rfl rfl
 simp only [bf] at a0 a1 a2 a3
 have am:atI C (-1)=none:=rfl
 have l2:lineX C 9 2=[2,0]:=by simp only [lineX,a2,e2,a0,e0,am]
 have l3:lineX C 9 3=[3,1,0]:=by simp only [lineX,a3,e3,a1,e1,a0,e0,am]
 have hM:M=(psW (allW k [])).M:=by
  refine eu fun q=>?_
  rcases a9 q 8 with hq | hq
  ·obtain ⟨m,hm⟩:∃ m,(natL.map natM)[q]? = some m:=⟨_,ag hq⟩
   have hst:m.st=true:=by
    obtain ⟨x,_,rfl⟩:=dw.1 (au hm)
    rfl
   have:=h.mt 2 (sysV' (k+5)) q m rfl hm
   have hf:frW (allW k []) 2=0:=rfl
   rw [hf,bt] at this
   rw [this,hst]
   cases (psW (allW k [])).M[q]? <;> rfl
  ·rw [fz.2 (by omega),fz.2 (by rw [← h.ml]; omega)]
 refine ⟨hcl,hml,hs,?_,by rw [hcl,l3]; rfl⟩
 rw [hs,hcl]
 show methI _ (lineX C 9 2) _ _=_
 rw [l2]
 unfold methI layU
 rw [hM]
 rfl
end
end Go.Abs.AbsSlot

namespace Go.Abs.AbsSlot
open Go.Abs.AbsHier Go.Abs.AbsDesc
open Go.Abs.Short
def q61_3:ACode:=R [1,2,4,5,6] [o 20 (.load (some 4) (t 1)),o 21 (.callg 68 [t 20,.const (.str [115,121,115])]),v 19 21,o 22 (.extract (t 19) 0),o 23 (.extract (t 19) 1),v 5 22,v 6 23]
def q61_4:ACode:=R [1,2,4,5,6,7,8] [o 25 (.load (some 4) (t 1)),o 26 (.callg 66 [t 25,.const (.str [115,121,115]),.const (.str [99,111,117,110,116]),.const (.str [40,41,73])]),v 24 26,o 27 (.extract (t 24) 0),o 28 (.extract (t 24) 1),v 7 27,v 8 28]
def q61_5:ACode:=R [0] [v 29 2,o 30 (.bin .eql (t 29) (n 0)),v 31 30,g 32 31 true (.val (t 4)),g 33 31 true (.bin .eql (t 32) (n 15)),o 34 (.pick (t 31) (t 33) F),v 35 34,g 36 35 true (.faddr (t 1) 0),g 37 35 true (.load none (t 36)),g 38 35 true (.len .sl (t 37)),g 39 35 true (.bin .eql (t 38) (n 9)),o 40 (.pick (t 35) (t 39) F),v 41 40,g 42 41 true (.faddr (t 1) 1),g 43 41 true (.load none (t 42)),g 44 41 true (.len .sl (t 43)),g 45 41 true (.bin .eql (t 44) (n 8)),o 46 (.pick (t 41) (t 45) F),v 47 46,g 48 47 true (.val (t 6)),o 49 (.pick (t 47) (t 48) F),v 50 49,g 51 50 true (.val (t 5)),g 52 50 true (.bin .eql (t 51) (n 2)),o 53 (.pick (t 50) (t 52) F),v 54 53,g 55 54 true (.val (t 8)),o 56 (.pick (t 54) (t 55) F),v 57 56,g 58 57 true (.val (t 7)),g 59 57 true (.bin .eql (t 58) (n 7)),o 60 (.pick (t 57) (t 59) F),v 61 60,g 62 61 true (.load (some 4) (t 1)),g 63 61 true (.callg 56 [t 62,n 3,n 1]),o 64 (.pick (t 61) (t 63) F),v 0 64]
theorem body61:code61.body = .seq (R [] [o 0 (.val F)]) (.seq (R [1,2] [o 10 (.callg 59 [.const (.slice none 0 (some 0))]),v 9 10,o 11 (.extract (t 9) 0),o 12 (.extract (t 9) 1),o 1 (.lalloc [.slice none 0 (some 0),.slice none 0 (some 0),.int .i64 0,.slice none 0 (some 0)]),u (.store 4 (t 1) (t 11)),v 2 12])
 (.seq (R [1,2,4] [o 14 (.build [.str [],.str [],.slice none 0 (some 0),.slice none 0 (some 0)] [(0,1,.const (.str [115,121,115]))]),o 15 (.mkslice 4 1 [.str [],.str [],.slice none 0 (some 0),.slice none 0 (some 0)] [(0,4,t 14)]),o 16 (.callg 59 [t 15]),v 13 16,o 17 (.extract (t 13) 0),o 18 (.extract (t 13) 1),o 3 (.lalloc [.slice none 0 (some 0),.slice none 0 (some 0),.int .i64 0,.slice none 0 (some 0)]),u (.store 4 (t 3) (t 17)),v 4 18])
 (.seq q61_3 (.seq q61_4 (.seq q61_5 (.live [0] (.ret))))))):=rfl
section
variable {E:Env} {O:List AObj} {b:Nat}
section
attribute [-simp] getElem?_pos getElem?_neg List.all_eq_true
attribute [local simp] gz gs nltT nltF iltT iltF ileT nleT dh
theorem r61 {β:Type} (k':AExit→St→Option β) {k m ci mi:Nat} {H:List AObj} {C:List LClsU} {M:List LMethU} {cc mc:Option Nat} {ra:Option (Nat × Nat)} {rc:Option Nat} {w:Nat} (h:LayX (allW k []) m H ci mi C M ra rc) (g:GW (allW k []) (depW (allW k []))) (hb:b≤H.length) :
  xK T (.seq q61_3 (.seq q61_4 (.seq q61_5 (.live [0] (.ret))))) ⟨[(1,.var (layV (allW k []) ci mi C cc M mc ra rc)),(2,.val (.int .i64 0)),(4,.val (.int .i64 15))],⟨H,b,w⟩⟩ (k:=⟨k'⟩)=k' .ret ⟨[(0,.val (.bool true))],⟨H,b,w⟩⟩:=by
 have hok:=h.ok g (allW_namesOk (L:=[]) (fun u hu=>by cases hu)) cc mc
 obtain ⟨z1,z2,z3,z4,z5⟩:=lay0 h cc mc
 have h68:=fun w=>s68 (w:=w) (b:=b) (n:=sysT) hok hb
 have h66:=fun w=>s66 (w:=w) (b:=b) (cl:=sysT) (n:=[99,111,117,110,116]) (d:=[40,41,73]) hok hb
 have h56:=fun w=>s56 (w:=w) (b:=b) (z:=3) (y:=1) hok hb
 have e1:(layU (allW k []) ci mi C cc M mc ra rc).cs=C:=rfl
 rw [e1,z3] at h68
 rw [e1,z4] at h66
 rw [e1,z5] at h56
 rw [layU_cells] at h68 h66 h56
 simp only [sysT,idxV,da,kw,bf] at h68 h66
 unfold layV at h68 h66 h56 ⊢
 rw [z1,z2] at h68 h66 h56 ⊢
 unfold q61_3 q61_4 q61_5
 simp (disch:=omega) [h68,h66,h56]
theorem c61 (hT:Agrees E T) (hm:E.P.follows .mixedOrders=true) (hF:IsCode E 116 code116) (hF1:IsCode E 161 code161) (hF2:IsCode E 59 code59) (hF3:IsCode E 61 code61) (hb:b≤O.length) (w:Nat) :
  CallD E 61 [] ⟨O,b,w⟩ fun v h'=>v = .bool true∧h'=⟨O,b,w⟩:=by
 refine CallD.of_code hF3 rfl ?_
 rw [body61]
 have hen:enter 0 ([]:List AVal)=[]:=rfl
 rw [hen]
 have hsz:(⟨O,b,w⟩:Heap).size=O.length:=rfl
 simp only [hsz]
 refine CodeD.seq nofun (CodeD.run (e:=.normal) (st':=⟨[],⟨O,b,O.length⟩⟩) hT hm (fun k'=>by simp (disch:=omega) []) ?_)
 refine CodeD.seq nofun (CodeD.after (CodeD.region hT hm ?_))
 refine OpsD.call (g:=59) (xs:=[.const (.slice none 0 (some 0))]) rfl rfl rfl (c59 (L:=[]) (aa:=none) (cc:=some 0) hT hm hF hF1 hF2 ⟨fun h=>absurd rfl h⟩ (fun u hu=>by cases hu) (fun u hu=>by cases hu) (by decide) hb O.length) fun vv hh hR'=>?_
 obtain ⟨e,_⟩ | ⟨hw0,k,m,ci,mi,C,cc,M,mc,ra,rc,rfl,hbs,hpr,hwm,hX⟩:=hR'
 ·exact absurd e (by rw [show worldS []=some _ from rfl]; exact fun h=>by cases h)
 obtain ⟨H1,b1,w1⟩:=hh
 simp only at hbs hpr hwm hX
 subst hbs
 have hg:=gw_of_world (L:=[]) hw0 (fun u hu=>by cases hu) k
 have hH1:O.length≤H1.length:=hpr.len
 refine OpsD.run (l:=[v 9 10,o 11 (.extract (t 9) 0),o 12 (.extract (t 9) 1),o 1 (.lalloc [.slice none 0 (some 0),.slice none 0 (some 0),.int .i64 0,.slice none 0 (some 0)]),u (.store 4 (t 1) (t 11)),v 2 12]) (r:=[]) (s1:=[(2,.val (.int .i64 0)),(1,.var (layV (allW k []) ci mi C cc M mc ra rc)),(1,.var zLay),(12,.val (.int .i64 0)),(11,.val (.agg (layV (allW k []) ci mi C cc M mc ra rc))),(9,.val (.tuple [.agg (layV (allW k []) ci mi C cc M mc ra rc),.int .i64 0])),(10,.val (.tuple [.agg (layV (allW k []) ci mi C cc M mc ra rc),.int .i64 0]))]) (h1:=⟨H1,b1,w1⟩) (fun k'=>by unfold layV zLay; simp (disch:=omega) []) (OpsD.done ?_)
 simp only []
 have hkeep:∀ (x:List AVal) (z a b c d:Slot),keepK [1,2] [(2,.val (.int .i64 0)),(1,.var x),(1,z),(12,a),(11,b),(9,c),(10,d)]=[(1,.var x),(2,.val (.int .i64 0))]:=fun x z a b c d=>by simp
 rw [hkeep]
 refine CodeD.seq nofun (CodeD.after (CodeD.region hT hm ?_))
 have hsys:(plainU sysT []).cells=[.str [115,121,115],.str [],.slice none 0 (some 0),.slice none 0 (some 0)]:=rfl
 refine OpsD.run (l:=[o 14 (.build [.str [],.str [],.slice none 0 (some 0),.slice none 0 (some 0)] [(0,1,.const (.str [115,121,115]))]),o 15 (.mkslice 4 1 [.str [],.str [],.slice none 0 (some 0),.slice none 0 (some 0)] [(0,4,t 14)])]) (r:=[o 16 (.callg 59 [t 15]),v 13 16,o 17 (.extract (t 13) 0),o 18 (.extract (t 13) 1),o 3 (.lalloc [.slice none 0 (some 0),.slice none 0 (some 0),.int .i64 0,.slice none 0 (some 0)]),u (.store 4 (t 3) (t 17)),v 4 18])
  (s1:=[(15,.val (.slice (some (H1.length,0)) 1 (some 1))),(14,.val (.agg (plainU sysT []).cells)),(1,.var (layV (allW k []) ci mi C cc M mc ra rc)),(2,.val (.int .i64 0))]) (h1:=⟨H1++[.cells 4 (plainU sysT []).cells],b1,w1⟩) (fun k'=>by rw [hsys]; unfold layV; simp (disch:=omega) []) ?_
 have hRs:Row (H1++[.cells 4 (plainU sysT []).cells]) 4 UnitU.cells [plainU sysT []] (some (H1.length,0)):=RV.row (lo:=0) (c:=none) (.inr ⟨by simp,_,gj _,rfl,rfl,by rw [fk]; rfl⟩) (fun _=>rfl)
 refine OpsD.call (g:=59) (xs:=[t 15]) rfl rfl rfl (c59 (L:=[plainU sysT []]) (aa:=some (H1.length,0)) (cc:=some 1) hT hm hF hF1 hF2 hRs (fun u hu=>by
  rw [b0] at hu; subst hu
  exact ⟨by decide,by decide,row_nil rfl,by decide,fun _ _ e=>(by cases e),fun _ hx=>(by cases hx),row_nil rfl,by decide,fun _ _ e=>(by cases e),fun _ hx=>(by cases hx)⟩) (fun u hu=>by rw [b0] at hu; subst hu; exact ⟨by decide,by decide⟩) (by decide) (by simp; omega) w1) fun vv hh hR'=>?_
 obtain ⟨_,rfl,rfl⟩ | ⟨hw1,_⟩:=hR'
 case inr=>exact absurd rfl hw1
 refine OpsD.run (l:=[v 13 16,o 17 (.extract (t 13) 0),o 18 (.extract (t 13) 1),o 3 (.lalloc [.slice none 0 (some 0),.slice none 0 (some 0),.int .i64 0,.slice none 0 (some 0)]),u (.store 4 (t 3) (t 17)),v 4 18]) (r:=[]) (s1:=[(4,.val (.int .i64 15)),(3,.var zLay),(3,.var zLay),(18,.val (.int .i64 15)),(17,.val (.agg zLay)),(13,.val (.tuple [.agg zLay,.int .i64 15])),(16,.val (.tuple [.agg zLay,.int .i64 15])),(15,.val (.slice (some (H1.length,0)) 1 (some 1))),(14,.val (.agg (plainU sysT []).cells)),(1,.var (layV (allW k []) ci mi C cc M mc ra rc)),(2,.val (.int .i64 0))]) (h1:=⟨H1++[.cells 4 (plainU sysT []).cells],b1,w1⟩) (fun k'=>by rw [hsys]; unfold layV zLay; simp (disch:=omega) []) (OpsD.done ?_)
 simp only []
 have hkeep2:∀ (x:List AVal) (z a b c d e f g:Slot),keepK [1,2,4] [(4,.val (.int .i64 15)),(3,z),(3,a),(18,b),(17,c),(13,d),(16,e),(15,f),(14,g),(1,.var x),(2,.val (.int .i64 0))]=[(1,.var x),(2,.val (.int .i64 0)),(4,.val (.int .i64 15))]:=fun x z a b c d e f g=>by simp
 rw [hkeep2]
 have hX2:LayX (allW k []) m (H1++[.cells 4 (plainU sysT []).cells]) ci mi C M ra rc:=by
  have hk:∀ (i:Nat) (o:AObj),H1[i]? = some o→(H1++[.cells 4 (plainU sysT []).cells])[i]? = some o:=fun i o hg=>by rw [ah (aj hg)]; exact hg
  exact ⟨hk _ _ hX.cs,hk _ _ hX.ms,hX.rs.keep fun p _ o _ hg=>hk p o hg,fun c hc=>⟨(hX.cv c hc).1.keep fun p _ o _ hg=>hk p o hg,(hX.cv c hc).2.keep fun p _ o _ hg=>hk p o hg⟩,hX.cl,hX.ct,hX.ml,hX.mt⟩
 refine CodeD.run hT hm (fun k'=>r61 k' hX2 hg (by simp; omega)) ?_
 refine ⟨.bool true,⟨O,b1,w⟩,?_,rfl,rfl⟩
 have:¬ w1 < O.length:=by omega
 simp [funcEnd,code61,resultsL,tupled,finish,AVal.under,AVal.unders,Heap.size,this]
end
end
end Go.Abs.AbsSlot

namespace Go.Abs.AbsSlot
open Go.Abs.AbsHier Go.Abs.AbsDesc
open Go.Abs.Short
section
variable {O:List AObj} {b w:Nat}
section
attribute [-simp] getElem?_pos getElem?_neg List.all_eq_true
attribute [local simp] gz gs nltT nltF iltT iltF ileT nleT dh
theorem l58 {A B:List Int} {aa bb:Option (Nat × Nat)} {ca cb:Option Nat} (hA:Row O 1 intC A aa) (hB:Row O 1 intC B bb) (hl:A.length=B.length) (hn:A.length≤1000000000):∀ (j i w:Nat),i+j=A.length→∀ (k:AExit→St→Option (AVal × Heap)),
  xK T (.loop code58L0) ⟨[(0,.val (.slice aa A.length ca)),(1,.val (.slice bb B.length cb)),(12,.val (.int .i64 A.length)),(13,.val (.int .i64 i))],⟨O,b,w⟩⟩ (k:=⟨k⟩) =
   if A.drop i=B.drop i then k (.exit 0) ⟨[],⟨O,b,w⟩⟩ else k .ret ⟨[(4,.val (.bool false))],⟨O,b,w⟩⟩
 | 0,i,w,hi,k=>by
  rw [bq (by omega),bq (by omega),if_pos rfl,bl]
  simp (disch:=omega) [code58L0]
 | j+1,i,w,hi,k=>by
  obtain ⟨x,hx⟩:∃ x,A[i]? = some x:=⟨_,ag (by omega)⟩
  obtain ⟨y,hy⟩:∃ y,B[i]? = some y:=⟨_,ag (by omega)⟩
  obtain ⟨p,o,cs,ha,hp,hpl,hcs,hv⟩:=g7 hA hx
  obtain ⟨p2,o2,cs2,hb2,hp2,hpl2,hcs2,hv2⟩:=g7 hB hy
  have e2:((i+1:Nat):Int)=(i:Int)+1:=by omega
  have ih:=l58 (ca:=ca) (cb:=cb) hA hB hl hn j (i+1) w (by omega) k
  rw [e2] at ih
  rw [j7 hx,j7 hy,bl]
  have hix:intC x=[.int .i64 x]:=rfl
  have hiy:intC y=[.int .i64 y]:=rfl
  rw [hix] at hv; rw [hiy] at hv2
  rw [Nat.mul_one] at hv hv2 hcs hcs2
  have g1:cs[o+i]? = some (.int .i64 x):=by have:=i7 (k:=0) hv (by decide); rw [ef] at this; exact this
  have g2:cs2[o2+i]? = some (.int .i64 y):=by have:=i7 (k:=0) hv2 (by decide); rw [ef] at this; exact this
  rw [ha,hb2] at ih ⊢
  by_cases c:x=y
  ·subst c
   simp only [List.cons.injEq,true_and]
   rw [← ih]
   generalize ACode.loop code58L0=LL
   simp (disch:=omega) [code58L0,hp,hp2,g1,g2,hcs,hcs2]
  ·rw [if_neg (by simp [c])]
   generalize ACode.loop code58L0=LL
   simp (disch:=omega) [code58L0,hp,hp2,g1,g2,hcs,hcs2,c]
theorem s58 {A B:List Int} {aa bb:Option (Nat × Nat)} {ca cb:Option Nat} (hA:Row O 1 intC A aa) (hB:Row O 1 intC B bb) (hn:A.length≤1000000000) (hm:B.length≤1000000000) :
  xCall T 58 [.slice aa A.length ca,.slice bb B.length cb] ⟨O,b,w⟩=some (.bool (decide (A=B)),⟨O,b,w⟩):=by
 by_cases c:A.length=B.length
 ·have hl:=fun w=>l58 (b:=b) (ca:=ca) (cb:=cb) hA hB c hn A.length 0 w (by omega)
  simp only [bf,d8,c] at hl
  simp only [c]
  by_cases e:A=B
  ·simp only [if_pos e] at hl
   simp (disch:=omega) [cd t58,code58,hl,e]
  ·simp only [if_neg e] at hl
   simp (disch:=omega) [cd t58,code58,hl,e]
 ·have e:A≠B:=fun h=>c (by rw [h])
  have c':¬ (A.length:Int)=B.length:=by omega
  simp (disch:=omega) [cd t58,code58,c,c',e]
end
variable {W:List UnitU} {dep:Nat→Nat} {n ci mi:Nat} {C:List LClsU} {M:List LMethU} {ra:Option (Nat × Nat)} {rc cc mc:Option Nat}
theorem at57 (h:LayX W n O ci mi C M ra rc) (g:GW W dep) {i j q:Nat} {c s:LClsU} (hc:C[i]? = some c) (hs:C[j]? = some s) (hij:supW W i=some j) (hq:q < s.table.length) :
  ∃ (t t':Nat) (y y':LMethU),s.table[q]? = some (t:Int)∧c.table[q]? = some (t':Int)∧M[t]? = some y∧M[t']? = some y'∧y.name=y'.name∧y.desc=y'.desc∧((lineX C C.length i).any fun z=>decide (z=y'.cls))=true∧y'.slot=(q:Int):=by
 obtain ⟨u,hu,_,_,_,_,e1⟩:=h.cls hc
 obtain ⟨v,hv,_,_,_,_,e2⟩:=h.cls hs
 obtain ⟨g1,⟨X,g2⟩,g3,Y,g4⟩:=grow g hu hij hv
 rw [e2] at hq
 obtain ⟨x,hx⟩:∃ x,(RW W j).table[q]? = some x:=⟨_,ag hq⟩
 obtain ⟨x',hx'⟩:∃ x,(RW W i).table[q]? = some x:=⟨_,ag (by omega)⟩
 obtain ⟨k1,u1,j1,m1,a1,a2,a3,a4,rfl,a6,a7⟩:=table_at g hv hx
 obtain ⟨k2,u2,j2,m2,b1,b2,b3,b4,rfl,b6,b7⟩:=table_at g hu hx'
 obtain ⟨z1,hz1⟩:=h.at' a1 a2
 obtain ⟨z2,hz2⟩:=h.at' b1 b2
 have hnm:(m1.name,m1.desc)=(m2.name,m2.desc):=by
  rw [g4,ah (aj a4),a4] at b4
  exact b9 b4
 injection hnm with e3 e4
 refine ⟨_,_,_,_,by rw [e2]; exact hx,by rw [e1]; exact hx',hz1,hz2,e3,e4,?_,?_⟩
 ·rw [List.any_eq_true]
  refine ⟨k2,?_,by simp⟩
  rw [h.cl]
  exact line_mem g (fun i u hu=>by obtain ⟨c,h1,_,h2,_⟩:=h.ct i u hu; exact ⟨c,h1,h2⟩) b6 W.length u hu (g.dl i (aj hu))
 ·rw [b3,b7]; rfl
section
attribute [-simp] getElem?_pos getElem?_neg List.all_eq_true
attribute [local simp] gz gs nltT nltF iltT iltF ileT nleT dh
theorem l57i (h:LayX W n O ci mi C M ra rc) (g:GW W dep) (hn:namesOk W) (hb:b≤O.length) {k j:Nat} {c s:LClsU} (hc:C[k]? = some c) (hs:C[j]? = some s) (hkj:supW W k=some j) {y25 y26 y27:AVal}:∀ (jj i w:Nat),i+jj=s.table.length→∀ {β:Type} (k':AExit→St→Option β),
  xK T (.loop code57L0) ⟨[(3,.var (layV W ci mi C cc M mc ra rc)),(5,.val (.int .i64 k)),(6,.var c.cells),(25,.val y25),(26,.val y26),(27,.val y27),(77,.val (.slice s.ta s.table.length s.tc)),(78,.val (.int .i64 s.table.length)),(79,.val (.int .i64 i))],⟨O,b,w⟩⟩ (k:=⟨k'⟩) =
   k' (.exit 2) ⟨[(3,.var (layV W ci mi C cc M mc ra rc)),(25,.val y25),(26,.val y26),(27,.val y27)],⟨O,b,w⟩⟩
 | 0,i,w,hi,β,k'=>by
  rw [bl]
  simp (disch:=omega) [code57L0]
 | jj+1,i,w,hi,β,k'=>by
  have hok:=h.ok g hn cc mc
  obtain ⟨t,t',y,y',h1,h2,h3,h4,h5,h6,h7,h8⟩:=at57 h g hc hs hkj (q:=i) (by omega)
  obtain ⟨p,o,cs,ha,hp,hpl,hcs,hv⟩:=g7 (hok.cok s (au hs)).t h1
  obtain ⟨p2,o2,cs2,hb2,hp2,hpl2,hcs2,hv2⟩:=g7 (hok.cok c (au hc)).t h2
  have hix:∀ x:Int,intC x=[.int .i64 x]:=fun _=>rfl
  rw [hix] at hv hv2
  rw [Nat.mul_one] at hv hv2 hcs hcs2
  have g1:cs[o+i]? = some (.int .i64 t):=by have:=i7 (k:=0) hv (by decide); rw [ef] at this; exact this
  have g2:cs2[o2+i]? = some (.int .i64 t'):=by have:=i7 (k:=0) hv2 (by decide); rw [ef] at this; exact this
  have f1:=flat_get (f:=LMethU.cells) 6 lmeth_len M t y h3
  have f2:=flat_get (f:=LMethU.cells) 6 lmeth_len M t' y' h4
  have hyc:∀ y:LMethU,y.cells=[.int .i64 y.cls,.str y.name,.str y.desc,.bool y.st,.int .i64 y.slot,.int .i64 y.native]:=fun _=>rfl
  have hl1:=aj h3
  have hl2:=aj h4
  have hl3:=aj h2
  have hle:=psW_le g
  have hgl:=g.len
  have hMl:M.length≤4000:=by rw [h.ml]; have:=hle.m; omega
  have hst:s.table.length≤4040:=by
   obtain ⟨_,_,_,_,_,_,e5⟩:=h.cls hs
   rw [e5]; exact (RW_bound g j).2.2.2
  have h56:=fun w=>s56 (w:=w) (b:=b) (z:=(k:Int)) (y:=y'.cls) hok hb
  have e1:(layU W ci mi C cc M mc ra rc).cs=C:=rfl
  rw [e1,h7,layU_cells] at h56
  have e2:((i+1:Nat):Int)=(i:Int)+1:=by omega
  have ih:=l57i (y25:=y25) (y26:=y26) (y27:=y27) h g hn hb hc hs hkj jj (i+1) w (by omega) k'
  rw [e2] at ih
  have hcc:c.cells=[.str c.name,.int .i64 c.super,.int .i64 c.cells',.slice c.ra c.refs.length c.rc,.slice c.ta c.table.length c.tc]:=rfl
  have hms:=h.ms
  rw [hcc] at ih ⊢
  rw [ha] at ih ⊢
  rw [hb2] at ih ⊢
  unfold layV at h56 ih ⊢
  rw [hyc] at f1 f2
  rw [h8,← h5,← h6] at f2
  obtain ⟨f1l,f1⟩:=f1
  obtain ⟨f2l,f2⟩:=f2
  rw [bl]
  generalize ACode.loop code57L0=LL at ih ⊢
  generalize M.flatMap LMethU.cells=Y at *
  simp (disch:=omega) [code57L0,hp,hp2,g1,g2,hcs,hcs2,hms,f1,f2,f1l,f2l,h56,ih]
end
theorem row_part {α:Type} {e:Nat} {f:α→List AVal} {A X:List α} {a:Option (Nat × Nat)} (h:Row O e f (A++X) a):Row O e f A a:=⟨fun hne=>by
 obtain ⟨p,o,cs,h1,h2,h3⟩:=h.at' (by intro e; exact hne (List.append_eq_nil_iff.1 e).1)
 exact ⟨p,o,cs,h1,h2,fun j x hj=>h3 j x (by rw [ah (aj hj)]; exact hj)⟩⟩
section
attribute [-simp] getElem?_pos getElem?_neg List.all_eq_true
attribute [local simp] gz gs nltT nltF iltT iltF ileT nleT dh
theorem l57o (h:LayX W n O ci mi C M ra rc) (g:GW W dep) (hn:namesOk W) (hb:b≤O.length) {β:Type} (k':AExit→St→Option β):∀ (jj i w:Nat),i+jj=C.length →
  xK T (.loop code57L1) ⟨[(3,.var (layV W ci mi C cc M mc ra rc)),(25,.val (.slice (some (ci,0)) C.length cc)),(26,.val (.int .i64 C.length)),(27,.val (.int .i64 i))],⟨O,b,w⟩⟩ (k:=⟨k'⟩)=k' (.exit 0) ⟨[],⟨O,b,w⟩⟩
 | 0,i,w,hi=>by
  rw [bl]
  simp (disch:=omega) [code57L1]
 | jj+1,i,w,hi=>by
  have hgl:=g.len
  have hcl:=h.cl
  obtain ⟨c,hc⟩:∃ c,C[i]? = some c:=⟨_,ag (by omega)⟩
  obtain ⟨u,hu,e1,e2,e3,e4,e5⟩:=h.cls hc
  have f1:=flat_get (f:=LClsU.cells) 5 ei C i c hc
  have hcs:=h.cs
  have hcc:∀ c:LClsU,c.cells=[.str c.name,.int .i64 c.super,.int .i64 c.cells',.slice c.ra c.refs.length c.rc,.slice c.ta c.table.length c.tc]:=fun _=>rfl
  have ee:((i+1:Nat):Int)=(i:Int)+1:=by omega
  have ih:=l57o h g hn hb k' jj (i+1) w (by omega)
  rw [ee] at ih
  obtain ⟨f1l,f1⟩:=f1
  rw [hcc] at f1
  have hok:=h.ok g hn cc mc
  cases hs:supW W i with
  | none =>
   rw [hs] at e2
   have e2:c.super = -1:=e2
   rw [e2] at f1
   unfold layV at ih ⊢
   rw [bl]
   generalize ACode.loop code57L1=LL at ih ⊢
   generalize C.flatMap LClsU.cells=Y at *
   simp (disch:=omega) [code57L1,hcs,f1,f1l,ih]
  | some j =>
   rw [hs] at e2
   have e2:c.super=(j:Int):=e2
   rw [e2] at f1
   have hj:=supW_lt hs
   obtain ⟨v,hv⟩:∃ v,W[j]? = some v:=⟨_,ag hj⟩
   obtain ⟨s,hsj⟩:∃ s,C[j]? = some s:=⟨_,ag (by omega)⟩
   obtain ⟨v',hv',d1,d2,d3,d4,d5⟩:=h.cls hsj
   have f2:=flat_get (f:=LClsU.cells) 5 ei C j s hsj
   obtain ⟨f2l,f2⟩:=f2
   rw [hcc] at f2
   obtain ⟨g1,⟨X,g2⟩,g3,_⟩:=grow g hu hs hv
   obtain ⟨b1,b2,b3,b4⟩:=RW_bound g i
   obtain ⟨bb1,bb2,bb3,bb4⟩:=RW_bound g j
   rw [← e4,← d4] at g2
   rw [← e3,← d3] at g1
   rw [← e5,← d5] at g3
   rw [← e4] at b3
   rw [← d4] at bb3
   rw [← e5] at b4
   rw [← d5] at bb4
   have hck:=hok.cok c (au hc)
   have hsk:=hok.cok s (au hsj)
   have hi0:=fun (k':AExit→St→Option β) w=>l57i (b:=b) (y25:=.slice (some (ci,0)) C.length cc) (y26:=.int .i64 C.length) (y27:=.int .i64 i) (cc:=cc) (mc:=mc) h g hn hb hc hsj hs s.table.length 0 w (by omega) k'
   simp only [bf] at hi0
   have hrl:s.refs.length≤c.refs.length:=by rw [g2,bc]; omega
   rw [hcc] at hi0
   rw [e2] at hi0
   unfold layV at ih hi0 ⊢
   rcases (h.cv c (au hc)).1 with ⟨z1,z2,z3⟩ | ⟨z1,p,z2,z3,z4,z5⟩
   ·have hs0:s.refs=[]:=by rw [z1] at g2; exact (List.append_eq_nil_iff.1 g2.symm).1
    have h58:=fun w=>s58 (b:=b) (w:=w) (A:=[]) (B:=[]) (aa:=none) (bb:=s.ra) (ca:=some 0) (cb:=s.rc) (O:=O) (row_nil rfl) (row_nil rfl) (by decide) (by decide)
    simp only [co,decide_true] at h58
    rw [z1,z2,z3] at f1 hi0
    simp only [co] at f1 hi0
    rw [hs0] at f2
    rw [bl]
    generalize ACode.loop code57L1=LL at ih ⊢
    generalize C.flatMap LClsU.cells=Y at *
    simp (disch:=omega) [code57L1,hcs,f1,f1l,f2,f2l,h58,g1,g3,hi0,ih]
   ·have hR:Row O 1 intC s.refs (some (p,0)):=by
     have:=hck.r
     rw [g2,z3] at this
     exact row_part this
    have h58:=fun w=>s58 (b:=b) (w:=w) (ca:=none) (cb:=s.rc) hR hsk.r (by omega) (by omega)
    simp only [decide_true] at h58
    rw [z3,z4] at f1 hi0
    rw [bl]
    generalize ACode.loop code57L1=LL at ih ⊢
    generalize C.flatMap LClsU.cells=Y at *
    simp (disch:=omega) [code57L1,hcs,f1,f1l,f2,f2l,h58,z5,g1,g3,hrl,hi0,ih]
end
end
end Go.Abs.AbsSlot

namespace Go.Abs.AbsSlot
open Go.Abs.AbsHier Go.Abs.AbsDesc
open Go.Abs.Short
theorem body57:code57.body = .seq (R [0] [o 2 (.val F)])
 (.seq (.seq (R [0,13] [o 12 (.callg 61 []),o 13 (.un .not (t 12))])
 (.after (.cond (t 13) (.seq (R [2] [o 2 (.val F)])
 (.live [2] (.ret))) (.skip)) [0]))
 (.seq (.seq (R [0,16] [v 14 0,o 15 (.callg 60 [t 14]),o 16 (.un .not (t 15))])
 (.after (.cond (t 16) (.seq (R [2] [o 2 (.val Y)])
 (.live [2] (.ret))) (.skip)) [0]))
 (.seq (R [3,4] [v 18 0,o 19 (.callg 59 [t 18]),v 17 19,o 20 (.extract (t 17) 0),o 21 (.extract (t 17) 1),o 3 (.lalloc [.slice none 0 (some 0),.slice none 0 (some 0),.int .i64 0,.slice none 0 (some 0)]),u (.store 4 (t 3) (t 20)),v 4 21])
 (.seq (.seq (R [3,23] [v 22 4,o 23 (.bin .neq (t 22) (n 0))])
 (.after (.cond (t 23) (.seq (R [2] [o 2 (.val Y)])
 (.live [2] (.ret))) (.skip)) [3]))
 (.seq (.seq (R [3,25,26,27] [o 24 (.faddr (t 3) 0),o 25 (.load none (t 24)),o 26 (.len .sl (t 25)),o 27 (.val (n 0))])
 (.after (.block 0 (.loop code57L1)) []))
 (.seq (R [2] [o 2 (.val Y)])
 (.live [2] (.ret)))))))):=rfl
section
variable {E:Env} {O:List AObj} {b:Nat}
section
attribute [-simp] getElem?_pos getElem?_neg List.all_eq_true
attribute [local simp] gz gs nltT nltF iltT iltF ileT nleT dh
theorem c57 (hT:Agrees E T) (hm:E.P.follows .mixedOrders=true) (hF:IsCode E 116 code116) (hF1:IsCode E 161 code161) (hF2:IsCode E 59 code59) (hF3:IsCode E 61 code61) (hF4:IsCode E 57 code57) {L:List UnitU} {aa:Option (Nat × Nat)} {cc:Option Nat} (hR:Row O 4 UnitU.cells L aa) (hL:L.length≤reachB) (hok:∀ x ∈ L,x.ok O) (hf:∀ x ∈ L,x.fits) (hb:b≤O.length) (w:Nat) :
  CallD E 57 [.slice aa L.length cc] ⟨O,b,w⟩ fun v h'=>v = .bool true∧h'=⟨O,b,w⟩:=by
 have fin:∀ (H1:List AObj) (w1:Nat),O.length≤w1→funcEnd code57 ⟨O,b,w⟩ (.ret,⟨[(2,.val (.bool true))],⟨H1,b,w1⟩⟩)=some (.bool true,⟨O,b,w⟩):=fun H1 w1 h1=>by
  have:¬ w1 < O.length:=by omega
  simp [funcEnd,code57,resultsL,tupled,finish,AVal.under,AVal.unders,Heap.size,this]
 refine CallD.of_code hF4 rfl ?_
 rw [body57]
 have hen:enter 0 [AVal.slice aa L.length cc]=[(0,.val (.slice aa L.length cc))]:=rfl
 rw [hen]
 have hsz:(⟨O,b,w⟩:Heap).size=O.length:=rfl
 simp only [hsz]
 refine CodeD.seq nofun (CodeD.run (e:=.normal) (st':=⟨[(0,.val (.slice aa L.length cc))],⟨O,b,O.length⟩⟩) hT hm (fun k'=>by simp (disch:=omega) []) ?_)
 refine CodeD.seq nofun ?_
 refine CodeD.seq nofun (CodeD.after (CodeD.region hT hm ?_))
 refine OpsD.call (g:=61) (xs:=[]) rfl rfl rfl (c61 hT hm hF hF1 hF2 hF3 hb O.length) fun vv hh hR'=>?_
 obtain ⟨rfl,rfl⟩:=hR'
 refine OpsD.run (l:=[o 13 (.un .not (t 12))]) (r:=[]) (s1:=[(13,.val (.bool false)),(12,.val (.bool true)),(0,.val (.slice aa L.length cc))]) (h1:=⟨O,b,O.length⟩) (fun k'=>by simp (disch:=omega) []) (OpsD.done ?_)
 simp only []
 have hk1:keepK [0,13] [(13,Slot.val (.bool false)),(12,.val (.bool true)),(0,.val (.slice aa L.length cc))]=[(0,.val (.slice aa L.length cc)),(13,.val (.bool false))]:=by simp
 rw [hk1]
 refine CodeD.run (e:=.normal) (st':=⟨[(0,.val (.slice aa L.length cc))],⟨O,b,O.length⟩⟩) hT hm (fun k'=>by simp (disch:=omega) []) ?_
 obtain ⟨r,h60,hfew⟩:=s60 (w:=O.length) (cc:=cc) hR hL hok hf hb
 cases r with
 | false =>
  have hu:CodeD E (.seq (R [0,16] [v 14 0,o 15 (.callg 60 [t 14]),o 16 (.un .not (t 15))])
 (.after (.cond (t 16) (.seq (R [2] [o 2 (.val Y)])
 (.live [2] (.ret))) (.skip)) [0])) ⟨[(0,.val (.slice aa L.length cc))],⟨O,b,O.length⟩⟩ (fun e st=>e = .ret∧st=⟨[(2,.val (.bool true))],⟨O,b,O.length⟩⟩) :=
   CodeD.run (e:=.ret) (st':=⟨[(2,.val (.bool true))],⟨O,b,O.length⟩⟩) hT hm (fun k'=>by simp (disch:=omega) [h60]) ⟨rfl,rfl⟩
  refine CodeD.seq nofun (hu.mono fun e st hq _=>?_)
  obtain ⟨rfl,rfl⟩:=hq
  exact ⟨_,_,fin _ _ (ak _),rfl,rfl⟩
 | true =>
  obtain ⟨hl,hfl⟩:=hfew rfl
  refine CodeD.seq nofun (CodeD.run (e:=.normal) (st':=⟨[(0,.val (.slice aa L.length cc))],⟨O,b,O.length⟩⟩) hT hm (fun k'=>by simp (disch:=omega) [h60]) ?_)
  refine CodeD.seq nofun (CodeD.after (CodeD.region hT hm ?_))
  refine OpsD.run (l:=[v 18 0]) (r:=[o 19 (.callg 59 [t 18]),v 17 19,o 20 (.extract (t 17) 0),o 21 (.extract (t 17) 1),o 3 (.lalloc [.slice none 0 (some 0),.slice none 0 (some 0),.int .i64 0,.slice none 0 (some 0)]),u (.store 4 (t 3) (t 20)),v 4 21])
   (s1:=[(18,.val (.slice aa L.length cc)),(0,.val (.slice aa L.length cc))]) (h1:=⟨O,b,O.length⟩) (fun k'=>by simp (disch:=omega) []) ?_
  refine OpsD.call (g:=59) (xs:=[t 18]) rfl rfl rfl (c59 hT hm hF hF1 hF2 hR hok hfl (by omega) hb O.length) fun vv hh hR'=>?_
  obtain ⟨_,rfl,rfl⟩ | ⟨hw,k,m,ci,mi,C,cc',M,mc,ra,rc,rfl,hbs,hpr,hwm,hX⟩:=hR'
  ·refine OpsD.run (l:=[v 17 19,o 20 (.extract (t 17) 0),o 21 (.extract (t 17) 1),o 3 (.lalloc [.slice none 0 (some 0),.slice none 0 (some 0),.int .i64 0,.slice none 0 (some 0)]),u (.store 4 (t 3) (t 20)),v 4 21]) (r:=[]) (s1:=[(4,.val (.int .i64 15)),(3,.var zLay),(3,.var zLay),(21,.val (.int .i64 15)),(20,.val (.agg zLay)),(17,.val (.tuple [.agg zLay,.int .i64 15])),(19,.val (.tuple [.agg zLay,.int .i64 15])),(18,.val (.slice aa L.length cc)),(0,.val (.slice aa L.length cc))]) (h1:=⟨O,b,O.length⟩) (fun k'=>by unfold zLay; simp (disch:=omega) []) (OpsD.done ?_)
   simp only []
   have hk2:∀ (x a b c d e f:Slot),keepK [3,4] [(4,.val (.int .i64 15)),(3,.var zLay),(3,x),(21,a),(20,b),(17,c),(19,d),(18,e),(0,f)]=[(3,.var zLay),(4,.val (.int .i64 15))]:=fun x a b c d e f=>by simp
   rw [hk2]
   have hu:CodeD E (.seq (R [3,23] [v 22 4,o 23 (.bin .neq (t 22) (n 0))])
 (.after (.cond (t 23) (.seq (R [2] [o 2 (.val Y)])
 (.live [2] (.ret))) (.skip)) [3])) ⟨[(3,.var zLay),(4,.val (.int .i64 15))],⟨O,b,O.length⟩⟩ (fun e st=>e = .ret∧st=⟨[(2,.val (.bool true))],⟨O,b,O.length⟩⟩) :=
    CodeD.run (e:=.ret) (st':=⟨[(2,.val (.bool true))],⟨O,b,O.length⟩⟩) hT hm (fun k'=>by simp (disch:=omega) []) ⟨rfl,rfl⟩
   refine CodeD.seq nofun (hu.mono fun e st hq _=>?_)
   obtain ⟨rfl,rfl⟩:=hq
   exact ⟨_,_,fin _ _ (ak _),rfl,rfl⟩
  ·obtain ⟨H1,b1,w1⟩:=hh
   simp only at hbs hpr hwm hX
   subst hbs
   have hg:=gw_of_world hw hfl k
   have hH1:O.length≤H1.length:=hpr.len
   have hnm:namesOk (allW k L):=allW_namesOk hf
   refine OpsD.run (l:=[v 17 19,o 20 (.extract (t 17) 0),o 21 (.extract (t 17) 1),o 3 (.lalloc [.slice none 0 (some 0),.slice none 0 (some 0),.int .i64 0,.slice none 0 (some 0)]),u (.store 4 (t 3) (t 20)),v 4 21]) (r:=[]) (s1:=[(4,.val (.int .i64 0)),(3,.var (layV (allW k L) ci mi C cc' M mc ra rc)),(3,.var zLay),(21,.val (.int .i64 0)),(20,.val (.agg (layV (allW k L) ci mi C cc' M mc ra rc))),(17,.val (.tuple [.agg (layV (allW k L) ci mi C cc' M mc ra rc),.int .i64 0])),(19,.val (.tuple [.agg (layV (allW k L) ci mi C cc' M mc ra rc),.int .i64 0])),(18,.val (.slice aa L.length cc)),(0,.val (.slice aa L.length cc))]) (h1:=⟨H1,b1,w1⟩) (fun k'=>by unfold layV zLay; simp (disch:=omega) []) (OpsD.done ?_)
   simp only []
   have hk2:∀ (y:List AVal) (x a b c d e f:Slot),keepK [3,4] [(4,.val (.int .i64 0)),(3,.var y),(3,x),(21,a),(20,b),(17,c),(19,d),(18,e),(0,f)]=[(3,.var y),(4,.val (.int .i64 0))]:=fun y x a b c d e f=>by simp
   rw [hk2]
   refine CodeD.seq nofun (CodeD.run (e:=.normal) (st':=⟨[(3,.var (layV (allW k L) ci mi C cc' M mc ra rc))],⟨H1,b1,w1⟩⟩) hT hm (fun k'=>by simp (disch:=omega) []) ?_)
   have hlo:=fun {β:Type} (k':AExit→St→Option β) w=>l57o (cc:=cc') (mc:=mc) hX hg hnm (by omega:b1≤H1.length) k' C.length 0 w (by omega)
   refine CodeD.run (e:=.ret) (st':=⟨[(2,.val (.bool true))],⟨H1,b1,w1⟩⟩) hT hm (fun k'=>?_) ?_
   ·have hlo:=fun (k':AExit→St→Option Unit) w=>hlo k' w
    simp only [bf] at hlo
    unfold layV at hlo ⊢
    simp (disch:=omega) [hlo]
   ·exact ⟨_,_,fin _ _ (by omega),rfl,rfl⟩
end
end
end Go.Abs.AbsSlot

namespace Go.Abs
def AOper.isLoc (o:AOper):Bool:=match o.op with
 | .lalloc _ | .lbox _ | .ext (.hstore _) _=>true
 | _=>false
def locsOf:Nat→List AOper→List Nat
 | _,[]=>[]
 | i,o :: r=>if o.isLoc then i :: locsOf (i+1) r else locsOf (i+1) r
def ACode.hint:ACode→Hint
 | .skip | .exit _ | .ret | .next _ _=>.leaf
 | .region gs=>.reg (gs.map fun g=>(g.quiet,g.ops.length)) (locsOf 0 (gs.flatMap Seg.ops))
 | .seq (.next _ _) _=>.next
 | .seq a b=>.seq a.hint b.hint
 | .cond (.const (.str [])) .skip .skip=>.stuck
 | .cond _ a b=>.cond a.hint b.hint
 | .block _ c=>.block c.hint
 | .loop c=>.loop c.hint
 | .live l c=>.live l c.hint
 | .after c l=>.after c.hint l
 | .rangeFunc _ g caps _ a b=>.rangeFunc g caps a.hint b.hint
theorem ow {E:Env} {T:Nat→Option AFunc} {f g:Nat} {fn:Func} {c:AFunc} {b:Bool} {hint:Hint} (h3:cFunc E b hint fn=some c) (h1:E.P.funcs[f]? = some fn) (h2:T g=some c) (h4:RndOK E c.body.rounds):FnOK E T f g:=.inr (.inl ⟨_,_,_,_,h1,h2,h3,h4⟩)
end Go.Abs
