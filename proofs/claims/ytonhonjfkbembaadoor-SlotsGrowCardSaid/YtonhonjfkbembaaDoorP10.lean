/-
  Texts joined.
-/
import Derived.Test.YtonhonjfkbembaaDoorP0
import Derived.Test.YtonhonjfkbembaaDoorP9
import Derived.Test.YtonhonjfkbembaaDoorP8
set_option linter.unusedVariables false
set_option linter.unusedSimpArgs false
set_option maxRecDepth 100000
namespace Go.Abs.AbsSlot
open Go.Abs.AbsHier Go.Abs.AbsDesc
open Go.Abs.Short
section
variable {E:Env} {P:Par} {b:Nat}
theorem set_sameC {α:Type} {C:List α} {k:Nat} {c:α} (h:C[k]? = some c):C.set k c=C:=by
 refine eu fun q=>?_
 by_cases e:k=q
 ·subst e; rw [bv (aj h),h]
 ·rw [ai e]
theorem c161 (hT:Agrees E T) (hm:E.P.follows .mixedOrders=true) (hF:IsCode E 161 code161) (hP:P.ok b):∀ (d k:Nat),P.dep k < d→k < P.W.length→∀ (H:List AObj) (C:List LClsU) (M:List LMethU) (D:List Bool) (S:List (Option Nat)) (Z:List (Key × Int)) (Q X:Nat→Prop) (w:Nat),(∀ i,Q i→P.dep k < P.dep i)→LS P H C M D S Z Q X →
  CallD E 161 [.ptr (some (P.K,0)),.int .i64 k,.slice (some (P.fi,0)) P.W.length P.fc,.slice (some (P.di,0)) P.W.length P.dc] ⟨H,b,w⟩ (Post P b H D Q X k w):=by
 intro d
 induction d with
 | zero=>intro k hk; omega
 | succ d ihd =>
  intro k hdk hkl H C M D S Z Q X w hQ h
  obtain ⟨l1,l2,l3,l4,l5,l6,l7,l8,l9⟩:=hP.lts
  obtain ⟨m1,m2',m3,m4,m5⟩:=hP.ms
  have hbm:=hP.b
  have hln:=h.len
  obtain ⟨u,hu⟩:∃ u,P.W[k]? = some u:=⟨_,ag hkl⟩
  obtain ⟨fr,hf⟩:∃ fr,P.F[k]? = some fr:=⟨_,ag (by rw [hP.fl]; exact hkl)⟩
  obtain ⟨bd,hbd⟩:∃ bd,D[k]? = some bd:=⟨_,ag (by rw [h.dl]; exact hkl)⟩
  have hxd:(D.map AVal.bool)[k]? = some (.bool bd):=by rw [cq,hbd]; rfl
  have hDl:(D.map AVal.bool).length=P.W.length:=by rw [ip]; exact h.dl
  refine CallD.of_code hF rfl ?_
  rw [body161]
  have hen:enter 0 [AVal.ptr (some (P.K,0)),.int .i64 k,.slice (some (P.fi,0)) P.W.length P.fc,.slice (some (P.di,0)) P.W.length P.dc]=[(0,.val (.ptr (some (P.K,0)))),(1,.val (.int .i64 k)),(2,.val (.slice (some (P.fi,0)) P.W.length P.fc)),(3,.val (.slice (some (P.di,0)) P.W.length P.dc))]:=rfl
  rw [hen]
  have hsz:(⟨H,b,w⟩:Heap).size=H.length:=rfl
  simp only [hsz]
  cases bd with
  | true =>
   refine CodeD.seq nofun (CodeD.run hT hm (fun k'=>rt161 k' h.dn hxd hkl) ?_)
   refine ⟨.tuple [],⟨H,b,w⟩,?_,rfl,H,w,C,M,D,S,Z,rfl,h,hbd,fun i hi=>hi,Upd5.refl P H,ak _,by omega,ak _⟩
   simp [funcEnd,code161,resultsL,tupled,finish,Heap.size,AVal.under,AVal.unders]
  | false =>
   have hQk:¬ Q k:=fun q=>by have:=hQ k q; omega
   have h1:=h.start hP hbd
   have hset:(D.map AVal.bool).take k ++ .bool true :: (D.map AVal.bool).drop (k+1)=(D.set k true).map AVal.bool:=by
    rw [List.map_set,List.set_eq_take_append_cons_drop,if_pos (by rw [hDl]; exact hkl)]
   refine CodeD.seq nofun (CodeD.run hT hm (fun k'=>ra161 k' h.dn hxd hkl) ?_)
   refine CodeD.seq nofun (CodeD.run hT hm (fun k'=>rb161 k' h.dn (by rw [hDl]; exact hkl) hkl (by omega) hset) ?_)
   simp only []
   generalize hG0:H.set P.di (.cells 1 ((D.set k true).map AVal.bool))=G0 at h1
   have hG0l:G0.length=H.length:=by rw [← hG0]; simp
   have e0:∀ i:Nat,i < H.length→(G0++[nObj []])[i]? = G0[i]?:=fun i hi=>ah (by omega)
   have k0:=h1.k; rw [e0 _ (by omega)] at k0
   have cs0:=h1.cs; rw [e0 _ (by omega)] at cs0
   have um0:=h1.um; rw [e0 _ (by omega)] at um0
   have hck:=h1.ini k u hu (.inr (.inr rfl))
   have hx0:(C.flatMap LClsU.cells)[k*5]? = some (.str u.name):=by
    have:=flat_at ei hck (k:=0) (by decide)
    rw [ef] at this
    rw [this]; rfl
   have hx1:(C.flatMap LClsU.cells)[k*5+1]? = some (.int .i64 (supI (P.sup k))):=flat_at ei hck (by decide)
   refine CodeD.seq nofun (CodeD.run hT hm (fun k'=>rc161 k' k0 hkl) ?_)
   refine CodeD.seq nofun (CodeD.run hT hm (fun k'=>rd161 k' k0 cs0 hx0 um0 (hP.u k u hu)) ?_)
   refine CodeD.seq nofun (CodeD.run hT hm (fun k'=>re161 k') ?_)
   simp only []
   rw [hG0l]
   have hmo:(G0++[nObj []])[H.length]? = some (nObj []):=by rw [← hG0l]; simp
   have hDk:(D.set k true)[k]? = some true:=bv (aj hbd)
   have hDm:∀ i:Nat,D[i]? = some true→(D.set k true)[i]? = some true:=fun i hi=>by
    by_cases e:k=i
    ·subst e; exact hDk
    ·rw [ai e]; exact hi
   have hupG:∀ (i:Nat) (o:AObj),H[i]? = some o→i≠P.di→(G0++[nObj []])[i]? = some o:=fun i o hg hne=>by
    rw [e0 i (aj hg),← hG0,ai (Ne.symm hne)]; exact hg
   generalize hG:G0++[nObj []]=G at h1 hmo hupG
   have hGl:G.length=H.length+1:=by rw [← hG]; simp; omega
   have hwG:P.m0≤min H.length P.di∧min H.length P.di < H.length:=by omega
   generalize min H.length P.di=wG at hwG
   have fin:∀ st,MidPost P b k H.length u G (D.set k true) Q X wG st→CodeD E (.seq a161g (.seq a161h a161i)) st (fun e st=>∃ v h',funcEnd code161 ⟨H,b,w⟩ (e,st)=some (v,h')∧Post P b H D Q X k w v h'):=by
    rintro st ⟨H3,H5,C3,M3,D3,S3,Z3,c,A,w5,rfl,hM,q1,q2,q3,q4,q5⟩
    exact mid161 hT hm hP hM hu hf hQk (fun i hi=>h.xl i hi) hln (fun i hi=>q1 i (hDm i hi)) (fun i o hg a1 a2 a3 a4 a5=>⟨q2 i o (hupG i o hg a4) a1 a2 a3 a4 a5,by have:=aj hg; omega⟩) (by omega) q4 (by omega)
   refine CodeD.seq nofun ?_
   refine CodeD.seq nofun (CodeD.run hT hm (fun k'=>rf161 k' h1.cs hx1) ?_)
   refine CodeD.after ?_
   cases hj:P.sup k with
   | none =>
    refine CodeD.cond (p:=false) (by simp [hj,supI]) ?_
    refine CodeD.run (e:=.normal) hT hm (fun k'=>xK_skip ..) ?_
    refine fin _ ⟨G,G,C,M,D.set k true,S,Z,P.init k u,[],wG,by simp,?_,fun i hi=>hi,Upd5.refl P G,ak _,by omega,ak _⟩
    refine ⟨h1,hDk,hmo,ak _,fun i o hg _ _=>hg,by rw [set_sameC hck]; exact h1.cs,?_,RV.nil,RV.nil,fun p q q' e=>(by cases e),hmo,?_⟩
    ·unfold Par.base; rw [hj]; exact ⟨rfl,by rw [← hj]; rfl,rfl,rfl,rfl⟩
    ·unfold Par.base; rw [hj]; exact MI.nil
   | some j =>
    obtain ⟨hjn,hjd⟩:=hP.sl k j hj hkl
    refine CodeD.cond (p:=true) (by simp [hj,supI]) ?_
    rw [if_pos rfl]
    refine (sup161 hT hm hP hj hjn (fun q=>by
     rcases q with q | q
     ·have:=hQ j q; omega
     ·subst q; omega) hu hln hmo hDk hwG.1 h1 fun w=>ihd j (by omega) hjn G _ _ _ _ _ _ _ w (fun i hi=>by
     rcases hi with hi | hi
     ·have:=hQ i hi; omega
     ·subst hi; exact hjd) h1).mono fun e st hq _=>?_
    obtain ⟨rfl,hq⟩:=hq
    simp only []
    refine fin _ ?_
    obtain ⟨H3,H5,C3,M3,D3,S3,Z3,c,A,w5,rfl,hr⟩:=hq
    exact ⟨H3,H5,C3,M3,D3,S3,Z3,c,A,w5,by simp,hr⟩
end
end Go.Abs.AbsSlot

namespace Go.Abs.AbsSlot
open Go.Abs.AbsHier Go.Abs.AbsDesc
open Go.Abs.Short
def statR:List FieldU→Int→List Int→Int × List Int
 | [],n,r=>(n,r)
 | f :: fs,n,r=>if f.st then statR fs (n+1) (if isRef f.desc then r++[n] else r) else statR fs n r
def statZ (cl:Str):List FieldU→Int→List (Key × Int)→List (Key × Int)
 | [],_,Z=>Z
 | f :: fs,n,Z=>if f.st then statZ cl fs (n+1) (putE Z (cl,f.name,f.desc) n) else statZ cl fs n Z
def kS (y0 y1 y4 y5 y7:AVal) (mz:Nat) (n:Int) (R:List Int) (ra:Option (Nat × Nat)) (rc:Option Nat):List AVal:=[y0,y1,.int .i64 n,.slice ra R.length rc,y4,y5,.map (some mz),y7]
structure SO (lb:Nat) (H0 H:List AObj) (ra0:Option (Nat × Nat)) (K mz:Nat) (y0 y1 y4 y5 y7:AVal) (n:Int) (R:List Int) (ra:Option (Nat × Nat)) (rc:Option Nat) (Z:List (Key × Int)):Prop where
 up:∀ i o,H0[i]? = some o→i≠K→i≠mz→(∀ q,ra0≠some (i,q))→H[i]? = some o
 len:H0.length≤H.length
 k0:∃ cs,H0[K]? = some (.cells 8 cs)
 z0:∃ es n,H0[mz]? = some (.map es n)
 t0:∀ p q,ra0=some (p,q)→∃ cs,H0[p]? = some (.cells 1 cs)
 k:H[K]? = some (.cells 8 (kS y0 y1 y4 y5 y7 mz n R ra rc))
 zs:H[mz]? = some (zObj Z)
 rs:RV 1 intC lb H R ra rc
 rn:ra=ra0∨∃ p,ra=some (p,0)∧H0.length≤p
section
variable {lb:Nat} {H0 H:List AObj} {ra0:Option (Nat × Nat)} {K mz b:Nat} {y0 y1 y4 y5 y7:AVal} {n:Int} {R:List Int} {ra:Option (Nat × Nat)} {rc:Option Nat} {Z:List (Key × Int)}
theorem SO.ne (h:SO lb H0 H ra0 K mz y0 y1 y4 y5 y7 n R ra rc Z):K≠mz:=fun e=>by
 obtain ⟨cs,h1⟩:=h.k0
 obtain ⟨es,n,h2⟩:=h.z0
 rw [e,h2] at h1; cases h1
theorem SO.tne (h:SO lb H0 H ra0 K mz y0 y1 y4 y5 y7 n R ra rc Z) {p q:Nat} (hp:ra=some (p,q)):p≠K∧p≠mz:=by
 obtain ⟨c1,h1⟩:=h.k0
 obtain ⟨es,n,h3⟩:=h.z0
 have l1:=aj h1
 have l3:=aj h3
 rcases h.rn with h4 | ⟨p',h4,h5⟩
 ·obtain ⟨cs,h6⟩:=h.t0 p q (h4.symm.trans hp)
  refine ⟨fun e=>?_,fun e=>?_⟩
  ·rw [e,h1] at h6; cases h6
  ·rw [e,h3] at h6; cases h6
 ·rw [h4] at hp; cases hp
  omega
theorem SO.get (h:SO lb H0 H ra0 K mz y0 y1 y4 y5 y7 n R ra rc Z) {i e:Nat} {cs:List AVal} (hg:H0[i]? = some (.cells e cs)) (he:e≠8∧e≠1):H[i]? = some (.cells e cs):=by
 obtain ⟨c1,h1⟩:=h.k0
 obtain ⟨es,n,h3⟩:=h.z0
 refine h.up i _ hg (fun e'=>?_) (fun e'=>?_) fun q hq=>?_
 ·rw [e',h1] at hg; cases hg; exact he.1 rfl
 ·rw [e',h3] at hg; cases hg
 ·obtain ⟨cs',h1⟩:=h.t0 i q hq
  rw [hg] at h1; cases h1; exact he.2 rfl
theorem SO.row (h:SO lb H0 H ra0 K mz y0 y1 y4 y5 y7 n R ra rc Z) {α:Type} {e:Nat} {f:α→List AVal} {L:List α} {a:Option (Nat × Nat)} (hr:Row H0 e f L a) (he:e≠8∧e≠1):Row H e f L a :=
 ⟨fun hne=>by
  obtain ⟨p,o,cs,h1,h2,h3⟩:=hr.at' hne
  exact ⟨p,o,cs,h1,h.get h2 he,h3⟩⟩
theorem SO.setN (h:SO lb H0 H ra0 K mz y0 y1 y4 y5 y7 n R ra rc Z) (n':Int):SO lb H0 (H.set K (.cells 8 (kS y0 y1 y4 y5 y7 mz n' R ra rc))) ra0 K mz y0 y1 y4 y5 y7 n' R ra rc Z :=
 ⟨fun i o hg h1 h2 h3=>by rw [ai (Ne.symm h1)]; exact h.up i o hg h1 h2 h3,by simpa using h.len,h.k0,h.z0,h.t0,ic h.k,by rw [ai h.ne]; exact h.zs,
  h.rs.keep fun p q o hp hg=>by rw [ai (h.tne hp).1.symm]; exact hg,h.rn⟩
theorem SO.setZ (h:SO lb H0 H ra0 K mz y0 y1 y4 y5 y7 n R ra rc Z) (Z':List (Key × Int)):SO lb H0 (H.set mz (zObj Z')) ra0 K mz y0 y1 y4 y5 y7 n R ra rc Z' :=
 ⟨fun i o hg h1 h2 h3=>by rw [ai (Ne.symm h2)]; exact h.up i o hg h1 h2 h3,by simpa using h.len,h.k0,h.z0,h.t0,by rw [ai h.ne.symm]; exact h.k,ic h.zs,
  h.rs.keep fun p q o hp hg=>by rw [ai (h.tne hp).2.symm]; exact hg,h.rn⟩
theorem SO.addR (h:SO lb H0 H ra0 K mz y0 y1 y4 y5 y7 n R ra rc Z) (hb:b≤lb) (hlb:lb≤H0.length) (hl:R.length≤1000000) (x:Int):∃ H',H.length+2=H'.length∧(∀ w m,m≤w→m≤lb→m≤nxA ra w)∧(∀ w,nxA ra w≤w)∧H'[H.length+1]? = some (.cells 1 ((R++[x]).flatMap intC))∧(∀ p q,ra=some (p,q)→H'[p]? = some .dead) ∧
  H'[K]? = some (.cells 8 (kS y0 y1 y4 y5 y7 mz n R ra rc))∧(∀ w,aAppend 1 8 ⟨H++[.cells 1 [.int .i64 x]],b,w⟩ (.slice ra R.length rc) (.slice (some (H.length,0)) 1 (some 1))=some (.slice (some (H.length+1,0)) (R.length+1) none,⟨H',b,nxA ra w⟩)) ∧
  SO lb H0 (H'.set K (.cells 8 (kS y0 y1 y4 y5 y7 mz n (R++[x]) (some (H.length+1,0)) none))) ra0 K mz y0 y1 y4 y5 y7 n (R++[x]) (some (H.length+1,0)) none Z:=by
 have hln:=h.len
 obtain ⟨H',h1,h2,h3,h4,h5,h7,h6⟩:=h.rs.add (by':=8) km (by omega) hb (by omega) (by omega) x
 have hk:=h3 _ _ h.k fun q e=>(h.tne e).1 rfl
 have hkl:=aj h.k
 refine ⟨H',h2,h4,h5,?_,h7,hk,h6,?_⟩
 ·rcases h1 with ⟨q,_⟩ | ⟨_,p,_,q2,_,q4⟩
  ·simp at q
  ·cases q2; exact q4
 ·refine ⟨fun i o hg q1 q2 q3=>?_,by rw [br]; omega,h.k0,h.z0,h.t0,ic hk,?_,?_,.inr ⟨_,rfl,by omega⟩⟩
  ·rw [ai (Ne.symm q1)]
   refine h3 _ _ (h.up i o hg q1 q2 q3) fun q e=>?_
   rcases h.rn with h8 | ⟨p',h8,h9⟩
   ·exact q3 q (h8.symm.trans e)
   ·rw [h8] at e; cases e
    have:=aj hg; omega
  ·rw [ai h.ne]; exact h3 _ _ h.zs fun q e=>(h.tne e).2 rfl
  ·exact h1.keep fun p q o hp hg=>by
    cases hp
    rw [ai (by omega)]; exact hg
end
def app285:ACode:=.after (.region [⟨true,[0,0,2,6,14,30,0,64,192,448,960,1984,4094],[v 21 0,v 22 0,o 23 (.nilcheck (t 22)),o 24 (.faddr (t 23) 0),o 25 (.faddr (t 24) 3),o 26 (.load none (t 25)),v 27 0,o 28 (.nilcheck (t 27)),o 29 (.faddr (t 28) 0),o 30 (.faddr (t 29) 2),o 31 (.load none (t 30)),o 32 (.mkslice 1 1 [.int .i64 0] [(0,1,t 31)]),o 33 (.append 1 8 (t 26) (t 32))]⟩,⟨false,[],[o 34 (.nilcheck (t 21)),o 35 (.faddr (t 34) 0),o 36 (.faddr (t 35) 3),u (.store 1 (t 36) (t 33))]⟩]) [0,1,5,9,10,11]
theorem app285_eq:code285L0 = .live [0,1,9,10,11] (.seq (R [0,1,9,10,11,12] [o 12 (.bin .lss (t 11) (t 10))])
 (.seq (.after (.cond (t 12) (.skip) (.live [] (.exit 0))) [0,1,9,10,11])
 (.seq (.after (.block 1 (.seq (R [0,1,5,9,10,11] [o 13 (.iaddr 3 (t 9) (t 11)),o 14 (.load (some 3) (t 13)),o 5 (.lalloc [.bool false,.str [],.str []]),u (.store 3 (t 5) (t 14))])
 (.seq (.seq (R [0,1,5,9,10,11,17] [o 15 (.faddr (t 5) 0),o 16 (.load none (t 15)),o 17 (.un .not (t 16))])
 (.after (.cond (t 17) (.live [0,1,9,10,11] (.exit 1)) (.skip)) [0,1,5,9,10,11]))
 (.seq (.seq (R [0,1,5,9,10,11,20] [o 18 (.faddr (t 5) 2),o 19 (.load none (t 18)),o 20 (.callg 30 [t 19])])
 (.after (.cond (t 20) app285 (.skip)) [0,1,5,9,10,11]))
 (.seq (.after (.region [⟨true,[],[v 37 0,o 38 (.nilcheck (t 37)),o 39 (.faddr (t 38) 6),o 40 (.load none (t 39)),v 41 1,o 42 (.nilcheck (t 41)),o 43 (.faddr (t 42) 0),o 44 (.load none (t 43)),o 45 (.faddr (t 5) 1),o 46 (.load none (t 45)),o 47 (.faddr (t 5) 2),o 48 (.load none (t 47)),o 49 (.build [.str [],.str [],.str []] [(0,1,t 44),(1,1,t 46),(2,1,t 48)]),v 50 0,o 51 (.nilcheck (t 50)),o 52 (.faddr (t 51) 0),o 53 (.faddr (t 52) 2),o 54 (.load none (t 53))]⟩,⟨false,[],[u (.ext (.mapupd (.agg [.s,.s,.s])) [t 40,t 49,t 54])]⟩]) [0,1,9,10,11])
 (R [0,1,9,10,11] [v 55 0,o 56 (.nilcheck (t 55)),o 57 (.faddr (t 56) 0),o 58 (.faddr (t 57) 2),o 59 (.load none (t 58)),o 60 (.bin .add (t 59) (n 1)),o 61 (.nilcheck (t 55)),o 62 (.faddr (t 61) 0),o 63 (.faddr (t 62) 2),u (.store 1 (t 63) (t 60))])))))) [0,1,9,10,11])
 (R [0,1,9,10,11] [o 64 (.bin .add (t 11) (n 1)),v 11 64])))):=rfl
section
attribute [-simp] getElem?_pos getElem?_neg List.all_eq_true sget
attribute [local simp] gz gs nltT nltF iltT iltF ileT nleT dh sgetN sgetH sgetT
theorem a285 {H H1:List AObj} {K mz b w:Nat} {ra:Option (Nat × Nat)} {rc:Option Nat} {n:Int} {R:List Int} {y0 y1 y4 y5 y7 x1 x9 x10 x11 x20:AVal} {x5:List AVal}
  (hk:H[K]? = some (.cells 8 (kS y0 y1 y4 y5 y7 mz n R ra rc))) (a4:H1[K]? = some (.cells 8 (kS y0 y1 y4 y5 y7 mz n R ra rc))) (hb:b≤K) (hbl:b≤H.length)
  (a5:∀ w,aAppend 1 8 ⟨H++[.cells 1 [.int .i64 n]],b,w⟩ (.slice ra R.length rc) (.slice (some (H.length,0)) 1 (some 1))=some (.slice (some (H.length+1,0)) (R.length+1) none,⟨H1,b,nxA ra w⟩)) (a1:H.length+2=H1.length)
  (hids:(ra=none∧rc=some 0)∨∃ rp,ra=some (rp,0)∧rc=none∧rp < H.length∧rp≠K∧H1[rp]? = some .dead) {R1:List AVal} (a6:H1[H.length+1]? = some (.cells 1 R1)) (a7:AVal.idsL R1=[]) {β:Type} (k':AExit→St→Option β) :
  xK T app285 ⟨[(0,.val (.ptr (some (K,0)))),(1,.val x1),(5,.var x5),(9,.val x9),(10,.val x10),(11,.val x11),(20,.val x20)],⟨H,b,w⟩⟩ (k:=⟨k'⟩) =
   k' .normal ⟨[(0,.val (.ptr (some (K,0)))),(1,.val x1),(5,.var x5),(9,.val x9),(10,.val x10),(11,.val x11)],⟨H1.set K (.cells 8 (kS y0 y1 y4 y5 y7 mz n (R++[n]) (some (H.length+1,0)) none)),b,min (nxA ra w) K⟩⟩:=by
 have hci:=aj hk
 unfold kS at hk a4 ⊢
 rw [bc,kx]
 rcases hids with ⟨rfl,rfl⟩ | ⟨rp,rfl,rfl,hrp,hne,hdd⟩
 ·simp (maxSteps:=3000000) (disch:=omega) [ce,-aAppend,app285,hk,a4,a5,a1.symm,a6,a7,idsC,nxA]
 ·simp (maxSteps:=3000000) (disch:=omega) [ce,-aAppend,app285,hk,a4,a5,a1.symm,a6,a7,idsC,nxA,hdd,show ¬ rp=H.length+1 by omega,hrp,hne]
end
end Go.Abs.AbsSlot

namespace Go.Abs.AbsSlot
open Go.Abs.AbsHier Go.Abs.AbsDesc
open Go.Abs.Short
section
variable {lb:Nat} {H0:List AObj} {ra0:Option (Nat × Nat)} {K mz b ui uo m:Nat} {y0 y1 y4 y5 y7:AVal} {us:List AVal}
section
attribute [-simp] getElem?_pos getElem?_neg List.all_eq_true
attribute [local simp] gz gs nltT nltF iltT iltF ileT nleT dh
theorem l285 {u:UnitU} (hU:H0[ui]? = some (.cells 4 us)) (hun:us[uo]? = some (.str u.name)) (hF:Row H0 3 FieldU.cells u.fields u.fa)
  (hb:b≤K∧b≤mz∧b≤lb) (hlb:lb≤H0.length) (hm:m≤K∧m≤mz∧m≤lb) (hlen:u.fields.length≤1000000):∀ (j i w:Nat) (H:List AObj) (n:Int) (R:List Int) (ra:Option (Nat × Nat)) (rc:Option Nat) (Z:List (Key × Int)),i+j=u.fields.length→0≤n→n+j≤1000000000→R.length+j≤1000000→SO lb H0 H ra0 K mz y0 y1 y4 y5 y7 n R ra rc Z→m≤w →
  ∃ H' ra' rc' w',SO lb H0 H' ra0 K mz y0 y1 y4 y5 y7 (statR (u.fields.drop i) n R).1 (statR (u.fields.drop i) n R).2 ra' rc' (statZ u.name (u.fields.drop i) n Z)∧m≤w'∧w'≤w∧(w'≤K∨H'=H∧w'=w)∧∀ {β:Type} (k':AExit→St→Option β),
  xK T (.loop code285L0) ⟨[(0,.val (.ptr (some (K,0)))),(1,.val (.ptr (some (ui,uo)))),(9,.val (.slice u.fa u.fields.length u.fc)),(10,.val (.int .i64 u.fields.length)),(11,.val (.int .i64 i))],⟨H,b,w⟩⟩ (k:=⟨k'⟩) =
   k' (.exit 0) ⟨[],⟨H',b,w'⟩⟩
 | 0,i,w,H,n,R,ra,rc,Z,hi,h0,hc,hr,h,hw=>by
  refine ⟨H,ra,rc,w,?_,hw,ak _,.inr ⟨rfl,rfl⟩,fun {β} k'=>?_⟩
  ·rw [bq (by omega)]
   exact h
  ·rw [bl]
   simp (disch:=omega) [code285L0]
 | j+1,i,w,H,n,R,ra,rc,Z,hi,h0,hc,hr,h,hw=>by
  obtain ⟨f,hf⟩:∃ f,u.fields[i]? = some f:=⟨_,ag (by omega)⟩
  obtain ⟨p,o,cs,ha,hpp,hpl,hcs,ht⟩:=g7 (h.row hF (by decide)) hf
  have hd:=j7 hf
  have hcf:f.cells=[.bool f.st,.str f.name,.str f.desc]:=rfl
  rw [hcf] at ht
  have hU':=h.get hU (by decide)
  have hk:=h.k
  have e2:((i+1:Nat):Int)=(i:Int)+1:=by omega
  have h30:=fun os w=>s30 (s:=f.desc) (os:=os) (b:=b) (w:=w)
  cases hst:f.st with
  | false =>
   obtain ⟨H',ra',rc',w',i1,i2,i3,i5,i4⟩:=l285 hU hun hF hb hlb hm hlen j (i+1) w H n R ra rc Z (by omega) h0 (by omega) (by omega) h hw
   refine ⟨H',ra',rc',w',?_,i2,i3,i5,fun {β} k'=>?_⟩
   ·rw [hd]; simp only [statR,statZ,hst,av,if_false]; exact i1
   ·have ih:=i4 k'
    rw [e2] at ih
    rw [hst] at ht
    rw [ha] at ih ⊢
    rw [bl]
    generalize ACode.loop code285L0=LL at ih ⊢
    simp (disch:=omega) [code285L0,hpp,ht,ih]
  | true =>
   have hln:=h.len
   have hne:=h.ne
   have kk:keyF (u.name,f.name,f.desc) = .agg [.str u.name,.str f.name,.str f.desc]:=rfl
   have hkl:=aj hk
   cases hrf:isRef f.desc with
   | false =>
    have hup:=fun w=>upd_any (b:=b) (w:=w) (kn:=.agg [.s,.s,.s]) (vf:=intV) keyKey h.zs (k:=(u.name,f.name,f.desc)) n rfl hb.2.1
    have hz:=h.setZ (putE Z (u.name,f.name,f.desc) n)
    have hzk:=hz.k
    have hz2:=hz.setN (n+1)
    obtain ⟨H',ra',rc',w',i1,i2,i3,i5,i4⟩:=l285 hU hun hF hb hlb hm hlen j (i+1) (min w (min mz K)) _ (n+1) R ra rc _ (by omega) (by omega) (by omega) (by omega) hz2 (by omega)
    refine ⟨H',ra',rc',w',?_,i2,by omega,.inl (by omega),fun {β} k'=>?_⟩
    ·rw [hd]; simp only [statR,statZ,hst,hrf,if_true,if_false,av]; exact i1
    ·have ih:=i4 k'
     rw [e2] at ih
     rw [hst] at ht
     rw [ha] at ih ⊢
     rw [kk] at hup
     simp only [intV] at hup
     have h30:=h30 H
     rw [hrf] at h30
     unfold kS at hk hzk ih
     rw [bl]
     generalize ACode.loop code285L0=LL at ih ⊢
     simp (disch:=omega) [-evExt,code285L0,hpp,ht,hU',hun,hk,hzk,h30,hup,ih]
   | true =>
    obtain ⟨H1,a1,a2,a3,a6,a7,a4,a5,hA⟩:=h.addR hb.2.2 hlb (by omega) n
    have hup:=fun w=>upd_any (b:=b) (w:=w) (kn:=.agg [.s,.s,.s]) (vf:=intV) keyKey hA.zs (k:=(u.name,f.name,f.desc)) n rfl hb.2.1
    have hz:=hA.setZ (putE Z (u.name,f.name,f.desc) n)
    have hzk:=hz.k
    have hAk:=hA.k
    have hz2:=hz.setN (n+1)
    have hU1:=hA.get hU (by decide)
    have hnx:=a2 w m hw hm.2.2
    have hnx2:=a3 w
    obtain ⟨H',ra',rc',w',i1,i2,i3,i5,i4⟩:=l285 hU hun hF hb hlb hm hlen j (i+1) (min (nxA ra w) (min K mz)) _ (n+1) (R++[n]) _ _ _ (by omega) (by omega) (by omega) (by simp; omega) hz2 (by omega)
    refine ⟨H',ra',rc',w',?_,i2,by omega,.inl (by omega),fun {β} k'=>?_⟩
    ·rw [hd]; simp only [statR,statZ,hst,hrf,if_true]; exact i1
    ·have ih:=i4 k'
     rw [e2] at ih
     rw [hst] at ht
     rw [ha] at ih ⊢
     rw [kk] at hup
     simp only [intV] at hup
     have h30:=h30 H
     rw [hrf] at h30
     have hids:(ra=none∧rc=some 0)∨∃ rp,ra=some (rp,0)∧rc=none∧rp < H.length∧rp≠K∧H1[rp]? = some .dead:=by
      rcases h.rs with ⟨r1,r2,r3⟩ | ⟨r1,rp,r2,r3,r4,r5⟩
      ·exact .inl ⟨r2,r3⟩
      ·exact .inr ⟨rp,r3,r4,aj r5,(h.tne r3).1,a7 _ _ r3⟩
     have ap:=fun w x1 x9 x10 x11 x20 x5=>a285 (b:=b) (w:=w) (x1:=x1) (x9:=x9) (x10:=x10) (x11:=x11) (x20:=x20) (x5:=x5) hk a4 hb.1 (by omega) a5 a1 hids a6 (by rw [ir]; exact idsL_int _) (β:=β)
     simp only [kS,bc,az,co,bt] at hzk hAk ih hup ap hU1
     rw [bl]
     generalize ACode.loop code285L0=LL at ih ⊢
     simp (disch:=omega) [-evExt,app285_eq,hpp,ht,h30,ap,hU1,hun,hzk,hAk,hup,ih]
theorem s285 {u:UnitU} {H:List AObj} {n:Int} {R:List Int} {ra:Option (Nat × Nat)} {rc:Option Nat} {Z:List (Key × Int)} {w:Nat} (hU:H0[ui]? = some (.cells 4 us)) (hun:(us.drop uo).take 4=u.cells) (hF:Row H0 3 FieldU.cells u.fields u.fa)
  (hb:b≤K∧b≤mz∧b≤lb) (hlb:lb≤H0.length) (hm:m≤K∧m≤mz∧m≤lb) (hlen:u.fields.length≤1000000) (h0:0≤n) (hc:n+u.fields.length≤1000000000) (hr:R.length+u.fields.length≤1000000) (h:SO lb H0 H ra0 K mz y0 y1 y4 y5 y7 n R ra rc Z) :
  ∃ H' ra' rc' w',SO lb H0 H' ra0 K mz y0 y1 y4 y5 y7 (statR u.fields n R).1 (statR u.fields n R).2 ra' rc' (statZ u.name u.fields n Z)∧min w m≤w'∧w'≤w ∧
   xCall T 285 [.ptr (some (K,0)),.ptr (some (ui,uo))] ⟨H,b,w⟩=some (.tuple [],⟨H',b,w'⟩):=by
 have hucl:u.cells=[.str u.name,.str u.super,.slice u.fa u.fields.length u.fc,.slice u.ma u.meths.length u.mc]:=rfl
 have hn0:us[uo]? = some (.str u.name):=by
  have:=i7 (k:=0) hun (by decide); rw [ef] at this; rw [this,hucl]; rfl
 have hn2:us[uo+2]? = some (.slice u.fa u.fields.length u.fc):=by
  have:=i7 (k:=2) hun (by decide); rw [this,hucl]; rfl
 have hln:=h.len
 have hkl:=aj h.k
 obtain ⟨H',ra',rc',w',i1,i2,i3,i5,i4⟩:=l285 (m:=m) hU hn0 hF hb hlb hm hlen u.fields.length 0 H.length H n R ra rc Z (by omega) h0 hc hr h (by omega)
 simp only [bf,d8] at i4 i1
 have hU':=h.get hU (by decide)
 rcases i5 with i5 | ⟨rfl,rfl⟩
 ·refine ⟨H',ra',rc',min w w',i1,by omega,by omega,?_⟩
  simp (disch:=omega) [cd t285,code285,hU',hn2,i4]
 ·refine ⟨H',ra',rc',w,i1,by omega,by omega,?_⟩
  simp (disch:=omega) [cd t285,code285,hU',hn2,i4]
end
end
end Go.Abs.AbsSlot

namespace Go.Abs.AbsHier
open Go.Abs.AbsDesc
variable {os O H:List AObj} {b w:Nat}
def trapU (W:List UnitU) (t:TrapU):Bool:=decide (t.cls=[]) || (findU W t.cls).isSome
def oddM (m x:MethU):Bool:=decide (x.name=m.name) && (decide (x.desc=m.desc) && !decide (x.st=m.st))
def evenM (m:MethU) (v:UnitU):Bool:=v.meths.all fun x=>!oddM m x
def methodU (W:List UnitU) (u:UnitU) (m:MethU):Bool:=match methL m.desc with
 | some (A,r)=>isName m.name && (thereU W r && (A.all (thereU W) && (m.traps.all (trapU W) && (lineU W (W.length+1) u.name).all (evenM m))))
 | none=>false
structure Units (O:List AObj) (W:List UnitU) (a:Option (Nat × Nat)):Prop where
 r:Row O 4 UnitU.cells W a
 n:W.length≤200
 ok:∀ u ∈ W,u.ok O
end Go.Abs.AbsHier

namespace Go.Abs.AbsHier
open Go.Abs.AbsDesc
variable {os O H:List AObj} {b w:Nat}
def fieldsU (W:List UnitU):List FieldU→List FieldU→Bool
 | _,[]=>true
 | A,f :: r=>isName f.name && (isTy f.desc && (thereU W f.desc && (A.all (fun g=>!decide (f.name=g.name)) && fieldsU W (A++[f]) r)))
def methsU (W:List UnitU) (u:UnitU):List MethU→List MethU→Bool
 | _,[]=>true
 | A,m :: r=>methodU W u m && (A.all (fun g=>!(decide (m.name=g.name) && decide (m.desc=g.desc))) && methsU W u (A++[m]) r)
def lastName (l:List UnitU):Str:=((l.getLast?).map UnitU.name).getD []
def unitU (W:List UnitU) (u:UnitU):Bool :=
 isClass u.name && (!decide (u.super=sysT) && (decide (2≤(lineU W (W.length+1) u.name).length) && (decide ((lineU W (W.length+1) u.name).length≤W.length) && (decide (lastName (lineU W (W.length+1) u.name)=objectT) && (fieldsU W [] u.fields && methsU W u [] u.meths)))))
end Go.Abs.AbsHier

namespace Go.Abs.AbsHier
open Go.Abs.AbsDesc
variable {os O H:List AObj} {b w:Nat}
end Go.Abs.AbsHier

namespace Go.Abs.AbsHier
open Go.Abs.AbsDesc
variable {os O H:List AObj} {b w:Nat}
def natM (x:Str × Str):MethU:=⟨true,x.1,x.2,0,0,[],none,some 0,[],none,some 0,[],none,some 0⟩
def plainU (n s:Str):UnitU:=⟨n,s,[],none,some 0,[],none,some 0⟩
def sysU (m:Nat):UnitU:=⟨sysT,objectT,[],none,some 0,natL.map natM,some (m,0),some 8⟩
def built3 (m:Nat):List UnitU:=[plainU objectT [],plainU throwT objectT,sysU m]
def faultU (n:Str):UnitU:=plainU n throwT
def builtU (m:Nat):List UnitU:=built3 m++faultsL.map faultU
def natO:AObj:=.cells 8 ((natL.map natM).flatMap MethU.cells)
theorem ids_nat:natO.ids=[]:=rfl
theorem ren_nat (f:Nat→Nat):natO.ren f=natO:=rfl
end Go.Abs.AbsHier

namespace Go.Abs
def renA (f:Nat→Nat):Option (Nat × Nat)→Option (Nat × Nat)
 | none=>none
 | some (i,o)=>some (f i,o)
theorem ren_sl (f:Nat→Nat) (a:Option (Nat × Nat)) (n:Nat) (c:Option Nat):(AVal.slice a n c).ren f = .slice (renA f a) n c:=by
 cases a with
 | none=>simp [AVal.ren,renA]
 | some p=>obtain ⟨i,o⟩:=p; simp [AVal.ren,renA]
theorem renL_map (f:Nat→Nat):∀ l:List AVal,AVal.renL f l=l.map (AVal.ren f)
 | []=>rfl
 | a :: l=>by simp only [AVal.renL,bo,renL_map f l]
theorem idsL_flat:∀ l:List AVal,AVal.idsL l=l.flatMap AVal.ids
 | []=>rfl
 | a :: l=>by simp only [AVal.idsL,bu,idsL_flat l]
structure Moves (f:Nat→Nat) (I:Nat→Prop) (n:Nat) (O O':List AObj):Prop where
 at':∀ i obj,I i→O[i]? = some obj→O'[f i]? = some (obj.ren f)
 cl:∀ i obj,I i→O[i]? = some obj→∀ j ∈ obj.ids,n≤j→I j
 up:∀ i,n≤i→n≤f i
section
variable {f:Nat→Nat} {I:Nat→Prop} {n:Nat} {O O':List AObj}
def over (n:Nat) (a:Option (Nat × Nat)):Prop:=∀ i o,a=some (i,o)→n≤i
def inI (I:Nat→Prop) (a:Option (Nat × Nat)):Prop:=∀ i o,a=some (i,o)→I i
def MapU.ren (f:Nat→Nat) (x:MapU):MapU:={ x with la:=renA f x.la,sa:=renA f x.sa }
def MethU.ren (f:Nat→Nat) (m:MethU):MethU:={ m with ca:=renA f m.ca,ta:=renA f m.ta,maps:=m.maps.map (MapU.ren f),xa:=renA f m.xa }
def UnitU.ren (f:Nat→Nat) (u:UnitU):UnitU:={ u with fa:=renA f u.fa,meths:=u.meths.map (MethU.ren f),ma:=renA f u.ma }
structure MapU.over (n:Nat) (x:MapU):Prop where
 l:Go.Abs.over n x.la
 s:Go.Abs.over n x.sa
structure MethU.over (n:Nat) (m:MethU):Prop where
 c:Go.Abs.over n m.ca
 t:Go.Abs.over n m.ta
 x:Go.Abs.over n m.xa
 xs:∀ x ∈ m.maps,x.over n
structure UnitU.over (n:Nat) (u:UnitU):Prop where
 f:Go.Abs.over n u.fa
 m:Go.Abs.over n u.ma
 ms:∀ m ∈ u.meths,m.over n
theorem idxIn_lt {i:Nat}:∀ {k:List Nat},i ∈ k→idxIn i k < k.length∧k[idxIn i k]? = some i
 | j :: k,h=>by
  by_cases e:j=i
  ·simp [idxIn,e]
  ·have:=idxIn_lt (k:=k) ((cr.1 h).resolve_left fun x=>e x.symm)
   simp only [idxIn,e,if_false,az,fp]
   exact ⟨by omega,this.2⟩
theorem reach_ge {h:Heap} {n0:Nat}:∀ (fu:Nat) (l acc:List Nat),(∀ i ∈ acc,n0≤i)→∀ i ∈ reach h n0 fu l acc,n0≤i
 | 0,l,acc,ha=>ha
 | _+1,[],acc,ha=>ha
 | fu+1,i :: r,acc,ha=>by
  unfold reach
  split
  ·exact reach_ge fu r acc ha
  ·split
   ·exact reach_ge fu r acc ha
   ·exact reach_ge fu _ _ fun j hj=>by
     rcases bg.1 hj with hj | hj
     ·exact ha j hj
     ·rw [b0.1 hj]; omega
theorem finish_cases {h0 h:Heap} {v:AVal} (hv:v.under h0.size=false) :
  (∃ w,finish h0 v h=(v,⟨h.objs,h.base,w⟩)∧(w=min h0.wmin h.wmin∨(w=h0.wmin∧h0.size≤h.wmin))) ∨
  (h0.size≤h.wmin∧∃ f I X,finish h0 v h=(v.ren f,⟨h0.objs++X,h0.base,h0.wmin⟩)∧Moves f I h0.size h.objs (h0.objs++X)∧(∀ j ∈ v.ids,h0.size≤j→I j)):=by
 unfold finish
 by_cases hw:h.wmin < h0.size
 ·rw [if_pos hw]; exact .inl ⟨_,rfl,.inl rfl⟩
 ·rw [if_neg hw,hv]
  simp only [av,if_false]
  generalize hk:reach h h0.size 1000 v.ids []=k
  have hge:∀ i ∈ k,h0.size≤i:=by rw [← hk]; exact reach_ge _ _ _ (by simp)
  split
  ·rename_i hok
   refine .inr ⟨by omega,fun i=>if i < h0.size then i else h0.size+idxIn i k,fun i=>i ∈ k,_,rfl,⟨fun i obj hi ho=>?_,fun i obj hi ho j hj hn=>?_,fun i hi=>?_⟩,fun j hj hn=>?_⟩
   ·have h1:=hge i hi
    obtain ⟨h2,h3⟩:=idxIn_lt hi
    have h4:¬ i < h0.size:=by omega
    simp only [if_neg h4]
    have h5:h0.size=h0.objs.length:=rfl
    rw [h5,aq (by omega),Nat.add_sub_cancel_left,cq,h3]
    have h6:h.get i=some obj:=ho
    simp only [bi,h6,da]
   ·rw [al] at hok
    have h6:h.get i=some obj:=ho
    have:=hok j (gg _ (dv.2 ⟨i,hi,by rw [h6]; exact hj⟩))
    simp only [dm,decide_eq_true_eq] at this
    rcases this with h7 | h7
    ·omega
    ·simpa using h7
   ·show h0.size≤if i < h0.size then i else h0.size+idxIn i k
    rw [if_neg (by omega)]; omega
   ·rw [al] at hok
    have:=hok j (eq _ hj)
    simp only [dm,decide_eq_true_eq] at this
    rcases this with h7 | h7
    ·omega
    ·simpa using h7
  ·exact .inl ⟨_,rfl,.inr ⟨rfl,by omega⟩⟩
end
end Go.Abs

namespace Go.Abs
variable {α:Type} {e:Nat} {f:α→List AVal} {O P:List AObj} {A:List α} {v:AVal} {b:Nat}
structure Acc (e:Nat) (f:α→List AVal) (O:List AObj) (A:List α) (P:List AObj) (v:AVal):Prop where
 pre:Pre O P
 val:(A=[]∧v = .slice none 0 (some 0))∨(A≠[]∧∃ i,O.length≤i∧v = .slice (some (i,0)) A.length none∧P[i]? = some (.cells e (A.flatMap f)))
theorem Acc.nil:Acc e f O [] O (.slice none 0 (some 0)):=⟨Pre.refl _,.inl ⟨rfl,rfl⟩⟩
theorem Acc.app (h:Acc e f O A P v) (X:List AObj):Acc e f O A (P++X) v:=⟨h.pre.trans (Pre.app _ _),by
 rcases h.val with h1 | ⟨h1,i,h2,h3,h4⟩
 ·exact .inl h1
 ·exact .inr ⟨h1,i,h2,h3,by rw [ah (aj h4)]; exact h4⟩⟩
def newV (n:Nat) (A:List α):AVal:=if A=[] then .slice none 0 (some 0) else .slice (some (n,0)) A.length none
def newO (e:Nat) (f:α→List AVal) (O:List AObj) (A:List α):List AObj:=if A=[] then O else O++[.cells e (A.flatMap f)]
def Keeps (P P':List AObj) (n:Nat) (v:AVal):Prop:=∀ (k:Nat) (o:AObj),P[k]? = some o→v ≠ .slice (some (k,0)) n none→P'[k]? = some o
theorem Acc.add (h:Acc e f O A P v) (hf:∀ y,(f y).length=e) (hb:b≤O.length) {by':Nat} (hl:(A.length+1)*by'≤140737488355328) (hl2:A.length≤1000000000) (x:α) :
  ∃ P' v',∃ nx:Nat→Nat,Acc e f O (A++[x]) P' v'∧(∀ w,O.length≤w→O.length≤nx w)∧((∀ w,nx w≤w∧(A≠[]→nx w < P.length))∧Keeps P P' A.length v∧v' = .slice (some (P.length+1,0)) (A.length+1) none)∧∀ w,aAppend e by' ⟨P++[.cells e (f x)],b,w⟩ v (.slice (some (P.length,0)) 1 (some 1))=some (v',⟨P',b,nx w⟩):=by
 have hz:∀ w,rowOf e ⟨P++[.cells e (f x)],b,w⟩ (.slice (some (P.length,0)) 1 (some 1))=some (f x):=fun w =>
  rowOfC (by show (P++[AObj.cells e (f x)])[P.length]? = _; rw [fk]; rfl) (by rw [hf,Nat.one_mul])
 have hs:(P++[AObj.cells e (f x)]).length=P.length+1:=by simp
 have he:(A++[x]).flatMap f=A.flatMap f++f x:=by simp
 have hlen:(A++[x]).length=A.length+1:=by simp
 have hne:A++[x]≠[]:=by simp
 have hpl:=h.pre.len
 rcases h.val with ⟨rfl,rfl⟩ | ⟨h1,i,h2,rfl,h4⟩
 ·refine ⟨P++[.cells e (f x),.cells e (f x)],.slice (some (P.length+1,0)) 1 none,id,⟨h.pre.trans (Pre.app _ _),.inr ⟨hne,P.length+1,by omega,by rw [hlen]; rfl,by rw [eb]; simp⟩⟩,fun w hw=>hw,⟨fun w=>⟨ak w,fun h=>absurd rfl h⟩,fun k o hk _=>by rw [ah (aj hk)]; exact hk,by simp⟩,fun w=>?_⟩
  unfold aAppend
  simp only [hz,rowOf0,aApp,alen]
  have q1:¬ (1:Nat)=0:=by decide
  have q2:(0+1)*by'≤140737488355328∧0+1≤9223372036854775807:=⟨by simpa using hl,by decide⟩
  simp only [eq_false q1,eq_true q2,if_false,if_true]
  simp [Heap.push,Heap.size]
 ·have hi:=aj h4
  have h5:(P++[AObj.cells e (f x)])[i]? = some (.cells e (A.flatMap f)):=by rw [ah hi]; exact h4
  have hfl:(A.flatMap f).length=A.length*e:=i8 f e hf A
  have hz1:∀ w,rowOf e ⟨P++[.cells e (f x)],b,w⟩ (.slice (some (i,0)) A.length none)=some (A.flatMap f):=fun w=>rowOfC h5 hfl
  have hr:∀ w,rowIs ⟨P++[.cells e (f x)],b,w⟩ i e=true:=fun w=>by
   unfold rowIs Heap.get
   simp only [h5]
   simp
  refine ⟨P.set i .dead++[.cells e (f x),.cells e ((A++[x]).flatMap f)],.slice (some (P.length+1,0)) (A++[x]).length none,fun w=>min w i,⟨?_,.inr ⟨hne,P.length+1,by omega,rfl,?_⟩⟩,fun w hw=>by show O.length≤min w i; omega,⟨fun w=>⟨by show min w i≤w; omega,fun _=>by show min w i < P.length; omega⟩,fun k o hk hne=>by
   rw [ah (by rw [br]; exact aj hk),ai (fun e=>hne (by rw [e]))]; exact hk,by rw [hlen]⟩,fun w=>?_⟩
  ·exact (h.pre.set .dead h2).trans (Pre.app _ _)
  ·rw [aq (by simp)]
   simp
  ·unfold aAppend
   simp only [hz,hz1,aApp,alen]
   have q1:¬ (1:Nat)=0:=by decide
   have q2:(A.length+1)*by'≤140737488355328∧A.length+1≤9223372036854775807:=⟨hl,by omega⟩
   have q3:¬ (none:Option Nat)=some A.length:=by simp
   have q4:(⟨P++[AObj.cells e (f x)],b,w⟩:Heap).base≤i∧rowIs ⟨P++[AObj.cells e (f x)],b,w⟩ i e=true:=⟨by show b≤i; omega,hr w⟩
   simp only [eq_false q1,eq_true q2,eq_false q3,eq_true q4,if_false,if_true]
   simp only [Heap.push,Heap.put,Heap.size,List.set_append_left _ _ hi,br,hs,he,hlen,ba,db,c9]
end Go.Abs

namespace Go.Abs.AbsSlot
open Go.Abs.AbsHier Go.Abs.AbsDesc
variable {os O H:List AObj} {b w:Nat}
def sysV' (m:Nat):UnitU:={ sysU m with mc:=none }
def built3V (m:Nat):List UnitU:=[plainU objectT [],plainU throwT objectT,sysV' m]
def builtV' (m:Nat):List UnitU:=built3V m++faultsL.map faultU
section
attribute [-simp] getElem?_pos getElem?_neg List.all_eq_true
attribute [local simp] gz gs nltT nltF iltT iltF ileT nleT dh
theorem l189a {m q lo:Nat} (hlo:lo≤os.length) (hb:b≤os.length) (hq:os.length≤q):∀ (j i p:Nat) (M:List AObj) (cc:Option Nat) (w:Nat),i+j=6→lo≤w→Pre os M→p≠q→os.length≤p→(cc=none∨(cc=some 3∧i=0)) →
  M[p]? = some (.cells 4 ((built3V m++(faultsL.take i).map faultU).flatMap UnitU.cells))→M[q]? = some (.cells 1 (faultsL.flatMap strC)) →
  ∃ M' p' w',lo≤w'∧Pre os M'∧os.length≤p'∧M'[p']? = some (.cells 4 ((builtV' m).flatMap UnitU.cells))∧∀ (k:AExit→St→Option (AVal × Heap)),
  xK T (.loop code189L0) ⟨[(4,.val (.slice (some (p,0)) (3+i) cc)),(37,.val (.slice (some (q,0)) 6 (some 6))),(38,.val (.int .i64 6)),(39,.val (.int .i64 i))],⟨M,b,w⟩⟩ (k:=⟨k⟩) =
   k (.exit 2) ⟨[(4,.val (.slice (some (p',0)) 9 none))],⟨M',b,w'⟩⟩
 | 0,i,p,M,cc,w,hi,hw,hM,hpq,hp,hc,h1,h2=>by
  have:i=6:=by omega
  subst this
  have hcn:cc=none:=by
   rcases hc with h | ⟨_,h⟩
   ·exact h
   ·omega
  subst hcn
  refine ⟨M,p,w,hw,hM,hp,h1,fun k=>?_⟩
  rw [bl]
  simp (disch:=omega) [code189L0]
 | j+1,i,p,M,cc,w,hi,hw,hM,hpq,hp,hc,h1,h2=>by
  obtain ⟨x,hx⟩:∃ x,faultsL[i]? = some x:=⟨_,ag (show i < 6 by omega)⟩
  have hpl:=aj h1
  have hql:=aj h2
  have hx2:(faultsL.flatMap strC)[i]? = some (.str x):=by
   have:faultsL.flatMap strC=faultsL.map AVal.str:=rfl
   rw [this,cq,hx]; rfl
  generalize hA:built3V m++(faultsL.take i).map faultU=A at *
  have hAl:A.length=3+i:=by
   rw [← hA]; simp [built3V,faultsL]; omega
  have hfl:(A.flatMap UnitU.cells).length=A.length*4:=i8 UnitU.cells 4 (fun _=>rfl) A
  have hA2:built3V m++(faultsL.take (i+1)).map faultU=A++[faultU x]:=by
   rw [take_next hx,fj,← ba,hA]; rfl
  have e2:((i+1:Nat):Int)=(i:Int)+1:=by omega
  have e3:(3+(i+1))=3+i+1:=by omega
  have hMl:=hM.len
  have hbp:b≤p:=by omega
  have hz:∀ X w,rowOf 4 ⟨M++X,b,w⟩ (.slice (some (p,0)) (3+i) cc)=some (A.flatMap UnitU.cells):=fun X w=>rowOfC (by show (M++X)[p]? = _; rw [ah hpl]; exact h1) (by omega)
  have hp1:∀ X,(M++X)[p]? = some (.cells 4 (A.flatMap UnitU.cells)):=fun X=>by rw [ah hpl]; exact h1
  have hset:∀ X y,(M++X).set p y=M.set p y++X:=fun X y=>by rw [List.set_append_left _ _ hpl]
  have hfc:(faultU x).cells=[.str x,.str throwT,.slice none 0 (some 0),.slice none 0 (some 0)]:=rfl
  have hz2:∀ w,rowOf 4 ⟨M++[.cells 4 [.str x,.str [84,104,114,111,119,97,98,108,101],.slice none 0 (some 0),.slice none 0 (some 0)]],b,w⟩ (.slice (some (M.length,0)) 1 (some 1))=some [.str x,.str [84,104,114,111,119,97,98,108,101],.slice none 0 (some 0),.slice none 0 (some 0)]:=fun w=>rowOfC (by rw [fk]; rfl) rfl
  rcases hc with rfl | ⟨rfl,rfl⟩
  ·obtain ⟨M',p',w',r1,r2,r3,r5,ih⟩:=l189a (m:=m) hlo hb hq j (i+1) (M.length+1) (M.set p .dead++[.cells 4 (faultU x).cells,.cells 4 ((A++[faultU x]).flatMap UnitU.cells)]) none (min w p) (by omega) (by omega) ((hM.set _ hp).trans (Pre.app _ _)) (by omega) (by omega) (.inl rfl)
    (by rw [hA2,show M.length+1=(M.set p .dead).length+1 by simp,eb]; rfl) (by rw [ah (by simp; omega),ai hpq]; exact h2)
   refine ⟨M',p',w',r1,r2,r3,r5,fun k=>?_⟩
   have ih:=ih k
   rw [e2,e3,ix] at ih
   rw [bl,← ih]
   generalize ACode.loop code189L0=L'
   simp only [bu,List.flatMap_nil,cz,hfc,throwT]
   simp (disch:=omega) [code189L0,-rowOf,hz,hz2,hp1,h2,hx2,eb,fk,hset]
  ·obtain ⟨M',p',w',r1,r2,r3,r5,ih⟩:=l189a (m:=m) hlo hb hq j (0+1) (M.length+1) (M++[.cells 4 (faultU x).cells,.cells 4 ((A++[faultU x]).flatMap UnitU.cells)]) none w (by omega) (by omega) (hM.trans (Pre.app _ _)) (by omega) (by omega) (.inl rfl)
    (by rw [hA2,eb]; rfl) (by rw [ah (by omega)]; exact h2)
   refine ⟨M',p',w',r1,r2,r3,r5,fun k=>?_⟩
   have ih:=ih k
   rw [e2,e3,ix] at ih
   rw [bl,← ih]
   generalize ACode.loop code189L0=L'
   simp only [bu,List.flatMap_nil,cz,hfc,throwT]
   simp (disch:=omega) [code189L0,-rowOf,hz,hz2,hp1,h2,hx2,eb,fk,hset]
end
def pairC (x:Str × Str):List AVal:=[.str x.1,.str x.2]
theorem meth_len8 (x:MethU):x.cells.length=8:=rfl
section
attribute [-simp] getElem?_pos getElem?_neg List.all_eq_true
attribute [local simp] gz gs nltT nltF iltT iltF ileT nleT dh
theorem l189b {q:Nat} (hb:b≤O.length):∀ (j i:Nat) (P:List AObj) (v:AVal) (w:Nat),P[q]? = some (.cells 2 (natL.flatMap pairC))→i+j=8→Acc 8 MethU.cells O ((natL.take i).map natM) P v→O.length≤w →
  ∃ P' v' w',Acc 8 MethU.cells O (natL.map natM) P' v'∧O.length≤w'∧∀ (k:AExit→St→Option (AVal × Heap)),
  xK T (.loop code189L1) ⟨[(1,.var [.str sysT,.str objectT,.slice none 0 (some 0),v]),(16,.val (.slice (some (q,0)) 8 (some 8))),(17,.val (.int .i64 8)),(18,.val (.int .i64 i))],⟨P,b,w⟩⟩ (k:=⟨k⟩) =
   k (.exit 0) ⟨[(1,.var [.str sysT,.str objectT,.slice none 0 (some 0),v'])],⟨P',b,w'⟩⟩
 | 0,i,P,v,w,hp,hi,h,hw=>by
  have:i=8:=by omega
  subst this
  refine ⟨P,v,w,h,hw,fun k=>?_⟩
  rw [bl]
  simp (disch:=omega) [code189L1]
 | j+1,i,P,v,w,hp,hi,h,hw=>by
  obtain ⟨x,hx⟩:∃ x,natL[i]? = some x:=⟨_,ag (show i < 8 by omega)⟩
  have hp0:=hp
  have hl:(natL.flatMap pairC).length=16:=rfl
  have hxx:=(AbsSlot.flat_get (f:=pairC) 2 (fun _=>rfl) natL i x hx).2
  have hcp:pairC x=[.str x.1,.str x.2]:=rfl
  rw [hcp] at hxx
  have hA2:(natL.take (i+1)).map natM=(natL.take i).map natM++[natM x]:=by rw [take_next hx,fj]; rfl
  have hAl:((natL.take i).map natM).length=i:=by simp [natL]; omega
  have e2:((i+1:Nat):Int)=(i:Int)+1:=by omega
  obtain ⟨P1,v1,n1,h1,hn1,⟨_,hk1,hv1⟩,e1⟩:=h.add (b:=b) meth_len8 hb (by':=128) (by rw [hAl]; omega) (by omega) (natM x)
  rw [hAl] at hv1
  subst hv1
  rw [← hA2] at h1
  obtain ⟨P',v',w',r1,r2,ih⟩:=l189b (q:=q) hb j (i+1) P1 _ (n1 w) (hk1 _ _ hp0 fun e=>by
   rcases h.val with ⟨_,h2⟩ | ⟨_,p',_,h3,h4⟩
   ·rw [h2] at e; cases e
   ·rw [h3] at e; cases e; rw [hp0] at h4; cases h4) (by omega) h1 (hn1 w hw)
  refine ⟨P',v',w',r1,r2,fun k=>?_⟩
  have ih:=ih k
  rw [e2] at ih
  have hnc:(natM x).cells=[.bool true,.str x.1,.str x.2,.int .i64 0,.int .i64 0,.slice none 0 (some 0),.slice none 0 (some 0),.slice none 0 (some 0)]:=rfl
  rw [hnc] at e1
  generalize hfm:natL.flatMap pairC=XX at hp hl hxx
  rw [bl]
  generalize ACode.loop code189L1=LL at ih ⊢
  simp (disch:=omega) [-aAppend,code189L1,hp,hl,hxx,e1,ih]
end
theorem ids_builtV (m:Nat):AVal.idsL ((builtV' m).flatMap UnitU.cells)=[m]:=rfl
theorem ren_builtV (f:Nat→Nat) (m:Nat):AVal.renL f ((builtV' m).flatMap UnitU.cells)=(builtV' (f m)).flatMap UnitU.cells:=rfl
theorem builtV_fin {M:List AObj} {p m w0 w2:Nat} (hp:O.length≤p) (hm:O.length≤m) (h1:M[p]? = some (.cells 4 ((builtV' m).flatMap UnitU.cells))) (h2:M[m]? = some natO) (hw:O.length≤w2) :
  finish ⟨O,b,w0⟩ (.slice (some (p,0)) 9 none) ⟨M,b,w2⟩=(.slice (some (O.length,0)) 9 none,⟨O++[.cells 4 ((builtV' (O.length+1)).flatMap UnitU.cells),natO],b,w0⟩):=by
 have hpm:p≠m:=fun e=>by rw [e,h2] at h1; cases h1
 have hr:reach ⟨M,b,w2⟩ O.length 1000 [p] []=[p,m]:=by
  rw [jr,if_neg (by omega),if_neg (by simp)]
  simp only [Heap.get,h1,bi,da,idsC,ids_builtV,cz,c9]
  rw [jr,if_neg (by omega),if_neg (by simpa using hpm.symm)]
  simp only [Heap.get,h2,bi,da,ids_nat,cz,c9,db]
  rfl
 have hv:AVal.under O.length (.slice (some (p,0)) 9 none)=false:=by simp [AVal.under]; omega
 have hw2:(⟨O,b,w0⟩:Heap).size≤(⟨M,b,w2⟩:Heap).wmin:=hw
 refine (finish_keep hw2 hv hr fun i hi=>?_).trans ?_
 ·simp only [AVal.ids,bu,List.flatMap_nil,Heap.get,h1,h2,bi,da,idsC,ids_builtV,ids_nat,cz,db,c9,cr,kh,or_false] at hi ⊢
  omega
 ·have key:∀ f:Nat→Nat,f p=O.length→f m=O.length+1 →
    ((AVal.slice (some (p,0)) 9 none).ren f,(⟨O++[p,m].map fun i=>(((⟨M,b,w2⟩:Heap).get i).map (AObj.ren f)).getD .dead,b,w0⟩:Heap)) =
     (.slice (some (O.length,0)) 9 none,⟨O++[.cells 4 ((builtV' (O.length+1)).flatMap UnitU.cells),natO],b,w0⟩):=by
   intro f e1 e2
   simp only [AVal.ren,Heap.get,h1,h2,bi,da,bo,gq,renC,e1,e2,ren_builtV,ren_nat]
  refine key _ ?_ ?_
  ·show (if p < O.length then p else _)=_
   rw [if_neg (by omega)]; simp [idxIn]
  ·show (if m < O.length then m else _)=_
   rw [if_neg (by omega)]; simp [idxIn,hpm]
end Go.Abs.AbsSlot

namespace Go.Abs.AbsSlot
open Go.Abs.AbsHier Go.Abs.AbsDesc
variable {O:List AObj} {b w:Nat}
theorem s189 (hb:b≤O.length):xCall T 189 [] ⟨O,b,w⟩=some (.slice (some (O.length,0)) 9 none,⟨O++[.cells 4 ((builtV' (O.length+1)).flatMap UnitU.cells),natO],b,w⟩):=by
 obtain ⟨P1,v1,w1,h1,hw1,hk1⟩:=l189b (q:=O.length) (b:=b) hb 8 0 (O++[.cells 2 (natL.flatMap pairC)]) (.slice none 0 (some 0)) O.length (by simp) rfl (Acc.nil.app _) (ak _)
 rcases h1.val with ⟨e,_⟩ | ⟨_,mi,e1,rfl,e2⟩
 ·exact absurd e (by decide)
 have hpl:=h1.pre.len
 have hmi:=aj e2
 have hlen8:(natL.map natM).length=8:=rfl
 rw [hlen8] at hk1
 obtain ⟨M',p',w',r1,r2,r3,r5,hk2⟩:=l189a (os:=P1) (b:=b) (m:=mi) (q:=P1.length+1) (lo:=O.length) hpl (by omega) (by omega) 6 0 P1.length (P1++[.cells 4 ((built3V mi).flatMap UnitU.cells),.cells 1 (faultsL.flatMap strC)]) (some 3) w1 (by simp) hw1 (Pre.app _ _) (by omega) (ak _) (.inr ⟨rfl,rfl⟩)
  (by rw [fk]; rfl) (by rw [eb]; rfl)
 have hf:=fun w0=>builtV_fin (O:=O) (b:=b) (w0:=w0) (p:=p') (m:=mi) (by omega) e1 r5 (r2 _ _ e2) r1
 simp only [bf,ef,natL,pairC,bu,List.flatMap_nil,cz,db,c9,sysT,objectT] at hk1
 simp only [bf,ef,built3V,plainU,sysV',sysU,faultsL,UnitU.cells,natL,strC,bo,gq,bu,List.flatMap_nil,cz,db,c9,co,az,objectT,throwT,sysT] at hk2
 simp (disch:=omega) [-getElem?_pos,-getElem?_neg,-List.all_eq_true,gz,gs,nltT,nltF,iltT,iltF,ileT,nleT,dh,cd t189,code189,-finish,cf,eb,fk,hk1,hk2,hf]
end Go.Abs.AbsSlot

namespace Go.Abs.AbsSlot
open Go.Abs.AbsHier Go.Abs.AbsDesc
open Go.Abs.Short
def kM (y0 y2 y3 y4 y5 y6 y7:AVal) (n:Nat) (ma:Option (Nat × Nat)) (mc:Option Nat):List AVal:=[y0,.slice ma n mc,y2,y3,y4,y5,y6,y7]
structure MO (lb:Nat) (H0 H:List AObj) (ma0:Option (Nat × Nat)) (K:Nat) (y0 y2 y3 y4 y5 y6 y7:AVal) (M:List LMethU) (ma:Option (Nat × Nat)) (mc:Option Nat):Prop where
 up:∀ i o,H0[i]? = some o→i≠K→(∀ q,ma0≠some (i,q))→H[i]? = some o
 len:H0.length≤H.length
 k0:∃ cs,H0[K]? = some (.cells 8 cs)
 t0:∀ p q,ma0=some (p,q)→∃ cs,H0[p]? = some (.cells 6 cs)
 k:H[K]? = some (.cells 8 (kM y0 y2 y3 y4 y5 y6 y7 M.length ma mc))
 rs:RV 6 LMethU.cells lb H M ma mc
 rn:ma=ma0∨∃ p,ma=some (p,0)∧H0.length≤p
section
variable {lb:Nat} {H0 H:List AObj} {ma0:Option (Nat × Nat)} {K b:Nat} {y0 y2 y3 y4 y5 y6 y7:AVal} {M:List LMethU} {ma:Option (Nat × Nat)} {mc:Option Nat}
theorem MO.tne (h:MO lb H0 H ma0 K y0 y2 y3 y4 y5 y6 y7 M ma mc) {p q:Nat} (hp:ma=some (p,q)):p≠K:=by
 obtain ⟨c1,h1⟩:=h.k0
 have l1:=aj h1
 rcases h.rn with h4 | ⟨p',h4,h5⟩
 ·obtain ⟨cs,h6⟩:=h.t0 p q (h4.symm.trans hp)
  intro e; rw [e,h1] at h6; cases h6
 ·rw [h4] at hp; cases hp
  omega
theorem MO.get (h:MO lb H0 H ma0 K y0 y2 y3 y4 y5 y6 y7 M ma mc) {i e:Nat} {cs:List AVal} (hg:H0[i]? = some (.cells e cs)) (hK:i≠K) (he:e≠6):H[i]? = some (.cells e cs) :=
 h.up i _ hg hK fun q hq=>by
  obtain ⟨cs',h1⟩:=h.t0 i q hq
  rw [hg] at h1; cases h1; exact he rfl
theorem MO.add (h:MO lb H0 H ma0 K y0 y2 y3 y4 y5 y6 y7 M ma mc) (hb:b≤lb) (hlb:lb≤H0.length) (hl:M.length≤1000000) (x:LMethU):∃ H',H.length+2=H'.length∧(∀ w m,m≤w→m≤lb→m≤nxA ma w)∧(∀ w,nxA ma w≤w)∧H'[H.length+1]? = some (.cells 6 ((M++[x]).flatMap LMethU.cells))∧(∀ p q,ma=some (p,q)→H'[p]? = some .dead) ∧
  H'[K]? = some (.cells 8 (kM y0 y2 y3 y4 y5 y6 y7 M.length ma mc))∧(∀ w,aAppend 6 64 ⟨H++[.cells 6 x.cells],b,w⟩ (.slice ma M.length mc) (.slice (some (H.length,0)) 1 (some 1))=some (.slice (some (H.length+1,0)) (M.length+1) none,⟨H',b,nxA ma w⟩)) ∧
  MO lb H0 (H'.set K (.cells 8 (kM y0 y2 y3 y4 y5 y6 y7 (M.length+1) (some (H.length+1,0)) none))) ma0 K y0 y2 y3 y4 y5 y6 y7 (M++[x]) (some (H.length+1,0)) none:=by
 have hln:=h.len
 obtain ⟨H',h1,h2,h3,h4,h5,h7,h6⟩:=h.rs.add (by':=64) lmeth_len (by omega) hb (by omega) (by omega) x
 have hk:=h3 _ _ h.k fun q e=>h.tne e rfl
 have hkl:=aj h.k
 refine ⟨H',h2,h4,h5,?_,h7,hk,h6,?_⟩
 ·rcases h1 with ⟨q,_⟩ | ⟨_,p,_,q2,_,q4⟩
  ·simp at q
  ·cases q2; exact q4
 ·refine ⟨fun i o hg q1 q3=>?_,by rw [br]; omega,h.k0,h.t0,by rw [bc,kx]; exact ic hk,?_,.inr ⟨_,rfl,by omega⟩⟩
  ·rw [ai (Ne.symm q1)]
   refine h3 _ _ (h.up i o hg q1 q3) fun q e=>?_
   rcases h.rn with h8 | ⟨p',h8,h9⟩
   ·exact q3 q (h8.symm.trans e)
   ·rw [h8] at e; cases e
    have:=aj hg; omega
  ·exact h1.keep fun p q o hp hg=>by
    cases hp
    rw [ai (by omega)]; exact hg
end
theorem idsL_meths (M:List LMethU):AVal.idsL (M.flatMap LMethU.cells)=[]:=by
 induction M with
 | nil=>rfl
 | cons x M ih=>rw [bu,lk,ih]; rfl
def app116m:ACode:=.after (.region [⟨true,[0,0,2,6,14,30,0,64,254],[v 91 3,v 92 3,o 93 (.nilcheck (t 92)),o 94 (.faddr (t 93) 0),o 95 (.faddr (t 94) 1),o 96 (.load none (t 95)),o 97 (.load (some 6) (t 11)),o 98 (.mkslice 6 1 [.int .i64 0,.str [],.str [],.bool false,.int .i64 0,.int .i64 0] [(0,6,t 97)]),o 99 (.append 6 64 (t 96) (t 98))]⟩,⟨false,[],[o 100 (.nilcheck (t 91)),o 101 (.faddr (t 100) 0),o 102 (.faddr (t 101) 1),u (.store 1 (t 102) (t 99))]⟩]) [3,4,5,6,7,8,27,28,68,69,70]
theorem app116m_eq:code116L2 = .live [3,4,5,6,7,8,27,28,68,69,70] (.seq (R [3,4,5,6,7,8,27,28,68,69,70,71] [o 71 (.bin .lss (t 70) (t 69))])
 (.seq (.after (.cond (t 71) (.skip) (.live [3,4,5,6,8,27,28] (.exit 2))) [3,4,5,6,7,8,27,28,68,69,70])
 (.seq (.after (.block 3 (.seq (R [3,4,5,6,7,8,10,27,28,68,69,70] [o 72 (.iaddr 8 (t 68) (t 70)),o 73 (.load (some 8) (t 72)),o 10 (.lalloc [.bool false,.str [],.str [],.int .i64 0,.int .i64 0,.slice none 0 (some 0),.slice none 0 (some 0),.slice none 0 (some 0)]),u (.store 8 (t 10) (t 73))])
 (.seq (R [3,4,5,6,7,8,11,27,28,68,69,70] [v 74 7,o 75 (.faddr (t 10) 1),o 76 (.load none (t 75)),o 77 (.faddr (t 10) 2),o 78 (.load none (t 77)),o 79 (.faddr (t 10) 0),o 80 (.load none (t 79)),o 81 (.build [.int .i64 0,.str [],.str [],.bool false,.int .i64 0,.int .i64 0] [(0,1,t 74),(1,1,t 76),(2,1,t 78),(3,1,t 80),(4,1,.const (.int .i64 (-1))),(5,1,.const (.int .i64 (-1)))]),o 11 (.lalloc [.int .i64 0,.str [],.str [],.bool false,.int .i64 0,.int .i64 0]),u (.store 6 (t 11) (t 81))])
 (.seq (.seq (R [3,4,5,6,7,8,11,27,28,68,69,70,86] [v 82 8,o 83 (.nilcheck (t 82)),o 84 (.faddr (t 83) 0),o 85 (.load none (t 84)),o 86 (.bin .eql (t 85) (.const (.str [115,121,115])))])
 (.after (.cond (t 86) (.seq (R [3,4,5,6,7,8,11,27,28,68,69,70] [v 87 6,o 88 (.faddr (t 11) 5),u (.store 1 (t 88) (t 87))])
 (R [3,4,5,6,7,8,11,27,28,68,69,70] [v 89 6,o 90 (.bin .add (t 89) (n 1)),v 6 90])) (.skip)) [3,4,5,6,7,8,11,27,28,68,69,70]))
 app116m)))) [3,4,5,6,7,8,27,28,68,69,70])
 (R [3,4,5,6,7,8,27,28,68,69,70] [o 103 (.bin .add (t 70) (n 1)),v 70 103])))):=rfl
section
attribute [-simp] getElem?_pos getElem?_neg List.all_eq_true sget
attribute [local simp] gz gs nltT nltF iltT iltF ileT nleT dh sgetN sgetH sgetT
theorem a116m {H H1:List AObj} {K b w:Nat} {ma:Option (Nat × Nat)} {mc:Option Nat} {M:List LMethU} {x:LMethU} {y0 y2 y3 y4 y5 y6 y7 x4 x5 x6 x7 x8 x27 x28 x68 x69 x70 x86:AVal}
  (hk:H[K]? = some (.cells 8 (kM y0 y2 y3 y4 y5 y6 y7 M.length ma mc))) (a4:H1[K]? = some (.cells 8 (kM y0 y2 y3 y4 y5 y6 y7 M.length ma mc))) (hb:b≤K) (hbl:b≤H.length)
  (a5:∀ w,aAppend 6 64 ⟨H++[.cells 6 x.cells],b,w⟩ (.slice ma M.length mc) (.slice (some (H.length,0)) 1 (some 1))=some (.slice (some (H.length+1,0)) (M.length+1) none,⟨H1,b,nxA ma w⟩)) (a1:H.length+2=H1.length)
  (hids:(ma=none∧mc=some 0)∨∃ rp,ma=some (rp,0)∧mc=none∧rp < H.length∧rp≠K∧H1[rp]? = some .dead) {R1:List AVal} (a6:H1[H.length+1]? = some (.cells 6 R1)) (a7:AVal.idsL R1=[]) {β:Type} (k':AExit→St→Option β) :
  xK T app116m ⟨[(3,.val (.ptr (some (K,0)))),(4,.val x4),(5,.val x5),(6,.val x6),(7,.val x7),(8,.val x8),(11,.var x.cells),(27,.val x27),(28,.val x28),(68,.val x68),(69,.val x69),(70,.val x70)],⟨H,b,w⟩⟩ (k:=⟨k'⟩) =
   k' .normal ⟨[(3,.val (.ptr (some (K,0)))),(4,.val x4),(5,.val x5),(6,.val x6),(7,.val x7),(8,.val x8),(27,.val x27),(28,.val x28),(68,.val x68),(69,.val x69),(70,.val x70)],⟨H1.set K (.cells 8 (kM y0 y2 y3 y4 y5 y6 y7 (M.length+1) (some (H.length+1,0)) none)),b,min (nxA ma w) K⟩⟩:=by
 have hci:=aj hk
 have hxc:x.cells=[.int .i64 x.cls,.str x.name,.str x.desc,.bool x.st,.int .i64 x.slot,.int .i64 x.native]:=rfl
 rw [hxc] at a5 ⊢
 unfold kM at hk a4 ⊢
 rcases hids with ⟨rfl,rfl⟩ | ⟨rp,rfl,rfl,hrp,hne,hdd⟩
 ·simp (maxSteps:=3000000) (disch:=omega) [ce,-aAppend,app116m,hk,a4,a5,a1.symm,a6,a7,idsC,nxA]
 ·simp (maxSteps:=3000000) (disch:=omega) [ce,-aAppend,app116m,hk,a4,a5,a1.symm,a6,a7,idsC,nxA,hdd,show ¬ rp=H.length+1 by omega,hrp,hne]
end
end Go.Abs.AbsSlot

namespace Go.Abs.AbsSlot
open Go.Abs.AbsHier Go.Abs.AbsDesc
open Go.Abs.Short
def tellM (i:Nat) (sys:Bool):List MethU→Nat→List LMethU
 | [],_=>[]
 | m :: ms,n=>⟨i,m.name,m.desc,m.st,-1,if sys then n else -1⟩ :: tellM i sys ms (if sys then n+1 else n)
def tellN (sys:Bool) (k n:Nat):Nat:=if sys then n+k else n
section
variable {lb:Nat} {H0:List AObj} {ma0:Option (Nat × Nat)} {K b ui uo m i:Nat} {y0 y2 y3 y4 y5 y6 y7 x4 x5 x27 x28:AVal} {us:List AVal}
section
attribute [-simp] getElem?_pos getElem?_neg List.all_eq_true
attribute [local simp] gz gs nltT nltF iltT iltF ileT nleT dh
theorem l116m {u:UnitU} (hU:H0[ui]? = some (.cells 4 us)) (hUK:ui≠K) (hun:us[uo]? = some (.str u.name)) (hF:Row H0 8 MethU.cells u.meths u.ma) (hFK:∀ q,u.ma≠some (K,q))
  (hb:b≤K∧b≤lb) (hlb:lb≤H0.length) (hm:m≤K∧m≤lb) (hlen:u.meths.length≤100000) (hi:i≤100000):∀ (j q w:Nat) (H:List AObj) (M:List LMethU) (n:Nat) (ma:Option (Nat × Nat)) (mc:Option Nat),q+j=u.meths.length→M.length+j≤1000000→n+j≤1000000→MO lb H0 H ma0 K y0 y2 y3 y4 y5 y6 y7 M ma mc→m≤w →
  ∃ H' ma' mc' w',MO lb H0 H' ma0 K y0 y2 y3 y4 y5 y6 y7 (M++tellM i (decide (u.name=sysT)) (u.meths.drop q) n) ma' mc'∧m≤w'∧w'≤w∧∀ {β:Type} (k':AExit→St→Option β),
  xK T (.loop code116L2) ⟨[(3,.val (.ptr (some (K,0)))),(4,.val x4),(5,.val x5),(6,.val (.int .i64 n)),(7,.val (.int .i64 i)),(8,.val (.ptr (some (ui,uo)))),(27,.val x27),(28,.val x28),(68,.val (.slice u.ma u.meths.length u.mc)),(69,.val (.int .i64 u.meths.length)),(70,.val (.int .i64 q))],⟨H,b,w⟩⟩ (k:=⟨k'⟩) =
   k' (.exit 2) ⟨[(3,.val (.ptr (some (K,0)))),(4,.val x4),(5,.val x5),(6,.val (.int .i64 (tellN (decide (u.name=sysT)) j n))),(8,.val (.ptr (some (ui,uo)))),(27,.val x27),(28,.val x28)],⟨H',b,w'⟩⟩
 | 0,q,w,H,M,n,ma,mc,hq,hM,hn,h,hw=>by
  refine ⟨H,ma,mc,w,?_,hw,ak _,fun {β} k'=>?_⟩
  ·rw [bq (by omega)]
   simpa [tellM] using h
  ·rw [bl]
   have:tellN (decide (u.name=sysT)) 0 n=n:=by unfold tellN; split <;> rfl
   rw [this]
   simp (disch:=omega) [code116L2]
 | j+1,q,w,H,M,n,ma,mc,hq,hM,hn,h,hw=>by
  obtain ⟨x,hx⟩:∃ x,u.meths[q]? = some x:=⟨_,ag (by omega)⟩
  obtain ⟨p,o,cs,ha,hp0,_,hcs,ht⟩:=g7 hF hx
  have hpp:=h.get hp0 (fun e=>hFK o (by rw [ha,e])) (by decide)
  have hd:=j7 hx
  have hcf:x.cells=[.bool x.st,.str x.name,.str x.desc,.int .i64 x.stack,.int .i64 x.locals,.slice x.ca x.code.length x.cc,.slice x.ta x.traps.length x.tc,.slice x.xa x.maps.length x.xc]:=rfl
  rw [hcf] at ht
  have hU':=h.get hU hUK (by decide)
  have hk:=h.k
  have hkl:=aj hk
  have hln:=h.len
  have e2:((q+1:Nat):Int)=(q:Int)+1:=by omega
  have e5:((n+1:Nat):Int)=(n:Int)+1:=by omega
  have hids:∀ {H1:List AObj},(∀ p q,ma=some (p,q)→H1[p]? = some .dead)→(ma=none∧mc=some 0)∨∃ rp,ma=some (rp,0)∧mc=none∧rp < H.length∧rp≠K∧H1[rp]? = some .dead:=fun a7=>by
   rcases h.rs with ⟨r1,r2,r3⟩ | ⟨r1,rp,r2,r3,r4,r5⟩
   ·exact .inl ⟨r2,r3⟩
   ·exact .inr ⟨rp,r3,r4,aj r5,h.tne r3,a7 _ _ r3⟩
  have hst:sysT=[115,121,115]:=rfl
  by_cases hs:u.name=sysT
  ·let y:LMethU:=⟨i,x.name,x.desc,x.st,-1,n⟩
   obtain ⟨H1,a1,a2,a3,a6,a7,a4,a5,hA⟩:=h.add hb.2 hlb (by omega) y
   have hnx:=a2 w m hw hm.2
   have hnx2:=a3 w
   obtain ⟨H',ma',mc',w',i1,i2,i3,i4⟩:=l116m hU hUK hun hF hFK hb hlb hm hlen hi j (q+1) (min (nxA ma w) K) _ (M++[y]) (n+1) _ _ (by omega) (by simp; omega) (by omega) hA (by omega)
   refine ⟨H',ma',mc',w',?_,i2,by omega,fun {β} k'=>?_⟩
   ·rw [hd]; simp only [tellM]
    rw [decide_eq_true hs] at i1 ⊢
    simp only [if_true]
    simpa using i1
   ·have ih:=i4 k'
    rw [e2,e5] at ih
    rw [ha] at ih ⊢
    rw [decide_eq_true hs] at ih ⊢
    have et:tellN true (j+1) n=tellN true j (n+1):=by simp only [tellN,if_true]; omega
    rw [et]
    have ap:=fun w x4 x5 x6 x7 x8 x27 x28 x68 x69 x70=>a116m (b:=b) (w:=w) (x:=y) (x4:=x4) (x5:=x5) (x6:=x6) (x7:=x7) (x8:=x8) (x27:=x27) (x28:=x28) (x68:=x68) (x69:=x69) (x70:=x70) (x86:=.nilFunc) hk a4 hb.1 (by omega) a5 a1 (hids a7) a6 (idsL_meths _) (β:=β)
    have hyc:y.cells=[.int .i64 i,.str x.name,.str x.desc,.bool x.st,.int .i64 (-1),.int .i64 n]:=rfl
    rw [hyc] at ap
    rw [hs,hst] at hun
    rw [bl]
    generalize ACode.loop code116L2=LL at ih ⊢
    simp (disch:=omega) [app116m_eq,hpp,ht,hU',hun,ap,ih]
  ·let y:LMethU:=⟨i,x.name,x.desc,x.st,-1,-1⟩
   obtain ⟨H1,a1,a2,a3,a6,a7,a4,a5,hA⟩:=h.add hb.2 hlb (by omega) y
   have hnx:=a2 w m hw hm.2
   have hnx2:=a3 w
   obtain ⟨H',ma',mc',w',i1,i2,i3,i4⟩:=l116m hU hUK hun hF hFK hb hlb hm hlen hi j (q+1) (min (nxA ma w) K) _ (M++[y]) n _ _ (by omega) (by simp; omega) (by omega) hA (by omega)
   refine ⟨H',ma',mc',w',?_,i2,by omega,fun {β} k'=>?_⟩
   ·rw [hd]; simp only [tellM]
    rw [decide_eq_false hs] at i1 ⊢
    simp only [av,if_false]
    simpa using i1
   ·have ih:=i4 k'
    rw [e2] at ih
    rw [ha] at ih ⊢
    rw [decide_eq_false hs] at ih ⊢
    have et:tellN false (j+1) n=tellN false j n:=by simp only [tellN,av,if_false]
    rw [et]
    have ap:=fun w x4 x5 x6 x7 x8 x27 x28 x68 x69 x70=>a116m (b:=b) (w:=w) (x:=y) (x4:=x4) (x5:=x5) (x6:=x6) (x7:=x7) (x8:=x8) (x27:=x27) (x28:=x28) (x68:=x68) (x69:=x69) (x70:=x70) (x86:=.nilFunc) hk a4 hb.1 (by omega) a5 a1 (hids a7) a6 (idsL_meths _) (β:=β)
    have hyc:y.cells=[.int .i64 i,.str x.name,.str x.desc,.bool x.st,.int .i64 (-1),.int .i64 (-1)]:=rfl
    rw [hyc] at ap
    have hne:¬ u.name=[115,121,115]:=hs
    rw [bl]
    generalize ACode.loop code116L2=LL at ih ⊢
    simp (disch:=omega) [app116m_eq,hpp,ht,hU',hun,hne,ap,ih]
end
end
end Go.Abs.AbsSlot

namespace Go.Abs.AbsSlot
open Go.Abs.AbsHier Go.Abs.AbsDesc
open Go.Abs.Short
theorem ents_stamp {κ ν:Type} {kf:κ→AVal} {vf:ν→AVal}:∀ (A:List (κ × ν)) (i n:Nat),i+A.length≤n→(ents kf vf i A).findIdx? (fun e=>((e.2.2:Nat):Int) == (n:Int))=none
 | [],i,n,_=>rfl
 | x :: A,i,n,h=>by
  simp only [az] at h
  rw [ents,List.findIdx?_cons,ents_stamp A (i+1) n (by omega)]
  have:¬ ((i:Int)=(n:Int)):=by omega
  simp [this]
section
variable {κ ν:Type} {os:List AObj} {b w r:Nat} {A:List (κ × ν)} {kf:κ→AVal} {vf:ν→AVal}
def eL (kf:κ→AVal) (vf:ν→AVal) (A:List (κ × ν)) (k:κ) (z:AVal):List (AVal × AVal × Nat):=ents kf vf 0 A++[(kf k,z,A.length)]
abbrev eObj (kf:κ→AVal) (vf:ν→AVal) (A:List (κ × ν)) (k:κ) (z:AVal):AObj:=.map (eL kf vf A k z) (A.length+1)
theorem entry_store {k:κ} {z:AVal} (h:os[r]? = some (eObj kf vf A k z)) (hb:b≤r) (v:ν) :
  evExt .entrystore [.map (some r),.int .i64 A.length,vf v] ⟨os,b,w⟩=some (.tuple [],⟨os.set r (mObj kf vf (A++[(k,v)])),b,min w r⟩):=by
 have hf:(ents kf vf 0 A++[(kf k,z,A.length)]).findIdx? (fun e=>((e.2.2:Nat):Int) == (A.length:Int))=some A.length:=by
  rw [List.findIdx?_append,ents_stamp A 0 A.length (by omega)]
  simp [List.findIdx?_cons,jw]
 simp only [evExt,hb,if_true,Heap.get,h,eObj,eL,hf,Heap.put]
 have:(ents kf vf 0 A++[(kf k,z,A.length)]).modify A.length (fun e=>(e.1,vf v,e.2.2))=ents kf vf 0 (A++[(k,v)]):=by
  rw [modify_at (x:=(kf k,z,A.length)) (by rw [aq (by rw [jw]; exact ak _),jw,Nat.sub_self]; rfl),List.set_append_right _ _ (by rw [jw]; exact ak _),jw,Nat.sub_self,ents_app,bt]
  rfl
 rw [this]
 simp [mObj]
end
section
variable {κ ν:Type} [DecidableEq κ] {os:List AObj} {b w r:Nat} {A:List (κ × ν)} {kf:κ→AVal} {vf:ν→AVal}
theorem entry_new (hk:KeyF kf) (h:os[r]? = some (mObj kf vf A)) {kn:KeyT} {z:AVal} {k:κ} (hi:isKey kn (kf k)=true) (hb:b≤r) (hg:getE A k=none) :
  evExt (.mapentry kn z) [.map (some r),kf k] ⟨os,b,w⟩=some (.tuple [z,.int .i64 A.length],⟨os.set r (eObj kf vf A k z),b,min w r⟩):=by
 simp only [evExt,hi,Heap.get,h,mObj,hb,and_self,if_true]
 simp only [findA_none hk A 0 hg,Heap.put,eObj,eL]
end
def app116p:ACode:=.after (.region [⟨true,[0,1,3,7,0,16,48,112,0,256,768,1792,0,4096,12288,28672,0,0,65535,327679,917503,1966079,4063231],[v 34 3,o 35 (.nilcheck (t 34)),o 36 (.faddr (t 35) 4),o 37 (.load none (t 36)),v 38 8,o 39 (.nilcheck (t 38)),o 40 (.faddr (t 39) 0),o 41 (.load none (t 40)),v 42 3,o 43 (.nilcheck (t 42)),o 44 (.faddr (t 43) 7),o 45 (.load none (t 44)),v 46 8,o 47 (.nilcheck (t 46)),o 48 (.faddr (t 47) 0),o 49 (.load none (t 48)),v 50 7,v 51 8,o 52 (.ext (.mapentry (.one .s) (.int .i64 0)) [t 37,t 41]),o 53 (.extract (t 52) 1),u (.ext .entrystore [t 37,t 53,t 50]),o 54 (.ext (.mapentry (.one .s) (.ptr none)) [t 45,t 49]),o 55 (.extract (t 54) 1)]⟩,⟨false,[],[u (.ext .entrystore [t 45,t 55,t 51])]⟩]) [3,4,5,6,7,8,27,28]
theorem app116p_eq:code116L3 = .live [3,4,5,6,27,28] (.seq (R [3,4,5,6,27,28,29] [o 29 (.bin .lss (t 28) (t 27))])
 (.seq (.after (.cond (t 29) (.skip) (.live [3,4,5] (.exit 0))) [3,4,5,6,27,28])
 (.seq (.after (.block 1 (.seq (R [3,4,5,6,7,27,28] [v 30 28,v 7 30])
 (.seq (R [3,4,5,6,7,8,27,28] [v 31 4,v 32 7,o 33 (.iaddr 4 (t 31) (t 32)),v 8 33])
 (.seq app116p
 (.seq (R [3,4,5,6,7,8,27,28] [v 56 5,v 57 3,o 58 (.nilcheck (t 57)),o 59 (.faddr (t 58) 0),o 60 (.faddr (t 59) 1),o 61 (.load none (t 60)),o 62 (.len .sl (t 61)),o 63 (.mkslice 1 1 [.int .i64 0] [(0,1,t 62)]),o 64 (.append 1 8 (t 56) (t 63)),v 5 64])
 (.seq (.seq (R [3,4,5,6,7,8,27,28,68,69,70] [v 65 8,o 66 (.nilcheck (t 65)),o 67 (.faddr (t 66) 3),o 68 (.load none (t 67)),o 69 (.len .sl (t 68)),o 70 (.val (n 0))])
 (.after (.block 2 (.loop code116L2)) [3,4,5,6,8,27,28]))
 (R [3,4,5,6,27,28] [v 104 3,v 105 8,o 106 (.callg 285 [t 104,t 105])]))))))) [3,4,5,6,27,28])
 (R [3,4,5,6,27,28] [o 107 (.bin .add (t 28) (n 1)),v 28 107])))):=rfl
theorem p116 {H:List AObj} {K ui uo mt mu b w i:Nat} {A:List (Str × Int)} {U:List (Str × Nat)} {us:List AVal} {nm:Str} {y0 y1 y2 y3 y5 y6 x4 x5 x6 x27 x28:AVal}
  (hk:H[K]? = some (.cells 8 [y0,y1,y2,y3,.map (some mt),y5,y6,.map (some mu)])) (hu:H[ui]? = some (.cells 4 us)) (hn:us[uo]? = some (.str nm)) (ht:H[mt]? = some (mObj AVal.str intV A)) (hm:H[mu]? = some (mObj AVal.str (fun q=>.ptr (some (ui,q))) U))
  (hne:mt≠mu) (hb:b≤mt∧b≤mu) (gA:getE A nm=none) (gU:getE U nm=none) {β:Type} (k':AExit→St→Option β) :
  xK T app116p ⟨[(3,.val (.ptr (some (K,0)))),(4,.val x4),(5,.val x5),(6,.val x6),(7,.val (.int .i64 i)),(8,.val (.ptr (some (ui,uo)))),(27,.val x27),(28,.val x28)],⟨H,b,w⟩⟩ (k:=⟨k'⟩) =
   k' .normal ⟨[(3,.val (.ptr (some (K,0)))),(4,.val x4),(5,.val x5),(6,.val x6),(7,.val (.int .i64 i)),(8,.val (.ptr (some (ui,uo)))),(27,.val x27),(28,.val x28)],⟨(H.set mt (mObj AVal.str intV (A++[(nm,(i:Int))]))).set mu (mObj AVal.str (fun q=>.ptr (some (ui,q))) (U++[(nm,uo)])),b,min w (min mt mu)⟩⟩:=by
 have l1:=aj hk
 have l2:=aj hu
 have l3:=aj ht
 have l4:=aj hm
 have e1:=fun w=>entry_new (b:=b) (w:=w) (kn:=.one .s) (z:=.int .i64 0) keyStr ht (k:=nm) rfl hb.1 gA
 have e2:=fun w=>entry_store (b:=b) (w:=w) (ic (y:=eObj AVal.str intV A nm (.int .i64 0)) ht) hb.1 (i:Int)
 rw [gr] at e2
 have hm2:∀ y,(H.set mt y)[mu]? = some (mObj AVal.str (fun q=>.ptr (some (ui,q))) U):=fun y=>by rw [ai hne]; exact hm
 have e3:=fun y w=>entry_new (b:=b) (w:=w) (kn:=.one .s) (z:=.ptr none) keyStr (hm2 y) (k:=nm) rfl hb.2 gU
 have e4:=fun y w=>entry_store (b:=b) (w:=w) (ic (y:=eObj AVal.str (fun q=>.ptr (some (ui,q))) U nm (.ptr none)) (hm2 y)) hb.2 uo
 simp only [gr] at e4
 simp only [intV] at e1 e2
 have s1:∀ y,(H.set mt y)[mt]? = some y:=fun y=>ic ht
 have s2:∀ y z,((H.set mt y).set mu z)[mu]? = some z:=fun y z=>ic (hm2 y)
 have f0:∀ {ν:Type} {vf:ν→AVal} {n m:Nat} {ds:List Did},(∀ x,∀ i ∈ (vf x).ids,i < n)→∀ (B:List (Str × ν)) (q:Nat),(List.flatMap (fun x=>x.1.ids++x.2.1.ids) (ents AVal.str vf q B)).all (okId n m ds)=true:=fun {ν vf n m ds} hv B=>by
  induction B with
  | nil=>intro q; rfl
  | cons x B ih =>
   intro q
   simp only [ents,bu,List.all_append,ih,Bool.and_true]
   simp only [AVal.ids,List.all_nil,gn]
   exact al.2 fun i hi=>by simp [okId,hv x.2 i hi]
 have f1:∀ m ds (B:List (Str × Int)),(List.flatMap (fun x=>x.1.ids++x.2.1.ids) (ents AVal.str (fun x=>AVal.int .i64 x) 0 B)).all (okId H.length m ds)=true:=fun m ds B=>f0 (fun x i hi=>by simp [AVal.ids] at hi) B 0
 have f2:∀ m ds (B:List (Str × Nat)),(List.flatMap (fun x=>x.1.ids++x.2.1.ids) (ents AVal.str (fun q=>AVal.ptr (some (ui,q))) 0 B)).all (okId H.length m ds)=true:=fun m ds B=>f0 (fun x i hi=>by simp [AVal.ids] at hi; omega) B 0
 have f3:∀ m ds,(List.flatMap (fun x=>x.1.ids++x.2.1.ids) (eL AVal.str (fun x=>AVal.int .i64 x) A nm (.int .i64 0))).all (okId H.length m ds)=true:=fun m ds=>by
  unfold eL
  rw [ix,List.all_append,f1]
  simp [AVal.ids]
 have f4:∀ m ds,(List.flatMap (fun x=>x.1.ids++x.2.1.ids) (eL AVal.str (fun q=>AVal.ptr (some (ui,q))) U nm (.ptr none))).all (okId H.length m ds)=true:=fun m ds=>by
  unfold eL
  rw [ix,List.all_append,f2]
  simp [AVal.ids]
 have hiv:intV=fun x=>AVal.int .i64 x:=rfl
 simp only [mObj,eObj,hiv] at e1 e2 e3 e4 ⊢
 simp (maxSteps:=3000000) (disch:=omega) [-getElem?_pos,-getElem?_neg,-List.all_eq_true,gz,gs,nltT,nltF,iltT,iltF,ileT,nleT,dh,-sget,sgetN,sgetH,sgetT,ce,-evExt,app116p,hk,hu,hn,e1,e2,e3,e4,s1,s2,f1,f2,f3,f4,-List.all_flatMap,-List.all_append]
end Go.Abs.AbsSlot

namespace Go.Abs.AbsSlot
open Go.Abs.AbsHier Go.Abs.AbsDesc
theorem ren_sl (g:Nat→Nat) (a:Option (Nat × Nat)) (n:Nat) (c:Option Nat):(AVal.slice a n c).ren g = .slice (a.map fun p=>(g p.1,p.2)) n c:=by
 cases a with
 | none=>rfl
 | some p=>rfl
end Go.Abs.AbsSlot

namespace Go.Abs.AbsSlot
open Go.Abs.AbsHier Go.Abs.AbsDesc
end Go.Abs.AbsSlot

namespace Go.Abs.AbsHier
open Go.Abs.AbsDesc
variable {os O H:List AObj} {b w:Nat}
structure Left (j:Nat) (r:Int):Prop where
 hi:r≤600
 lo:-1152921504606846976+j*562949953404928≤r
structure Went (j:Nat) (r r':Int):Prop where
 hi:r'≤600
 lo:r - j*562949953404928≤r'
theorem Left.zero {r:Int} (h:Left 0 r):Went 0 r r:=⟨h.hi,by omega⟩
theorem Left.next {j:Nat} {r q:Int} (h:Left (j+1) r) (h0:0≤q) (h1:q≤562949953404928):Left j (r - q):=⟨by have:=h.hi; omega,by have:=h.lo; omega⟩
theorem Went.next {j:Nat} {r q r':Int} (h:Went j (r - q) r') (h0:0≤q) (h1:q≤562949953404928):Went (j+1) r r':=⟨h.hi,by have:=h.lo; omega⟩
theorem Left.wrap {j:Nat} {r q:Int} (h:Left (j+1) r) (h0:0≤q) (h1:q≤562949953404928):IntKind.i64.wrap (r - q)=r - q:=dh ⟨by have:=h.lo; omega,by have:=h.hi; omega⟩
theorem tdiv_le {n:Nat} {d:Int} (hd:0 < d) (hn:n≤reachB*4):∃ q:Int,(n:Int).tdiv d=q∧0≤q∧q≤562949953404928:=by
 have hn':n≤562949953404928:=hn
 refine ⟨_,rfl,?_,?_⟩
 ·exact Int.tdiv_nonneg (by omega) (by omega)
 ·rw [Int.tdiv_eq_ediv_of_nonneg (by omega)]
  have:=Int.ediv_le_self (b:=d) (a:=(n:Int)) (by omega)
  omega
section
attribute [-simp] getElem?_pos getElem?_neg List.all_eq_true
attribute [local simp] gz gs nltT nltF iltT iltF ileT nleT dh
theorem l104a {A:List Str} {aa:Option (Nat × Nat)} {cc:Option Nat} {x56 x57 x58 x124 x125 x126:AVal} (hR:Row H 1 strC A aa) (hA:A.length≤600) (hs:∀ t ∈ A,t.length≤reachB) :
  ∀ (j i:Nat) (r:Int) (w:Nat),i+j=A.length→Left j r →
  ∃ r',Went j r r'∧∀ (k:AExit→St→Option (AVal × Heap)),
  xK T (.loop code104L0) ⟨[(3,.val (.int .i64 r)),(56,.val x56),(57,.val x57),(58,.val x58),(124,.val x124),(125,.val x125),(126,.val x126),(148,.val (.slice aa A.length cc)),(149,.val (.int .i64 A.length)),(150,.val (.int .i64 i))],⟨H,b,w⟩⟩ (k:=⟨k⟩) =
   k (.exit 10) ⟨[(3,.val (.int .i64 r')),(56,.val x56),(57,.val x57),(58,.val x58),(124,.val x124),(125,.val x125),(126,.val x126)],⟨H,b,w⟩⟩
 | 0,i,r,w,hi,hr=>by
  refine ⟨r,hr.zero,fun k=>?_⟩
  rw [bl]
  simp (disch:=omega) [code104L0]
 | j+1,i,r,w,hi,hr=>by
  obtain ⟨t,hx⟩:∃ t,A[i]? = some t:=⟨_,ag (by omega)⟩
  obtain ⟨p,o,cs,ha,hp,hpl,hcs,hv⟩:=g7 hR hx
  have ht:=hs t (au hx)
  obtain ⟨q,hq,hq0,hq1⟩:=tdiv_le (n:=t.length) (d:=100) (by decide) (by omega)
  have hql:(t.length:Int)≤9223372036854775807:=by have:t.length≤140737488351232:=ht; omega
  obtain ⟨r',h1,ih⟩:=l104a (x56:=x56) (x57:=x57) (x58:=x58) (x124:=x124) (x125:=x125) (x126:=x126) (cc:=cc) hR hA hs j (i+1) (r - q) w (by omega) (hr.next hq0 hq1)
  refine ⟨r',h1.next hq0 hq1,fun k=>?_⟩
  have hwr:=hr.wrap hq0 hq1
  have ih:=ih k
  have e2:((i+1:Nat):Int)=(i:Int)+1:=by omega
  rw [e2,ha] at ih
  rw [bl,ha]
  have hv':(List.drop (o+i*1) cs).take 1=[.str t]:=hv
  have hv2:cs[o+i]? = some (.str t):=by
   have:=congrArg (fun z=>z[0]?) hv'
   simpa [List.getElem?_take,dz] using this
  generalize ACode.loop code104L0=L' at ih ⊢
  simp (disch:=omega) [code104L0,hp,hv2,hq,hwr,ih]
theorem l104t {L:List TrapU} {aa:Option (Nat × Nat)} {cc:Option Nat} {x7:List AVal} {x56 x57 x58:AVal} (hR:Row H 4 TrapU.cells L aa) (hA:L.length≤600) (hs:∀ t ∈ L,t.fits) :
  ∀ (j i:Nat) (r:Int) (w:Nat),i+j=L.length→Left j r →
  ∃ r',Went j r r'∧∀ (k:AExit→St→Option (AVal × Heap)),
  xK T (.loop code104L2) ⟨[(3,.val (.int .i64 r)),(7,.var x7),(56,.val x56),(57,.val x57),(58,.val x58),(110,.val (.slice aa L.length cc)),(111,.val (.int .i64 L.length)),(112,.val (.int .i64 i))],⟨H,b,w⟩⟩ (k:=⟨k⟩) =
   k (.exit 6) ⟨[(3,.val (.int .i64 r')),(7,.var x7),(56,.val x56),(57,.val x57),(58,.val x58)],⟨H,b,w⟩⟩
 | 0,i,r,w,hi,hr=>by
  refine ⟨r,hr.zero,fun k=>?_⟩
  rw [bl]
  simp (disch:=omega) [code104L2]
 | j+1,i,r,w,hi,hr=>by
  obtain ⟨t,hx⟩:∃ t,L[i]? = some t:=⟨_,ag (by omega)⟩
  obtain ⟨p,o,cs,ha,hp,hpl,hcs,hv⟩:=g7 hR hx
  have ht:t.cls.length≤reachB:=hs t (au hx)
  obtain ⟨q,hq,hq0,hq1⟩:=tdiv_le (n:=t.cls.length) (d:=100) (by decide) (by omega)
  have hql:(t.cls.length:Int)≤9223372036854775807:=by have:t.cls.length≤140737488351232:=ht; omega
  obtain ⟨r',h1,ih⟩:=l104t (x7:=x7) (x56:=x56) (x57:=x57) (x58:=x58) (cc:=cc) hR hA hs j (i+1) (r - q) w (by omega) (hr.next hq0 hq1)
  refine ⟨r',h1.next hq0 hq1,fun k=>?_⟩
  have hwr:=hr.wrap hq0 hq1
  have ih:=ih k
  have e2:((i+1:Nat):Int)=(i:Int)+1:=by omega
  rw [e2,ha] at ih
  rw [bl,ha]
  unfold TrapU.cells at hv
  generalize ACode.loop code104L2=L' at ih ⊢
  simp (disch:=omega) [code104L2,hp,hv,hq,hwr,ih]
theorem l104c {L:List InsU} {aa:Option (Nat × Nat)} {cc:Option Nat} {x7:List AVal} {x56 x57 x58:AVal} (hR:Row H 7 InsU.cells L aa) (hA:L.length≤600) (hs:∀ t ∈ L,t.fits) :
  ∀ (j i:Nat) (r:Int) (w:Nat),i+j=L.length→Left j r →
  ∃ r',Went j r r'∧∀ (k:AExit→St→Option (AVal × Heap)),
  xK T (.loop code104L3) ⟨[(3,.val (.int .i64 r)),(7,.var x7),(56,.val x56),(57,.val x57),(58,.val x58),(84,.val (.slice aa L.length cc)),(85,.val (.int .i64 L.length)),(86,.val (.int .i64 i))],⟨H,b,w⟩⟩ (k:=⟨k⟩) =
   k (.exit 4) ⟨[(3,.val (.int .i64 r')),(7,.var x7),(56,.val x56),(57,.val x57),(58,.val x58)],⟨H,b,w⟩⟩
 | 0,i,r,w,hi,hr=>by
  refine ⟨r,hr.zero,fun k=>?_⟩
  rw [bl]
  simp (disch:=omega) [code104L3]
 | j+1,i,r,w,hi,hr=>by
  obtain ⟨t,hx⟩:∃ t,L[i]? = some t:=⟨_,ag (by omega)⟩
  obtain ⟨p,o,cs,ha,hp,hpl,hcs,hv⟩:=g7 hR hx
  obtain ⟨f1,f2,f3,f4⟩:=hs t (au hx)
  obtain ⟨q,hq,hq0,hq1⟩:=tdiv_le (n:=t.cls.length+t.name.length+t.desc.length+t.text.length) (d:=100) (by decide) (by omega)
  simp only [Int.natCast_add] at hq
  have hb:reachB=140737488351232:=rfl
  obtain ⟨r',h1,ih⟩:=l104c (x7:=x7) (x56:=x56) (x57:=x57) (x58:=x58) (cc:=cc) hR hA hs j (i+1) (r - q) w (by omega) (hr.next hq0 hq1)
  refine ⟨r',h1.next hq0 hq1,fun k=>?_⟩
  have hwr:=hr.wrap hq0 hq1
  have ih:=ih k
  have e2:((i+1:Nat):Int)=(i:Int)+1:=by omega
  rw [e2,ha] at ih
  rw [bl,ha]
  unfold InsU.cells at hv
  generalize ACode.loop code104L3=L' at ih ⊢
  simp (disch:=omega) [code104L3,hp,hv,hq,hwr,ih]
end
theorem ids_strC:∀ L:List Str,AVal.idsL (L.flatMap strC)=[]
 | []=>rfl
 | t :: L=>by
  rw [bu,lk,ids_strC L]; rfl
theorem okId_low {n0 m i:Nat} {ds:List Did} (h:i < n0):okId n0 m ds i=true:=by
 unfold okId; simp [h]
theorem ji {n0 m n:Nat} {ds:List Did} {a:Option (Nat × Nat)} {c:Option Nat} (h:under n0 a):(AVal.slice a n c).ids.all (okId n0 m ds)=true:=by
 rw [al]; exact fun i hi=>okId_low (ids_slice h i hi)
section
attribute [-simp] getElem?_pos getElem?_neg List.all_eq_true
attribute [local simp] gz gs nltT nltF iltT iltF ileT nleT dh
set_option maxHeartbeats 2000000 in
theorem l104m {L:List MapU} {aa:Option (Nat × Nat)} {cc:Option Nat} {x56 x57 x58:AVal} (hR:Row os 3 MapU.cells L aa) (hL:L.length≤reachB) (hok:∀ x ∈ L,x.ok os) (hf:∀ x ∈ L,x.fits) (hb:b≤os.length) :
  ∀ (j i:Nat) (r:Int) (O:List AObj) (w:Nat),i+j=L.length→Left 1000 r→os.length≤w→Pre os O →
  ∃ e s' O' w',os.length≤w'∧Pre os O'∧((e = .ret∧s'=[(2,.val (.bool false))])∨(e = .exit 8∧∃ r',Left 1000 r'∧s'=[(3,.val (.int .i64 r')),(56,.val x56),(57,.val x57),(58,.val x58)]))∧∀ (k:AExit→St→Option (AVal × Heap)),
  xK T (.loop code104L1) ⟨[(3,.val (.int .i64 r)),(56,.val x56),(57,.val x57),(58,.val x58),(124,.val (.slice aa L.length cc)),(125,.val (.int .i64 L.length)),(126,.val (.int .i64 i))],⟨O,b,w⟩⟩ (k:=⟨k⟩) =
   k e ⟨s',⟨O',b,w'⟩⟩
 | 0,i,r,O,w,hi,hr,hw,hO=>by
  refine ⟨.exit 8,_,O,w,hw,hO,.inr ⟨rfl,r,hr,rfl⟩,fun k=>?_⟩
  rw [bl]
  simp (disch:=omega) [code104L1]
 | j+1,i,r,O,w,hi,hr,hw,hO=>by
  obtain ⟨x,hx⟩:∃ x,L[i]? = some x:=⟨_,ag (by omega)⟩
  obtain ⟨p,o,cs,ha,hp,hpl,hcs,hv⟩:=g7 (hO.row hR) hx
  have hxm:=au hx
  have hxo:=(hok x hxm).pre hO
  obtain ⟨fl,fs,fls,fss⟩:=hf x hxm
  have hrb:reachB=140737488351232:=rfl
  have hOl:=hO.len
  have hb':b≤O.length:=by omega
  have r1:=hr.hi
  have r2:=hr.lo
  have e2:((i+1:Nat):Int)=(i:Int)+1:=by omega
  unfold MapU.cells at hv
  by_cases c0:r - 1 - x.locals.length - x.stack.length < 0
  ·refine ⟨.ret,_,O,w,hw,hO,.inl ⟨rfl,rfl⟩,fun k=>?_⟩
   rw [bl,ha]
   simp (disch:=omega) [code104L1,hp,hv,c0]
  ·have hl1:=fun b w=>rowOf_row (f:=strC) (e:=1) (h:=⟨O++[.cells 1 []],b,w⟩) (c:=x.lc) ((Pre.app O _).row hxo.l)
   have hs1:=fun b w=>rowOf_row (f:=strC) (e:=1) (h:=⟨O++[.cells 1 []],b,w⟩) (c:=x.sc) ((Pre.app O _).row hxo.s)
   have hl2:=fun b w=>rowOf_row (f:=strC) (e:=1) (h:=⟨O++[.cells 1 [],.cells 1 (x.locals.flatMap strC)],b,w⟩) (c:=x.sc) ((Pre.app O _).row hxo.s)
   have flatL:(x.locals.flatMap strC).length=x.locals.length*1:=i8 strC 1 (fun _=>rfl) _
   have hla:(x.locals++x.stack).length=x.locals.length+x.stack.length:=bc
   by_cases c1:x.locals.length=0
   ·by_cases c2:x.stack.length=0
    ·have hin:=fun w=>l104a (b:=b) (A:=[]) (aa:=some (O.length,0)) (cc:=some 0) (H:=O++[.cells 1 []]) (x56:=x56) (x57:=x57) (x58:=x58) (x124:=.slice (some (p,o)) L.length cc) (x125:=.int .i64 L.length) (x126:=.int .i64 i) ⟨fun h=>absurd rfl h⟩ (by simp) (by simp) 0 0 (r - 1 - x.locals.length - x.stack.length) w (by simp) ⟨by omega,by omega⟩
     simp only [co,bf] at hin
     obtain ⟨r',g1,hin⟩:=hin w
     obtain ⟨e,s',O',w',q1,q2,q3,ih⟩:=l104m (x56:=x56) (x57:=x57) (x58:=x58) (cc:=cc) hR hL hok hf hb j (i+1) r' (O++[.cells 1 []]) w (by omega) ⟨g1.hi,by have:=g1.lo; omega⟩ hw (hO.trans (Pre.app _ _))
     refine ⟨e,s',O',w',q1,q2,q3,fun k=>?_⟩
     have ih:=ih k
     rw [e2,ha] at ih
     rw [bl,ha]
     generalize ACode.loop code104L1=L' at ih ⊢
     simp only [c1,c2,bf,Int.sub_zero] at hv hin ⊢
     simp (disch:=omega) [-sget,sgetN,sgetH,sgetT,code104L1,hp,hv,c0,ce,cf,eb,fk,ie,gp,-rowOf,rowOf0,ji hxo.lu,ji hxo.su,hin,ih,ids_strC]
    ·have hrow:Row (O++[.cells 1 [],.cells 1 (x.stack.flatMap strC)]) 1 strC x.stack (some (O.length+1,0)):=Row.mk0 (fun _=>rfl) (by rw [eb]; rfl)
     obtain ⟨r',g1,hin⟩:=l104a (b:=b) (cc:=none) (x56:=x56) (x57:=x57) (x58:=x58) (x124:=.slice (some (p,o)) L.length cc) (x125:=.int .i64 L.length) (x126:=.int .i64 i) hrow (by omega) fss x.stack.length 0 (r - 1 - x.locals.length - x.stack.length) w (by simp) ⟨by omega,by omega⟩
     simp only [bf] at hin
     obtain ⟨e,s',O',w',q1,q2,q3,ih⟩:=l104m (x56:=x56) (x57:=x57) (x58:=x58) (cc:=cc) hR hL hok hf hb j (i+1) r' (O++[.cells 1 [],.cells 1 (x.stack.flatMap strC)]) w (by omega) ⟨g1.hi,by have:=g1.lo; omega⟩ hw (hO.trans (Pre.app _ _))
     refine ⟨e,s',O',w',q1,q2,q3,fun k=>?_⟩
     have ih:=ih k
     rw [e2,ha] at ih
     rw [bl,ha]
     generalize ACode.loop code104L1=L' at ih ⊢
     simp only [c1,bf,Int.sub_zero] at hv hin ⊢
     simp (disch:=omega) [-sget,sgetN,sgetH,sgetT,-rowOf,rowOf0,code104L1,hp,hv,c0,c2,hs1,ce,cf,eb,fk,ie,gp,ji hxo.lu,ji hxo.su,hin,ih,ids_strC]
   ·by_cases c2:x.stack.length=0
    ·have hrow:Row (O++[.cells 1 [],.cells 1 (x.locals.flatMap strC)]) 1 strC x.locals (some (O.length+1,0)):=Row.mk0 (fun _=>rfl) (by rw [eb]; rfl)
     obtain ⟨r',g1,hin⟩:=l104a (b:=b) (cc:=none) (x56:=x56) (x57:=x57) (x58:=x58) (x124:=.slice (some (p,o)) L.length cc) (x125:=.int .i64 L.length) (x126:=.int .i64 i) hrow (by omega) fls x.locals.length 0 (r - 1 - x.locals.length - x.stack.length) w (by simp) ⟨by omega,by omega⟩
     simp only [bf] at hin
     obtain ⟨e,s',O',w',q1,q2,q3,ih⟩:=l104m (x56:=x56) (x57:=x57) (x58:=x58) (cc:=cc) hR hL hok hf hb j (i+1) r' (O++[.cells 1 [],.cells 1 (x.locals.flatMap strC)]) w (by omega) ⟨g1.hi,by have:=g1.lo; omega⟩ hw (hO.trans (Pre.app _ _))
     refine ⟨e,s',O',w',q1,q2,q3,fun k=>?_⟩
     have ih:=ih k
     rw [e2,ha] at ih
     rw [bl,ha]
     generalize ACode.loop code104L1=L' at ih ⊢
     have hz:=fun w=>rowOfC (e:=1) (n:=x.locals.length) (h:=⟨O++[.cells 1 [],.cells 1 (x.locals.flatMap strC)],b,w⟩) (i:=O.length+1) (c:=none) (by rw [eb]; rfl) flatL
     simp only [c2,bf,Int.sub_zero] at hv hin ⊢
     simp (disch:=omega) [-sget,sgetN,sgetH,sgetT,-rowOf,rowOf0,hz,code104L1,hp,hv,c0,c1,hl1,ce,cf,eb,fk,ie,gp,ji hxo.lu,ji hxo.su,hin,ih,ids_strC]
    ·have hrow:Row (O++[.cells 1 [],.dead,.cells 1 ((x.locals++x.stack).flatMap strC)]) 1 strC (x.locals++x.stack) (some (O.length+2,0)):=Row.mk0 (fun _=>rfl) (by rw [eb]; rfl)
     obtain ⟨r',g1,hin⟩:=l104a (b:=b) (cc:=none) (x56:=x56) (x57:=x57) (x58:=x58) (x124:=.slice (some (p,o)) L.length cc) (x125:=.int .i64 L.length) (x126:=.int .i64 i) hrow (by simp; omega) (fun t ht=>by
      rcases bg.1 ht with ht | ht
      ·exact fls t ht
      ·exact fss t ht) (x.locals++x.stack).length 0 (r - 1 - x.locals.length - x.stack.length) (min w (O.length+1)) (by simp) ⟨by omega,by omega⟩
     simp only [bf] at hin
     obtain ⟨e,s',O',w',q1,q2,q3,ih⟩:=l104m (x56:=x56) (x57:=x57) (x58:=x58) (cc:=cc) hR hL hok hf hb j (i+1) r' (O++[.cells 1 [],.dead,.cells 1 ((x.locals++x.stack).flatMap strC)]) (min w (O.length+1)) (by omega) ⟨g1.hi,by have:=g1.lo; omega⟩ (by omega) (hO.trans (Pre.app _ _))
     refine ⟨e,s',O',w',q1,q2,q3,fun k=>?_⟩
     have ih:=ih k
     rw [e2,ha] at ih
     rw [bl,ha]
     generalize ACode.loop code104L1=L' at ih ⊢
     have hz:=fun w=>rowOfC (e:=1) (n:=x.locals.length) (h:=⟨O++[.cells 1 [],.cells 1 (x.locals.flatMap strC)],b,w⟩) (i:=O.length+1) (c:=none) (by rw [eb]; rfl) flatL
     rw [ix] at hin ih
     rw [bc,Int.natCast_add] at hin
     simp (disch:=omega) [-sget,sgetN,sgetH,sgetT,-rowOf,rowOf0,hz,hl2,code104L1,hp,hv,c0,c1,c2,hl1,ce,cf,eb,fk,ie,gp,ji hxo.lu,ji hxo.su,hin,ih,ids_strC]
end
end Go.Abs.AbsHier

namespace Go.Abs.AbsHier
open Go.Abs.AbsDesc
variable {os O H:List AObj} {b w:Nat}
theorem tdiv_50 {n:Nat} (hn:n≤reachB*4):∃ q:Int,(n:Int).tdiv 50=q∧0≤q∧q≤281474976702464:=by
 have hn':n≤562949953404928:=hn
 refine ⟨_,rfl,?_,?_⟩
 ·exact Int.tdiv_nonneg (by omega) (by omega)
 ·rw [Int.tdiv_eq_ediv_of_nonneg (by omega)]
  omega
section
attribute [-simp] getElem?_pos getElem?_neg List.all_eq_true
attribute [local simp] gz gs nltT nltF iltT iltF ileT nleT dh
theorem l104f {L:List FieldU} {aa:Option (Nat × Nat)} {cc:Option Nat} {x1:List AVal} (hR:Row H 3 FieldU.cells L aa) (hL:L.length≤reachB) (hs:∀ t ∈ L,t.fits) :
  ∀ (j i:Nat) (r:Int) (w:Nat),i+j=L.length→Left j r →
  ∃ r',Went j r r'∧∀ (k:AExit→St→Option (AVal × Heap)),
  xK T (.loop code104L5) ⟨[(1,.var x1),(3,.val (.int .i64 r)),(37,.val (.slice aa L.length cc)),(38,.val (.int .i64 L.length)),(39,.val (.int .i64 i))],⟨H,b,w⟩⟩ (k:=⟨k⟩) =
   k (.exit 0) ⟨[(1,.var x1),(3,.val (.int .i64 r'))],⟨H,b,w⟩⟩
 | 0,i,r,w,hi,hr=>by
  refine ⟨r,hr.zero,fun k=>?_⟩
  rw [bl]
  simp (disch:=omega) [code104L5]
 | j+1,i,r,w,hi,hr=>by
  obtain ⟨t,hx⟩:∃ t,L[i]? = some t:=⟨_,ag (by omega)⟩
  obtain ⟨p,o,cs,ha,hp,hpl,hcs,hv⟩:=g7 hR hx
  obtain ⟨f1,f2⟩:=hs t (au hx)
  obtain ⟨q,hq,hq0,hq1⟩:=tdiv_50 (n:=t.name.length+t.desc.length) (by omega)
  simp only [Int.natCast_add] at hq
  have hb:reachB=140737488351232:=rfl
  have g0:0≤1+q:=by omega
  have g1:1+q≤562949953404928:=by omega
  obtain ⟨r',h1,ih⟩:=l104f (x1:=x1) (cc:=cc) hR hL hs j (i+1) (r - (1+q)) w (by omega) (hr.next g0 g1)
  refine ⟨r',h1.next g0 g1,fun k=>?_⟩
  have r1:=hr.hi
  have r2:=hr.lo
  have ih:=ih k
  have e2:((i+1:Nat):Int)=(i:Int)+1:=by omega
  have e3:r - (1+q)=r - 1 - q:=by omega
  rw [e2,e3,ha] at ih
  rw [bl,ha]
  unfold FieldU.cells at hv
  generalize ACode.loop code104L5=L' at ih ⊢
  simp (disch:=omega) [code104L5,hp,hv,hq,ih]
theorem l104M {L:List MethU} {aa:Option (Nat × Nat)} {cc:Option Nat} (hR:Row os 8 MethU.cells L aa) (hL:L.length≤reachB) (hok:∀ x ∈ L,x.ok os) (hf:∀ x ∈ L,x.fits) (hb:b≤os.length) :
  ∀ (j i:Nat) (r:Int) (O:List AObj) (w:Nat),i+j=L.length→Left 1000 r→os.length≤w→Pre os O →
  ∃ e s' O' w',os.length≤w'∧Pre os O'∧((e = .ret∧s'=[(2,.val (.bool false))])∨(e = .exit 2∧∃ r',s'=[(3,.val (.int .i64 r'))]))∧∀ (k:AExit→St→Option (AVal × Heap)),
  xK T (.loop code104L4) ⟨[(3,.val (.int .i64 r)),(56,.val (.slice aa L.length cc)),(57,.val (.int .i64 L.length)),(58,.val (.int .i64 i))],⟨O,b,w⟩⟩ (k:=⟨k⟩) =
   k e ⟨s',⟨O',b,w'⟩⟩
 | 0,i,r,O,w,hi,hr,hw,hO=>by
  refine ⟨.exit 2,_,O,w,hw,hO,.inr ⟨rfl,r,rfl⟩,fun k=>?_⟩
  rw [bl]
  simp (disch:=omega) [code104L4]
 | j+1,i,r,O,w,hi,hr,hw,hO=>by
  obtain ⟨x,hx⟩:∃ x,L[i]? = some x:=⟨_,ag (by omega)⟩
  obtain ⟨p,o,cs,ha,hp,hpl,hcs,hv⟩:=g7 (hO.row hR) hx
  have hxm:=au hx
  have hxo:=(hok x hxm).pre hO
  have hxf:=hf x hxm
  have hrb:reachB=140737488351232:=rfl
  have hOl:=hO.len
  have r1:=hr.hi
  have r2:=hr.lo
  have e2:((i+1:Nat):Int)=(i:Int)+1:=by omega
  have f1:=hxf.name
  have f2:=hxf.desc
  have f3:=hxf.c
  have f4:=hxf.t
  have f5:=hxf.x
  obtain ⟨q,hq,hq0,hq1⟩:=tdiv_50 (n:=x.name.length+x.desc.length) (by omega)
  simp only [Int.natCast_add] at hq
  unfold MethU.cells at hv
  by_cases c0:r - 1 - x.code.length - x.traps.length - q < 0
  ·refine ⟨.ret,_,O,w,hw,hO,.inl ⟨rfl,rfl⟩,fun k=>?_⟩
   rw [bl,ha]
   simp (disch:=omega) [code104L4,hp,hv,hq,c0]
  ·obtain ⟨ra,ga,ha1⟩:=l104c (b:=b) (cc:=x.cc) (x7:=x.cells) (x56:=.slice (some (p,o)) L.length cc) (x57:=.int .i64 L.length) (x58:=.int .i64 i) hxo.c (by omega) hxf.cs x.code.length 0 (r - 1 - x.code.length - x.traps.length - q) w (by simp) ⟨by omega,by omega⟩
   have ga1:=ga.lo
   have ga2:=ga.hi
   obtain ⟨rb,gb,hb1⟩:=l104t (b:=b) (cc:=x.tc) (x7:=x.cells) (x56:=.slice (some (p,o)) L.length cc) (x57:=.int .i64 L.length) (x58:=.int .i64 i) hxo.t (by omega) hxf.ts x.traps.length 0 ra w (by simp) ⟨by omega,by omega⟩
   have gb1:=gb.lo
   have gb2:=gb.hi
   obtain ⟨e,s',O1,w1,q1,q2,q3,hc1⟩:=l104m (cc:=x.xc) (x56:=.slice (some (p,o)) L.length cc) (x57:=.int .i64 L.length) (x58:=.int .i64 i) (hok x hxm).x f5 (hok x hxm).xok hxf.xs hb x.maps.length 0 rb O w (by simp) ⟨by omega,by omega⟩ hw hO
   simp only [bf,MethU.cells] at ha1 hb1 hc1
   rcases q3 with ⟨rfl,rfl⟩ | ⟨rfl,rc,gc,rfl⟩
   ·refine ⟨.ret,_,O1,w1,q1,q2,.inl ⟨rfl,rfl⟩,fun k=>?_⟩
    rw [bl,ha]
    simp (disch:=omega) [code104L4,hp,hv,hq,c0,ha1,hb1,hc1]
   ·by_cases c1:rc < 0
    ·refine ⟨.ret,_,O1,w1,q1,q2,.inl ⟨rfl,rfl⟩,fun k=>?_⟩
     rw [bl,ha]
     simp (disch:=omega) [code104L4,hp,hv,hq,c0,ha1,hb1,hc1,c1]
    ·obtain ⟨e,s',O2,w2,p1,p2,p3,ih⟩:=l104M (cc:=cc) hR hL hok hf hb j (i+1) rc O1 w1 (by omega) gc q1 q2
     refine ⟨e,s',O2,w2,p1,p2,p3,fun k=>?_⟩
     have ih:=ih k
     rw [e2,ha] at ih
     rw [bl,ha]
     generalize ACode.loop code104L4=L' at ih ⊢
     simp (disch:=omega) [code104L4,hp,hv,hq,c0,ha1,hb1,hc1,c1,ih]
theorem s104 {u:UnitU} (hu:u.ok O) (hf:u.fits) (hb:b≤O.length):∃ r:Bool,xCall T 104 [.agg u.cells] ⟨O,b,w⟩=some (.bool r,⟨O,b,w⟩):=by
 have hcu:u.cells=[.str u.name,.str u.super,.slice u.fa u.fields.length u.fc,.slice u.ma u.meths.length u.mc]:=rfl
 have hrb:reachB=140737488351232:=rfl
 have f1:=hf.name
 have f2:=hf.super
 have f3:=hf.f
 have f4:=hf.m
 by_cases c1:(70:Int) < u.fields.length
 ·refine ⟨false,?_⟩
  rw [hcu]
  simp (disch:=omega) [cd t104,code104,c1]
 ·by_cases c2:(40:Int) < u.meths.length
  ·refine ⟨false,?_⟩
   rw [hcu]
   simp (disch:=omega) [cd t104,code104,c1,c2]
  ·by_cases c3:(300:Int) < u.name.length+u.super.length
   ·refine ⟨false,?_⟩
    rw [hcu]
    simp (disch:=omega) [cd t104,code104,c1,c2,c3]
   ·obtain ⟨ra,ga,ha⟩:=l104f (b:=b) (cc:=u.fc) (x1:=u.cells) hu.f f3 hf.fs u.fields.length 0 600 O.length (by simp) ⟨by omega,by omega⟩
    have g1:=ga.lo
    have g2:=ga.hi
    obtain ⟨e,s',O1,w1,q1,q2,q3,hm⟩:=l104M (b:=b) (cc:=u.mc) hu.m f4 hu.mok hf.ms hb u.meths.length 0 ra O O.length (by simp) ⟨by omega,by omega⟩ (ak _) (Pre.refl _)
    simp only [bf] at ha hm
    rw [hcu] at ha ⊢
    rcases q3 with ⟨rfl,rfl⟩ | ⟨rfl,rc,rfl⟩
    ·refine ⟨false,?_⟩
     simp (disch:=omega) [cd t104,code104,c1,c2,c3,ha,hm]
    ·refine ⟨decide (0≤rc),?_⟩
     simp (disch:=omega) [cd t104,code104,c1,c2,c3,ha,hm]
end
end Go.Abs.AbsHier

namespace Go.Abs.AbsSlot
open Go.Abs.AbsHier Go.Abs.AbsDesc
variable {O:List AObj} {b w:Nat}
section
attribute [-simp] getElem?_pos getElem?_neg List.all_eq_true
attribute [local simp] gz gs nltT nltF iltT iltF ileT nleT dh
theorem s104 {u:UnitU} (hu:u.ok O) (hf:u.fits) (hb:b≤O.length):∃ r:Bool,xCall T 104 [.agg u.cells] ⟨O,b,w⟩=some (.bool r,⟨O,b,w⟩)∧(r=true→u.fields.length≤70∧u.meths.length≤40):=by
 have hcu:u.cells=[.str u.name,.str u.super,.slice u.fa u.fields.length u.fc,.slice u.ma u.meths.length u.mc]:=rfl
 have hrb:reachB=140737488351232:=rfl
 have f3:=hf.f
 have f4:=hf.m
 have tt:=AbsSlot.sub _ _ AbsHier.t104
 by_cases c1:(70:Int) < u.fields.length
 ·refine ⟨false,?_,by simp⟩
  rw [hcu]
  simp (disch:=omega) [cd tt,AbsHier.code104,c1]
 ·by_cases c2:(40:Int) < u.meths.length
  ·refine ⟨false,?_,by simp⟩
   rw [hcu]
   simp (disch:=omega) [cd tt,AbsHier.code104,c1,c2]
  ·obtain ⟨r,hr⟩:=AbsHier.s104 (b:=b) (w:=w) hu hf hb
   exact ⟨r,jd AbsSlot.sub hr,fun _=>⟨by omega,by omega⟩⟩
theorem l60 {L:List UnitU} {aa:Option (Nat × Nat)} {cc:Option Nat} (hR:Row O 4 UnitU.cells L aa) (hL:L.length≤reachB) (hok:∀ x ∈ L,x.ok O) (hf:∀ x ∈ L,x.fits) (hb:b≤O.length) :
  ∀ (j i:Nat) (w:Nat),i+j=L.length →
  ∃ e s',((e = .ret∧s'=[(2,.val (.bool false))])∨(e = .exit 0∧s'=[]∧∀ x ∈ L.drop i,x.fields.length≤70∧x.meths.length≤40))∧∀ (k:AExit→St→Option (AVal × Heap)),
  xK T (.loop code60L0) ⟨[(8,.val (.slice aa L.length cc)),(9,.val (.int .i64 L.length)),(10,.val (.int .i64 i))],⟨O,b,w⟩⟩ (k:=⟨k⟩)=k e ⟨s',⟨O,b,w⟩⟩
 | 0,i,w,hi=>by
  refine ⟨.exit 0,_,.inr ⟨rfl,rfl,fun x hx=>by rw [bq (by omega)] at hx; cases hx⟩,fun k=>?_⟩
  rw [bl]
  simp (disch:=omega) [code60L0]
 | j+1,i,w,hi=>by
  obtain ⟨x,hx⟩:∃ x,L[i]? = some x:=⟨_,ag (by omega)⟩
  obtain ⟨p,o,cs,ha,hp,hpl,hcs,hv⟩:=g7 hR hx
  have hxm:=au hx
  have hrb:reachB=140737488351232:=rfl
  have e2:((i+1:Nat):Int)=(i:Int)+1:=by omega
  obtain ⟨r,h104,hr⟩:=s104 (b:=b) (w:=w) (hok x hxm) (hf x hxm) hb
  obtain ⟨e,s',q,ih⟩:=l60 (cc:=cc) hR hL hok hf hb j (i+1) w (by omega)
  unfold UnitU.cells at hv h104
  cases r with
  | false =>
   refine ⟨.ret,_,.inl ⟨rfl,rfl⟩,fun k=>?_⟩
   rw [bl,ha]
   simp (disch:=omega) [code60L0,hp,hv,h104]
  | true =>
   have q':(e = .ret∧s'=[(2,.val (.bool false))])∨(e = .exit 0∧s'=[]∧∀ y ∈ L.drop i,y.fields.length≤70∧y.meths.length≤40):=by
    rcases q with q | ⟨q1,q2,q3⟩
    ·exact .inl q
    ·refine .inr ⟨q1,q2,fun y hy=>?_⟩
     rw [j7 hx] at hy
     rcases cr.1 hy with e | hy
     ·subst e; exact hr rfl
     ·exact q3 y hy
   refine ⟨e,s',q',fun k=>?_⟩
   have ih:=ih k
   rw [e2,ha] at ih
   rw [bl,ha]
   generalize ACode.loop code60L0=L' at ih ⊢
   simp (disch:=omega) [code60L0,hp,hv,h104,ih]
theorem s60 {L:List UnitU} {aa:Option (Nat × Nat)} {cc:Option Nat} (hR:Row O 4 UnitU.cells L aa) (hL:L.length≤reachB) (hok:∀ x ∈ L,x.ok O) (hf:∀ x ∈ L,x.fits) (hb:b≤O.length) :
  ∃ r:Bool,xCall T 60 [.slice aa L.length cc] ⟨O,b,w⟩=some (.bool r,⟨O,b,w⟩)∧(r=true→L.length≤35∧∀ x ∈ L,x.fields.length≤70∧x.meths.length≤40):=by
 have hrb:reachB=140737488351232:=rfl
 by_cases c1:(35:Int) < L.length
 ·refine ⟨false,?_,by simp⟩
  simp (disch:=omega) [cd t60,code60,c1]
 ·have hl:=fun w=>l60 (b:=b) (cc:=cc) hR hL hok hf hb L.length 0 w (by simp)
  obtain ⟨e,s',q,hk⟩:=hl O.length
  simp only [bf] at hk
  rcases q with ⟨rfl,rfl⟩ | ⟨rfl,rfl,q⟩
  ·refine ⟨false,?_,by simp⟩
   simp (disch:=omega) [cd t60,code60,c1,hk]
  ·refine ⟨true,?_,fun _=>⟨by omega,by simpa using q⟩⟩
   simp (disch:=omega) [cd t60,code60,c1,hk]
end
end Go.Abs.AbsSlot

namespace Go.Abs.AbsSlot
open Go.Abs.AbsHier Go.Abs.AbsDesc
def natC (x:Nat):List AVal:=[natV x]
theorem natC_len (x:Nat):(natC x).length=1:=rfl
theorem natC_flat (L:List Nat):L.flatMap natC=L.map natV:=by
 induction L with
 | nil=>rfl
 | cons x L ih=>rw [bu,ih]; rfl
structure PS where
 M:List LMethU
 n:Int
 R:List Int
 F:List Nat
 A:List (Str × Int)
 Z:List (Key × Int)
 U:List (Str × Nat)
 nat:Nat
def PS.p1 (s:PS) (i:Nat) (u:UnitU):PS:={ s with A:=s.A++[(u.name,(i:Int))],U:=s.U++[(u.name,i*4)] }
def PS.p2 (s:PS):PS:={ s with F:=s.F++[s.M.length] }
def PS.p3 (s:PS) (i:Nat) (u:UnitU):PS:={ s with M:=s.M++tellM i (decide (u.name=sysT)) u.meths s.nat,nat:=tellN (decide (u.name=sysT)) u.meths.length s.nat }
def PS.p4 (s:PS) (u:UnitU):PS:={ s with n:=(statR u.fields s.n s.R).1,R:=(statR u.fields s.n s.R).2,Z:=statZ u.name u.fields s.n s.Z }
def PS.step (s:PS) (i:Nat) (u:UnitU):PS:=(((s.p1 i u).p2).p3 i u).p4 u
def PS.run:Nat→List UnitU→PS→PS
 | _,[],s=>s
 | i,u :: us,s=>PS.run (i+1) us (s.step i u)
def ps0:PS:=⟨[],0,[],[],[],[],[],0⟩
structure AD where
 ca:Option (Nat × Nat)
 cc:Option Nat
 ma:Option (Nat × Nat)
 mc:Option Nat
 ra:Option (Nat × Nat)
 rc:Option Nat
 fa:Option (Nat × Nat)
 fc:Option Nat
def ad0:AD:=⟨none,some 0,none,some 0,none,some 0,none,some 0⟩
def kT (mt mz mu:Nat) (C:List LClsU) (s:PS) (a:AD):List AVal:=[.slice a.ca C.length a.cc,.slice a.ma s.M.length a.mc,.int .i64 s.n,.slice a.ra s.R.length a.rc,.map (some mt),.slice none 0 (some 0),.map (some mz),.map (some mu)]
structure TO (H0 H:List AObj) (K mt mz mu ui:Nat) (C:List LClsU) (s:PS) (a:AD):Prop where
 up:∀ i o,H0[i]? = some o→i≠K→i≠mt→i≠mz→i≠mu→H[i]? = some o
 len:H0.length≤H.length
 k0:∃ cs,H0[K]? = some (.cells 8 cs)
 t0:∃ es n,H0[mt]? = some (.map es n)
 z0:∃ es n,H0[mz]? = some (.map es n)
 u0:∃ es n,H0[mu]? = some (.map es n)
 ne:mt≠mz∧mt≠mu∧mz≠mu
 k:H[K]? = some (.cells 8 (kT mt mz mu C s a))
 ts:H[mt]? = some (mObj AVal.str intV s.A)
 zs:H[mz]? = some (zObj s.Z)
 us:H[mu]? = some (mObj AVal.str (fun q=>.ptr (some (ui,q))) s.U)
 cs:RV 5 LClsU.cells H0.length H C a.ca a.cc
 ms:RV 6 LMethU.cells H0.length H s.M a.ma a.mc
 rs:RV 1 intC H0.length H s.R a.ra a.rc
 fs:RV 1 natC H0.length H s.F a.fa a.fc
 rf:∀ p q q',a.ra=some (p,q)→a.fa≠some (p,q')
theorem RV.cell {α:Type} {e lo:Nat} {f:α→List AVal} {H:List AObj} {L:List α} {a:Option (Nat × Nat)} {c:Option Nat} (h:RV e f lo H L a c) {p q:Nat} (ha:a=some (p,q)):∃ cs,H[p]? = some (.cells e cs):=by
 rcases h with ⟨_,h,_⟩ | ⟨_,p',h2,h3,_,h5⟩
 ·rw [h] at ha; cases ha
 ·rw [h3] at ha; cases ha; exact ⟨_,h5⟩
section
variable {H0 H:List AObj} {K mt mz mu ui b:Nat} {C:List LClsU} {s:PS} {a:AD}
theorem TO.lts (h:TO H0 H K mt mz mu ui C s a):K < H0.length∧mt < H0.length∧mz < H0.length∧mu < H0.length:=by
 obtain ⟨_,h1⟩:=h.k0
 obtain ⟨_,_,h2⟩:=h.t0
 obtain ⟨_,_,h3⟩:=h.z0
 obtain ⟨_,_,h4⟩:=h.u0
 exact ⟨aj h1,aj h2,aj h3,aj h4⟩
theorem TO.nek (h:TO H0 H K mt mz mu ui C s a):K≠mt∧K≠mz∧K≠mu:=by
 refine ⟨fun e=>?_,fun e=>?_,fun e=>?_⟩
 ·have:=h.k; rw [e,h.ts] at this; cases this
 ·have:=h.k; rw [e,h.zs] at this; cases this
 ·have:=h.k; rw [e,h.us] at this; cases this
theorem TO.get (h:TO H0 H K mt mz mu ui C s a) {i e:Nat} {cs:List AVal} (hg:H0[i]? = some (.cells e cs)) (hK:i≠K):H[i]? = some (.cells e cs):=by
 obtain ⟨_,_,h2⟩:=h.t0
 obtain ⟨_,_,h3⟩:=h.z0
 obtain ⟨_,_,h4⟩:=h.u0
 refine h.up i _ hg hK (fun e'=>?_) (fun e'=>?_) (fun e'=>?_)
 ·rw [e',h2] at hg; cases hg
 ·rw [e',h3] at hg; cases hg
 ·rw [e',h4] at hg; cases hg
theorem TO.row (h:TO H0 H K mt mz mu ui C s a) {α:Type} {e:Nat} {f:α→List AVal} {L:List α} {x:Option (Nat × Nat)} (hr:Row H0 e f L x) (hK:∀ q,x≠some (K,q)):Row H e f L x :=
 ⟨fun hne=>by
  obtain ⟨p,o,cs,h1,h2,h3⟩:=hr.at' hne
  exact ⟨p,o,cs,h1,h.get h2 (fun e=>hK o (by rw [h1,e])),h3⟩⟩
theorem TO.rvs (h:TO H0 H K mt mz mu ui C s a) {H':List AObj} (hk:∀ p o,H0.length≤p→H[p]? = some o→H'[p]? = some o):RV 5 LClsU.cells H0.length H' C a.ca a.cc∧RV 6 LMethU.cells H0.length H' s.M a.ma a.mc∧RV 1 intC H0.length H' s.R a.ra a.rc∧RV 1 natC H0.length H' s.F a.fa a.fc :=
 ⟨h.cs.keep fun p _ o hp hg=>hk p o (h.cs.lt hp).1 hg,h.ms.keep fun p _ o hp hg=>hk p o (h.ms.lt hp).1 hg,h.rs.keep fun p _ o hp hg=>hk p o (h.rs.lt hp).1 hg,h.fs.keep fun p _ o hp hg=>hk p o (h.fs.lt hp).1 hg⟩
theorem TO.setP (h:TO H0 H K mt mz mu ui C s a) (i:Nat) (u:UnitU):TO H0 ((H.set mt (mObj AVal.str intV (s.A++[(u.name,(i:Int))]))).set mu (mObj AVal.str (fun q=>.ptr (some (ui,q))) (s.U++[(u.name,i*4)]))) K mt mz mu ui C (s.p1 i u) a:=by
 obtain ⟨l1,l2,l3,l4⟩:=h.lts
 obtain ⟨k1,k2,k3⟩:=h.nek
 obtain ⟨n1,n2,n3⟩:=h.ne
 obtain ⟨r1,r2,r3,r4⟩:=h.rvs (H':=(H.set mt (mObj AVal.str intV (s.A++[(u.name,(i:Int))]))).set mu (mObj AVal.str (fun q=>.ptr (some (ui,q))) (s.U++[(u.name,i*4)]))) fun p o hp hg=>by
  rw [ai (by omega),ai (by omega)]; exact hg
 refine ⟨fun j o hg a1 a2 a3 a4=>?_,by simpa using h.len,h.k0,h.t0,h.z0,h.u0,h.ne,?_,?_,?_,?_,r1,r2,r3,r4,h.rf⟩
 ·rw [ai (Ne.symm a4),ai (Ne.symm a2)]; exact h.up j o hg a1 a2 a3 a4
 ·rw [ai k3.symm,ai k1.symm]; exact h.k
 ·rw [ai n2.symm]; exact ic h.ts
 ·rw [ai n3.symm,ai n1]; exact h.zs
 ·exact ic (by rw [ai n2]; exact h.us)
theorem TO.addF (h:TO H0 H K mt mz mu ui C s a) (hb:b≤H0.length) (hl:s.F.length≤1000000):∃ H',H.length+2=H'.length∧(∀ w m,m≤w→m≤H0.length→m≤nxA a.fa w)∧(∀ w,nxA a.fa w≤w)∧(∀ w,aAppend 1 8 ⟨H++[.cells 1 [.int .i64 s.M.length]],b,w⟩ (.slice a.fa s.F.length a.fc) (.slice (some (H.length,0)) 1 (some 1))=some (.slice (some (H.length+1,0)) (s.F.length+1) none,⟨H',b,nxA a.fa w⟩)) ∧
  TO H0 H' K mt mz mu ui C s.p2 { a with fa:=some (H.length+1,0),fc:=none }:=by
 obtain ⟨l1,l2,l3,l4⟩:=h.lts
 have hln:=h.len
 obtain ⟨H',h1,h2,h3,h4,h5,_,h6⟩:=h.fs.add (by':=8) natC_len (by omega) hb (by omega) (by omega) s.M.length
 refine ⟨H',h2,h4,h5,h6,?_⟩
 have old:∀ i o,i < H0.length→H[i]? = some o→H'[i]? = some o:=fun i o hi hg=>h3 i o hg fun q e=>by have:=h.fs.lt e; omega
 refine ⟨fun j o hg a1 a2 a3 a4=>old j o (aj hg) (h.up j o hg a1 a2 a3 a4),by omega,h.k0,h.t0,h.z0,h.u0,h.ne,old _ _ l1 h.k,old _ _ l2 h.ts,old _ _ l3 h.zs,old _ _ l4 h.us,?_,?_,?_,h1,?_⟩
 ·exact h.cs.keep fun p q o hp hg=>h3 p o hg fun q' e=>by
   obtain ⟨_,c1⟩:=h.cs.cell hp
   obtain ⟨_,c2⟩:=h.fs.cell e
   rw [c1] at c2; cases c2
 ·exact h.ms.keep fun p q o hp hg=>h3 p o hg fun q' e=>by
   obtain ⟨_,c1⟩:=h.ms.cell hp
   obtain ⟨_,c2⟩:=h.fs.cell e
   rw [c1] at c2; cases c2
 ·exact h.rs.keep fun p q o hp hg=>h3 p o hg fun q' e=>h.rf p q q' hp e
 ·intro p q q' hp hq
  cases hq
  have:=h.rs.lt hp
  omega
theorem TO.mo (h:TO H0 H K mt mz mu ui C s a):MO H0.length H H a.ma K (.slice a.ca C.length a.cc) (.int .i64 s.n) (.slice a.ra s.R.length a.rc) (.map (some mt)) (.slice none 0 (some 0)) (.map (some mz)) (.map (some mu)) s.M a.ma a.mc :=
 ⟨fun _ _ hg _ _=>hg,ak _,⟨_,h.k⟩,fun _ _ hp=>h.ms.cell hp,h.k,h.ms,.inl rfl⟩
theorem TO.ofMO {H':List AObj} {M':List LMethU} {ma':Option (Nat × Nat)} {mc':Option Nat} {nat':Nat} (h:TO H0 H K mt mz mu ui C s a)
  (hM:MO H0.length H H' a.ma K (.slice a.ca C.length a.cc) (.int .i64 s.n) (.slice a.ra s.R.length a.rc) (.map (some mt)) (.slice none 0 (some 0)) (.map (some mz)) (.map (some mu)) M' ma' mc'):TO H0 H' K mt mz mu ui C { s with M:=M',nat:=nat' } { a with ma:=ma',mc:=mc' }:=by
 obtain ⟨l1,l2,l3,l4⟩:=h.lts
 obtain ⟨k1,k2,k3⟩:=h.nek
 have hln:=h.len
 have old:∀ i o,i < H0.length→i≠K→H[i]? = some o→H'[i]? = some o:=fun i o hi hK hg=>hM.up i o hg hK fun q e=>by have:=(h.ms.lt e).1; omega
 have row:∀ {e:Nat} {cs:List AVal} (p:Nat) (o:AObj),e≠6→H0.length≤p→H[p]? = some (.cells e cs)→H[p]? = some o→H'[p]? = some o:=fun {e cs} p o he hp h1 hg=>hM.up p o hg (by omega) fun q e'=>by
  obtain ⟨_,c2⟩:=h.ms.cell e'
  rw [h1] at c2; cases c2; exact he rfl
 refine ⟨fun j o hg a1 a2 a3 a4=>old j o (aj hg) a1 (h.up j o hg a1 a2 a3 a4),du hln hM.len,h.k0,h.t0,h.z0,h.u0,h.ne,hM.k,old _ _ l2 k1.symm h.ts,old _ _ l3 k2.symm h.zs,old _ _ l4 k3.symm h.us,?_,hM.rs,?_,?_,h.rf⟩
 ·exact h.cs.keep fun p q o hp hg=>by obtain ⟨_,c1⟩:=h.cs.cell hp; exact row p o (by decide) (h.cs.lt hp).1 c1 hg
 ·exact h.rs.keep fun p q o hp hg=>by obtain ⟨_,c1⟩:=h.rs.cell hp; exact row p o (by decide) (h.rs.lt hp).1 c1 hg
 ·exact h.fs.keep fun p q o hp hg=>by obtain ⟨_,c1⟩:=h.fs.cell hp; exact row p o (by decide) (h.fs.lt hp).1 c1 hg
theorem TO.so (h:TO H0 H K mt mz mu ui C s a):SO H0.length H H a.ra K mz (.slice a.ca C.length a.cc) (.slice a.ma s.M.length a.mc) (.map (some mt)) (.slice none 0 (some 0)) (.map (some mu)) s.n s.R a.ra a.rc s.Z :=
 ⟨fun _ _ hg _ _ _=>hg,ak _,⟨_,h.k⟩,⟨_,_,h.zs⟩,fun _ _ hp=>h.rs.cell hp,h.k,h.zs,h.rs,.inl rfl⟩
theorem TO.ofSO {H':List AObj} {n':Int} {R':List Int} {ra':Option (Nat × Nat)} {rc':Option Nat} {Z':List (Key × Int)} (h:TO H0 H K mt mz mu ui C s a)
  (hS:SO H0.length H H' a.ra K mz (.slice a.ca C.length a.cc) (.slice a.ma s.M.length a.mc) (.map (some mt)) (.slice none 0 (some 0)) (.map (some mu)) n' R' ra' rc' Z'):TO H0 H' K mt mz mu ui C { s with n:=n',R:=R',Z:=Z' } { a with ra:=ra',rc:=rc' }:=by
 obtain ⟨l1,l2,l3,l4⟩:=h.lts
 obtain ⟨k1,k2,k3⟩:=h.nek
 obtain ⟨n1,n2,n3⟩:=h.ne
 have hln:=h.len
 have old:∀ i o,i < H0.length→i≠K→i≠mz→H[i]? = some o→H'[i]? = some o:=fun i o hi hK hz hg=>hS.up i o hg hK hz fun q e=>by have:=(h.rs.lt e).1; omega
 have row:∀ {e:Nat} {cs:List AVal} (p:Nat) (o:AObj),e≠1→H0.length≤p→H[p]? = some (.cells e cs)→H[p]? = some o→H'[p]? = some o:=fun {e cs} p o he hp h1 hg=>hS.up p o hg (by omega) (by omega) fun q e'=>by
  obtain ⟨_,c2⟩:=h.rs.cell e'
  rw [h1] at c2; cases c2; exact he rfl
 refine ⟨fun j o hg a1 a2 a3 a4=>old j o (aj hg) a1 a3 (h.up j o hg a1 a2 a3 a4),du hln hS.len,h.k0,h.t0,h.z0,h.u0,h.ne,hS.k,old _ _ l2 k1.symm n1 h.ts,hS.zs,old _ _ l4 k3.symm n3.symm h.us,?_,?_,hS.rs,?_,?_⟩
 ·exact h.cs.keep fun p q o hp hg=>by obtain ⟨_,c1⟩:=h.cs.cell hp; exact row p o (by decide) (h.cs.lt hp).1 c1 hg
 ·exact h.ms.keep fun p q o hp hg=>by obtain ⟨_,c1⟩:=h.ms.cell hp; exact row p o (by decide) (h.ms.lt hp).1 c1 hg
 ·exact h.fs.keep fun p q o hp hg=>hS.up p o hg (by have:=(h.fs.lt hp).1; omega) (by have:=(h.fs.lt hp).1; omega) fun q' e=>h.rf p q' q e hp
 ·intro p q q' hp hq
  have hp:ra'=some (p,q):=hp
  rcases hS.rn with e | ⟨p',e,hp'⟩
  ·rw [e] at hp
   exact h.rf p q q' hp hq
  ·rw [e] at hp; cases hp
   have:=(h.fs.lt hq).2.1
   omega
theorem TO.addC (h:TO H0 H K mt mz mu ui C s a) (hb:b≤H0.length) (hl:C.length≤1000000) (x:LClsU):∃ H',H.length+2=H'.length∧(∀ w m,m≤w→m≤H0.length→m≤nxA a.ca w)∧(∀ w,nxA a.ca w≤w)∧(∀ p q,a.ca=some (p,q)→H'[p]? = some .dead)∧H'[K]? = some (.cells 8 (kT mt mz mu C s a))∧H'[H.length+1]? = some (.cells 5 ((C++[x]).flatMap LClsU.cells)) ∧
  (∀ w,aAppend 5 80 ⟨H++[.cells 5 x.cells],b,w⟩ (.slice a.ca C.length a.cc) (.slice (some (H.length,0)) 1 (some 1))=some (.slice (some (H.length+1,0)) (C.length+1) none,⟨H',b,nxA a.ca w⟩)) ∧
  TO H0 (H'.set K (.cells 8 (kT mt mz mu (C++[x]) s { a with ca:=some (H.length+1,0),cc:=none }))) K mt mz mu ui (C++[x]) s { a with ca:=some (H.length+1,0),cc:=none }:=by
 obtain ⟨l1,l2,l3,l4⟩:=h.lts
 obtain ⟨k1,k2,k3⟩:=h.nek
 have hln:=h.len
 obtain ⟨H',h1,h2,h3,h4,h5,h7,h6⟩:=h.cs.add (by':=80) ei (by omega) hb (by omega) (by omega) x
 have old:∀ i o,i < H0.length→H[i]? = some o→H'[i]? = some o:=fun i o hi hg=>h3 i o hg fun q e=>by have:=h.cs.lt e; omega
 have hnew:H'[H.length+1]? = some (.cells 5 ((C++[x]).flatMap LClsU.cells)):=by
  rcases h1 with ⟨q,_⟩ | ⟨_,p,_,q2,_,q4⟩
  ·simp at q
  ·cases q2; exact q4
 refine ⟨H',h2,h4,h5,h7,old _ _ l1 h.k,hnew,h6,?_⟩
 have row:∀ {e:Nat} {cs:List AVal} (p:Nat) (o:AObj),e≠5→H0.length≤p→H[p]? = some (.cells e cs)→H[p]? = some o→(H'.set K (.cells 8 (kT mt mz mu (C++[x]) s { a with ca:=some (H.length+1,0),cc:=none })))[p]? = some o:=fun {e cs} p o he hp h1 hg=>by
  rw [ai (by omega)]
  refine h3 p o hg fun q e'=>?_
  obtain ⟨_,c2⟩:=h.cs.cell e'
  rw [h1] at c2; cases c2; exact he rfl
 refine ⟨fun j o hg a1 a2 a3 a4=>by rw [ai (Ne.symm a1)]; exact old j o (aj hg) (h.up j o hg a1 a2 a3 a4),by rw [br]; omega,h.k0,h.t0,h.z0,h.u0,h.ne,ic (old _ _ l1 h.k),?_,?_,?_,?_,?_,?_,?_,h.rf⟩
 ·rw [ai k1]; exact old _ _ l2 h.ts
 ·rw [ai k2]; exact old _ _ l3 h.zs
 ·rw [ai k3]; exact old _ _ l4 h.us
 ·exact h1.keep fun p q o hp hg=>by cases hp; rw [ai (by omega)]; exact hg
 ·exact h.ms.keep fun p q o hp hg=>by obtain ⟨_,c1⟩:=h.ms.cell hp; exact row p o (by decide) (h.ms.lt hp).1 c1 hg
 ·exact h.rs.keep fun p q o hp hg=>by obtain ⟨_,c1⟩:=h.rs.cell hp; exact row p o (by decide) (h.rs.lt hp).1 c1 hg
 ·exact h.fs.keep fun p q o hp hg=>by obtain ⟨_,c1⟩:=h.fs.cell hp; exact row p o (by decide) (h.fs.lt hp).1 c1 hg
end
theorem statR_bound:∀ (fs:List FieldU) (n:Int) (R:List Int),n≤(statR fs n R).1∧(statR fs n R).1≤n+fs.length∧(statR fs n R).2.length≤R.length+fs.length
 | [],n,R=>⟨Int.le_refl _,by simp [statR],by simp [statR]⟩
 | f :: fs,n,R=>by
  simp only [statR,az]
  split
  ·obtain ⟨a1,a2,a3⟩:=statR_bound fs (n+1) (if isRef f.desc then R++[n] else R)
   refine ⟨by omega,by omega,?_⟩
   split at a3
   ·rename_i h; simp [h] at a3 ⊢; omega
   ·rename_i h; simp [h] at a3 ⊢; omega
  ·obtain ⟨a1,a2,a3⟩:=statR_bound fs n R
   exact ⟨a1,by omega,by omega⟩
theorem tellM_len (i:Nat) (y:Bool):∀ (ms:List MethU) (n:Nat),(tellM i y ms n).length=ms.length
 | [],n=>rfl
 | m :: ms,n=>by simp only [tellM,az,tellM_len i y ms]
structure PS.le (s:PS) (i:Nat):Prop where
 m:s.M.length≤i*40
 n0:0≤s.n
 n:s.n≤i*70
 r:s.R.length≤i*70
 f:s.F.length=i
 nat:s.nat≤i*40
theorem PS.le.le_step {s:PS} {i:Nat} {u:UnitU} (h:s.le i) (h1:u.fields.length≤70) (h2:u.meths.length≤40):(s.step i u).le (i+1):=by
 have ⟨a1,a2,a3,a4,a5,a6⟩:=h
 obtain ⟨b1,b2,b3⟩:=statR_bound u.fields s.n s.R
 refine ⟨?_,?_,?_,?_,?_,?_⟩
 ·simp only [PS.step,PS.p4,PS.p3,PS.p2,PS.p1,bc,tellM_len]; omega
 ·simp only [PS.step,PS.p4,PS.p3,PS.p2,PS.p1]; omega
 ·simp only [PS.step,PS.p4,PS.p3,PS.p2,PS.p1]; omega
 ·simp only [PS.step,PS.p4,PS.p3,PS.p2,PS.p1]; omega
 ·simp only [PS.step,PS.p4,PS.p3,PS.p2,PS.p1,bc,kx]; omega
 ·simp only [PS.step,PS.p4,PS.p3,PS.p2,PS.p1,tellN]; split <;> omega
end Go.Abs.AbsSlot

namespace Go.Abs.AbsSlot
open Go.Abs.AbsHier Go.Abs.AbsDesc
open Go.Abs.Short
section
variable {H0:List AObj} {K mt mz mu ui b m:Nat} {C:List LClsU} {W:List UnitU} {c4:Option Nat}
section
attribute [-simp] getElem?_pos getElem?_neg List.all_eq_true
attribute [local simp] gz gs nltT nltF iltT iltF ileT nleT dh
theorem l116 (hU:H0[ui]? = some (.cells 4 (W.flatMap UnitU.cells))) (hrows:∀ u ∈ W,Row H0 3 FieldU.cells u.fields u.fa∧Row H0 8 MethU.cells u.meths u.ma∧(∀ q,u.fa≠some (K,q))∧(∀ q,u.ma≠some (K,q)))
  (hlen:∀ u ∈ W,u.fields.length≤70∧u.meths.length≤40) (hW:W.length≤100) (hnd:(W.map UnitU.name).Nodup)
  (hb:b≤K∧b≤mt∧b≤mz∧b≤mu∧b≤H0.length) (hm:m≤K∧m≤mt∧m≤mz∧m≤mu∧m≤H0.length) :
  ∀ (j i w:Nat) (H:List AObj) (s:PS) (a:AD),i+j=W.length→s.le i→(∀ x ∈ s.A,∀ u ∈ W.drop i,x.1≠u.name)→(∀ x ∈ s.U,∀ u ∈ W.drop i,x.1≠u.name)→TO H0 H K mt mz mu ui C s a→m≤w →
  ∃ H' a' w',TO H0 H' K mt mz mu ui C (PS.run i (W.drop i) s) a'∧(PS.run i (W.drop i) s).le W.length∧(a'.ca=a.ca∧a'.cc=a.cc)∧m≤w'∧w'≤w∧∀ {β:Type} (k':AExit→St→Option β),
  xK T (.loop code116L3) ⟨[(3,.val (.ptr (some (K,0)))),(4,.val (.slice (some (ui,0)) W.length c4)),(5,.val (.slice a.fa s.F.length a.fc)),(6,.val (.int .i64 s.nat)),(27,.val (.int .i64 W.length)),(28,.val (.int .i64 i))],⟨H,b,w⟩⟩ (k:=⟨k'⟩) =
   k' (.exit 0) ⟨[(3,.val (.ptr (some (K,0)))),(4,.val (.slice (some (ui,0)) W.length c4)),(5,.val (.slice a'.fa (PS.run i (W.drop i) s).F.length a'.fc))],⟨H',b,w'⟩⟩
 | 0,i,w,H,s,a,hi,hl,hA,hU2,h,hw=>by
  refine ⟨H,a,w,?_,?_,⟨rfl,rfl⟩,hw,ak _,fun {β} k'=>?_⟩
  ·rw [bq (by omega)]; exact h
  ·rw [bq (by omega)]; rw [show W.length=i by omega]; exact hl
  ·rw [bl,bq (by omega)]
   simp only [PS.run]
   simp (disch:=omega) [code116L3]
 | j+1,i,w,H,s,a,hi,hl,hA,hU2,h,hw=>by
  obtain ⟨u,hu⟩:∃ u,W[i]? = some u:=⟨_,ag (by omega)⟩
  have hum:=au hu
  have hd:=j7 hu
  obtain ⟨u1,u2⟩:=hlen u hum
  obtain ⟨r1,r2,r3,r4⟩:=hrows u hum
  have e2:((i+1:Nat):Int)=(i:Int)+1:=by omega
  have hfl:=flat_get (f:=UnitU.cells) 4 (fun _=>rfl) W i u hu
  have hcu:u.cells=[.str u.name,.str u.super,.slice u.fa u.fields.length u.fc,.slice u.ma u.meths.length u.mc]:=rfl
  have q0:(W.flatMap UnitU.cells)[i*4]? = some (.str u.name):=by
   have:=i7 (k:=0) hfl.2 (by decide); rw [ef] at this; rw [this,hcu]; rfl
  have q3:(W.flatMap UnitU.cells)[i*4+3]? = some (.slice u.ma u.meths.length u.mc):=by
   have:=i7 (k:=3) hfl.2 (by decide); rw [this,hcu]; rfl
  have gA:getE s.A u.name=none:=getE_none.2 fun x hx=>hA x hx u (by rw [hd]; exact a8 ..)
  have gU:getE s.U u.name=none:=getE_none.2 fun x hx=>hU2 x hx u (by rw [hd]; exact a8 ..)
  have ⟨z1,z2,z3,z4,z5,z6⟩:=hl
  have hne:ui≠K:=fun e=>by
   obtain ⟨_,h1⟩:=h.k0
   rw [e,h1] at hU; cases hU
  obtain ⟨ll1,ll2,ll3,ll4⟩:=h.lts
  have hln:=h.len
  have hP:=h.setP i u
  have ap:=fun {β:Type} (k':AExit→St→Option β) w x4 x5 x6 x27 x28=>p116 (b:=b) (w:=w) (i:=i) (x4:=x4) (x5:=x5) (x6:=x6) (x27:=x27) (x28:=x28) (uo:=i*4) h.k (h.get hU hne) q0 h.ts h.us h.ne.2.1 ⟨hb.2.1,hb.2.2.2.1⟩ gA gU k'
  have hGl:((H.set mt (mObj AVal.str intV (s.A++[(u.name,(i:Int))]))).set mu (mObj AVal.str (fun q=>.ptr (some (ui,q))) (s.U++[(u.name,i*4)]))).length=H.length:=by simp
  generalize (H.set mt (mObj AVal.str intV (s.A++[(u.name,(i:Int))]))).set mu (mObj AVal.str (fun q=>.ptr (some (ui,q))) (s.U++[(u.name,i*4)]))=G at hP ap hGl
  have hGk:=hP.k
  obtain ⟨G1,b1,b2,b3,b4,hF⟩:=hP.addF hb.2.2.2.2 (by show s.F.length≤_; omega)
  have hG1u:=hF.get hU hne
  have hw1:=b2 (min w (min mt mu)) m (by omega) hm.2.2.2.2
  have hw1':=b3 (min w (min mt mu))
  have hrm:Row G1 8 MethU.cells u.meths u.ma:=hF.row r2 r4
  obtain ⟨G2,ma',mc',w2,c1,c2,c3,c4'⟩:=l116m (m:=m) (b:=b) (K:=K) (i:=i) (x4:=.slice (some (ui,0)) W.length c4) (x5:=.slice (some (G.length+1,0)) (s.F.length+1) none) (x27:=.int .i64 W.length) (x28:=.int .i64 i) hG1u hne q0 hrm r4 ⟨hb.1,hb.2.2.2.2⟩ (by have:=hF.len; omega) ⟨hm.1,hm.2.2.2.2⟩ (by omega) (by omega) u.meths.length 0 (nxA a.fa (min w (min mt mu))) G1 _ s.nat _ _ (by omega) (by show s.M.length+_≤_; omega) (by omega) hF.mo (by omega)
  have hM:=hF.ofMO (nat':=tellN (decide (u.name=sysT)) u.meths.length s.nat) c1
  rw [d8] at hM
  obtain ⟨G3,ra',rc',w3,d1,d2,d3,d4⟩:=s285 (b:=b) (m:=m) (w:=w2) (hM.get hU hne) hfl.2 (hM.row r1 r3) ⟨hb.1,hb.2.2.1,hb.2.2.2.2⟩ hM.len ⟨hm.1,hm.2.2.1,hm.2.2.2.2⟩ (by omega) z2 (by show s.n+_≤_; omega) (by show s.R.length+_≤_; omega) hM.so
  have hS:=hM.ofSO d1
  have hstep:s.step i u = { (({ s.p1 i u with F:=s.F++[s.M.length] }:PS)) with M:=s.M++tellM i (decide (u.name=sysT)) u.meths s.nat,nat:=tellN (decide (u.name=sysT)) u.meths.length s.nat,n:=(statR u.fields s.n s.R).1,R:=(statR u.fields s.n s.R).2,Z:=statZ u.name u.fields s.n s.Z }:=rfl
  have hS:TO H0 G3 K mt mz mu ui C (s.step i u) { a with fa:=some (G.length+1,0),fc:=none,ma:=ma',mc:=mc',ra:=ra',rc:=rc' }:=hS
  have hnd':∀ v ∈ W.drop (i+1),u.name≠v.name:=by
   have h1:((W.drop i).map UnitU.name).Nodup:=(List.Sublist.map _ (List.drop_sublist i W)).nodup hnd
   rw [hd,bo,je] at h1
   exact fun v hv e=>h1.1 (dw.2 ⟨v,hv,e.symm⟩)
  have hdm:∀ v ∈ W.drop (i+1),v ∈ W.drop i:=fun v hv=>by rw [hd]; exact bh _ hv
  obtain ⟨H',a',w',i1,i2,i3,i4,i5,i6⟩:=l116 hU hrows hlen hW hnd hb hm j (i+1) w3 G3 (s.step i u) _ (by omega) (hl.le_step u1 u2)
   (fun x hx v hv=>by
    rcases bg.1 hx with hx | hx
    ·exact hA x hx v (hdm v hv)
    ·rw [b0] at hx; subst hx; exact hnd' v hv)
   (fun x hx v hv=>by
    rcases bg.1 hx with hx | hx
    ·exact hU2 x hx v (hdm v hv)
    ·rw [b0] at hx; subst hx; exact hnd' v hv) hS (by omega)
  rw [hd]
  refine ⟨H',a',w',i1,i2,i3,i4,by omega,fun {β} k'=>?_⟩
  have ih:=i6 k'
  have hfl':(s.step i u).F.length=s.F.length+1:=by simp [PS.step,PS.p4,PS.p3,PS.p2,PS.p1]
  have hnt:(s.step i u).nat=tellN (decide (u.name=sysT)) u.meths.length s.nat:=rfl
  rw [e2,hfl',hnt] at ih
  simp only [PS.run]
  have lm:=fun (k':AExit→St→Option β)=>c4' k'
  simp only [bf] at lm
  have ap:=fun (k':AExit→St→Option β)=>ap k'
  have hGk':G[K]? = some (.cells 8 [.slice a.ca C.length a.cc,.slice a.ma s.M.length a.mc,.int .i64 s.n,.slice a.ra s.R.length a.rc,.map (some mt),.slice none 0 (some 0),.map (some mz),.map (some mu)]):=hGk
  have b4:∀ w,aAppend 1 8 ⟨G++[.cells 1 [.int .i64 s.M.length]],b,w⟩ (.slice a.fa s.F.length a.fc) (.slice (some (G.length,0)) 1 (some 1))=some (.slice (some (G.length+1,0)) (s.F.length+1) none,⟨G1,b,nxA a.fa w⟩):=b4
  have hM2:=hM.get hU hne
  rw [bl]
  generalize ACode.loop code116L3=LL at ih ⊢
  generalize W.flatMap UnitU.cells=X at *
  simp (disch:=omega) [-aAppend,app116p_eq,ap,hGk',b4,b1.symm,hG1u,q3,lm,d4,ih]
end
end
end Go.Abs.AbsSlot

namespace Go.Abs.AbsSlot
open Go.Abs.AbsHier Go.Abs.AbsDesc
open Go.Abs.Short
def app116c:ACode:=.after (.region [⟨true,[0,0,2,6,14,30,0,64,0,448,960,2046],[v 126 3,v 127 3,o 128 (.nilcheck (t 127)),o 129 (.faddr (t 128) 0),o 130 (.faddr (t 129) 0),o 131 (.load none (t 130)),o 132 (.faddr (t 13) 0),o 133 (.load none (t 132)),v 134 14,o 135 (.build [.str [],.int .i64 0,.int .i64 0,.slice none 0 (some 0),.slice none 0 (some 0)] [(0,1,t 133),(1,1,t 134)]),o 136 (.mkslice 5 1 [.str [],.int .i64 0,.int .i64 0,.slice none 0 (some 0),.slice none 0 (some 0)] [(0,5,t 135)]),o 137 (.append 5 80 (t 131) (t 136))]⟩,⟨false,[],[o 138 (.nilcheck (t 126)),o 139 (.faddr (t 138) 0),o 140 (.faddr (t 139) 0),u (.store 1 (t 140) (t 137))]⟩]) [3,4,5,108,109,110]
theorem app116c_eq:code116L1 = .live [3,4,5,108,109,110] (.seq (R [3,4,5,108,109,110,111] [o 111 (.bin .lss (t 110) (t 109))])
 (.seq (.after (.cond (t 111) (.skip) (.live [3,4,5] (.exit 4))) [3,4,5,108,109,110])
 (.seq (.after (.block 5 (.seq (R [3,4,5,13,108,109,110] [o 112 (.iaddr 4 (t 108) (t 110)),o 113 (.load (some 4) (t 112)),o 13 (.lalloc [.str [],.str [],.slice none 0 (some 0),.slice none 0 (some 0)]),u (.store 4 (t 13) (t 113))])
 (.seq (.after (.region [⟨true,[],[v 115 3,o 116 (.nilcheck (t 115)),o 117 (.faddr (t 116) 4),o 118 (.load none (t 117)),o 119 (.faddr (t 13) 1),o 120 (.load none (t 119))]⟩,⟨false,[],[o 121 (.ext (.lookup (.one .s) (.int .i64 0) true) [t 118,t 120]),v 114 121]⟩,⟨true,[],[o 122 (.extract (t 114) 0),o 123 (.extract (t 114) 1),v 14 122]⟩,⟨false,[],[v 15 123]⟩]) [3,4,5,13,14,15,108,109,110])
 (.seq (.seq (R [3,4,5,13,14,108,109,110,125] [v 124 15,o 125 (.un .not (t 124))])
 (.after (.cond (t 125) (R [3,4,5,13,14,108,109,110] [o 14 (.val (.const (.int .i64 (-1))))]) (.skip)) [3,4,5,13,14,108,109,110]))
 app116c)))) [3,4,5,108,109,110])
 (R [3,4,5,108,109,110] [o 141 (.bin .add (t 110) (n 1)),v 110 141])))):=rfl
def clsV (nm:Str) (z:Int):LClsU:=⟨nm,z,0,[],none,some 0,[],none,some 0⟩
def clsOf (A:List (Str × Int)) (u:UnitU):LClsU:=clsV u.name ((getE A u.super).getD (-1))
theorem idsL_cls:∀ C:List LClsU,(∀ c ∈ C,c.ra=none∧c.ta=none)→AVal.idsL (C.flatMap LClsU.cells)=[]
 | [],_=>rfl
 | c :: C,h=>by
  obtain ⟨h1,h2⟩:=h c (a8 ..)
  rw [bu,lk,idsL_cls C fun x hx=>h x (bh _ hx)]
  unfold LClsU.cells
  rw [h1,h2]; rfl
section
variable {H0:List AObj} {K mt mz mu ui b m:Nat} {W:List UnitU} {c4:Option Nat}
section
attribute [-simp] getElem?_pos getElem?_neg List.all_eq_true sget
attribute [local simp] gz gs nltT nltF iltT iltF ileT nleT dh sgetN sgetH sgetT
theorem a116c {H H1:List AObj} {K mt mz mu b w:Nat} {C:List LClsU} {s:PS} {a:AD} {nm sp:Str} {z:Int} {v2 v3 x4 x5 x108 x109 x110:AVal} (hv2:∀ m ds,v2.ids.all (okId H.length m ds)=true) (hv3:∀ m ds,v3.ids.all (okId H.length m ds)=true)
  (hk:H[K]? = some (.cells 8 (kT mt mz mu C s a))) (a4:H1[K]? = some (.cells 8 (kT mt mz mu C s a))) (hb:b≤K) (hbl:b≤H.length)
  (a5:∀ w,aAppend 5 80 ⟨H++[.cells 5 (clsV nm z).cells],b,w⟩ (.slice a.ca C.length a.cc) (.slice (some (H.length,0)) 1 (some 1))=some (.slice (some (H.length+1,0)) (C.length+1) none,⟨H1,b,nxA a.ca w⟩)) (a1:H.length+2=H1.length)
  (hids:(a.ca=none∧a.cc=some 0)∨∃ rp,a.ca=some (rp,0)∧a.cc=none∧rp < H.length∧rp≠K∧H1[rp]? = some .dead) {R1:List AVal} (a6:H1[H.length+1]? = some (.cells 5 R1)) (a7:AVal.idsL R1=[]) {β:Type} (k':AExit→St→Option β) :
  xK T app116c ⟨[(3,.val (.ptr (some (K,0)))),(4,.val x4),(5,.val x5),(13,.var [.str nm,.str sp,v2,v3]),(14,.val (.int .i64 z)),(108,.val x108),(109,.val x109),(110,.val x110)],⟨H,b,w⟩⟩ (k:=⟨k'⟩) =
   k' .normal ⟨[(3,.val (.ptr (some (K,0)))),(4,.val x4),(5,.val x5),(108,.val x108),(109,.val x109),(110,.val x110)],⟨H1.set K (.cells 8 (kT mt mz mu (C++[clsV nm z]) s { a with ca:=some (H.length+1,0),cc:=none })),b,min (nxA a.ca w) K⟩⟩:=by
 have hci:=aj hk
 have hxc:(clsV nm z).cells=[.str nm,.int .i64 z,.int .i64 0,.slice none 0 (some 0),.slice none 0 (some 0)]:=rfl
 rw [hxc] at a5
 unfold kT at hk a4 ⊢
 obtain ⟨ca,cc,ma,mc,ra,rc,fa,fc⟩:=a
 have hl:(C++[clsV nm z]).length=C.length+1:=by simp
 simp only [hl]
 simp only at hids hk a4 a5
 rcases hids with ⟨rfl,rfl⟩ | ⟨rp,rfl,rfl,hrp,hne,hdd⟩
 ·simp (maxSteps:=3000000) (disch:=omega) [ce,-aAppend,app116c,hk,a4,a5,a1.symm,a6,a7,idsC,nxA,hv2,hv3]
 ·simp (maxSteps:=3000000) (disch:=omega) [ce,-aAppend,app116c,hk,a4,a5,a1.symm,a6,a7,idsC,nxA,hv2,hv3,hdd,show ¬ rp=H.length+1 by omega,hrp,hne]
end
section
attribute [-simp] getElem?_pos getElem?_neg List.all_eq_true
attribute [local simp] gz gs nltT nltF iltT iltF ileT nleT dh
theorem l116c (hU:H0[ui]? = some (.cells 4 (W.flatMap UnitU.cells))) (hW:W.length≤100) (hun:∀ u ∈ W,under H0.length u.fa∧under H0.length u.ma)
  (hb:b≤K∧b≤H0.length) (hm:m≤K∧m≤H0.length) {s:PS} {x5:AVal} :
  ∀ (j i w:Nat) (H:List AObj) (C:List LClsU) (a:AD),i+j=W.length→C.length=i→(∀ c ∈ C,c.ra=none∧c.ta=none)→TO H0 H K mt mz mu ui C s a→m≤w →
  ∃ H' ca cc w',TO H0 H' K mt mz mu ui (C++(W.drop i).map (clsOf s.A)) s { a with ca:=ca,cc:=cc }∧m≤w'∧w'≤w∧∀ {β:Type} (k':AExit→St→Option β),
  xK T (.loop code116L1) ⟨[(3,.val (.ptr (some (K,0)))),(4,.val (.slice (some (ui,0)) W.length c4)),(5,.val x5),(108,.val (.slice (some (ui,0)) W.length c4)),(109,.val (.int .i64 W.length)),(110,.val (.int .i64 i))],⟨H,b,w⟩⟩ (k:=⟨k'⟩) =
   k' (.exit 4) ⟨[(3,.val (.ptr (some (K,0)))),(4,.val (.slice (some (ui,0)) W.length c4)),(5,.val x5)],⟨H',b,w'⟩⟩
 | 0,i,w,H,C,a,hi,hC,hn,h,hw=>by
  refine ⟨H,a.ca,a.cc,w,?_,hw,ak _,fun {β} k'=>?_⟩
  ·rw [bq (by omega),gq,cz]; exact h
  ·rw [bl]
   simp (disch:=omega) [code116L1]
 | j+1,i,w,H,C,a,hi,hC,hn,h,hw=>by
  obtain ⟨u,hu⟩:∃ u,W[i]? = some u:=⟨_,ag (by omega)⟩
  have hd:=j7 hu
  have e2:((i+1:Nat):Int)=(i:Int)+1:=by omega
  have hfl:=flat_get (f:=UnitU.cells) 4 (fun _=>rfl) W i u hu
  have hcu:u.cells=[.str u.name,.str u.super,.slice u.fa u.fields.length u.fc,.slice u.ma u.meths.length u.mc]:=rfl
  have hne:ui≠K:=fun e=>by
   obtain ⟨_,h1⟩:=h.k0
   rw [e,h1] at hU; cases hU
  have hUH:=h.get hU hne
  have hk:=h.k
  have hln:=h.len
  have hkl:=aj hk
  have hlk:=fun w=>lookup_ok (b:=b) (w:=w) (kn:=.one .s) (zero:=.int .i64 0) keyStr h.ts (k:=u.super) rfl
  obtain ⟨H1,a1,a2,a3,a7,a4,a6,a5,hA⟩:=h.addC hb.2 (by omega) (clsOf s.A u)
  have hn':∀ c ∈ C++[clsOf s.A u],c.ra=none∧c.ta=none:=fun c hc=>by
   rcases bg.1 hc with hc | hc
   ·exact hn c hc
   ·rw [b0] at hc; subst hc; exact ⟨rfl,rfl⟩
  have hids:(a.ca=none∧a.cc=some 0)∨∃ rp,a.ca=some (rp,0)∧a.cc=none∧rp < H.length∧rp≠K∧H1[rp]? = some .dead:=by
   rcases h.cs with ⟨r1,r2,r3⟩ | ⟨r1,rp,r2,r3,r4,r5⟩
   ·exact .inl ⟨r2,r3⟩
   ·exact .inr ⟨rp,r3,r4,aj r5,by have:=h.lts.1; omega,a7 _ _ r3⟩
  have hids':∀ (x:Option (Nat × Nat)) (n:Nat) (c:Option Nat),under H0.length x→∀ m ds,(AVal.slice x n c).ids.all (okId H.length m ds)=true:=fun x n c hx m ds=>by
   cases x with
   | none=>rfl
   | some p=>have:=hx p.1 p.2 rfl; simp [AVal.ids,okId]; omega
  have hnx:=a2 w m hw hm.2
  have hnx2:=a3 w
  obtain ⟨H',ca,cc,w',i1,i3,i4,i5⟩:=l116c hU hW hun hb hm (s:=s) (x5:=x5) j (i+1) (min (nxA a.ca w) K) _ (C++[clsOf s.A u]) _ (by omega) (by simp; omega) hn' hA (by omega)
  refine ⟨H',ca,cc,w',?_,i3,by omega,fun {β} k'=>?_⟩
  ·rw [hd,bo]; simpa using i1
  ·have ih:=i5 k'
   rw [e2] at ih
   have ap:=fun w x4 x5 x108 x109 x110=>a116c (b:=b) (w:=w) (H:=H) (nm:=u.name) (sp:=u.super) (v2:=.slice u.fa u.fields.length u.fc) (v3:=.slice u.ma u.meths.length u.mc) (x4:=x4) (x5:=x5) (x108:=x108) (x109:=x109) (x110:=x110) (hids' _ _ _ (hun u (au hu)).1) (hids' _ _ _ (hun u (au hu)).2) hk a4 hb.1 (by omega) a5 a1 hids a6 (idsL_cls _ hn') (β:=β)
   have hcl:clsOf s.A u=clsV u.name ((getE s.A u.super).getD (-1)):=rfl
   rw [← hcl] at ap
   have hk':H[K]? = some (.cells 8 [.slice a.ca C.length a.cc,.slice a.ma s.M.length a.mc,.int .i64 s.n,.slice a.ra s.R.length a.rc,.map (some mt),.slice none 0 (some 0),.map (some mz),.map (some mu)]):=hk
   have hft:=hfl.2
   rw [hcu] at hft
   have hflen:=hfl.1
   rw [bl]
   generalize ACode.loop code116L1=LL at ih ⊢
   generalize W.flatMap UnitU.cells=X at *
   cases hg:getE s.A u.super with
   | none =>
    rw [hg] at hlk ap
    simp only [ki,Option.map_none,jm] at hlk ap
    simp (disch:=omega) [-aAppend,-evExt,app116c_eq,hUH,hft,hflen,hk',hlk,ap,ih]
   | some z =>
    rw [hg] at hlk ap
    simp only [da,bi,kw,intV] at hlk ap
    simp (disch:=omega) [-aAppend,-evExt,app116c_eq,hUH,hft,hflen,hk',hlk,ap,ih]
end
end
end Go.Abs.AbsSlot

namespace Go.Abs.AbsSlot
open Go.Abs.AbsHier Go.Abs.AbsDesc
def idxU (W:List UnitU) (n:Str):Option Nat:=W.findIdx? fun u=>decide (u.name=n)
def frW (W:List UnitU) (i:Nat):Nat:=((W.take i).map fun u=>u.meths.length).sum
theorem frW_cons (u:UnitU) (W:List UnitU) (i:Nat):frW (u :: W) (i+1)=u.meths.length+frW W i:=by simp [frW]
theorem frW_zero (W:List UnitU):frW W 0=0:=by simp [frW]
theorem frW_succ {W:List UnitU} {i:Nat} {u:UnitU} (h:W[i]? = some u):frW W (i+1)=frW W i+u.meths.length:=by
 unfold frW
 rw [List.take_add_one,h]; simp
theorem frW_mono {W:List UnitU} {i j:Nat} (h:i≤j):frW W i≤frW W j:=by
 induction j with
 | zero=>rw [Nat.le_zero.1 h]; exact ak _
 | succ j ih =>
  rcases a9 i (j+1) with h1 | h1
  ·refine du (ih (by omega)) ?_
   cases hj:W[j]? with
   | none =>
    have:=fz.1 hj
    unfold frW
    rw [dx this,dx (by omega)]; exact ak _
   | some u=>rw [frW_succ hj]; omega
  ·rw [show i=j+1 by omega]; exact ak _
theorem idxU_nil (n:Str):idxU [] n=none:=rfl
theorem idxU_cons (u:UnitU) (W:List UnitU) (n:Str):idxU (u :: W) n=if u.name=n then some 0 else (idxU W n).map (· + 1):=by
 unfold idxU
 rw [List.findIdx?_cons]
 by_cases h:u.name=n <;> simp [h]
theorem idxU_some:∀ {W:List UnitU} {n:Str} {j:Nat},idxU W n=some j→∃ u,W[j]? = some u∧u.name=n
 | [],n,j,h=>by cases h
 | u :: W,n,j,h=>by
  rw [idxU_cons] at h
  split at h
  ·cases h; exact ⟨u,rfl,by assumption⟩
  ·cases hi:idxU W n with
   | none=>rw [hi] at h; cases h
   | some q=>rw [hi] at h; cases h; simpa using idxU_some hi
theorem idxU_at:∀ {W:List UnitU} {j:Nat} {u:UnitU},(W.map UnitU.name).Nodup→W[j]? = some u→idxU W u.name=some j
 | [],j,u,_,h=>by simp at h
 | x :: W,0,u,_,h=>by simp at h; subst h; rw [idxU_cons,if_pos rfl]
 | x :: W,j+1,u,hn,h=>by
  rw [bo,je] at hn
  simp at h
  rw [idxU_cons,if_neg fun e=>hn.1 (dw.2 ⟨u,au h,e.symm⟩),idxU_at hn.2 h]; rfl
section
variable {s:PS}
theorem run_A:∀ (us:List UnitU) (i:Nat) (s:PS) (n:Str),getE (PS.run i us s).A n=match getE s.A n with
  | some x=>some x
  | none=>(idxU us n).map fun j=>((i+j:Nat):Int)
 | [],i,s,n=>by
  simp only [PS.run,idxU_nil,Option.map_none]
  cases getE s.A n <;> rfl
 | u :: us,i,s,n=>by
  have e:(s.step i u).A=s.A++[(u.name,(i:Int))]:=rfl
  rw [PS.run,run_A us (i+1),e,jl,idxU_cons]
  cases getE s.A n with
  | some x=>rfl
  | none =>
   simp only [getE]
   by_cases h:u.name=n
   ·simp [h]
   ·simp only [if_neg h]
    cases idxU us n with
    | none=>rfl
    | some j=>simp; omega
theorem run_U:∀ (us:List UnitU) (i:Nat) (s:PS) (n:Str),getE (PS.run i us s).U n=match getE s.U n with
  | some x=>some x
  | none=>(idxU us n).map fun j=>(i+j)*4
 | [],i,s,n=>by
  simp only [PS.run,idxU_nil,Option.map_none]
  cases getE s.U n <;> rfl
 | u :: us,i,s,n=>by
  have e:(s.step i u).U=s.U++[(u.name,i*4)]:=rfl
  rw [PS.run,run_U us (i+1),e,jl,idxU_cons]
  cases getE s.U n with
  | some x=>rfl
  | none =>
   simp only [getE]
   by_cases h:u.name=n
   ·simp [h]
   ·simp only [if_neg h]
    cases idxU us n with
    | none=>rfl
    | some j=>simp; omega
theorem run_Mlen:∀ (us:List UnitU) (i:Nat) (s:PS),(PS.run i us s).M.length=s.M.length+frW us us.length
 | [],i,s=>by simp [PS.run,frW]
 | u :: us,i,s=>by
  have e:(s.step i u).M=s.M++tellM i (decide (u.name=sysT)) u.meths s.nat:=rfl
  rw [PS.run,run_Mlen us (i+1),e,bc,tellM_len,az,frW_cons]; omega
theorem run_Fkeep:∀ (us:List UnitU) (i:Nat) (s:PS) {q:Nat} {x:Nat},s.F[q]? = some x→(PS.run i us s).F[q]? = some x
 | [],i,s,q,x,h=>h
 | u :: us,i,s,q,x,h=>by
  have e:(s.step i u).F=s.F++[s.M.length]:=rfl
  rw [PS.run]
  exact run_Fkeep us (i+1) _ (by rw [e,ah (aj h)]; exact h)
theorem run_Mkeep:∀ (us:List UnitU) (i:Nat) (s:PS) {q:Nat} {x:LMethU},s.M[q]? = some x→(PS.run i us s).M[q]? = some x
 | [],i,s,q,x,h=>h
 | u :: us,i,s,q,x,h=>by
  have e:(s.step i u).M=s.M++tellM i (decide (u.name=sysT)) u.meths s.nat:=rfl
  rw [PS.run]
  exact run_Mkeep us (i+1) _ (by rw [e,ah (aj h)]; exact h)
theorem run_F:∀ (us:List UnitU) (i:Nat) (s:PS) (q:Nat),q < us.length→(PS.run i us s).F[s.F.length+q]? = some (s.M.length+frW us q)
 | [],i,s,q,h=>by simp at h
 | u :: us,i,s,0,h=>by
  have e:(s.step i u).F=s.F++[s.M.length]:=rfl
  rw [PS.run,frW_zero]
  exact run_Fkeep us (i+1) _ (by rw [e,aq (by omega)]; simp)
 | u :: us,i,s,q+1,h=>by
  have e:(s.step i u).F=s.F++[s.M.length]:=rfl
  have e2:(s.step i u).M=s.M++tellM i (decide (u.name=sysT)) u.meths s.nat:=rfl
  have:=run_F us (i+1) (s.step i u) q (by simpa using h)
  rw [e,e2,bc,bc,tellM_len,kx] at this
  rw [PS.run,frW_cons,show s.F.length+(q+1)=s.F.length+1+q by omega,this,cf]
theorem tellM_get (i:Nat) (y:Bool):∀ (ms:List MethU) (n j:Nat) (m:MethU),ms[j]? = some m→(tellM i y ms n)[j]? = some ⟨i,m.name,m.desc,m.st,-1,if y then ((n+j:Nat):Int) else -1⟩
 | [],n,j,m,h=>by simp at h
 | x :: ms,n,0,m,h=>by
  simp at h; subst h
  cases y <;> simp [tellM]
 | x :: ms,n,j+1,m,h=>by
  simp at h
  have:=tellM_get i y ms (if y then n+1 else n) j m h
  simp only [tellM,fp]
  rw [this]
  cases y
  ·rfl
  ·simp; omega
theorem run_M:∀ (us:List UnitU) (i:Nat) (s:PS) (q j:Nat) (u:UnitU) (m:MethU),us[q]? = some u→u.meths[j]? = some m→∃ z,(PS.run i us s).M[s.M.length+frW us q+j]? = some ⟨((i+q:Nat):Int),m.name,m.desc,m.st,-1,z⟩
 | [],i,s,q,j,u,m,h,hm=>by simp at h
 | x :: us,i,s,0,j,u,m,h,hm=>by
  simp at h; subst h
  have e2:(s.step i x).M=s.M++tellM i (decide (x.name=sysT)) x.meths s.nat:=rfl
  rw [PS.run,frW_zero,ef]
  refine ⟨if decide (x.name=sysT) then ((s.nat+j:Nat):Int) else -1,run_Mkeep us (i+1) _ ?_⟩
  rw [e2,aq (by omega),show s.M.length+0+j - s.M.length=j by omega]
  exact tellM_get i _ _ _ j m hm
 | x :: us,i,s,q+1,j,u,m,h,hm=>by
  simp at h
  have e2:(s.step i x).M=s.M++tellM i (decide (x.name=sysT)) x.meths s.nat:=rfl
  obtain ⟨z,hz⟩:=run_M us (i+1) (s.step i x) q j u m h hm
  rw [e2,bc,tellM_len] at hz
  refine ⟨z,?_⟩
  rw [PS.run,frW_cons,show s.M.length+(x.meths.length+frW us q)+j=s.M.length+x.meths.length+frW us q+j by omega,hz]
  congr 2
  omega
end
structure GW (W:List UnitU) (dep:Nat→Nat):Prop where
 nd:(W.map UnitU.name).Nodup
 len:W.length≤100
 pos:W≠[]
 mpos:0 < frW W W.length
 few:∀ u ∈ W,u.fields.length≤70∧u.meths.length≤40
 dp:∀ i j u,W[i]? = some u→idxU W u.super=some j→dep j < dep i
 dl:∀ i,i < W.length→dep i < W.length
def psW (W:List UnitU):PS:=PS.run 0 W ps0
def supW (W:List UnitU) (i:Nat):Option Nat:=(W[i]?).bind fun u=>idxU W u.super
def RN (W:List UnitU):Nat→Nat→CR
 | 0,_=>r0
 | d+1,i=>match W[i]? with
  | none=>r0
  | some u=>stepC u (frW W i) (match supW W i with
   | none=>r0
   | some j=>RN W d j)
def RW (W:List UnitU) (i:Nat):CR:=RN W 101 i
def baseW (W:List UnitU) (i:Nat):CR:=match supW W i with
 | none=>r0
 | some j=>RW W j
section
variable {W:List UnitU} {dep:Nat→Nat}
theorem supW_lt {i j:Nat} (h:supW W i=some j):j < W.length:=by
 unfold supW at h
 cases hu:W[i]? with
 | none=>rw [hu] at h; cases h
 | some u =>
  rw [hu] at h
  obtain ⟨v,hv,_⟩:=idxU_some h
  exact aj hv
theorem GW.sup (g:GW W dep) {i j:Nat} (h:supW W i=some j):dep j < dep i:=by
 unfold supW at h
 cases hu:W[i]? with
 | none=>rw [hu] at h; cases h
 | some u=>rw [hu] at h; exact g.dp i j u hu h
theorem RN_eq (g:GW W dep):∀ (d d' i:Nat),dep i < d→dep i < d'→RN W d i=RN W d' i
 | 0,d',i,h,_=>by omega
 | d+1,0,i,_,h=>by omega
 | d+1,d'+1,i,h,h'=>by
  simp only [RN]
  cases hu:W[i]? with
  | none=>rfl
  | some u =>
   simp only
   cases hs:supW W i with
   | none=>rfl
   | some j =>
    have:=g.sup hs
    simp only
    rw [RN_eq g d d' j (by omega) (by omega)]
theorem RW_eq (g:GW W dep) {i:Nat} {u:UnitU} (h:W[i]? = some u):RW W i=stepC u (frW W i) (baseW W i):=by
 have hd:=g.dl i (aj h)
 have hd2:=g.len
 have e:RW W i=stepC u (frW W i) (match supW W i with
   | none=>r0
   | some j=>RN W 100 j):=by
  unfold RW
  rw [RN,h]
 rw [e]
 unfold baseW
 cases hs:supW W i with
 | none=>rfl
 | some j =>
  have:=g.sup hs
  simp only
  rw [RN_eq g 100 101 j (by omega) (by omega)]; rfl
theorem cellsR_bound:∀ (fs:List FieldU) (n:Int) (R:List Int),n≤(cellsR fs n R).1∧(cellsR fs n R).1≤n+fs.length∧(cellsR fs n R).2.length≤R.length+fs.length
 | [],n,R=>⟨Int.le_refl _,by simp [cellsR],by simp [cellsR]⟩
 | f :: fs,n,R=>by
  simp only [cellsR,az]
  split
  ·obtain ⟨a1,a2,a3⟩:=cellsR_bound fs n R
   exact ⟨a1,by omega,by omega⟩
  ·obtain ⟨a1,a2,a3⟩:=cellsR_bound fs (n+1) (if isRef f.desc then R++[n] else R)
   refine ⟨by omega,by omega,?_⟩
   split at a3
   ·rename_i h; simp [h] at a3 ⊢; omega
   ·rename_i h; simp [h] at a3 ⊢; omega
theorem methsT_bound (fr:Nat):∀ (ms:List MethU) (i:Nat) (N:List Nm) (T:List Int),N.length=T.length→(methsT fr i ms N T).2.length≤T.length+ms.length∧(methsT fr i ms N T).1.length=(methsT fr i ms N T).2.length
 | [],i,N,T,h=>⟨by simp [methsT],by simpa [methsT] using h⟩
 | m :: ms,i,N,T,h=>by
  simp only [methsT,az]
  split
  ·obtain ⟨a1,a2⟩:=methsT_bound fr ms (i+1) N T h
   exact ⟨by omega,a2⟩
  ·split
   ·rename_i s _
    obtain ⟨a1,a2⟩:=methsT_bound fr ms (i+1) N (T.set s ((fr+i:Nat):Int)) (by simpa using h)
    rw [br] at a1
    exact ⟨by omega,a2⟩
   ·obtain ⟨a1,a2⟩:=methsT_bound fr ms (i+1) (N++[(m.name,m.desc)]) (T++[((fr+i:Nat):Int)]) (by simpa using h)
    rw [bc,kx] at a1
    exact ⟨by omega,a2⟩
theorem RN_bound (g:GW W dep):∀ (d i:Nat),0≤(RN W d i).cells∧(RN W d i).cells≤d*70∧(RN W d i).refs.length≤d*70∧(RN W d i).table.length≤d*40∧(RN W d i).names.length=(RN W d i).table.length
 | 0,i=>⟨by simp [RN,r0],by simp [RN,r0],by simp [RN,r0],by simp [RN,r0],rfl⟩
 | d+1,i=>by
  simp only [RN]
  cases hu:W[i]? with
  | none=>exact ⟨by simp [r0],by simp [r0]; omega,by simp [r0],by simp [r0],rfl⟩
  | some u =>
   simp only
   obtain ⟨f1,f2⟩:=g.few u (au hu)
   have hb:∀ r:CR,0≤r.cells∧r.cells≤d*70∧r.refs.length≤d*70∧r.table.length≤d*40∧r.names.length=r.table.length →
     0≤(stepC u (frW W i) r).cells∧(stepC u (frW W i) r).cells≤((d+1:Nat):Int)*70∧(stepC u (frW W i) r).refs.length≤(d+1)*70∧(stepC u (frW W i) r).table.length≤(d+1)*40∧(stepC u (frW W i) r).names.length=(stepC u (frW W i) r).table.length:=by
    intro r ⟨b1,b2,b3,b4,b5⟩
    obtain ⟨c1,c2,c3⟩:=cellsR_bound u.fields r.cells r.refs
    obtain ⟨d1,d2⟩:=methsT_bound (frW W i) u.meths 0 r.names r.table b5
    simp only [stepC]
    exact ⟨by omega,by omega,by omega,by omega,d2⟩
   refine hb _ ?_
   cases supW W i with
   | none=>exact ⟨by simp [r0],by simp [r0]; omega,by simp [r0],by simp [r0],rfl⟩
   | some j=>exact RN_bound g d j
end
end Go.Abs.AbsSlot

namespace Go.Abs.AbsSlot
open Go.Abs.AbsHier Go.Abs.AbsDesc
open Go.Abs.Short
def q116_0:ACode:=R [0] [o 2 (.val (.const (.ptr none)))]
def q116_1:ACode:=R [0,3] [o 18 (.ext .mkmap []),o 19 (.ext .mkmap []),o 20 (.ext .mkmap []),o 21 (.build [.slice none 0 (some 0),.slice none 0 (some 0),.int .i64 0,.slice none 0 (some 0),.map none,.slice none 0 (some 0),.map none,.map none] [(4,1,t 18),(6,1,t 19),(7,1,t 20)]),o 22 (.box (t 21)),v 3 22]
def q116_2:ACode:=R [3,4] [o 23 (.callg 189 []),v 24 0,o 25 (.append 4 80 (t 23) (t 24)),v 4 25]
def q116_3:ACode:=R [3,4,5] [o 5 (.val (.const (.slice none 0 (some 0))))]
def q116_4:ACode:=R [3,4,5,6] [o 6 (.val (n 0))]
def q116_5:ACode:=.seq (R [3,4,5,6,27,28] [v 26 4,o 27 (.len .sl (t 26)),o 28 (.val (n 0))])
 (.after (.block 0 (.loop code116L3)) [3,4,5])
def q116_6:ACode:=.seq (R [3,4,5,108,109,110] [v 108 4,o 109 (.len .sl (t 108)),o 110 (.val (n 0))])
 (.after (.block 4 (.loop code116L1)) [3,4,5])
def q116_7:ACode:=R [3,4,5] [v 142 3,v 143 4,o 144 (.len .sl (t 143)),o 145 (.make 1 8 [.map none] (t 144) (t 144)),o 146 (.nilcheck (t 142)),o 147 (.faddr (t 146) 5),u (.store 1 (t 147) (t 145))]
def q116_8:ACode:=R [3,4,5,16] [v 148 4,o 149 (.len .sl (t 148)),o 150 (.make 1 1 [.bool false] (t 149) (t 149)),v 16 150]
def q116_9:ACode:=.seq (R [3,5,16,152,153] [v 151 4,o 152 (.len .sl (t 151)),o 153 (.val (n 0))])
 (.after (.block 6 (.loop code116L0)) [3])
def q116_10:ACode:=R [2] [v 162 3,v 2 162]
def q116_11:ACode:=.live [2] (.ret)
theorem body116:code116.body = .seq q116_0 (.seq q116_1 (.seq q116_2 (.seq q116_3 (.seq q116_4 (.seq q116_5 (.seq q116_6 (.seq q116_7 (.seq q116_8 (.seq q116_9 (.seq q116_10 q116_11)))))))))):=rfl
section
variable {β:Type} {O H:List AObj} {b w:Nat} {x0 x3 x4 x5:AVal} (k':AExit→St→Option β)
theorem r116_0:xK T q116_0 ⟨[(0,.val x0)],⟨O,b,w⟩⟩ (k:=⟨k'⟩)=k' .normal ⟨[(0,.val x0)],⟨O,b,w⟩⟩:=by
 simp (disch:=omega) [-getElem?_pos,-getElem?_neg,-List.all_eq_true,gz,gs,nltT,nltF,iltT,iltF,ileT,nleT,dh,q116_0]
def mt0:AObj:=mObj AVal.str intV ([]:List (Str × Int))
def mu0 (ui:Nat):AObj:=mObj AVal.str (fun q=>.ptr (some (ui,q))) ([]:List (Str × Nat))
def lyO (O:List AObj):List AObj:=O++[mt0,zObj [],mu0 0,.cells 8 (kT O.length (O.length+1) (O.length+2) [] ps0 ad0)]
theorem lyO_len:(lyO O).length=O.length+4:=by simp [lyO]
theorem r116_1:xK T q116_1 ⟨[(0,.val x0)],⟨O,b,w⟩⟩ (k:=⟨k'⟩)=k' .normal ⟨[(0,.val x0),(3,.val (.ptr (some (O.length+3,0))))],⟨lyO O,b,w⟩⟩:=by
 have e:lyO O=O++[.map [] 0,.map [] 0,.map [] 0,.cells 8 [.slice none 0 (some 0),.slice none 0 (some 0),.int .i64 0,.slice none 0 (some 0),.map (some O.length),.slice none 0 (some 0),.map (some (O.length+1)),.map (some (O.length+2))]]:=rfl
 rw [e]
 simp (disch:=omega) [-getElem?_pos,-getElem?_neg,-List.all_eq_true,gz,gs,nltT,nltF,iltT,iltF,ileT,nleT,dh,q116_1,cf]
def allW (n:Nat) (L:List UnitU):List UnitU:=builtV' (n+5)++L
section
attribute [-simp] getElem?_pos getElem?_neg List.all_eq_true
attribute [local simp] gz gs nltT nltF iltT iltF ileT nleT dh
theorem r116_2 {L:List UnitU} {aa:Option (Nat × Nat)} {cc:Option Nat} (hR:Row O 4 UnitU.cells L aa) (hL:L.length≤1000) (hb:b≤O.length) (hw:O.length≤w) :
  ∃ (H:List AObj) (ui:Nat) (c4:Option Nat) (w':Nat),H[ui]? = some (.cells 4 ((allW O.length L).flatMap UnitU.cells))∧O.length+4≤ui∧(∀ (i:Nat) (o:AObj),(lyO O)[i]? = some o→H[i]? = some o)∧H[O.length+5]? = some natO∧O.length+6≤H.length∧O.length≤w'∧w'≤w∧∀ {β:Type} (k':AExit→St→Option β),
  xK T q116_2 ⟨[(0,.val (.slice aa L.length cc)),(3,.val x3)],⟨lyO O,b,w⟩⟩ (k:=⟨k'⟩)=k' .normal ⟨[(3,.val x3),(4,.val (.slice (some (ui,0)) (allW O.length L).length c4))],⟨H,b,w'⟩⟩:=by
 have h189:=fun w=>s189 (O:=lyO O) (b:=b) (w:=w) (by rw [lyO_len]; omega)
 rw [lyO_len] at h189
 have hN:∀ X:List AObj,(lyO O++X)[O.length+4]? = X[0]?:=fun X=>by rw [aq (by rw [lyO_len]; omega),lyO_len,Nat.sub_self]
 have hN1:∀ X:List AObj,(lyO O++X)[O.length+5]? = X[1]?:=fun X=>by rw [aq (by rw [lyO_len]; omega),lyO_len,show O.length+5 - (O.length+4)=1 by omega]
 have hl9:(builtV' (O.length+5)).length=9:=rfl
 have hRy:Row (lyO O++[.cells 4 ((builtV' (O.length+5)).flatMap UnitU.cells),natO]) 4 UnitU.cells L aa:=⟨fun hne=>by
  obtain ⟨p,o,cs,h1,h2,h3⟩:=hR.at' hne
  refine ⟨p,o,cs,h1,?_,h3⟩
  have:=aj h2
  unfold lyO
  rw [ba,ah this]; exact h2⟩
 have r1:∀ w,rowOf 4 ⟨lyO O++[.cells 4 ((builtV' (O.length+5)).flatMap UnitU.cells),natO],b,w⟩ (.slice (some (O.length+4,0)) 9 none)=some ((builtV' (O.length+5)).flatMap UnitU.cells):=fun w=>rowOfC (by show (lyO O++_)[_]? = _; rw [hN]; rfl) rfl
 have r2:∀ w,rowOf 4 ⟨lyO O++[.cells 4 ((builtV' (O.length+5)).flatMap UnitU.cells),natO],b,w⟩ (.slice aa L.length cc)=some (L.flatMap UnitU.cells):=fun w=>rowOf_row (h:=⟨_,b,w⟩) hRy
 have hlen:(lyO O++[.cells 4 ((builtV' (O.length+5)).flatMap UnitU.cells),natO]).length=O.length+6:=by rw [bc,lyO_len]; rfl
 cases hL0:L with
 | nil =>
  subst hL0
  refine ⟨lyO O++[.cells 4 ((builtV' (O.length+5)).flatMap UnitU.cells),natO],O.length+4,none,w,by rw [hN]; simp [allW],ak _,fun i o hg=>by rw [ah (aj hg)]; exact hg,by rw [hN1]; rfl,by rw [hlen]; exact ak _,hw,ak _,fun {β} k'=>?_⟩
  have ha:∀ w,aAppend 4 80 ⟨lyO O++[.cells 4 ((builtV' (O.length+5)).flatMap UnitU.cells),natO],b,w⟩ (.slice (some (O.length+4,0)) 9 none) (.slice aa 0 cc)=some (.slice (some (O.length+4,0)) 9 none,⟨lyO O++[.cells 4 ((builtV' (O.length+5)).flatMap UnitU.cells),natO],b,w⟩):=fun w=>by
   unfold aAppend
   simp only [co] at r2
   simp only [r1,r2,aApp,alen,if_true]
  have hl:(allW O.length []).length=9:=rfl
  rw [hl]
  simp (disch:=omega) [-aAppend,q116_2,h189,ha]
 | cons z L' =>
  rw [← hL0]
  have hne:¬ L.length=0:=by rw [hL0]; simp
  refine ⟨(lyO O++[.cells 4 ((builtV' (O.length+5)).flatMap UnitU.cells),natO]).set (O.length+4) .dead++[.cells 4 ((allW O.length L).flatMap UnitU.cells)],O.length+6,none,min w (O.length+4),?_,by omega,fun i o hg=>?_,?_,?_,by omega,by omega,fun {β} k'=>?_⟩
  ·rw [aq (by rw [br,hlen]; exact ak _),br,hlen,Nat.sub_self]; rfl
  ·have:=aj hg
   rw [lyO_len] at this
   rw [ah (by rw [br,hlen]; omega),ai (by omega),ah (by rw [lyO_len]; omega)]; exact hg
  ·rw [ah (by rw [br,hlen]; omega),ai (by omega),hN1]; rfl
  ·rw [bc,br,hlen]; simp
  ·have hri:∀ w,rowIs ⟨lyO O++[.cells 4 ((builtV' (O.length+5)).flatMap UnitU.cells),natO],b,w⟩ (O.length+4) 4=true:=fun w=>by
    unfold rowIs Heap.get
    rw [hN]; rfl
   have ha:∀ w,aAppend 4 80 ⟨lyO O++[.cells 4 ((builtV' (O.length+5)).flatMap UnitU.cells),natO],b,w⟩ (.slice (some (O.length+4,0)) 9 none) (.slice aa L.length cc)=some (.slice (some (O.length+6,0)) (9+L.length) none,⟨(lyO O++[.cells 4 ((builtV' (O.length+5)).flatMap UnitU.cells),natO]).set (O.length+4) .dead++[.cells 4 ((allW O.length L).flatMap UnitU.cells)],b,min w (O.length+4)⟩):=fun w=>by
    unfold aAppend
    have q2:(9+L.length)*80≤140737488355328∧9+L.length≤9223372036854775807:=⟨by omega,by omega⟩
    have q3:(b≤O.length+4∧True):=⟨by omega,trivial⟩
    simp only [r1,r2,aApp,alen,if_neg hne,if_pos q2,reduceCtorEq,if_false,hri]
    rw [if_pos (by simpa using (show b≤O.length+4 by omega))]
    simp only [Heap.push,Heap.put,Heap.size,hlen,br,allW,ix]
   have hl:(allW O.length L).length=9+L.length:=by simp [allW,hl9]
   rw [hl]
   simp (disch:=omega) [-aAppend,q116_2,h189,ha]
theorem r116_3:xK T q116_3 ⟨[(3,.val x3),(4,.val x4)],⟨O,b,w⟩⟩ (k:=⟨k'⟩)=k' .normal ⟨[(3,.val x3),(4,.val x4),(5,.val (.slice none 0 (some 0)))],⟨O,b,w⟩⟩:=by
 simp (disch:=omega) [q116_3]
theorem r116_4:xK T q116_4 ⟨[(3,.val x3),(4,.val x4),(5,.val x5)],⟨O,b,w⟩⟩ (k:=⟨k'⟩)=k' .normal ⟨[(3,.val x3),(4,.val x4),(5,.val x5),(6,.val (.int .i64 0))],⟨O,b,w⟩⟩:=by
 simp (disch:=omega) [q116_4]
theorem r116_5 {a:Option (Nat × Nat)} {n:Nat} {c:Option Nat} {H':List AObj} {w':Nat} {y5:AVal} (hl:∀ {β:Type} (k':AExit→St→Option β),xK T (.loop code116L3) ⟨[(3,.val x3),(4,.val (.slice a n c)),(5,.val x5),(6,.val (.int .i64 0)),(27,.val (.int .i64 n)),(28,.val (.int .i64 (0:Nat)))],⟨O,b,w⟩⟩ (k:=⟨k'⟩)=k' (.exit 0) ⟨[(3,.val x3),(4,.val (.slice a n c)),(5,.val y5)],⟨H',b,w'⟩⟩) :
  xK T q116_5 ⟨[(3,.val x3),(4,.val (.slice a n c)),(5,.val x5),(6,.val (.int .i64 0))],⟨O,b,w⟩⟩ (k:=⟨k'⟩)=k' .normal ⟨[(3,.val x3),(4,.val (.slice a n c)),(5,.val y5)],⟨H',b,w'⟩⟩:=by
 have hl:=fun (k':AExit→St→Option β)=>hl k'
 simp only [bf] at hl
 simp (disch:=omega) [q116_5,hl]
theorem r116_6 {a:Option (Nat × Nat)} {n:Nat} {c:Option Nat} {H':List AObj} {w':Nat} (hl:∀ {β:Type} (k':AExit→St→Option β),xK T (.loop code116L1) ⟨[(3,.val x3),(4,.val (.slice a n c)),(5,.val x5),(108,.val (.slice a n c)),(109,.val (.int .i64 n)),(110,.val (.int .i64 (0:Nat)))],⟨O,b,w⟩⟩ (k:=⟨k'⟩)=k' (.exit 4) ⟨[(3,.val x3),(4,.val (.slice a n c)),(5,.val x5)],⟨H',b,w'⟩⟩) :
  xK T q116_6 ⟨[(3,.val x3),(4,.val (.slice a n c)),(5,.val x5)],⟨O,b,w⟩⟩ (k:=⟨k'⟩)=k' .normal ⟨[(3,.val x3),(4,.val (.slice a n c)),(5,.val x5)],⟨H',b,w'⟩⟩:=by
 have hl:=fun (k':AExit→St→Option β)=>hl k'
 simp only [bf] at hl
 simp (disch:=omega) [q116_6,hl]
end
theorem rep_one (n:Nat) (x:AVal):rep n [x]=List.replicate n x:=by
 unfold rep
 induction n with
 | zero=>rfl
 | succ n ih=>rw [j8,jx,ih,j8]; rfl
section
attribute [-simp] getElem?_pos getElem?_neg List.all_eq_true
attribute [local simp] gz gs nltT nltF iltT iltF ileT nleT dh
theorem r116_7 {K n:Nat} {a:Option (Nat × Nat)} {c:Option Nat} {y0 y1 y2 y3 y4 y5 y6 y7:AVal} (hk:H[K]? = some (.cells 8 [y0,y1,y2,y3,y4,y5,y6,y7])) (hn:n≤1000) (hb:b≤K) :
  xK T q116_7 ⟨[(3,.val (.ptr (some (K,0)))),(4,.val (.slice a n c)),(5,.val x5)],⟨H,b,w⟩⟩ (k:=⟨k'⟩)=k' .normal ⟨[(3,.val (.ptr (some (K,0)))),(4,.val (.slice a n c)),(5,.val x5)],⟨H.set K (AObj.cells 8 [y0,y1,y2,y3,y4,.slice (some (H.length,0)) n (some n),y6,y7])++[AObj.cells 1 (List.replicate n (.map none))],b,min w K⟩⟩:=by
 have hkl:=aj hk
 have hk':∀ X:List AObj,(H++X)[K]? = some (.cells 8 [y0,y1,y2,y3,y4,y5,y6,y7]):=fun X=>by rw [ah hkl]; exact hk
 simp (disch:=omega) [q116_7,hk',rep_one]
theorem r116_8 {n:Nat} {a:Option (Nat × Nat)} {c:Option Nat} (hn:n≤1000) :
  xK T q116_8 ⟨[(3,.val x3),(4,.val (.slice a n c)),(5,.val x5)],⟨H,b,w⟩⟩ (k:=⟨k'⟩)=k' .normal ⟨[(3,.val x3),(4,.val (.slice a n c)),(5,.val x5),(16,.val (.slice (some (H.length,0)) n (some n)))],⟨H++[.cells 1 (List.replicate n (.bool false))],b,w⟩⟩:=by
 simp (disch:=omega) [q116_8,rep_one]
end
end
end Go.Abs.AbsSlot
