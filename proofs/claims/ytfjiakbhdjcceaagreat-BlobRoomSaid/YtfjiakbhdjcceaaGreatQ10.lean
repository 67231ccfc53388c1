/-
  Texts joined.
-/
import Derived.Test.YtfjiakbhdjcceaaGreatQ0
import Derived.Test.YtfjiakbhdjcceaaGreatQ9
set_option linter.unusedVariables false
set_option linter.unusedSimpArgs false
set_option maxRecDepth 100000
namespace Go.Abs.AbsBlo
open Go.Abs.AbsBlb hiding T
open Go.Abs.Short
def CleanQ (kl:List Bs) (H:List AObj) (I:SI) (F:Fl) (K:StU) (b w:Nat) (v:AVal) (h':Heap):Prop:=(v = .int .i64 10∧h'=⟨H,b,w⟩)∨∃ H' F' K' w',h'=⟨H',b,w'⟩∧StF I H H'∧SO kl H' I F' K'∧FlE F F'∧w'≤I.hi∧min w b≤w'∧(v = .int .i64 0∨v = .int .i64 10)∧Told K K'
section
variable {E:Env} {kl:List Bs} {H:List AObj} {b:Nat} {I:SI} {F:Fl} {K:StU}
theorem fe599 {P:List AObj} {w w' rc:Nat} {v:Int} (d:P[rc]? = some (.cells 1 [.int .i64 v])):funcEnd code599 ⟨H,b,w⟩ (.ret,⟨[(2,.val (.ptr (some (rc,0))))],⟨P,b,w'⟩⟩)=some (.int .i64 v,if w' < H.length then ⟨P,b,min w w'⟩ else ⟨H,b,w⟩):=by
 by_cases c:w' < H.length
 ·simp [funcEnd,code599,resultsL,result1,loadAt,Opd.adr,Heap.get,d,tupled,dj,Heap.size,c]
 ·simp [funcEnd,code599,resultsL,result1,loadAt,Opd.adr,Heap.get,d,tupled,dj,Heap.size,c,AVal.under]
section
attribute [-simp] getElem?_pos getElem?_neg List.all_eq_true
attribute [local simp] qZ qS nltT nltF iltT iltF ileT nleT di
theorem clean_ok (q:AgreesX E T) (hm:E.P.follows .mixedOrders=true) (hF:IsCode E 617 code617) (a0:IsCode E 599 code599) (h:SO kl H I F K) (a6:∀ k ∈ kl,1≤k.length∧k.length≤64) (aa:kl.length≤12) (hb:I.lo b) (ci:b≤H.length) (w:Nat) :
  CallD E 599 [.ptr (some (I.s,0))] ⟨H,b,w⟩ (CleanQ kl H I F K b w):=by
 have cp:=h.a.fl.nb.1;have bm:=h.a.hi;have bx:=ah h.a.fl.f;have hI:I.s≤I.hi∧I.sa≤I.hi∧I.m≤I.hi∧I.fi.fb≤I.hi∧I.fi.fw≤I.hi:=by unfold SI.hi; omega
 refine CallD.of_code a0 rfl ?_;rw [body599];have ac:enter 0 [AVal.ptr (some (I.s,0))]=[(0,.val (.ptr (some (I.s,0))))]:=rfl;have ad:(⟨H,b,w⟩:Heap).size=H.length:=rfl;rw [ac];simp only [ad];refine CodeD.seq nofun (CodeD.run (e:=.normal) (st':=⟨[(1,.val (.ptr (some (H.length,0)))),(2,.val (.ptr (some (H.length+1,0))))],⟨H++[.cells 1 [.ptr (some (I.s,0))],.cells 1 [.int .i64 0]],b,H.length⟩⟩) q hm (fun k'=>by simp (disch:=omega) []) ?_);have G:=qm h [.cells 1 [.ptr (some (I.s,0))],.cells 1 [.int .i64 0]];have al:(H++[AObj.cells 1 [.ptr (some (I.s,0))],.cells 1 [.int .i64 0]]).length=H.length+2:=by simp
 have B:=gc H [AObj.cells 1 [.ptr (some (I.s,0))],.cells 1 [.int .i64 0]];have Q:=jv H [AObj.cells 1 [.ptr (some (I.s,0))],.cells 1 [.int .i64 0]] 1;have d:StF I H (H++[AObj.cells 1 [.ptr (some (I.s,0))],.cells 1 [.int .i64 0]]):=StF.refl.app _;generalize cv:H++[AObj.cells 1 [.ptr (some (I.s,0))],.cells 1 [.int .i64 0]]=M at *;have hR:Row M 3 Sec.cells K.secs (some (I.sa,0)):=Row.mk0 (fun _=>rfl) G.a.r;have an:=h.v.ln;have h5:=fun c w=>cf sub (s5 (os:=M) (b:=b) (w:=w) (c:=c) hR (by omega))
 have ao:=qi (fun x=>decide (x.st=2)) Sec.seq K.secs K.secs.length;have gs:=G.a.s;unfold StU.cells at gs;generalize least (fun x=>decide (x.st=2)) Sec.seq K.secs K.secs.length=p at *;obtain ⟨i,ok⟩:=p;refine CodeD.seq nofun (CodeD.run (e:=.normal) (st':=⟨[(1,.val (.ptr (some (H.length,0)))),(2,.val (.ptr (some (H.length+1,0)))),(3,.val (.int .i64 i)),(4,.val (.bool ok))],⟨M,b,H.length⟩⟩) q hm (fun k'=>by simp (disch:=omega) [B,gs,h5]) ?_);have ax:b≤H.length+1:=by omega
 cases ok with
 | false =>
  have hu:CodeD E (.seq (R [1,2,3,18] [v 17 4,o 18 (.un .not (t 17))])
 (.after (.cond (t 18) (.seq (R [2] [u (.store 1 (t 2) (n 10))])
 (.live [2] (.ret))) (.skip)) [1,2,3])) ⟨[(1,.val (.ptr (some (H.length,0)))),(2,.val (.ptr (some (H.length+1,0)))),(3,.val (.int .i64 i)),(4,.val (.bool false))],⟨M,b,H.length⟩⟩ (fun e st=>e = .ret∧st=⟨[(2,.val (.ptr (some (H.length+1,0))))],⟨M.set (H.length+1) (.cells 1 [.int .i64 10]),b,H.length⟩⟩) :=
   CodeD.run (e:=.ret) (st':=⟨[(2,.val (.ptr (some (H.length+1,0))))],⟨M.set (H.length+1) (.cells 1 [.int .i64 10]),b,H.length⟩⟩) q hm (fun k'=>by simp (disch:=omega) [Q,ax]) ⟨rfl,rfl⟩
  refine CodeD.seq nofun (hu.mono fun e st hq _=>?_);obtain ⟨rfl,rfl⟩:=hq;refine ⟨_,_,fe599 (bj (by omega)),.inl ⟨rfl,?_⟩⟩;rw [if_neg (by omega)]
 | true =>
  obtain ⟨y,hy,U⟩:=ao rfl;simp only at hy U;have hi:i < F.n:=by rw [← an]; exact ah hy
  have ay:(F.look i).st=2:=by have:=h.v.lk i hi;rw [hy] at this;rw [← ce this];simpa using U
  refine CodeD.seq nofun (CodeD.run (e:=.normal) (st':=⟨[(1,.val (.ptr (some (H.length,0)))),(2,.val (.ptr (some (H.length+1,0)))),(3,.val (.int .i64 i))],⟨M,b,H.length⟩⟩) q hm (fun k'=>by simp (disch:=omega) []) ?_);obtain ⟨j,K1,w1,V,mt,m2,m3,m4,m5,m6,m7,m8⟩:∃ j K1 w1,SO kl j I F K1∧Told K K1∧K1.head≠i∧StF I M j∧j.length=M.length∧w1≤H.length∧((j=M∧w1=H.length)∨w1≤I.hi)∧(w1=I.s∨w1=H.length)∧∀ (k':AExit→St→Option Unit),xK T (.seq (R [1,2,3,24] [v 19 3,o 20 (.load none (t 1)),o 21 (.nilcheck (t 20)),o 22 (.faddr (t 21) 6),o 23 (.load none (t 22)),o 24 (.bin .eql (t 19) (t 23))])
 (.after (.cond (t 24) (R [1,2,3] [o 25 (.load none (t 1)),o 26 (.nilcheck (t 25)),o 27 (.faddr (t 26) 6),u (.store 1 (t 27) (.const (.int .i64 (-1))))]) (.skip)) [1,2,3])) ⟨[(1,.val (.ptr (some (H.length,0)))),(2,.val (.ptr (some (H.length+1,0)))),(3,.val (.int .i64 i))],⟨M,b,H.length⟩⟩ (k:=⟨k'⟩)=k' .normal ⟨[(1,.val (.ptr (some (H.length,0)))),(2,.val (.ptr (some (H.length+1,0)))),(3,.val (.int .i64 i))],⟨j,b,w1⟩⟩:=by
   by_cases c:K.head=i
   ·have ho:=G.a.own (K':={ K with head:=-1 }) rfl ⟨rfl,rfl⟩ (.inl rfl) G.a.ab G.a.sb G.a.tb;refine ⟨_,{ K with head:=-1 },I.s,⟨ho,none_inv h.v⟩,Told.of_ix rfl,by show (-1:Int)≠i; omega,.own,az,by omega,.inr (by omega),.inl rfl,fun k'=>?_⟩;have b5:=hb.1;have J:(i:Int)=K.head:=c.symm;simp only [StU.cells];have c4:min H.length I.s=I.s:=by omega
    simp (disch:=omega) [B,gs,J,b5]
   ·have J:¬ (i:Int)=K.head:=fun e=>c e.symm
    exact ⟨M,K,H.length,G,Told.refl _,c,.refl,rfl,by omega,.inl ⟨rfl,rfl⟩,.inr rfl,fun k'=>by simp (disch:=omega) [B,gs,J]⟩
  refine CodeD.seq nofun (CodeD.run (e:=.normal) (st':=⟨[(1,.val (.ptr (some (H.length,0)))),(2,.val (.ptr (some (H.length+1,0)))),(3,.val (.int .i64 i))],⟨j,b,w1⟩⟩) q hm m8 ?_);have C:=m3.keep _ _ B (by omega) (by omega) (by omega) (by omega) (by omega);have W:=m3.keep _ _ Q (by omega) (by omega) (by omega) (by omega) (by omega);have b6:=V.a.s;unfold StU.cells at b6;refine CodeD.seq nofun (CodeD.after (CodeD.regionX q hm ?_));refine OpsD.run (l:=[o 28 (.load none (t 1)),v 29 3]) (r:=[o 30 (.callg 617 [t 28,t 29]),v 5 30]) (s1:=[(29,.val (.int .i64 i)),(28,.val (.ptr (some (I.s,0)))),(1,.val (.ptr (some (H.length,0)))),(2,.val (.ptr (some (H.length+1,0)))),(3,.val (.int .i64 i))]) (h1:=⟨j,b,w1⟩) (fun k'=>by simp (disch:=omega) [C]) ?_;refine OpsD.call (g:=617) (xs:=[t 28,t 29]) rfl rfl rfl (c617 q hm hF V aa hi (by omega) w1) fun X hh b7=>?_
  obtain ⟨P,A,rfl,p1,p2,p3,p4⟩:=b7;refine OpsD.run (l:=[v 5 30]) (r:=[]) (s1:=[(5,.val X),(30,.val X),(29,.val (.int .i64 i)),(28,.val (.ptr (some (I.s,0)))),(1,.val (.ptr (some (H.length,0)))),(2,.val (.ptr (some (H.length+1,0)))),(3,.val (.int .i64 i))]) (h1:=⟨P,b,w1⟩) (fun k'=>by simp (disch:=omega) []) (OpsD.done ?_);simp only [];have bb:keepK [1,2,3,5] [(5,Slot.val X),(30,.val X),(29,.val (.int .i64 i)),(28,.val (.ptr (some (I.s,0)))),(1,.val (.ptr (some (H.length,0)))),(2,.val (.ptr (some (H.length+1,0)))),(3,.val (.int .i64 i))]=[(1,.val (.ptr (some (H.length,0)))),(2,.val (.ptr (some (H.length+1,0)))),(3,.val (.int .i64 i)),(5,.val X)]:=by simp
  rw [bb];have cx:=hb.1;have c5:j.length=H.length+2:=m4.trans al;have hP:SO kl P I F K1:=⟨V.a.low (N:=j.length) ⟨by omega,by omega⟩ fun k o hk ho=>p1 k o ho,V.v⟩;have cy:=p1.len;have D:StF I M P:=⟨by omega,fun k o ho L g2 g3 O g5=>p1 k o (m3.keep k o ho L g2 g3 O g5)⟩
  have d1:A.length≤12:=by
   obtain ⟨ks,e1,e2,e3⟩:=p4
   have h1:=oa (l':=K1.ix.map (·.1)) e2 fun k hk=>by obtain ⟨e,L,-,O⟩:=(e3 k).1 hk;exact bt.2 ⟨e,L,O⟩
   have h2:=congrArg List.length e1;rw [a7,a7] at h2;rw [a7] at h1;have h3:=so_few V;omega
  rcases b599_run hP hb (by omega) a6 (p1 _ _ C) (p1 _ _ W) ⟨by omega,by omega⟩ (N:=j.length) (by omega) p2 (by omega) p3 p4 hi m2 ay w1 with ⟨P',F',K',w',j1,j2,j3,jt,j4,j5,j6⟩ | j6
  ·refine CodeD.run (e:=.ret) (st':=⟨[(2,.val (.ptr (some (H.length+1,0))))],⟨P',b,w'⟩⟩) q hm (fun k'=>j6 k') ?_;refine ⟨_,_,fe599 j5,.inr ⟨P',F',K',min w w',?_,d.trans (D.trans j1),j2,j3,by omega,by omega,.inl rfl,mt.trans jt⟩⟩;rw [if_pos (by omega)]
  ·refine CodeD.run (e:=.ret) (st':=⟨[(2,.val (.ptr (some (H.length+1,0))))],⟨P.set (H.length+1) (.cells 1 [.int .i64 10]),b,min w1 (H.length+1)⟩⟩) q hm (fun k'=>j6 k') ?_;refine ⟨_,_,fe599 (bj (by omega)),?_⟩;rcases m6 with ⟨-,e1⟩ | e1
   ·refine .inl ⟨rfl,?_⟩;rw [if_neg (by omega)]
   ·refine .inr ⟨P.set (H.length+1) (.cells 1 [.int .i64 10]),F,K1,min w w1,?_,⟨by rw [az]; have:=d.len; omega,fun k o ho L g2 g3 O g5=>?_⟩,so_set hP (by omega) (by omega) _,.refl _,by omega,by omega,.inr rfl,mt⟩
    ·rw [if_pos (by omega)];congr 1;omega
    ·rw [aq (by have:=ah ho; omega)];exact D.keep k o (d.keep k o ho L g2 g3 O g5) L g2 g3 O g5
end
end
end Go.Abs.AbsBlo

namespace Go.Abs.AbsBlo
open Go.Abs.AbsBlb hiding T
open Go.Abs.Short
def x580:ACode:=.after (.block 2 (.seq (R [0,1,5,12,13,17] [v 18 0,v 19 1,o 20 (.callg 597 [t 18,t 19]),v 17 20])
 (.after (.cond (t 17) (.seq (R [4] [o 4 (.val (n 0))])
 (.live [4] (.ret))) (.seq (.after (.region [⟨true,[],[v 22 0,o 23 (.nilcheck (t 22)),o 24 (.faddr (t 23) 4),o 25 (.load none (t 24)),v 26 0,o 27 (.nilcheck (t 26)),o 28 (.faddr (t 27) 1),o 29 (.faddr (t 28) 2),o 30 (.load none (t 29))]⟩,⟨false,[],[o 31 (.callg 0 [t 25,t 30]),o 32 (.bin .geq (t 31) (n 2)),v 21 32]⟩]) [0,1,5,12,13,21])
 (.after (.cond (t 21) (R [0,1,5,12,13] [v 33 0,o 34 (.mkfunc 598 [t 33] []),v 5 34]) (.skip)) [0,1,5,12,13]))) [0,1,5,12,13]))) [0,1,5,12,13]
def w580:ACode:=.seq (R [0,1,6,12,13,38] [v 37 6,o 38 (.bin .neq (t 37) (n 0))])
 (.after (.cond (t 38) (.seq (R [4] [v 39 6,v 4 39])
 (.live [4] (.ret))) (.skip)) [0,1,12,13])
def y580:ACode:=.seq (R [0,1,6,12,13] [v 35 5,o 36 (.call (t 35) []),v 6 36]) w580
theorem body580L:code580L0 = .live [0,1,12,13] (.seq (R [0,1,12,13,14] [o 14 (.bin .lss (t 13) (t 12))])
 (.seq (.after (.cond (t 14) (.skip) (.live [0,1] (.exit 0))) [0,1,12,13])
 (.seq (.after (.block 1 (.seq (R [0,1,5,12,13] [v 15 0,o 16 (.mkfunc 599 [t 15] []),v 5 16])
 (.seq x580
 y580))) [0,1,12,13])
 (R [0,1,12,13] [o 40 (.bin .add (t 13) (n 1)),v 13 40])))):=rfl
def z580:ACode:=.seq (.seq (R [43] [v 41 0,v 42 1,o 43 (.callg 597 [t 41,t 42])])
 (.after (.cond (t 43) (.seq (R [4] [o 4 (.val (n 0))])
 (.live [4] (.ret))) (.skip)) []))
 (.seq (R [4] [o 4 (.val (n 10))])
 (.live [4] (.ret)))
theorem body580:code580.body = .seq (R [0,1] [o 4 (.val (n 0))])
 (.seq (.seq (R [0,1,12,13] [v 7 0,o 8 (.nilcheck (t 7)),o 9 (.faddr (t 8) 4),o 10 (.load none (t 9)),o 11 (.len .sl (t 10)),o 12 (.bin .mul (n 4) (t 11)),o 13 (.val (n 0))])
 (.after (.block 0 (.loop code580L0)) [0,1]))
 z580):=rfl
def Fits (F:Fl) (K:StU) (n:Nat):Prop:=K.head ≠ -1∧K.at_+n≤F.z
def Good (F:Fl) (K:StU) (n:Nat):Prop:=¬ Fits F K n→2≤cnt (opn F.lim) K.secs K.secs.length∧(nextS F K).2=true∧K.seq≠4294967295∧12+n≤F.z
def Kept (K K':StU):Prop:=K'.ix=K.ix∧K'.at_≤K.at_+12
def RoomQ (kl:List Bs) (H:List AObj) (I:SI) (F:Fl) (K:StU) (b n w0:Nat) (v:AVal) (h':Heap):Prop :=
 ∃ H' F' K' w',h'=⟨H',b,w'⟩∧StF I H H'∧SO kl H' I F' K'∧FlE F F'∧b≤w'∧(w'≤I.hi∨(H'=H∧w'=w0))∧((v = .int .i64 0∧Fits F' K' n)∨v = .int .i64 10)∧(Good F K n→v = .int .i64 0∧Kept K K')∧Told K K'
def RoomS (kl:List Bs) (H:List AObj) (I:SI) (F:Fl) (K:StU) (b n i:Nat) (P:List AObj) (F1:Fl) (K1:StU) (w1:Nat):Prop :=
 StF I H P∧SO kl P I F1 K1∧FlE F F1∧b≤w1∧(w1≤I.hi∨(P=H∧w1=H.length))∧(Good F K n→(i=0∧F1=F∧K1=K)∨(Kept K K1∧Fits F1 K1 n))∧Told K K1
def RoomJ (kl:List Bs) (H:List AObj) (I:SI) (F:Fl) (K:StU) (b n m k:Nat) (st:St):Prop :=
 ∃ i P F1 K1 w1,i≤m∧k=m - i∧RoomS kl H I F K b n i P F1 K1 w1∧st=⟨[(0,.val (.ptr (some (I.s,0)))),(1,.val (.int .i64 n)),(12,.val (.int .i64 m)),(13,.val (.int .i64 i))],⟨P,b,w1⟩⟩
def RoomL (kl:List Bs) (H:List AObj) (I:SI) (F:Fl) (K:StU) (b n m:Nat) (e:AExit) (st:St):Prop :=
 (e = .exit 0∧∃ P F1 K1 w1,RoomS kl H I F K b n m P F1 K1 w1∧st=⟨[(0,.val (.ptr (some (I.s,0)))),(1,.val (.int .i64 n))],⟨P,b,w1⟩⟩) ∨
 (e = .ret∧∃ v P w1,RoomQ kl H I F K b n H.length v ⟨P,b,w1⟩∧st=⟨[(4,.val v)],⟨P,b,w1⟩⟩)
section
variable {E:Env} {kl:List Bs} {H:List AObj} {b:Nat} {I:SI} {F:Fl} {K:StU}
def OpenQ (kl:List Bs) (H:List AObj) (I:SI) (F:Fl) (K:StU) (b w:Nat) (v:AVal) (h':Heap):Prop :=
 (v = .int .i64 10∧h'=⟨H,b,w⟩∧((nextS F K).2=false∨K.seq=4294967295))∨∃ H' F' K' w',h'=⟨H',b,w'⟩∧StF I H H'∧SO kl H' I F' K'∧FlE F F'∧w'≤I.hi∧min w b≤w'∧v = .int .i64 0∧K'.ix=K.ix∧K'.head ≠ -1∧K'.at_=12
theorem open_ok (p:AgreesX E T) (hm:E.P.follows .mixedOrders=true) (h:SO kl H I F K) (hb:I.lo b) (w:Nat):CallD E 598 [.ptr (some (I.s,0))] ⟨H,b,w⟩ (OpenQ kl H I F K b w):=by
 rcases q598 h hb with ⟨c,e⟩ | ⟨H',F',K',q,y,A,B,C,D,⟨i,G,J,L⟩,N,d,j⟩
 ·exact CallD.of_xX p hm (cf sub (e w)) (.inl ⟨rfl,rfl,c⟩)
 ·exact CallD.of_xX p hm (cf sub (j w)) (.inr ⟨H',F',K',q w,rfl,y,A,B,(d w).1,(d w).2,rfl,C,by omega,D⟩)
def StepQ (kl:List Bs) (H:List AObj) (I:SI) (F:Fl) (K:StU) (b w g:Nat) (v:AVal) (h':Heap):Prop:=CleanQ kl H I F K b w v h'∧(g=598→OpenQ kl H I F K b w v h')
theorem step_ok (C:AgreesX E T) (hm:E.P.follows .mixedOrders=true) (D:IsCode E 617 code617) (j:IsCode E 599 code599) (h:SO kl H I F K) (p:∀ k ∈ kl,1≤k.length∧k.length≤64) (q:kl.length≤12) (hb:I.lo b) (y:b≤H.length) (w:Nat) {g:Nat} (G:g=598∨g=599) :
  CallD E g [.ptr (some (I.s,0))] ⟨H,b,w⟩ (StepQ kl H I F K b w g):=by
 rcases G with rfl | rfl
 ·refine (open_ok C hm h hb w).mono fun v h' d=>⟨?_,fun _=>d⟩
  rcases d with ⟨A,B,-⟩ | ⟨H',F',K',w',A,B,J,L,N,O,Q,U,-⟩
  ·exact .inl ⟨A,B⟩
  ·exact .inr ⟨H',F',K',w',A,B,J,L,N,O,.inl Q,Told.of_ix U⟩
 ·exact (clean_ok C hm D j h p q hb y w).mono fun v h' d=>⟨d,fun e=>by cases e⟩
section
attribute [-simp] getElem?_pos getElem?_neg List.all_eq_true
attribute [local simp] qZ qS nltT nltF iltT iltF ileT nleT di
theorem x580_run (h:SO kl H I F K) {n m i:Nat} (B:n≤1000000000) (w:Nat) {x5:AVal}:∃ g:Nat,(g=598∨g=599)∧((2≤cnt (opn F.lim) K.secs K.secs.length→g=598)∧(¬ 2≤cnt (opn F.lim) K.secs K.secs.length→g=599)) ∧
  (Fits F K n→∀ {β:Type} (k':AExit→St→Option β),xK T x580 ⟨[(0,.val (.ptr (some (I.s,0)))),(1,.val (.int .i64 n)),(5,.val (.func 599 [.ptr (some (I.s,0))] [])),(12,.val (.int .i64 m)),(13,.val (.int .i64 i))],⟨H,b,w⟩⟩ (k:=⟨k'⟩)=k' .ret ⟨[(4,.val (.int .i64 0))],⟨H,b,w⟩⟩) ∧
  (¬ Fits F K n→∀ {β:Type} (k':AExit→St→Option β),xK T x580 ⟨[(0,.val (.ptr (some (I.s,0)))),(1,.val (.int .i64 n)),(5,.val (.func 599 [.ptr (some (I.s,0))] [])),(12,.val (.int .i64 m)),(13,.val (.int .i64 i))],⟨H,b,w⟩⟩ (k:=⟨k'⟩)=k' .normal ⟨[(0,.val (.ptr (some (I.s,0)))),(1,.val (.int .i64 n)),(5,.val (.func g [.ptr (some (I.s,0))] [])),(12,.val (.int .i64 m)),(13,.val (.int .i64 i))],⟨H,b,w⟩⟩):=by
 have p:Fits F K n→(!decide (K.head = -1) && decide (K.at_+n≤F.z))=true:=fun j=>by simp [j.1,j.2]
 have q:¬ Fits F K n→(!decide (K.head = -1) && decide (K.at_+n≤F.z))=false:=fun j=>by
  by_cases c1:K.head = -1
  ·simp [c1]
  ·have:¬ K.at_+n≤F.z:=fun c2=>j ⟨c1,c2⟩
   simp [this]
 have d:=fun w=>cf sub (s597 (b:=b) (w:=w) h.a B)
 have C:Row H 3 Sec.cells K.secs (some (I.sa,0)):=Row.mk0 (fun _=>rfl) h.a.r;have D:=h.v.ln;have G:=h.a.fl.nb.1;have h0:=fun c w=>cf sub (s0 (os:=H) (b:=b) (w:=w) (c:=c) (lim:=F.lim) C (by omega))
 have J:=cnt_le (opn F.lim) K.secs K.secs.length;have y:=h.a.s;unfold StU.cells at y;generalize cnt (opn F.lim) K.secs K.secs.length=cn at *;refine ⟨if 2≤cn then 598 else 599,by split <;> simp,⟨fun e=>if_pos e,fun e=>if_neg e⟩,fun j β k'=>?_,fun j β k'=>?_⟩
 ·rw [p j] at d;simp (disch:=omega) [x580,d]
 ·rw [q j] at d;by_cases c:2≤cn
  ·have A:(2:Int)≤cn:=by omega
   simp (disch:=omega) [x580,d,y,h0,c,A]
  ·have A:¬ (2:Int)≤cn:=by omega
   simp (disch:=omega) [x580,d,y,h0,c,A]
end
end
end Go.Abs.AbsBlo

namespace Go.Abs.AbsBlo
open Go.Abs.AbsBlb hiding T
open Go.Abs.Short
def i1:Opd:=n 1
section
variable {E:Env} {kl:List Bs} {H:List AObj} {b:Nat} {I:SI} {F:Fl} {K:StU}
section
attribute [-simp] getElem?_pos getElem?_neg List.all_eq_true
attribute [local simp] qZ qS nltT nltF iltT iltF ileT nleT di
theorem room_loop (D:AgreesX E T) (hm:E.P.follows .mixedOrders=true) (hF:IsCode E 617 code617) (aa:IsCode E 599 code599) (ac:∀ k ∈ kl,1≤k.length∧k.length≤64) (ad:kl.length≤12) (hb:I.lo b) (c5:b≤H.length) (cp:I.hi < H.length) {n m:Nat} (hn:n≤1000000000) (cv:2≤m∧m≤1000) {st:St} {k:Nat} (h0:RoomJ kl H I F K b n m k st) :
  CodeD E (.loop code580L0) st (RoomL kl H I F K b n m):=by
 refine CodeD.loop (RoomJ kl H I F K b n m) (fun k st hJ=>?_) k st h0;obtain ⟨i,P,F1,K1,w1,hi,rfl,⟨s1,W,Q,s4,s5,s6,s7⟩,rfl⟩:=hJ;rw [body580L];refine CodeD.live ?_;have al:keepK [0,1,12,13] [(0,Slot.val (AVal.ptr (some (I.s,0)))),(1,.val (.int .i64 n)),(12,.val (.int .i64 m)),(13,.val (.int .i64 i))]=[(0,.val (.ptr (some (I.s,0)))),(1,.val (.int .i64 n)),(12,.val (.int .i64 m)),(13,.val (.int .i64 i))]:=by simp
 simp only [al];have cx:=s1.len;by_cases c:i < m
 ·have ci:(i:Int) < m:=by omega
  refine CodeD.seq nofun (CodeD.run (e:=.normal) (st':=⟨[(0,.val (.ptr (some (I.s,0)))),(1,.val (.int .i64 n)),(12,.val (.int .i64 m)),(13,.val (.int .i64 i)),(14,.val (.bool true))],⟨P,b,w1⟩⟩) D hm (fun k'=>by simp (disch:=omega) [ci]) ?_);refine CodeD.seq nofun (CodeD.run (e:=.normal) (st':=⟨[(0,.val (.ptr (some (I.s,0)))),(1,.val (.int .i64 n)),(12,.val (.int .i64 m)),(13,.val (.int .i64 i))],⟨P,b,w1⟩⟩) D hm (fun k'=>by simp (disch:=omega) []) ?_);refine CodeD.seq nofun (CodeD.after (CodeD.block ?_));refine CodeD.seq nofun (CodeD.run (e:=.normal) (st':=⟨[(0,.val (.ptr (some (I.s,0)))),(1,.val (.int .i64 n)),(5,.val (.func 599 [.ptr (some (I.s,0))] [])),(12,.val (.int .i64 m)),(13,.val (.int .i64 i))],⟨P,b,w1⟩⟩) D hm (fun k'=>by simp (disch:=omega) []) ?_);obtain ⟨g,hg,an,ao,ax⟩:=x580_run (b:=b) (m:=m) (i:=i) W hn w1 (x5:=.ptr none);by_cases hf:Fits F1 K1 n
  ·refine CodeD.seq nofun (CodeD.run (e:=.ret) (st':=⟨[(4,.val (.int .i64 0))],⟨P,b,w1⟩⟩) D hm (fun k'=>ao hf k') ?_);refine .inr ⟨rfl,_,P,w1,⟨P,F1,K1,w1,rfl,s1,W,Q,s4,s5,.inl ⟨rfl,hf⟩,fun q=>⟨rfl,?_⟩,s7⟩,rfl⟩;rcases s6 q with ⟨-,-,e⟩ | ⟨e,-⟩
   ·rw [e]; exact ⟨rfl,Nat.le_add_right _ _⟩
   ·exact e
  ·refine CodeD.seq nofun (CodeD.run (e:=.normal) (st':=⟨[(0,.val (.ptr (some (I.s,0)))),(1,.val (.int .i64 n)),(5,.val (.func g [.ptr (some (I.s,0))] [])),(12,.val (.int .i64 m)),(13,.val (.int .i64 i))],⟨P,b,w1⟩⟩) D hm (fun k'=>ax hf k') ?_);unfold y580;refine CodeD.seq nofun (CodeD.after (CodeD.regionX D hm ?_));refine OpsD.run (l:=[v 35 5]) (r:=[o 36 (.call (t 35) []),v 6 36]) (s1:=[(35,.val (.func g [.ptr (some (I.s,0))] [])),(0,.val (.ptr (some (I.s,0)))),(1,.val (.int .i64 n)),(5,.val (.func g [.ptr (some (I.s,0))] [])),(12,.val (.int .i64 m)),(13,.val (.int .i64 i))]) (h1:=⟨P,b,w1⟩) (fun k'=>by simp (disch:=omega) []) ?_;refine OpsD.callv (g:=g) (x:=t 35) (xs:=[]) (first:=[.ptr (some (I.s,0))]) (caps:=[]) (vs:=[]) rfl rfl rfl rfl (step_ok D hm hF aa W ac ad hb (by omega) w1 hg) fun y G ay=>?_
   obtain ⟨a0,b5⟩:=ay
   have cy:G.base=b:=by rcases a0 with ⟨-,rfl⟩ | ⟨H',F',K',w',rfl,-⟩ <;> rfl
   refine OpsD.run (l:=[v 6 36]) (r:=[]) (s1:=[(6,.val y),(36,.val y),(35,.val (.func g [.ptr (some (I.s,0))] [])),(0,.val (.ptr (some (I.s,0)))),(1,.val (.int .i64 n)),(5,.val (.func g [.ptr (some (I.s,0))] [])),(12,.val (.int .i64 m)),(13,.val (.int .i64 i))]) (h1:=G) (fun k'=>by simp (disch:=omega) []) (OpsD.done ?_);simp only [];have b6:keepK [0,1,6,12,13] [(6,Slot.val y),(36,.val y),(35,.val (.func g [.ptr (some (I.s,0))] [])),(0,.val (.ptr (some (I.s,0)))),(1,.val (.int .i64 n)),(5,.val (.func g [.ptr (some (I.s,0))] [])),(12,.val (.int .i64 m)),(13,.val (.int .i64 i))]=[(0,.val (.ptr (some (I.s,0)))),(1,.val (.int .i64 n)),(6,.val y),(12,.val (.int .i64 m)),(13,.val (.int .i64 i))]:=by simp
   rw [b6]
   have L:Good F K n→i=0∧F1=F∧K1=K∧2≤cnt (opn F.lim) K.secs K.secs.length∧(nextS F K).2=true∧K.seq≠4294967295∧12+n≤F.z:=fun q=>by
    rcases s6 q with ⟨d,A,N⟩ | ⟨-,e⟩
    ·subst A; subst N;exact ⟨d,rfl,rfl,q hf⟩
    ·exact absurd e hf
   have U:∀ e:Int,y = .int .i64 e→e≠0→∀ k':AExit→St→Option Unit,xK T w580 ⟨[(0,.val (.ptr (some (I.s,0)))),(1,.val (.int .i64 n)),(6,.val y),(12,.val (.int .i64 m)),(13,.val (.int .i64 i))],G⟩ (k:=⟨k'⟩)=k' .ret ⟨[(4,.val y)],G⟩:=fun e he b7 k'=>by subst he;obtain ⟨ho,bb,hw⟩:=G;simp (disch:=omega) [w580,b7]
   have bm:y = .int .i64 0→∀ k':AExit→St→Option Unit,xK T w580 ⟨[(0,.val (.ptr (some (I.s,0)))),(1,.val (.int .i64 n)),(6,.val y),(12,.val (.int .i64 m)),(13,.val (.int .i64 i))],G⟩ (k:=⟨k'⟩)=k' .normal ⟨[(0,.val (.ptr (some (I.s,0)))),(1,.val (.int .i64 n)),(12,.val (.int .i64 m)),(13,.val (.int .i64 i))],G⟩:=fun he k'=>by subst he;obtain ⟨ho,bb,hw⟩:=G;simp (disch:=omega) [w580]
   have a6:∀ P w (k':AExit→St→Option Unit),xK T (R [0,1,12,13] [o 40 (.bin .add (t 13) i1),v 13 40]) ⟨[(0,.val (.ptr (some (I.s,0)))),(1,.val (.int .i64 n)),(12,.val (.int .i64 m)),(13,.val (.int .i64 i))],⟨P,b,w⟩⟩ (k:=⟨k'⟩)=k' .normal ⟨[(0,.val (.ptr (some (I.s,0)))),(1,.val (.int .i64 n)),(12,.val (.int .i64 m)),(13,.val (.int .i64 (i+1:Nat)))],⟨P,b,w⟩⟩:=fun P w k'=>by
    have d:((i+1:Nat):Int)=(i:Int)+1:=by omega
    rw [d];unfold i1;simp (disch:=omega) []
   have V:∀ j B C p,y = .int .i64 0→G=⟨j,b,p⟩→RoomS kl H I F K b n (i+1) j B C p→CodeD E w580 ⟨[(0,.val (.ptr (some (I.s,0)))),(1,.val (.int .i64 n)),(6,.val y),(12,.val (.int .i64 m)),(13,.val (.int .i64 i))],G⟩ fun e st'=>match e with
     | .normal=>∃ P w,st'=⟨[(0,.val (.ptr (some (I.s,0)))),(1,.val (.int .i64 n)),(12,.val (.int .i64 m)),(13,.val (.int .i64 i))],⟨P,b,w⟩⟩∧∃ B C,RoomS kl H I F K b n (i+1) P B C w
     | e=>False:=fun j B C p d A hS=>CodeD.run D hm (bm d) ⟨j,p,by rw [A],B,C,hS⟩
   have hN:(∃ j B C p,y = .int .i64 0∧G=⟨j,b,p⟩∧RoomS kl H I F K b n (i+1) j B C p)∨(y = .int .i64 10∧∃ j p,G=⟨j,b,p⟩∧RoomQ kl H I F K b n H.length y ⟨j,b,p⟩):=by
    by_cases O:g=598
    ·rcases b5 O with ⟨d,A,N⟩ | ⟨j,B,C,p,A,t1,t2,t3,t4,t5,d,t6,t7,t8⟩
     ·refine .inr ⟨d,P,w1,A,P,F1,K1,w1,rfl,s1,W,Q,s4,s5,.inr d,fun q=>?_,s7⟩;obtain ⟨g1,X,g3,g4,g5,g6,g7⟩:=L q;rw [X,g3] at N;rcases N with N | N
      ·rw [g5] at N; cases N
      ·exact absurd N g6
     ·refine .inl ⟨j,B,C,p,d,A,s1.trans t1,t2,Q.trans t3,by omega,.inl t4,fun q=>.inr ⟨?_,t7,?_⟩,s7.trans (Told.of_ix t6)⟩
      ·obtain ⟨g1,X,g3,g4,g5,g6,g7⟩:=L q;exact ⟨by rw [t6,g3],by rw [t8]; omega⟩
      ·obtain ⟨g1,X,g3,g4,g5,g6,g7⟩:=L q;rw [t8,t3.z,X]; omega
    ·have J:¬ Good F K n:=fun q=>by obtain ⟨g1,X,g3,g4,g5,g6,g7⟩:=L q;exact O (an.1 (by rw [X,g3]; exact g4))
     rcases a0 with ⟨d,A⟩ | ⟨j,B,C,p,A,t1,t2,t3,t4,t5,t6,tt⟩
     ·exact .inr ⟨d,P,w1,A,P,F1,K1,w1,rfl,s1,W,Q,s4,s5,.inr d,fun q=>absurd q J,s7⟩
     ·rcases t6 with d | d
      ·exact .inl ⟨j,B,C,p,d,A,s1.trans t1,t2,Q.trans t3,by omega,.inl t4,fun q=>absurd q J,s7.trans tt⟩
      ·exact .inr ⟨d,j,p,A,j,B,C,p,rfl,s1.trans t1,t2,Q.trans t3,by omega,.inl t4,.inr d,fun q=>absurd q J,s7.trans tt⟩
   rcases hN with ⟨j,B,C,p,d,A,hS⟩ | ⟨d,j,p,A,hQ⟩
   ·refine (V j B C p d A hS).mono fun e st' hq _=>?_
    cases e with
    | normal =>
     obtain ⟨P3,w3,rfl,F3,K3,bx⟩:=hq;simp only [blkE];have c4:keepK [0,1,12,13] [(0,Slot.val (AVal.ptr (some (I.s,0)))),(1,.val (.int .i64 n)),(12,.val (.int .i64 m)),(13,.val (.int .i64 i))]=[(0,.val (.ptr (some (I.s,0)))),(1,.val (.int .i64 n)),(12,.val (.int .i64 m)),(13,.val (.int .i64 i))]:=by simp
     rw [c4];refine CodeD.run D hm (a6 P3 w3) ?_;exact ⟨m - (i+1),by omega,i+1,P3,F3,K3,w3,by omega,rfl,bx,rfl⟩
    | exit i=>exact hq.elim
    | ret=>exact hq.elim
   ·refine CodeD.run (e:=.ret) D hm (U 10 d (by decide)) ?_;exact .inr ⟨rfl,y,j,p,hQ,by rw [A]⟩
 ·obtain rfl:i=m:=by omega
  have ci:¬ (i:Int) < i:=by omega
  refine CodeD.seq nofun (CodeD.run (e:=.normal) (st':=⟨[(0,.val (.ptr (some (I.s,0)))),(1,.val (.int .i64 n)),(12,.val (.int .i64 i)),(13,.val (.int .i64 i)),(14,.val (.bool false))],⟨P,b,w1⟩⟩) D hm (fun k'=>by simp (disch:=omega) [ci]) ?_);refine CodeD.seq nofun (CodeD.run (e:=.exit 0) (st':=⟨[(0,.val (.ptr (some (I.s,0)))),(1,.val (.int .i64 n))],⟨P,b,w1⟩⟩) D hm (fun k'=>by simp (disch:=omega) []) ?_);exact .inl ⟨rfl,P,F1,K1,w1,⟨s1,W,Q,s4,s5,s6,s7⟩,rfl⟩
end
end
end Go.Abs.AbsBlo

namespace Go.Abs.AbsBlo
open Go.Abs.AbsBlb hiding T
open Go.Abs.Short
def RoomR (kl:List Bs) (H:List AObj) (I:SI) (F:Fl) (K:StU) (b n w:Nat) (v:AVal) (h':Heap):Prop :=
 ∃ H' F' K' w',h'=⟨H',b,w'⟩∧StF I H H'∧SO kl H' I F' K'∧FlE F F'∧min w b≤w'∧(w'≤I.hi∨(H'=H∧w'=w))∧((v = .int .i64 0∧Fits F' K' n)∨v = .int .i64 10)∧(Good F K n→v = .int .i64 0∧Kept K K')∧Told K K'
section
variable {E:Env} {kl:List Bs} {H:List AObj} {b:Nat} {I:SI} {F:Fl} {K:StU}
theorem fe580 {P:List AObj} {w w':Nat} {v:Int}:funcEnd code580 ⟨H,b,w⟩ (.ret,⟨[(4,.val (.int .i64 v))],⟨P,b,w'⟩⟩)=some (.int .i64 v,if w' < H.length then ⟨P,b,min w w'⟩ else ⟨H,b,w⟩):=by
 by_cases c:w' < H.length
 ·simp [funcEnd,code580,resultsL,result1,sget,tupled,dj,Heap.size,c]
 ·simp [funcEnd,code580,resultsL,result1,sget,tupled,dj,Heap.size,c,AVal.under]
theorem zal {n w:Nat} {P:List AObj} {w1:Nat} {v:AVal} (q:I.hi < H.length) (h:RoomQ kl H I F K b n H.length v ⟨P,b,w1⟩) :
  ∃ h',funcEnd code580 ⟨H,b,w⟩ (.ret,⟨[(4,.val v)],⟨P,b,w1⟩⟩)=some (v,h')∧RoomR kl H I F K b n w v h':=by
 obtain ⟨H',F',K',w',e,s1,j,p,y,s5,d,s7⟩:=h;cases e
 obtain ⟨x,rfl⟩:∃ x:Int,v = .int .i64 x:=by
  rcases d with ⟨rfl,-⟩ | rfl
  ·exact ⟨0,rfl⟩
  ·exact ⟨10,rfl⟩
 refine ⟨_,fe580,?_⟩;rcases s5 with s5 | ⟨rfl,rfl⟩
 ·rw [if_pos (by omega)];exact ⟨P,F',K',min w w1,rfl,s1,j,p,by omega,.inl (by omega),d,s7⟩
 ·rw [if_neg (by omega)];exact ⟨P,F',K',w,rfl,s1,j,p,cr _ _,.inr ⟨rfl,rfl⟩,d,s7⟩
section
attribute [-simp] getElem?_pos getElem?_neg List.all_eq_true
attribute [local simp] qZ qS nltT nltF iltT iltF ileT nleT di
theorem room_ok (p:AgreesX E T) (hm:E.P.follows .mixedOrders=true) (hF:IsCode E 617 code617) (D:IsCode E 599 code599) (G:IsCode E 580 code580) (h:SO kl H I F K) (J:∀ k ∈ kl,1≤k.length∧k.length≤64) (L:kl.length≤12) (hb:I.lo b) (q:b≤H.length) (a0:0 < F.n) {n:Nat} (W:n≤1000000000) (w:Nat) :
  CallD E 580 [.ptr (some (I.s,0)),.int .i64 n] ⟨H,b,w⟩ (RoomR kl H I F K b n w):=by
 have d:=h.a.hi;have a6:=h.a.fl.nb.1;have aa:=h.v.ln;have X:=h.a.s;unfold StU.cells at X;refine CallD.of_code G rfl ?_;rw [body580];have N:enter 0 [AVal.ptr (some (I.s,0)),.int .i64 n]=[(0,.val (.ptr (some (I.s,0)))),(1,.val (.int .i64 n))]:=rfl;have O:(⟨H,b,w⟩:Heap).size=H.length:=rfl;rw [N];simp only [O];refine CodeD.seq nofun (CodeD.run (e:=.normal) (st':=⟨[(0,.val (.ptr (some (I.s,0)))),(1,.val (.int .i64 n))],⟨H,b,H.length⟩⟩) p hm (fun k'=>by simp (disch:=omega) []) ?_);have e4:((4*K.secs.length:Nat):Int)=4*(K.secs.length:Int):=by omega
 refine CodeD.seq nofun ?_
 refine CodeD.seq nofun (CodeD.run (e:=.normal) (st':=⟨[(0,.val (.ptr (some (I.s,0)))),(1,.val (.int .i64 n)),(12,.val (.int .i64 (4*K.secs.length:Nat))),(13,.val (.int .i64 (0:Nat)))],⟨H,b,H.length⟩⟩) p hm (fun k'=>by rw [e4];simp (disch:=omega) [X]) ?_)
 refine CodeD.after (CodeD.block ((room_loop p hm hF D J L hb q d W (m:=4*K.secs.length) (k:=4*K.secs.length) ⟨by omega,by omega⟩ ⟨0,H,F,K,H.length,by omega,by omega,⟨.refl,h,.refl _,q,.inr ⟨rfl,rfl⟩,fun _=>.inl ⟨rfl,rfl,rfl⟩,Told.refl _⟩,rfl⟩).mono fun e st hq _=>?_));rcases hq with ⟨rfl,P,F1,K1,w1,⟨s1,Q,s3,s4,s5,s6,st⟩,rfl⟩ | ⟨rfl,v,P,w1,hQ,rfl⟩
 ·simp only [xy,if_true];have hk:keepK [0,1] [(0,Slot.val (AVal.ptr (some (I.s,0)))),(1,.val (.int .i64 n))]=[(0,.val (.ptr (some (I.s,0)))),(1,.val (.int .i64 n))]:=by simp
  rw [hk];have j:=fun w=>cf sub (s597 (b:=b) (w:=w) Q.a W)
  have hg:Good F K n→Kept K K1∧Fits F1 K1 n:=fun y=>by
   rcases s6 y with ⟨e,-⟩ | e
   ·omega
   ·exact e
  by_cases A:Fits F1 K1 n
  ·have U:(!decide (K1.head = -1) && decide (K1.at_+n≤F1.z))=true:=by simp [A.1,A.2]
   rw [U] at j;refine CodeD.run (e:=.ret) (st':=⟨[(4,.val (.int .i64 0))],⟨P,b,w1⟩⟩) p hm (fun k'=>by simp (disch:=omega) [z580,j]) ?_;obtain ⟨h',B,C⟩:=zal (w:=w) d (⟨P,F1,K1,w1,rfl,s1,Q,s3,s4,s5,.inl ⟨rfl,A⟩,fun y=>⟨rfl,(hg y).1⟩,st⟩:RoomQ kl H I F K b n H.length (.int .i64 0) ⟨P,b,w1⟩);exact ⟨_,h',B,C⟩
  ·have V:(!decide (K1.head = -1) && decide (K1.at_+n≤F1.z))=false:=by
    by_cases c1:K1.head = -1
    ·simp [c1]
    ·have:¬ K1.at_+n≤F1.z:=fun c2=>A ⟨c1,c2⟩
     simp [this]
   rw [V] at j;refine CodeD.run (e:=.ret) (st':=⟨[(4,.val (.int .i64 10))],⟨P,b,w1⟩⟩) p hm (fun k'=>by simp (disch:=omega) [z580,j]) ?_;obtain ⟨h',B,C⟩:=zal (w:=w) d (⟨P,F1,K1,w1,rfl,s1,Q,s3,s4,s5,.inr rfl,fun y=>absurd (hg y).2 A,st⟩:RoomQ kl H I F K b n H.length (.int .i64 10) ⟨P,b,w1⟩);exact ⟨_,h',B,C⟩
 ·simp only [blkE];obtain ⟨h',B,C⟩:=zal (w:=w) d hQ;exact ⟨_,h',B,C⟩
end
end
end Go.Abs.AbsBlo

namespace Go.Abs.AbsBlo
open Go.Abs.AbsBlb hiding T
open Go.Abs.Short
def a549:ACode:=.after (.block 0 (.seq (R [0,5,6,15] [v 16 6,o 17 (.bin .neq (t 16) (n 0)),v 15 17])
 (.after (.cond (t 15) (.seq (R [4] [v 18 6,v 4 18])
 (.live [4] (.ret))) (.seq (.after (.region [⟨true,[],[v 20 5,o 21 (.callg 579 [t 20]),v 22 0,o 23 (.nilcheck (t 22)),o 24 (.faddr (t 23) 1),o 25 (.faddr (t 24) 1),o 26 (.load none (t 25)),o 27 (.bin .sub (t 26) (n 12)),o 28 (.bin .quo (t 27) (n 2))]⟩,⟨false,[],[o 29 (.bin .gtr (t 21) (t 28)),v 19 29]⟩]) [0,5,19])
 (.after (.cond (t 19) (.seq (R [4] [o 4 (.val (n 9))])
 (.live [4] (.ret))) (.skip)) [0,5]))) [0,5]))) [0,5]
def k549:ACode:=.seq (R [0,5,7,35] [v 34 7,o 35 (.bin .neq (t 34) (n 0))])
 (.after (.cond (t 35) (.seq (R [4] [v 36 7,v 4 36])
 (.live [4] (.ret))) (.skip)) [0,5])
def f549:ACode:=.seq (R [4] [v 37 0,v 38 0,v 39 5,o 40 (.callg 577 [t 38,t 39]),o 41 (.callg 578 [t 37,t 40]),v 4 41])
 (.live [4] (.ret))
theorem body549:code549.body = .seq (R [0,1] [o 4 (.val (n 0))])
 (.seq (.seq (R [0,1,9] [v 8 0,o 9 (.callg 561 [t 8])])
 (.after (.cond (t 9) (.seq (R [4] [o 4 (.val (n 5))])
 (.live [4] (.ret))) (.skip)) [0,1]))
 (.seq (R [0,5,6] [v 11 1,o 12 (.callg 581 [t 11]),v 10 12,o 13 (.extract (t 10) 0),o 14 (.extract (t 10) 1),v 5 13,v 6 14])
 (.seq a549
 (.seq (.seq (R [0,5,7] [v 30 0,v 31 5,o 32 (.callg 579 [t 31]),o 33 (.callg 580 [t 30,t 32]),v 7 33])
 k549)
 f549)))):=rfl
def GoodC (F:Fl) (K:StU) (L:List ChU):Prop:=¬ (L.foldl (fun S c=>addK S c.key) []).length < L.length∧sizes (L.map ChU.toR)+16≤(F.z - 12) / 2∧Good F K (sizes (L.map ChU.toR)+16)
def CommitQ (kl:List Bs) (H:List AObj) (I:SI) (F:Fl) (K:StU) (L:List ChU) (b w:Nat) (v:AVal) (h':Heap):Prop :=
 ∃ H' F' K' w' e,h'=⟨H',b,w'⟩∧StF I H H'∧SO kl H' I F' K'∧FlE F F'∧min w b≤w'∧(w'≤I.hi∨(H'=H∧w'=w))∧v = .int .i64 e ∧
  (GoodC F K L→e=0∧w'≤I.hi∧∃ K1 hd A,Kept K K1∧A.map Prod.fst=L.map ChU.toR∧K'=wroteK K1 hd A∧K'.head ≠ -1) ∧
  ((((e=12∧(L.foldl (fun S c=>addK S c.key) []).length < L.length)∨(e=9∧¬ sizes (L.map ChU.toR)+16≤(F.z - 12) / 2)∨e=10)∧Told K K')∨(e=0∧∃ K1 hd A,Told K K1∧A.map Prod.fst=L.map ChU.toR∧K'=wroteK K1 hd A))
section
variable {E:Env} {kl:List Bs} {H:List AObj} {b:Nat} {I:SI} {F:Fl} {K:StU}
theorem fe549 {P:List AObj} {w w':Nat} {v:Int}:funcEnd code549 ⟨H,b,w⟩ (.ret,⟨[(4,.val (.int .i64 v))],⟨P,b,w'⟩⟩)=some (.int .i64 v,if w' < H.length then ⟨P,b,min w w'⟩ else ⟨H,b,w⟩):=by
 by_cases c:w' < H.length
 ·simp [funcEnd,code549,resultsL,result1,sget,tupled,dj,Heap.size,c]
 ·simp [funcEnd,code549,resultsL,result1,sget,tupled,dj,Heap.size,c,AVal.under]
section
attribute [-simp] getElem?_pos getElem?_neg List.all_eq_true
attribute [local simp] qZ qS nltT nltF iltT iltF ileT nleT di
theorem commit_ok (C:AgreesX E T) (hm:E.P.follows .mixedOrders=true) (hF:IsCode E 617 code617) (bm:IsCode E 599 code599) (bx:IsCode E 580 code580) (c4:IsCode E 549 code549) (h:SO kl H I F K) (ac:∀ k ∈ kl,1≤k.length∧k.length≤64) (c5:kl.length≤12) (hb:I.lo b) (ci:b≤H.length) (cp:0 < F.n)
  {L:List ChU} {la:Option (Nat × Nat)} {lc:Option Nat} (hR:Row H 3 ChU.cells L la) (h0:L≠[]) (cv:L.length≤16) (hL:∀ c ∈ L,c.fine H∧c.key ∈ kl) (w:Nat) :
  CallD E 549 [.ptr (some (I.s,0)),.slice la L.length lc] ⟨H,b,w⟩ (CommitQ kl H I F K L b w):=by
 have D:=h.a.hi;have an:=ah h.a.fl.f;have hI:I.s≤I.hi∧I.sa≤I.hi∧I.m≤I.hi∧I.fi.fb≤I.hi∧I.fi.fw≤I.hi:=by unfold SI.hi; omega
 have d6:=h.a.fl.nb.2;have hz:=h.v.gz;refine CallD.of_code c4 rfl ?_;rw [body549];have cx:enter 0 [AVal.ptr (some (I.s,0)),.slice la L.length lc]=[(0,.val (.ptr (some (I.s,0)))),(1,.val (.slice la L.length lc))]:=rfl;have cy:(⟨H,b,w⟩:Heap).size=H.length:=rfl;rw [cx];simp only [cy];have U:=fun w=>cf sub (s561 (b:=b) (w:=w) h.a)
 rw [h.v.dn] at U
 have G:∀ (e:Int) (P:List AObj),((e=12∧(L.foldl (fun S c=>addK S c.key) []).length < L.length)∨(e=9∧¬ sizes (L.map ChU.toR)+16≤(F.z - 12) / 2)∨e=10)→¬ GoodC F K L→∃ v h',funcEnd code549 ⟨H,b,w⟩ (.ret,⟨[(4,.val (.int .i64 e))],⟨P,b,H.length⟩⟩)=some (v,h')∧CommitQ kl H I F K L b w v h':=fun e P he hG=>by refine ⟨_,_,fe549,?_⟩;rw [if_neg (by omega)];exact ⟨H,F,K,w,e,rfl,.refl,h,.refl _,cr _ _,.inr ⟨rfl,rfl⟩,rfl,fun g=>absurd g hG,.inl ⟨he,Told.refl _⟩⟩
 refine CodeD.seq nofun (CodeD.run (e:=.normal) (st':=⟨[(0,.val (.ptr (some (I.s,0)))),(1,.val (.slice la L.length lc))],⟨H,b,H.length⟩⟩) C hm (fun k'=>by simp (disch:=omega) []) ?_);refine CodeD.seq nofun (CodeD.run (e:=.normal) (st':=⟨[(0,.val (.ptr (some (I.s,0)))),(1,.val (.slice la L.length lc))],⟨H,b,H.length⟩⟩) C hm (fun k'=>by simp (disch:=omega) [U]) ?_);rcases p581 (b:=b) (lc:=lc) hR h0 cv (fun c hc=>(hL c hc).1) ci with ⟨hd,d⟩ | ⟨hd,H1,A,x,hp,hx,V,W,d⟩
 ·have d:=fun w=>cf sub (d w)
  refine CodeD.seq nofun (CodeD.run (e:=.normal) (st':=⟨[(0,.val (.ptr (some (I.s,0)))),(5,.val (.slice none 0 (some 0))),(6,.val (.int .i64 12))],⟨H,b,H.length⟩⟩) C hm (fun k'=>by simp (disch:=omega) [d]) ?_);refine CodeD.seq nofun (CodeD.run (e:=.ret) (st':=⟨[(4,.val (.int .i64 12))],⟨H,b,H.length⟩⟩) C hm (fun k'=>by simp (disch:=omega) [a549]) ?_);exact G 12 H (.inl ⟨rfl,hd⟩) fun g=>g.1 hd
 ·have d:=fun w=>cf sub (d w)
  refine CodeD.seq nofun (CodeD.run (e:=.normal) (st':=⟨[(0,.val (.ptr (some (I.s,0)))),(5,.val x),(6,.val (.int .i64 0))],⟨H1,b,H.length⟩⟩) C hm (fun k'=>by simp (disch:=omega) [d]) ?_)
  have J:A≠[]:=fun e=>by rw [e] at V;have:=congrArg List.length V;rw [a7,a7] at this;exact h0 (bn this.symm)
  have d8:A.length=L.length:=by have:=congrArg List.length V;rwa [a7,a7] at this
  rcases hx with ⟨e,-⟩ | ⟨-,q,hq,rfl,a0⟩
  ·exact absurd e J
  ·have h1:SO kl H1 I F K:=⟨h.a.low (N:=H.length) ⟨D,an⟩ fun k o _ ho=>hp k o ho,h.v⟩;have d1:=hp.len
   have a6:∀ p ∈ A,p.1.key ∈ kl∧p.1.count=0∧(p.1.kind=1∧p.1.blob.length≤4096∨p.1.kind=2∧p.1.blob=[]):=fun p j=>by
    have:p.1 ∈ A.map Prod.fst:=bt.2 ⟨p,j,rfl⟩;rw [V] at this;obtain ⟨c,hc,e⟩:=bt.1 this;obtain ⟨⟨-,-,-,-,g1⟩,g2⟩:=hL c hc;rw [← e];unfold ChU.toR;cases c.del
    ·exact ⟨g2,rfl,.inl ⟨rfl,g1⟩⟩
    ·exact ⟨g2,rfl,.inr ⟨rfl,rfl⟩⟩
   have ao:∀ p ∈ A,RV.ok H1 p:=fun p j=>by
    obtain ⟨g1,g2,g3⟩:=a6 p j;have:=(ac _ g1).2;refine ⟨(W p j).1,by omega,?_⟩;rcases g3 with ⟨-,g3⟩ | ⟨-,g3⟩
    ·omega
    ·rw [g3]; exact fk _
   have B:=fun w=>cf sub (s579 (H:=H1) (b:=b) (w:=w) (L:=A) (a:=some (q,0)) (c:=none) (Row.mk0 (fun _=>rfl) a0) (by omega) J ao)
   have d2:=zav ao;rw [V] at d2 B;have d9:(0:Int)≤(((F.z - 12) / 2:Nat):Int)∧(((F.z - 12) / 2:Nat):Int)≤65536:=by omega
   have gs:=h1.a.s;unfold StU.cells at gs
   have ax:((F.z:Int) - 12).tdiv 2=(((F.z - 12) / 2:Nat):Int):=by rw [sx (by omega)]; omega
   have dd:sizes (L.map ChU.toR)≤48000000:=by omega
   by_cases O:sizes (L.map ChU.toR)+16≤(F.z - 12) / 2
   ·have ad:¬ ((((F.z - 12) / 2:Nat):Int) < ((sizes (L.map ChU.toR)+16:Nat):Int)):=by omega
    refine CodeD.seq nofun (CodeD.run (e:=.normal) (st':=⟨[(0,.val (.ptr (some (I.s,0)))),(5,.val (.slice (some (q,0)) A.length none))],⟨H1,b,H.length⟩⟩) C hm (fun k'=>by generalize ((sizes (L.map ChU.toR)+16:Nat):Int)=sn at *;generalize (((F.z - 12) / 2:Nat):Int)=zn at *;simp (disch:=omega) [a549,B,gs,ax,ad]) ?_)
    refine CodeD.seq nofun ?_;refine CodeD.seq nofun (CodeD.after (CodeD.regionX C hm ?_))
    refine OpsD.run (l:=[v 30 0,v 31 5,o 32 (.callg 579 [t 31])]) (r:=[o 33 (.callg 580 [t 30,t 32]),v 7 33]) (s1:=[(32,.val (.int .i64 (sizes (L.map ChU.toR)+16:Nat))),(31,.val (.slice (some (q,0)) A.length none)),(30,.val (.ptr (some (I.s,0)))),(0,.val (.ptr (some (I.s,0)))),(5,.val (.slice (some (q,0)) A.length none))]) (h1:=⟨H1,b,H.length⟩) (fun k'=>by generalize ((sizes (L.map ChU.toR)+16:Nat):Int)=sn at *;simp (disch:=omega) [B]) ?_
    refine OpsD.call (g:=580) (xs:=[t 30,t 32]) rfl rfl rfl (room_ok C hm hF bm bx h1 ac c5 hb (by omega) cp (n:=sizes (L.map ChU.toR)+16) (by omega) H.length) fun vv hh d3=>?_
    obtain ⟨H2,F2,K2,w2,rfl,s1,s2,s3,s4,s5,s6,s7,st⟩:=d3;refine OpsD.run (l:=[v 7 33]) (r:=[]) (s1:=[(7,.val vv),(33,.val vv),(32,.val (.int .i64 (sizes (L.map ChU.toR)+16:Nat))),(31,.val (.slice (some (q,0)) A.length none)),(30,.val (.ptr (some (I.s,0)))),(0,.val (.ptr (some (I.s,0)))),(5,.val (.slice (some (q,0)) A.length none))]) (h1:=⟨H2,b,w2⟩) (fun k'=>by simp (disch:=omega) []) (OpsD.done ?_);simp only [];have d4:keepK [0,5,7] [(7,Slot.val vv),(33,.val vv),(32,.val (.int .i64 (sizes (L.map ChU.toR)+16:Nat))),(31,.val (.slice (some (q,0)) A.length none)),(30,.val (.ptr (some (I.s,0)))),(0,.val (.ptr (some (I.s,0)))),(5,.val (.slice (some (q,0)) A.length none))]=[(0,.val (.ptr (some (I.s,0)))),(5,.val (.slice (some (q,0)) A.length none)),(7,.val vv)]:=by simp
    rw [d4];have ay:StF I H H1:=⟨d1,fun k o ho _ _ _ _ _=>hp k o ho⟩;rcases s6 with ⟨rfl,aa⟩ | rfl
    ·refine CodeD.run (e:=.normal) (st':=⟨[(0,.val (.ptr (some (I.s,0)))),(5,.val (.slice (some (q,0)) A.length none))],⟨H2,b,w2⟩⟩) C hm (fun k'=>by simp (disch:=omega) [k549]) ?_;have al:=s1.above D _ _ hq a0;have Q:∀ p ∈ A,p.new H.length H2:=fun p j=>(W p j).mono s1.len fun k X hk ho=>s1.above D k _ hk ho
     obtain ⟨b5,d5⟩:∃ hd:Nat,K2.head=hd:=by
      rcases s2.v.hd with e | ⟨y,e,-⟩
      ·exact absurd e aa.1
      ·exact ⟨y,e⟩
     obtain ⟨H3,F3,K3,n3,k1,k2,k3,k4,k5,k6,k7,k8,k9⟩:=q577 (b:=b) (lc:=none) s2 hb (by have:=s1.len; omega) (L:=A) (Row.mk0 (fun _=>rfl) al) J (by omega) ac (fun p j=>⟨⟨(Q p j).1,fun qq o nn c e=>by have:=((Q p j).2 qq o nn c e).1; omega⟩,a6 p j⟩) d5 (by rw [V]; have:=aa.2; omega);obtain ⟨H4,j1,j2,j3,j4⟩:=p578 (b:=b) k2.a hb;have b6:=fun w=>cf sub (k9 w)
     have b7:=fun w=>cf sub (j4 w)
     have dl:=hb.1;have e0:=k8 w2;refine CodeD.run (e:=.ret) (st':=⟨[(4,.val (.int .i64 0))],⟨H4,b,min (n3 w2) I.s⟩⟩) C hm (fun k'=>by simp (disch:=omega) [f549,b6,b7]) ?_;refine ⟨_,_,fe549,?_⟩;rw [if_pos (by omega)];refine ⟨H4,F3,K3,min w (min (n3 w2) I.s),0,rfl,((ay.trans s1).trans k1).trans j1,⟨j2,k2.v⟩,s3.trans k3,by omega,.inl (by omega),rfl,fun hG=>⟨rfl,by omega,K2,b5,A,(s7 hG.2.2).2,V,k6,by rw [k4]; omega⟩,.inr ⟨rfl,K2,b5,A,st,V,k6⟩⟩
    ·refine CodeD.run (e:=.ret) (st':=⟨[(4,.val (.int .i64 10))],⟨H2,b,w2⟩⟩) C hm (fun k'=>by simp (disch:=omega) [k549]) ?_;refine ⟨_,_,fe549,?_⟩
     have bb:¬ GoodC F K L:=fun hG=>by have:=(s7 hG.2.2).1;cases this
     rcases s5 with s5 | ⟨rfl,rfl⟩
     ·rw [if_pos (by omega)];exact ⟨H2,F2,K2,min w w2,10,rfl,ay.trans s1,s2,s3,by omega,.inl (by omega),rfl,fun g=>absurd g bb,.inl ⟨.inr (.inr rfl),st⟩⟩
     ·rw [if_neg (by omega)];exact ⟨H,F,K,w,10,rfl,.refl,h,.refl _,cr _ _,.inr ⟨rfl,rfl⟩,rfl,fun g=>absurd g bb,.inl ⟨.inr (.inr rfl),Told.refl _⟩⟩
   ·have ad:((((F.z - 12) / 2:Nat):Int) < ((sizes (L.map ChU.toR)+16:Nat):Int)):=by omega
    refine CodeD.seq nofun (CodeD.run (e:=.ret) (st':=⟨[(4,.val (.int .i64 9))],⟨H1,b,H.length⟩⟩) C hm (fun k'=>by generalize ((sizes (L.map ChU.toR)+16:Nat):Int)=sn at *;generalize (((F.z - 12) / 2:Nat):Int)=zn at *;simp (disch:=omega) [a549,B,gs,ax,ad]) ?_)
    exact G 9 H1 (.inr (.inl ⟨rfl,O⟩)) fun g=>O g.2.1
end
end
end Go.Abs.AbsBlo

namespace Go.Abs.AbsBlb
open Go.Abs.Short
section
variable {kl:List Bs} {H:List AObj} {b:Nat} {I:SI} {F:Fl} {K:StU}
end
end Go.Abs.AbsBlb

namespace Go.Abs.AbsBlo
open Go.Abs.AbsBlb hiding T
open Go.Abs.Short
def FitZ (z:Nat) (K:StU) (n:Nat):Prop:=K.head ≠ -1∧K.at_+n≤z
def nextL (lim:Nat) (K:StU):Nat × Bool:=least (opn lim) Sec.er K.secs K.secs.length
def oldS (K:StU):Nat × Bool:=least (fun x=>decide (x.st=2)) Sec.seq K.secs K.secs.length
def dropE (lim:Nat) (y:Sec):Sec:=if y.er < lim then ⟨0,0,y.er+1⟩ else ⟨1,0,y.er⟩
def noneK (K:StU) (i:Nat):StU:=if K.head=i then { K with head:=-1 } else K
def OpenR (lim:Nat) (K K':StU):Prop:=K.seq≠4294967295∧∃ (i:Nat) (y:Sec) (x:Int),nextL lim K=(i,true)∧K.secs[i]? = some y∧opn lim y=true∧(y.st=0→x=y.er)∧K' = { K with secs:=K.secs.set i ⟨2,(K.seq:Int)+1,x⟩,head:=i,at_:=12,txn:=0,seq:=K.seq+1 }
def CleanR (z lim:Nat) (K K':StU):Prop:=∃ (i:Nat) (y:Sec) (A:List RV) (K1:StU),oldS K=(i,true)∧K.secs[i]? = some y∧y.st=2∧LiveOK K.ix i (A.map Prod.fst)∧sizes (A.map Prod.fst)=secSum i K.ix ∧
 ((A=[]∧K1=noneK K i)∨(A≠[]∧∃ (K2:StU) (hd:Nat),((FitZ z (noneK K i) (secSum i K.ix+16)∧K2=noneK K i)∨(¬ FitZ z (noneK K i) (secSum i K.ix+16)∧OpenR lim (noneK K i) K2))∧K2.head=hd∧K1=wroteK K2 hd A)) ∧
 K' = { K1 with secs:=K1.secs.set i (dropE lim y) }
def StuckC (lim:Nat) (K:StU):Prop:=(oldS K).2=false∨(nextL lim K).2=false∨K.seq=4294967295
section
variable {kl:List Bs} {H P:List AObj} {b w:Nat} {I:SI} {F:Fl} {K:StU}
theorem q594x (h:SO kl H I F K) (hb:I.lo b) {i:Nat} (hi:i < F.n) (C:K.head≠i) (j:∀ e ∈ K.ix,e.2.1.sec≠i) {y:Sec} (D:K.secs[i]? = some y) :
  ∃ H' F',∃ d:Nat→Nat,StF I H H'∧SO kl H' I F' { K with secs:=K.secs.set i (dropE F.lim y) }∧FlE F F'∧(∀ w,d w≤I.hi∧min w b≤d w) ∧
   ∀ w,xCall AbsBlb.T 100594 [.ptr (some (I.s,0)),.int .i64 i] ⟨H,b,w⟩=some (.int .i64 0,⟨H',b,d w⟩):=by
 obtain ⟨x,hx,p⟩:=h.wex hi
 have e:dropS F x=dropE F.lim y:=by
  have q:=h.v.lk i hi;rw [D] at q;rw [← ce q] at p;unfold dropS dropE;rw [p];by_cases c:x < F.lim
  ·rw [if_pos c,if_pos (by omega)]
  ·rw [if_neg c,if_neg (by omega)]
 obtain ⟨H',d,G,A,J,L⟩:=p594 h.a hb h.v.gz hx;have B:=drop_inv h.v hx C j;rw [e] at A B;refine ⟨H',_,d,G,⟨A,B⟩,?_,J,L⟩;unfold Fl.dropped;split <;> exact ⟨rfl,rfl,rfl⟩
theorem q598y (h:SO kl H I F K) (hb:I.lo b):(((nextL F.lim K).2=false∨K.seq=4294967295)∧∀ w,xCall AbsBlb.T 598 [.ptr (some (I.s,0))] ⟨H,b,w⟩=some (.int .i64 10,⟨H,b,w⟩)) ∨
  (∃ H' F' K',∃ q:Nat→Nat,StF I H H'∧SO kl H' I F' K'∧FlE F F'∧OpenR F.lim K K'∧(∀ w,q w≤I.hi∧min w b≤q w) ∧
   ∀ w,xCall AbsBlb.T 598 [.ptr (some (I.s,0))] ⟨H,b,w⟩=some (.int .i64 0,⟨H',b,q w⟩)):=by
 by_cases c:(nextS F K).2=false∨K.seq=4294967295
 ·exact .inl ⟨c,fun w=>p598n h.a c⟩
 ·have c1:(nextS F K).2=true:=by cases L:(nextS F K).2 with
   | true=>rfl
   | false=>exact absurd (.inl L) c
  have c2:K.seq≠4294967295:=fun e=>c (.inr e)
  have N:=h.a.sb;obtain ⟨i,hi⟩:∃ i,nextS F K=(i,true):=⟨(nextS F K).1,by rw [← c1]⟩
  obtain ⟨y,A,hm⟩:∃ y,K.secs[i]? = some y∧opn F.lim y=true:=by have:=qi (opn F.lim) Sec.er K.secs K.secs.length (by unfold nextS at hi; rw [hi]);unfold nextS at hi;rw [hi] at this;exact this
  have d:i < F.n:=by rw [← h.v.ln]; exact ah A
  have p:y=F.look i:=by have:=h.v.lk i d; rw [A] at this; exact ce this
  obtain ⟨x,hx,J⟩:=h.wex d
  have B:(F.look i).st=0∨((F.look i).st=1∧x < F.lim):=by
   have hm:=hm;rw [p] at hm;unfold opn at hm;rw [J] at hm;simp only [c9,bc,decide_eq_true_eq] at hm;rcases hm with hm | ⟨hm,hl⟩
   ·exact .inl hm
   ·exact .inr ⟨hm,by omega⟩
  obtain ⟨C,j⟩:∃ C,(F.clear i).w[i]? = some C:=by
   refine ⟨_,ai ?_⟩;unfold Fl.clear;split
   ·rw [h.v.wl]; exact d
   ·show i < (F.w.set i _).length
    rw [az,h.v.wl]; exact d
  obtain ⟨H',q,O,Q,U,V⟩:=p598 h.a hb h.v.gz hi c2 hx B j;obtain ⟨W,X,d3⟩:=qv F i;refine .inr ⟨H',_,_,q,O,⟨Q,zap h.v hi (by omega) j⟩,⟨W,X,d3⟩,⟨c2,i,y,C,hi,A,hm,fun h0=>?_,rfl⟩,U,V⟩
  have D:blankB (F.sec i)=true:=by
   rw [p] at h0;unfold Fl.look lookB at h0;by_cases c0:blankB (F.sec i)=true
   ·exact c0
   ·rw [if_neg c0] at h0;split at h0 <;> cases h0
  have G:F.clear i=F:=by unfold Fl.clear; rw [if_pos D]
  rw [G,hx] at j;cases j;rw [p,J]
theorem d599x (h:SO kl P I F K) (hb:I.lo b) {cb rc i:Nat} (p:P[cb]? = some (.cells 1 [.ptr (some (I.s,0))])) (G:P[rc]? = some (.cells 1 [.int .i64 0])) (V:I.hi < cb∧I.hi < rc) (hi:i < F.n) (W:K.head≠i) (J:∀ e ∈ K.ix,e.2.1.sec≠i) {y:Sec} (X:K.secs[i]? = some y) (w:Nat) :
  ∃ P' F' w',StF I P P'∧SO kl P' I F' { K with secs:=K.secs.set i (dropE F.lim y) }∧FlE F F'∧w'≤I.hi∧(w'≤w∧min w b≤w')∧P'[rc]? = some (.cells 1 [.int .i64 0])∧∀ {β:Type} (k:AExit→St→Option β),xK T d599 ⟨[(1,.val (.ptr (some (cb,0)))),(2,.val (.ptr (some (rc,0)))),(3,.val (.int .i64 i))],⟨P,b,w⟩⟩ (k:=⟨k⟩) =
   k .ret ⟨[(2,.val (.ptr (some (rc,0))))],⟨P',b,w'⟩⟩:=by
 have hI:I.s≤I.hi∧I.sa≤I.hi∧I.m≤I.hi∧I.fi.fb≤I.hi∧I.fi.fw≤I.hi:=by unfold SI.hi; omega
 obtain ⟨H1,F',n1,D,Q,k3,k5,k6⟩:=q594x h hb hi W J X;obtain ⟨L,U,j2,j3,j4⟩:=p578 (b:=b) Q.a hb;have q:=fun w=>cf sub (k6 w)
 have A:=fun w=>cf sub (j4 w)
 have B:=D.keep _ _ p (by omega) (by omega) (by omega) (by omega) (by omega);have j:=D.keep _ _ G (by omega) (by omega) (by omega) (by omega) (by omega);have d:=U.keep _ _ j (by omega) (by omega) (by omega) (by omega) (by omega);have C:L.set rc (.cells 1 [.int .i64 0])=L:=np d;have N:b≤rc:=by have:=hb.1; omega
 have a0:=k5 P.length;have a6:I.hi < P.length:=h.a.hi;have aa:=D.len;have O:=ah p;have ac:=hb.1;refine ⟨L,F',min w (min (n1 P.length) I.s),D.trans U,⟨j2,Q.v⟩,k3,by omega,by omega,d,fun k=>?_⟩;simp (disch:=omega) [-getElem?_pos,-getElem?_neg,-List.all_eq_true,qZ,qS,nltT,nltF,iltT,iltF,ileT,nleT,di,d599,-ew,lq,lr,jf,p,B,q,A,j,d,C,N,O]
theorem pp {K:StU} {hd:Nat} {A:List RV}:(wroteK K hd A).secs=K.secs∧(wroteK K hd A).head=K.head∧(wroteK K hd A).at_=K.at_+sizes (A.map Prod.fst)+16∧(wroteK K hd A).seq=K.seq:=by obtain ⟨a1,a2,a3,a4,a5,d⟩:=tg (hd:=hd) (founds (K.txn+1) A K.at_) { K with txn:=K.txn+1,at_:=K.at_+sizes (A.map Prod.fst)+16 };exact ⟨a1,a2,a3,a5⟩
theorem e599x (h:SO kl P I F K) (hb:I.lo b) (J:b≤P.length) (L:∀ k ∈ kl,1≤k.length∧k.length≤64) {cb rc i N:Nat} {A:List RV} {x:AVal} (d:P[cb]? = some (.cells 1 [.ptr (some (I.s,0))])) (O:P[rc]? = some (.cells 1 [.int .i64 0])) (Q:I.hi < cb∧I.hi < rc)
  (hN:I.hi < N) (hx:FRow N 5 RV.cells A P x) (U:A.length≤16) (hA:∀ p ∈ A,p.new N P) (hl:LiveOK K.ix i (A.map Prod.fst)) (hi:i < F.n) (hh:K.head≠i) {hd:Nat} (j:A≠[]→K.head=hd) (q:A≠[]→K.at_+sizes (A.map Prod.fst)+16≤F.z) {y:Sec} (hy:K.secs[i]? = some y) (w:Nat) :
  ∃ P' F' K1 w',StF I P P'∧((A=[]→K1=K)∧(A≠[]→K1=wroteK K hd A))∧SO kl P' I F' { K1 with secs:=K1.secs.set i (dropE F.lim y) }∧FlE F F'∧w'≤I.hi∧(w'≤w∧min w b≤w')∧P'[rc]? = some (.cells 1 [.int .i64 0])∧∀ {β:Type} (k:AExit→St→Option β),xK T c599 ⟨[(1,.val (.ptr (some (cb,0)))),(2,.val (.ptr (some (rc,0)))),(3,.val (.int .i64 i)),(5,.val x)],⟨P,b,w⟩⟩ (k:=⟨k⟩) =
   k .ret ⟨[(2,.val (.ptr (some (rc,0))))],⟨P',b,w'⟩⟩:=by
 have hI:I.s≤I.hi∧I.sa≤I.hi∧I.m≤I.hi∧I.fi.fb≤I.hi∧I.fi.fw≤I.hi:=by unfold SI.hi; omega
 obtain ⟨P1,F1,K1,w1,V,k2,W,k4,k5,k6,X,k8⟩:=e599 h hb J (rc:=rc) (i:=i) (hd:=hd) d hx U L (rp h hN hA hl) j q w;have B:=V.keep _ _ d (by omega) (by omega) (by omega) (by omega) (by omega);have C:=V.keep _ _ O (by omega) (by omega) (by omega) (by omega) (by omega)
 have a0:∀ e ∈ K1.ix,e.2.1.sec≠i:=fun e he hs=>by
  rcases k5 e he with ⟨g1,g2⟩ | ⟨g1,g2,g3⟩
  ·obtain ⟨r,hr,hk⟩:=live_has hl g1 hs;obtain ⟨p,hp,rfl⟩:=bt.1 hr;exact g2 (bt.2 ⟨p,hp,hk⟩)
  ·have:=j g2;omega
 have D:K1.secs=K.secs:=by
  by_cases G:A=[]
  ·rw [X.1 G]
  ·rw [X.2 G]; exact pp.1
 obtain ⟨P2,F2,w2,j1,j2,j3,j5,j6,j7,j8⟩:=d599x k2 hb B C Q (by rw [W.n]; exact hi) (by rw [k4]; exact hh) a0 (y:=y) (by rw [D]; exact hy) w1;rw [W.l] at j2;refine ⟨P2,F2,K1,w2,V.trans j1,X,j2,W.trans j3,j5,by omega,j7,fun k=>?_⟩;unfold c599;have k8:=fun {β:Type} (k:AExit→St→Option β)=>k8 k
 rw [xK_seq,k8];simp only [nxK_n];exact j8 k
section
attribute [-simp] getElem?_pos getElem?_neg List.all_eq_true
attribute [local simp] qZ qS nltT nltF iltT iltF ileT nleT di
theorem b599x (h:SO kl P I F K) (hb:I.lo b) (ad:b≤P.length) (Q:∀ k ∈ kl,1≤k.length∧k.length≤64) {cb rc i N:Nat} {A:List RV} {x:AVal} (D:P[cb]? = some (.cells 1 [.ptr (some (I.s,0))])) (U:P[rc]? = some (.cells 1 [.int .i64 0])) (a6:I.hi < cb∧I.hi < rc)
  (hN:I.hi < N) (hx:FRow N 5 RV.cells A P x) (V:A.length≤16) (hA:∀ p ∈ A,p.new N P) (hl:LiveOK K.ix i (A.map Prod.fst)) (hi:i < F.n) (hh:K.head≠i) (hu:(F.look i).st=2) {y:Sec} (hy:K.secs[i]? = some y) (w:Nat) :
  (∃ P' F' K1 w',StF I P P'∧((A=[]∧K1=K)∨(A≠[]∧∃ (O:StU) (hd:Nat),((FitZ F.z K (secSum i K.ix+16)∧O=K)∨(¬ FitZ F.z K (secSum i K.ix+16)∧OpenR F.lim K O))∧O.head=hd∧K1=wroteK O hd A))∧SO kl P' I F' { K1 with secs:=K1.secs.set i (dropE F.lim y) }∧FlE F F'∧(w'≤I.hi∧min w b≤w')∧P'[rc]? = some (.cells 1 [.int .i64 0])∧∀ {β:Type} (k:AExit→St→Option β),xK T b599 ⟨[(1,.val (.ptr (some (cb,0)))),(2,.val (.ptr (some (rc,0)))),(3,.val (.int .i64 i)),(5,.val x)],⟨P,b,w⟩⟩ (k:=⟨k⟩) =
   k .ret ⟨[(2,.val (.ptr (some (rc,0))))],⟨P',b,w'⟩⟩) ∨
  (((nextL F.lim K).2=false∨K.seq=4294967295)∧∀ {β:Type} (k:AExit→St→Option β),xK T b599 ⟨[(1,.val (.ptr (some (cb,0)))),(2,.val (.ptr (some (rc,0)))),(3,.val (.int .i64 i)),(5,.val x)],⟨P,b,w⟩⟩ (k:=⟨k⟩) =
   k .ret ⟨[(2,.val (.ptr (some (rc,0))))],⟨P.set rc (.cells 1 [.int .i64 10]),b,min w rc⟩⟩):=by
 have hI:I.s≤I.hi∧I.sa≤I.hi∧I.m≤I.hi∧I.fi.fb≤I.hi∧I.fi.fw≤I.hi:=by unfold SI.hi; omega
 have aa:=xm h.v.ix hl
 have b5:∀ p ∈ A,RV.ok P p:=fun p hp=>by
  obtain ⟨⟨g1,-⟩,g2,-,g3⟩:=rp h hN hA hl p hp;have:=(Q _ g2).2;refine ⟨g1,by omega,?_⟩;rcases g3 with ⟨-,g3⟩ | ⟨-,g3⟩
  ·omega
  ·rw [g3]; exact fk _
 by_cases d:A=[]
 ·subst d;obtain ⟨P',F',K1,w',j1,jk,j2,j3,j4,j5,j6,j7⟩:=e599x h hb ad Q D U a6 hN hx V hA hl hi hh (hd:=0) (fun d=>absurd rfl d) (fun d=>absurd rfl d) hy w;rcases hx with ⟨-,rfl⟩ | ⟨d,-⟩
  ·refine .inl ⟨P',F',K1,w',j1,.inl ⟨rfl,jk.1 rfl⟩,j2,j3,⟨j4,j5.2⟩,j6,fun k=>?_⟩;simp (disch:=omega) [b599,j7]
  ·exact absurd rfl d
 ·have b6:sizes (A.map Prod.fst)+28≤F.z:=by
   have hz:secSum i K.ix≠0:=fun e=>by obtain ⟨p,hp⟩:=vg _ d;obtain ⟨e',h1,h2,-⟩:=zam hl (bt.2 ⟨p,hp,rfl⟩);have:=zao h1 h2;unfold Ent.size at this;omega
   have:=h.v.sz i hz;rw [aa];rw [if_neg hh] at this;exact this
  have al:=hx;rcases hx with ⟨e,-⟩ | ⟨-,q,hq,rfl,an⟩
  ·exact absurd e d
  ·have G:=kg.2 d;have J:=fun w=>cf sub (s579 (H:=P) (b:=b) (w:=w) (L:=A) (a:=some (q,0)) (c:=none) (Row.mk0 (fun _=>rfl) an) V d b5)
   have cx:=h.a.fl.nb.2;have B:=fun w=>cf sub (s597 (b:=b) (w:=w) h.a (n:=sizes (A.map Prod.fst)+16) (by omega))
   have en:((sizes (A.map Prod.fst)+16:Nat):Int)=(sizes (A.map Prod.fst):Int)+16:=by omega
   by_cases j:K.head ≠ -1∧K.at_+(sizes (A.map Prod.fst)+16)≤F.z
   ·obtain ⟨hd,ao⟩:∃ hd:Nat,K.head=hd:=by
     rcases h.v.hd with e | ⟨y,e,-⟩
     ·exact absurd e j.1
     ·exact ⟨y,e⟩
    obtain ⟨P',F',K1,w',j1,jk,j2,j3,j4,j5,j6,j7⟩:=e599x h hb ad Q D U a6 hN al V hA hl hi hh (fun _=>ao) (fun _=>by omega) hy w;have ac:(!decide (K.head = -1) && decide (K.at_+(sizes (A.map Prod.fst)+16)≤F.z))=true:=by simp [j.1,j.2]
    rw [ac] at B;refine .inl ⟨P',F',K1,w',j1,.inr ⟨d,K,hd,.inl ⟨by rw [← aa]; exact j,rfl⟩,ao,jk.2 d⟩,j2,j3,⟨j4,j5.2⟩,j6,fun k=>?_⟩;generalize ((sizes (A.map Prod.fst)+16:Nat):Int)=sn at *;simp (disch:=omega) [b599,J,B,D,j7,G]
   ·have ac:(!decide (K.head = -1) && decide (K.at_+(sizes (A.map Prod.fst)+16)≤F.z))=false:=by
     by_cases c1:K.head = -1
     ·simp [c1]
     ·have:¬ K.at_+(sizes (A.map Prod.fst)+16)≤F.z:=fun c2=>j ⟨c1,c2⟩
      simp [this]
    rw [ac] at B;rcases q598y h hb with ⟨b7,C⟩ | ⟨P1,F1,O,n1,k1,k2,k3,ko,bb,bm⟩
    ·have C:=fun w=>cf sub (C w)
     have bx:b≤rc:=by have:=hb.1; omega
     refine .inr ⟨b7,fun k=>?_⟩;generalize ((sizes (A.map Prod.fst)+16:Nat):Int)=sn at *;simp (disch:=omega) [b599,J,B,C,D,U,bx,G]
    ·have C:=fun w=>cf sub (bm w)
     have W:=k1.keep _ _ D (by omega) (by omega) (by omega) (by omega) (by omega);have ax:=k1.keep _ _ U (by omega) (by omega) (by omega) (by omega) (by omega);have c4:=al.mono (k1.above hN);have c5:∀ p ∈ A,p.new N P1:=fun p hp=>(hA p hp).mono k1.len fun k X hk ho=>k1.above hN k _ hk ho
     obtain ⟨-,i2,y2,x2,o1,o2,o3,-,o5⟩:=id ko;have ci:LiveOK O.ix i (A.map Prod.fst):=by rw [o5]; exact hl
     have cp:i2≠i:=fun e=>by rw [e,hy] at o2;cases o2;have:=h.v.lk i hi;rw [hy] at this;rw [← ce this] at hu;unfold opn at o3;rw [hu] at o3;simp at o3
     have a0:O.head=(i2:Int):=by rw [o5]
     have ay:O.at_=12:=by rw [o5]
     have cv:O.secs[i]? = some y:=by rw [o5];show (K.secs.set i2 _)[i]? = _;rw [aq cp]; exact hy
     obtain ⟨P',F',K1,w',j1,jk,j2,j3,j4,j5,j6,j7⟩:=e599x k2 hb (by have:=k1.len; omega) Q W ax a6 hN c4 V c5 ci (by rw [k3.n]; exact hi) (by omega) (fun _=>a0) (fun _=>by rw [ay,k3.z]; omega) cv (n1 w);rw [k3.l] at j2;refine .inl ⟨P',F',K1,w',k1.trans j1,.inr ⟨d,O,i2,.inr ⟨by rw [← aa]; exact j,ko⟩,a0,jk.2 d⟩,j2,k3.trans j3,⟨by omega,by have:=(bb w).2; omega⟩,j6,fun k=>?_⟩;generalize ((sizes (A.map Prod.fst)+16:Nat):Int)=sn at *;simp (disch:=omega) [b599,J,B,C,D,W,G,j7]
end
end
end Go.Abs.AbsBlo

namespace Go.Abs.AbsBlo
open Go.Abs.AbsBlb hiding T
open Go.Abs.Short
def CleanX (kl:List Bs) (H:List AObj) (I:SI) (F:Fl) (K:StU) (b w:Nat) (v:AVal) (h':Heap):Prop :=
 ∃ H' w',h'=⟨H',b,w'⟩∧((v = .int .i64 10∧StuckC F.lim K)∨(v = .int .i64 0∧StF I H H'∧w'≤I.hi∧min w b≤w'∧∃ F' K',SO kl H' I F' K'∧FlE F F'∧CleanR F.z F.lim K K'))
section
variable {E:Env} {kl:List Bs} {H:List AObj} {b:Nat} {I:SI} {F:Fl} {K:StU}
section
attribute [-simp] getElem?_pos getElem?_neg List.all_eq_true
attribute [local simp] qZ qS nltT nltF iltT iltF ileT nleT di
theorem cleanx (q:AgreesX E T) (hm:E.P.follows .mixedOrders=true) (hF:IsCode E 617 code617) (aa:IsCode E 599 code599) (h:SO kl H I F K) (ac:∀ k ∈ kl,1≤k.length∧k.length≤64) (ad:kl.length≤12) (hb:I.lo b) (cx:b≤H.length) (w:Nat) :
  CallD E 599 [.ptr (some (I.s,0))] ⟨H,b,w⟩ (CleanX kl H I F K b w):=by
 have cy:=h.a.fl.nb.1;have c5:=h.a.hi;have ci:=ah h.a.fl.f;have hI:I.s≤I.hi∧I.sa≤I.hi∧I.m≤I.hi∧I.fi.fb≤I.hi∧I.fi.fw≤I.hi:=by unfold SI.hi; omega
 refine CallD.of_code aa rfl ?_;rw [body599];have al:enter 0 [AVal.ptr (some (I.s,0))]=[(0,.val (.ptr (some (I.s,0))))]:=rfl;have an:(⟨H,b,w⟩:Heap).size=H.length:=rfl;rw [al];simp only [an];refine CodeD.seq nofun (CodeD.run (e:=.normal) (st':=⟨[(1,.val (.ptr (some (H.length,0)))),(2,.val (.ptr (some (H.length+1,0))))],⟨H++[.cells 1 [.ptr (some (I.s,0))],.cells 1 [.int .i64 0]],b,H.length⟩⟩) q hm (fun k'=>by simp (disch:=omega) []) ?_);have G:=qm h [.cells 1 [.ptr (some (I.s,0))],.cells 1 [.int .i64 0]];have ao:(H++[AObj.cells 1 [.ptr (some (I.s,0))],.cells 1 [.int .i64 0]]).length=H.length+2:=by simp
 have B:=gc H [AObj.cells 1 [.ptr (some (I.s,0))],.cells 1 [.int .i64 0]];have Q:=jv H [AObj.cells 1 [.ptr (some (I.s,0))],.cells 1 [.int .i64 0]] 1;have U:StF I H (H++[AObj.cells 1 [.ptr (some (I.s,0))],.cells 1 [.int .i64 0]]):=StF.refl.app _;generalize d1:H++[AObj.cells 1 [.ptr (some (I.s,0))],.cells 1 [.int .i64 0]]=M at *;have hR:Row M 3 Sec.cells K.secs (some (I.sa,0)):=Row.mk0 (fun _=>rfl) G.a.r;have ax:=h.v.ln;have h5:=fun c w=>cf sub (s5 (os:=M) (b:=b) (w:=w) (c:=c) hR (by omega))
 have ay:=qi (fun x=>decide (x.st=2)) Sec.seq K.secs K.secs.length;have gs:=G.a.s;unfold StU.cells at gs;generalize V:least (fun x=>decide (x.st=2)) Sec.seq K.secs K.secs.length=p at *;obtain ⟨i,ok⟩:=p;refine CodeD.seq nofun (CodeD.run (e:=.normal) (st':=⟨[(1,.val (.ptr (some (H.length,0)))),(2,.val (.ptr (some (H.length+1,0)))),(3,.val (.int .i64 i)),(4,.val (.bool ok))],⟨M,b,H.length⟩⟩) q hm (fun k'=>by simp (disch:=omega) [B,gs,h5]) ?_);have b5:b≤H.length+1:=by omega
 cases ok with
 | false =>
  have hu:CodeD E (.seq (R [1,2,3,18] [v 17 4,o 18 (.un .not (t 17))])
 (.after (.cond (t 18) (.seq (R [2] [u (.store 1 (t 2) (n 10))])
 (.live [2] (.ret))) (.skip)) [1,2,3])) ⟨[(1,.val (.ptr (some (H.length,0)))),(2,.val (.ptr (some (H.length+1,0)))),(3,.val (.int .i64 i)),(4,.val (.bool false))],⟨M,b,H.length⟩⟩ (fun e st=>e = .ret∧st=⟨[(2,.val (.ptr (some (H.length+1,0))))],⟨M.set (H.length+1) (.cells 1 [.int .i64 10]),b,H.length⟩⟩) :=
   CodeD.run (e:=.ret) (st':=⟨[(2,.val (.ptr (some (H.length+1,0))))],⟨M.set (H.length+1) (.cells 1 [.int .i64 10]),b,H.length⟩⟩) q hm (fun k'=>by simp (disch:=omega) [Q,b5]) ⟨rfl,rfl⟩
  refine CodeD.seq nofun (hu.mono fun e st hq _=>?_);obtain ⟨rfl,rfl⟩:=hq;refine ⟨_,_,fe599 (bj (by omega)),?_⟩;rw [if_neg (by omega)];exact ⟨H,w,rfl,.inl ⟨rfl,.inl (by unfold oldS; rw [V])⟩⟩
 | true =>
  obtain ⟨y,W,J⟩:=ay rfl;simp only at W J;have hi:i < F.n:=by rw [← ax]; exact ah W
  have b6:(F.look i).st=2:=by have:=h.v.lk i hi;rw [W] at this;rw [← ce this];simpa using J
  refine CodeD.seq nofun (CodeD.run (e:=.normal) (st':=⟨[(1,.val (.ptr (some (H.length,0)))),(2,.val (.ptr (some (H.length+1,0)))),(3,.val (.int .i64 i))],⟨M,b,H.length⟩⟩) q hm (fun k'=>by simp (disch:=omega) []) ?_);obtain ⟨j,K1,w1,O,mt,m2,m3,m4,m5,m6,m7,m8⟩:∃ j K1 w1,SO kl j I F K1∧K1=noneK K i∧K1.head≠i∧StF I M j∧j.length=M.length∧w1≤H.length∧((j=M∧w1=H.length)∨w1≤I.hi)∧(w1=I.s∨w1=H.length)∧∀ (k':AExit→St→Option Unit),xK T (.seq (R [1,2,3,24] [v 19 3,o 20 (.load none (t 1)),o 21 (.nilcheck (t 20)),o 22 (.faddr (t 21) 6),o 23 (.load none (t 22)),o 24 (.bin .eql (t 19) (t 23))])
 (.after (.cond (t 24) (R [1,2,3] [o 25 (.load none (t 1)),o 26 (.nilcheck (t 25)),o 27 (.faddr (t 26) 6),u (.store 1 (t 27) (.const (.int .i64 (-1))))]) (.skip)) [1,2,3])) ⟨[(1,.val (.ptr (some (H.length,0)))),(2,.val (.ptr (some (H.length+1,0)))),(3,.val (.int .i64 i))],⟨M,b,H.length⟩⟩ (k:=⟨k'⟩)=k' .normal ⟨[(1,.val (.ptr (some (H.length,0)))),(2,.val (.ptr (some (H.length+1,0)))),(3,.val (.int .i64 i))],⟨j,b,w1⟩⟩:=by
   by_cases c:K.head=i
   ·have ho:=G.a.own (K':={ K with head:=-1 }) rfl ⟨rfl,rfl⟩ (.inl rfl) G.a.ab G.a.sb G.a.tb;refine ⟨_,{ K with head:=-1 },I.s,⟨ho,none_inv h.v⟩,by unfold noneK; rw [if_pos c],by show (-1:Int)≠i; omega,.own,az,by omega,.inr (by omega),.inl rfl,fun k'=>?_⟩;have b7:=hb.1;have L:(i:Int)=K.head:=c.symm;simp only [StU.cells];have cp:min H.length I.s=I.s:=by omega
    simp (disch:=omega) [B,gs,L,b7]
   ·have L:¬ (i:Int)=K.head:=fun e=>c e.symm
    exact ⟨M,K,H.length,G,by unfold noneK; rw [if_neg c],c,.refl,rfl,by omega,.inl ⟨rfl,rfl⟩,.inr rfl,fun k'=>by simp (disch:=omega) [B,gs,L]⟩
  refine CodeD.seq nofun (CodeD.run (e:=.normal) (st':=⟨[(1,.val (.ptr (some (H.length,0)))),(2,.val (.ptr (some (H.length+1,0)))),(3,.val (.int .i64 i))],⟨j,b,w1⟩⟩) q hm m8 ?_);have C:=m3.keep _ _ B (by omega) (by omega) (by omega) (by omega) (by omega);have X:=m3.keep _ _ Q (by omega) (by omega) (by omega) (by omega) (by omega);have bb:=O.a.s;unfold StU.cells at bb;refine CodeD.seq nofun (CodeD.after (CodeD.regionX q hm ?_));refine OpsD.run (l:=[o 28 (.load none (t 1)),v 29 3]) (r:=[o 30 (.callg 617 [t 28,t 29]),v 5 30]) (s1:=[(29,.val (.int .i64 i)),(28,.val (.ptr (some (I.s,0)))),(1,.val (.ptr (some (H.length,0)))),(2,.val (.ptr (some (H.length+1,0)))),(3,.val (.int .i64 i))]) (h1:=⟨j,b,w1⟩) (fun k'=>by simp (disch:=omega) [C]) ?_;refine OpsD.call (g:=617) (xs:=[t 28,t 29]) rfl rfl rfl (c617 q hm hF O ad hi (by omega) w1) fun vv hh bm=>?_
  obtain ⟨P,A,rfl,p1,p2,p3,p4⟩:=bm;refine OpsD.run (l:=[v 5 30]) (r:=[]) (s1:=[(5,.val vv),(30,.val vv),(29,.val (.int .i64 i)),(28,.val (.ptr (some (I.s,0)))),(1,.val (.ptr (some (H.length,0)))),(2,.val (.ptr (some (H.length+1,0)))),(3,.val (.int .i64 i))]) (h1:=⟨P,b,w1⟩) (fun k'=>by simp (disch:=omega) []) (OpsD.done ?_);simp only [];have bx:keepK [1,2,3,5] [(5,Slot.val vv),(30,.val vv),(29,.val (.int .i64 i)),(28,.val (.ptr (some (I.s,0)))),(1,.val (.ptr (some (H.length,0)))),(2,.val (.ptr (some (H.length+1,0)))),(3,.val (.int .i64 i))]=[(1,.val (.ptr (some (H.length,0)))),(2,.val (.ptr (some (H.length+1,0)))),(3,.val (.int .i64 i)),(5,.val vv)]:=by simp
  rw [bx];have d2:=hb.1;have cv:j.length=H.length+2:=m4.trans ao;have hP:SO kl P I F K1:=⟨O.a.low (N:=j.length) ⟨by omega,by omega⟩ fun k o hk ho=>p1 k o ho,O.v⟩;have d3:=p1.len;have a0:StF I M P:=⟨by omega,fun k o ho g1 g2 g3 g4 g5=>p1 k o (m3.keep k o ho g1 g2 g3 g4 g5)⟩
  have d4:A.length≤12:=by
   obtain ⟨ks,e1,e2,e3⟩:=p4
   have h1:=oa (l':=K1.ix.map (·.1)) e2 fun k hk=>by obtain ⟨e,g1,-,g4⟩:=(e3 k).1 hk;exact bt.2 ⟨e,g1,g4⟩
   have h2:=congrArg List.length e1;rw [a7,a7] at h2;rw [a7] at h1;have h3:=so_few O;omega
  have d:K1.ix=K.ix∧K1.secs=K.secs∧K1.seq=K.seq:=by rw [mt]; unfold noneK; split <;> exact ⟨rfl,rfl,rfl⟩
  have hold:oldS K=(i,true):=V;have c4:y.st=2:=by simpa using J
  rcases b599x hP hb (by omega) ac (p1 _ _ C) (p1 _ _ X) ⟨by omega,by omega⟩ (N:=j.length) (by omega) p2 (by omega) p3 p4 hi m2 b6 (y:=y) (by rw [d.2.1]; exact W) w1 with ⟨P',F',K2,w',j1,jk,j2,j3,j4,j5,j6⟩ | ⟨js,j6⟩
  ·refine CodeD.run (e:=.ret) (st':=⟨[(2,.val (.ptr (some (H.length+1,0))))],⟨P',b,w'⟩⟩) q hm (fun k'=>j6 k') ?_;refine ⟨_,_,fe599 j5,?_⟩;rw [if_pos (by omega)];have a6:=xm O.v.ix p4;rw [d.1] at p4 a6 jk;rw [mt] at jk;exact ⟨P',min w w',rfl,.inr ⟨rfl,U.trans (a0.trans j1),by omega,by omega,F',_,j2,j3,i,y,A,K2,hold,W,c4,p4,a6,jk,rfl⟩⟩
  ·refine CodeD.run (e:=.ret) (st':=⟨[(2,.val (.ptr (some (H.length+1,0))))],⟨P.set (H.length+1) (.cells 1 [.int .i64 10]),b,min w1 (H.length+1)⟩⟩) q hm (fun k'=>j6 k') ?_;refine ⟨_,_,fe599 (bj (by omega)),?_⟩
   have D:StuckC F.lim K:=by unfold nextL at js;rw [d.2.1,d.2.2] at js;exact .inr js
   split
   ·exact ⟨_,_,rfl,.inl ⟨rfl,D⟩⟩
   ·exact ⟨_,_,rfl,.inl ⟨rfl,D⟩⟩
end
end
end Go.Abs.AbsBlo

namespace Go.Abs.AbsBlo
open Go.Abs.AbsBlb hiding T
open Go.Abs.Short
def StepR (z lim:Nat) (K K':StU):Prop:=(2≤cnt (opn lim) K.secs K.secs.length∧OpenR lim K K')∨(¬ 2≤cnt (opn lim) K.secs K.secs.length∧CleanR z lim K K')
def Stuck (lim:Nat) (K:StU):Prop:=(2≤cnt (opn lim) K.secs K.secs.length∧((nextL lim K).2=false∨K.seq=4294967295))∨(¬ 2≤cnt (opn lim) K.secs K.secs.length∧StuckC lim K)
def Steps (kl:List Bs) (F:Fl) (n:Nat) (K:StU):Nat→StU→Prop
 | 0,K1=>K1=K
 | i+1,K2=>∃ K1 F2,Steps kl F n K i K1∧¬ FitZ F.z K1 n∧StepR F.z F.lim K1 K2∧AbsBlb.Inv kl F2 K2∧FlE F F2
def RoomGo (kl:List Bs) (F:Fl) (n:Nat) (K:StU):Prop:=∀ i K1,Steps kl F n K i K1→¬ FitZ F.z K1 n→i < 4*K.secs.length∧¬ Stuck F.lim K1
def StepX (kl:List Bs) (H:List AObj) (I:SI) (F:Fl) (K:StU) (b w g:Nat) (v:AVal) (h':Heap):Prop :=
 ∃ H' w',h'=⟨H',b,w'⟩∧((v = .int .i64 10∧((g=598∧((nextL F.lim K).2=false∨K.seq=4294967295))∨(g=599∧StuckC F.lim K)))∨(v = .int .i64 0∧StF I H H'∧w'≤I.hi∧min w b≤w'∧∃ F' K',SO kl H' I F' K'∧FlE F F'∧((g=598∧OpenR F.lim K K')∨(g=599∧CleanR F.z F.lim K K'))))
def RoomT (kl:List Bs) (H:List AObj) (I:SI) (F:Fl) (K:StU) (b n i:Nat) (P:List AObj) (F1:Fl) (K1:StU) (w1:Nat):Prop :=
 StF I H P∧SO kl P I F1 K1∧FlE F F1∧b≤w1∧(w1≤I.hi∨(P=H∧w1=H.length))∧Steps kl F n K i K1
def RoomJX (kl:List Bs) (H:List AObj) (I:SI) (F:Fl) (K:StU) (b n m k:Nat) (st:St):Prop :=
 ∃ i P F1 K1 w1,i≤m∧k=m - i∧RoomT kl H I F K b n i P F1 K1 w1∧st=⟨[(0,.val (.ptr (some (I.s,0)))),(1,.val (.int .i64 n)),(12,.val (.int .i64 m)),(13,.val (.int .i64 i))],⟨P,b,w1⟩⟩
def RoomLX (kl:List Bs) (H:List AObj) (I:SI) (F:Fl) (K:StU) (b n:Nat) (e:AExit) (st:St):Prop :=
 ∃ i P F1 K1 w1,RoomT kl H I F K b n i P F1 K1 w1∧FitZ F.z K1 n∧((e = .exit 0∧st=⟨[(0,.val (.ptr (some (I.s,0)))),(1,.val (.int .i64 n))],⟨P,b,w1⟩⟩)∨(e = .ret∧st=⟨[(4,.val (.int .i64 0))],⟨P,b,w1⟩⟩))
section
variable {E:Env} {kl:List Bs} {H:List AObj} {b:Nat} {I:SI} {F:Fl} {K:StU}
theorem stepx (j:AgreesX E T) (hm:E.P.follows .mixedOrders=true) (J:IsCode E 617 code617) (p:IsCode E 599 code599) (h:SO kl H I F K) (q:∀ k ∈ kl,1≤k.length∧k.length≤64) (y:kl.length≤12) (hb:I.lo b) (A:b≤H.length) (w:Nat) {g:Nat} (L:g=598∨g=599) :
  CallD E g [.ptr (some (I.s,0))] ⟨H,b,w⟩ (StepX kl H I F K b w g):=by
 rcases L with rfl | rfl
 ·rcases q598y h hb with ⟨c,e⟩ | ⟨H',F',K',nx,N,O,Q,U,d,B⟩
  ·exact CallD.of_xX j hm (cf sub (e w)) ⟨_,_,rfl,.inl ⟨rfl,.inl ⟨rfl,c⟩⟩⟩
  ·exact CallD.of_xX j hm (cf sub (B w)) ⟨_,_,rfl,.inr ⟨rfl,N,(d w).1,(d w).2,F',K',O,Q,.inl ⟨rfl,U⟩⟩⟩
 ·refine (cleanx j hm J p h q y hb A w).mono fun v h' C=>?_
  obtain ⟨H',w',e,C⟩:=C;refine ⟨H',w',e,?_⟩;rcases C with ⟨D,G⟩ | ⟨D,G,V,W,F',K',X,e6,e7⟩
  ·exact .inl ⟨D,.inr ⟨rfl,G⟩⟩
  ·exact .inr ⟨D,G,V,W,F',K',X,e6,.inr ⟨rfl,e7⟩⟩
section
attribute [-simp] getElem?_pos getElem?_neg List.all_eq_true
attribute [local simp] qZ qS nltT nltF iltT iltF ileT nleT di
theorem room_loopx (d:AgreesX E T) (hm:E.P.follows .mixedOrders=true) (hF:IsCode E 617 code617) (Q:IsCode E 599 code599) (U:∀ k ∈ kl,1≤k.length∧k.length≤64) (V:kl.length≤12) (hb:I.lo b) (al:b≤H.length) (an:I.hi < H.length) {n m:Nat} (hn:n≤1000000000) (ao:m≤1000) (ax:m=4*K.secs.length) (C:RoomGo kl F n K) {st:St} {k:Nat} (h0:RoomJX kl H I F K b n m k st) :
  CodeD E (.loop code580L0) st (RoomLX kl H I F K b n):=by
 refine CodeD.loop (RoomJX kl H I F K b n m) (fun k st hJ=>?_) k st h0;obtain ⟨i,P,F1,K1,w1,hi,rfl,⟨s1,L,p,s4,s5,D⟩,rfl⟩:=hJ;rw [body580L];refine CodeD.live ?_;have W:keepK [0,1,12,13] [(0,Slot.val (AVal.ptr (some (I.s,0)))),(1,.val (.int .i64 n)),(12,.val (.int .i64 m)),(13,.val (.int .i64 i))]=[(0,.val (.ptr (some (I.s,0)))),(1,.val (.int .i64 n)),(12,.val (.int .i64 m)),(13,.val (.int .i64 i))]:=by simp
 simp only [W];have ay:=s1.len;have G:Fits F1 K1 n ↔ FitZ F.z K1 n:=by unfold Fits FitZ; rw [p.z]
 by_cases c:i < m
 ·have X:(i:Int) < m:=by omega
  refine CodeD.seq nofun (CodeD.run (e:=.normal) (st':=⟨[(0,.val (.ptr (some (I.s,0)))),(1,.val (.int .i64 n)),(12,.val (.int .i64 m)),(13,.val (.int .i64 i)),(14,.val (.bool true))],⟨P,b,w1⟩⟩) d hm (fun k'=>by simp (disch:=omega) [X]) ?_);refine CodeD.seq nofun (CodeD.run (e:=.normal) (st':=⟨[(0,.val (.ptr (some (I.s,0)))),(1,.val (.int .i64 n)),(12,.val (.int .i64 m)),(13,.val (.int .i64 i))],⟨P,b,w1⟩⟩) d hm (fun k'=>by simp (disch:=omega) []) ?_);refine CodeD.seq nofun (CodeD.after (CodeD.block ?_));refine CodeD.seq nofun (CodeD.run (e:=.normal) (st':=⟨[(0,.val (.ptr (some (I.s,0)))),(1,.val (.int .i64 n)),(5,.val (.func 599 [.ptr (some (I.s,0))] [])),(12,.val (.int .i64 m)),(13,.val (.int .i64 i))],⟨P,b,w1⟩⟩) d hm (fun k'=>by simp (disch:=omega) []) ?_);obtain ⟨g,hg,j,a0,a6⟩:=x580_run (b:=b) (m:=m) (i:=i) L hn w1 (x5:=.ptr none);by_cases B:Fits F1 K1 n
  ·refine CodeD.seq nofun (CodeD.run (e:=.ret) (st':=⟨[(4,.val (.int .i64 0))],⟨P,b,w1⟩⟩) d hm (fun k'=>a0 B k') ?_);exact ⟨i,P,F1,K1,w1,⟨s1,L,p,s4,s5,D⟩,G.1 B,.inr ⟨rfl,rfl⟩⟩
  ·have q:¬ FitZ F.z K1 n:=fun e=>B (G.2 e)
   obtain ⟨-,aa⟩:=C i K1 D q;rw [p.l] at j;refine CodeD.seq nofun (CodeD.run (e:=.normal) (st':=⟨[(0,.val (.ptr (some (I.s,0)))),(1,.val (.int .i64 n)),(5,.val (.func g [.ptr (some (I.s,0))] [])),(12,.val (.int .i64 m)),(13,.val (.int .i64 i))],⟨P,b,w1⟩⟩) d hm (fun k'=>a6 B k') ?_);unfold y580;refine CodeD.seq nofun (CodeD.after (CodeD.regionX d hm ?_));refine OpsD.run (l:=[v 35 5]) (r:=[o 36 (.call (t 35) []),v 6 36]) (s1:=[(35,.val (.func g [.ptr (some (I.s,0))] [])),(0,.val (.ptr (some (I.s,0)))),(1,.val (.int .i64 n)),(5,.val (.func g [.ptr (some (I.s,0))] [])),(12,.val (.int .i64 m)),(13,.val (.int .i64 i))]) (h1:=⟨P,b,w1⟩) (fun k'=>by simp (disch:=omega) []) ?_;refine OpsD.callv (g:=g) (x:=t 35) (xs:=[]) (first:=[.ptr (some (I.s,0))]) (caps:=[]) (vs:=[]) rfl rfl rfl rfl (stepx d hm hF Q L U V hb (by omega) w1 hg) fun vv hh A=>?_
   obtain ⟨N,O,rfl,A⟩:=A;rcases A with ⟨-,hq⟩ | ⟨rfl,t1,t2,t3,F2,K2,t4,t5,t6⟩
   ·refine absurd ?_ aa;rcases hq with ⟨J,y⟩ | ⟨J,y⟩
    ·refine .inl ⟨?_,by rw [p.l] at y; exact y⟩;by_cases c2:2≤cnt (opn F.lim) K1.secs K1.secs.length
     ·exact c2
     ·have:=j.2 c2; omega
    ·refine .inr ⟨fun c2=>?_,by rw [p.l] at y; exact y⟩;have:=j.1 c2; omega
   ·refine OpsD.run (l:=[v 6 36]) (r:=[]) (s1:=[(6,.val (.int .i64 0)),(36,.val (.int .i64 0)),(35,.val (.func g [.ptr (some (I.s,0))] [])),(0,.val (.ptr (some (I.s,0)))),(1,.val (.int .i64 n)),(5,.val (.func g [.ptr (some (I.s,0))] [])),(12,.val (.int .i64 m)),(13,.val (.int .i64 i))]) (h1:=⟨N,b,O⟩) (fun k'=>by simp (disch:=omega) []) (OpsD.done ?_);simp only [];have ac:keepK [0,1,6,12,13] [(6,Slot.val (.int .i64 0)),(36,.val (.int .i64 0)),(35,.val (.func g [.ptr (some (I.s,0))] [])),(0,.val (.ptr (some (I.s,0)))),(1,.val (.int .i64 n)),(5,.val (.func g [.ptr (some (I.s,0))] [])),(12,.val (.int .i64 m)),(13,.val (.int .i64 i))]=[(0,.val (.ptr (some (I.s,0)))),(1,.val (.int .i64 n)),(6,.val (.int .i64 0)),(12,.val (.int .i64 m)),(13,.val (.int .i64 i))]:=by simp
    rw [ac];refine CodeD.run d hm (e:=.normal) (st':=⟨[(0,.val (.ptr (some (I.s,0)))),(1,.val (.int .i64 n)),(12,.val (.int .i64 m)),(13,.val (.int .i64 i))],⟨N,b,O⟩⟩) (fun k'=>by simp (disch:=omega) [w580]) ?_;simp only [blkE];have ad:keepK [0,1,12,13] [(0,Slot.val (.ptr (some (I.s,0)))),(1,.val (.int .i64 n)),(12,.val (.int .i64 m)),(13,.val (.int .i64 i))]=[(0,.val (.ptr (some (I.s,0)))),(1,.val (.int .i64 n)),(12,.val (.int .i64 m)),(13,.val (.int .i64 i))]:=by simp
    rw [ad]
    refine CodeD.run d hm (e:=.normal) (st':=⟨[(0,.val (.ptr (some (I.s,0)))),(1,.val (.int .i64 n)),(12,.val (.int .i64 m)),(13,.val (.int .i64 (i+1:Nat)))],⟨N,b,O⟩⟩) (fun k'=>by
     have J:((i+1:Nat):Int)=(i:Int)+1:=by omega
     rw [J];simp (disch:=omega) []) ?_
    rw [p.l,p.z] at t6;refine ⟨m - (i+1),by omega,i+1,N,F2,K2,O,by omega,rfl,⟨s1.trans t1,t4,p.trans t5,by omega,.inl t2,K1,F2,D,q,?_,t4.v,p.trans t5⟩,rfl⟩;rcases t6 with ⟨J,y⟩ | ⟨J,y⟩
    ·refine .inl ⟨?_,y⟩;by_cases c2:2≤cnt (opn F.lim) K1.secs K1.secs.length
     ·exact c2
     ·have:=j.2 c2; omega
    ·refine .inr ⟨fun c2=>?_,y⟩;have:=j.1 c2; omega
 ·obtain rfl:i=m:=by omega
  have X:¬ (i:Int) < i:=by omega
  refine CodeD.seq nofun (CodeD.run (e:=.normal) (st':=⟨[(0,.val (.ptr (some (I.s,0)))),(1,.val (.int .i64 n)),(12,.val (.int .i64 i)),(13,.val (.int .i64 i)),(14,.val (.bool false))],⟨P,b,w1⟩⟩) d hm (fun k'=>by simp (disch:=omega) [X]) ?_);refine CodeD.seq nofun (CodeD.run (e:=.exit 0) (st':=⟨[(0,.val (.ptr (some (I.s,0)))),(1,.val (.int .i64 n))],⟨P,b,w1⟩⟩) d hm (fun k'=>by simp (disch:=omega) []) ?_)
  have B:FitZ F.z K1 n:=Classical.byContradiction fun q=>by have:=(C i K1 D q).1;omega
  exact ⟨i,P,F1,K1,w1,⟨s1,L,p,s4,s5,D⟩,B,.inl ⟨rfl,rfl⟩⟩
end
def RoomX (kl:List Bs) (H:List AObj) (I:SI) (F:Fl) (K:StU) (b n w:Nat) (v:AVal) (h':Heap):Prop :=
 v = .int .i64 0∧∃ H' F' K' w' i,h'=⟨H',b,w'⟩∧StF I H H'∧SO kl H' I F' K'∧FlE F F'∧min w b≤w'∧(w'≤I.hi∨(H'=H∧w'=w))∧Steps kl F n K i K'∧FitZ F.z K' n
theorem room_endx {n w i:Nat} {P:List AObj} {F1:Fl} {K1:StU} {w1:Nat} (q:I.hi < H.length) (h:RoomT kl H I F K b n i P F1 K1 w1) (d:FitZ F.z K1 n) :
  ∃ v h',funcEnd code580 ⟨H,b,w⟩ (.ret,⟨[(4,.val (.int .i64 0))],⟨P,b,w1⟩⟩)=some (v,h')∧RoomX kl H I F K b n w v h':=by
 obtain ⟨s1,e,j,y,s5,p⟩:=h;refine ⟨_,_,fe580,rfl,?_⟩;rcases s5 with s5 | ⟨rfl,rfl⟩
 ·rw [if_pos (by omega)];exact ⟨P,F1,K1,min w w1,i,rfl,s1,e,j,by omega,.inl (by omega),p,d⟩
 ·rw [if_neg (by omega)];exact ⟨P,F1,K1,w,i,rfl,s1,e,j,cr _ _,.inr ⟨rfl,rfl⟩,p,d⟩
section
attribute [-simp] getElem?_pos getElem?_neg List.all_eq_true
attribute [local simp] qZ qS nltT nltF iltT iltF ileT nleT di
theorem roomx (q:AgreesX E T) (hm:E.P.follows .mixedOrders=true) (V:IsCode E 617 code617) (B:IsCode E 599 code599) (C:IsCode E 580 code580) (h:SO kl H I F K) (D:∀ k ∈ kl,1≤k.length∧k.length≤64) (G:kl.length≤12) (hb:I.lo b) (p:b≤H.length) {n:Nat} (Q:n≤1000000000) (J:RoomGo kl F n K) (w:Nat) :
  CallD E 580 [.ptr (some (I.s,0)),.int .i64 n] ⟨H,b,w⟩ (RoomX kl H I F K b n w):=by
 have d:=h.a.hi;have W:=h.a.fl.nb.1;have X:=h.v.ln;have U:=h.a.s;unfold StU.cells at U;refine CallD.of_code C rfl ?_;rw [body580];have L:enter 0 [AVal.ptr (some (I.s,0)),.int .i64 n]=[(0,.val (.ptr (some (I.s,0)))),(1,.val (.int .i64 n))]:=rfl;have N:(⟨H,b,w⟩:Heap).size=H.length:=rfl;rw [L];simp only [N];refine CodeD.seq nofun (CodeD.run (e:=.normal) (st':=⟨[(0,.val (.ptr (some (I.s,0)))),(1,.val (.int .i64 n))],⟨H,b,H.length⟩⟩) q hm (fun k'=>by simp (disch:=omega) []) ?_);have e4:((4*K.secs.length:Nat):Int)=4*(K.secs.length:Int):=by omega
 refine CodeD.seq nofun ?_
 refine CodeD.seq nofun (CodeD.run (e:=.normal) (st':=⟨[(0,.val (.ptr (some (I.s,0)))),(1,.val (.int .i64 n)),(12,.val (.int .i64 (4*K.secs.length:Nat))),(13,.val (.int .i64 (0:Nat)))],⟨H,b,H.length⟩⟩) q hm (fun k'=>by rw [e4];simp (disch:=omega) [U]) ?_)
 refine CodeD.after (CodeD.block ((room_loopx q hm V B D G hb p d Q (m:=4*K.secs.length) (k:=4*K.secs.length) (by omega) rfl J ⟨0,H,F,K,H.length,by omega,by omega,⟨.refl,h,.refl _,p,.inr ⟨rfl,rfl⟩,rfl⟩,rfl⟩).mono fun e st hq _=>?_));obtain ⟨i,P,F1,K1,w1,y,A,⟨rfl,rfl⟩ | ⟨rfl,rfl⟩⟩:=hq
 ·simp only [xy,if_true];have hk:keepK [0,1] [(0,Slot.val (AVal.ptr (some (I.s,0)))),(1,.val (.int .i64 n))]=[(0,.val (.ptr (some (I.s,0)))),(1,.val (.int .i64 n))]:=by simp
  rw [hk];have j:=fun w=>cf sub (s597 (b:=b) (w:=w) y.2.1.a Q)
  have O:(!decide (K1.head = -1) && decide (K1.at_+n≤F1.z))=true:=by rw [y.2.2.1.z]; simp [A.1,A.2]
  rw [O] at j;exact CodeD.run (e:=.ret) (st':=⟨[(4,.val (.int .i64 0))],⟨P,b,w1⟩⟩) q hm (fun k'=>by simp (disch:=omega) [z580,j]) (room_endx d y A)
 ·simp only [blkE];exact room_endx d y A
end
end
end Go.Abs.AbsBlo

namespace Go.Abs.AbsBlo
open Go.Abs.AbsBlb hiding T
open Go.Abs.Short
def CommitX (kl:List Bs) (H:List AObj) (I:SI) (F:Fl) (K:StU) (L:List ChU) (b w n:Nat) (v:AVal) (h':Heap):Prop :=
 v = .int .i64 0∧∃ H' F' K' w' K1 i,∃ (hd:Nat) (A:List RV),h'=⟨H',b,w'⟩∧StF I H H'∧SO kl H' I F' K'∧FlE F F'∧min w b≤w'∧w'≤I.hi∧Steps kl F n K i K1∧FitZ F.z K1 n∧K1.head=hd∧A.map Prod.fst=L.map ChU.toR∧K'=wroteK K1 hd A
section
variable {E:Env} {kl:List Bs} {H:List AObj} {b:Nat} {I:SI} {F:Fl} {K:StU}
section
attribute [-simp] getElem?_pos getElem?_neg List.all_eq_true
attribute [local simp] qZ qS nltT nltF iltT iltF ileT nleT di
theorem commitx (O:AgreesX E T) (hm:E.P.follows .mixedOrders=true) (hF:IsCode E 617 code617) (ao:IsCode E 599 code599) (ax:IsCode E 580 code580) (ay:IsCode E 549 code549) (h:SO kl H I F K) (a0:∀ k ∈ kl,1≤k.length∧k.length≤64) (b5:kl.length≤12) (hb:I.lo b) (b6:b≤H.length)
  {L:List ChU} {la:Option (Nat × Nat)} {lc:Option Nat} (hR:Row H 3 ChU.cells L la) (h0:L≠[]) (b7:L.length≤16) (hL:∀ c ∈ L,c.fine H∧c.key ∈ kl) (aa:¬ (L.foldl (fun S c=>addK S c.key) []).length < L.length) {n:Nat} (hn:n=sizes (L.map ChU.toR)+16) (bb:n≤(F.z - 12) / 2) (bm:RoomGo kl F n K) (w:Nat) :
  CallD E 549 [.ptr (some (I.s,0)),.slice la L.length lc] ⟨H,b,w⟩ (CommitX kl H I F K L b w n):=by
 have j:=h.a.hi;have ac:=ah h.a.fl.f;have hI:I.s≤I.hi∧I.sa≤I.hi∧I.m≤I.hi∧I.fi.fb≤I.hi∧I.fi.fw≤I.hi:=by unfold SI.hi; omega
 have d3:=h.a.fl.nb.2;have hz:=h.v.gz;refine CallD.of_code ay rfl ?_;rw [body549];have bx:enter 0 [AVal.ptr (some (I.s,0)),.slice la L.length lc]=[(0,.val (.ptr (some (I.s,0)))),(1,.val (.slice la L.length lc))]:=rfl;have c4:(⟨H,b,w⟩:Heap).size=H.length:=rfl;rw [bx];simp only [c4];have Q:=fun w=>cf sub (s561 (b:=b) (w:=w) h.a)
 rw [h.v.dn] at Q;refine CodeD.seq nofun (CodeD.run (e:=.normal) (st':=⟨[(0,.val (.ptr (some (I.s,0)))),(1,.val (.slice la L.length lc))],⟨H,b,H.length⟩⟩) O hm (fun k'=>by simp (disch:=omega) []) ?_);refine CodeD.seq nofun (CodeD.run (e:=.normal) (st':=⟨[(0,.val (.ptr (some (I.s,0)))),(1,.val (.slice la L.length lc))],⟨H,b,H.length⟩⟩) O hm (fun k'=>by simp (disch:=omega) [Q]) ?_);rcases p581 (b:=b) (lc:=lc) hR h0 b7 (fun c hc=>(hL c hc).1) b6 with ⟨hd,-⟩ | ⟨-,H1,A,x,hp,hx,hA,U,B⟩
 ·exact absurd hd aa
 ·have B:=fun w=>cf sub (B w)
  refine CodeD.seq nofun (CodeD.run (e:=.normal) (st':=⟨[(0,.val (.ptr (some (I.s,0)))),(5,.val x),(6,.val (.int .i64 0))],⟨H1,b,H.length⟩⟩) O hm (fun k'=>by simp (disch:=omega) [B]) ?_)
  have C:A≠[]:=fun e=>by rw [e] at hA;have:=congrArg List.length hA;rw [a7,a7] at this;exact h0 (bn this.symm)
  have d4:A.length=L.length:=by have:=congrArg List.length hA;rwa [a7,a7] at this
  rcases hx with ⟨e,-⟩ | ⟨-,q,hq,rfl,V⟩
  ·exact absurd e C
  ·have h1:SO kl H1 I F K:=⟨h.a.low (N:=H.length) ⟨j,ac⟩ fun k o _ ho=>hp k o ho,h.v⟩;have c5:=hp.len
   have W:∀ p ∈ A,p.1.key ∈ kl∧p.1.count=0∧(p.1.kind=1∧p.1.blob.length≤4096∨p.1.kind=2∧p.1.blob=[]):=fun p d=>by
    have:p.1 ∈ A.map Prod.fst:=bt.2 ⟨p,d,rfl⟩;rw [hA] at this;obtain ⟨c,hc,e⟩:=bt.1 this;obtain ⟨⟨-,-,-,-,g1⟩,g2⟩:=hL c hc;rw [← e];unfold ChU.toR;cases c.del
    ·exact ⟨g2,rfl,.inl ⟨rfl,g1⟩⟩
    ·exact ⟨g2,rfl,.inr ⟨rfl,rfl⟩⟩
   have ci:∀ p ∈ A,RV.ok H1 p:=fun p d=>by
    obtain ⟨g1,g2,g3⟩:=W p d;have:=(a0 _ g1).2;refine ⟨(U p d).1,by omega,?_⟩;rcases g3 with ⟨-,g3⟩ | ⟨-,g3⟩
    ·omega
    ·rw [g3]; exact fk _
   have D:=fun w=>cf sub (s579 (H:=H1) (b:=b) (w:=w) (L:=A) (a:=some (q,0)) (c:=none) (Row.mk0 (fun _=>rfl) V) (by omega) C ci)
   rw [hA,← hn] at D;have gs:=h1.a.s;unfold StU.cells at gs
   have cp:((F.z:Int) - 12).tdiv 2=(((F.z - 12) / 2:Nat):Int):=by rw [sx (by omega)]; omega
   have cv:¬ ((((F.z - 12) / 2:Nat):Int) < (n:Int)):=by omega
   have d5:(0:Int)≤(((F.z - 12) / 2:Nat):Int)∧(((F.z - 12) / 2:Nat):Int)≤65536:=by omega
   refine CodeD.seq nofun (CodeD.run (e:=.normal) (st':=⟨[(0,.val (.ptr (some (I.s,0)))),(5,.val (.slice (some (q,0)) A.length none))],⟨H1,b,H.length⟩⟩) O hm (fun k'=>by generalize (((F.z - 12) / 2:Nat):Int)=zn at *;simp (disch:=omega) [a549,D,gs,cp,cv]) ?_)
   refine CodeD.seq nofun ?_;refine CodeD.seq nofun (CodeD.after (CodeD.regionX O hm ?_))
   refine OpsD.run (l:=[v 30 0,v 31 5,o 32 (.callg 579 [t 31])]) (r:=[o 33 (.callg 580 [t 30,t 32]),v 7 33]) (s1:=[(32,.val (.int .i64 n)),(31,.val (.slice (some (q,0)) A.length none)),(30,.val (.ptr (some (I.s,0)))),(0,.val (.ptr (some (I.s,0)))),(5,.val (.slice (some (q,0)) A.length none))]) (h1:=⟨H1,b,H.length⟩) (fun k'=>by simp (disch:=omega) [D]) ?_
   refine OpsD.call (g:=580) (xs:=[t 30,t 32]) rfl rfl rfl (roomx O hm hF ao ax h1 a0 b5 hb (by omega) (n:=n) (by omega) bm H.length) fun vv hh cx=>?_
   obtain ⟨rfl,H2,F2,K2,w2,i,rfl,s1,s2,s3,s4,s5,sS,G⟩:=cx;refine OpsD.run (l:=[v 7 33]) (r:=[]) (s1:=[(7,.val (.int .i64 0)),(33,.val (.int .i64 0)),(32,.val (.int .i64 n)),(31,.val (.slice (some (q,0)) A.length none)),(30,.val (.ptr (some (I.s,0)))),(0,.val (.ptr (some (I.s,0)))),(5,.val (.slice (some (q,0)) A.length none))]) (h1:=⟨H2,b,w2⟩) (fun k'=>by simp (disch:=omega) []) (OpsD.done ?_);simp only [];have cy:keepK [0,5,7] [(7,Slot.val (.int .i64 0)),(33,.val (.int .i64 0)),(32,.val (.int .i64 n)),(31,.val (.slice (some (q,0)) A.length none)),(30,.val (.ptr (some (I.s,0)))),(0,.val (.ptr (some (I.s,0)))),(5,.val (.slice (some (q,0)) A.length none))]=[(0,.val (.ptr (some (I.s,0)))),(5,.val (.slice (some (q,0)) A.length none)),(7,.val (.int .i64 0))]:=by simp
   rw [cy];have d1:StF I H H1:=⟨c5,fun k o ho _ _ _ _ _=>hp k o ho⟩;refine CodeD.run (e:=.normal) (st':=⟨[(0,.val (.ptr (some (I.s,0)))),(5,.val (.slice (some (q,0)) A.length none))],⟨H2,b,w2⟩⟩) O hm (fun k'=>by simp (disch:=omega) [k549]) ?_;have a6:=s1.above j _ _ hq V;have J:∀ p ∈ A,p.new H.length H2:=fun p d=>(U p d).mono s1.len fun k X hk ho=>s1.above j k _ hk ho
   obtain ⟨d2,ad⟩:∃ hd:Nat,K2.head=hd:=by
    rcases s2.v.hd with e | ⟨y,e,-⟩
    ·exact absurd e G.1
    ·exact ⟨y,e⟩
   obtain ⟨H3,F3,K3,n3,k1,k2,k3,k4,k5,k6,k7,k8,k9⟩:=q577 (b:=b) (lc:=none) s2 hb (by have:=s1.len; omega) (L:=A) (Row.mk0 (fun _=>rfl) a6) C (by omega) a0 (fun p d=>⟨⟨(J p d).1,fun qq o nn c e=>by have:=((J p d).2 qq o nn c e).1; omega⟩,W p d⟩) ad (by rw [hA,s3.z]; have:=G.2; omega);obtain ⟨H4,j1,j2,j3,j4⟩:=p578 (b:=b) k2.a hb;have al:=fun w=>cf sub (k9 w)
   have an:=fun w=>cf sub (j4 w)
   have d6:=hb.1;have d8:=k8 w2;refine CodeD.run (e:=.ret) (st':=⟨[(4,.val (.int .i64 0))],⟨H4,b,min (n3 w2) I.s⟩⟩) O hm (fun k'=>by simp (disch:=omega) [f549,al,an]) ?_;refine ⟨_,_,fe549,rfl,?_⟩;rw [if_pos (by omega)];exact ⟨H4,F3,K3,min w (min (n3 w2) I.s),K2,i,d2,A,rfl,((d1.trans s1).trans k1).trans j1,⟨j2,k2.v⟩,s3.trans k3,by omega,by omega,sS,G,ad,hA,k6⟩
end
end
end Go.Abs.AbsBlo

namespace Go.Abs.AbsBlo
open Go.Abs.AbsBlb hiding T
theorem cnt_set {m:Sec→Bool} {L:List Sec} {i:Nat} {x y:Sec} (d:L[i]? = some y):∀ j,(j≤i→cnt m (L.set i x) j=cnt m L j)∧(i < j→cnt m (L.set i x) j+(if m y then 1 else 0)=cnt m L j+(if m x then 1 else 0))
 | 0=>⟨fun _=>rfl,fun h=>by omega⟩
 | j+1=>by
  obtain ⟨h1,h2⟩:=cnt_set (m:=m) (x:=x) d j;have p:=ah d;by_cases e:i=j
  ·subst e;have hx:(L.set i x)[i]? = some x:=bj p;refine ⟨fun h=>by omega,fun _=>?_⟩;have:=h1 (aj _);simp only [cnt,hx,d];rw [this];by_cases c1:m x=true
   ·by_cases c2:m y=true
    ·simp [c1,c2]
    ·simp [c1,c2]
   ·by_cases c2:m y=true
    ·simp [c1,c2]
    ·simp [c1,c2]
  ·have q:(L.set i x)[j]? = L[j]?:=aq e;refine ⟨fun h=>?_,fun h=>?_⟩
   ·simp only [cnt,q];rw [h1 (by omega)]
   ·have A:=h2 (by omega);simp only [cnt,q];cases L[j]? with
    | none=>exact A
    | some z =>
     by_cases c:m z=true
     ·simp only [c,if_true]; omega
     ·simp only [c,if_false]; simpa using A
theorem cnt_upd {m:Sec→Bool} {L:List Sec} {i:Nat} {x y:Sec} (d:L[i]? = some y):cnt m (L.set i x) (L.set i x).length+(if m y then 1 else 0)=cnt m L L.length+(if m x then 1 else 0):=by rw [az];exact (cnt_set d L.length).2 (ah d)
theorem cnt_pos {m:Sec→Bool} {L:List Sec}:∀ j,1≤cnt m L j→∃ i x,i < j∧L[i]? = some x∧m x=true
 | 0,h=>by simp [cnt] at h
 | j+1,h=>by
  cases hx:L[j]? with
  | none =>
   simp only [cnt,hx] at h;obtain ⟨i,x,h1,h2⟩:=cnt_pos j h;exact ⟨i,x,by omega,h2⟩
  | some x =>
   by_cases c:m x=true
   ·exact ⟨j,x,by omega,hx,c⟩
   ·simp only [cnt,hx,c] at h;obtain ⟨i,y,h1,h2⟩:=cnt_pos j (by simpa using h);exact ⟨i,y,by omega,h2⟩
theorem cnt_all {m:Sec→Bool} {L:List Sec}:∀ j,(∀ i,i < j→∃ x,L[i]? = some x∧m x=true)→cnt m L j=j
 | 0,_=>rfl
 | j+1,h=>by obtain ⟨x,h1,h2⟩:=h j (by omega);simp only [cnt,h1,h2,if_true];rw [cnt_all j fun i hi=>h i (by omega)]
theorem cnt_but {m:Sec→Bool} {L:List Sec} {h:Nat}:∀ j,(∀ i,i < j→i≠h→∃ x,L[i]? = some x∧m x=true)→j≤cnt m L j+1
 | 0,_=>by omega
 | j+1,d=>by
  by_cases e:j=h
  ·have:=cnt_all (m:=m) (L:=L) j fun i hi=>d i (by omega) (by omega)
   have h2:cnt m L j≤cnt m L (j+1):=by
    simp only [cnt];split
    ·split <;> omega
    ·omega
   omega
  ·obtain ⟨x,h1,h2⟩:=d j (by omega) e;have q:=cnt_but j fun i hi p=>d i (by omega) p
   simp only [cnt,h1,h2,if_true];omega
theorem uw {m:Sec→Bool} {k:Sec→Int} {L:List Sec}:∀ j {i x},i < j→L[i]? = some x→m x=true→(least m k L j).2=true
 | 0,_,_,h,_,_=>by omega
 | j+1,i,x,h,hx,hm=>by
  by_cases e:i=j
  ·subst e;simp only [least,hx,hm,wc];cases p:(least m k L i).2 with
   | false=>simp
   | true =>
    split
    ·rfl
    ·exact p
  ·have d:=uw (k:=k) j (by omega) hx hm;simp only [least];split
   ·split
    ·rfl
    ·exact d
   ·exact d
theorem ux {m:Sec→Bool} {k:Sec→Int} {L:List Sec}:∀ j {t y},t < j→L[t]? = some y→m y=true→∃ x,L[(least m k L j).1]? = some x∧k x≤k y
 | 0,_,_,h,_,_=>by omega
 | j+1,t,y,h,d,hm=>by
  cases hx:L[j]? with
  | none =>
   have A:t≠j:=fun e=>by rw [e,hx] at d; cases d
   have p:least m k L (j+1)=least m k L j:=by simp only [least,hx]
   rw [p];exact ux j (by omega) d hm
  | some x =>
   by_cases c:(m x && (!(least m k L j).2 || (L[(least m k L j).1]?).any fun y=>decide (k x < k y)))=true
   ·have p:least m k L (j+1)=(j,true):=by simp only [least,hx]; rw [if_pos c]
    rw [p];refine ⟨x,hx,?_⟩;by_cases e:t=j
    ·rw [e,hx] at d; cases d; exact Int.le_refl _
    ·obtain ⟨G,B,J⟩:=ux (k:=k) j (show t < j by omega) d hm;have C:=uw (k:=k) j (show t < j by omega) d hm;rw [B,C] at c;simp at c;omega
   ·have p:least m k L (j+1)=least m k L j:=by simp only [least,hx]; rw [if_neg c]
    rw [p];by_cases e:t=j
    ·rw [e,hx] at d;cases d
     have h2:(least m k L j).2=true:=by
      cases D:(least m k L j).2 with
      | true=>rfl
      | false=>rw [D,hm] at c; simp at c
     obtain ⟨z,q,-⟩:=qi m k L j h2;refine ⟨z,q,?_⟩;rw [hm,h2,q] at c;simp at c;omega
    ·exact ux j (by omega) d hm
structure Calm (c:Nat) (K:StU):Prop where
 st:∀ (i:Nat) (y:Sec),K.secs[i]? = some y→(y.st=0∨y.st=2)∧y.er≤c
 hd:(K.head = -1∧∀ (i:Nat) (y:Sec),K.secs[i]? = some y→y.st=0)∨∃ h:Nat,K.head=h∧(∃ y,K.secs[h]? = some y∧y.st=2∧y.seq=K.seq)∧∀ (i:Nat) (y:Sec),i≠h→K.secs[i]? = some y→y.st=2→y.seq < K.seq
 sb:K.seq≤c
def cntO (lim:Nat) (K:StU):Nat:=cnt (opn lim) K.secs K.secs.length
theorem Calm.of {c:Nat} {K K':StU} (h:Calm c K) (h1:K'.secs=K.secs) (h2:K'.head=K.head) (d:K'.seq=K.seq):Calm c K':=by
 refine ⟨?_,?_,by rw [d]; exact h.sb⟩
 ·rw [h1]; exact h.st
 ·rw [h1,h2,d]; exact h.hd
theorem Calm.opn0 {c lim:Nat} {K:StU} (h:Calm c K) {i:Nat} {y:Sec} (d:K.secs[i]? = some y):opn lim y=true ↔ y.st=0:=by
 rcases (h.st i y d).1 with e | e
 ·simp [opn,e]
 ·simp [opn,e]
theorem calm_open {c lim:Nat} {K K':StU} (h:Calm c K) (ho:OpenR lim K K'):Calm (c+1) K'∧K'.at_=12∧K'.ix=K.ix∧K'.clock=K.clock∧K'.secs.length=K.secs.length∧cntO lim K'+1=cntO lim K∧∃ (i:Nat) (y:Sec),K'.head=i∧K.secs[i]? = some y∧y.st=0∧∀ j,j≠i→K'.secs[j]? = K.secs[j]?:=by
 obtain ⟨h1,i,y,x,h2,p,B,C,rfl⟩:=ho;have h0:=(h.opn0 p).1 B;have hx:=C h0;obtain ⟨s1,O⟩:=h.st i y p;have D:=h.sb;have q:opn lim (⟨2,(K.seq:Int)+1,x⟩:Sec)=false:=by simp [opn]
 have hc:=cnt_upd (m:=opn lim) (x:=(⟨2,(K.seq:Int)+1,x⟩:Sec)) p;rw [B,q] at hc;refine ⟨⟨fun j z d=>?_,.inr ⟨i,rfl,⟨_,bj (ah p),rfl,by show (K.seq:Int)+1=((K.seq+1:Nat):Int); omega⟩,fun j z A d h2=>?_⟩,by show K.seq+1≤c+1; omega⟩,rfl,rfl,rfl,az,?_,i,y,rfl,p,h0,fun j A=>aq fun e=>A e.symm⟩
 ·by_cases e:j=i
  ·subst e;rw [bj (ah p)] at d;cases d;exact ⟨.inr rfl,by show x≤_; omega⟩
  ·rw [aq fun f=>e f.symm] at d;obtain ⟨G,Q⟩:=h.st j z d;exact ⟨G,by omega⟩
 ·have d:(K.secs.set i _)[j]? = some z:=d;rw [aq fun f=>A f.symm] at d;show z.seq < ((K.seq+1:Nat):Int);rcases h.hd with ⟨-,g⟩ | ⟨J,U,⟨y0,L,V,W⟩,N⟩
  ·have:=g j z d; omega
  ·by_cases e:j=J
   ·rw [e,L] at d; cases d; omega
   ·have:=N j z e d h2; omega
 ·unfold cntO;simpa using hc
theorem xl {c lim:Nat} {K:StU} (h:Calm c K) {i B:Nat} {y:Sec} (A:K.secs[i]? = some y) (C:y.st=2) (hd:K.head=B) (hi:i≠B) (hc:c < lim) :
  Calm (c+1) { K with secs:=K.secs.set i (dropE lim y) }∧cntO lim { K with secs:=K.secs.set i (dropE lim y) }=cntO lim K+1:=by
 obtain ⟨s1,X⟩:=h.st i y A;have D:=h.sb;have G:dropE lim y=⟨0,0,y.er+1⟩:=by unfold dropE; rw [if_pos (by omega)]
 rw [G];have p:=cnt_upd (m:=opn lim) (x:=(⟨0,0,y.er+1⟩:Sec)) A;have J:opn lim y=false:=by simp [opn,C]
 have L:opn lim (⟨0,0,y.er+1⟩:Sec)=true:=by simp [opn]
 rw [J,L] at p;refine ⟨⟨fun j z d=>?_,?_,by show K.seq≤c+1; omega⟩,by unfold cntO; simpa using p⟩
 ·have d:(K.secs.set i _)[j]? = some z:=d;by_cases e:j=i
  ·subst e;rw [bj (ah A)] at d;cases d;exact ⟨.inl rfl,by show y.er+1≤_; omega⟩
  ·rw [aq fun f=>e f.symm] at d;obtain ⟨N,z2⟩:=h.st j z d;exact ⟨N,by omega⟩
 ·rcases h.hd with ⟨g,-⟩ | ⟨h2,g1,⟨y0,O,Q,U⟩,V⟩
  ·omega
  ·obtain rfl:h2=B:=by omega
   refine .inr ⟨h2,hd,⟨y0,?_,Q,U⟩,fun j z W d q=>?_⟩
   ·show (K.secs.set i _)[h2]? = _
    rw [aq hi]; exact O
   ·have d:(K.secs.set i _)[j]? = some z:=d;by_cases e:j=i
    ·subst e;rw [bj (ah A)] at d;cases d;exact absurd q (show ¬ (0:Int)=2 by decide)
    ·rw [aq fun f=>e f.symm] at d;exact V j z W d q
theorem old_ne {c lim:Nat} {K:StU} (h:Calm c K) (hc:¬ 2≤cntO lim K) (O:3≤K.secs.length):∃ i d:Nat,oldS K=(i,true)∧K.head=d∧i≠d:=by
 unfold cntO at hc;rcases h.hd with ⟨-,g⟩ | ⟨d,C,⟨y0,D,Q,U⟩,G⟩
 ·have:=cnt_all (m:=opn lim) (L:=K.secs) K.secs.length fun i hi=>by have hx:=ai hi;exact ⟨_,hx,(h.opn0 hx).2 (g _ _ hx)⟩
  omega
 ·obtain ⟨t,y,J,p,B⟩:∃ t y,t≠d∧K.secs[t]? = some y∧y.st=2:=Classical.byContradiction fun q=>by
   have:=cnt_but (m:=opn lim) (L:=K.secs) (h:=d) K.secs.length fun i hi A=>by
    have hx:=ai hi;refine ⟨_,hx,(h.opn0 hx).2 ?_⟩;rcases (h.st _ _ hx).1 with e | e
    ·exact e
    ·exact absurd ⟨i,_,A,hx,e⟩ q
   omega
  have j:=ah p;have hm:decide (y.st=2)=true:=by simpa using B
  have N:=uw (m:=fun x=>decide (x.st=2)) (k:=Sec.seq) K.secs.length j p hm;obtain ⟨x,x1,V⟩:=ux (m:=fun x=>decide (x.st=2)) (k:=Sec.seq) K.secs.length j p hm;have hs:=G t y J p B;refine ⟨(oldS K).1,d,?_,C,fun e=>?_⟩
  ·have:(oldS K).2=true:=N;rw [← this]
  ·have x1:K.secs[(oldS K).1]? = some x:=x1;rw [e,D] at x1;cases x1;omega
end Go.Abs.AbsBlo

namespace Go.Abs.AbsBlo
open Go.Abs.AbsBlb hiding T
theorem sum_sub {f:Bs→Nat}:∀ {l l':List Bs},l.Nodup→(∀ x ∈ l,x ∈ l')→(l.map f).sum≤(l'.map f).sum
 | [],_,_,_=>fk _
 | a :: l,l',d,h=>by
  obtain ⟨h1,h2⟩:=List.nodup_cons.1 d;have j:=List.perm_cons_erase (h a (a8 ..));rw [zan (j.map f),bi,bi,dz,dz]
  have:=sum_sub (f:=f) (l':=l'.erase a) h2 fun x hx=>by refine (List.mem_erase_of_ne fun e=>?_).2 (h x (bd _ hx));rw [e] at hx;exact h1 hx
  omega
def fK (K:StU) (k:Bs):Nat:=16+k.length+(plK K.ix k).blob.length
def liveT (ix:List Ent):Nat:=(ix.map fun e=>Ent.size e+16).sum
theorem zaj (K:StU) (k:Bs):(plK K.ix k).blob=(blobK K k).getD []:=by unfold blobK blL plK;cases findK k K.ix <;> rfl
theorem fK_told {K K':StU} (h:Told K K') (k:Bs):fK K' k=fK K k:=by unfold fK;rw [zaj,zaj,h k]
theorem liveT_eq {K:StU} (h:IxOK K.ix K.clock):liveT K.ix=((K.ix.map (·.1)).map fun k=>fK K k+16).sum:=by
 unfold liveT;rw [ut];congr 1;refine pf fun e d=>?_
 show Ent.size e+16=fK K e.1+16
 unfold fK;rw [plK_eq h.k d]; rfl
theorem qt {K:StU} {k:Bs}:k ∈ K.ix.map (·.1) ↔ blobK K k≠none:=by
 constructor
 ·intro d;obtain ⟨e,p,rfl⟩:=bt.1 d;unfold blobK blL;cases j:findK e.1 K.ix with
  | none=>exact absurd rfl (oc j e p)
  | some x=>simp
 ·intro d;unfold blobK blL at d;cases j:findK k K.ix with
  | none=>rw [j] at d; exact absurd rfl d
  | some x =>
   obtain ⟨e,h1,h2,-⟩:=mr j;exact bt.2 ⟨e,br h1,h2⟩
theorem told_keys {K K':StU} (h:Told K K') {k:Bs}:k ∈ K'.ix.map (·.1) ↔ k ∈ K.ix.map (·.1):=by rw [qt,qt,h k]
theorem live_sum {K:StU} {i:Nat} {A:List RV} (j:LiveOK K.ix i (A.map Prod.fst)):∃ ks:List Bs,ks.Nodup∧(∀ k,k ∈ ks ↔ ∃ e ∈ K.ix,e.2.1.sec=i∧e.1=k)∧ks=A.map (fun p=>p.1.key)∧sizes (A.map Prod.fst)=(ks.map (fK K)).sum:=by
 obtain ⟨ks,d,q,y⟩:=j;refine ⟨ks,q,y,?_,?_⟩
 ·have:=congrArg (List.map RecU.key) d;rw [ut,ut] at this
  have B:ks.map (RecU.key ∘ recK K.ix)=ks:=by have:(RecU.key ∘ recK K.ix)=id:=rfl;rw [this,List.map_id]
  rw [B] at this;exact this.symm
 ·unfold sizes;rw [d,ut]; rfl
theorem two_sum {K K':StU} (hx:IxOK K.ix K.clock) (h:Told K K') {ks d:List Bs} (h1:ks.Nodup) (h2:d.Nodup) (p:∀ k ∈ ks,k ∈ K.ix.map (·.1)) (q:∀ k ∈ d,k ∈ K'.ix.map (·.1)) (y:∀ k ∈ ks,k ∉ d) (A:ks≠[]) (B:d≠[]) :
  (ks.map (fK K)).sum+(d.map (fK K')).sum+32≤liveT K.ix:=by
 have e:d.map (fK K')=d.map (fK K):=pf fun k _=>fK_told h k
 rw [e,liveT_eq hx]
 have:=sum_sub (f:=fun k=>fK K k+16) (l:=ks++d) (l':=K.ix.map (·.1)) (z7.2 ⟨h1,h2,fun a ha b hb j=>y a ha (by rw [j]; exact hb)⟩) fun x hx=>by
  rcases bz.1 hx with g | g
  ·exact p x g
  ·exact (told_keys h).1 (q x g)
 rw [ku,List.sum_append_nat] at this
 have add:∀ l:List Bs,(l.map fun k=>fK K k+16).sum=(l.map (fK K)).sum+16*l.length:=fun l=>by
  induction l with
  | nil=>rfl
  | cons a l ih=>rw [bi,bi,dz,dz,ih,cq]; omega
 rw [add,add] at this;have C:=kg.2 A;have D:=kg.2 B;omega
theorem wrote_ix {K:StU} {hd:Nat} {A:List RV} (hx:IxOK K.ix K.clock):∀ e ∈ (wroteK K hd A).ix,(e ∈ K.ix∧e.1 ∉ A.map fun p=>p.1.key)∨((e.1 ∈ A.map fun p=>p.1.key)∧e.2.1.sec=hd):=by obtain ⟨y,C,D⟩:=th (t:=K.txn+1) (L:=A) (a:=K.at_);have d:IxOK ({ K with txn:=K.txn+1,at_:=K.at_+sizes (A.map Prod.fst)+16 }:StU).ix ({ K with txn:=K.txn+1,at_:=K.at_+sizes (A.map Prod.fst)+16 }:StU).clock:=hx;obtain ⟨x1,j⟩:=tf (hd:=hd) (A:=founds (K.txn+1) A K.at_) d;rw [y] at j;exact fun e B=>(j.m e B).imp id fun q=>⟨q.1,q.2.1⟩
theorem zak {c z lim:Nat} {K K':StU} (h:Calm c K) (hx:IxOK K.ix K.clock) (hc:¬ 2≤cntO lim K) (h1:1≤cntO lim K) (hn:3≤K.secs.length) (ac:c+1 < lim) (hr:CleanR z lim K K') :
  Calm (c+2) K'∧Told K K'∧K'.secs.length=K.secs.length ∧
   (2≤cntO lim K'∨(1≤cntO lim K'∧∃ (j i:Nat) (ks:List Bs),i≠j∧K'.head=j∧ks.Nodup∧ks≠[]∧(∀ k,k ∈ ks ↔ ∃ e ∈ K.ix,e.2.1.sec=i∧e.1=k)∧(∀ e ∈ K'.ix,e.1 ∈ ks→e.2.1.sec=j)∧K'.at_=28+(ks.map (fK K)).sum∧K.head≠i)):=by
 obtain ⟨i,hh,o1,o2,o3⟩:=old_ne h hc hn;obtain ⟨i',y,A,K1,r1,D,G,J,r5,r6,rfl⟩:=hr;rw [o1] at r1;cases r1;have L:noneK K i=K:=by unfold noneK; rw [if_neg (by omega)]
 rw [L] at r6;obtain ⟨ks,s1,s2,N,s4⟩:=live_sum J;have O:K.head≠i:=by omega
 rcases r6 with ⟨rfl,rfl⟩ | ⟨hA,d,hd,⟨hf,rfl⟩ | ⟨hf,ho⟩,ad,rfl⟩
 ·obtain ⟨p,d2⟩:=xl h D G o2 o3 (show c < lim by omega);exact ⟨⟨fun j z C=>⟨(p.st j z C).1,by have:=(p.st j z C).2; omega⟩,p.hd,by have:=p.sb; omega⟩,Told.of_ix rfl,az,.inl (by omega)⟩
 ·obtain ⟨w1,B,w3,Q⟩:=pp (K:=d) (hd:=hd) (A:=A);have U:=h.of w1 B Q;obtain ⟨p,d2⟩:=xl (lim:=lim) U (by rw [w1]; exact D) G (B.trans o2) o3 (show c < lim by omega);have V:cntO lim (wroteK d hd A)=cntO lim d:=by unfold cntO; rw [w1]
  refine ⟨⟨fun j z C=>⟨(p.st j z C).1,by have:=(p.st j z C).2; omega⟩,p.hd,by have:=p.sb; omega⟩,(vq J).trans (Told.of_ix rfl),?_,.inl (by omega)⟩;show ((wroteK d hd A).secs.set _ _).length=_;rw [az,w1]
 ·obtain ⟨p1,p2,W,p4,p5,p6,j,y2,p7,p8,p9,X⟩:=calm_open h ho;obtain ⟨w1,B,w3,Q⟩:=pp (K:=d) (hd:=hd) (A:=A);have U:=p1.of w1 B Q
  have q:i≠j:=fun e=>by rw [← e,D] at p8;cases p8;omega
  obtain rfl:hd=j:=by omega
  obtain ⟨p,d2⟩:=xl (lim:=lim) (i:=i) U (y:=y) (by rw [w1,X i q]; exact D) G (B.trans p7) q (show c+1 < lim by omega);have V:cntO lim (wroteK d hd A)=cntO lim d:=by unfold cntO; rw [w1]
  have a0:ks≠[]:=fun e=>by rw [e] at N;exact hA (List.map_eq_nil_iff.1 N.symm)
  have a6:IxOK d.ix d.clock:=by rw [W,p4]; exact hx
  have aa:LiveOK d.ix i (A.map Prod.fst):=by rw [W]; exact J
  refine ⟨⟨p.st,p.hd,p.sb⟩,((Told.of_ix W).trans (vq aa)).trans (Told.of_ix rfl),?_,.inr ⟨by omega,hd,i,ks,q,B.trans p7,s1,a0,s2,fun e he hk=>?_,?_,O⟩⟩
  ·show ((wroteK d hd A).secs.set _ _).length=_
   rw [az,w1,p5]
  ·have he:e ∈ (wroteK d hd A).ix:=he;rw [N] at hk;rcases wrote_ix a6 e he with ⟨-,g⟩ | ⟨-,g⟩
   ·exact absurd hk g
   ·exact g
  ·show (wroteK d hd A).at_=_
   rw [w3,p2,s4]; omega
def Phase (lim z n c:Nat) (K:StU) (i:Nat) (K1:StU):Prop :=
 i≤3∧Calm (c+2*i) K1∧Told K K1∧K1.secs.length=K.secs.length∧IxOK K1.ix K1.clock∧1≤cntO lim K1 ∧
  ((i=0∧K1=K)∨(i=1∧∃ (j:Nat) (ks:List Bs),K1.head=j∧ks.Nodup∧ks≠[]∧(∀ k ∈ ks,k ∈ K.ix.map (·.1))∧(∀ e ∈ K1.ix,e.1 ∈ ks→e.2.1.sec=j)∧K1.at_=28+(ks.map (fK K)).sum)∨(i≤2∧2≤cntO lim K1)∨FitZ z K1 n)
theorem Calm.le {c c':Nat} {K:StU} (h:Calm c K) (hc:c≤c'):Calm c' K:=⟨fun j z d=>⟨(h.st j z d).1,by have:=(h.st j z d).2; omega⟩,h.hd,by have:=h.sb; omega⟩
theorem po {kl:List Bs} {F:Fl} {n c:Nat} {K:StU} (hx:IxOK K.ix K.clock) (hl:c+20 < F.lim) (hS:3≤K.secs.length∧K.secs.length≤7) (hz:40≤F.z) (hn:n≤(F.z - 12) / 2) (hT:4*(liveT K.ix+n)≤(K.secs.length - 2)*(F.z - 12)) (h0:Calm c K) (h1:1≤cntO F.lim K) :
  ∀ i K1,Steps kl F n K i K1→Phase F.lim F.z n c K i K1
 | 0,K1,h=>by have h:K1=K:=h;subst h;exact ⟨by omega,h0,Told.refl _,rfl,hx,h1,.inl ⟨rfl,rfl⟩⟩
 | i+1,K2,h=>by
  obtain ⟨K1,F2,hs,A,hr,hv,hF⟩:=h;obtain ⟨q1,q2,N,q4,q5,q6,q7⟩:=po hx hl hS hz hn hT h0 h1 i K1 hs;have y:=hv.ix;have ac:(K.secs.length - 2)*(F.z - 12)≤5*(F.z - 12):=ge _ (by omega)
  have d:i≤2→OpenR F.lim K1 K2→2≤cntO F.lim K1→Phase F.lim F.z n c K (i+1) K2:=fun hi ho h2=>by obtain ⟨p1,p2,p3,p4,p5,p6,j,y2,p7,-⟩:=calm_open q2 ho;exact ⟨by omega,p1.le (by omega),N.trans (Told.of_ix p3),p5.trans q4,y,by omega,.inr (.inr (.inr ⟨by omega,by omega⟩))⟩
  rcases q7 with ⟨rfl,rfl⟩ | ⟨rfl,j,ks,J,O,g3,g4,g5,g6⟩ | ⟨J,O⟩ | J
  ·rcases hr with ⟨c2,ho⟩ | ⟨c2,q⟩
   ·exact d (by omega) ho c2
   ·obtain ⟨Q,U,V,p⟩:=zak h0 hx c2 h1 hS.1 (by omega) q;refine ⟨by omega,Q,U,V,y,?_,?_⟩
    ·rcases p with p | ⟨p,-⟩ <;> omega
    ·rcases p with p | ⟨p,j,i,ks,u1,u2,W,X,L,u6,u7,-⟩
     ·exact .inr (.inr (.inl ⟨by omega,p⟩))
     ·refine .inr (.inl ⟨rfl,j,ks,u2,W,X,fun k B=>?_,u6,u7⟩);obtain ⟨e,C,-,D⟩:=(L k).1 B;exact bt.2 ⟨e,C,D⟩
  ·rcases hr with ⟨c2,ho⟩ | ⟨c2,q⟩
   ·exact d (by omega) ho c2
   ·obtain ⟨Q,U,V,p⟩:=zak q2 q5 c2 q6 (by omega) (by omega) q;refine ⟨by omega,Q,N.trans U,V.trans q4,y,?_,?_⟩
    ·rcases p with p | ⟨p,-⟩ <;> omega
    ·rcases p with p | ⟨p,j2,i2,a0,u1,u2,W,X,L,u6,u7,u8⟩
     ·exact .inr (.inr (.inl ⟨by omega,p⟩))
     ·refine .inr (.inr (.inr ⟨by omega,?_⟩))
      have hd:∀ k ∈ ks,k ∉ a0:=fun k B a6=>by obtain ⟨e,C,e2,D⟩:=(L k).1 a6;have:=g5 e C (by rw [D]; exact B);omega
      have ad:=two_sum hx N O W g4 (fun k B=>by obtain ⟨e,C,-,D⟩:=(L k).1 B;exact bt.2 ⟨e,C,D⟩) hd g3 X
      have G:F.z < K1.at_+n:=by refine Nat.lt_of_not_le fun aa=>A ⟨by omega,aa⟩
      rw [u7];rw [g6] at G;omega
  ·rcases hr with ⟨c2,ho⟩ | ⟨c2,q⟩
   ·exact d J ho c2
   ·exact absurd O c2
  ·exact absurd J A
theorem room_go {kl:List Bs} {F:Fl} {n c:Nat} {K:StU} (hx:IxOK K.ix K.clock) (p:c+20 < F.lim) (q:F.lim≤1048576) (y:3≤K.secs.length∧K.secs.length≤7) (A:40≤F.z) (B:n≤(F.z - 12) / 2) (C:4*(liveT K.ix+n)≤(K.secs.length - 2)*(F.z - 12)) (h0:Calm c K) (h1:1≤cntO F.lim K) :
  RoomGo kl F n K:=fun i K1 hs D=>by
 obtain ⟨Q,j,U,V,W,G,X⟩:=po hx p y A B C h0 h1 i K1 hs;refine ⟨by omega,fun d=>?_⟩;have J:=j.sb
 have e:(nextL F.lim K1).2=true:=by obtain ⟨t,x,h2,L,N⟩:=cnt_pos (m:=opn F.lim) K1.secs.length G;exact uw K1.secs.length h2 L N
 rcases d with ⟨-,d | d⟩ | ⟨c2,d | d | d⟩
 ·rw [e] at d; cases d
 ·omega
 ·obtain ⟨t,hh,O,-⟩:=old_ne j c2 (by omega);rw [O] at d; cases d
 ·rw [e] at d; cases d
 ·omega
end Go.Abs.AbsBlo

namespace Go.Abs.AbsBlo
open Go.Abs.AbsBlb hiding T
open Go.Abs.Short
section
variable {H:List AObj} {b w:Nat}
theorem s567 {p o n:Nat} {c:Option Nat} {X:List AVal} (d:H[p]? = some (.cells 1 X)) (e:X[o]? = some (.int .u8 255)) (q:0 < n∧n≤262144) :
  xCall T 567 [.slice (some (p,o)) 1 c,.int .i64 n] ⟨H,b,w⟩=some (.slice (some (H.length,0)) n (some n),⟨H++[.cells 1 ((List.replicate n (255:UInt8)).map u8V)],b,w⟩):=by
 rw [xLib_eq' T t567 _ _ (F:=repF)];have hr:List.replicate n (AVal.int .u8 255)=(List.replicate n (255:UInt8)).map u8V:=by rw [List.map_replicate]; rfl
 have j:(0:Int) < n∧(n:Int)≤262144:=by omega
 unfold repF;simp only [Heap.get,d,e,j,and_self,if_true,Int.toNat_natCast,hr,b8,Heap.puts,List.foldl_nil,jw,Heap.push,Heap.size]
theorem s556 {n z lim:Nat} (hn:1≤n∧n≤64) (hz:64≤z∧z≤65536) (hl:1≤lim∧lim≤1048576) (C:n*z≤262144) :
  xCall T 556 [.agg [.int .i64 n,.int .i64 z,.int .i64 lim]] ⟨H,b,w⟩=some (.tuple [.ptr (some (H.length,0)),.int .i64 0],
   ⟨H++[.cells 9 [.int .i64 n,.int .i64 z,.int .i64 lim,.slice (some (H.length+1,0)) (n*z) (some (n*z)),.slice (some (H.length+2,0)) n (some n),.bool false,.int .i64 (-1),.int .i64 0,.int .u8 0],.cells 1 ((List.replicate (n*z) (255:UInt8)).map u8V),.cells 1 (List.replicate n (.int .i64 0))],b,w⟩):=by
 have q:=fun (x lo hi:Int) P w=>cf sub (s568 (H:=P) (b:=b) (w:=w) (x:=x) (lo:=lo) (hi:=hi))
 have U:((1:Int)≤n)∧((n:Int)≤64):=by omega
 have V:((64:Int)≤z)∧((z:Int)≤65536):=by omega
 have W:((1:Int)≤lim)∧((lim:Int)≤1048576):=by omega
 obtain ⟨D,G⟩:=U;obtain ⟨J,L⟩:=V;obtain ⟨N,O⟩:=W;have Q:(n:Int)*(z:Int)=((n*z:Nat):Int):=(Int.natCast_mul n z).symm;have y:0 < n*z:=Nat.mul_pos (by omega) (by omega);have d:=fun w=>s567 (H:=H++[.cells 1 [.int .u8 255]]) (b:=b) (w:=w) (p:=H.length) (o:=0) (c:=some 1) (n:=n*z) (X:=[.int .u8 255]) (gc _ _) rfl ⟨y,C⟩
 have A:AVal.idsL ((List.replicate (n*z) (255:UInt8)).map u8V)=[]:=ml _;have B:∀ g,AVal.renL g ((List.replicate (n*z) (255:UInt8)).map u8V)=(List.replicate (n*z) (255:UInt8)).map u8V:=fun g=>ov g _
 have e:AVal.idsL (List.replicate n (AVal.int .i64 0))=[]:=AbsBlb.idsL_none fun x hx=>by rw [List.eq_of_mem_replicate hx]; simp [AVal.ids]
 have j:∀ g,AVal.renL g (List.replicate n (AVal.int .i64 0))=List.replicate n (.int .i64 0):=fun g=>AbsBlb.renL_none fun x hx=>by rw [List.eq_of_mem_replicate hx]; simp [AVal.ren]
 simp only [au,cq,eq,dq,ba,fh,dw] at d;generalize (List.replicate (n*z) (255:UInt8)).map u8V=Y at *;generalize n*z=nz at *;simp (maxSteps:=3000000) (disch:=omega) [-getElem?_pos,-getElem?_neg,-List.all_eq_true,qZ,qS,nltT,nltF,iltT,iltF,ileT,nleT,di,-sget,zq,vj,zr,-ew,lq,lr,jf,bg t556,code556,q,D,G,J,L,N,O,Q,d,jz,j9,wj,A,B,e,j,ex]
end
end Go.Abs.AbsBlo

namespace Go.Abs.AbsBlo
open Go.Abs.AbsBlb hiding T
open Go.Abs.Short
def z0:Sec:=⟨0,0,0⟩
def mtC (fl n z lim m:Nat) (x:AVal):List AVal:=[.ptr (some (fl,0)),.int .i64 n,.int .i64 z,.int .i64 lim,x,.map (some m),.int .i64 (-1),.int .i64 0,.int .u32 0,.int .u32 0,.bool false]
structure MT (H P:List AObj) (fl n z lim c2 s m i:Nat) (x:AVal):Prop where
  pre:Pre H P
  hc:P[c2]? = some (.cells 1 [.ptr (some (s,0))])
  hs:P[s]? = some (.cells 11 (mtC fl n z lim m x))
  hm:P[m]? = some (.map [] 0)
  hx:FRow H.length 3 Sec.cells (List.replicate i z0) P x
  nc:H.length≤c2
  ns:H.length≤s
  nm:H.length≤m
section
variable {H:List AObj} {b:Nat} {fi:FI} {F:Fl}
theorem zb6 (h:FlA H fi F) (hb:∀ j,j < F.b.length→F.b[j]? = some 255) (hw:∀ i,i < F.n→F.w[i]? = some 0) {i:Nat} (hi:i < F.n):F.look i=z0:=by
  obtain ⟨h1,h2⟩:=h.sec_len hi;unfold Fl.look;rw [hw i hi,yr]
  · rfl
  · intro j d
    rw [h1] at d;rw [Fl.sec_get d];exact hb _ (by omega)
section
attribute [-simp] getElem?_pos getElem?_neg List.all_eq_true
attribute [local simp] qZ qS nltT nltF iltT iltF ileT nleT di
theorem l555 (h:FlA H fi F) (L:∀ j,j < F.b.length→F.b[j]? = some 255) (hw:∀ i,i < F.n→F.w[i]? = some 0) (N:12≤F.z) (hb:b≤H.length) {c2 s m:Nat}:∀ (j i:Nat) (P:List AObj) (x:AVal) (w:Nat),i+j=F.n→MT H P fi.fl F.n F.z F.lim c2 s m i x→H.length≤w →
    ∃ P' x' w',MT H P' fi.fl F.n F.z F.lim c2 s m F.n x'∧H.length≤w'∧∀ {β:Type} (k:AExit→St→Option β),
      xK T (.loop code555L0) ⟨[(0,.val (.ptr (some (fi.fl,0)))),(2,.val (.ptr (some (c2,0)))),(4,.val (.slice none 0 (some 0))),(22,.val (.int .i64 F.n)),(23,.val (.int .i64 i))],⟨P,b,w⟩⟩ (k:=⟨k⟩) =
        k (.exit 0) ⟨[(2,.val (.ptr (some (c2,0)))),(4,.val (.slice none 0 (some 0)))],⟨P',b,w'⟩⟩
  | 0,i,P,x,w,hi,d,aa=>by
    obtain rfl:i=F.n:=by omega
    refine ⟨P,x,w,d,aa,fun k=>?_⟩;rw [b9];simp (disch:=omega) [code555L0]
  | j+1,i,P,x,w,hi,d,aa=>by
    have d1:=h.nb.1;have bm:FlA P fi F:=h.keep fun k o ho _=>d.pre k o ho
    have d2:=d.pre.len;have bx:=zb6 h L hw (i:=i) (by omega);have y:=fun w=>cf sub (s564 (b:=b) (w:=w) bm (i:=i) (by omega) N (by omega))
    rw [bx] at y;have O:z0.cells=[.int .i64 0,.int .u32 0,.int .i64 0]:=rfl;rw [O] at y;have Q:=ah d.hc;have ac:=ah d.hs;have c4:=ah d.hm;have ad:List.replicate i z0++[z0]=List.replicate (i+1) z0:=(List.replicate_succ' ..).symm;have al:AVal.idsL ((List.replicate (i+1) z0).flatMap Sec.cells)=[]:=idsL_sec _;have G:c2≠s:=fun e=>by have:=d.hc; rw [e,d.hs] at this; simp [mtC] at this
    have J:m≠s:=fun e=>by have:=d.hm; rw [e,d.hs] at this; simp [mtC] at this
    have e2:((i+1:Nat):Int)=(i:Int)+1:=by omega
    have g1:=d.hc;have g2:=d.hs;unfold mtC at g2;have an:b≤s:=by have:=d.ns; omega
    rcases d.hx with ⟨e0,rfl⟩ | ⟨e0,q,hq,rfl,p⟩
    · have ao:i=0:=by have:=congrArg List.length e0;simpa using this
      subst ao
      have A:∀ w,d7 3 24 ⟨P++[.cells 3 z0.cells],b,w⟩ (.slice none 0 (some 0)) (.slice (some (P.length,0)) 1 (some 1))=some (.slice (some (P.length+1,0)) 1 none,⟨P++[.cells 3 z0.cells,.cells 3 z0.cells],b,w⟩):=fun w=>by have N:il 3 ⟨P++[.cells 3 z0.cells],b,w⟩ (.slice (some (P.length,0)) 1 (some 1))=some z0.cells:=zb1 (by show (P++[AObj.cells 3 z0.cells])[P.length]? = _; rw [gc]; rfl) rfl;unfold d7;simp only [N,zb0,aApp,alen];simp [Heap.push,Heap.size]
      obtain ⟨P',x',w',i1,i2,i3⟩:=l555 h L hw N hb (c2:=c2) (s:=s) (m:=m) j 1 ((P++[AObj.cells 3 z0.cells,AObj.cells 3 z0.cells]).set s (.cells 11 (mtC fi.fl F.n F.z F.lim m (.slice (some (P.length+1,0)) 1 none)))) (.slice (some (P.length+1,0)) 1 none) (min w s) (by omega)
        ⟨fun k o D=>by have:=ah D;have c5:=d.ns;rw [aq (by omega),ag (by omega)]; exact d.pre k o D,
         by rw [aq G.symm,ag Q]; exact d.hc,
         bj (by rw [au]; omega),
         by rw [aq J.symm,ag c4]; exact d.hm,
         .inr ⟨by decide,P.length+1,by omega,rfl,by rw [aq (by omega),jv]; rfl⟩,d.nc,d.ns,d.nm⟩ (by have:=d.ns; omega)
      refine ⟨P',x',w',i1,i2,fun k=>?_⟩;have ih:=i3 k;have ci:(1:Int)≤F.n:=by omega
      simp only [bf] at y;rw [b9,← ih];have B:(P++[AObj.cells 3 z0.cells,.cells 3 z0.cells])[P.length+1]? = some (.cells 3 z0.cells):=jv _ _ 1;have U:=fun X=>(ag (l₂:=X) ac).trans g2
      have V:=fun X=>(ag (l₂:=X) Q).trans g1
      unfold mtC;rw [O] at A B ⊢;generalize ACode.loop code555L0=LL;simp (disch:=omega) [code555L0,-d7,-sget,zq,vj,zr,-ew,lq,lr,jf,ex,y,g1,g2,B,U,V,A,an,ci]
    · have ao:0 < i:=by
        cases i with
        | zero=>exact absurd rfl e0
        | succ i=>omega
      simp only [bq] at g2;have C:=ah p;have ax:q≠s:=fun e=>by rw [e,d.hs] at p; simp [mtC] at p
      have ay:q≠c2:=fun e=>by rw [e,d.hc] at p; simp at p
      have cp:q≠m:=fun e=>by rw [e,d.hm] at p; simp at p
      have W:((List.replicate i z0).flatMap Sec.cells).length=i*3:=by rw [za5 Sec.cells 3 (fun _=>rfl)]; simp
      have b5:(List.replicate i z0).flatMap Sec.cells++z0.cells=(List.replicate (i+1) z0).flatMap Sec.cells:=by rw [← ad,List.flatMap_append]; simp
      have A:∀ w,d7 3 24 ⟨P++[.cells 3 z0.cells],b,w⟩ (.slice (some (q,0)) i none) (.slice (some (P.length,0)) 1 (some 1))=some (.slice (some (P.length+1,0)) (i+1) none,⟨P.set q .dead++[.cells 3 z0.cells,.cells 3 ((List.replicate (i+1) z0).flatMap Sec.cells)],b,min w q⟩):=fun w=>by
        have N:il 3 ⟨P++[.cells 3 z0.cells],b,w⟩ (.slice (some (P.length,0)) 1 (some 1))=some z0.cells:=zb1 (by show (P++[AObj.cells 3 z0.cells])[P.length]? = _; rw [gc]; rfl) rfl;have h5:(P++[AObj.cells 3 z0.cells])[q]? = some (.cells 3 ((List.replicate i z0).flatMap Sec.cells)):=by rw [ag C]; exact p
        have cv:il 3 ⟨P++[.cells 3 z0.cells],b,w⟩ (.slice (some (q,0)) i none)=some ((List.replicate i z0).flatMap Sec.cells):=zb1 h5 W
        have hr:rowIs ⟨P++[.cells 3 z0.cells],b,w⟩ q 3=true:=by unfold rowIs Heap.get;simp only [h5];simp
        unfold d7;simp only [N,cv,aApp,alen];have q1:¬ (1:Nat)=0:=by decide
        have q2:(i+1)*24≤140737488355328∧i+1≤9223372036854775807:=⟨by omega,by omega⟩;have q3:¬ (none:Option Nat)=some i:=by simp
        have q4:(⟨P++[AObj.cells 3 z0.cells],b,w⟩:Heap).base≤q∧rowIs ⟨P++[AObj.cells 3 z0.cells],b,w⟩ q 3=true:=⟨by show b≤q; omega,hr⟩;have hs:(P++[AObj.cells 3 z0.cells]).length=P.length+1:=by simp
        simp only [eq_false q1,eq_true q2,eq_false q3,eq_true q4,if_false,if_true];simp only [Heap.push,Heap.put,Heap.size,List.set_append_left _ _ C,az,hs,b5,ba,fh,dw]
      have a0:(P.set q .dead++[AObj.cells 3 z0.cells,.cells 3 ((List.replicate (i+1) z0).flatMap Sec.cells)]).length=P.length+2:=by simp
      have a6:(P.set q AObj.dead).length=P.length:=az
      have up:∀ k o,k≠q→P[k]? = some o→(P.set q .dead++[AObj.cells 3 z0.cells,.cells 3 ((List.replicate (i+1) z0).flatMap Sec.cells)])[k]? = some o:=fun k o D ho=>by rw [ag (by rw [a6]; exact ah ho),aq (fun e=>D e.symm)]; exact ho
      have B:(P.set q .dead++[AObj.cells 3 z0.cells,.cells 3 ((List.replicate (i+1) z0).flatMap Sec.cells)])[P.length+1]? = some (.cells 3 ((List.replicate (i+1) z0).flatMap Sec.cells)):=by rw [← a6,jv]; rfl
      have b6:(P.set q .dead++[AObj.cells 3 z0.cells,.cells 3 ((List.replicate (i+1) z0).flatMap Sec.cells)])[q]? = some .dead:=by rw [ag (by rw [a6]; exact C),bj C]
      have us:=up _ _ ax.symm d.hs;have uc:=up _ _ ay.symm d.hc;have um:=up _ _ cp.symm d.hm;have b7:∀ k o,H[k]? = some o→(P.set q .dead++[AObj.cells 3 z0.cells,.cells 3 ((List.replicate (i+1) z0).flatMap Sec.cells)])[k]? = some o:=fun k o D=>up k o (by have:=ah D; omega) (d.pre k o D)
      obtain ⟨P',x',w',i1,i2,i3⟩:=l555 h L hw N hb (c2:=c2) (s:=s) (m:=m) j (i+1) ((P.set q .dead++[AObj.cells 3 z0.cells,.cells 3 ((List.replicate (i+1) z0).flatMap Sec.cells)]).set s (.cells 11 (mtC fi.fl F.n F.z F.lim m (.slice (some (P.length+1,0)) (i+1) none)))) (.slice (some (P.length+1,0)) (i+1) none) (min (min w q) s) (by omega)
        ⟨fun k o D=>by have:=ah D;have c5:=d.ns;rw [aq (by omega)]; exact b7 k o D,
         by rw [aq G.symm]; exact uc,
         bj (by rw [a0]; omega),
         by rw [aq J.symm]; exact um,
         .inr ⟨by simp,P.length+1,by omega,by rw [bq],by rw [aq (by omega)]; exact B⟩,d.nc,d.ns,d.nm⟩ (by have:=d.ns; omega)
      refine ⟨P',x',w',i1,i2,fun k=>?_⟩;have ih:=i3 k;rw [e2] at ih;have cx:(i:Int) < F.n:=by omega
      have bb:¬ q=P.length+1:=by omega
      rw [b9,← ih];have U:=fun X=>(ag (l₂:=X) ac).trans g2
      have V:=fun X=>(ag (l₂:=X) Q).trans g1
      have cy:=fun X=>(ag (l₂:=X) C).trans p
      unfold mtC at us ⊢;rw [O] at A B us a0 b6 ⊢;generalize (List.replicate (i+1) z0).flatMap Sec.cells=Y at *;generalize (List.replicate i z0).flatMap Sec.cells=Y0 at *;generalize ACode.loop code555L0=LL;simp (disch:=omega) [code555L0,-d7,-sget,zq,vj,zr,-ew,lq,lr,jf,ex,y,g1,g2,B,U,V,cy,A,an,cx,al,a0,b6,us,bb,ay,ax]
end
end
end Go.Abs.AbsBlo

namespace Go.Abs.AbsBlo
open Go.Abs.AbsBlb hiding T
open Go.Abs.Short
theorem finish_cases2 {h0 h:Heap} {v:AVal} (A:v.under h0.size=false) :
  (∃ w,dj h0 v h=(v,⟨h.objs,h.base,w⟩)∧(w=min h0.wmin h.wmin∨(w=h0.wmin∧h0.size≤h.wmin))) ∨
  (h0.size≤h.wmin∧∃ f I X,dj h0 v h=(v.ren f,⟨h0.objs++X,h0.base,h0.wmin⟩)∧Moves f I h0.size h.objs (h0.objs++X)∧(∀ j ∈ v.ids,h0.size≤j→I j)∧∀ i,i < h0.size→f i=i):=by
 unfold dj;by_cases hw:h.wmin < h0.size
 ·rw [if_pos hw]; exact .inl ⟨_,rfl,.inl rfl⟩
 ·rw [if_neg hw,A];simp only [cg,if_false];generalize B:reach h h0.size 1000 v.ids []=k;have p:∀ i ∈ k,h0.size≤i:=by rw [← B]; exact uk _ _ _ (by simp)
  split
  ·rename_i d;refine .inr ⟨by omega,fun i=>if i < h0.size then i else h0.size+idxIn i k,fun i=>i ∈ k,_,rfl,⟨fun i obj hi ho=>?_,fun i obj hi ho j q C=>?_,fun i hi=>?_⟩,fun j q C=>?_,fun i hi=>if_pos hi⟩
   ·have h1:=p i hi;obtain ⟨h2,D⟩:=zb2 hi;have G:¬ i < h0.size:=by omega
    simp only [if_neg G];have J:h0.size=h0.objs.length:=rfl;rw [J,aw (by omega),iw,bp,D];have y:h.get i=some obj:=ho;simp only [b8,y,ed]
   ·rw [ap] at d;have y:h.get i=some obj:=ho;have:=d j (gb _ (dx.2 ⟨i,hi,by rw [y]; exact q⟩));simp only [c9,decide_eq_true_eq] at this;rcases this with e | e
    ·omega
    ·simpa using e
   ·show h0.size≤if i < h0.size then i else h0.size+idxIn i k
    rw [if_neg (by omega)]; omega
   ·rw [ap] at d;have:=d j (dr _ q);simp only [c9,decide_eq_true_eq] at this;rcases this with e | e
    ·omega
    ·simpa using e
  ·exact .inl ⟨_,rfl,.inr ⟨rfl,by omega⟩⟩
theorem finish_any2 {O P:List AObj} {b w':Nat} {v:AVal} (d:v.under O.length=false) (hw:O.length≤w') :
  (∀ w,dj ⟨O,b,w⟩ v ⟨P,b,w'⟩=(v,⟨P,b,w⟩)) ∨
  (∃ f I X,(∀ w,dj ⟨O,b,w⟩ v ⟨P,b,w'⟩=(v.ren f,⟨O++X,b,w⟩))∧Moves f I O.length P (O++X)∧(∀ j ∈ v.ids,O.length≤j→I j)∧∀ i,i < O.length→f i=i):=by
 rcases finish_cases2 (h0:=⟨O,b,0⟩) (h:=⟨P,b,w'⟩) d with ⟨w1,e,-⟩ | ⟨-,f,I,X,e,hm,hi,p⟩
 ·exact .inl fun w=>by rw [wh hw,e]
 ·exact .inr ⟨f,I,X,fun w=>by rw [wh hw,e],hm,hi,p⟩
section
variable {H:List AObj} {b w:Nat} {fi:FI} {F:Fl}
section
attribute [-simp] getElem?_pos getElem?_neg List.all_eq_true
attribute [local simp] qZ qS nltT nltF iltT iltF ileT nleT di
theorem s572 {g:Nat} {am cm:List AVal}:xCall T 572 [.slice none 0 (some 0),.func g am cm] ⟨H,b,w⟩=some (.tuple [],⟨H,b,w⟩):=by
 have d:∀ w,xCall T 606 [.slice none 0 (some 0),.int .i64 0,.int .i64 0,.func g am cm] ⟨H,b,w⟩=some (.tuple [],⟨H,b,w⟩):=fun w=>by simp (disch:=omega) [bg (sub _ _ AbsBlb.t606),code606,b9,code606L1]
 have e:∀ w,xCall T 590 [.slice none 0 (some 0),.int .i64 0,.func g am cm] ⟨H,b,w⟩=some (.tuple [],⟨H,b,w⟩):=fun w=>by simp (disch:=omega) [bg (sub _ _ AbsBlb.t590),code590,b9,code590L1,code590L2,d]
 simp (disch:=omega) [bg (sub _ _ AbsBlb.t572),code572,e]
theorem s570 {fl n z lim m s:Nat} {x:AVal} (hs:H[s]? = some (.cells 11 (mtC fl n z lim m x))) (hb:b≤s):xCall T 570 [.ptr (some (s,0)),.slice none 0 (some 0)] ⟨H,b,w⟩=some (.int .i64 0,⟨(H++[AObj.map [] 0]).set s (.cells 11 (mtC fl n z lim H.length x)),b,min w s⟩):=by
 have d:=ah hs;unfold mtC at hs ⊢;have p:=(ag (l₂:=[AObj.map [] 0]) d).trans hs;have q:∀ o X,(H.set s o++X)[s]? = some o:=fun o X=>by rw [ag (by rw [az]; exact d),bj d]
 have y:∀ o e X,(H.set s o++X).set s e=H.set s e++X:=fun o e X=>by rw [List.set_append_left _ _ (by rw [az]; exact d),List.set_set]
 have j:∀ e X,(H++X).set s e=H.set s e++X:=fun e X=>by rw [List.set_append_left _ _ d]
 rw [j];simp (disch:=omega) [bg t570,code570,b9,code570L0,hs,p,hb,q,y,j]
end
def K0 (n:Nat):StU:=⟨List.replicate n z0,[],0,-1,0,0,0,false⟩
theorem cnt_rep (lim:Int) (n:Nat):∀ i,i≤n→cnt (opn lim) (List.replicate n z0) i=i
 | 0,_=>rfl
 | i+1,hi=>by
  have d:=cnt_rep lim n i (by omega);have hx:(List.replicate n z0)[i]? = some z0:=by rw [ft,if_pos (by omega)]
  have ho:opn lim z0=true:=by simp [opn,z0]
  simp only [cnt,hx,ho,if_true,d]
theorem p555 (h:FlA H fi F) (a0:∀ j,j < F.b.length→F.b[j]? = some 255) (hw:∀ i,i < F.n→F.w[i]? = some 0) (hz:12≤F.z) (an:0 < F.n) (hb:b≤H.length) :
  ∃ H' I,Pre H H'∧I.fi=fi∧H.length≤I.s∧H.length≤I.sa∧H.length≤I.m∧StA H' I F (K0 F.n)∧∀ w,xCall T 555 [.ptr (some (fi.fl,0))] ⟨H,b,w⟩=some (.tuple [.ptr (some (I.s,0)),.int .i64 0],⟨H',b,w⟩):=by
 have ao:=h.nb.1;have a6:=ah h.f;have L:=fun X w=>cf sub (s573 (H:=H++X) (b:=b) (w:=w) (h.app X))
 have g0:=gc H [AObj.cells 1 [.ptr (some (H.length+2,0))],.map [] 0,.cells 11 (mtC fi.fl F.n F.z F.lim (H.length+1) (.slice none 0 (some 0)))];have gm:=jv H [AObj.cells 1 [.ptr (some (H.length+2,0))],.map [] 0,.cells 11 (mtC fi.fl F.n F.z F.lim (H.length+1) (.slice none 0 (some 0)))] 1;have gs:=jv H [AObj.cells 1 [.ptr (some (H.length+2,0))],.map [] 0,.cells 11 (mtC fi.fl F.n F.z F.lim (H.length+1) (.slice none 0 (some 0)))] 2
 obtain ⟨p,x1,w1,i1,i2,i3⟩:=l555 (b:=b) h a0 hw hz hb (c2:=H.length) (s:=H.length+2) (m:=H.length+1) F.n 0 (H++[AObj.cells 1 [.ptr (some (H.length+2,0))],.map [] 0,.cells 11 (mtC fi.fl F.n F.z F.lim (H.length+1) (.slice none 0 (some 0)))]) (.slice none 0 (some 0)) H.length (by omega)
  ⟨fun k o y=>by rw [ag (ah y)]; exact y,g0,gs,gm,.inl ⟨rfl,rfl⟩,aj _,by omega,by omega⟩ (aj _)
 have al:=i1.pre.len;have G:=ah i1.hc;have ax:=ah i1.hs;have C:=fun w=>s570 (b:=b) (w:=w) i1.hs (by omega)
 have N:=fun P w=>s572 (H:=P) (b:=b) (w:=w) (g:=571) (am:=[]) (cm:=[.ptr (some (H.length,0))])
 let d:=(p++[AObj.map [] 0]).set (H.length+2) (.cells 11 (mtC fi.fl F.n F.z F.lim p.length x1))
 have Q:(p++[AObj.map [] 0]).set (H.length+2) (.cells 11 (mtC fi.fl F.n F.z F.lim p.length x1))=d:=rfl
 have up:∀ k o,k≠H.length+2→p[k]? = some o→d[k]? = some o:=fun k o y ho=>by
  show ((p++_).set _ _)[k]? = _
  rw [aq (fun e=>y e.symm),ag (ah ho)]; exact ho
 have k0:d[H.length]? = some (.cells 1 [.ptr (some (H.length+2,0))]):=up _ _ (by omega) i1.hc;have ks:d[H.length+2]? = some (.cells 11 (mtC fi.fl F.n F.z F.lim p.length x1)):=bj (by rw [au]; omega)
 have km:d[p.length]? = some (.map [] 0):=by
  show ((p++[AObj.map [] 0]).set _ _)[_]? = _
  rw [aq (by omega),gc]; rfl
 rcases i1.hx with ⟨e,-⟩ | ⟨-,q,hq,rfl,A⟩
 ·have:=congrArg List.length e;simp at this;omega
 ·rw [bq] at ks Q C;have aa:q≠H.length+2:=fun e=>by rw [e,i1.hs] at A; simp [mtC] at A
  have kq:d[q]? = some (.cells 3 ((List.replicate F.n z0).flatMap Sec.cells)):=up _ _ aa A;have B:Pre H d:=fun k o y=>up k o (by have:=ah y; omega) (i1.pre k o y)
  have J:d.set H.length (.cells 1 [.ptr (some (H.length+2,0))])=d:=np k0;have hR:Row d 3 Sec.cells (List.replicate F.n z0) (some (q,0)):=Row.mk0 (fun _=>rfl) kq;have h0:=fun c w=>cf sub (s0 (os:=d) (b:=b) (w:=w) (c:=c) (lim:=F.lim) hR (by rw [bq]; omega))
  simp only [bq,cnt_rep F.lim F.n F.n (aj _)] at h0;have hv:AVal.under H.length (.tuple [.ptr (some (H.length+2,0)),.int .i64 0])=false:=by simp [AVal.under,AVal.unders]
  have ay:xCall T 555 [.ptr (some (fi.fl,0))]=fun h=>xCall T 555 [.ptr (some (fi.fl,0))] h:=rfl
  have D:∀ w,xCall T 555 [.ptr (some (fi.fl,0))] ⟨H,b,w⟩=some (dj ⟨H,b,w⟩ (.tuple [.ptr (some (H.length+2,0)),.int .i64 0]) ⟨d,b,min (min w1 (H.length+2)) H.length⟩):=fun w=>by
   have U:=ks;have k1:=i1.hc;unfold mtC at U g0 gs i3 ;simp only [bf] at i3;have V:¬ (F.n=0):=by omega
   simp (disch:=omega) [-getElem?_pos,-getElem?_neg,-List.all_eq_true,qZ,qS,nltT,nltF,iltT,iltF,ileT,nleT,di,bg t555,code555,-dj,L,i3,N,C,Q,k0,k1,U,h0,J,V]
  have key:∀ (O:List AObj) (f:Nat→Nat),Pre H O→f fi.fl=fi.fl→O[f (H.length+2)]? = some ((AObj.cells 11 (mtC fi.fl F.n F.z F.lim p.length (.slice (some (q,0)) F.n none))).ren f)→O[f q]? = some ((AObj.cells 3 ((List.replicate F.n z0).flatMap Sec.cells)).ren f)→O[f p.length]? = some ((AObj.map [] 0).ren f)→StA O ⟨f (H.length+2),f q,none,f p.length,fi⟩ F (K0 F.n):=fun O f hp hf o1 o2 o3=>by
   refine ⟨h.keep fun k o ho _=>hp k o ho,?_,?_,?_,bq,.inl rfl,fk _,by show 0 < 4294967296; decide,by show 0 < 4294967296; decide⟩
   ·rw [o1];simp [mtC,AObj.ren,AVal.renL,AVal.ren,hf,StU.cells,K0]
   ·rw [o2];show some (AObj.cells 3 (AVal.renL f _))=_;rw [renL_sec]; rfl
   ·rw [o3]; rfl
  rcases finish_any2 (b:=b) (P:=d) hv (w':=min (min w1 (H.length+2)) H.length) (by omega) with e | ⟨f,Ic,X,e,hm,hi,hf⟩
  ·refine ⟨d,⟨H.length+2,q,none,p.length,fi⟩,B,rfl,by show H.length≤H.length+2; omega,hq,by show H.length≤p.length; omega,?_,fun w=>by rw [D w,e w]⟩;refine key d id B rfl ?_ ?_ ?_
   ·show d[H.length+2]? = _
    rw [ks];simp [mtC,AObj.ren,AVal.renL,AVal.ren]
   ·show d[q]? = _
    rw [kq];show _=some (AObj.cells 3 (AVal.renL id _));rw [renL_sec]
   ·show d[p.length]? = _
    rw [km]; rfl
  ·have W:Ic (H.length+2):=hi _ (by simp [AVal.ids,AVal.idsL]) (by omega);have G:=hm.cl _ _ W ks;have ac:Ic q:=G q (by simp [mtC,AObj.ids,AVal.idsL,AVal.ids]) hq;have ad:Ic p.length:=G _ (by simp [mtC,AObj.ids,AVal.idsL,AVal.ids]) (by omega)
   refine ⟨H++X,⟨f (H.length+2),f q,none,f p.length,fi⟩,fun k o y=>by rw [ag (ah y)]; exact y,rfl,hm.up _ (by omega),hm.up _ hq,hm.up _ (by omega),?_,fun w=>by rw [D w,e w];simp [AVal.ren,AVal.renL]⟩
   exact key _ f (fun k o y=>by rw [ag (ah y)]; exact y) (hf _ a6) (hm.at' _ _ W ks) (hm.at' _ _ ac kq) (hm.at' _ _ ad km)
end
end Go.Abs.AbsBlo

namespace Go.Abs.AbsBlo
open Go.Abs.AbsBlb hiding T
open Go.Abs.Short
section
variable {H:List AObj} {b w:Nat} {I:SI} {F:Fl} {K:StU}
section
attribute [-simp] getElem?_pos getElem?_neg List.all_eq_true
attribute [local simp] qZ qS nltT nltF iltT iltF ileT nleT di
theorem n555 (hb:b≤H.length):xCall T 555 [.ptr none] ⟨H,b,w⟩=some (.tuple [.ptr none,.int .i64 1],⟨H,b,w⟩):=by simp (disch:=omega) [bg t555,code555,hb]
theorem s562 (h:StA H I F K) {k:Bs} {p:PlU} {t:Nat} (hx:K.ix=[(k,p,t)]) (V:t < K.clock) (hk:k.length≤1000) (a6:p.blob.length≤5000) (hb:b≤H.length):xCall T 562 [.ptr (some (I.s,0))] ⟨H,b,w⟩=some (.int .i64 ((32+k.length+p.blob.length:Nat):Int),⟨H,b,w⟩):=by
 have W:=h.s
 have gm:H[I.m]? = some (.map [(.str k,p.val,t)] K.clock):=by have:=h.m;unfold StU.map at this;rw [hx] at this;exact this
 unfold StU.cells at W;have O:=ah gm;have d:=fun w (X:List AObj) (Q:Bs) (aa:Q.length≤1000)=>cf sub (s589 (H:=H++X) (b:=b) (w:=w) (r:=⟨0,0,Q,[],0⟩) (a:=none) (c:=some 0) (show Q.length≤1000000 by omega) (by show 0≤1000000; decide))
 simp only [RecU.cells,RecU.size,eq,bf,qg] at d;have j:=fun w X=>d w X k hk
 have q:=fun w X=>d w X [] (by decide)
 simp only [eq,qg,bf] at q;have ek:((16+k.length:Nat):Int)=16+(k.length:Int):=by omega
 rw [ek] at j;have U:∀ x:AObj,(H++[x])[H.length]? = some x:=fun x=>gc _ _
 have D:∀ X,(H++X)[I.m]? = some (.map [(.str k,p.val,t)] K.clock):=fun X=>by rw [ag O]; exact gm
 have B:∀ x y:AObj,(H++[x]).set H.length y=H++[y]:=fun x y=>set_k0 H [x] y
 refine xCallW t562 rfl ?_;unfold code562;refine na (Wp_x rfl ?_);simp (disch:=omega) [];refine na (Wp_x rfl ?_);simp (disch:=omega) [];refine na (Wp_x rfl ?_);simp (disch:=omega) [];refine na (na (Wp_x rfl ?_));simp (disch:=omega) [W,gm,ct];refine ul (Wp_block (zb5 ?_));unfold code562L0;refine zae ?_;refine na (ul (na ?_));refine zaf (m:=I.m) (i:=H.length) (since:=K.clock) (last:=K.clock) (clock:=K.clock) (seen:=[]) (es:=[(.str k,p.val,t)]) (by simp) (by show b≤_; exact hb) (U _) (D _) (fun e A=>?_) (aj _) (fun C=>?_) (fun e A a0=>?_)
 ·rw [bk] at A; subst A; exact V
 ·exact absurd (C _ (dp _)) (by simp)
 ·rw [bk] at A;subst A
  have J:∀ w,ct .entry [.ptr (some (H.length,0))] ⟨H++[.mapIter (some I.m) K.clock [t] K.clock],b,w⟩=some (.tuple [.str k,p.val],⟨H++[.mapIter (some I.m) K.clock [t] K.clock],b,w⟩):=fun w=>by simp only [ct,Heap.get,U,D,List.getLast?_singleton,if_true];simp
  have L:∀ w,(⟨H++[AObj.mapIter (some I.m) K.clock [] K.clock],b,w⟩:Heap).put H.length (.mapIter (some I.m) K.clock ([]++[t]) K.clock)=⟨H++[AObj.mapIter (some I.m) K.clock [t] K.clock],b,min w H.length⟩:=fun w=>by simp only [Heap.put,B,dw]
  simp only [L];unfold PlU.val at J;refine Wp_x rfl ?_;simp (disch:=omega) [];refine na (Wp_x rfl ?_);simp (disch:=omega) [];refine Wp_x rfl ?_;simp (disch:=omega) [-ct,J,j,q];refine zb5 ?_;refine zae ?_;refine na (ul (na ?_));refine zaf (m:=I.m) (i:=H.length) (since:=K.clock) (last:=K.clock) (clock:=K.clock) (seen:=[t]) (es:=[(.str k,p.val,t)]) (by simp) (by show b≤_; exact hb) (U _) (D _) (fun e A=>?_) (aj _) (fun C=>?_) (fun e A N=>?_)
  ·rw [bk] at A; subst A; exact V
  ·have G:∀ w,(⟨H++[AObj.mapIter (some I.m) K.clock [t] K.clock],b,w⟩:Heap).put H.length .dead=⟨H++[AObj.dead],b,min w H.length⟩:=fun w=>by simp only [Heap.put,B]
   simp only [G];have en:((32+k.length+p.blob.length:Nat):Int)=16+(k.length:Int)+p.blob.length+16:=by omega
   refine Wp_x rfl ?_;simp (disch:=omega) [];refine Wp_x rfl ?_;simp (disch:=omega) [];refine na (Wp_x rfl ?_);simp (disch:=omega) [];refine Wp_x rfl ?_;simp (disch:=omega) [];omega
  ·rw [bk] at A;subst A;exact absurd (dp _) N
end
end
end Go.Abs.AbsBlo

namespace Go.Abs.AbsBlo
open Go.Abs.AbsBlb hiding T
open Go.Abs.Short
def F0 (n z lim:Nat):Fl:=⟨n,z,lim,List.replicate (n*z) 255,List.replicate n 0⟩
def newO (N n z lim:Nat):List AObj:=[.cells 9 [.int .i64 n,.int .i64 z,.int .i64 lim,.slice (some (N+1,0)) (n*z) (some (n*z)),.slice (some (N+2,0)) n (some n),.bool false,.int .i64 (-1),.int .i64 0,.int .u8 0],.cells 1 ((List.replicate (n*z) (255:UInt8)).map u8V),.cells 1 (List.replicate n (.int .i64 0))]
section
variable {E:Env} {H:List AObj} {b w:Nat} {kl:List Bs}
theorem flash0 {n z lim:Nat} (d:1≤n∧n≤64) (e:64≤z∧z≤65536) (j:1≤lim∧lim≤1048576):FlA (H++newO H.length n z lim) ⟨H.length,H.length+1,H.length+2,some (n*z),some n⟩ (F0 n z lim):=by
 refine ⟨?_,?_,?_,bq,bq,⟨d.2,e.2⟩,j.2,fun x hx=>?_,by show H.length+1≠H.length+2; omega,fun c hc=>?_,fun c hc=>?_⟩
 ·show (H++newO H.length n z lim)[H.length]? = _
  rw [gc];simp [newO,Fl.cells,F0]
 ·show (H++newO H.length n z lim)[H.length+1]? = _
  rw [jv]; rfl
 ·show (H++newO H.length n z lim)[H.length+2]? = _
  rw [jv];show some (AObj.cells 1 (List.replicate n (.int .i64 0)))=_;show _=some (AObj.cells 1 ((List.replicate n 0).map natV));rw [List.map_replicate]; rfl
 ·have:x ∈ List.replicate n 0:=hx;rw [List.eq_of_mem_replicate this]; exact fk _
 ·cases hc;exact bq.symm
 ·cases hc;exact bq.symm
theorem inv0 {fi:FI} {n z lim:Nat} (h:FlA H fi (F0 n z lim)) (q:12≤z):AbsBlb.Inv kl (F0 n z lim) (K0 n):=by
 have hb:∀ j,j < (F0 n z lim).b.length→(F0 n z lim).b[j]? = some 255:=fun j d=>by have d:j < (List.replicate (n*z) (255:UInt8)).length:=d;rw [bq] at d;show (List.replicate (n*z) (255:UInt8))[j]? = _;rw [ft,if_pos d]
 have hw:∀ i,i < (F0 n z lim).n→(F0 n z lim).w[i]? = some 0:=fun i hi=>by have hi:i < n:=hi;show (List.replicate n 0)[i]? = _;rw [ft,if_pos hi]
 refine ⟨q,bq,bq,bq,fun i hi=>?_,rfl,.inl rfl,⟨by simp [K0],by simp [K0],fun e p=>by cases p⟩,fun e p=>(by cases p),fun i hi=>absurd rfl hi⟩;rw [zb6 h hb hw hi];have hi:i < n:=hi;show (List.replicate n z0)[i]? = _;rw [ft,if_pos hi]
theorem store0 {n z lim:Nat} (y:1≤n∧n≤64) (A:64≤z∧z≤65536) (B:1≤lim∧lim≤1048576) (e:n*z≤262144) (hb:b≤H.length) :
  (∀ w,xCall T 556 [.agg [.int .i64 n,.int .i64 z,.int .i64 lim]] ⟨H,b,w⟩=some (.tuple [.ptr (some (H.length,0)),.int .i64 0],⟨H++newO H.length n z lim,b,w⟩)) ∧
  ∃ H' I,Pre (H++newO H.length n z lim) H'∧I.lo b∧I.fi=⟨H.length,H.length+1,H.length+2,some (n*z),some n⟩∧H.length≤I.s∧SO kl H' I (F0 n z lim) (K0 n) ∧
   ∀ w,xCall T 555 [.ptr (some (H.length,0))] ⟨H++newO H.length n z lim,b,w⟩=some (.tuple [.ptr (some (I.s,0)),.int .i64 0],⟨H',b,w⟩):=by
 refine ⟨fun w=>s556 y A B e,?_⟩;have C:=flash0 (H:=H) y A B;have D:(H++newO H.length n z lim).length=H.length+3:=by simp [newO]
 have p:∀ j,j < (F0 n z lim).b.length→(F0 n z lim).b[j]? = some 255:=fun j d=>by have d:j < (List.replicate (n*z) (255:UInt8)).length:=d;rw [bq] at d;show (List.replicate (n*z) (255:UInt8))[j]? = _;rw [ft,if_pos d]
 have hw:∀ i,i < (F0 n z lim).n→(F0 n z lim).w[i]? = some 0:=fun i hi=>by have hi:i < n:=hi;show (List.replicate n 0)[i]? = _;rw [ft,if_pos hi]
 obtain ⟨H',I,G,q,N,O,Q,J,L⟩:=p555 (b:=b) C p hw (by show 12≤z; omega) (by show 0 < n; omega) (by omega);refine ⟨H',I,G,⟨by omega,by omega,by omega,by rw [q]; show b≤H.length+1; omega,by rw [q]; show b≤H.length+2; omega⟩,q,by omega,⟨J,inv0 C (by omega)⟩,L⟩
end
end Go.Abs.AbsBlo

namespace Go.Abs.AbsBlo
open Go.Abs.AbsBlb hiding T
open Go.Abs.Short
def f557:ACode:=.seq (R [2,3,4,5,6,7] [v 29 3,o 30 (.callg 482 [t 29,.const (.str [97])]),v 28 30,o 31 (.extract (t 28) 0),o 32 (.extract (t 28) 1),v 6 31,v 7 32])
 (.seq (R [2,3,4,5,6,7,9] [v 34 3,o 35 (.callg 482 [t 34,.const (.str [98])]),v 33 35,o 36 (.extract (t 33) 0),o 37 (.extract (t 33) 1),v 8 36,v 9 37])
 (.seq (R [2,3,4,5,6,7,9,11] [o 39 (.callg 555 [.const (.ptr none)]),v 38 39,o 40 (.extract (t 38) 0),o 41 (.extract (t 38) 1),v 10 40,v 11 41])
 (.seq (R [0] [v 42 2,o 43 (.bin .eql (t 42) (n 0)),v 44 43,g 45 44 true (.val (t 4)),g 46 44 true (.bin .eql (t 45) (n 0)),o 47 (.pick (t 44) (t 46) F),v 48 47,g 49 48 true (.val (t 5)),g 50 48 true (.bin .eql (t 49) (n 0)),o 51 (.pick (t 48) (t 50) F),v 52 51,g 53 52 true (.val (t 11)),g 54 52 true (.bin .eql (t 53) (n 1)),o 55 (.pick (t 52) (t 54) F),v 56 55,g 57 56 true (.val (t 7)),o 58 (.pick (t 56) (t 57) F),v 59 58,g 60 59 true (.val (t 9)),g 61 59 true (.un .not (t 60)),o 62 (.pick (t 59) (t 61) F),v 63 62,g 64 63 true (.val (t 6)),g 65 63 true (.conv .string (t 64)),g 66 63 true (.bin .eql (t 65) (.const (.str [120,121]))),o 67 (.pick (t 63) (t 66) F),v 68 67,g 69 68 true (.val (t 3)),g 70 68 true (.callg 562 [t 69]),g 71 68 true (.bin .eql (t 70) (n 35)),o 72 (.pick (t 68) (t 71) F),v 73 72,g 74 73 true (.val (t 3)),g 75 73 true (.callg 563 [t 74]),g 76 73 true (.bin .eql (t 75) (n 58)),o 77 (.pick (t 73) (t 76) F),v 0 77])
 (.live [0] (.ret)))))
theorem body557:code557.body = .seq (R [] [o 0 (.val F)])
 (.seq (R [1,2] [o 13 (.build [.int .i64 0,.int .i64 0,.int .i64 0] [(0,1,n 4),(1,1,n 128),(2,1,n 9)]),o 14 (.callg 556 [t 13]),v 12 14,o 15 (.extract (t 12) 0),o 16 (.extract (t 12) 1),v 1 15,v 2 16])
 (.seq (R [2,3,4] [v 18 1,o 19 (.callg 555 [t 18]),v 17 19,o 20 (.extract (t 17) 0),o 21 (.extract (t 17) 1),v 3 20,v 4 21])
 (.seq (R [2,3,4,5] [v 22 3,o 23 (.mkslice 1 2 [.int .u8 0,.int .u8 0] [(0,1,.const (.int .u8 120)),(1,1,.const (.int .u8 121))]),o 24 (.conv .same (t 23)),o 25 (.build [.bool false,.str [],.slice none 0 (some 0)] [(1,1,.const (.str [97])),(2,1,t 24)]),o 26 (.mkslice 3 1 [.bool false,.str [],.slice none 0 (some 0)] [(0,3,t 25)]),o 27 (.callg 549 [t 22,t 26]),v 5 27])
 f557))):=rfl
section
variable {E:Env} {H:List AObj} {b:Nat}
theorem fe557 {P:List AObj} {w w':Nat} (hw:H.length≤w'):funcEnd code557 ⟨H,b,w⟩ (.ret,⟨[(0,.val (.bool true))],⟨P,b,w'⟩⟩)=some (.bool true,⟨H,b,w⟩):=by
 have:¬ w' < H.length:=by omega
 simp [funcEnd,code557,resultsL,result1,sget,tupled,dj,Heap.size,this,AVal.under]
theorem good0:GoodC (F0 4 128 9) (K0 4) [⟨false,[97],[120,121],.slice none 0 none⟩]:=by refine ⟨by decide,by decide,fun _=>⟨by decide,by decide,by decide,by decide⟩⟩
section
attribute [-simp] getElem?_pos getElem?_neg List.all_eq_true
attribute [local simp] qZ qS nltT nltF iltT iltF ileT nleT di
theorem c557 (L:AgreesX E T) (hm:E.P.follows .mixedOrders=true) (hF:IsCode E 617 code617) (W:IsCode E 599 code599) (a0:IsCode E 580 code580) (a6:IsCode E 549 code549) (aa:IsCode E 557 code557) (hb:b=H.length) (w:Nat) :
  CallD E 557 [] ⟨H,b,w⟩ fun v h'=>v = .bool true∧h'=⟨H,b,w⟩:=by
 refine CallD.of_code aa rfl ?_;rw [body557];have ac:enter 0 ([]:List AVal)=[]:=rfl;have ad:(⟨H,b,w⟩:Heap).size=H.length:=rfl;rw [ac];simp only [ad];obtain ⟨y,d,I,k1,k2,k3,k4,k5,N⟩:=store0 (H:=H) (b:=b) (kl:=[[97]]) (n:=4) (z:=128) (lim:=9) (by decide) (by decide) (by decide) (by decide) (by omega);simp only [bf] at y;refine CodeD.seq nofun (CodeD.run (e:=.normal) (st':=⟨[],⟨H,b,H.length⟩⟩) L hm (fun k'=>by simp (disch:=omega) []) ?_);refine CodeD.seq nofun (CodeD.run (e:=.normal) (st':=⟨[(1,.val (.ptr (some (H.length,0)))),(2,.val (.int .i64 0))],⟨H++AbsBlo.newO H.length 4 128 9,b,H.length⟩⟩) L hm (fun k'=>by simp (disch:=omega) [y]) ?_);refine CodeD.seq nofun (CodeD.run (e:=.normal) (st':=⟨[(2,.val (.int .i64 0)),(3,.val (.ptr (some (I.s,0)))),(4,.val (.int .i64 0))],⟨d,b,H.length⟩⟩) L hm (fun k'=>by simp (disch:=omega) [N]) ?_);have bx:=k1.len
 have c5:(H++AbsBlo.newO H.length 4 128 9).length=H.length+3:=by simp [AbsBlo.newO]
 have O:b≤d.length:=by omega
 have ci:(d++[AObj.cells 1 [.int .u8 120,.int .u8 121],.cells 3 [.bool false,.str [97],.slice (some (d.length,0)) 2 (some 2)]]).length=d.length+2:=by simp
 have al:=gc d [AObj.cells 1 [.int .u8 120,.int .u8 121],.cells 3 [.bool false,.str [97],.slice (some (d.length,0)) 2 (some 2)]];have an:=jv d [AObj.cells 1 [.int .u8 120,.int .u8 121],.cells 3 [.bool false,.str [97],.slice (some (d.length,0)) 2 (some 2)]] 1;have ao:=qm k5 [AObj.cells 1 [.int .u8 120,.int .u8 121],.cells 3 [.bool false,.str [97],.slice (some (d.length,0)) 2 (some 2)]]
 have Q:∀ k:Slots→Heap→Option (Slots × Heap),opsK (xCall T) [v 22 3,o 23 (.mkslice 1 2 [.int .u8 0,.int .u8 0] [(0,1,.const (.int .u8 120)),(1,1,.const (.int .u8 121))]),o 24 (.conv .same (t 23)),o 25 (.build [.bool false,.str [],.slice none 0 (some 0)] [(1,1,.const (.str [97])),(2,1,t 24)]),o 26 (.mkslice 3 1 [.bool false,.str [],.slice none 0 (some 0)] [(0,3,t 25)])] [(2,.val (.int .i64 0)),(3,.val (.ptr (some (I.s,0)))),(4,.val (.int .i64 0))] ⟨d,b,H.length⟩ (k:=⟨k⟩) =
   k [(26,.val (.slice (some (d.length+1,0)) 1 (some 1))),(25,.val (.agg [.bool false,.str [97],.slice (some (d.length,0)) 2 (some 2)])),(24,.val (.slice (some (d.length,0)) 2 (some 2))),(23,.val (.slice (some (d.length,0)) 2 (some 2))),(22,.val (.ptr (some (I.s,0)))),(2,.val (.int .i64 0)),(3,.val (.ptr (some (I.s,0)))),(4,.val (.int .i64 0))]
    ⟨d++[AObj.cells 1 [.int .u8 120,.int .u8 121],.cells 3 [.bool false,.str [97],.slice (some (d.length,0)) 2 (some 2)]],b,H.length⟩:=fun k=>by simp (disch:=omega) [O]
 generalize cp:d++[AObj.cells 1 [.int .u8 120,.int .u8 121],.cells 3 [.bool false,.str [97],.slice (some (d.length,0)) 2 (some 2)]]=M at *;have hR:Row M 3 ChU.cells [⟨false,[97],[120,121],.slice (some (d.length,0)) 2 (some 2)⟩] (some (d.length+1,0)):=Row.mk0 (fun _=>rfl) (by rw [an]; rfl)
 have D:∀ c ∈ [(⟨false,[97],[120,121],.slice (some (d.length,0)) 2 (some 2)⟩:ChU)],c.fine M∧c.key ∈ ([[97]]:List Bs):=fun c hc=>by rw [bk] at hc;subst hc;refine ⟨⟨⟨some (d.length,0),some 2,rfl,fun p o e=>?_,.inr ⟨d.length,0,rfl,SlB.whole al rfl,aj _⟩⟩,⟨_,_,_,_,rfl⟩,by show 1≤1; decide,by show 1≤64; decide,by show 2≤4096; decide⟩,dp _⟩;cases e;omega
 have ax:=commit_ok L hm hF W a0 a6 ao (fun k hk=>by rw [bk] at hk; subst hk; decide) (by decide) k2 (by omega) (by decide) hR (List.cons_ne_nil _ _) (by show 1≤16; decide) D (lc:=some 1) H.length;refine CodeD.seq nofun (CodeD.after (CodeD.regionX L hm ?_));refine OpsD.run (r:=[o 27 (.callg 549 [t 22,t 26]),v 5 27]) Q ?_;refine OpsD.call (g:=549) (xs:=[t 22,t 26]) rfl rfl rfl ax fun vv hh ay=>?_
 obtain ⟨H3,F',K',w3,e,rfl,s1,U,s3,s4,s5,rfl,s6,-⟩:=ay;obtain ⟨rfl,-,K1,hd,A,⟨e1,-⟩,e2,e3,-⟩:=s6 good0;refine OpsD.run (l:=[v 5 27]) (r:=[]) (s1:=[(5,.val (.int .i64 0)),(27,.val (.int .i64 0)),(26,.val (.slice (some (d.length+1,0)) 1 (some 1))),(25,.val (.agg [.bool false,.str [97],.slice (some (d.length,0)) 2 (some 2)])),(24,.val (.slice (some (d.length,0)) 2 (some 2))),(23,.val (.slice (some (d.length,0)) 2 (some 2))),(22,.val (.ptr (some (I.s,0)))),(2,.val (.int .i64 0)),(3,.val (.ptr (some (I.s,0)))),(4,.val (.int .i64 0))]) (h1:=⟨H3,b,w3⟩) (fun k'=>by simp (disch:=omega) []) (OpsD.done ?_);simp only []
 have b5:keepK [2,3,4,5] [(5,Slot.val (.int .i64 0)),(27,.val (.int .i64 0)),(26,.val (.slice (some (d.length+1,0)) 1 (some 1))),(25,.val (.agg [.bool false,.str [97],.slice (some (d.length,0)) 2 (some 2)])),(24,.val (.slice (some (d.length,0)) 2 (some 2))),(23,.val (.slice (some (d.length,0)) 2 (some 2))),(22,.val (.ptr (some (I.s,0)))),(2,.val (.int .i64 0)),(3,.val (.ptr (some (I.s,0)))),(4,.val (.int .i64 0))]=[(2,.val (.int .i64 0)),(3,.val (.ptr (some (I.s,0)))),(4,.val (.int .i64 0)),(5,.val (.int .i64 0))]:=by simp
 rw [b5]
 obtain ⟨p,rfl⟩:∃ p,A=[p]:=by
  cases A with
  | nil =>
   have:=congrArg List.length e2;simp at this
  | cons p A =>
   cases A with
   | nil=>exact ⟨p,rfl⟩
   | cons q A =>
    have:=congrArg List.length e2;simp at this
 have b6:p.1=⟨1,1,[97],[120,121],0⟩:=by have:p.1 :: []=_:=e2;injection this
 have j:K'.ix=[([97],⟨hd,K1.at_,[120,121]⟩,K1.clock)]:=by
  rw [e3];unfold wroteK founds founds;show (StU.apply _ hd K1.at_ (p.1.at (K1.txn+1))).ix=_;rw [b6];have hx:K1.ix=[]:=e1;unfold StU.apply RecU.at
  rw [if_neg (show ¬ (1=2) by decide)];unfold StU.put;simp [hx,findK]
 have b7:K1.clock < K'.clock:=U.v.ix.c ([97],⟨hd,K1.at_,[120,121]⟩,K1.clock) (by rw [j]; exact dp _);have B:=fun w=>cf sub (s482 (b:=b) (w:=w) U.a (k:=[97]) (x:=(0,⟨hd,K1.at_,[120,121]⟩)) (by rw [j]; rfl) (by show 2≤1000000; decide))
 have G:=fun X w=>cf sub (s482n (b:=b) (w:=w) (U.a.app X) (k:=[98]) (by rw [j]; rfl))
 have c4:=s1.len;have J:=fun X w=>n555 (H:=H3++X) (b:=b) (w:=w) (by rw [au]; omega)
 have C:=fun X w=>s562 (b:=b) (w:=w) (U.a.app X) j b7 (by decide) (by show 2≤5000; decide) (by rw [au]; omega)
 have V:=fun X w=>cf sub (s563 (b:=b) (w:=w) (U.a.app X) s3.n s3.z)
 have bb:([120,121]:Bs).map u8V=[.int .u8 120,.int .u8 121]:=rfl;simp only [bb,cq,eq,bf] at B C
 refine CodeD.run (e:=.ret) (st':=⟨[(0,.val (.bool true))],⟨H3++[.cells 1 [.int .u8 120,.int .u8 121],.cells 1 []],b,w3⟩⟩) L hm (fun k'=>by have bm:bytesOf [.int .u8 120,.int .u8 121]=some [120,121]:=l7 [120,121];simp (disch:=omega) [f557,bm,B,G,J,C,V]) ?_
 exact ⟨_,_,fe557 (by omega),rfl,rfl⟩
end
end
end Go.Abs.AbsBlo
