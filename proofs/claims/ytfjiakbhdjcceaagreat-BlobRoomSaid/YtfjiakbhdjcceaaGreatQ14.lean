/-
  Texts joined.
-/
import Derived.Test.YtfjiakbhdjcceaaGreatQ0
import Derived.Test.YtfjiakbhdjcceaaGreatQ12
import Derived.Test.YtfjiakbhdjcceaaGreatQ13
import Derived.Test.YtfjiakbhdjcceaaGreatQ11
import Derived.Test.YtfjiakbhdjcceaaGreatProg
import Derived.KernelRfl
import Derived.Test.YtfjiakbhdjcceaaGreatQ10
set_option linter.unusedVariables false
set_option linter.unusedSimpArgs false
set_option maxRecDepth 100000
namespace Go.Abs.AbsBrmS
open Go.Abs.AbsBrm Go.Abs.AbsBlo Go.Abs.AbsBlb Go.Proofs.Tryz
noncomputable def E:Env:=⟨Go.Proofs.Tryz.prog,fun f=>List.lookup f [(26,0),(84,5),(87,7),(49,13),(113,14),(114,15),(106,17),(107,18),(108,19),(76,22),(63,88),(94,140),(93,142),(44,145),(118,166),(71,176),(136,200),(125,217),(96,411),(39,454),(65,466),(64,467),(37,480),(15,482),(62,494),(61,495),(60,496),(59,497),(69,500),(91,505),(90,506),(92,507),(116,512),(117,513),(132,525),(126,531),(150,542),(14,546),(13,547),(12,548),(11,549),(7,550),(8,551),(9,552),(10,553),(3,554),(6,555),(5,556),(4,557),(89,558),(31,561),(16,562),(17,563),(21,564),(19,567),(18,568),(25,570),(23,571),(22,572),(20,573),(29,574),(28,575),(30,576),(36,577),(35,578),(33,579),(34,580),(32,581),(104,582),(66,583),(45,585),(43,586),(42,587),(41,588),(38,589),(46,590),(24,591),(47,592),(53,596),(55,597),(56,598),(54,599),(58,600),(57,601),(70,602),(68,603),(67,604),(72,606),(80,611),(79,612),(83,613),(81,614),(86,616),(85,617),(88,618),(95,619),(97,620),(105,626),(110,627),(109,628),(112,629),(115,630),(119,631),(124,637),(111,638),(137,646),(82,100385),(52,100465),(51,100594)],rndOf Go.Abs.AbsBrm.T,0,0,[]⟩
noncomputable abbrev kc (b:Bool) (c:AFunc) (f:Func):Option AFunc:=uo E b c.body.hint f
theorem kk0:kc false code0 f26=some code0:=by kernel_rfl
theorem kk5:kc false code5 f84=some code5:=by kernel_rfl
theorem kk7:kc false code7 f87=some code7:=by kernel_rfl
theorem kk13:kc false code13 f49=some code13:=by kernel_rfl
theorem kk14:kc false code14 f113=some code14:=by kernel_rfl
theorem kk15:kc false code15 f114=some code15:=by kernel_rfl
theorem kk17:kc false code17 f106=some code17:=by kernel_rfl
theorem kk18:kc false code18 f107=some code18:=by kernel_rfl
theorem kk19:kc false code19 f108=some code19:=by kernel_rfl
theorem kk22:kc false code22 f76=some code22:=by kernel_rfl
theorem kk88:kc false code88 f63=some code88:=by kernel_rfl
theorem kk140:kc false code140 f94=some code140:=by kernel_rfl
theorem kk142:kc false code142 f93=some code142:=by kernel_rfl
theorem kk145:kc false code145 f44=some code145:=by kernel_rfl
theorem kk166:kc false code166 f118=some code166:=by kernel_rfl
theorem kk176:kc false code176 f71=some code176:=by kernel_rfl
theorem kk200:kc false code200 f136=some code200:=by kernel_rfl
theorem kk217:kc false code217 f125=some code217:=by kernel_rfl
theorem kk411:kc false code411 f96=some code411:=by kernel_rfl
theorem kk454:kc false code454 f39=some code454:=by kernel_rfl
theorem kk466:kc false code466 f65=some code466:=by kernel_rfl
theorem kk480:kc false code480 f37=some code480:=by kernel_rfl
theorem kk482:kc false code482 f15=some code482:=by kernel_rfl
theorem kk494:kc false code494 f62=some code494:=by kernel_rfl
theorem kk495:kc false code495 f61=some code495:=by kernel_rfl
theorem kk496:kc false code496 f60=some code496:=by kernel_rfl
theorem kk497:kc false code497 f59=some code497:=by kernel_rfl
theorem kk500:kc false code500 f69=some code500:=by kernel_rfl
theorem kk505:kc false code505 f91=some code505:=by kernel_rfl
theorem kk506:kc false code506 f90=some code506:=by kernel_rfl
theorem kk507:kc false code507 f92=some code507:=by kernel_rfl
theorem kk512:kc false code512 f116=some code512:=by kernel_rfl
theorem kk513:kc false code513 f117=some code513:=by kernel_rfl
theorem kk525:kc false code525 f132=some code525:=by kernel_rfl
theorem kk531:kc false code531 f126=some code531:=by kernel_rfl
theorem kk542:kc false code542 f150=some code542:=by kernel_rfl
theorem kk546:kc false code546 f14=some code546:=by kernel_rfl
theorem kk547:kc false code547 f13=some code547:=by kernel_rfl
theorem kk548:kc false code548 f12=some code548:=by kernel_rfl
theorem kk549:kc false code549 f11=some code549:=by kernel_rfl
theorem kk550:kc false code550 f7=some code550:=by kernel_rfl
theorem kk551:kc false code551 f8=some code551:=by kernel_rfl
theorem kk552:kc false code552 f9=some code552:=by kernel_rfl
theorem kk553:kc false code553 f10=some code553:=by kernel_rfl
theorem kk554:kc false code554 f3=some code554:=by kernel_rfl
theorem kk555:kc false code555 f6=some code555:=by kernel_rfl
theorem kk556:kc false code556 f5=some code556:=by kernel_rfl
theorem kk557:kc true code557 f4=some code557:=by kernel_rfl
theorem kk558:kc false code558 f89=some code558:=by kernel_rfl
theorem kk561:kc false code561 f31=some code561:=by kernel_rfl
theorem kk562:kc false code562 f16=some code562:=by kernel_rfl
theorem kk563:kc false code563 f17=some code563:=by kernel_rfl
theorem kk564:kc false code564 f21=some code564:=by kernel_rfl
theorem kk568:kc false code568 f18=some code568:=by kernel_rfl
theorem kk570:kc false code570 f25=some code570:=by kernel_rfl
theorem kk572:kc false code572 f22=some code572:=by kernel_rfl
theorem kk573:kc false code573 f20=some code573:=by kernel_rfl
theorem kk574:kc false code574 f29=some code574:=by kernel_rfl
theorem kk575:kc false code575 f28=some code575:=by kernel_rfl
theorem kk576:kc false code576 f30=some code576:=by kernel_rfl
theorem kk577:kc false code577 f36=some code577:=by kernel_rfl
theorem kk578:kc false code578 f35=some code578:=by kernel_rfl
theorem kk579:kc false code579 f33=some code579:=by kernel_rfl
theorem kk580:kc false code580 f34=some code580:=by kernel_rfl
theorem kk581:kc false code581 f32=some code581:=by kernel_rfl
theorem kk582:kc false code582 f104=some code582:=by kernel_rfl
theorem kk583:kc false code583 f66=some code583:=by kernel_rfl
theorem kk585:kc false code585 f45=some code585:=by kernel_rfl
theorem kk586:kc false code586 f43=some code586:=by kernel_rfl
theorem kk587:kc false code587 f42=some code587:=by kernel_rfl
theorem kk588:kc false code588 f41=some code588:=by kernel_rfl
theorem kk589:kc false code589 f38=some code589:=by kernel_rfl
theorem kk590:kc false code590 f46=some code590:=by kernel_rfl
theorem kk596:kc false code596 f53=some code596:=by kernel_rfl
theorem kk597:kc false code597 f55=some code597:=by kernel_rfl
theorem kk598:kc false code598 f56=some code598:=by kernel_rfl
theorem kk599:kc false code599 f54=some code599:=by kernel_rfl
theorem kk600:kc false code600 f58=some code600:=by kernel_rfl
theorem kk601:kc false code601 f57=some code601:=by kernel_rfl
theorem kk602:kc false code602 f70=some code602:=by kernel_rfl
theorem kk603:kc false code603 f68=some code603:=by kernel_rfl
theorem kk604:kc false code604 f67=some code604:=by kernel_rfl
theorem kk606:kc false code606 f72=some code606:=by kernel_rfl
theorem kk611:kc false code611 f80=some code611:=by kernel_rfl
theorem kk612:kc false code612 f79=some code612:=by kernel_rfl
theorem kk613:kc false code613 f83=some code613:=by kernel_rfl
theorem kk614:kc false code614 f81=some code614:=by kernel_rfl
theorem kk616:kc false code616 f86=some code616:=by kernel_rfl
theorem kk617:kc false code617 f85=some code617:=by kernel_rfl
theorem kk618:kc false code618 f88=some code618:=by kernel_rfl
theorem kk619:kc false code619 f95=some code619:=by kernel_rfl
theorem kk620:kc false code620 f97=some code620:=by kernel_rfl
theorem kk626:kc false code626 f105=some code626:=by kernel_rfl
theorem kk627:kc false code627 f110=some code627:=by kernel_rfl
theorem kk628:kc false code628 f109=some code628:=by kernel_rfl
theorem kk629:kc false code629 f112=some code629:=by kernel_rfl
theorem kk630:kc false code630 f115=some code630:=by kernel_rfl
theorem kk631:kc false code631 f119=some code631:=by kernel_rfl
theorem kk637:kc false code637 f124=some code637:=by kernel_rfl
theorem kk638:kc false code638 f111=some code638:=by kernel_rfl
theorem kk646:kc false code646 f137=some code646:=by kernel_rfl
theorem kk100385:kc false code100385 f82=some code100385:=by kernel_rfl
theorem kk100465:kc false code100465 f52=some code100465:=by kernel_rfl
theorem kk100594:kc false code100594 f51=some code100594:=by kernel_rfl
theorem r512:RndOK E code512.body.rounds:=⟨rfl,trivial⟩
theorem r599:RndOK E code599.body.rounds:=⟨rfl,trivial⟩
theorem mixed:E.P.follows .mixedOrders=true:=by kernel_rfl
theorem cr567:kc false Go.Abs.AbsBlo.raw567 f19=some Go.Abs.AbsBlo.raw567:=by kernel_rfl
theorem agreesT:Agrees E Go.Abs.AbsBrm.T0:=agrees_alt Go.Abs.AbsBrm.rnd0 ⟨ow kk0 func26 rfl trivial,ow kk5 func84 rfl trivial,ow kk7 func87 rfl trivial,ow kk13 func49 rfl trivial,ow kk14 func113 rfl trivial,ow kk15 func114 rfl trivial,ow kk17 func106 rfl trivial,ow kk18 func107 rfl trivial,ow kk19 func108 rfl trivial,ow kk22 func76 rfl trivial,ow kk88 func63 rfl trivial,ow kk140 func94 rfl trivial,ow kk142 func93 rfl trivial,ow kk145 func44 rfl trivial,ow kk166 func118 rfl trivial,ow kk176 func71 rfl trivial,ow kk200 func136 rfl trivial,ow kk217 func125 rfl trivial,ow kk411 func96 rfl trivial,ow kk454 func39 rfl trivial,ow kk466 func65 rfl trivial,ox func64 rfl (by kernel_rfl),ow kk480 func37 rfl trivial,ow kk482 func15 rfl trivial,ow kk494 func62 rfl trivial,ow kk495 func61 rfl trivial,ow kk496 func60 rfl trivial,ow kk497 func59 rfl trivial,ow kk500 func69 rfl trivial,ow kk505 func91 rfl trivial,ow kk506 func90 rfl trivial,ow kk507 func92 rfl trivial,ow kk512 func116 rfl r512,ow kk513 func117 rfl trivial,ow kk525 func132 rfl trivial,ow kk531 func126 rfl trivial,ow kk542 func150 rfl trivial,ow kk546 func14 rfl trivial,ow kk547 func13 rfl trivial,ow kk548 func12 rfl trivial,ow kk549 func11 rfl trivial,ow kk550 func7 rfl trivial,ow kk551 func8 rfl trivial,ow kk552 func9 rfl trivial,ow kk553 func10 rfl trivial,ow kk554 func3 rfl trivial,ow kk555 func6 rfl trivial,ow kk556 func5 rfl trivial,ow kk557 func4 rfl trivial,ow kk558 func89 rfl trivial,ow kk561 func31 rfl trivial,ow kk562 func16 rfl trivial,ow kk563 func17 rfl trivial,ow kk564 func21 rfl trivial,ow cr567 func19 rfl trivial,ow kk568 func18 rfl trivial,ow kk570 func25 rfl trivial,ox func23 rfl (by kernel_rfl),ow kk572 func22 rfl trivial,ow kk573 func20 rfl trivial,ow kk574 func29 rfl trivial,ow kk575 func28 rfl trivial,ow kk576 func30 rfl trivial,ow kk577 func36 rfl trivial,ow kk578 func35 rfl trivial,ow kk579 func33 rfl trivial,ow kk580 func34 rfl trivial,ow kk581 func32 rfl trivial,ow kk582 func104 rfl trivial,ow kk583 func66 rfl trivial,ow kk585 func45 rfl trivial,ow kk586 func43 rfl trivial,ow kk587 func42 rfl trivial,ow kk588 func41 rfl trivial,ow kk589 func38 rfl trivial,ow kk590 func46 rfl trivial,ox func24 rfl (by kernel_rfl),ox func47 rfl (by kernel_rfl),ow kk596 func53 rfl trivial,ow kk597 func55 rfl trivial,ow kk598 func56 rfl trivial,ow kk599 func54 rfl r599,ow kk600 func58 rfl trivial,ow kk601 func57 rfl trivial,ow kk602 func70 rfl trivial,ow kk603 func68 rfl trivial,ow kk604 func67 rfl trivial,ow kk606 func72 rfl trivial,ow kk611 func80 rfl trivial,ow kk612 func79 rfl trivial,ow kk613 func83 rfl trivial,ow kk614 func81 rfl trivial,ow kk616 func86 rfl trivial,ow kk617 func85 rfl trivial,ow kk618 func88 rfl trivial,ow kk619 func95 rfl trivial,ow kk620 func97 rfl trivial,ow kk626 func105 rfl trivial,ow kk627 func110 rfl trivial,ow kk628 func109 rfl trivial,ow kk629 func112 rfl trivial,ow kk630 func115 rfl trivial,ow kk631 func119 rfl trivial,ow kk637 func124 rfl trivial,ow kk638 func111 rfl trivial,ow kk646 func137 rfl trivial,ow kk100385 func82 rfl trivial,ow kk100465 func52 rfl trivial,ow kk100594 func51 rfl trivial,trivial⟩
theorem isRaw:IsCode E 567 Go.Abs.AbsBlo.raw567:=.of_k _ rfl (by decide) Go.Proofs.Tryz.func19 cr567 trivial
theorem lib567:LibOK E 19 Go.Proofs.Tryz.f19 Go.Abs.repF:=Go.Abs.AbsBlo.rep_ok (agreesT.x.sub Go.Abs.AbsBrm.subT) mixed isRaw rfl (of_decide_eq_true (by kernel_rfl)) (by kernel_rfl)
theorem agrees:Agrees E Go.Abs.AbsBrm.T:=agrees_of ⟨ow kk0 func26 rfl trivial,ow kk5 func84 rfl trivial,ow kk7 func87 rfl trivial,ow kk13 func49 rfl trivial,ow kk14 func113 rfl trivial,ow kk15 func114 rfl trivial,ow kk17 func106 rfl trivial,ow kk18 func107 rfl trivial,ow kk19 func108 rfl trivial,ow kk22 func76 rfl trivial,ow kk88 func63 rfl trivial,ow kk140 func94 rfl trivial,ow kk142 func93 rfl trivial,ow kk145 func44 rfl trivial,ow kk166 func118 rfl trivial,ow kk176 func71 rfl trivial,ow kk200 func136 rfl trivial,ow kk217 func125 rfl trivial,ow kk411 func96 rfl trivial,ow kk454 func39 rfl trivial,ow kk466 func65 rfl trivial,ox func64 rfl (by kernel_rfl),ow kk480 func37 rfl trivial,ow kk482 func15 rfl trivial,ow kk494 func62 rfl trivial,ow kk495 func61 rfl trivial,ow kk496 func60 rfl trivial,ow kk497 func59 rfl trivial,ow kk500 func69 rfl trivial,ow kk505 func91 rfl trivial,ow kk506 func90 rfl trivial,ow kk507 func92 rfl trivial,ow kk512 func116 rfl r512,ow kk513 func117 rfl trivial,ow kk525 func132 rfl trivial,ow kk531 func126 rfl trivial,ow kk542 func150 rfl trivial,ow kk546 func14 rfl trivial,ow kk547 func13 rfl trivial,ow kk548 func12 rfl trivial,ow kk549 func11 rfl trivial,ow kk550 func7 rfl trivial,ow kk551 func8 rfl trivial,ow kk552 func9 rfl trivial,ow kk553 func10 rfl trivial,ow kk554 func3 rfl trivial,ow kk555 func6 rfl trivial,ow kk556 func5 rfl trivial,ow kk557 func4 rfl trivial,ow kk558 func89 rfl trivial,ow kk561 func31 rfl trivial,ow kk562 func16 rfl trivial,ow kk563 func17 rfl trivial,ow kk564 func21 rfl trivial,.inr (.inr ⟨_,_,_,Go.Proofs.Tryz.func19,rfl,rfl,lib567⟩),ow kk568 func18 rfl trivial,ow kk570 func25 rfl trivial,ox func23 rfl (by kernel_rfl),ow kk572 func22 rfl trivial,ow kk573 func20 rfl trivial,ow kk574 func29 rfl trivial,ow kk575 func28 rfl trivial,ow kk576 func30 rfl trivial,ow kk577 func36 rfl trivial,ow kk578 func35 rfl trivial,ow kk579 func33 rfl trivial,ow kk580 func34 rfl trivial,ow kk581 func32 rfl trivial,ow kk582 func104 rfl trivial,ow kk583 func66 rfl trivial,ow kk585 func45 rfl trivial,ow kk586 func43 rfl trivial,ow kk587 func42 rfl trivial,ow kk588 func41 rfl trivial,ow kk589 func38 rfl trivial,ow kk590 func46 rfl trivial,ox func24 rfl (by kernel_rfl),ox func47 rfl (by kernel_rfl),ow kk596 func53 rfl trivial,ow kk597 func55 rfl trivial,ow kk598 func56 rfl trivial,ow kk599 func54 rfl r599,ow kk600 func58 rfl trivial,ow kk601 func57 rfl trivial,ow kk602 func70 rfl trivial,ow kk603 func68 rfl trivial,ow kk604 func67 rfl trivial,ow kk606 func72 rfl trivial,ow kk611 func80 rfl trivial,ow kk612 func79 rfl trivial,ow kk613 func83 rfl trivial,ow kk614 func81 rfl trivial,ow kk616 func86 rfl trivial,ow kk617 func85 rfl trivial,ow kk618 func88 rfl trivial,ow kk619 func95 rfl trivial,ow kk620 func97 rfl trivial,ow kk626 func105 rfl trivial,ow kk627 func110 rfl trivial,ow kk628 func109 rfl trivial,ow kk629 func112 rfl trivial,ow kk630 func115 rfl trivial,ow kk631 func119 rfl trivial,ow kk637 func124 rfl trivial,ow kk638 func111 rfl trivial,ow kk646 func137 rfl trivial,ow kk100385 func82 rfl trivial,ow kk100465 func52 rfl trivial,ow kk100594 func51 rfl trivial,trivial⟩
end Go.Abs.AbsBrmS

namespace Go.Abs.AbsBlo
open Go.Abs.AbsBlb hiding T
open Go.Abs.Short
def byteU (x:UInt8):List AVal:=[u8V x]
theorem zb7:∀ L:Bs,L.flatMap byteU=L.map u8V
 | []=>rfl
 | x :: L=>by rw [d0,bi,zb7 L]; rfl
theorem has_byteU {os:List AObj} {b w:Nat} {d:Dat} {cs:List AVal} (h:Has ⟨os,b,w⟩ (.int .u8) d cs):∃ x:UInt8,cs=byteU x∧True:=by
 obtain ⟨n,_,rfl,h1,h2⟩:=h.int;have e1:IntKind.u8.min=0:=rfl;have e2:IntKind.u8.max=255:=rfl;rw [e1] at h1;rw [e2] at h2;refine ⟨UInt8.ofNat n.toNat,?_,trivial⟩;unfold byteU u8V
 have:((UInt8.ofNat n.toNat).toNat:Int)=n:=by rw [UInt8.toNat_ofNat'];have:n.toNat % 2 ^ 8=n.toNat:=Nat.mod_eq_of_lt (by omega);rw [this]; omega
 rw [this]
theorem blob_in {os:List AObj} {b w:Nat} {d:Dat} {cs:List AVal} (hb:b≤os.length) (h:Has ⟨os,b,w⟩ (.slice (.int .u8)) d cs):∃ (a:Option (Nat × Nat)) (c:Option Nat) (B:Bs),cs=[.slice a B.length c]∧BlobV os (.slice a B.length c) B∧∀ p o,a=some (p,o)→p < b:=by
 have hc:cs=[.slice none 0 (some 0)]∨∃ i n,cs=[.slice (some (i,0)) n none]∧i < b:=by
  cases d <;> simp only [Has] at h
  ·exact .inl h
  ·obtain ⟨_,i,_,e,h2,_⟩:=h;exact .inr ⟨i,_,e,h2⟩
 obtain ⟨a,L,c,rfl,hR,-,-,-,-⟩:=h.row fun d c h=>has_byteU h
 rcases hc with e | ⟨i,n,e,hi⟩
 ·simp only [List.cons.injEq,AVal.slice.injEq,and_true] at e;obtain ⟨rfl,e2,rfl⟩:=e;have hL:L=[]:=bn e2;subst hL;exact ⟨none,some 0,[],rfl,⟨none,some 0,rfl,fun p o e=>(by cases e),.inl rfl⟩,fun p o e=>by cases e⟩
 ·simp only [List.cons.injEq,AVal.slice.injEq,and_true] at e;obtain ⟨rfl,rfl,rfl⟩:=e;refine ⟨_,_,L,rfl,⟨some (i,0),none,rfl,fun p o e=>?_,?_⟩,fun p o e=>?_⟩
  ·cases e; omega
  ·by_cases h0:L=[]
   ·exact .inl h0
   ·right;obtain ⟨p,o,cs,e1,e2,e3⟩:=hR.at' h0;cases e1;refine ⟨i,0,rfl,⟨rfl,cs,e2,?_⟩,aj _⟩;have:=row_flat (e:=1) (f:=byteU) L 0 e3;rw [Nat.mul_one] at this;rw [this,zb7]
  ·cases e; exact hi
section
variable {E:Env} {H:List AObj} {b:Nat} {I:SI} {F:Fl} {K:StU} {kl:List Bs}
end
end Go.Abs.AbsBlo
