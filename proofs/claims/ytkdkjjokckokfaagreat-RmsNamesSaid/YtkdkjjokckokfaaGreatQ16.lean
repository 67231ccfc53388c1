/-
  Texts joined.
-/
import Derived.Test.YtkdkjjokckokfaaGreatQ0
import Derived.Test.YtkdkjjokckokfaaGreatQ12
import Derived.Test.YtkdkjjokckokfaaGreatQ14
import Derived.Test.YtkdkjjokckokfaaGreatQ15
import Derived.Test.YtkdkjjokckokfaaGreatQ8
import Derived.Test.YtkdkjjokckokfaaGreatProg
import Derived.KernelRfl
set_option linter.unusedVariables false
set_option linter.unusedSimpArgs false
set_option maxRecDepth 100000
namespace Go.Abs.AbsRmS
open Go.Abs.AbsRm Go.Abs.AbsNat Go.Abs.AbsBlo Go.Abs.AbsBlb Go.Proofs.Tryz
noncomputable def E:Env:=⟨Go.Proofs.Tryz.prog,fun f=>List.lookup f [(34,0),(123,5),(126,7),(74,13),(149,14),(150,15),(142,17),(143,18),(144,19),(114,22),(64,88),(103,140),(102,142),(69,145),(131,166),(109,176),(162,200),(169,217),(83,411),(86,454),(120,466),(119,467),(27,479),(25,480),(50,482),(63,494),(62,495),(61,496),(60,497),(65,498),(107,500),(100,505),(99,506),(101,507),(129,512),(130,513),(24,520),(158,525),(152,531),(59,537),(58,538),(175,542),(98,544),(22,549),(12,555),(19,556),(128,558),(52,561),(29,564),(49,567),(48,568),(33,570),(31,571),(30,572),(28,573),(57,577),(56,578),(54,579),(55,580),(53,581),(140,582),(104,583),(70,585),(68,586),(67,587),(66,588),(92,589),(71,590),(32,591),(72,592),(91,596),(94,597),(95,598),(93,599),(97,600),(96,601),(108,602),(106,603),(105,604),(110,606),(118,611),(117,612),(122,613),(121,614),(125,616),(124,617),(127,618),(132,619),(133,620),(141,626),(146,627),(145,628),(148,629),(151,630),(163,631),(168,637),(147,638),(176,646),(8,658),(17,665),(18,667),(7,671),(46,672),(45,673),(47,674),(20,675),(21,680),(10,681),(51,682),(23,683),(84,684),(85,685),(26,687),(16,688),(43,689),(88,690),(89,691),(3,920),(9,921),(6,922),(5,923),(44,100385),(90,100465),(76,100594)],rndOf Go.Abs.AbsRm.T,0,0,[]⟩
theorem gid538:∀ f,E.gid f=some 538→f=58:=fun f h=>Go.Abs.AbsNat.lookup_inv h (by decide)
theorem lib544:LibOK E 98 Go.Proofs.Tryz.f98 (pureF Go.Abs.idxA):=Go.Abs.AbsRm.idx_ok rfl gid538 (of_decide_eq_true (by kernel_rfl)) (by kernel_rfl)
noncomputable abbrev kc (b:Bool) (c:AFunc) (f:Func):Option AFunc:=tq E b c.body.hint f
theorem kk0:kc false code0 f34=some code0:=by kernel_rfl
theorem kk5:kc false code5 f123=some code5:=by kernel_rfl
theorem kk7:kc false code7 f126=some code7:=by kernel_rfl
theorem kk13:kc false code13 f74=some code13:=by kernel_rfl
theorem kk14:kc false code14 f149=some code14:=by kernel_rfl
theorem kk15:kc false code15 f150=some code15:=by kernel_rfl
theorem kk17:kc false code17 f142=some code17:=by kernel_rfl
theorem kk18:kc false code18 f143=some code18:=by kernel_rfl
theorem kk19:kc false code19 f144=some code19:=by kernel_rfl
theorem kk22:kc false code22 f114=some code22:=by kernel_rfl
theorem kk88:kc false code88 f64=some code88:=by kernel_rfl
theorem kk140:kc false code140 f103=some code140:=by kernel_rfl
theorem kk142:kc false code142 f102=some code142:=by kernel_rfl
theorem kk145:kc false code145 f69=some code145:=by kernel_rfl
theorem kk166:kc false code166 f131=some code166:=by kernel_rfl
theorem kk176:kc false code176 f109=some code176:=by kernel_rfl
theorem kk200:kc false code200 f162=some code200:=by kernel_rfl
theorem kk411:kc false code411 f83=some code411:=by kernel_rfl
theorem kk454:kc false code454 f86=some code454:=by kernel_rfl
theorem kk466:kc false code466 f120=some code466:=by kernel_rfl
theorem kk479:kc false code479 f27=some code479:=by kernel_rfl
theorem kk480:kc false code480 f25=some code480:=by kernel_rfl
theorem kk482:kc false code482 f50=some code482:=by kernel_rfl
theorem kk494:kc false code494 f63=some code494:=by kernel_rfl
theorem kk495:kc false code495 f62=some code495:=by kernel_rfl
theorem kk496:kc false code496 f61=some code496:=by kernel_rfl
theorem kk497:kc false code497 f60=some code497:=by kernel_rfl
theorem kk498:kc false code498 f65=some code498:=by kernel_rfl
theorem kk500:kc false code500 f107=some code500:=by kernel_rfl
theorem kk505:kc false code505 f100=some code505:=by kernel_rfl
theorem kk506:kc false code506 f99=some code506:=by kernel_rfl
theorem kk507:kc false code507 f101=some code507:=by kernel_rfl
theorem kk512:kc false code512 f129=some code512:=by kernel_rfl
theorem kk513:kc false code513 f130=some code513:=by kernel_rfl
theorem kk520:kc false code520 f24=some code520:=by kernel_rfl
theorem kk525:kc false code525 f158=some code525:=by kernel_rfl
theorem kk531:kc false code531 f152=some code531:=by kernel_rfl
theorem kk537:kc false code537 f59=some code537:=by kernel_rfl
theorem kk542:kc false code542 f175=some code542:=by kernel_rfl
theorem kk549:kc false code549 f22=some code549:=by kernel_rfl
theorem kk555:kc false code555 f12=some code555:=by kernel_rfl
theorem kk556:kc false code556 f19=some code556:=by kernel_rfl
theorem kk558:kc false code558 f128=some code558:=by kernel_rfl
theorem kk561:kc false code561 f52=some code561:=by kernel_rfl
theorem kk564:kc false code564 f29=some code564:=by kernel_rfl
theorem kk568:kc false code568 f48=some code568:=by kernel_rfl
theorem kk570:kc false code570 f33=some code570:=by kernel_rfl
theorem kk572:kc false code572 f30=some code572:=by kernel_rfl
theorem kk573:kc false code573 f28=some code573:=by kernel_rfl
theorem kk577:kc false code577 f57=some code577:=by kernel_rfl
theorem kk578:kc false code578 f56=some code578:=by kernel_rfl
theorem kk579:kc false code579 f54=some code579:=by kernel_rfl
theorem kk580:kc false code580 f55=some code580:=by kernel_rfl
theorem kk581:kc false code581 f53=some code581:=by kernel_rfl
theorem kk582:kc false code582 f140=some code582:=by kernel_rfl
theorem kk583:kc false code583 f104=some code583:=by kernel_rfl
theorem kk585:kc false code585 f70=some code585:=by kernel_rfl
theorem kk586:kc false code586 f68=some code586:=by kernel_rfl
theorem kk587:kc false code587 f67=some code587:=by kernel_rfl
theorem kk588:kc false code588 f66=some code588:=by kernel_rfl
theorem kk589:kc false code589 f92=some code589:=by kernel_rfl
theorem kk590:kc false code590 f71=some code590:=by kernel_rfl
theorem kk591:kc false code591 f32=some code591:=by kernel_rfl
theorem kk592:kc false code592 f72=some code592:=by kernel_rfl
theorem kk596:kc false code596 f91=some code596:=by kernel_rfl
theorem kk597:kc false code597 f94=some code597:=by kernel_rfl
theorem kk598:kc false code598 f95=some code598:=by kernel_rfl
theorem kk600:kc false code600 f97=some code600:=by kernel_rfl
theorem kk601:kc false code601 f96=some code601:=by kernel_rfl
theorem kk602:kc false code602 f108=some code602:=by kernel_rfl
theorem kk603:kc false code603 f106=some code603:=by kernel_rfl
theorem kk604:kc false code604 f105=some code604:=by kernel_rfl
theorem kk606:kc false code606 f110=some code606:=by kernel_rfl
theorem kk611:kc false code611 f118=some code611:=by kernel_rfl
theorem kk613:kc false code613 f122=some code613:=by kernel_rfl
theorem kk614:kc false code614 f121=some code614:=by kernel_rfl
theorem kk618:kc false code618 f127=some code618:=by kernel_rfl
theorem kk619:kc false code619 f132=some code619:=by kernel_rfl
theorem kk620:kc false code620 f133=some code620:=by kernel_rfl
theorem kk626:kc false code626 f141=some code626:=by kernel_rfl
theorem kk630:kc false code630 f151=some code630:=by kernel_rfl
theorem kk631:kc false code631 f163=some code631:=by kernel_rfl
theorem kk658:kc false code658 f8=some code658:=by kernel_rfl
theorem kk665:kc false code665 f17=some code665:=by kernel_rfl
theorem kk667:kc false code667 f18=some code667:=by kernel_rfl
theorem kk671:kc false code671 f7=some code671:=by kernel_rfl
theorem kk672:kc false code672 f46=some code672:=by kernel_rfl
theorem kk673:kc false code673 f45=some code673:=by kernel_rfl
theorem kk674:kc false code674 f47=some code674:=by kernel_rfl
theorem kk675:kc false code675 f20=some code675:=by kernel_rfl
theorem kk680:kc false code680 f21=some code680:=by kernel_rfl
theorem kk681:kc false code681 f10=some code681:=by kernel_rfl
theorem kk682:kc false code682 f51=some code682:=by kernel_rfl
theorem kk683:kc false code683 f23=some code683:=by kernel_rfl
theorem kk684:kc false code684 f84=some code684:=by kernel_rfl
theorem kk685:kc false code685 f85=some code685:=by kernel_rfl
theorem kk687:kc false code687 f26=some code687:=by kernel_rfl
theorem kk688:kc false code688 f16=some code688:=by kernel_rfl
theorem kk689:kc false code689 f43=some code689:=by kernel_rfl
theorem kk690:kc false code690 f88=some code690:=by kernel_rfl
theorem kk691:kc false code691 f89=some code691:=by kernel_rfl
theorem kk920:kc false code920 f3=some code920:=by kernel_rfl
theorem kk921:kc false code921 f9=some code921:=by kernel_rfl
theorem kk922:kc false code922 f6=some code922:=by kernel_rfl
theorem kk923:kc true code923 f5=some code923:=by kernel_rfl
theorem kk100385:kc false code100385 f44=some code100385:=by kernel_rfl
theorem kk100465:kc false code100465 f90=some code100465:=by kernel_rfl
theorem r512:RndOK E code512.body.rounds:=⟨rfl,trivial⟩
theorem mixed:E.P.follows .mixedOrders=true:=by kernel_rfl
theorem cr567:kc false Go.Abs.AbsBlo.raw567 f49=some Go.Abs.AbsBlo.raw567:=by kernel_rfl
theorem agreesT:Agrees E Go.Abs.AbsRm.T0:=agrees_alt Go.Abs.AbsRm.rnd0 ⟨ow kk0 func34 rfl trivial,ow kk5 func123 rfl trivial,ow kk7 func126 rfl trivial,ow kk13 func74 rfl trivial,ow kk14 func149 rfl trivial,ow kk15 func150 rfl trivial,ow kk17 func142 rfl trivial,ow kk18 func143 rfl trivial,ow kk19 func144 rfl trivial,ow kk22 func114 rfl trivial,ow kk88 func64 rfl trivial,ow kk140 func103 rfl trivial,ow kk142 func102 rfl trivial,ow kk145 func69 rfl trivial,ow kk166 func131 rfl trivial,ow kk176 func109 rfl trivial,ow kk200 func162 rfl trivial,ox func169 rfl (by kernel_rfl),ow kk411 func83 rfl trivial,ow kk454 func86 rfl trivial,ow kk466 func120 rfl trivial,ox func119 rfl (by kernel_rfl),ow kk479 func27 rfl trivial,ow kk480 func25 rfl trivial,ow kk482 func50 rfl trivial,ow kk494 func63 rfl trivial,ow kk495 func62 rfl trivial,ow kk496 func61 rfl trivial,ow kk497 func60 rfl trivial,ow kk498 func65 rfl trivial,ow kk500 func107 rfl trivial,ow kk505 func100 rfl trivial,ow kk506 func99 rfl trivial,ow kk507 func101 rfl trivial,ow kk512 func129 rfl r512,ow kk513 func130 rfl trivial,ow kk520 func24 rfl trivial,ow kk525 func158 rfl trivial,ow kk531 func152 rfl trivial,ow kk537 func59 rfl trivial,ox func58 rfl (by kernel_rfl),ow kk542 func175 rfl trivial,.inr (.inr ⟨_,_,_,Go.Proofs.Tryz.func98,rfl,rfl,lib544⟩),ow kk549 func22 rfl trivial,ow kk555 func12 rfl trivial,ow kk556 func19 rfl trivial,ow kk558 func128 rfl trivial,ow kk561 func52 rfl trivial,ow kk564 func29 rfl trivial,ow cr567 func49 rfl trivial,ow kk568 func48 rfl trivial,ow kk570 func33 rfl trivial,ox func31 rfl (by kernel_rfl),ow kk572 func30 rfl trivial,ow kk573 func28 rfl trivial,ow kk577 func57 rfl trivial,ow kk578 func56 rfl trivial,ow kk579 func54 rfl trivial,ow kk580 func55 rfl trivial,ow kk581 func53 rfl trivial,ow kk582 func140 rfl trivial,ow kk583 func104 rfl trivial,ow kk585 func70 rfl trivial,ow kk586 func68 rfl trivial,ow kk587 func67 rfl trivial,ow kk588 func66 rfl trivial,ow kk589 func92 rfl trivial,ow kk590 func71 rfl trivial,ow kk591 func32 rfl trivial,ow kk592 func72 rfl trivial,ow kk596 func91 rfl trivial,ow kk597 func94 rfl trivial,ow kk598 func95 rfl trivial,ox func93 rfl (by kernel_rfl),ow kk600 func97 rfl trivial,ow kk601 func96 rfl trivial,ow kk602 func108 rfl trivial,ow kk603 func106 rfl trivial,ow kk604 func105 rfl trivial,ow kk606 func110 rfl trivial,ow kk611 func118 rfl trivial,ox func117 rfl (by kernel_rfl),ow kk613 func122 rfl trivial,ow kk614 func121 rfl trivial,ox func125 rfl (by kernel_rfl),ox func124 rfl (by kernel_rfl),ow kk618 func127 rfl trivial,ow kk619 func132 rfl trivial,ow kk620 func133 rfl trivial,ow kk626 func141 rfl trivial,ox func146 rfl (by kernel_rfl),ox func145 rfl (by kernel_rfl),ox func148 rfl (by kernel_rfl),ow kk630 func151 rfl trivial,ow kk631 func163 rfl trivial,ox func168 rfl (by kernel_rfl),ox func147 rfl (by kernel_rfl),ox func176 rfl (by kernel_rfl),ow kk658 func8 rfl trivial,ow kk665 func17 rfl trivial,ow kk667 func18 rfl trivial,ow kk671 func7 rfl trivial,ow kk672 func46 rfl trivial,ow kk673 func45 rfl trivial,ow kk674 func47 rfl trivial,ow kk675 func20 rfl trivial,ow kk680 func21 rfl trivial,ow kk681 func10 rfl trivial,ow kk682 func51 rfl trivial,ow kk683 func23 rfl trivial,ow kk684 func84 rfl trivial,ow kk685 func85 rfl trivial,ow kk687 func26 rfl trivial,ow kk688 func16 rfl trivial,ow kk689 func43 rfl trivial,ow kk690 func88 rfl trivial,ow kk691 func89 rfl trivial,ow kk920 func3 rfl trivial,ow kk921 func9 rfl trivial,ow kk922 func6 rfl trivial,ow kk923 func5 rfl trivial,ow kk100385 func44 rfl trivial,ow kk100465 func90 rfl trivial,ox func76 rfl (by kernel_rfl),trivial⟩
theorem isRaw:IsCode E 567 Go.Abs.AbsBlo.raw567:=.of_k _ rfl (by decide) Go.Proofs.Tryz.func49 cr567 trivial
theorem lib567:LibOK E 49 Go.Proofs.Tryz.f49 Go.Abs.repF:=Go.Abs.AbsBlo.rep_ok (agreesT.x.sub fun g f h=>Go.Abs.AbsRm.subT g f (Go.Abs.AbsNat.subT g f h)) mixed isRaw rfl (of_decide_eq_true (by kernel_rfl)) (by kernel_rfl)
theorem agrees:Agrees E Go.Abs.AbsRm.T:=agrees_of ⟨ow kk0 func34 rfl trivial,ow kk5 func123 rfl trivial,ow kk7 func126 rfl trivial,ow kk13 func74 rfl trivial,ow kk14 func149 rfl trivial,ow kk15 func150 rfl trivial,ow kk17 func142 rfl trivial,ow kk18 func143 rfl trivial,ow kk19 func144 rfl trivial,ow kk22 func114 rfl trivial,ow kk88 func64 rfl trivial,ow kk140 func103 rfl trivial,ow kk142 func102 rfl trivial,ow kk145 func69 rfl trivial,ow kk166 func131 rfl trivial,ow kk176 func109 rfl trivial,ow kk200 func162 rfl trivial,ox func169 rfl (by kernel_rfl),ow kk411 func83 rfl trivial,ow kk454 func86 rfl trivial,ow kk466 func120 rfl trivial,ox func119 rfl (by kernel_rfl),ow kk479 func27 rfl trivial,ow kk480 func25 rfl trivial,ow kk482 func50 rfl trivial,ow kk494 func63 rfl trivial,ow kk495 func62 rfl trivial,ow kk496 func61 rfl trivial,ow kk497 func60 rfl trivial,ow kk498 func65 rfl trivial,ow kk500 func107 rfl trivial,ow kk505 func100 rfl trivial,ow kk506 func99 rfl trivial,ow kk507 func101 rfl trivial,ow kk512 func129 rfl r512,ow kk513 func130 rfl trivial,ow kk520 func24 rfl trivial,ow kk525 func158 rfl trivial,ow kk531 func152 rfl trivial,ow kk537 func59 rfl trivial,ox func58 rfl (by kernel_rfl),ow kk542 func175 rfl trivial,.inr (.inr ⟨_,_,_,Go.Proofs.Tryz.func98,rfl,rfl,lib544⟩),ow kk549 func22 rfl trivial,ow kk555 func12 rfl trivial,ow kk556 func19 rfl trivial,ow kk558 func128 rfl trivial,ow kk561 func52 rfl trivial,ow kk564 func29 rfl trivial,.inr (.inr ⟨_,_,_,Go.Proofs.Tryz.func49,rfl,rfl,lib567⟩),ow kk568 func48 rfl trivial,ow kk570 func33 rfl trivial,ox func31 rfl (by kernel_rfl),ow kk572 func30 rfl trivial,ow kk573 func28 rfl trivial,ow kk577 func57 rfl trivial,ow kk578 func56 rfl trivial,ow kk579 func54 rfl trivial,ow kk580 func55 rfl trivial,ow kk581 func53 rfl trivial,ow kk582 func140 rfl trivial,ow kk583 func104 rfl trivial,ow kk585 func70 rfl trivial,ow kk586 func68 rfl trivial,ow kk587 func67 rfl trivial,ow kk588 func66 rfl trivial,ow kk589 func92 rfl trivial,ow kk590 func71 rfl trivial,ow kk591 func32 rfl trivial,ow kk592 func72 rfl trivial,ow kk596 func91 rfl trivial,ow kk597 func94 rfl trivial,ow kk598 func95 rfl trivial,ox func93 rfl (by kernel_rfl),ow kk600 func97 rfl trivial,ow kk601 func96 rfl trivial,ow kk602 func108 rfl trivial,ow kk603 func106 rfl trivial,ow kk604 func105 rfl trivial,ow kk606 func110 rfl trivial,ow kk611 func118 rfl trivial,ox func117 rfl (by kernel_rfl),ow kk613 func122 rfl trivial,ow kk614 func121 rfl trivial,ox func125 rfl (by kernel_rfl),ox func124 rfl (by kernel_rfl),ow kk618 func127 rfl trivial,ow kk619 func132 rfl trivial,ow kk620 func133 rfl trivial,ow kk626 func141 rfl trivial,ox func146 rfl (by kernel_rfl),ox func145 rfl (by kernel_rfl),ox func148 rfl (by kernel_rfl),ow kk630 func151 rfl trivial,ow kk631 func163 rfl trivial,ox func168 rfl (by kernel_rfl),ox func147 rfl (by kernel_rfl),ox func176 rfl (by kernel_rfl),ow kk658 func8 rfl trivial,ow kk665 func17 rfl trivial,ow kk667 func18 rfl trivial,ow kk671 func7 rfl trivial,ow kk672 func46 rfl trivial,ow kk673 func45 rfl trivial,ow kk674 func47 rfl trivial,ow kk675 func20 rfl trivial,ow kk680 func21 rfl trivial,ow kk681 func10 rfl trivial,ow kk682 func51 rfl trivial,ow kk683 func23 rfl trivial,ow kk684 func84 rfl trivial,ow kk685 func85 rfl trivial,ow kk687 func26 rfl trivial,ow kk688 func16 rfl trivial,ow kk689 func43 rfl trivial,ow kk690 func88 rfl trivial,ow kk691 func89 rfl trivial,ow kk920 func3 rfl trivial,ow kk921 func9 rfl trivial,ow kk922 func6 rfl trivial,ow kk923 func5 rfl trivial,ow kk100385 func44 rfl trivial,ow kk100465 func90 rfl trivial,ox func76 rfl (by kernel_rfl),trivial⟩
end Go.Abs.AbsRmS
