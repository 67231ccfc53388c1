/-
  Texts joined.
-/
import Derived.Test.YtilleokmbhmieaaGreatDoorQ0
import Derived.Test.YtilleokmbhmieaaGreatDoorQ11
import Derived.Test.YtilleokmbhmieaaGreatDoorQ13
import Derived.Test.YtilleokmbhmieaaGreatDoorQ14
import Derived.Test.YtilleokmbhmieaaGreatDoorQ10
import Derived.Test.YtilleokmbhmieaaGreatDoorProg
import Derived.KernelRfl
set_option linter.unusedVariables false
set_option linter.unusedSimpArgs false
set_option maxRecDepth 100000
namespace Go.Abs.AbsNatN
open Go.Abs.AbsNat Go.Abs.AbsBlo Go.Abs.AbsBlb Go.Proofs.Tryz
noncomputable def E:Env:=⟨Go.Proofs.Tryz.prog,fun f=>List.lookup f [(39,0),(157,5),(160,7),(63,13),(179,14),(180,15),(172,17),(173,18),(174,19),(93,22),(125,88),(146,140),(145,142),(58,145),(156,166),(87,176),(75,200),(189,217),(111,411),(18,444),(53,454),(80,466),(79,467),(100,479),(98,480),(69,482),(124,494),(123,495),(122,496),(121,497),(126,498),(85,500),(143,505),(142,506),(144,507),(154,512),(155,513),(68,520),(168,525),(162,531),(104,537),(103,538),(187,542),(134,544),(102,549),(21,555),(20,556),(119,558),(128,561),(34,564),(32,567),(31,568),(38,570),(36,571),(35,572),(33,573),(133,577),(132,578),(130,579),(131,580),(129,581),(120,582),(81,583),(59,585),(57,586),(56,587),(55,588),(148,589),(60,590),(37,591),(61,592),(147,596),(150,597),(151,598),(149,599),(92,600),(152,601),(86,602),(84,603),(83,604),(88,606),(97,611),(96,612),(140,613),(138,614),(159,616),(158,617),(161,618),(110,619),(112,620),(153,626),(176,627),(175,628),(178,629),(181,630),(135,631),(188,637),(177,638),(191,646),(8,651),(7,653),(6,654),(5,655),(15,656),(16,657),(17,658),(12,659),(11,660),(14,661),(13,662),(10,663),(4,664),(23,665),(22,666),(24,667),(26,668),(25,669),(28,670),(41,671),(43,672),(42,673),(45,674),(44,675),(27,676),(46,677),(29,678),(47,679),(67,680),(66,681),(71,682),(70,683),(72,684),(73,685),(48,686),(99,687),(101,688),(107,689),(105,690),(106,691),(19,100273),(127,100385),(82,100465),(65,100594)],rndOf Go.Abs.AbsNat.T,0,1,Go.Abs.AbsNat.tabsL⟩
theorem gid538:∀ f,E.gid f=some 538→f=103:=fun f h=>Go.Abs.AbsNat.lookup_inv h (by decide)
theorem lib444:LibOK E 18 Go.Proofs.Tryz.f18 (pureF Go.Abs.fmtA):=AbsNat.fmt_ok rfl rfl (of_decide_eq_true (by kernel_rfl)) (by kernel_rfl)
theorem lib544:LibOK E 134 Go.Proofs.Tryz.f134 (pureF Go.Abs.idxA):=AbsNat.idx_ok rfl gid538 (of_decide_eq_true (by kernel_rfl)) (by kernel_rfl)
noncomputable abbrev kc (b:Bool) (c:AFunc) (f:Func):Option AFunc:=ru E b c.body.hint f
theorem kk0:kc false code0 f39=some code0:=by kernel_rfl
theorem kk5:kc false code5 f157=some code5:=by kernel_rfl
theorem kk7:kc false code7 f160=some code7:=by kernel_rfl
theorem kk13:kc false code13 f63=some code13:=by kernel_rfl
theorem kk14:kc false code14 f179=some code14:=by kernel_rfl
theorem kk15:kc false code15 f180=some code15:=by kernel_rfl
theorem kk17:kc false code17 f172=some code17:=by kernel_rfl
theorem kk18:kc false code18 f173=some code18:=by kernel_rfl
theorem kk19:kc false code19 f174=some code19:=by kernel_rfl
theorem kk22:kc false code22 f93=some code22:=by kernel_rfl
theorem kk88:kc false code88 f125=some code88:=by kernel_rfl
theorem kk140:kc false code140 f146=some code140:=by kernel_rfl
theorem kk142:kc false code142 f145=some code142:=by kernel_rfl
theorem kk145:kc false code145 f58=some code145:=by kernel_rfl
theorem kk166:kc false code166 f156=some code166:=by kernel_rfl
theorem kk176:kc false code176 f87=some code176:=by kernel_rfl
theorem kk200:kc false code200 f75=some code200:=by kernel_rfl
theorem kk217:kc false code217 f189=some code217:=by kernel_rfl
theorem kk411:kc false code411 f111=some code411:=by kernel_rfl
theorem kk454:kc false code454 f53=some code454:=by kernel_rfl
theorem kk466:kc false code466 f80=some code466:=by kernel_rfl
theorem kk467:kc false code467 f79=some code467:=by kernel_rfl
theorem kk479:kc false code479 f100=some code479:=by kernel_rfl
theorem kk480:kc false code480 f98=some code480:=by kernel_rfl
theorem kk482:kc false code482 f69=some code482:=by kernel_rfl
theorem kk494:kc false code494 f124=some code494:=by kernel_rfl
theorem kk495:kc false code495 f123=some code495:=by kernel_rfl
theorem kk496:kc false code496 f122=some code496:=by kernel_rfl
theorem kk497:kc false code497 f121=some code497:=by kernel_rfl
theorem kk498:kc false code498 f126=some code498:=by kernel_rfl
theorem kk500:kc false code500 f85=some code500:=by kernel_rfl
theorem kk505:kc false code505 f143=some code505:=by kernel_rfl
theorem kk506:kc false code506 f142=some code506:=by kernel_rfl
theorem kk507:kc false code507 f144=some code507:=by kernel_rfl
theorem kk512:kc false code512 f154=some code512:=by kernel_rfl
theorem kk513:kc false code513 f155=some code513:=by kernel_rfl
theorem kk520:kc false code520 f68=some code520:=by kernel_rfl
theorem kk525:kc false code525 f168=some code525:=by kernel_rfl
theorem kk531:kc false code531 f162=some code531:=by kernel_rfl
theorem kk537:kc false code537 f104=some code537:=by kernel_rfl
theorem kk538:kc false code538 f103=some code538:=by kernel_rfl
theorem kk542:kc false code542 f187=some code542:=by kernel_rfl
theorem kk549:kc false code549 f102=some code549:=by kernel_rfl
theorem kk555:kc false code555 f21=some code555:=by kernel_rfl
theorem kk556:kc false code556 f20=some code556:=by kernel_rfl
theorem kk558:kc false code558 f119=some code558:=by kernel_rfl
theorem kk561:kc false code561 f128=some code561:=by kernel_rfl
theorem kk564:kc false code564 f34=some code564:=by kernel_rfl
theorem kk568:kc false code568 f31=some code568:=by kernel_rfl
theorem kk570:kc false code570 f38=some code570:=by kernel_rfl
theorem kk571:kc false code571 f36=some code571:=by kernel_rfl
theorem kk572:kc false code572 f35=some code572:=by kernel_rfl
theorem kk573:kc false code573 f33=some code573:=by kernel_rfl
theorem kk577:kc false code577 f133=some code577:=by kernel_rfl
theorem kk578:kc false code578 f132=some code578:=by kernel_rfl
theorem kk579:kc false code579 f130=some code579:=by kernel_rfl
theorem kk580:kc false code580 f131=some code580:=by kernel_rfl
theorem kk581:kc false code581 f129=some code581:=by kernel_rfl
theorem kk582:kc false code582 f120=some code582:=by kernel_rfl
theorem kk583:kc false code583 f81=some code583:=by kernel_rfl
theorem kk585:kc false code585 f59=some code585:=by kernel_rfl
theorem kk586:kc false code586 f57=some code586:=by kernel_rfl
theorem kk587:kc false code587 f56=some code587:=by kernel_rfl
theorem kk588:kc false code588 f55=some code588:=by kernel_rfl
theorem kk589:kc false code589 f148=some code589:=by kernel_rfl
theorem kk590:kc false code590 f60=some code590:=by kernel_rfl
theorem kk591:kc false code591 f37=some code591:=by kernel_rfl
theorem kk592:kc false code592 f61=some code592:=by kernel_rfl
theorem kk596:kc false code596 f147=some code596:=by kernel_rfl
theorem kk597:kc false code597 f150=some code597:=by kernel_rfl
theorem kk598:kc false code598 f151=some code598:=by kernel_rfl
theorem kk599:kc false code599 f149=some code599:=by kernel_rfl
theorem kk600:kc false code600 f92=some code600:=by kernel_rfl
theorem kk601:kc false code601 f152=some code601:=by kernel_rfl
theorem kk602:kc false code602 f86=some code602:=by kernel_rfl
theorem kk603:kc false code603 f84=some code603:=by kernel_rfl
theorem kk604:kc false code604 f83=some code604:=by kernel_rfl
theorem kk606:kc false code606 f88=some code606:=by kernel_rfl
theorem kk611:kc false code611 f97=some code611:=by kernel_rfl
theorem kk612:kc false code612 f96=some code612:=by kernel_rfl
theorem kk613:kc false code613 f140=some code613:=by kernel_rfl
theorem kk614:kc false code614 f138=some code614:=by kernel_rfl
theorem kk616:kc false code616 f159=some code616:=by kernel_rfl
theorem kk617:kc false code617 f158=some code617:=by kernel_rfl
theorem kk618:kc false code618 f161=some code618:=by kernel_rfl
theorem kk619:kc false code619 f110=some code619:=by kernel_rfl
theorem kk620:kc false code620 f112=some code620:=by kernel_rfl
theorem kk626:kc false code626 f153=some code626:=by kernel_rfl
theorem kk627:kc false code627 f176=some code627:=by kernel_rfl
theorem kk628:kc false code628 f175=some code628:=by kernel_rfl
theorem kk629:kc false code629 f178=some code629:=by kernel_rfl
theorem kk630:kc false code630 f181=some code630:=by kernel_rfl
theorem kk631:kc false code631 f135=some code631:=by kernel_rfl
theorem kk637:kc false code637 f188=some code637:=by kernel_rfl
theorem kk638:kc false code638 f177=some code638:=by kernel_rfl
theorem kk646:kc false code646 f191=some code646:=by kernel_rfl
theorem kk651:kc false code651 f8=some code651:=by kernel_rfl
theorem kk653:kc false code653 f7=some code653:=by kernel_rfl
theorem kk654:kc false code654 f6=some code654:=by kernel_rfl
theorem kk655:kc true code655 f5=some code655:=by kernel_rfl
theorem kk656:kc false code656 f15=some code656:=by kernel_rfl
theorem kk657:kc false code657 f16=some code657:=by kernel_rfl
theorem kk658:kc false code658 f17=some code658:=by kernel_rfl
theorem kk659:kc false code659 f12=some code659:=by kernel_rfl
theorem kk660:kc false code660 f11=some code660:=by kernel_rfl
theorem kk661:kc false code661 f14=some code661:=by kernel_rfl
theorem kk662:kc false code662 f13=some code662:=by kernel_rfl
theorem kk663:kc false code663 f10=some code663:=by kernel_rfl
theorem kk664:kc false code664 f4=some code664:=by kernel_rfl
theorem kk665:kc false code665 f23=some code665:=by kernel_rfl
theorem kk666:kc false code666 f22=some code666:=by kernel_rfl
theorem kk667:kc false code667 f24=some code667:=by kernel_rfl
theorem kk668:kc false code668 f26=some code668:=by kernel_rfl
theorem kk669:kc false code669 f25=some code669:=by kernel_rfl
theorem kk670:kc false code670 f28=some code670:=by kernel_rfl
theorem kk671:kc false code671 f41=some code671:=by kernel_rfl
theorem kk672:kc false code672 f43=some code672:=by kernel_rfl
theorem kk673:kc false code673 f42=some code673:=by kernel_rfl
theorem kk674:kc false code674 f45=some code674:=by kernel_rfl
theorem kk675:kc false code675 f44=some code675:=by kernel_rfl
theorem kk676:kc false code676 f27=some code676:=by kernel_rfl
theorem kk677:kc false code677 f46=some code677:=by kernel_rfl
theorem kk678:kc false code678 f29=some code678:=by kernel_rfl
theorem kk679:kc false code679 f47=some code679:=by kernel_rfl
theorem kk680:kc false code680 f67=some code680:=by kernel_rfl
theorem kk681:kc false code681 f66=some code681:=by kernel_rfl
theorem kk682:kc false code682 f71=some code682:=by kernel_rfl
theorem kk683:kc false code683 f70=some code683:=by kernel_rfl
theorem kk684:kc false code684 f72=some code684:=by kernel_rfl
theorem kk685:kc false code685 f73=some code685:=by kernel_rfl
theorem kk686:kc false code686 f48=some code686:=by kernel_rfl
theorem kk687:kc false code687 f99=some code687:=by kernel_rfl
theorem kk688:kc false code688 f101=some code688:=by kernel_rfl
theorem kk689:kc false code689 f107=some code689:=by kernel_rfl
theorem kk690:kc false code690 f105=some code690:=by kernel_rfl
theorem kk691:kc false code691 f106=some code691:=by kernel_rfl
theorem kk100273:kc false code100273 f19=some code100273:=by kernel_rfl
theorem kk100385:kc false code100385 f127=some code100385:=by kernel_rfl
theorem kk100465:kc false code100465 f82=some code100465:=by kernel_rfl
theorem kk100594:kc false code100594 f65=some code100594:=by kernel_rfl
theorem r512:RndOK E code512.body.rounds:=⟨rfl,trivial⟩
theorem r599:RndOK E code599.body.rounds:=⟨rfl,trivial⟩
theorem mixed:E.P.follows .mixedOrders=true:=by kernel_rfl
theorem cr567:kc false Go.Abs.AbsBlo.raw567 f32=some Go.Abs.AbsBlo.raw567:=by kernel_rfl
theorem agreesT:Agrees E Go.Abs.AbsNat.T0:=agrees_alt Go.Abs.AbsNat.rnd0 ⟨ow kk0 func39 rfl trivial,ow kk5 func157 rfl trivial,ow kk7 func160 rfl trivial,ow kk13 func63 rfl trivial,ow kk14 func179 rfl trivial,ow kk15 func180 rfl trivial,ow kk17 func172 rfl trivial,ow kk18 func173 rfl trivial,ow kk19 func174 rfl trivial,ow kk22 func93 rfl trivial,ow kk88 func125 rfl trivial,ow kk140 func146 rfl trivial,ow kk142 func145 rfl trivial,ow kk145 func58 rfl trivial,ow kk166 func156 rfl trivial,ow kk176 func87 rfl trivial,ow kk200 func75 rfl trivial,ow kk217 func189 rfl trivial,ow kk411 func111 rfl trivial,.inr (.inr ⟨_,_,_,Go.Proofs.Tryz.func18,rfl,rfl,lib444⟩),ow kk454 func53 rfl trivial,ow kk466 func80 rfl trivial,ow kk467 func79 rfl trivial,ow kk479 func100 rfl trivial,ow kk480 func98 rfl trivial,ow kk482 func69 rfl trivial,ow kk494 func124 rfl trivial,ow kk495 func123 rfl trivial,ow kk496 func122 rfl trivial,ow kk497 func121 rfl trivial,ow kk498 func126 rfl trivial,ow kk500 func85 rfl trivial,ow kk505 func143 rfl trivial,ow kk506 func142 rfl trivial,ow kk507 func144 rfl trivial,ow kk512 func154 rfl r512,ow kk513 func155 rfl trivial,ow kk520 func68 rfl trivial,ow kk525 func168 rfl trivial,ow kk531 func162 rfl trivial,ow kk537 func104 rfl trivial,ow kk538 func103 rfl trivial,ow kk542 func187 rfl trivial,.inr (.inr ⟨_,_,_,Go.Proofs.Tryz.func134,rfl,rfl,lib544⟩),ow kk549 func102 rfl trivial,ow kk555 func21 rfl trivial,ow kk556 func20 rfl trivial,ow kk558 func119 rfl trivial,ow kk561 func128 rfl trivial,ow kk564 func34 rfl trivial,ow cr567 func32 rfl trivial,ow kk568 func31 rfl trivial,ow kk570 func38 rfl trivial,ow kk571 func36 rfl trivial,ow kk572 func35 rfl trivial,ow kk573 func33 rfl trivial,ow kk577 func133 rfl trivial,ow kk578 func132 rfl trivial,ow kk579 func130 rfl trivial,ow kk580 func131 rfl trivial,ow kk581 func129 rfl trivial,ow kk582 func120 rfl trivial,ow kk583 func81 rfl trivial,ow kk585 func59 rfl trivial,ow kk586 func57 rfl trivial,ow kk587 func56 rfl trivial,ow kk588 func55 rfl trivial,ow kk589 func148 rfl trivial,ow kk590 func60 rfl trivial,ow kk591 func37 rfl trivial,ow kk592 func61 rfl trivial,ow kk596 func147 rfl trivial,ow kk597 func150 rfl trivial,ow kk598 func151 rfl trivial,ow kk599 func149 rfl r599,ow kk600 func92 rfl trivial,ow kk601 func152 rfl trivial,ow kk602 func86 rfl trivial,ow kk603 func84 rfl trivial,ow kk604 func83 rfl trivial,ow kk606 func88 rfl trivial,ow kk611 func97 rfl trivial,ow kk612 func96 rfl trivial,ow kk613 func140 rfl trivial,ow kk614 func138 rfl trivial,ow kk616 func159 rfl trivial,ow kk617 func158 rfl trivial,ow kk618 func161 rfl trivial,ow kk619 func110 rfl trivial,ow kk620 func112 rfl trivial,ow kk626 func153 rfl trivial,ow kk627 func176 rfl trivial,ow kk628 func175 rfl trivial,ow kk629 func178 rfl trivial,ow kk630 func181 rfl trivial,ow kk631 func135 rfl trivial,ow kk637 func188 rfl trivial,ow kk638 func177 rfl trivial,ow kk646 func191 rfl trivial,ow kk651 func8 rfl trivial,ow kk653 func7 rfl trivial,ow kk654 func6 rfl trivial,ow kk655 func5 rfl trivial,ow kk656 func15 rfl trivial,ow kk657 func16 rfl trivial,ow kk658 func17 rfl trivial,ow kk659 func12 rfl trivial,ow kk660 func11 rfl trivial,ow kk661 func14 rfl trivial,ow kk662 func13 rfl trivial,ow kk663 func10 rfl trivial,ow kk664 func4 rfl trivial,ow kk665 func23 rfl trivial,ow kk666 func22 rfl trivial,ow kk667 func24 rfl trivial,ow kk668 func26 rfl trivial,ow kk669 func25 rfl trivial,ow kk670 func28 rfl trivial,ow kk671 func41 rfl trivial,ow kk672 func43 rfl trivial,ow kk673 func42 rfl trivial,ow kk674 func45 rfl trivial,ow kk675 func44 rfl trivial,ow kk676 func27 rfl trivial,ow kk677 func46 rfl trivial,ow kk678 func29 rfl trivial,ow kk679 func47 rfl trivial,ow kk680 func67 rfl trivial,ow kk681 func66 rfl trivial,ow kk682 func71 rfl trivial,ow kk683 func70 rfl trivial,ow kk684 func72 rfl trivial,ow kk685 func73 rfl trivial,ow kk686 func48 rfl trivial,ow kk687 func99 rfl trivial,ow kk688 func101 rfl trivial,ow kk689 func107 rfl trivial,ow kk690 func105 rfl trivial,ow kk691 func106 rfl trivial,ow kk100273 func19 rfl trivial,ow kk100385 func127 rfl trivial,ow kk100465 func82 rfl trivial,ow kk100594 func65 rfl trivial,trivial⟩
theorem isRaw:IsCode E 567 Go.Abs.AbsBlo.raw567:=.of_k _ rfl (by decide) Go.Proofs.Tryz.func32 cr567 trivial
theorem lib567:LibOK E 32 Go.Proofs.Tryz.f32 Go.Abs.repF:=Go.Abs.AbsBlo.rep_ok (agreesT.x.sub Go.Abs.AbsNat.subT) mixed isRaw rfl (of_decide_eq_true (by kernel_rfl)) (by kernel_rfl)
theorem agrees:Agrees E Go.Abs.AbsNat.T:=agrees_of ⟨ow kk0 func39 rfl trivial,ow kk5 func157 rfl trivial,ow kk7 func160 rfl trivial,ow kk13 func63 rfl trivial,ow kk14 func179 rfl trivial,ow kk15 func180 rfl trivial,ow kk17 func172 rfl trivial,ow kk18 func173 rfl trivial,ow kk19 func174 rfl trivial,ow kk22 func93 rfl trivial,ow kk88 func125 rfl trivial,ow kk140 func146 rfl trivial,ow kk142 func145 rfl trivial,ow kk145 func58 rfl trivial,ow kk166 func156 rfl trivial,ow kk176 func87 rfl trivial,ow kk200 func75 rfl trivial,ow kk217 func189 rfl trivial,ow kk411 func111 rfl trivial,.inr (.inr ⟨_,_,_,Go.Proofs.Tryz.func18,rfl,rfl,lib444⟩),ow kk454 func53 rfl trivial,ow kk466 func80 rfl trivial,ow kk467 func79 rfl trivial,ow kk479 func100 rfl trivial,ow kk480 func98 rfl trivial,ow kk482 func69 rfl trivial,ow kk494 func124 rfl trivial,ow kk495 func123 rfl trivial,ow kk496 func122 rfl trivial,ow kk497 func121 rfl trivial,ow kk498 func126 rfl trivial,ow kk500 func85 rfl trivial,ow kk505 func143 rfl trivial,ow kk506 func142 rfl trivial,ow kk507 func144 rfl trivial,ow kk512 func154 rfl r512,ow kk513 func155 rfl trivial,ow kk520 func68 rfl trivial,ow kk525 func168 rfl trivial,ow kk531 func162 rfl trivial,ow kk537 func104 rfl trivial,ow kk538 func103 rfl trivial,ow kk542 func187 rfl trivial,.inr (.inr ⟨_,_,_,Go.Proofs.Tryz.func134,rfl,rfl,lib544⟩),ow kk549 func102 rfl trivial,ow kk555 func21 rfl trivial,ow kk556 func20 rfl trivial,ow kk558 func119 rfl trivial,ow kk561 func128 rfl trivial,ow kk564 func34 rfl trivial,.inr (.inr ⟨_,_,_,Go.Proofs.Tryz.func32,rfl,rfl,lib567⟩),ow kk568 func31 rfl trivial,ow kk570 func38 rfl trivial,ow kk571 func36 rfl trivial,ow kk572 func35 rfl trivial,ow kk573 func33 rfl trivial,ow kk577 func133 rfl trivial,ow kk578 func132 rfl trivial,ow kk579 func130 rfl trivial,ow kk580 func131 rfl trivial,ow kk581 func129 rfl trivial,ow kk582 func120 rfl trivial,ow kk583 func81 rfl trivial,ow kk585 func59 rfl trivial,ow kk586 func57 rfl trivial,ow kk587 func56 rfl trivial,ow kk588 func55 rfl trivial,ow kk589 func148 rfl trivial,ow kk590 func60 rfl trivial,ow kk591 func37 rfl trivial,ow kk592 func61 rfl trivial,ow kk596 func147 rfl trivial,ow kk597 func150 rfl trivial,ow kk598 func151 rfl trivial,ow kk599 func149 rfl r599,ow kk600 func92 rfl trivial,ow kk601 func152 rfl trivial,ow kk602 func86 rfl trivial,ow kk603 func84 rfl trivial,ow kk604 func83 rfl trivial,ow kk606 func88 rfl trivial,ow kk611 func97 rfl trivial,ow kk612 func96 rfl trivial,ow kk613 func140 rfl trivial,ow kk614 func138 rfl trivial,ow kk616 func159 rfl trivial,ow kk617 func158 rfl trivial,ow kk618 func161 rfl trivial,ow kk619 func110 rfl trivial,ow kk620 func112 rfl trivial,ow kk626 func153 rfl trivial,ow kk627 func176 rfl trivial,ow kk628 func175 rfl trivial,ow kk629 func178 rfl trivial,ow kk630 func181 rfl trivial,ow kk631 func135 rfl trivial,ow kk637 func188 rfl trivial,ow kk638 func177 rfl trivial,ow kk646 func191 rfl trivial,ow kk651 func8 rfl trivial,ow kk653 func7 rfl trivial,ow kk654 func6 rfl trivial,ow kk655 func5 rfl trivial,ow kk656 func15 rfl trivial,ow kk657 func16 rfl trivial,ow kk658 func17 rfl trivial,ow kk659 func12 rfl trivial,ow kk660 func11 rfl trivial,ow kk661 func14 rfl trivial,ow kk662 func13 rfl trivial,ow kk663 func10 rfl trivial,ow kk664 func4 rfl trivial,ow kk665 func23 rfl trivial,ow kk666 func22 rfl trivial,ow kk667 func24 rfl trivial,ow kk668 func26 rfl trivial,ow kk669 func25 rfl trivial,ow kk670 func28 rfl trivial,ow kk671 func41 rfl trivial,ow kk672 func43 rfl trivial,ow kk673 func42 rfl trivial,ow kk674 func45 rfl trivial,ow kk675 func44 rfl trivial,ow kk676 func27 rfl trivial,ow kk677 func46 rfl trivial,ow kk678 func29 rfl trivial,ow kk679 func47 rfl trivial,ow kk680 func67 rfl trivial,ow kk681 func66 rfl trivial,ow kk682 func71 rfl trivial,ow kk683 func70 rfl trivial,ow kk684 func72 rfl trivial,ow kk685 func73 rfl trivial,ow kk686 func48 rfl trivial,ow kk687 func99 rfl trivial,ow kk688 func101 rfl trivial,ow kk689 func107 rfl trivial,ow kk690 func105 rfl trivial,ow kk691 func106 rfl trivial,ow kk100273 func19 rfl trivial,ow kk100385 func127 rfl trivial,ow kk100465 func82 rfl trivial,ow kk100594 func65 rfl trivial,trivial⟩
end Go.Abs.AbsNatN
