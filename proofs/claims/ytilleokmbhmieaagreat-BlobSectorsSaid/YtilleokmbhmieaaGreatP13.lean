/-
  Texts joined.
-/
import Derived.Test.YtilleokmbhmieaaGreatP0
import Derived.Test.YtilleokmbhmieaaGreatP11
import Derived.Test.YtilleokmbhmieaaGreatP12
import Derived.Test.YtilleokmbhmieaaGreatP9
import Derived.Test.YtilleokmbhmieaaGreatProg
import Derived.KernelRfl
set_option linter.unusedVariables false
set_option linter.unusedSimpArgs false
set_option maxRecDepth 100000
namespace Go.Abs.AbsBloS
open Go.Abs.AbsBlo Go.Abs.AbsBlb Go.Proofs.Tryz
noncomputable def E:Env:=⟨Go.Proofs.Tryz.prog,fun f=>List.lookup f [(33,0),(97,5),(100,7),(63,13),(122,14),(123,15),(115,17),(116,18),(117,19),(89,22),(56,88),(82,140),(81,142),(50,145),(107,166),(77,176),(136,200),(142,217),(95,385),(103,411),(58,454),(84,466),(83,467),(23,480),(21,482),(55,494),(54,495),(53,496),(52,497),(75,500),(79,505),(78,506),(80,507),(105,512),(106,513),(132,525),(126,531),(148,542),(13,549),(8,555),(7,556),(6,557),(17,558),(19,560),(22,561),(24,562),(25,563),(20,564),(5,565),(18,566),(27,567),(26,568),(32,570),(30,571),(29,572),(28,573),(42,577),(41,578),(39,579),(40,580),(38,581),(44,582),(43,583),(46,584),(51,585),(49,586),(48,587),(47,588),(57,589),(60,590),(31,591),(61,592),(67,596),(69,597),(70,598),(68,599),(72,600),(71,601),(76,602),(74,603),(73,604),(85,606),(93,611),(92,612),(96,613),(94,614),(99,616),(98,617),(101,618),(102,619),(104,620),(114,626),(119,627),(118,628),(121,629),(124,630),(125,631),(141,637),(120,638),(149,646),(45,100102),(66,100465),(65,100594)],rndOf Go.Abs.AbsBlo.T,0,0,[]⟩
noncomputable abbrev kc (b:Bool) (c:AFunc) (f:Func):Option AFunc:=cFunc E b c.body.hint f
theorem c0:kc false code0 f33=some code0:=by kernel_rfl
theorem c5:kc false code5 f97=some code5:=by kernel_rfl
theorem c7:kc false code7 f100=some code7:=by kernel_rfl
theorem c13:kc false code13 f63=some code13:=by kernel_rfl
theorem c14:kc false code14 f122=some code14:=by kernel_rfl
theorem c15:kc false code15 f123=some code15:=by kernel_rfl
theorem c17:kc false code17 f115=some code17:=by kernel_rfl
theorem c18:kc false code18 f116=some code18:=by kernel_rfl
theorem c19:kc false code19 f117=some code19:=by kernel_rfl
theorem c22:kc false code22 f89=some code22:=by kernel_rfl
theorem c88:kc false code88 f56=some code88:=by kernel_rfl
theorem c140:kc false code140 f82=some code140:=by kernel_rfl
theorem c142:kc false code142 f81=some code142:=by kernel_rfl
theorem c145:kc false code145 f50=some code145:=by kernel_rfl
theorem c166:kc false code166 f107=some code166:=by kernel_rfl
theorem c176:kc false code176 f77=some code176:=by kernel_rfl
theorem c200:kc false code200 f136=some code200:=by kernel_rfl
theorem c217:kc false code217 f142=some code217:=by kernel_rfl
theorem c385:kc false code385 f95=some code385:=by kernel_rfl
theorem c411:kc false code411 f103=some code411:=by kernel_rfl
theorem c454:kc false code454 f58=some code454:=by kernel_rfl
theorem c466:kc false code466 f84=some code466:=by kernel_rfl
theorem c467:kc false code467 f83=some code467:=by kernel_rfl
theorem c480:kc false code480 f23=some code480:=by kernel_rfl
theorem c482:kc false code482 f21=some code482:=by kernel_rfl
theorem c494:kc false code494 f55=some code494:=by kernel_rfl
theorem c495:kc false code495 f54=some code495:=by kernel_rfl
theorem c496:kc false code496 f53=some code496:=by kernel_rfl
theorem c497:kc false code497 f52=some code497:=by kernel_rfl
theorem c500:kc false code500 f75=some code500:=by kernel_rfl
theorem c505:kc false code505 f79=some code505:=by kernel_rfl
theorem c506:kc false code506 f78=some code506:=by kernel_rfl
theorem c507:kc false code507 f80=some code507:=by kernel_rfl
theorem c512:kc false code512 f105=some code512:=by kernel_rfl
theorem c513:kc false code513 f106=some code513:=by kernel_rfl
theorem c525:kc false code525 f132=some code525:=by kernel_rfl
theorem c531:kc false code531 f126=some code531:=by kernel_rfl
theorem c542:kc false code542 f148=some code542:=by kernel_rfl
theorem c549:kc false code549 f13=some code549:=by kernel_rfl
theorem c555:kc false code555 f8=some code555:=by kernel_rfl
theorem c556:kc false code556 f7=some code556:=by kernel_rfl
theorem c557:kc true code557 f6=some code557:=by kernel_rfl
theorem c558:kc false code558 f17=some code558:=by kernel_rfl
theorem c560:kc false code560 f19=some code560:=by kernel_rfl
theorem c561:kc false code561 f22=some code561:=by kernel_rfl
theorem c562:kc false code562 f24=some code562:=by kernel_rfl
theorem c563:kc false code563 f25=some code563:=by kernel_rfl
theorem c564:kc false code564 f20=some code564:=by kernel_rfl
theorem c565:kc false code565 f5=some code565:=by kernel_rfl
theorem c566:kc false code566 f18=some code566:=by kernel_rfl
theorem c568:kc false code568 f26=some code568:=by kernel_rfl
theorem c570:kc false code570 f32=some code570:=by kernel_rfl
theorem c571:kc false code571 f30=some code571:=by kernel_rfl
theorem c572:kc false code572 f29=some code572:=by kernel_rfl
theorem c573:kc false code573 f28=some code573:=by kernel_rfl
theorem c577:kc false code577 f42=some code577:=by kernel_rfl
theorem c578:kc false code578 f41=some code578:=by kernel_rfl
theorem c579:kc false code579 f39=some code579:=by kernel_rfl
theorem c580:kc false code580 f40=some code580:=by kernel_rfl
theorem c581:kc false code581 f38=some code581:=by kernel_rfl
theorem c582:kc false code582 f44=some code582:=by kernel_rfl
theorem c583:kc false code583 f43=some code583:=by kernel_rfl
theorem c584:kc false code584 f46=some code584:=by kernel_rfl
theorem c585:kc false code585 f51=some code585:=by kernel_rfl
theorem c586:kc false code586 f49=some code586:=by kernel_rfl
theorem c587:kc false code587 f48=some code587:=by kernel_rfl
theorem c588:kc false code588 f47=some code588:=by kernel_rfl
theorem c589:kc false code589 f57=some code589:=by kernel_rfl
theorem c590:kc false code590 f60=some code590:=by kernel_rfl
theorem c591:kc false code591 f31=some code591:=by kernel_rfl
theorem c592:kc false code592 f61=some code592:=by kernel_rfl
theorem c596:kc false code596 f67=some code596:=by kernel_rfl
theorem c597:kc false code597 f69=some code597:=by kernel_rfl
theorem c598:kc false code598 f70=some code598:=by kernel_rfl
theorem c599:kc false code599 f68=some code599:=by kernel_rfl
theorem c600:kc false code600 f72=some code600:=by kernel_rfl
theorem c601:kc false code601 f71=some code601:=by kernel_rfl
theorem c602:kc false code602 f76=some code602:=by kernel_rfl
theorem c603:kc false code603 f74=some code603:=by kernel_rfl
theorem c604:kc false code604 f73=some code604:=by kernel_rfl
theorem c606:kc false code606 f85=some code606:=by kernel_rfl
theorem c611:kc false code611 f93=some code611:=by kernel_rfl
theorem c612:kc false code612 f92=some code612:=by kernel_rfl
theorem c613:kc false code613 f96=some code613:=by kernel_rfl
theorem c614:kc false code614 f94=some code614:=by kernel_rfl
theorem c616:kc false code616 f99=some code616:=by kernel_rfl
theorem c617:kc false code617 f98=some code617:=by kernel_rfl
theorem c618:kc false code618 f101=some code618:=by kernel_rfl
theorem c619:kc false code619 f102=some code619:=by kernel_rfl
theorem c620:kc false code620 f104=some code620:=by kernel_rfl
theorem c626:kc false code626 f114=some code626:=by kernel_rfl
theorem c627:kc false code627 f119=some code627:=by kernel_rfl
theorem c628:kc false code628 f118=some code628:=by kernel_rfl
theorem c629:kc false code629 f121=some code629:=by kernel_rfl
theorem c630:kc false code630 f124=some code630:=by kernel_rfl
theorem c631:kc false code631 f125=some code631:=by kernel_rfl
theorem c637:kc false code637 f141=some code637:=by kernel_rfl
theorem c638:kc false code638 f120=some code638:=by kernel_rfl
theorem c646:kc false code646 f149=some code646:=by kernel_rfl
theorem c100102:kc false code100102 f45=some code100102:=by kernel_rfl
theorem c100465:kc false code100465 f66=some code100465:=by kernel_rfl
theorem c100594:kc false code100594 f65=some code100594:=by kernel_rfl
theorem r512:RndOK E code512.body.rounds:=⟨rfl,trivial⟩
theorem r599:RndOK E code599.body.rounds:=⟨rfl,trivial⟩
theorem mixed:E.P.follows .mixedOrders=true:=by kernel_rfl
theorem cr567:kc false Go.Abs.AbsBlo.raw567 f27=some Go.Abs.AbsBlo.raw567:=by kernel_rfl
theorem agreesT:Agrees E Go.Abs.AbsBlo.T0:=agrees_alt Go.Abs.AbsBlo.rnd0 ⟨ow c0 func33 rfl trivial,ow c5 func97 rfl trivial,ow c7 func100 rfl trivial,ow c13 func63 rfl trivial,ow c14 func122 rfl trivial,ow c15 func123 rfl trivial,ow c17 func115 rfl trivial,ow c18 func116 rfl trivial,ow c19 func117 rfl trivial,ow c22 func89 rfl trivial,ow c88 func56 rfl trivial,ow c140 func82 rfl trivial,ow c142 func81 rfl trivial,ow c145 func50 rfl trivial,ow c166 func107 rfl trivial,ow c176 func77 rfl trivial,ow c200 func136 rfl trivial,ow c217 func142 rfl trivial,ow c385 func95 rfl trivial,ow c411 func103 rfl trivial,ow c454 func58 rfl trivial,ow c466 func84 rfl trivial,ow c467 func83 rfl trivial,ow c480 func23 rfl trivial,ow c482 func21 rfl trivial,ow c494 func55 rfl trivial,ow c495 func54 rfl trivial,ow c496 func53 rfl trivial,ow c497 func52 rfl trivial,ow c500 func75 rfl trivial,ow c505 func79 rfl trivial,ow c506 func78 rfl trivial,ow c507 func80 rfl trivial,ow c512 func105 rfl r512,ow c513 func106 rfl trivial,ow c525 func132 rfl trivial,ow c531 func126 rfl trivial,ow c542 func148 rfl trivial,ow c549 func13 rfl trivial,ow c555 func8 rfl trivial,ow c556 func7 rfl trivial,ow c557 func6 rfl trivial,ow c558 func17 rfl trivial,ow c560 func19 rfl trivial,ow c561 func22 rfl trivial,ow c562 func24 rfl trivial,ow c563 func25 rfl trivial,ow c564 func20 rfl trivial,ow c565 func5 rfl trivial,ow c566 func18 rfl trivial,ow cr567 func27 rfl trivial,ow c568 func26 rfl trivial,ow c570 func32 rfl trivial,ow c571 func30 rfl trivial,ow c572 func29 rfl trivial,ow c573 func28 rfl trivial,ow c577 func42 rfl trivial,ow c578 func41 rfl trivial,ow c579 func39 rfl trivial,ow c580 func40 rfl trivial,ow c581 func38 rfl trivial,ow c582 func44 rfl trivial,ow c583 func43 rfl trivial,ow c584 func46 rfl trivial,ow c585 func51 rfl trivial,ow c586 func49 rfl trivial,ow c587 func48 rfl trivial,ow c588 func47 rfl trivial,ow c589 func57 rfl trivial,ow c590 func60 rfl trivial,ow c591 func31 rfl trivial,ow c592 func61 rfl trivial,ow c596 func67 rfl trivial,ow c597 func69 rfl trivial,ow c598 func70 rfl trivial,ow c599 func68 rfl r599,ow c600 func72 rfl trivial,ow c601 func71 rfl trivial,ow c602 func76 rfl trivial,ow c603 func74 rfl trivial,ow c604 func73 rfl trivial,ow c606 func85 rfl trivial,ow c611 func93 rfl trivial,ow c612 func92 rfl trivial,ow c613 func96 rfl trivial,ow c614 func94 rfl trivial,ow c616 func99 rfl trivial,ow c617 func98 rfl trivial,ow c618 func101 rfl trivial,ow c619 func102 rfl trivial,ow c620 func104 rfl trivial,ow c626 func114 rfl trivial,ow c627 func119 rfl trivial,ow c628 func118 rfl trivial,ow c629 func121 rfl trivial,ow c630 func124 rfl trivial,ow c631 func125 rfl trivial,ow c637 func141 rfl trivial,ow c638 func120 rfl trivial,ow c646 func149 rfl trivial,ow c100102 func45 rfl trivial,ow c100465 func66 rfl trivial,ow c100594 func65 rfl trivial,trivial⟩
theorem isRaw:IsCode E 567 Go.Abs.AbsBlo.raw567:=.of_k _ rfl (by decide) Go.Proofs.Tryz.func27 cr567 trivial
theorem lib567:LibOK E 27 Go.Proofs.Tryz.f27 Go.Abs.repF:=Go.Abs.AbsBlo.rep_ok agreesT mixed isRaw rfl (of_decide_eq_true (by kernel_rfl)) (by kernel_rfl)
theorem agrees:Agrees E Go.Abs.AbsBlo.T:=agrees_of ⟨ow c0 func33 rfl trivial,ow c5 func97 rfl trivial,ow c7 func100 rfl trivial,ow c13 func63 rfl trivial,ow c14 func122 rfl trivial,ow c15 func123 rfl trivial,ow c17 func115 rfl trivial,ow c18 func116 rfl trivial,ow c19 func117 rfl trivial,ow c22 func89 rfl trivial,ow c88 func56 rfl trivial,ow c140 func82 rfl trivial,ow c142 func81 rfl trivial,ow c145 func50 rfl trivial,ow c166 func107 rfl trivial,ow c176 func77 rfl trivial,ow c200 func136 rfl trivial,ow c217 func142 rfl trivial,ow c385 func95 rfl trivial,ow c411 func103 rfl trivial,ow c454 func58 rfl trivial,ow c466 func84 rfl trivial,ow c467 func83 rfl trivial,ow c480 func23 rfl trivial,ow c482 func21 rfl trivial,ow c494 func55 rfl trivial,ow c495 func54 rfl trivial,ow c496 func53 rfl trivial,ow c497 func52 rfl trivial,ow c500 func75 rfl trivial,ow c505 func79 rfl trivial,ow c506 func78 rfl trivial,ow c507 func80 rfl trivial,ow c512 func105 rfl r512,ow c513 func106 rfl trivial,ow c525 func132 rfl trivial,ow c531 func126 rfl trivial,ow c542 func148 rfl trivial,ow c549 func13 rfl trivial,ow c555 func8 rfl trivial,ow c556 func7 rfl trivial,ow c557 func6 rfl trivial,ow c558 func17 rfl trivial,ow c560 func19 rfl trivial,ow c561 func22 rfl trivial,ow c562 func24 rfl trivial,ow c563 func25 rfl trivial,ow c564 func20 rfl trivial,ow c565 func5 rfl trivial,ow c566 func18 rfl trivial,.inr (.inr ⟨_,_,_,Go.Proofs.Tryz.func27,rfl,rfl,lib567⟩),ow c568 func26 rfl trivial,ow c570 func32 rfl trivial,ow c571 func30 rfl trivial,ow c572 func29 rfl trivial,ow c573 func28 rfl trivial,ow c577 func42 rfl trivial,ow c578 func41 rfl trivial,ow c579 func39 rfl trivial,ow c580 func40 rfl trivial,ow c581 func38 rfl trivial,ow c582 func44 rfl trivial,ow c583 func43 rfl trivial,ow c584 func46 rfl trivial,ow c585 func51 rfl trivial,ow c586 func49 rfl trivial,ow c587 func48 rfl trivial,ow c588 func47 rfl trivial,ow c589 func57 rfl trivial,ow c590 func60 rfl trivial,ow c591 func31 rfl trivial,ow c592 func61 rfl trivial,ow c596 func67 rfl trivial,ow c597 func69 rfl trivial,ow c598 func70 rfl trivial,ow c599 func68 rfl r599,ow c600 func72 rfl trivial,ow c601 func71 rfl trivial,ow c602 func76 rfl trivial,ow c603 func74 rfl trivial,ow c604 func73 rfl trivial,ow c606 func85 rfl trivial,ow c611 func93 rfl trivial,ow c612 func92 rfl trivial,ow c613 func96 rfl trivial,ow c614 func94 rfl trivial,ow c616 func99 rfl trivial,ow c617 func98 rfl trivial,ow c618 func101 rfl trivial,ow c619 func102 rfl trivial,ow c620 func104 rfl trivial,ow c626 func114 rfl trivial,ow c627 func119 rfl trivial,ow c628 func118 rfl trivial,ow c629 func121 rfl trivial,ow c630 func124 rfl trivial,ow c631 func125 rfl trivial,ow c637 func141 rfl trivial,ow c638 func120 rfl trivial,ow c646 func149 rfl trivial,ow c100102 func45 rfl trivial,ow c100465 func66 rfl trivial,ow c100594 func65 rfl trivial,trivial⟩
end Go.Abs.AbsBloS
