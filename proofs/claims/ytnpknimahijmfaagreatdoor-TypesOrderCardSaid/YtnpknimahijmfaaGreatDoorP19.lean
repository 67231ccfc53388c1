/-
  Texts joined.
-/
import Derived.Test.YtnpknimahijmfaaGreatDoorP0
import Derived.Test.YtnpknimahijmfaaGreatDoorP7
import Derived.Test.YtnpknimahijmfaaGreatDoorP17
import Derived.Test.YtnpknimahijmfaaGreatDoorP18
import Derived.Test.YtnpknimahijmfaaGreatDoorP12
import Derived.Test.YtnpknimahijmfaaGreatDoorProg
import Derived.KernelRfl
set_option linter.unusedVariables false
set_option linter.unusedSimpArgs false
set_option maxRecDepth 100000
namespace Go.Abs.AbsTypO
open Go.Abs.AbsTyp Go.Abs.AbsOrd Go.Abs.AbsMake Go.Abs.AbsHier Go.Abs.AbsDesc
noncomputable def E:Env:=⟨Go.Proofs.Tryz.prog,fun f=>List.lookup f [(85,25),(70,26),(60,27),(96,28),(109,30),(54,32),(112,33),(107,34),(108,36),(56,37),(52,38),(61,47),(51,48),(38,49),(110,52),(84,54),(101,85),(102,86),(105,87),(137,88),(138,89),(118,90),(62,91),(119,92),(127,93),(117,96),(89,97),(86,98),(87,99),(88,100),(99,101),(100,102),(106,103),(42,106),(12,107),(41,108),(95,112),(94,115),(133,137),(135,138),(134,139),(150,140),(157,141),(111,142),(139,143),(120,144),(141,145),(140,146),(128,150),(132,151),(131,152),(129,153),(130,154),(142,155),(121,156),(98,157),(29,158),(97,159),(126,160),(151,171),(155,172),(160,173),(159,174),(161,176),(116,179),(143,180),(122,181),(123,182),(144,183),(145,184),(146,185),(147,186),(148,187),(149,188),(168,205),(163,209),(162,210),(171,222),(174,226),(20,239),(19,240),(18,242),(16,243),(27,245),(25,247),(6,250),(30,254),(50,260),(55,261),(53,262),(64,267),(68,270),(67,271),(71,273),(72,274),(115,280),(83,284),(164,100208)],rndOf Go.Abs.AbsTyp.T,1⟩
theorem lib262:LibOK E 53 Go.Proofs.Tryz.f53 insertF:=insert_ok rfl Go.Proofs.Tryz.lays22 rfl (of_decide_eq_true (by kernel_rfl)) (by kernel_rfl)
theorem c25:cFunc E false code25.body.hint Go.Proofs.Tryz.f85=some code25:=by kernel_rfl
theorem c26:cFunc E false code26.body.hint Go.Proofs.Tryz.f70=some code26:=by kernel_rfl
theorem c27:cFunc E false code27.body.hint Go.Proofs.Tryz.f60=some code27:=by kernel_rfl
theorem c28:cFunc E false code28.body.hint Go.Proofs.Tryz.f96=some code28:=by kernel_rfl
theorem c30:cFunc E false code30.body.hint Go.Proofs.Tryz.f109=some code30:=by kernel_rfl
theorem c32:cFunc E false code32.body.hint Go.Proofs.Tryz.f54=some code32:=by kernel_rfl
theorem c33:cFunc E false code33.body.hint Go.Proofs.Tryz.f112=some code33:=by kernel_rfl
theorem c34:cFunc E false code34.body.hint Go.Proofs.Tryz.f107=some code34:=by kernel_rfl
theorem c36:cFunc E false code36.body.hint Go.Proofs.Tryz.f108=some code36:=by kernel_rfl
theorem c37:cFunc E false code37.body.hint Go.Proofs.Tryz.f56=some code37:=by kernel_rfl
theorem c38:cFunc E false code38.body.hint Go.Proofs.Tryz.f52=some code38:=by kernel_rfl
theorem c47:cFunc E false code47.body.hint Go.Proofs.Tryz.f61=some code47:=by kernel_rfl
theorem c48:cFunc E false code48.body.hint Go.Proofs.Tryz.f51=some code48:=by kernel_rfl
theorem c49:cFunc E false code49.body.hint Go.Proofs.Tryz.f38=some code49:=by kernel_rfl
theorem c52:cFunc E false code52.body.hint Go.Proofs.Tryz.f110=some code52:=by kernel_rfl
theorem c54:cFunc E false code54.body.hint Go.Proofs.Tryz.f84=some code54:=by kernel_rfl
theorem c85:cFunc E false code85.body.hint Go.Proofs.Tryz.f101=some code85:=by kernel_rfl
theorem c86:cFunc E false code86.body.hint Go.Proofs.Tryz.f102=some code86:=by kernel_rfl
theorem c87:cFunc E false code87.body.hint Go.Proofs.Tryz.f105=some code87:=by kernel_rfl
theorem c88:cFunc E false code88.body.hint Go.Proofs.Tryz.f137=some code88:=by kernel_rfl
theorem c89:cFunc E false code89.body.hint Go.Proofs.Tryz.f138=some code89:=by kernel_rfl
theorem c90:cFunc E false code90.body.hint Go.Proofs.Tryz.f118=some code90:=by kernel_rfl
theorem c91:cFunc E false code91.body.hint Go.Proofs.Tryz.f62=some code91:=by kernel_rfl
theorem c92:cFunc E false code92.body.hint Go.Proofs.Tryz.f119=some code92:=by kernel_rfl
theorem c93:cFunc E false code93.body.hint Go.Proofs.Tryz.f127=some code93:=by kernel_rfl
theorem c96:cFunc E false code96.body.hint Go.Proofs.Tryz.f117=some code96:=by kernel_rfl
theorem c97:cFunc E false code97.body.hint Go.Proofs.Tryz.f89=some code97:=by kernel_rfl
theorem c98:cFunc E false code98.body.hint Go.Proofs.Tryz.f86=some code98:=by kernel_rfl
theorem c99:cFunc E false code99.body.hint Go.Proofs.Tryz.f87=some code99:=by kernel_rfl
theorem c100:cFunc E false code100.body.hint Go.Proofs.Tryz.f88=some code100:=by kernel_rfl
theorem c101:cFunc E false code101.body.hint Go.Proofs.Tryz.f99=some code101:=by kernel_rfl
theorem c102:cFunc E false code102.body.hint Go.Proofs.Tryz.f100=some code102:=by kernel_rfl
theorem c103:cFunc E false code103.body.hint Go.Proofs.Tryz.f106=some code103:=by kernel_rfl
theorem c106:cFunc E false code106.body.hint Go.Proofs.Tryz.f42=some code106:=by kernel_rfl
theorem c107:cFunc E false code107.body.hint Go.Proofs.Tryz.f12=some code107:=by kernel_rfl
theorem c108:cFunc E false code108.body.hint Go.Proofs.Tryz.f41=some code108:=by kernel_rfl
theorem c112:cFunc E false code112.body.hint Go.Proofs.Tryz.f95=some code112:=by kernel_rfl
theorem c115:cFunc E false code115.body.hint Go.Proofs.Tryz.f94=some code115:=by kernel_rfl
theorem c137:cFunc E false code137.body.hint Go.Proofs.Tryz.f133=some code137:=by kernel_rfl
theorem c138:cFunc E false code138.body.hint Go.Proofs.Tryz.f135=some code138:=by kernel_rfl
theorem c139:cFunc E false code139.body.hint Go.Proofs.Tryz.f134=some code139:=by kernel_rfl
theorem c140:cFunc E false code140.body.hint Go.Proofs.Tryz.f150=some code140:=by kernel_rfl
theorem c141:cFunc E false code141.body.hint Go.Proofs.Tryz.f157=some code141:=by kernel_rfl
theorem c142:cFunc E false code142.body.hint Go.Proofs.Tryz.f111=some code142:=by kernel_rfl
theorem c143:cFunc E false code143.body.hint Go.Proofs.Tryz.f139=some code143:=by kernel_rfl
theorem c145:cFunc E false code145.body.hint Go.Proofs.Tryz.f141=some code145:=by kernel_rfl
theorem c146:cFunc E false code146.body.hint Go.Proofs.Tryz.f140=some code146:=by kernel_rfl
theorem c150:cFunc E false code150.body.hint Go.Proofs.Tryz.f128=some code150:=by kernel_rfl
theorem c151:cFunc E false code151.body.hint Go.Proofs.Tryz.f132=some code151:=by kernel_rfl
theorem c152:cFunc E false code152.body.hint Go.Proofs.Tryz.f131=some code152:=by kernel_rfl
theorem c153:cFunc E false code153.body.hint Go.Proofs.Tryz.f129=some code153:=by kernel_rfl
theorem c154:cFunc E false code154.body.hint Go.Proofs.Tryz.f130=some code154:=by kernel_rfl
theorem c155:cFunc E false code155.body.hint Go.Proofs.Tryz.f142=some code155:=by kernel_rfl
theorem c156:cFunc E false code156.body.hint Go.Proofs.Tryz.f121=some code156:=by kernel_rfl
theorem c157:cFunc E false code157.body.hint Go.Proofs.Tryz.f98=some code157:=by kernel_rfl
theorem c158:cFunc E false code158.body.hint Go.Proofs.Tryz.f29=some code158:=by kernel_rfl
theorem c159:cFunc E false code159.body.hint Go.Proofs.Tryz.f97=some code159:=by kernel_rfl
theorem c160:cFunc E false code160.body.hint Go.Proofs.Tryz.f126=some code160:=by kernel_rfl
theorem c171:cFunc E false code171.body.hint Go.Proofs.Tryz.f151=some code171:=by kernel_rfl
theorem c172:cFunc E false code172.body.hint Go.Proofs.Tryz.f155=some code172:=by kernel_rfl
theorem c173:cFunc E false code173.body.hint Go.Proofs.Tryz.f160=some code173:=by kernel_rfl
theorem c174:cFunc E false code174.body.hint Go.Proofs.Tryz.f159=some code174:=by kernel_rfl
theorem c176:cFunc E false code176.body.hint Go.Proofs.Tryz.f161=some code176:=by kernel_rfl
theorem c179:cFunc E false code179.body.hint Go.Proofs.Tryz.f116=some code179:=by kernel_rfl
theorem c180:cFunc E false code180.body.hint Go.Proofs.Tryz.f143=some code180:=by kernel_rfl
theorem c181:cFunc E false code181.body.hint Go.Proofs.Tryz.f122=some code181:=by kernel_rfl
theorem c182:cFunc E false code182.body.hint Go.Proofs.Tryz.f123=some code182:=by kernel_rfl
theorem c183:cFunc E false code183.body.hint Go.Proofs.Tryz.f144=some code183:=by kernel_rfl
theorem c184:cFunc E false code184.body.hint Go.Proofs.Tryz.f145=some code184:=by kernel_rfl
theorem c185:cFunc E false code185.body.hint Go.Proofs.Tryz.f146=some code185:=by kernel_rfl
theorem c186:cFunc E false code186.body.hint Go.Proofs.Tryz.f147=some code186:=by kernel_rfl
theorem c187:cFunc E false code187.body.hint Go.Proofs.Tryz.f148=some code187:=by kernel_rfl
theorem c188:cFunc E false code188.body.hint Go.Proofs.Tryz.f149=some code188:=by kernel_rfl
theorem c205:cFunc E false code205.body.hint Go.Proofs.Tryz.f168=some code205:=by kernel_rfl
theorem c209:cFunc E false code209.body.hint Go.Proofs.Tryz.f163=some code209:=by kernel_rfl
theorem c210:cFunc E false code210.body.hint Go.Proofs.Tryz.f162=some code210:=by kernel_rfl
theorem c222:cFunc E false code222.body.hint Go.Proofs.Tryz.f171=some code222:=by kernel_rfl
theorem c226:cFunc E false code226.body.hint Go.Proofs.Tryz.f174=some code226:=by kernel_rfl
theorem c239:cFunc E false code239.body.hint Go.Proofs.Tryz.f20=some code239:=by kernel_rfl
theorem c240:cFunc E false code240.body.hint Go.Proofs.Tryz.f19=some code240:=by kernel_rfl
theorem c242:cFunc E false code242.body.hint Go.Proofs.Tryz.f18=some code242:=by kernel_rfl
theorem c243:cFunc E true code243.body.hint Go.Proofs.Tryz.f16=some code243:=by kernel_rfl
theorem c245:cFunc E false code245.body.hint Go.Proofs.Tryz.f27=some code245:=by kernel_rfl
theorem c247:cFunc E false code247.body.hint Go.Proofs.Tryz.f25=some code247:=by kernel_rfl
theorem c250:cFunc E false code250.body.hint Go.Proofs.Tryz.f6=some code250:=by kernel_rfl
theorem c254:cFunc E false code254.body.hint Go.Proofs.Tryz.f30=some code254:=by kernel_rfl
theorem c260:cFunc E false code260.body.hint Go.Proofs.Tryz.f50=some code260:=by kernel_rfl
theorem c261:cFunc E false code261.body.hint Go.Proofs.Tryz.f55=some code261:=by kernel_rfl
theorem c267:cFunc E false code267.body.hint Go.Proofs.Tryz.f64=some code267:=by kernel_rfl
theorem c270:cFunc E false code270.body.hint Go.Proofs.Tryz.f68=some code270:=by kernel_rfl
theorem c271:cFunc E false code271.body.hint Go.Proofs.Tryz.f67=some code271:=by kernel_rfl
theorem c273:cFunc E false code273.body.hint Go.Proofs.Tryz.f71=some code273:=by kernel_rfl
theorem c274:cFunc E false code274.body.hint Go.Proofs.Tryz.f72=some code274:=by kernel_rfl
theorem c280:cFunc E false code280.body.hint Go.Proofs.Tryz.f115=some code280:=by kernel_rfl
theorem c284:cFunc E false code284.body.hint Go.Proofs.Tryz.f83=some code284:=by kernel_rfl
theorem c100208:cFunc E false code100208.body.hint Go.Proofs.Tryz.f164=some code100208:=by kernel_rfl
theorem r52:RndOK E code52.body.rounds:=⟨rfl,trivial⟩
theorem r97:RndOK E code97.body.rounds:=⟨rfl,trivial⟩
theorem r98:RndOK E code98.body.rounds:=⟨rfl,trivial⟩
theorem mixed:E.P.follows .mixedOrders=true:=by kernel_rfl
noncomputable def E0_144:Env:=⟨Go.Proofs.Tryz.prog,fun f=>List.lookup f [(120,144),(141,145),(140,146),(161,176)],rndOf Go.Abs.AbsTyp.T,0⟩
theorem d144_144:cFunc E0_144 false code144.body.hint Go.Proofs.Tryz.f120=some code144:=by kernel_rfl
theorem d144_145:cFunc E0_144 false code145.body.hint Go.Proofs.Tryz.f141=some code145:=by kernel_rfl
theorem d144_146:cFunc E0_144 false code146.body.hint Go.Proofs.Tryz.f140=some code146:=by kernel_rfl
theorem d144_176:cFunc E0_144 false code176.body.hint Go.Proofs.Tryz.f161=some code176:=by kernel_rfl
theorem agrees0_144:Agrees E0_144 Go.Abs.AbsTyp.T:=agrees_of ⟨.inr (.inl ⟨_,_,_,_,Go.Proofs.Tryz.func120,(rfl:Go.Abs.AbsTyp.T 144=some code144),d144_144,trivial⟩),.inr (.inl ⟨_,_,_,_,Go.Proofs.Tryz.func141,(rfl:Go.Abs.AbsTyp.T 145=some code145),d144_145,trivial⟩),.inr (.inl ⟨_,_,_,_,Go.Proofs.Tryz.func140,(rfl:Go.Abs.AbsTyp.T 146=some code146),d144_146,trivial⟩),.inr (.inl ⟨_,_,_,_,Go.Proofs.Tryz.func161,(rfl:Go.Abs.AbsTyp.T 176=some code176),d144_176,trivial⟩),trivial⟩
theorem by144:ByOK E Go.Abs.AbsTyp.T 120 144 Go.Proofs.Tryz.f120:=by_other (E0:=E0_144) (E:=E) rfl agrees0_144 mixed (of_decide_eq_true (by kernel_rfl)) (by kernel_rfl) rfl word_by
theorem agrees:Agrees E Go.Abs.AbsTyp.T:=agrees_of ⟨.inr (.inl ⟨_,_,_,_,Go.Proofs.Tryz.func85,(rfl:Go.Abs.AbsTyp.T 25=some code25),c25,trivial⟩),.inr (.inl ⟨_,_,_,_,Go.Proofs.Tryz.func70,(rfl:Go.Abs.AbsTyp.T 26=some code26),c26,trivial⟩),.inr (.inl ⟨_,_,_,_,Go.Proofs.Tryz.func60,(rfl:Go.Abs.AbsTyp.T 27=some code27),c27,trivial⟩),.inr (.inl ⟨_,_,_,_,Go.Proofs.Tryz.func96,(rfl:Go.Abs.AbsTyp.T 28=some code28),c28,trivial⟩),.inr (.inl ⟨_,_,_,_,Go.Proofs.Tryz.func109,(rfl:Go.Abs.AbsTyp.T 30=some code30),c30,trivial⟩),.inr (.inl ⟨_,_,_,_,Go.Proofs.Tryz.func54,(rfl:Go.Abs.AbsTyp.T 32=some code32),c32,trivial⟩),.inr (.inl ⟨_,_,_,_,Go.Proofs.Tryz.func112,(rfl:Go.Abs.AbsTyp.T 33=some code33),c33,trivial⟩),.inr (.inl ⟨_,_,_,_,Go.Proofs.Tryz.func107,(rfl:Go.Abs.AbsTyp.T 34=some code34),c34,trivial⟩),.inr (.inl ⟨_,_,_,_,Go.Proofs.Tryz.func108,(rfl:Go.Abs.AbsTyp.T 36=some code36),c36,trivial⟩),.inr (.inl ⟨_,_,_,_,Go.Proofs.Tryz.func56,(rfl:Go.Abs.AbsTyp.T 37=some code37),c37,trivial⟩),.inr (.inl ⟨_,_,_,_,Go.Proofs.Tryz.func52,(rfl:Go.Abs.AbsTyp.T 38=some code38),c38,trivial⟩),.inr (.inl ⟨_,_,_,_,Go.Proofs.Tryz.func61,(rfl:Go.Abs.AbsTyp.T 47=some code47),c47,trivial⟩),.inr (.inl ⟨_,_,_,_,Go.Proofs.Tryz.func51,(rfl:Go.Abs.AbsTyp.T 48=some code48),c48,trivial⟩),.inr (.inl ⟨_,_,_,_,Go.Proofs.Tryz.func38,(rfl:Go.Abs.AbsTyp.T 49=some code49),c49,trivial⟩),.inr (.inl ⟨_,_,_,_,Go.Proofs.Tryz.func110,(rfl:Go.Abs.AbsTyp.T 52=some code52),c52,r52⟩),.inr (.inl ⟨_,_,_,_,Go.Proofs.Tryz.func84,(rfl:Go.Abs.AbsTyp.T 54=some code54),c54,trivial⟩),.inr (.inl ⟨_,_,_,_,Go.Proofs.Tryz.func101,(rfl:Go.Abs.AbsTyp.T 85=some code85),c85,trivial⟩),.inr (.inl ⟨_,_,_,_,Go.Proofs.Tryz.func102,(rfl:Go.Abs.AbsTyp.T 86=some code86),c86,trivial⟩),.inr (.inl ⟨_,_,_,_,Go.Proofs.Tryz.func105,(rfl:Go.Abs.AbsTyp.T 87=some code87),c87,trivial⟩),.inr (.inl ⟨_,_,_,_,Go.Proofs.Tryz.func137,(rfl:Go.Abs.AbsTyp.T 88=some code88),c88,trivial⟩),.inr (.inl ⟨_,_,_,_,Go.Proofs.Tryz.func138,(rfl:Go.Abs.AbsTyp.T 89=some code89),c89,trivial⟩),.inr (.inl ⟨_,_,_,_,Go.Proofs.Tryz.func118,(rfl:Go.Abs.AbsTyp.T 90=some code90),c90,trivial⟩),.inr (.inl ⟨_,_,_,_,Go.Proofs.Tryz.func62,(rfl:Go.Abs.AbsTyp.T 91=some code91),c91,trivial⟩),.inr (.inl ⟨_,_,_,_,Go.Proofs.Tryz.func119,(rfl:Go.Abs.AbsTyp.T 92=some code92),c92,trivial⟩),.inr (.inl ⟨_,_,_,_,Go.Proofs.Tryz.func127,(rfl:Go.Abs.AbsTyp.T 93=some code93),c93,trivial⟩),.inr (.inl ⟨_,_,_,_,Go.Proofs.Tryz.func117,(rfl:Go.Abs.AbsTyp.T 96=some code96),c96,trivial⟩),.inr (.inl ⟨_,_,_,_,Go.Proofs.Tryz.func89,(rfl:Go.Abs.AbsTyp.T 97=some code97),c97,r97⟩),.inr (.inl ⟨_,_,_,_,Go.Proofs.Tryz.func86,(rfl:Go.Abs.AbsTyp.T 98=some code98),c98,r98⟩),.inr (.inl ⟨_,_,_,_,Go.Proofs.Tryz.func87,(rfl:Go.Abs.AbsTyp.T 99=some code99),c99,trivial⟩),.inr (.inl ⟨_,_,_,_,Go.Proofs.Tryz.func88,(rfl:Go.Abs.AbsTyp.T 100=some code100),c100,trivial⟩),.inr (.inl ⟨_,_,_,_,Go.Proofs.Tryz.func99,(rfl:Go.Abs.AbsTyp.T 101=some code101),c101,trivial⟩),.inr (.inl ⟨_,_,_,_,Go.Proofs.Tryz.func100,(rfl:Go.Abs.AbsTyp.T 102=some code102),c102,trivial⟩),.inr (.inl ⟨_,_,_,_,Go.Proofs.Tryz.func106,(rfl:Go.Abs.AbsTyp.T 103=some code103),c103,trivial⟩),.inr (.inl ⟨_,_,_,_,Go.Proofs.Tryz.func42,(rfl:Go.Abs.AbsTyp.T 106=some code106),c106,trivial⟩),.inr (.inl ⟨_,_,_,_,Go.Proofs.Tryz.func12,(rfl:Go.Abs.AbsTyp.T 107=some code107),c107,trivial⟩),.inr (.inl ⟨_,_,_,_,Go.Proofs.Tryz.func41,(rfl:Go.Abs.AbsTyp.T 108=some code108),c108,trivial⟩),.inr (.inl ⟨_,_,_,_,Go.Proofs.Tryz.func95,(rfl:Go.Abs.AbsTyp.T 112=some code112),c112,trivial⟩),.inr (.inl ⟨_,_,_,_,Go.Proofs.Tryz.func94,(rfl:Go.Abs.AbsTyp.T 115=some code115),c115,trivial⟩),.inr (.inl ⟨_,_,_,_,Go.Proofs.Tryz.func133,(rfl:Go.Abs.AbsTyp.T 137=some code137),c137,trivial⟩),.inr (.inl ⟨_,_,_,_,Go.Proofs.Tryz.func135,(rfl:Go.Abs.AbsTyp.T 138=some code138),c138,trivial⟩),.inr (.inl ⟨_,_,_,_,Go.Proofs.Tryz.func134,(rfl:Go.Abs.AbsTyp.T 139=some code139),c139,trivial⟩),.inr (.inl ⟨_,_,_,_,Go.Proofs.Tryz.func150,(rfl:Go.Abs.AbsTyp.T 140=some code140),c140,trivial⟩),.inr (.inl ⟨_,_,_,_,Go.Proofs.Tryz.func157,(rfl:Go.Abs.AbsTyp.T 141=some code141),c141,trivial⟩),.inr (.inl ⟨_,_,_,_,Go.Proofs.Tryz.func111,(rfl:Go.Abs.AbsTyp.T 142=some code142),c142,trivial⟩),.inr (.inl ⟨_,_,_,_,Go.Proofs.Tryz.func139,(rfl:Go.Abs.AbsTyp.T 143=some code143),c143,trivial⟩),.inl ⟨_,Go.Proofs.Tryz.func120,by144⟩,.inr (.inl ⟨_,_,_,_,Go.Proofs.Tryz.func141,(rfl:Go.Abs.AbsTyp.T 145=some code145),c145,trivial⟩),.inr (.inl ⟨_,_,_,_,Go.Proofs.Tryz.func140,(rfl:Go.Abs.AbsTyp.T 146=some code146),c146,trivial⟩),.inr (.inl ⟨_,_,_,_,Go.Proofs.Tryz.func128,(rfl:Go.Abs.AbsTyp.T 150=some code150),c150,trivial⟩),.inr (.inl ⟨_,_,_,_,Go.Proofs.Tryz.func132,(rfl:Go.Abs.AbsTyp.T 151=some code151),c151,trivial⟩),.inr (.inl ⟨_,_,_,_,Go.Proofs.Tryz.func131,(rfl:Go.Abs.AbsTyp.T 152=some code152),c152,trivial⟩),.inr (.inl ⟨_,_,_,_,Go.Proofs.Tryz.func129,(rfl:Go.Abs.AbsTyp.T 153=some code153),c153,trivial⟩),.inr (.inl ⟨_,_,_,_,Go.Proofs.Tryz.func130,(rfl:Go.Abs.AbsTyp.T 154=some code154),c154,trivial⟩),.inr (.inl ⟨_,_,_,_,Go.Proofs.Tryz.func142,(rfl:Go.Abs.AbsTyp.T 155=some code155),c155,trivial⟩),.inr (.inl ⟨_,_,_,_,Go.Proofs.Tryz.func121,(rfl:Go.Abs.AbsTyp.T 156=some code156),c156,trivial⟩),.inr (.inl ⟨_,_,_,_,Go.Proofs.Tryz.func98,(rfl:Go.Abs.AbsTyp.T 157=some code157),c157,trivial⟩),.inr (.inl ⟨_,_,_,_,Go.Proofs.Tryz.func29,(rfl:Go.Abs.AbsTyp.T 158=some code158),c158,trivial⟩),.inr (.inl ⟨_,_,_,_,Go.Proofs.Tryz.func97,(rfl:Go.Abs.AbsTyp.T 159=some code159),c159,trivial⟩),.inr (.inl ⟨_,_,_,_,Go.Proofs.Tryz.func126,(rfl:Go.Abs.AbsTyp.T 160=some code160),c160,trivial⟩),.inr (.inl ⟨_,_,_,_,Go.Proofs.Tryz.func151,(rfl:Go.Abs.AbsTyp.T 171=some code171),c171,trivial⟩),.inr (.inl ⟨_,_,_,_,Go.Proofs.Tryz.func155,(rfl:Go.Abs.AbsTyp.T 172=some code172),c172,trivial⟩),.inr (.inl ⟨_,_,_,_,Go.Proofs.Tryz.func160,(rfl:Go.Abs.AbsTyp.T 173=some code173),c173,trivial⟩),.inr (.inl ⟨_,_,_,_,Go.Proofs.Tryz.func159,(rfl:Go.Abs.AbsTyp.T 174=some code174),c174,trivial⟩),.inr (.inl ⟨_,_,_,_,Go.Proofs.Tryz.func161,(rfl:Go.Abs.AbsTyp.T 176=some code176),c176,trivial⟩),.inr (.inl ⟨_,_,_,_,Go.Proofs.Tryz.func116,(rfl:Go.Abs.AbsTyp.T 179=some code179),c179,trivial⟩),.inr (.inl ⟨_,_,_,_,Go.Proofs.Tryz.func143,(rfl:Go.Abs.AbsTyp.T 180=some code180),c180,trivial⟩),.inr (.inl ⟨_,_,_,_,Go.Proofs.Tryz.func122,(rfl:Go.Abs.AbsTyp.T 181=some code181),c181,trivial⟩),.inr (.inl ⟨_,_,_,_,Go.Proofs.Tryz.func123,(rfl:Go.Abs.AbsTyp.T 182=some code182),c182,trivial⟩),.inr (.inl ⟨_,_,_,_,Go.Proofs.Tryz.func144,(rfl:Go.Abs.AbsTyp.T 183=some code183),c183,trivial⟩),.inr (.inl ⟨_,_,_,_,Go.Proofs.Tryz.func145,(rfl:Go.Abs.AbsTyp.T 184=some code184),c184,trivial⟩),.inr (.inl ⟨_,_,_,_,Go.Proofs.Tryz.func146,(rfl:Go.Abs.AbsTyp.T 185=some code185),c185,trivial⟩),.inr (.inl ⟨_,_,_,_,Go.Proofs.Tryz.func147,(rfl:Go.Abs.AbsTyp.T 186=some code186),c186,trivial⟩),.inr (.inl ⟨_,_,_,_,Go.Proofs.Tryz.func148,(rfl:Go.Abs.AbsTyp.T 187=some code187),c187,trivial⟩),.inr (.inl ⟨_,_,_,_,Go.Proofs.Tryz.func149,(rfl:Go.Abs.AbsTyp.T 188=some code188),c188,trivial⟩),.inr (.inl ⟨_,_,_,_,Go.Proofs.Tryz.func168,(rfl:Go.Abs.AbsTyp.T 205=some code205),c205,trivial⟩),.inr (.inl ⟨_,_,_,_,Go.Proofs.Tryz.func163,(rfl:Go.Abs.AbsTyp.T 209=some code209),c209,trivial⟩),.inr (.inl ⟨_,_,_,_,Go.Proofs.Tryz.func162,(rfl:Go.Abs.AbsTyp.T 210=some code210),c210,trivial⟩),.inr (.inl ⟨_,_,_,_,Go.Proofs.Tryz.func171,(rfl:Go.Abs.AbsTyp.T 222=some code222),c222,trivial⟩),.inr (.inl ⟨_,_,_,_,Go.Proofs.Tryz.func174,(rfl:Go.Abs.AbsTyp.T 226=some code226),c226,trivial⟩),.inr (.inl ⟨_,_,_,_,Go.Proofs.Tryz.func20,(rfl:Go.Abs.AbsTyp.T 239=some code239),c239,trivial⟩),.inr (.inl ⟨_,_,_,_,Go.Proofs.Tryz.func19,(rfl:Go.Abs.AbsTyp.T 240=some code240),c240,trivial⟩),.inr (.inl ⟨_,_,_,_,Go.Proofs.Tryz.func18,(rfl:Go.Abs.AbsTyp.T 242=some code242),c242,trivial⟩),.inr (.inl ⟨_,_,_,_,Go.Proofs.Tryz.func16,(rfl:Go.Abs.AbsTyp.T 243=some code243),c243,trivial⟩),.inr (.inl ⟨_,_,_,_,Go.Proofs.Tryz.func27,(rfl:Go.Abs.AbsTyp.T 245=some code245),c245,trivial⟩),.inr (.inl ⟨_,_,_,_,Go.Proofs.Tryz.func25,(rfl:Go.Abs.AbsTyp.T 247=some code247),c247,trivial⟩),.inr (.inl ⟨_,_,_,_,Go.Proofs.Tryz.func6,(rfl:Go.Abs.AbsTyp.T 250=some code250),c250,trivial⟩),.inr (.inl ⟨_,_,_,_,Go.Proofs.Tryz.func30,(rfl:Go.Abs.AbsTyp.T 254=some code254),c254,trivial⟩),.inr (.inl ⟨_,_,_,_,Go.Proofs.Tryz.func50,(rfl:Go.Abs.AbsTyp.T 260=some code260),c260,trivial⟩),.inr (.inl ⟨_,_,_,_,Go.Proofs.Tryz.func55,(rfl:Go.Abs.AbsTyp.T 261=some code261),c261,trivial⟩),.inr (.inr ⟨_,_,_,Go.Proofs.Tryz.func53,rfl,rfl,lib262⟩),.inr (.inl ⟨_,_,_,_,Go.Proofs.Tryz.func64,(rfl:Go.Abs.AbsTyp.T 267=some code267),c267,trivial⟩),.inr (.inl ⟨_,_,_,_,Go.Proofs.Tryz.func68,(rfl:Go.Abs.AbsTyp.T 270=some code270),c270,trivial⟩),.inr (.inl ⟨_,_,_,_,Go.Proofs.Tryz.func67,(rfl:Go.Abs.AbsTyp.T 271=some code271),c271,trivial⟩),.inr (.inl ⟨_,_,_,_,Go.Proofs.Tryz.func71,(rfl:Go.Abs.AbsTyp.T 273=some code273),c273,trivial⟩),.inr (.inl ⟨_,_,_,_,Go.Proofs.Tryz.func72,(rfl:Go.Abs.AbsTyp.T 274=some code274),c274,trivial⟩),.inr (.inl ⟨_,_,_,_,Go.Proofs.Tryz.func115,(rfl:Go.Abs.AbsTyp.T 280=some code280),c280,trivial⟩),.inr (.inl ⟨_,_,_,_,Go.Proofs.Tryz.func83,(rfl:Go.Abs.AbsTyp.T 284=some code284),c284,trivial⟩),.inr (.inl ⟨_,_,_,_,Go.Proofs.Tryz.func164,(rfl:Go.Abs.AbsTyp.T 100208=some code100208),c100208,trivial⟩),trivial⟩
end Go.Abs.AbsTypO
