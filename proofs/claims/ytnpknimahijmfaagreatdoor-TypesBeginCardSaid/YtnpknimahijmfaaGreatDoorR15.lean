/-
  Texts joined.
-/
import Derived.Test.YtnpknimahijmfaaGreatDoorR0
import Derived.Test.YtnpknimahijmfaaGreatDoorR13
import Derived.Test.YtnpknimahijmfaaGreatDoorR14
import Derived.Test.YtnpknimahijmfaaGreatDoorR9
import Derived.Test.YtnpknimahijmfaaGreatDoorProg
import Derived.KernelRfl
set_option linter.unusedVariables false
set_option linter.unusedSimpArgs false
set_option maxRecDepth 100000
namespace Go.Abs.AbsTypH
open Go.Abs.Zt Go.Abs.Zo Go.Abs.Zm Go.Abs.Zh Go.Abs.Zd Go.Proofs.Tryz
noncomputable def E:Env:=⟨Go.Proofs.Tryz.prog,fun f=>List.lookup f [(85,25),(70,26),(60,27),(96,28),(109,30),(48,31),(54,32),(112,33),(107,34),(114,35),(108,36),(56,37),(52,38),(61,47),(51,48),(38,49),(110,52),(84,54),(101,85),(102,86),(105,87),(137,88),(138,89),(118,90),(62,91),(119,92),(127,93),(117,96),(89,97),(86,98),(87,99),(88,100),(99,101),(100,102),(106,103),(42,106),(12,107),(41,108),(95,112),(94,115),(133,137),(135,138),(134,139),(150,140),(157,141),(111,142),(139,143),(120,144),(141,145),(140,146),(128,150),(132,151),(131,152),(129,153),(130,154),(142,155),(121,156),(98,157),(29,158),(97,159),(126,160),(151,171),(155,172),(160,173),(159,174),(161,176),(116,179),(143,180),(122,181),(123,182),(144,183),(145,184),(146,185),(147,186),(148,187),(149,188),(168,205),(163,209),(162,210),(171,222),(174,226),(24,235),(23,236),(22,237),(21,238),(20,239),(19,240),(17,241),(18,242),(16,243),(4,244),(30,254),(55,261),(53,262),(58,263),(59,265),(63,266),(66,268),(71,273),(72,274),(113,279),(115,280),(83,284),(164,100208),(50,100260),(57,100264)],rndOf Go.Abs.Zt.T,1⟩
theorem lib262:LibOK E 53 Go.Proofs.Tryz.f53 tg:=insert_ok rfl Go.Proofs.Tryz.lays22 rfl (of_decide_eq_true (by kernel_rfl)) (by kernel_rfl)
noncomputable abbrev kc (b:Bool) (c:AFunc) (f:Func):Option AFunc:=tj E b c.body.hint f
theorem c25:kc false code25 f85=some code25:=by kernel_rfl
theorem c26:kc false code26 f70=some code26:=by kernel_rfl
theorem c27:kc false code27 f60=some code27:=by kernel_rfl
theorem c28:kc false code28 f96=some code28:=by kernel_rfl
theorem c30:kc false code30 f109=some code30:=by kernel_rfl
theorem c31:kc false code31 f48=some code31:=by kernel_rfl
theorem c32:kc false code32 f54=some code32:=by kernel_rfl
theorem c33:kc false code33 f112=some code33:=by kernel_rfl
theorem c34:kc false code34 f107=some code34:=by kernel_rfl
theorem c35:kc false code35 f114=some code35:=by kernel_rfl
theorem c36:kc false code36 f108=some code36:=by kernel_rfl
theorem c37:kc false code37 f56=some code37:=by kernel_rfl
theorem c38:kc false code38 f52=some code38:=by kernel_rfl
theorem c47:kc false code47 f61=some code47:=by kernel_rfl
theorem c48:kc false code48 f51=some code48:=by kernel_rfl
theorem c49:kc false code49 f38=some code49:=by kernel_rfl
theorem c52:kc false code52 f110=some code52:=by kernel_rfl
theorem c54:kc false code54 f84=some code54:=by kernel_rfl
theorem c85:kc false code85 f101=some code85:=by kernel_rfl
theorem c86:kc false code86 f102=some code86:=by kernel_rfl
theorem c87:kc false code87 f105=some code87:=by kernel_rfl
theorem c88:kc false code88 f137=some code88:=by kernel_rfl
theorem c89:kc false code89 f138=some code89:=by kernel_rfl
theorem c90:kc false code90 f118=some code90:=by kernel_rfl
theorem c91:kc false code91 f62=some code91:=by kernel_rfl
theorem c92:kc false code92 f119=some code92:=by kernel_rfl
theorem c93:kc false code93 f127=some code93:=by kernel_rfl
theorem c96:kc false code96 f117=some code96:=by kernel_rfl
theorem c97:kc false code97 f89=some code97:=by kernel_rfl
theorem c98:kc false code98 f86=some code98:=by kernel_rfl
theorem c99:kc false code99 f87=some code99:=by kernel_rfl
theorem c100:kc false code100 f88=some code100:=by kernel_rfl
theorem c101:kc false code101 f99=some code101:=by kernel_rfl
theorem c102:kc false code102 f100=some code102:=by kernel_rfl
theorem c103:kc false code103 f106=some code103:=by kernel_rfl
theorem c106:kc false code106 f42=some code106:=by kernel_rfl
theorem c107:kc false code107 f12=some code107:=by kernel_rfl
theorem c108:kc false code108 f41=some code108:=by kernel_rfl
theorem c112:kc false code112 f95=some code112:=by kernel_rfl
theorem c115:kc false code115 f94=some code115:=by kernel_rfl
theorem c137:kc false code137 f133=some code137:=by kernel_rfl
theorem c138:kc false code138 f135=some code138:=by kernel_rfl
theorem c139:kc false code139 f134=some code139:=by kernel_rfl
theorem c140:kc false code140 f150=some code140:=by kernel_rfl
theorem c141:kc false code141 f157=some code141:=by kernel_rfl
theorem c142:kc false code142 f111=some code142:=by kernel_rfl
theorem c143:kc false code143 f139=some code143:=by kernel_rfl
theorem c145:kc false code145 f141=some code145:=by kernel_rfl
theorem c146:kc false code146 f140=some code146:=by kernel_rfl
theorem c150:kc false code150 f128=some code150:=by kernel_rfl
theorem c151:kc false code151 f132=some code151:=by kernel_rfl
theorem c152:kc false code152 f131=some code152:=by kernel_rfl
theorem c153:kc false code153 f129=some code153:=by kernel_rfl
theorem c154:kc false code154 f130=some code154:=by kernel_rfl
theorem c155:kc false code155 f142=some code155:=by kernel_rfl
theorem c156:kc false code156 f121=some code156:=by kernel_rfl
theorem c157:kc false code157 f98=some code157:=by kernel_rfl
theorem c158:kc false code158 f29=some code158:=by kernel_rfl
theorem c159:kc false code159 f97=some code159:=by kernel_rfl
theorem c160:kc false code160 f126=some code160:=by kernel_rfl
theorem c171:kc false code171 f151=some code171:=by kernel_rfl
theorem c172:kc false code172 f155=some code172:=by kernel_rfl
theorem c173:kc false code173 f160=some code173:=by kernel_rfl
theorem c174:kc false code174 f159=some code174:=by kernel_rfl
theorem c176:kc false code176 f161=some code176:=by kernel_rfl
theorem c179:kc false code179 f116=some code179:=by kernel_rfl
theorem c180:kc false code180 f143=some code180:=by kernel_rfl
theorem c181:kc false code181 f122=some code181:=by kernel_rfl
theorem c182:kc false code182 f123=some code182:=by kernel_rfl
theorem c183:kc false code183 f144=some code183:=by kernel_rfl
theorem c184:kc false code184 f145=some code184:=by kernel_rfl
theorem c185:kc false code185 f146=some code185:=by kernel_rfl
theorem c186:kc false code186 f147=some code186:=by kernel_rfl
theorem c187:kc false code187 f148=some code187:=by kernel_rfl
theorem c188:kc false code188 f149=some code188:=by kernel_rfl
theorem c205:kc false code205 f168=some code205:=by kernel_rfl
theorem c209:kc false code209 f163=some code209:=by kernel_rfl
theorem c210:kc false code210 f162=some code210:=by kernel_rfl
theorem c222:kc false code222 f171=some code222:=by kernel_rfl
theorem c226:kc false code226 f174=some code226:=by kernel_rfl
theorem c235:kc false code235 f24=some code235:=by kernel_rfl
theorem c236:kc false code236 f23=some code236:=by kernel_rfl
theorem c237:kc false code237 f22=some code237:=by kernel_rfl
theorem c238:kc false code238 f21=some code238:=by kernel_rfl
theorem c239:kc false code239 f20=some code239:=by kernel_rfl
theorem c240:kc false code240 f19=some code240:=by kernel_rfl
theorem c241:kc false code241 f17=some code241:=by kernel_rfl
theorem c242:kc false code242 f18=some code242:=by kernel_rfl
theorem c243:kc true code243 f16=some code243:=by kernel_rfl
theorem c244:kc false code244 f4=some code244:=by kernel_rfl
theorem c254:kc false code254 f30=some code254:=by kernel_rfl
theorem c261:kc false code261 f55=some code261:=by kernel_rfl
theorem c263:kc false code263 f58=some code263:=by kernel_rfl
theorem c265:kc false code265 f59=some code265:=by kernel_rfl
theorem c266:kc false code266 f63=some code266:=by kernel_rfl
theorem c268:kc false code268 f66=some code268:=by kernel_rfl
theorem c273:kc false code273 f71=some code273:=by kernel_rfl
theorem c274:kc false code274 f72=some code274:=by kernel_rfl
theorem c279:kc false code279 f113=some code279:=by kernel_rfl
theorem c280:kc false code280 f115=some code280:=by kernel_rfl
theorem c284:kc false code284 f83=some code284:=by kernel_rfl
theorem c100208:kc false code100208 f164=some code100208:=by kernel_rfl
theorem c100260:kc false code100260 f50=some code100260:=by kernel_rfl
theorem c100264:kc false code100264 f57=some code100264:=by kernel_rfl
theorem r52:RndOK E code52.body.rounds:=⟨rfl,trivial⟩
theorem r97:RndOK E code97.body.rounds:=⟨rfl,trivial⟩
theorem r98:RndOK E code98.body.rounds:=⟨rfl,trivial⟩
theorem mixed:E.P.follows .mixedOrders=true:=by kernel_rfl
noncomputable def E0_144:Env:=⟨Go.Proofs.Tryz.prog,fun f=>List.lookup f [(120,144),(141,145),(140,146),(161,176)],rndOf Go.Abs.Zt.T,0⟩
theorem d144_144:tj E0_144 false code144.body.hint Go.Proofs.Tryz.f120=some code144:=by kernel_rfl
theorem d144_145:tj E0_144 false code145.body.hint Go.Proofs.Tryz.f141=some code145:=by kernel_rfl
theorem d144_146:tj E0_144 false code146.body.hint Go.Proofs.Tryz.f140=some code146:=by kernel_rfl
theorem d144_176:tj E0_144 false code176.body.hint Go.Proofs.Tryz.f161=some code176:=by kernel_rfl
theorem agrees0_144:Agrees E0_144 Go.Abs.Zt.T:=agrees_of ⟨ow d144_144 func120 rfl trivial,ow d144_145 func141 rfl trivial,ow d144_146 func140 rfl trivial,ow d144_176 func161 rfl trivial,trivial⟩
theorem by144:ByOK E Go.Abs.Zt.T 120 144 Go.Proofs.Tryz.f120:=by_other (E0:=E0_144) (E:=E) rfl agrees0_144 mixed (of_decide_eq_true (by kernel_rfl)) (by kernel_rfl) rfl word_by
theorem agrees:Agrees E Go.Abs.Zt.T:=agrees_of ⟨ow c25 func85 rfl trivial,ow c26 func70 rfl trivial,ow c27 func60 rfl trivial,ow c28 func96 rfl trivial,ow c30 func109 rfl trivial,ow c31 func48 rfl trivial,ow c32 func54 rfl trivial,ow c33 func112 rfl trivial,ow c34 func107 rfl trivial,ow c35 func114 rfl trivial,ow c36 func108 rfl trivial,ow c37 func56 rfl trivial,ow c38 func52 rfl trivial,ow c47 func61 rfl trivial,ow c48 func51 rfl trivial,ow c49 func38 rfl trivial,ow c52 func110 rfl r52,ow c54 func84 rfl trivial,ow c85 func101 rfl trivial,ow c86 func102 rfl trivial,ow c87 func105 rfl trivial,ow c88 func137 rfl trivial,ow c89 func138 rfl trivial,ow c90 func118 rfl trivial,ow c91 func62 rfl trivial,ow c92 func119 rfl trivial,ow c93 func127 rfl trivial,ow c96 func117 rfl trivial,ow c97 func89 rfl r97,ow c98 func86 rfl r98,ow c99 func87 rfl trivial,ow c100 func88 rfl trivial,ow c101 func99 rfl trivial,ow c102 func100 rfl trivial,ow c103 func106 rfl trivial,ow c106 func42 rfl trivial,ow c107 func12 rfl trivial,ow c108 func41 rfl trivial,ow c112 func95 rfl trivial,ow c115 func94 rfl trivial,ow c137 func133 rfl trivial,ow c138 func135 rfl trivial,ow c139 func134 rfl trivial,ow c140 func150 rfl trivial,ow c141 func157 rfl trivial,ow c142 func111 rfl trivial,ow c143 func139 rfl trivial,.inl ⟨_,Go.Proofs.Tryz.func120,by144⟩,ow c145 func141 rfl trivial,ow c146 func140 rfl trivial,ow c150 func128 rfl trivial,ow c151 func132 rfl trivial,ow c152 func131 rfl trivial,ow c153 func129 rfl trivial,ow c154 func130 rfl trivial,ow c155 func142 rfl trivial,ow c156 func121 rfl trivial,ow c157 func98 rfl trivial,ow c158 func29 rfl trivial,ow c159 func97 rfl trivial,ow c160 func126 rfl trivial,ow c171 func151 rfl trivial,ow c172 func155 rfl trivial,ow c173 func160 rfl trivial,ow c174 func159 rfl trivial,ow c176 func161 rfl trivial,ow c179 func116 rfl trivial,ow c180 func143 rfl trivial,ow c181 func122 rfl trivial,ow c182 func123 rfl trivial,ow c183 func144 rfl trivial,ow c184 func145 rfl trivial,ow c185 func146 rfl trivial,ow c186 func147 rfl trivial,ow c187 func148 rfl trivial,ow c188 func149 rfl trivial,ow c205 func168 rfl trivial,ow c209 func163 rfl trivial,ow c210 func162 rfl trivial,ow c222 func171 rfl trivial,ow c226 func174 rfl trivial,ow c235 func24 rfl trivial,ow c236 func23 rfl trivial,ow c237 func22 rfl trivial,ow c238 func21 rfl trivial,ow c239 func20 rfl trivial,ow c240 func19 rfl trivial,ow c241 func17 rfl trivial,ow c242 func18 rfl trivial,ow c243 func16 rfl trivial,ow c244 func4 rfl trivial,ow c254 func30 rfl trivial,ow c261 func55 rfl trivial,.inr (.inr ⟨_,_,_,Go.Proofs.Tryz.func53,rfl,rfl,lib262⟩),ow c263 func58 rfl trivial,ow c265 func59 rfl trivial,ow c266 func63 rfl trivial,ow c268 func66 rfl trivial,ow c273 func71 rfl trivial,ow c274 func72 rfl trivial,ow c279 func113 rfl trivial,ow c280 func115 rfl trivial,ow c284 func83 rfl trivial,ow c100208 func164 rfl trivial,ow c100260 func50 rfl trivial,ow c100264 func57 rfl trivial,trivial⟩
end Go.Abs.AbsTypH
