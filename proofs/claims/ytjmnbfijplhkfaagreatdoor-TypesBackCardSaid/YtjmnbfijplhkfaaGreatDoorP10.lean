/-
  Texts joined.
-/
import Derived.Test.YtjmnbfijplhkfaaGreatDoorP0
import Derived.Test.YtjmnbfijplhkfaaGreatDoorP8
import Derived.Test.YtjmnbfijplhkfaaGreatDoorP9
import Derived.Test.YtjmnbfijplhkfaaGreatDoorP7
import Derived.Test.YtjmnbfijplhkfaaGreatDoorProg
import Derived.KernelRfl
set_option linter.unusedVariables false
set_option linter.unusedSimpArgs false
set_option maxRecDepth 100000
namespace Go.Abs.AbsTybB
open Go.Abs.AbsTyb Go.Abs.Zt Go.Abs.Zo Go.Abs.Zm Go.Abs.Zh Go.Abs.Zd Go.Proofs.Tryz
noncomputable def E:Env:=⟨Go.Proofs.Tryz.prog,fun f=>List.lookup f [(80,25),(52,26),(62,27),(91,28),(99,30),(96,32),(150,33),(166,34),(215,36),(151,37),(94,38),(55,43),(157,47),(30,48),(38,49),(199,52),(31,54),(152,85),(105,86),(211,87),(155,88),(227,89),(140,90),(139,91),(141,92),(149,93),(70,96),(84,97),(81,98),(82,99),(83,100),(68,101),(69,102),(144,103),(42,106),(12,107),(41,108),(90,112),(89,115),(212,137),(160,138),(159,139),(214,140),(273,141),(206,142),(207,143),(142,144),(209,145),(208,146),(124,150),(128,151),(127,152),(125,153),(126,154),(210,155),(143,156),(93,157),(18,158),(92,159),(148,160),(217,171),(221,172),(158,173),(260,174),(261,176),(138,179),(104,180),(61,181),(145,182),(183,183),(184,184),(185,185),(186,186),(187,187),(188,188),(216,205),(243,209),(242,210),(282,222),(263,226),(22,235),(50,239),(19,240),(17,242),(16,243),(100,247),(24,251),(23,252),(21,253),(20,254),(4,255),(97,261),(95,262),(156,267),(54,274),(57,275),(56,276),(98,280),(79,284),(244,100208),(51,100260),(53,100273)],rndOf Go.Abs.AbsTyb.T,1⟩
theorem lib262:LibOK E 95 Go.Proofs.Tryz.f95 insertF:=insert_ok rfl Go.Proofs.Tryz.lays22 rfl (of_decide_eq_true (by kernel_rfl)) (by kernel_rfl)
noncomputable abbrev kc (b:Bool) (c:AFunc) (f:Func):Option AFunc:=td E b c.body.hint f
theorem c25:kc false code25 f80=some code25:=by kernel_rfl
theorem c26:kc false code26 f52=some code26:=by kernel_rfl
theorem c27:kc false code27 f62=some code27:=by kernel_rfl
theorem c28:kc false code28 f91=some code28:=by kernel_rfl
theorem c30:kc false code30 f99=some code30:=by kernel_rfl
theorem c32:kc false code32 f96=some code32:=by kernel_rfl
theorem c33:kc false code33 f150=some code33:=by kernel_rfl
theorem c34:kc false code34 f166=some code34:=by kernel_rfl
theorem c36:kc false code36 f215=some code36:=by kernel_rfl
theorem c37:kc false code37 f151=some code37:=by kernel_rfl
theorem c38:kc false code38 f94=some code38:=by kernel_rfl
theorem c43:kc false code43 f55=some code43:=by kernel_rfl
theorem c47:kc false code47 f157=some code47:=by kernel_rfl
theorem c48:kc false code48 f30=some code48:=by kernel_rfl
theorem c49:kc false code49 f38=some code49:=by kernel_rfl
theorem c52:kc false code52 f199=some code52:=by kernel_rfl
theorem c54:kc false code54 f31=some code54:=by kernel_rfl
theorem c85:kc false code85 f152=some code85:=by kernel_rfl
theorem c86:kc false code86 f105=some code86:=by kernel_rfl
theorem c87:kc false code87 f211=some code87:=by kernel_rfl
theorem c88:kc false code88 f155=some code88:=by kernel_rfl
theorem c89:kc false code89 f227=some code89:=by kernel_rfl
theorem c90:kc false code90 f140=some code90:=by kernel_rfl
theorem c91:kc false code91 f139=some code91:=by kernel_rfl
theorem c92:kc false code92 f141=some code92:=by kernel_rfl
theorem c93:kc false code93 f149=some code93:=by kernel_rfl
theorem c96:kc false code96 f70=some code96:=by kernel_rfl
theorem c97:kc false code97 f84=some code97:=by kernel_rfl
theorem c98:kc false code98 f81=some code98:=by kernel_rfl
theorem c99:kc false code99 f82=some code99:=by kernel_rfl
theorem c100:kc false code100 f83=some code100:=by kernel_rfl
theorem c101:kc false code101 f68=some code101:=by kernel_rfl
theorem c102:kc false code102 f69=some code102:=by kernel_rfl
theorem c103:kc false code103 f144=some code103:=by kernel_rfl
theorem c106:kc false code106 f42=some code106:=by kernel_rfl
theorem c107:kc false code107 f12=some code107:=by kernel_rfl
theorem c108:kc false code108 f41=some code108:=by kernel_rfl
theorem c112:kc false code112 f90=some code112:=by kernel_rfl
theorem c115:kc false code115 f89=some code115:=by kernel_rfl
theorem c137:kc false code137 f212=some code137:=by kernel_rfl
theorem c138:kc false code138 f160=some code138:=by kernel_rfl
theorem c139:kc false code139 f159=some code139:=by kernel_rfl
theorem c140:kc false code140 f214=some code140:=by kernel_rfl
theorem c141:kc false code141 f273=some code141:=by kernel_rfl
theorem c142:kc false code142 f206=some code142:=by kernel_rfl
theorem c143:kc false code143 f207=some code143:=by kernel_rfl
theorem c145:kc false code145 f209=some code145:=by kernel_rfl
theorem c146:kc false code146 f208=some code146:=by kernel_rfl
theorem c150:kc false code150 f124=some code150:=by kernel_rfl
theorem c151:kc false code151 f128=some code151:=by kernel_rfl
theorem c152:kc false code152 f127=some code152:=by kernel_rfl
theorem c153:kc false code153 f125=some code153:=by kernel_rfl
theorem c154:kc false code154 f126=some code154:=by kernel_rfl
theorem c155:kc false code155 f210=some code155:=by kernel_rfl
theorem c156:kc false code156 f143=some code156:=by kernel_rfl
theorem c157:kc false code157 f93=some code157:=by kernel_rfl
theorem c158:kc false code158 f18=some code158:=by kernel_rfl
theorem c159:kc false code159 f92=some code159:=by kernel_rfl
theorem c160:kc false code160 f148=some code160:=by kernel_rfl
theorem c171:kc false code171 f217=some code171:=by kernel_rfl
theorem c172:kc false code172 f221=some code172:=by kernel_rfl
theorem c173:kc false code173 f158=some code173:=by kernel_rfl
theorem c174:kc false code174 f260=some code174:=by kernel_rfl
theorem c176:kc false code176 f261=some code176:=by kernel_rfl
theorem c179:kc false code179 f138=some code179:=by kernel_rfl
theorem c180:kc false code180 f104=some code180:=by kernel_rfl
theorem c181:kc false code181 f61=some code181:=by kernel_rfl
theorem c182:kc false code182 f145=some code182:=by kernel_rfl
theorem c183:kc false code183 f183=some code183:=by kernel_rfl
theorem c184:kc false code184 f184=some code184:=by kernel_rfl
theorem c185:kc false code185 f185=some code185:=by kernel_rfl
theorem c186:kc false code186 f186=some code186:=by kernel_rfl
theorem c187:kc false code187 f187=some code187:=by kernel_rfl
theorem c188:kc false code188 f188=some code188:=by kernel_rfl
theorem c205:kc false code205 f216=some code205:=by kernel_rfl
theorem c209:kc false code209 f243=some code209:=by kernel_rfl
theorem c210:kc false code210 f242=some code210:=by kernel_rfl
theorem c222:kc false code222 f282=some code222:=by kernel_rfl
theorem c226:kc false code226 f263=some code226:=by kernel_rfl
theorem c235:kc false code235 f22=some code235:=by kernel_rfl
theorem c239:kc false code239 f50=some code239:=by kernel_rfl
theorem c240:kc false code240 f19=some code240:=by kernel_rfl
theorem c242:kc false code242 f17=some code242:=by kernel_rfl
theorem c243:kc true code243 f16=some code243:=by kernel_rfl
theorem c247:kc false code247 f100=some code247:=by kernel_rfl
theorem c251:kc false code251 f24=some code251:=by kernel_rfl
theorem c252:kc false code252 f23=some code252:=by kernel_rfl
theorem c253:kc false code253 f21=some code253:=by kernel_rfl
theorem c254:kc false code254 f20=some code254:=by kernel_rfl
theorem c255:kc false code255 f4=some code255:=by kernel_rfl
theorem c261:kc false code261 f97=some code261:=by kernel_rfl
theorem c267:kc false code267 f156=some code267:=by kernel_rfl
theorem c274:kc false code274 f54=some code274:=by kernel_rfl
theorem c275:kc false code275 f57=some code275:=by kernel_rfl
theorem c276:kc false code276 f56=some code276:=by kernel_rfl
theorem c280:kc false code280 f98=some code280:=by kernel_rfl
theorem c284:kc false code284 f79=some code284:=by kernel_rfl
theorem c100208:kc false code100208 f244=some code100208:=by kernel_rfl
theorem c100260:kc false code100260 f51=some code100260:=by kernel_rfl
theorem c100273:kc false code100273 f53=some code100273:=by kernel_rfl
theorem r52:RndOK E code52.body.rounds:=⟨rfl,trivial⟩
theorem r97:RndOK E code97.body.rounds:=⟨rfl,trivial⟩
theorem r98:RndOK E code98.body.rounds:=⟨rfl,trivial⟩
theorem mixed:E.P.follows .mixedOrders=true:=by kernel_rfl
noncomputable def E0_144:Env:=⟨Go.Proofs.Tryz.prog,fun f=>List.lookup f [(142,144),(209,145),(208,146),(261,176)],rndOf Go.Abs.AbsTyb.T,0⟩
theorem d144_144:td E0_144 false code144.body.hint Go.Proofs.Tryz.f142=some code144:=by kernel_rfl
theorem d144_145:td E0_144 false code145.body.hint Go.Proofs.Tryz.f209=some code145:=by kernel_rfl
theorem d144_146:td E0_144 false code146.body.hint Go.Proofs.Tryz.f208=some code146:=by kernel_rfl
theorem d144_176:td E0_144 false code176.body.hint Go.Proofs.Tryz.f261=some code176:=by kernel_rfl
theorem agrees0_144:Agrees E0_144 Go.Abs.AbsTyb.T:=agrees_of ⟨ow d144_144 func142 rfl trivial,ow d144_145 func209 rfl trivial,ow d144_146 func208 rfl trivial,ow d144_176 func261 rfl trivial,trivial⟩
theorem by144:ByOK E Go.Abs.AbsTyb.T 142 144 Go.Proofs.Tryz.f142:=by_other (E0:=E0_144) (E:=E) rfl agrees0_144 mixed (of_decide_eq_true (by kernel_rfl)) (by kernel_rfl) rfl word_by
theorem agrees:Agrees E Go.Abs.AbsTyb.T:=agrees_of ⟨ow c25 func80 rfl trivial,ow c26 func52 rfl trivial,ow c27 func62 rfl trivial,ow c28 func91 rfl trivial,ow c30 func99 rfl trivial,ow c32 func96 rfl trivial,ow c33 func150 rfl trivial,ow c34 func166 rfl trivial,ow c36 func215 rfl trivial,ow c37 func151 rfl trivial,ow c38 func94 rfl trivial,ow c43 func55 rfl trivial,ow c47 func157 rfl trivial,ow c48 func30 rfl trivial,ow c49 func38 rfl trivial,ow c52 func199 rfl r52,ow c54 func31 rfl trivial,ow c85 func152 rfl trivial,ow c86 func105 rfl trivial,ow c87 func211 rfl trivial,ow c88 func155 rfl trivial,ow c89 func227 rfl trivial,ow c90 func140 rfl trivial,ow c91 func139 rfl trivial,ow c92 func141 rfl trivial,ow c93 func149 rfl trivial,ow c96 func70 rfl trivial,ow c97 func84 rfl r97,ow c98 func81 rfl r98,ow c99 func82 rfl trivial,ow c100 func83 rfl trivial,ow c101 func68 rfl trivial,ow c102 func69 rfl trivial,ow c103 func144 rfl trivial,ow c106 func42 rfl trivial,ow c107 func12 rfl trivial,ow c108 func41 rfl trivial,ow c112 func90 rfl trivial,ow c115 func89 rfl trivial,ow c137 func212 rfl trivial,ow c138 func160 rfl trivial,ow c139 func159 rfl trivial,ow c140 func214 rfl trivial,ow c141 func273 rfl trivial,ow c142 func206 rfl trivial,ow c143 func207 rfl trivial,.inl ⟨_,Go.Proofs.Tryz.func142,by144⟩,ow c145 func209 rfl trivial,ow c146 func208 rfl trivial,ow c150 func124 rfl trivial,ow c151 func128 rfl trivial,ow c152 func127 rfl trivial,ow c153 func125 rfl trivial,ow c154 func126 rfl trivial,ow c155 func210 rfl trivial,ow c156 func143 rfl trivial,ow c157 func93 rfl trivial,ow c158 func18 rfl trivial,ow c159 func92 rfl trivial,ow c160 func148 rfl trivial,ow c171 func217 rfl trivial,ow c172 func221 rfl trivial,ow c173 func158 rfl trivial,ow c174 func260 rfl trivial,ow c176 func261 rfl trivial,ow c179 func138 rfl trivial,ow c180 func104 rfl trivial,ow c181 func61 rfl trivial,ow c182 func145 rfl trivial,ow c183 func183 rfl trivial,ow c184 func184 rfl trivial,ow c185 func185 rfl trivial,ow c186 func186 rfl trivial,ow c187 func187 rfl trivial,ow c188 func188 rfl trivial,ow c205 func216 rfl trivial,ow c209 func243 rfl trivial,ow c210 func242 rfl trivial,ow c222 func282 rfl trivial,ow c226 func263 rfl trivial,ow c235 func22 rfl trivial,ow c239 func50 rfl trivial,ow c240 func19 rfl trivial,ow c242 func17 rfl trivial,ow c243 func16 rfl trivial,ow c247 func100 rfl trivial,ow c251 func24 rfl trivial,ow c252 func23 rfl trivial,ow c253 func21 rfl trivial,ow c254 func20 rfl trivial,ow c255 func4 rfl trivial,ow c261 func97 rfl trivial,.inr (.inr ⟨_,_,_,Go.Proofs.Tryz.func95,rfl,rfl,lib262⟩),ow c267 func156 rfl trivial,ow c274 func54 rfl trivial,ow c275 func57 rfl trivial,ow c276 func56 rfl trivial,ow c280 func98 rfl trivial,ow c284 func79 rfl trivial,ow c100208 func244 rfl trivial,ow c100260 func51 rfl trivial,ow c100273 func53 rfl trivial,trivial⟩
end Go.Abs.AbsTybB
