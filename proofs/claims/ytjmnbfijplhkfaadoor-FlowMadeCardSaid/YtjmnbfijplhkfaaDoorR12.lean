/-
  Texts joined.
-/
import Derived.Test.YtjmnbfijplhkfaaDoorR0
import Derived.Test.YtjmnbfijplhkfaaDoorR11
import Derived.Test.YtjmnbfijplhkfaaDoorR7
import Derived.Test.YtjmnbfijplhkfaaDoorProg
import Derived.KernelRfl
set_option linter.unusedVariables false
set_option linter.unusedSimpArgs false
set_option maxRecDepth 100000
namespace Go.Abs.AbsFlowM
open Go.Abs.AbsFlow Go.Abs.AbsOrd Go.Abs.AbsMake Go.Abs.AbsHier Go.Abs.AbsDesc Go.Proofs.Tryd
noncomputable def E:Env:=⟨Go.Proofs.Tryd.prog,fun f=>List.lookup f [(54,25),(69,27),(32,38),(12,48),(19,71),(17,73),(13,76),(11,77),(4,78),(67,85),(68,86),(77,90),(76,91),(78,92),(30,101),(31,102),(37,123),(36,124),(35,125),(34,126),(33,127),(41,128),(40,129),(39,130),(38,131),(45,132),(44,133),(93,137),(95,138),(94,139),(119,140),(108,142),(109,143),(79,144),(111,145),(110,146),(62,150),(66,151),(65,152),(63,153),(64,154),(70,164),(71,165),(73,166),(72,167),(120,171),(124,172),(133,173),(132,174),(134,176),(87,183),(88,184),(89,185),(90,186),(91,187),(92,188),(96,190),(103,193),(97,199),(107,200),(140,205),(117,209),(116,210),(130,217),(136,222),(147,226),(15,100074),(118,100208)],rndOf Go.Abs.AbsFlow.T,0⟩
noncomputable abbrev kc (b:Bool) (c:AFunc) (f:Func):Option AFunc:=cFunc E b c.body.hint f
theorem c25:kc false code25 f54=some code25:=by kernel_rfl
theorem c27:kc false code27 f69=some code27:=by kernel_rfl
theorem c38:kc false code38 f32=some code38:=by kernel_rfl
theorem c48:kc false code48 f12=some code48:=by kernel_rfl
theorem c71:kc false code71 f19=some code71:=by kernel_rfl
theorem c73:kc false code73 f17=some code73:=by kernel_rfl
theorem c76:kc false code76 f13=some code76:=by kernel_rfl
theorem c77:kc true code77 f11=some code77:=by kernel_rfl
theorem c78:kc false code78 f4=some code78:=by kernel_rfl
theorem c85:kc false code85 f67=some code85:=by kernel_rfl
theorem c86:kc false code86 f68=some code86:=by kernel_rfl
theorem c90:kc false code90 f77=some code90:=by kernel_rfl
theorem c91:kc false code91 f76=some code91:=by kernel_rfl
theorem c92:kc false code92 f78=some code92:=by kernel_rfl
theorem c101:kc false code101 f30=some code101:=by kernel_rfl
theorem c102:kc false code102 f31=some code102:=by kernel_rfl
theorem c123:kc false code123 f37=some code123:=by kernel_rfl
theorem c124:kc false code124 f36=some code124:=by kernel_rfl
theorem c125:kc false code125 f35=some code125:=by kernel_rfl
theorem c126:kc false code126 f34=some code126:=by kernel_rfl
theorem c127:kc false code127 f33=some code127:=by kernel_rfl
theorem c128:kc false code128 f41=some code128:=by kernel_rfl
theorem c129:kc false code129 f40=some code129:=by kernel_rfl
theorem c130:kc false code130 f39=some code130:=by kernel_rfl
theorem c131:kc false code131 f38=some code131:=by kernel_rfl
theorem c132:kc false code132 f45=some code132:=by kernel_rfl
theorem c133:kc false code133 f44=some code133:=by kernel_rfl
theorem c137:kc false code137 f93=some code137:=by kernel_rfl
theorem c138:kc false code138 f95=some code138:=by kernel_rfl
theorem c139:kc false code139 f94=some code139:=by kernel_rfl
theorem c140:kc false code140 f119=some code140:=by kernel_rfl
theorem c142:kc false code142 f108=some code142:=by kernel_rfl
theorem c143:kc false code143 f109=some code143:=by kernel_rfl
theorem c144:kc false code144 f79=some code144:=by kernel_rfl
theorem c145:kc false code145 f111=some code145:=by kernel_rfl
theorem c146:kc false code146 f110=some code146:=by kernel_rfl
theorem c150:kc false code150 f62=some code150:=by kernel_rfl
theorem c151:kc false code151 f66=some code151:=by kernel_rfl
theorem c152:kc false code152 f65=some code152:=by kernel_rfl
theorem c153:kc false code153 f63=some code153:=by kernel_rfl
theorem c154:kc false code154 f64=some code154:=by kernel_rfl
theorem c164:kc false code164 f70=some code164:=by kernel_rfl
theorem c165:kc true code165 f71=some code165:=by kernel_rfl
theorem c166:kc false code166 f73=some code166:=by kernel_rfl
theorem c167:kc false code167 f72=some code167:=by kernel_rfl
theorem c171:kc false code171 f120=some code171:=by kernel_rfl
theorem c172:kc false code172 f124=some code172:=by kernel_rfl
theorem c173:kc false code173 f133=some code173:=by kernel_rfl
theorem c174:kc false code174 f132=some code174:=by kernel_rfl
theorem c176:kc false code176 f134=some code176:=by kernel_rfl
theorem c183:kc false code183 f87=some code183:=by kernel_rfl
theorem c184:kc false code184 f88=some code184:=by kernel_rfl
theorem c185:kc false code185 f89=some code185:=by kernel_rfl
theorem c186:kc false code186 f90=some code186:=by kernel_rfl
theorem c187:kc false code187 f91=some code187:=by kernel_rfl
theorem c188:kc false code188 f92=some code188:=by kernel_rfl
theorem c190:kc false code190 f96=some code190:=by kernel_rfl
theorem c193:kc false code193 f103=some code193:=by kernel_rfl
theorem c199:kc false code199 f97=some code199:=by kernel_rfl
theorem c200:kc false code200 f107=some code200:=by kernel_rfl
theorem c205:kc false code205 f140=some code205:=by kernel_rfl
theorem c209:kc false code209 f117=some code209:=by kernel_rfl
theorem c210:kc false code210 f116=some code210:=by kernel_rfl
theorem c217:kc false code217 f130=some code217:=by kernel_rfl
theorem c222:kc false code222 f136=some code222:=by kernel_rfl
theorem c226:kc false code226 f147=some code226:=by kernel_rfl
theorem c100074:kc false code100074 f15=some code100074:=by kernel_rfl
theorem c100208:kc false code100208 f118=some code100208:=by kernel_rfl
theorem mixed:E.P.follows .mixedOrders=true:=by kernel_rfl
theorem agrees:Agrees E Go.Abs.AbsFlow.T:=agrees_of ⟨ow c25 func54 rfl trivial,ow c27 func69 rfl trivial,ow c38 func32 rfl trivial,ow c48 func12 rfl trivial,ow c71 func19 rfl trivial,ow c73 func17 rfl trivial,ow c76 func13 rfl trivial,ow c77 func11 rfl trivial,ow c78 func4 rfl trivial,ow c85 func67 rfl trivial,ow c86 func68 rfl trivial,ow c90 func77 rfl trivial,ow c91 func76 rfl trivial,ow c92 func78 rfl trivial,ow c101 func30 rfl trivial,ow c102 func31 rfl trivial,ow c123 func37 rfl trivial,ow c124 func36 rfl trivial,ow c125 func35 rfl trivial,ow c126 func34 rfl trivial,ow c127 func33 rfl trivial,ow c128 func41 rfl trivial,ow c129 func40 rfl trivial,ow c130 func39 rfl trivial,ow c131 func38 rfl trivial,ow c132 func45 rfl trivial,ow c133 func44 rfl trivial,ow c137 func93 rfl trivial,ow c138 func95 rfl trivial,ow c139 func94 rfl trivial,ow c140 func119 rfl trivial,ow c142 func108 rfl trivial,ow c143 func109 rfl trivial,ow c144 func79 rfl trivial,ow c145 func111 rfl trivial,ow c146 func110 rfl trivial,ow c150 func62 rfl trivial,ow c151 func66 rfl trivial,ow c152 func65 rfl trivial,ow c153 func63 rfl trivial,ow c154 func64 rfl trivial,ow c164 func70 rfl trivial,ow c165 func71 rfl trivial,ow c166 func73 rfl trivial,ow c167 func72 rfl trivial,ow c171 func120 rfl trivial,ow c172 func124 rfl trivial,ow c173 func133 rfl trivial,ow c174 func132 rfl trivial,ow c176 func134 rfl trivial,ow c183 func87 rfl trivial,ow c184 func88 rfl trivial,ow c185 func89 rfl trivial,ow c186 func90 rfl trivial,ow c187 func91 rfl trivial,ow c188 func92 rfl trivial,ow c190 func96 rfl trivial,ow c193 func103 rfl trivial,ow c199 func97 rfl trivial,ow c200 func107 rfl trivial,ow c205 func140 rfl trivial,ow c209 func117 rfl trivial,ow c210 func116 rfl trivial,ow c217 func130 rfl trivial,ow c222 func136 rfl trivial,ow c226 func147 rfl trivial,ow c100074 func15 rfl trivial,ow c100208 func118 rfl trivial,trivial⟩
end Go.Abs.AbsFlowM
