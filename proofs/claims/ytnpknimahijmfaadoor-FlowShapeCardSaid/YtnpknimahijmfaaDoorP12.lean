/-
  Texts joined.
-/
import Derived.Test.YtnpknimahijmfaaDoorP0
import Derived.Test.YtnpknimahijmfaaDoorP11
import Derived.Test.YtnpknimahijmfaaDoorP9
import Derived.Test.YtnpknimahijmfaaDoorProg
import Derived.KernelRfl
set_option linter.unusedVariables false
set_option linter.unusedSimpArgs false
set_option maxRecDepth 100000
namespace Go.Abs.AbsFlowS
open Go.Abs.AbsFlow Go.Abs.AbsOrd Go.Abs.AbsMake Go.Abs.AbsHier Go.Abs.AbsDesc Go.Proofs.Tryd
noncomputable def E:Env:=⟨Go.Proofs.Tryd.prog,fun f=>List.lookup f [(55,25),(65,27),(31,38),(17,71),(4,72),(16,73),(15,74),(13,75),(14,76),(12,77),(63,85),(64,86),(78,90),(77,91),(79,92),(26,104),(36,123),(35,124),(34,125),(33,126),(32,127),(40,128),(39,129),(38,130),(37,131),(42,132),(41,133),(88,137),(90,138),(89,139),(117,140),(109,142),(110,143),(80,144),(112,145),(111,146),(66,164),(67,165),(69,166),(68,167),(118,171),(122,172),(134,173),(133,174),(135,176),(91,190),(98,193),(92,199),(102,200),(140,205),(128,217),(148,226)],rndOf Go.Abs.AbsFlow.T,0⟩
noncomputable abbrev kc (b:Bool) (c:AFunc) (f:Func):Option AFunc:=cFunc E b c.body.hint f
theorem c25:kc false code25 f55=some code25:=by kernel_rfl
theorem c27:kc false code27 f65=some code27:=by kernel_rfl
theorem c38:kc false code38 f31=some code38:=by kernel_rfl
theorem c71:kc false code71 f17=some code71:=by kernel_rfl
theorem c72:kc false code72 f4=some code72:=by kernel_rfl
theorem c73:kc false code73 f16=some code73:=by kernel_rfl
theorem c74:kc false code74 f15=some code74:=by kernel_rfl
theorem c75:kc false code75 f13=some code75:=by kernel_rfl
theorem c76:kc false code76 f14=some code76:=by kernel_rfl
theorem c77:kc true code77 f12=some code77:=by kernel_rfl
theorem c85:kc false code85 f63=some code85:=by kernel_rfl
theorem c86:kc false code86 f64=some code86:=by kernel_rfl
theorem c90:kc false code90 f78=some code90:=by kernel_rfl
theorem c91:kc false code91 f77=some code91:=by kernel_rfl
theorem c92:kc false code92 f79=some code92:=by kernel_rfl
theorem c104:kc false code104 f26=some code104:=by kernel_rfl
theorem c123:kc false code123 f36=some code123:=by kernel_rfl
theorem c124:kc false code124 f35=some code124:=by kernel_rfl
theorem c125:kc false code125 f34=some code125:=by kernel_rfl
theorem c126:kc false code126 f33=some code126:=by kernel_rfl
theorem c127:kc false code127 f32=some code127:=by kernel_rfl
theorem c128:kc false code128 f40=some code128:=by kernel_rfl
theorem c129:kc false code129 f39=some code129:=by kernel_rfl
theorem c130:kc false code130 f38=some code130:=by kernel_rfl
theorem c131:kc false code131 f37=some code131:=by kernel_rfl
theorem c132:kc false code132 f42=some code132:=by kernel_rfl
theorem c133:kc false code133 f41=some code133:=by kernel_rfl
theorem c137:kc false code137 f88=some code137:=by kernel_rfl
theorem c138:kc false code138 f90=some code138:=by kernel_rfl
theorem c139:kc false code139 f89=some code139:=by kernel_rfl
theorem c140:kc false code140 f117=some code140:=by kernel_rfl
theorem c142:kc false code142 f109=some code142:=by kernel_rfl
theorem c143:kc false code143 f110=some code143:=by kernel_rfl
theorem c144:kc false code144 f80=some code144:=by kernel_rfl
theorem c145:kc false code145 f112=some code145:=by kernel_rfl
theorem c146:kc false code146 f111=some code146:=by kernel_rfl
theorem c164:kc false code164 f66=some code164:=by kernel_rfl
theorem c165:kc true code165 f67=some code165:=by kernel_rfl
theorem c166:kc false code166 f69=some code166:=by kernel_rfl
theorem c167:kc false code167 f68=some code167:=by kernel_rfl
theorem c171:kc false code171 f118=some code171:=by kernel_rfl
theorem c172:kc false code172 f122=some code172:=by kernel_rfl
theorem c173:kc false code173 f134=some code173:=by kernel_rfl
theorem c174:kc false code174 f133=some code174:=by kernel_rfl
theorem c176:kc false code176 f135=some code176:=by kernel_rfl
theorem c190:kc false code190 f91=some code190:=by kernel_rfl
theorem c193:kc false code193 f98=some code193:=by kernel_rfl
theorem c199:kc false code199 f92=some code199:=by kernel_rfl
theorem c200:kc false code200 f102=some code200:=by kernel_rfl
theorem c205:kc false code205 f140=some code205:=by kernel_rfl
theorem c217:kc false code217 f128=some code217:=by kernel_rfl
theorem c226:kc false code226 f148=some code226:=by kernel_rfl
theorem mixed:E.P.follows .mixedOrders=true:=by kernel_rfl
theorem agrees:Agrees E Go.Abs.AbsFlow.T:=agrees_of ⟨ow c25 func55 rfl trivial,ow c27 func65 rfl trivial,ow c38 func31 rfl trivial,ow c71 func17 rfl trivial,ow c72 func4 rfl trivial,ow c73 func16 rfl trivial,ow c74 func15 rfl trivial,ow c75 func13 rfl trivial,ow c76 func14 rfl trivial,ow c77 func12 rfl trivial,ow c85 func63 rfl trivial,ow c86 func64 rfl trivial,ow c90 func78 rfl trivial,ow c91 func77 rfl trivial,ow c92 func79 rfl trivial,ow c104 func26 rfl trivial,ow c123 func36 rfl trivial,ow c124 func35 rfl trivial,ow c125 func34 rfl trivial,ow c126 func33 rfl trivial,ow c127 func32 rfl trivial,ow c128 func40 rfl trivial,ow c129 func39 rfl trivial,ow c130 func38 rfl trivial,ow c131 func37 rfl trivial,ow c132 func42 rfl trivial,ow c133 func41 rfl trivial,ow c137 func88 rfl trivial,ow c138 func90 rfl trivial,ow c139 func89 rfl trivial,ow c140 func117 rfl trivial,ow c142 func109 rfl trivial,ow c143 func110 rfl trivial,ow c144 func80 rfl trivial,ow c145 func112 rfl trivial,ow c146 func111 rfl trivial,ow c164 func66 rfl trivial,ow c165 func67 rfl trivial,ow c166 func69 rfl trivial,ow c167 func68 rfl trivial,ow c171 func118 rfl trivial,ow c172 func122 rfl trivial,ow c173 func134 rfl trivial,ow c174 func133 rfl trivial,ow c176 func135 rfl trivial,ow c190 func91 rfl trivial,ow c193 func98 rfl trivial,ow c199 func92 rfl trivial,ow c200 func102 rfl trivial,ow c205 func140 rfl trivial,ow c217 func128 rfl trivial,ow c226 func148 rfl trivial,trivial⟩
end Go.Abs.AbsFlowS
