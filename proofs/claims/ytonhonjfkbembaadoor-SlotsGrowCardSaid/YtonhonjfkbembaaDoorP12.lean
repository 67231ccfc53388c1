/-
  Texts joined.
-/
import Derived.Test.YtonhonjfkbembaaDoorP0
import Derived.Test.YtonhonjfkbembaaDoorP11
import Derived.Test.YtonhonjfkbembaaDoorP8
import Derived.Test.YtonhonjfkbembaaDoorProg
import Derived.KernelRfl
set_option linter.unusedVariables false
set_option linter.unusedSimpArgs false
set_option maxRecDepth 100000
namespace Go.Abs.AbsSlotG
open Go.Abs.AbsSlot Go.Abs.AbsHier Go.Abs.AbsDesc Go.Proofs.Tryd
noncomputable def E:Env:=⟨Go.Proofs.Tryd.prog,fun f=>List.lookup f [(23,25),(39,27),(42,30),(52,34),(54,38),(12,49),(22,54),(8,56),(3,57),(7,58),(6,59),(5,60),(4,61),(10,66),(9,68),(66,85),(51,86),(55,88),(61,89),(34,90),(33,91),(35,92),(32,96),(27,97),(24,98),(25,99),(26,100),(40,103),(11,104),(13,116),(15,117),(14,118),(17,119),(16,120),(18,121),(76,137),(60,138),(53,139),(67,140),(73,141),(45,142),(46,143),(36,144),(48,145),(47,146),(49,155),(37,156),(30,161),(20,162),(19,163),(62,171),(72,172),(58,173),(57,174),(59,176),(31,179),(50,180),(38,181),(41,182),(28,189),(71,205),(43,211),(78,226),(21,284),(29,285),(44,286)],rndOf Go.Abs.AbsSlot.T,0,0,[]⟩
noncomputable abbrev kc (b:Bool) (c:AFunc) (f:Func):Option AFunc:=cFunc E b c.body.hint f
theorem c25:kc false code25 f23=some code25:=by kernel_rfl
theorem c27:kc false code27 f39=some code27:=by kernel_rfl
theorem c30:kc false code30 f42=some code30:=by kernel_rfl
theorem c34:kc false code34 f52=some code34:=by kernel_rfl
theorem c38:kc false code38 f54=some code38:=by kernel_rfl
theorem c49:kc false code49 f12=some code49:=by kernel_rfl
theorem c54:kc false code54 f22=some code54:=by kernel_rfl
theorem c56:kc false code56 f8=some code56:=by kernel_rfl
theorem c57:kc false code57 f3=some code57:=by kernel_rfl
theorem c58:kc false code58 f7=some code58:=by kernel_rfl
theorem c59:kc false code59 f6=some code59:=by kernel_rfl
theorem c60:kc false code60 f5=some code60:=by kernel_rfl
theorem c61:kc true code61 f4=some code61:=by kernel_rfl
theorem c66:kc false code66 f10=some code66:=by kernel_rfl
theorem c68:kc false code68 f9=some code68:=by kernel_rfl
theorem c85:kc false code85 f66=some code85:=by kernel_rfl
theorem c86:kc false code86 f51=some code86:=by kernel_rfl
theorem c88:kc false code88 f55=some code88:=by kernel_rfl
theorem c89:kc false code89 f61=some code89:=by kernel_rfl
theorem c90:kc false code90 f34=some code90:=by kernel_rfl
theorem c91:kc false code91 f33=some code91:=by kernel_rfl
theorem c92:kc false code92 f35=some code92:=by kernel_rfl
theorem c96:kc false code96 f32=some code96:=by kernel_rfl
theorem c97:kc false code97 f27=some code97:=by kernel_rfl
theorem c98:kc false code98 f24=some code98:=by kernel_rfl
theorem c99:kc false code99 f25=some code99:=by kernel_rfl
theorem c100:kc false code100 f26=some code100:=by kernel_rfl
theorem c103:kc false code103 f40=some code103:=by kernel_rfl
theorem c104:kc false code104 f11=some code104:=by kernel_rfl
theorem c116:kc false code116 f13=some code116:=by kernel_rfl
theorem c117:kc false code117 f15=some code117:=by kernel_rfl
theorem c118:kc false code118 f14=some code118:=by kernel_rfl
theorem c119:kc false code119 f17=some code119:=by kernel_rfl
theorem c120:kc false code120 f16=some code120:=by kernel_rfl
theorem c121:kc false code121 f18=some code121:=by kernel_rfl
theorem c137:kc false code137 f76=some code137:=by kernel_rfl
theorem c138:kc false code138 f60=some code138:=by kernel_rfl
theorem c139:kc false code139 f53=some code139:=by kernel_rfl
theorem c140:kc false code140 f67=some code140:=by kernel_rfl
theorem c141:kc false code141 f73=some code141:=by kernel_rfl
theorem c142:kc false code142 f45=some code142:=by kernel_rfl
theorem c143:kc false code143 f46=some code143:=by kernel_rfl
theorem c144:kc false code144 f36=some code144:=by kernel_rfl
theorem c145:kc false code145 f48=some code145:=by kernel_rfl
theorem c146:kc false code146 f47=some code146:=by kernel_rfl
theorem c155:kc false code155 f49=some code155:=by kernel_rfl
theorem c156:kc false code156 f37=some code156:=by kernel_rfl
theorem c161:kc false code161 f30=some code161:=by kernel_rfl
theorem c162:kc false code162 f20=some code162:=by kernel_rfl
theorem c163:kc false code163 f19=some code163:=by kernel_rfl
theorem c171:kc false code171 f62=some code171:=by kernel_rfl
theorem c172:kc false code172 f72=some code172:=by kernel_rfl
theorem c173:kc false code173 f58=some code173:=by kernel_rfl
theorem c174:kc false code174 f57=some code174:=by kernel_rfl
theorem c176:kc false code176 f59=some code176:=by kernel_rfl
theorem c179:kc false code179 f31=some code179:=by kernel_rfl
theorem c180:kc false code180 f50=some code180:=by kernel_rfl
theorem c181:kc false code181 f38=some code181:=by kernel_rfl
theorem c182:kc false code182 f41=some code182:=by kernel_rfl
theorem c189:kc false code189 f28=some code189:=by kernel_rfl
theorem c205:kc false code205 f71=some code205:=by kernel_rfl
theorem c211:kc false code211 f43=some code211:=by kernel_rfl
theorem c226:kc false code226 f78=some code226:=by kernel_rfl
theorem c284:kc false code284 f21=some code284:=by kernel_rfl
theorem c285:kc false code285 f29=some code285:=by kernel_rfl
theorem c286:kc false code286 f44=some code286:=by kernel_rfl
theorem r97:RndOK E code97.body.rounds:=⟨rfl,trivial⟩
theorem r98:RndOK E code98.body.rounds:=⟨rfl,trivial⟩
theorem mixed:E.P.follows .mixedOrders=true:=by kernel_rfl
theorem agrees:Agrees E Go.Abs.AbsSlot.T:=agrees_of ⟨ow c25 func23 rfl trivial,ow c27 func39 rfl trivial,ow c30 func42 rfl trivial,ow c34 func52 rfl trivial,ow c38 func54 rfl trivial,ow c49 func12 rfl trivial,ow c54 func22 rfl trivial,ow c56 func8 rfl trivial,ow c57 func3 rfl trivial,ow c58 func7 rfl trivial,ow c59 func6 rfl trivial,ow c60 func5 rfl trivial,ow c61 func4 rfl trivial,ow c66 func10 rfl trivial,ow c68 func9 rfl trivial,ow c85 func66 rfl trivial,ow c86 func51 rfl trivial,ow c88 func55 rfl trivial,ow c89 func61 rfl trivial,ow c90 func34 rfl trivial,ow c91 func33 rfl trivial,ow c92 func35 rfl trivial,ow c96 func32 rfl trivial,ow c97 func27 rfl r97,ow c98 func24 rfl r98,ow c99 func25 rfl trivial,ow c100 func26 rfl trivial,ow c103 func40 rfl trivial,ow c104 func11 rfl trivial,ow c116 func13 rfl trivial,ow c117 func15 rfl trivial,ow c118 func14 rfl trivial,ow c119 func17 rfl trivial,ow c120 func16 rfl trivial,ow c121 func18 rfl trivial,ow c137 func76 rfl trivial,ow c138 func60 rfl trivial,ow c139 func53 rfl trivial,ow c140 func67 rfl trivial,ow c141 func73 rfl trivial,ow c142 func45 rfl trivial,ow c143 func46 rfl trivial,ow c144 func36 rfl trivial,ow c145 func48 rfl trivial,ow c146 func47 rfl trivial,ow c155 func49 rfl trivial,ow c156 func37 rfl trivial,ow c161 func30 rfl trivial,ow c162 func20 rfl trivial,ow c163 func19 rfl trivial,ow c171 func62 rfl trivial,ow c172 func72 rfl trivial,ow c173 func58 rfl trivial,ow c174 func57 rfl trivial,ow c176 func59 rfl trivial,ow c179 func31 rfl trivial,ow c180 func50 rfl trivial,ow c181 func38 rfl trivial,ow c182 func41 rfl trivial,ow c189 func28 rfl trivial,ow c205 func71 rfl trivial,ow c211 func43 rfl trivial,ow c226 func78 rfl trivial,ow c284 func21 rfl trivial,ow c285 func29 rfl trivial,ow c286 func44 rfl trivial,trivial⟩
end Go.Abs.AbsSlotG
