/-
  Texts joined.
-/
import Derived.Test.YtilleokmbhmieaaGreatDoorQ0
import Derived.Shelf.Lays
import Derived.Shelf.Lays2
import Derived.Shelf.LaysC
import Derived.Shelf.LaysM
import Derived.Test.YtilleokmbhmieaaGreatDoorQ10
import Derived.Test.YtilleokmbhmieaaGreatDoorProg
set_option linter.unusedVariables false
set_option linter.unusedSimpArgs false
set_option maxRecDepth 100000
namespace Go.Proofs
open Go.Shelf
def Tryz.lays315_ren:Go.Shelf.Ren:=⟨fun | 315=>134 | n=>n,fun | 9=>9 | 40=>176 | 4=>4 | 3=>3 | 0=>0 | 21=>21 | n=>n,fun | n=>n⟩
theorem Tryz.lays315:Go.Proofs.Lays.n315 Tryz.prog Tryz.lays315_ren:={
 mixed:=by kernel_rfl
 f315:=Tryz.func134.trans (congrArg some (by kernel_rfl))
 t0:=Tryz.underlying0
 a0:=Tryz.isAgg0
 z0:=Tryz.sizeOf0
 v0:=Tryz.zeroValue0
 t3:=Tryz.underlying3
 a3:=Tryz.isAgg3
 z3:=Tryz.sizeOf3
 v3:=Tryz.zeroValue3
 t4:=Tryz.underlying4
 a4:=Tryz.isAgg4
 z4:=Tryz.sizeOf4
 v4:=Tryz.zeroValue4
 t9:=Tryz.underlying9
 a9:=Tryz.isAgg9
 z9:=Tryz.sizeOf9
 v9:=Tryz.zeroValue9
 t21:=Tryz.underlying21
 a21:=Tryz.isAgg21
 z21:=Tryz.sizeOf21
 v21:=Tryz.zeroValue21
 t40:=Tryz.underlying176
 a40:=Tryz.isAgg176
 z40:=Tryz.sizeOf176
 v40:=Tryz.zeroValue176 }
def Tryz.lays173_ren:Go.Shelf.Ren:=⟨fun | 173=>18 | 246=>30 | 283=>49 | 284=>50 | 285=>51 | 286=>52 | 129=>75 | 317=>74 | 318=>76 | 319=>77 | 320=>78 | 337=>108 | 338=>109 | n=>n,fun | 2=>2 | 3=>3 | 9=>9 | 4=>4 | 171=>103 | 0=>0 | 53=>104 | 37=>31 | 5=>5 | 173=>107 | 212=>136 | 51=>57 | 20=>20 | 213=>137 | 46=>109 | 232=>211 | 233=>212 | n=>n,fun | 17=>0 | 18=>2 | 19=>3 | n=>n⟩
theorem Tryz.lays173:Go.Proofs.LaysM.n173 Tryz.prog Tryz.lays173_ren:={
 mixed:=by kernel_rfl
 f129:=Tryz.func75.trans (congrArg some (by kernel_rfl))
 f173:=Tryz.func18.trans (congrArg some (by kernel_rfl))
 f246:=Tryz.func30.trans (congrArg some (by kernel_rfl))
 f283:=Tryz.func49.trans (congrArg some (by kernel_rfl))
 f284:=Tryz.func50.trans (congrArg some (by kernel_rfl))
 f285:=Tryz.func51.trans (congrArg some (by kernel_rfl))
 f286:=Tryz.func52.trans (congrArg some (by kernel_rfl))
 f317:=Tryz.func74.trans (congrArg some (by kernel_rfl))
 f318:=Tryz.func76.trans (congrArg some (by kernel_rfl))
 f319:=Tryz.func77.trans (congrArg some (by kernel_rfl))
 f320:=Tryz.func78.trans (congrArg some (by kernel_rfl))
 f337:=Tryz.func108.trans (congrArg some (by kernel_rfl))
 f338:=Tryz.func109.trans (congrArg some (by kernel_rfl))
 t0:=Tryz.underlying0
 a0:=Tryz.isAgg0
 z0:=Tryz.sizeOf0
 v0:=Tryz.zeroValue0
 t2:=Tryz.underlying2
 a2:=Tryz.isAgg2
 z2:=Tryz.sizeOf2
 v2:=Tryz.zeroValue2
 t3:=Tryz.underlying3
 a3:=Tryz.isAgg3
 z3:=Tryz.sizeOf3
 v3:=Tryz.zeroValue3
 t4:=Tryz.underlying4
 a4:=Tryz.isAgg4
 z4:=Tryz.sizeOf4
 v4:=Tryz.zeroValue4
 t5:=Tryz.underlying5
 a5:=Tryz.isAgg5
 z5:=Tryz.sizeOf5
 v5:=Tryz.zeroValue5
 t9:=Tryz.underlying9
 a9:=Tryz.isAgg9
 z9:=Tryz.sizeOf9
 v9:=Tryz.zeroValue9
 t20:=Tryz.underlying20
 a20:=Tryz.isAgg20
 z20:=Tryz.sizeOf20
 v20:=Tryz.zeroValue20
 t37:=Tryz.underlying31
 a37:=Tryz.isAgg31
 z37:=Tryz.sizeOf31
 v37:=Tryz.zeroValue31
 t46:=Tryz.underlying109
 a46:=Tryz.isAgg109
 z46:=Tryz.sizeOf109
 v46:=Tryz.zeroValue109
 t51:=Tryz.underlying57
 a51:=Tryz.isAgg57
 z51:=Tryz.sizeOf57
 v51:=Tryz.zeroValue57
 t53:=Tryz.underlying104
 a53:=Tryz.isAgg104
 z53:=Tryz.sizeOf104
 v53:=Tryz.zeroValue104
 t171:=Tryz.underlying103
 a171:=Tryz.isAgg103
 z171:=Tryz.sizeOf103
 v171:=Tryz.zeroValue103
 t173:=Tryz.underlying107
 a173:=Tryz.isAgg107
 z173:=Tryz.sizeOf107
 v173:=Tryz.zeroValue107
 t212:=Tryz.underlying136
 a212:=Tryz.isAgg136
 z212:=Tryz.sizeOf136
 v212:=Tryz.zeroValue136
 t213:=Tryz.underlying137
 a213:=Tryz.isAgg137
 z213:=Tryz.sizeOf137
 t232:=Tryz.underlying211
 a232:=Tryz.isAgg211
 z232:=Tryz.sizeOf211
 v232:=Tryz.zeroValue211
 t233:=Tryz.underlying212
 a233:=Tryz.isAgg212
 z233:=Tryz.sizeOf212
 v233:=Tryz.zeroValue212
 g17:=by kernel_rfl
 g18:=by kernel_rfl
 g19:=by kernel_rfl
 i0:=by kernel_rfl
 i2:=by kernel_rfl
 i3:=by kernel_rfl
 i4:=by kernel_rfl
 i5:=by kernel_rfl
 i9:=by kernel_rfl
 i20:=by kernel_rfl
 i37:=by kernel_rfl
 i46:=by kernel_rfl
 i51:=by kernel_rfl
 i53:=by kernel_rfl
 i171:=by kernel_rfl
 i173:=by kernel_rfl
 i212:=by kernel_rfl
 i232:=by kernel_rfl
 i233:=by kernel_rfl
 m17:=by kernel_rfl
 m18:=by kernel_rfl
 m19:=by kernel_rfl }
end Go.Proofs
