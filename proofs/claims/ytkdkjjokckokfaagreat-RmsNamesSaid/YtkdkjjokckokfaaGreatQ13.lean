/-
  Texts joined.
-/
import Derived.Test.YtkdkjjokckokfaaGreatQ0
import Derived.Shelf.Lays
import Derived.Shelf.Lays2
import Derived.Shelf.LaysC
import Derived.Shelf.LaysM
import Derived.Test.YtkdkjjokckokfaaGreatQ8
import Derived.Test.YtkdkjjokckokfaaGreatProg
set_option linter.unusedVariables false
set_option linter.unusedSimpArgs false
set_option maxRecDepth 100000
namespace Go.Proofs
open Go.Shelf
def Tryz.lays315_ren:Go.Shelf.Ren:=⟨fun | 315=>98 | n=>n,fun | 9=>9 | 40=>120 | 4=>4 | 3=>3 | 0=>0 | 21=>21 | n=>n,fun | n=>n⟩
theorem Tryz.lays315:Go.Proofs.Lays.n315 Tryz.prog Tryz.lays315_ren:={
 mixed:=by kernel_rfl
 f315:=Tryz.func98.trans (congrArg some (by kernel_rfl))
 t0:=Tryz.underlying0
 a0:=Tryz.isAgg0
 z0:=Tryz.sizeOf0
 v0:=Tryz.zeroValue0
 t3:=Tryz.underlying3
 a3:=Tryz.isAgg3
 z3:=Tryz.sizeOf3
 v3:=Tryz.zeroValue3
 t4:=Tryz.underlying4
 a4:=Tryz.isAgg4
 z4:=Tryz.sizeOf4
 v4:=Tryz.zeroValue4
 t9:=Tryz.underlying9
 a9:=Tryz.isAgg9
 z9:=Tryz.sizeOf9
 v9:=Tryz.zeroValue9
 t21:=Tryz.underlying21
 a21:=Tryz.isAgg21
 z21:=Tryz.sizeOf21
 v21:=Tryz.zeroValue21
 t40:=Tryz.underlying120
 a40:=Tryz.isAgg120
 z40:=Tryz.sizeOf120
 v40:=Tryz.zeroValue120 }
end Go.Proofs
