/-
  The code is the functions': asked of the kernel.
-/
import Derived.Test.YtkhcoglcciacdaaGreatDoorP6
import Derived.Test.YtkhcoglcciacdaaGreatDoorP10
import Derived.Test.YtkhcoglcciacdaaGreatDoorProg
import Derived.KernelRfl
namespace Go.Abs.AbsListA
set_option maxRecDepth 100000
open Go.Abs.AbsList Go.Abs.AbsWid Go.Proofs.Tryz
noncomputable def E : Env := ⟨Go.Proofs.Tryz.prog, fun f => List.lookup f [(44, 94), (8, 426), (9, 427), (7, 428), (3, 429), (6, 430), (11, 431), (10, 432), (4, 433), (13, 435), (15, 437), (5, 438), (16, 439), (17, 442), (22, 443), (25, 446), (26, 447), (27, 448), (28, 449), (31, 450), (30, 451), (29, 452), (46, 462), (49, 465), (67, 478), (12, 100434), (14, 100436)], rndOf Go.Abs.AbsList.T, 0, 3, Go.Abs.AbsList.tabsL⟩
theorem lib94 : LibOK E 44 Go.Proofs.Tryz.f44 (pureF joinF) := join_ok Go.Proofs.Tryz.lays156 Go.Proofs.Tryz.Builder_Extra_156 rfl (of_decide_eq_true (by kernel_rfl)) (by kernel_rfl)
theorem lib432 : LibOK E 10 Go.Proofs.Tryz.f10 (pureF Go.Abs.AbsList.numA) := AbsList.num_ok rfl rfl (of_decide_eq_true (by kernel_rfl)) (by kernel_rfl)
theorem lib448 : LibOK E 27 Go.Proofs.Tryz.f27 (pureF Go.Abs.AbsList.itoaA) := AbsList.itoa_ok rfl rfl (of_decide_eq_true (by kernel_rfl)) (by kernel_rfl)
noncomputable abbrev kc (b : Bool) (c : AFunc) (f : Func) : Option AFunc := cFunc E b c.body.hint f
theorem c427 : kc false code427 f9 = some code427 := by kernel_rfl
theorem c428 : kc false code428 f7 = some code428 := by kernel_rfl
theorem c429 : kc false code429 f3 = some code429 := by kernel_rfl
theorem c430 : kc true code430 f6 = some code430 := by kernel_rfl
theorem c431 : kc false code431 f11 = some code431 := by kernel_rfl
theorem c433 : kc false code433 f4 = some code433 := by kernel_rfl
theorem c435 : kc false code435 f13 = some code435 := by kernel_rfl
theorem c437 : kc false code437 f15 = some code437 := by kernel_rfl
theorem c438 : kc false code438 f5 = some code438 := by kernel_rfl
theorem c439 : kc false code439 f16 = some code439 := by kernel_rfl
theorem c442 : kc false code442 f17 = some code442 := by kernel_rfl
theorem c443 : kc false code443 f22 = some code443 := by kernel_rfl
theorem c446 : kc false code446 f25 = some code446 := by kernel_rfl
theorem c447 : kc false code447 f26 = some code447 := by kernel_rfl
theorem c449 : kc false code449 f28 = some code449 := by kernel_rfl
theorem c450 : kc false code450 f31 = some code450 := by kernel_rfl
theorem c451 : kc false code451 f30 = some code451 := by kernel_rfl
theorem c452 : kc false code452 f29 = some code452 := by kernel_rfl
theorem c462 : kc false code462 f46 = some code462 := by kernel_rfl
theorem c465 : kc false code465 f49 = some code465 := by kernel_rfl
theorem c478 : kc false code478 f67 = some code478 := by kernel_rfl
theorem c100434 : kc false code100434 f12 = some code100434 := by kernel_rfl
theorem c100436 : kc false code100436 f14 = some code100436 := by kernel_rfl
theorem mixed : E.P.follows .mixedOrders = true := by kernel_rfl
theorem cs426 : cFunc E false .stuck f8 = some Go.Abs.AbsList.code426s := by kernel_rfl
theorem agreesT : Agrees E Go.Abs.AbsList.T0 := agrees_alt Go.Abs.AbsList.rnd0 ⟨.inr (.inr ⟨_, _, _, Go.Proofs.Tryz.func44, rfl, rfl, lib94⟩), .inr (.inl ⟨_, _, _, _, Go.Proofs.Tryz.func8, rfl, cs426, trivial⟩), ow c427 func9 rfl trivial, ow c428 func7 rfl trivial, ow c429 func3 rfl trivial, ow c430 func6 rfl trivial, ow c431 func11 rfl trivial, .inr (.inr ⟨_, _, _, Go.Proofs.Tryz.func10, rfl, rfl, lib432⟩), ow c433 func4 rfl trivial, ow c435 func13 rfl trivial, ow c437 func15 rfl trivial, ow c438 func5 rfl trivial, ow c439 func16 rfl trivial, ow c442 func17 rfl trivial, ow c443 func22 rfl trivial, ow c446 func25 rfl trivial, ow c447 func26 rfl trivial, .inr (.inr ⟨_, _, _, Go.Proofs.Tryz.func27, rfl, rfl, lib448⟩), ow c449 func28 rfl trivial, ow c450 func31 rfl trivial, ow c451 func30 rfl trivial, ow c452 func29 rfl trivial, ow c462 func46 rfl trivial, ow c465 func49 rfl trivial, ow c478 func67 rfl trivial, ow c100434 func12 rfl trivial, ow c100436 func14 rfl trivial, trivial⟩
theorem lib426 : LibOK E 8 Go.Proofs.Tryz.f8 Go.Abs.AbsList.tableF := AbsList.table_ok rfl rfl agreesT mixed (of_decide_eq_true (by kernel_rfl)) (by kernel_rfl)
theorem agrees : Agrees E Go.Abs.AbsList.T := agrees_of ⟨.inr (.inr ⟨_, _, _, Go.Proofs.Tryz.func44, rfl, rfl, lib94⟩), .inr (.inr ⟨_, _, _, Go.Proofs.Tryz.func8, rfl, rfl, lib426⟩), ow c427 func9 rfl trivial, ow c428 func7 rfl trivial, ow c429 func3 rfl trivial, ow c430 func6 rfl trivial, ow c431 func11 rfl trivial, .inr (.inr ⟨_, _, _, Go.Proofs.Tryz.func10, rfl, rfl, lib432⟩), ow c433 func4 rfl trivial, ow c435 func13 rfl trivial, ow c437 func15 rfl trivial, ow c438 func5 rfl trivial, ow c439 func16 rfl trivial, ow c442 func17 rfl trivial, ow c443 func22 rfl trivial, ow c446 func25 rfl trivial, ow c447 func26 rfl trivial, .inr (.inr ⟨_, _, _, Go.Proofs.Tryz.func27, rfl, rfl, lib448⟩), ow c449 func28 rfl trivial, ow c450 func31 rfl trivial, ow c451 func30 rfl trivial, ow c452 func29 rfl trivial, ow c462 func46 rfl trivial, ow c465 func49 rfl trivial, ow c478 func67 rfl trivial, ow c100434 func12 rfl trivial, ow c100436 func14 rfl trivial, trivial⟩
end Go.Abs.AbsListA
