/-
  The code is the functions': asked of the kernel.
-/
import Derived.Test.YtnpjncdnlacmeaaAbsFin
import Derived.Test.YtnpjncdnlacmeaaAbsWearC
import Derived.Test.YtnpjncdnlacmeaaProg
import Derived.KernelRfl
namespace Go.Abs.AbsWear
set_option maxRecDepth 100000
def hint24 : Hint :=
  .after (.reg [(false, 1)] []) []
def hint10 : Hint :=
  .seq (.after (.reg [(false, 1)] []) [0, 1]) (.seq (.seq (.after (.reg [(false, 2)] []) [0, 1, 14]) (.after (.cond (.seq (.after (.reg [(false, 1)] []) [4]) (.live [4] (.leaf))) (.leaf)) [0, 1])) (.seq (.seq (.after (.reg [(false, 3)] []) [0, 1, 17]) (.after (.cond (.seq (.after (.reg [(false, 1)] []) [4]) (.live [4] (.leaf))) (.leaf)) [0, 1])) (.seq (.after (.reg [(false, 8)] []) [0, 1, 5, 6]) (.seq (.after (.reg [(false, 8)] []) [0, 1, 5, 6, 7, 8]) (.seq (.after (.reg [(false, 7)] []) [0, 1, 5, 6, 7, 8, 9, 10]) (.seq (.after (.reg [(false, 7)] []) [0, 1, 5, 6, 7, 8, 9, 10, 11, 12]) (.seq (.after (.reg [(false, 35)] []) [4]) (.live [4] (.leaf)))))))))
def hint11L0 : Hint :=
  .live [5, 7, 36, 37] (.seq (.after (.reg [(false, 1)] []) [5, 7, 36, 37, 38]) (.seq (.after (.cond (.leaf) (.live [] (.leaf))) [5, 7, 36, 37]) (.seq (.after (.block (.seq (.after (.reg [(false, 7)] []) [5, 7, 8, 9, 36, 37]) (.seq (.seq (.after (.reg [(false, 12)] []) [5, 7, 8, 36, 37, 55]) (.after (.cond (.seq (.after (.reg [(false, 1)] []) [4]) (.live [4] (.leaf))) (.leaf)) [5, 7, 8, 36, 37])) (.seq (.after (.reg [(false, 9)] []) [5, 7, 36, 37]) (.seq (.after (.reg [(false, 4)] []) [5, 7, 36, 37, 67]) (.after (.cond (.seq (.after (.reg [(false, 1)] []) [4]) (.live [4] (.leaf))) (.leaf)) [5, 7, 36, 37])))))) [5, 7, 36, 37]) (.after (.reg [(false, 2)] []) [5, 7, 36, 37]))))
def hint11L1 : Hint :=
  .live [1, 5, 24, 25] (.seq (.after (.reg [(false, 1)] []) [1, 5, 24, 25, 26]) (.seq (.after (.cond (.leaf) (.live [1, 5] (.leaf))) [1, 5, 24, 25]) (.seq (.after (.block (.seq (.after (.reg [(false, 2)] []) [1, 5, 6, 24, 25]) (.after (.reg [(false, 5)] []) [1, 5, 24, 25]))) [1, 5, 24, 25]) (.after (.reg [(false, 2)] []) [1, 5, 24, 25]))))
def hint11 : Hint :=
  .seq (.after (.reg [(false, 1)] []) [0, 1]) (.seq (.seq (.after (.reg [(false, 2)] []) [0, 1, 11]) (.after (.cond (.seq (.after (.reg [(false, 1)] []) [4]) (.live [4] (.leaf))) (.leaf)) [0, 1])) (.seq (.seq (.after (.reg [(false, 8)] []) [0, 1, 19]) (.after (.cond (.seq (.after (.reg [(false, 1)] []) [4]) (.live [4] (.leaf))) (.leaf)) [0, 1])) (.seq (.after (.reg [(false, 4)] []) [1, 5]) (.seq (.seq (.after (.reg [(false, 3)] []) [1, 5, 24, 25]) (.after (.block (.loop hint11L1)) [1, 5])) (.seq (.after (.reg [(false, 4)] []) [1, 5, 7]) (.seq (.seq (.after (.reg [(false, 2)] []) [5, 7, 36, 37]) (.after (.block (.loop hint11L0)) [])) (.seq (.after (.reg [(false, 1)] []) [4]) (.live [4] (.leaf)))))))))
def hint12 : Hint :=
  .seq (.after (.reg [(false, 2)] [0]) [0, 1, 5]) (.seq (.seq (.after (.reg [(false, 2)] []) [0, 1, 5, 12]) (.after (.cond (.seq (.after (.reg [(false, 1)] []) [6]) (.live [6] (.leaf))) (.leaf)) [0, 1, 5])) (.seq (.seq (.after (.reg [(false, 3)] []) [0, 1, 5, 15]) (.after (.cond (.seq (.after (.reg [(false, 1)] []) [6]) (.live [6] (.leaf))) (.leaf)) [0, 1, 5])) (.seq (.after (.reg [(false, 8)] []) [0, 1, 5, 7, 8]) (.seq (.seq (.after (.reg [(false, 17)] []) [0, 1, 5, 7, 8, 38]) (.after (.cond (.seq (.after (.reg [(false, 1)] []) [6]) (.live [6] (.leaf))) (.leaf)) [0, 1, 5, 7, 8])) (.seq (.after (.reg [(false, 2)] []) [0, 1, 5, 7, 8]) (.seq (.after (.reg [(true, 7), (false, 2), (true, 3), (false, 1)] []) [7, 8, 9, 10]) (.seq (.after (.reg [(false, 9)] []) [6]) (.live [6] (.leaf)))))))))
def hint9 : Hint :=
  .seq (.after (.reg [(false, 1)] []) []) (.seq (.after (.reg [(false, 6)] []) [2]) (.seq (.after (.reg [(false, 6)] []) [2, 3]) (.seq (.after (.reg [(false, 7)] []) [2, 3, 4, 5]) (.seq (.after (.reg [(false, 7)] []) [2, 3, 4, 5, 6, 7]) (.seq (.after (.reg [(false, 27)] []) [0]) (.live [0] (.leaf)))))))
def hint8L0 : Hint :=
  .live [0, 5, 6, 7] (.seq (.after (.reg [(false, 1)] []) [0, 5, 6, 7, 8]) (.seq (.after (.cond (.leaf) (.live [0] (.leaf))) [0, 5, 6, 7]) (.seq (.after (.block (.seq (.after (.reg [(false, 4)] [2]) [0, 4, 5, 6, 7]) (.seq (.after (.reg [(false, 8)] []) [0, 5, 6, 7, 18]) (.after (.cond (.seq (.after (.reg [(false, 1)] []) [2]) (.live [2] (.leaf))) (.leaf)) [0, 5, 6, 7])))) [0, 5, 6, 7]) (.after (.reg [(false, 2)] []) [0, 5, 6, 7]))))
def hint8 : Hint :=
  .seq (.after (.reg [(false, 1)] []) [0]) (.seq (.seq (.after (.reg [(false, 3)] []) [0, 5, 6, 7]) (.after (.block (.loop hint8L0)) [0])) (.seq (.after (.reg [(false, 4)] []) [2]) (.live [2] (.leaf))))
def hint7 : Hint :=
  .seq (.after (.reg [(false, 2)] []) [0, 1]) (.seq (.after (.reg [(false, 8)] []) [4, 5]) (.live [4, 5] (.leaf)))
def hint6L0 : Hint :=
  .live [0, 1, 6, 9, 10, 11] (.seq (.after (.reg [(false, 1)] []) [0, 1, 6, 9, 10, 11, 12]) (.seq (.after (.cond (.leaf) (.live [6] (.leaf))) [0, 1, 6, 9, 10, 11]) (.seq (.after (.block (.seq (.after (.reg [(false, 6)] [3]) [0, 1, 6, 7, 8, 9, 10, 11]) (.seq (.after (.reg [(true, 2), (false, 5), (true, 7), (false, 3)] []) [0, 1, 6, 7, 9, 10, 11, 32]) (.after (.cond (.after (.reg [(false, 2)] []) [0, 1, 6, 9, 10, 11]) (.leaf)) [0, 1, 6, 9, 10, 11])))) [0, 1, 6, 9, 10, 11]) (.after (.reg [(false, 2)] []) [0, 1, 6, 9, 10, 11]))))
def hint6 : Hint :=
  .seq (.after (.reg [(false, 2)] []) [0, 1]) (.seq (.after (.reg [(false, 1)] []) [0, 1, 6]) (.seq (.seq (.after (.reg [(false, 3)] []) [0, 1, 6, 9, 10, 11]) (.after (.block (.loop hint6L0)) [6])) (.seq (.after (.reg [(false, 6)] []) [4, 5]) (.live [4, 5] (.leaf)))))
def hint5 : Hint :=
  .seq (.after (.reg [(false, 2)] []) [0]) (.seq (.after (.reg [(false, 6)] []) [2, 3]) (.live [2, 3] (.leaf)))
def hint4L0 : Hint :=
  .live [0, 4, 7, 8, 9] (.seq (.after (.reg [(false, 1)] []) [0, 4, 7, 8, 9, 10]) (.seq (.after (.cond (.leaf) (.live [4] (.leaf))) [0, 4, 7, 8, 9]) (.seq (.after (.block (.seq (.after (.reg [(false, 6)] [3]) [0, 4, 5, 6, 7, 8, 9]) (.seq (.after (.reg [(false, 7), (true, 7), (false, 3)] []) [0, 4, 5, 7, 8, 9, 30]) (.after (.cond (.after (.reg [(false, 2)] []) [0, 4, 7, 8, 9]) (.leaf)) [0, 4, 7, 8, 9])))) [0, 4, 7, 8, 9]) (.after (.reg [(false, 2)] []) [0, 4, 7, 8, 9]))))
def hint4 : Hint :=
  .seq (.after (.reg [(false, 2)] []) [0]) (.seq (.after (.reg [(false, 1)] []) [0, 4]) (.seq (.seq (.after (.reg [(false, 3)] []) [0, 4, 7, 8, 9]) (.after (.block (.loop hint4L0)) [4])) (.seq (.after (.reg [(false, 6)] []) [2, 3]) (.live [2, 3] (.leaf)))))
def hint0L0 : Hint :=
  .live [5, 6, 11, 12, 13] (.seq (.after (.reg [(false, 1)] []) [5, 6, 11, 12, 13, 14]) (.seq (.after (.cond (.leaf) (.live [5] (.leaf))) [5, 6, 11, 12, 13]) (.seq (.after (.block (.seq (.after (.reg [(false, 4)] [2]) [5, 6, 8, 11, 12, 13]) (.seq (.after (.reg [(false, 3)] []) [5, 6, 11, 12, 13, 19]) (.after (.cond (.after (.reg [(false, 3)] []) [5, 6, 11, 12, 13]) (.leaf)) [5, 6, 11, 12, 13])))) [5, 6, 11, 12, 13]) (.after (.reg [(false, 2)] []) [5, 6, 11, 12, 13]))))
def hint0 : Hint :=
  .seq (.after (.reg [(false, 1)] []) [0, 1]) (.seq (.after (.reg [(false, 4)] []) [0, 5, 6]) (.seq (.seq (.after (.reg [(false, 3)] []) [5, 6, 11, 12, 13]) (.after (.block (.loop hint0L0)) [5])) (.seq (.after (.reg [(false, 2)] []) [4]) (.live [4] (.leaf)))))
def hint1L0 : Hint :=
  .live [1, 5, 8, 9, 10] (.seq (.after (.reg [(false, 1)] []) [1, 5, 8, 9, 10, 11]) (.seq (.after (.cond (.leaf) (.live [5] (.leaf))) [1, 5, 8, 9, 10]) (.seq (.after (.block (.seq (.after (.reg [(false, 4)] [2]) [1, 5, 7, 8, 9, 10]) (.seq (.after (.reg [(false, 3)] []) [1, 5, 8, 9, 10, 16]) (.after (.cond (.after (.reg [(false, 3)] []) [1, 5, 8, 9, 10]) (.leaf)) [1, 5, 8, 9, 10])))) [1, 5, 8, 9, 10]) (.after (.reg [(false, 2)] []) [1, 5, 8, 9, 10]))))
def hint1 : Hint :=
  .seq (.after (.reg [(false, 1)] []) [0, 1]) (.seq (.after (.reg [(false, 1)] []) [0, 1, 5]) (.seq (.seq (.after (.reg [(false, 3)] []) [1, 5, 8, 9, 10]) (.after (.block (.loop hint1L0)) [5])) (.seq (.after (.reg [(false, 2)] []) [4]) (.live [4] (.leaf)))))
def hint2 : Hint :=
  .seq (.after (.reg [(false, 1)] []) [0]) (.seq (.seq (.after (.reg [(false, 3)] []) [0, 10]) (.after (.cond (.seq (.after (.reg [(false, 1)] []) [2]) (.live [2] (.leaf))) (.leaf)) [0])) (.seq (.after (.reg [(false, 1)] []) [0, 3]) (.seq (.after (.reg [(false, 8)] []) [0, 3, 4]) (.seq (.after (.reg [(false, 8)] []) [0, 4, 6]) (.seq (.after (.reg [(true, 10), (false, 2)] []) [2]) (.live [2] (.leaf)))))))
def hint3L0 : Hint :=
  .live [3, 4, 18, 19, 20] (.seq (.after (.reg [(false, 1)] []) [3, 4, 18, 19, 20, 21]) (.seq (.after (.cond (.leaf) (.live [3, 4] (.leaf))) [3, 4, 18, 19, 20]) (.seq (.after (.block (.seq (.after (.reg [(false, 4)] [2]) [3, 4, 6, 18, 19, 20]) (.seq (.after (.reg [(false, 5)] []) [3, 4, 6, 18, 19, 20]) (.after (.reg [(false, 5)] []) [3, 4, 18, 19, 20])))) [3, 4, 18, 19, 20]) (.after (.reg [(false, 2)] []) [3, 4, 18, 19, 20]))))
def hint3 : Hint :=
  .seq (.after (.reg [(false, 1)] []) [0]) (.seq (.seq (.after (.reg [(false, 3)] []) [0, 9]) (.after (.cond (.seq (.after (.reg [(false, 1)] []) [2]) (.live [2] (.leaf))) (.leaf)) [0])) (.seq (.after (.reg [(true, 9), (false, 1)] []) [0, 3, 4]) (.seq (.seq (.after (.reg [(false, 3)] []) [3, 4, 18, 19, 20]) (.after (.block (.loop hint3L0)) [3, 4])) (.seq (.after (.reg [(false, 4)] []) [2]) (.live [2] (.leaf))))))
def hint14L0 : Hint :=
  .live [0, 1, 2, 8, 9, 12, 13, 14] (.seq (.after (.reg [(false, 1)] []) [0, 1, 2, 8, 9, 12, 13, 14, 15]) (.seq (.after (.cond (.leaf) (.live [8, 9] (.leaf))) [0, 1, 2, 8, 9, 12, 13, 14]) (.seq (.after (.block (.seq (.after (.reg [(false, 6)] [3]) [0, 1, 2, 8, 9, 10, 11, 12, 13, 14]) (.seq (.after (.reg [(true, 2), (false, 5), (true, 8), (false, 4)] []) [0, 1, 2, 8, 9, 10, 12, 13, 14, 37]) (.after (.cond (.after (.reg [(false, 3)] []) [0, 1, 2, 8, 9, 12, 13, 14]) (.leaf)) [0, 1, 2, 8, 9, 12, 13, 14])))) [0, 1, 2, 8, 9, 12, 13, 14]) (.after (.reg [(false, 2)] []) [0, 1, 2, 8, 9, 12, 13, 14]))))
def hint14 : Hint :=
  .seq (.after (.reg [(false, 2)] []) [0, 1, 2]) (.seq (.after (.reg [(false, 2)] []) [0, 1, 2, 8, 9]) (.seq (.seq (.after (.reg [(false, 3)] []) [0, 1, 2, 8, 9, 12, 13, 14]) (.after (.block (.loop hint14L0)) [8, 9])) (.seq (.after (.reg [(false, 4)] []) [6, 7]) (.live [6, 7] (.leaf)))))
def hint13 : Hint :=
  .seq (.after (.reg [(false, 2)] []) [1]) (.seq (.after (.reg [(false, 2)] []) [2]) (.live [2] (.leaf)))
def hint15 : Hint :=
  .seq (.after (.reg [(false, 2)] [0]) [1]) (.seq (.after (.reg [(false, 3)] []) [2]) (.live [2] (.leaf)))
def hint16 : Hint :=
  .seq (.after (.reg [(false, 2)] [0]) [1, 2]) (.seq (.after (.reg [(false, 15)] []) [4]) (.live [4] (.leaf)))
def hint17L0 : Hint :=
  .live [0, 1, 2, 8, 9, 12, 13, 14] (.seq (.after (.reg [(false, 1)] []) [0, 1, 2, 8, 9, 12, 13, 14, 15]) (.seq (.after (.cond (.leaf) (.live [8, 9] (.leaf))) [0, 1, 2, 8, 9, 12, 13, 14]) (.seq (.after (.block (.seq (.after (.reg [(false, 6)] [3]) [0, 1, 2, 8, 9, 10, 11, 12, 13, 14]) (.seq (.after (.reg [(true, 2), (false, 5), (true, 8), (false, 4)] []) [0, 1, 2, 8, 9, 10, 12, 13, 14, 37]) (.after (.cond (.after (.reg [(false, 3)] []) [0, 1, 2, 8, 9, 12, 13, 14]) (.leaf)) [0, 1, 2, 8, 9, 12, 13, 14])))) [0, 1, 2, 8, 9, 12, 13, 14]) (.after (.reg [(false, 2)] []) [0, 1, 2, 8, 9, 12, 13, 14]))))
def hint17 : Hint :=
  .seq (.after (.reg [(false, 2)] []) [0, 1, 2]) (.seq (.after (.reg [(false, 2)] []) [0, 1, 2, 8, 9]) (.seq (.seq (.after (.reg [(false, 3)] []) [0, 1, 2, 8, 9, 12, 13, 14]) (.after (.block (.loop hint17L0)) [8, 9])) (.seq (.after (.reg [(false, 4)] []) [6, 7]) (.live [6, 7] (.leaf)))))
def hint18 : Hint :=
  .seq (.after (.reg [(false, 2)] [0]) [1]) (.seq (.after (.reg [(false, 4)] []) [2]) (.live [2] (.leaf)))
def hint19 : Hint :=
  .seq (.after (.reg [(false, 2)] [0]) [1]) (.seq (.after (.reg [(false, 3)] []) [2]) (.live [2] (.leaf)))
def hint21 : Hint :=
  .seq (.after (.reg [(false, 2)] [0]) []) (.seq (.after (.reg [(false, 1)] []) [2]) (.live [2] (.leaf)))
def hint20 : Hint :=
  .seq (.after (.reg [(false, 2)] [0]) [1]) (.seq (.after (.reg [(false, 4)] []) [2]) (.live [2] (.leaf)))
def hint22 : Hint :=
  .seq (.after (.reg [(false, 2)] [0]) [1, 2]) (.seq (.after (.reg [(false, 15)] []) [3]) (.live [3] (.leaf)))
noncomputable def E : Env := ⟨Go.Proofs.Try.prog, fun f => List.lookup f [(2, 24), (3, 10), (4, 11), (5, 12), (6, 9), (7, 8), (8, 7), (9, 6), (10, 5), (11, 4), (12, 0), (13, 1), (14, 2), (15, 3), (16, 14), (17, 13), (18, 15), (19, 16), (20, 17), (21, 18), (22, 19), (23, 21), (24, 20), (25, 22)], rndOf T⟩
theorem c24 : cFunc E false hint24 Go.Proofs.Try.f2 = some code24 := by kernel_rfl
theorem c10 : cFunc E false hint10 Go.Proofs.Try.f3 = some code10 := by kernel_rfl
theorem c11 : cFunc E false hint11 Go.Proofs.Try.f4 = some code11 := by kernel_rfl
theorem c12 : cFunc E false hint12 Go.Proofs.Try.f5 = some code12 := by kernel_rfl
theorem c9 : cFunc E true hint9 Go.Proofs.Try.f6 = some code9 := by kernel_rfl
theorem c8 : cFunc E false hint8 Go.Proofs.Try.f7 = some code8 := by kernel_rfl
theorem c7 : cFunc E false hint7 Go.Proofs.Try.f8 = some code7 := by kernel_rfl
theorem c6 : cFunc E false hint6 Go.Proofs.Try.f9 = some code6 := by kernel_rfl
theorem c5 : cFunc E false hint5 Go.Proofs.Try.f10 = some code5 := by kernel_rfl
theorem c4 : cFunc E false hint4 Go.Proofs.Try.f11 = some code4 := by kernel_rfl
theorem c0 : cFunc E false hint0 Go.Proofs.Try.f12 = some code0 := by kernel_rfl
theorem c1 : cFunc E false hint1 Go.Proofs.Try.f13 = some code1 := by kernel_rfl
theorem c2 : cFunc E false hint2 Go.Proofs.Try.f14 = some code2 := by kernel_rfl
theorem c3 : cFunc E false hint3 Go.Proofs.Try.f15 = some code3 := by kernel_rfl
theorem c14 : cFunc E false hint14 Go.Proofs.Try.f16 = some code14 := by kernel_rfl
theorem c13 : cFunc E false hint13 Go.Proofs.Try.f17 = some code13 := by kernel_rfl
theorem c15 : cFunc E false hint15 Go.Proofs.Try.f18 = some code15 := by kernel_rfl
theorem c16 : cFunc E false hint16 Go.Proofs.Try.f19 = some code16 := by kernel_rfl
theorem c17 : cFunc E false hint17 Go.Proofs.Try.f20 = some code17 := by kernel_rfl
theorem c18 : cFunc E false hint18 Go.Proofs.Try.f21 = some code18 := by kernel_rfl
theorem c19 : cFunc E false hint19 Go.Proofs.Try.f22 = some code19 := by kernel_rfl
theorem c21 : cFunc E false hint21 Go.Proofs.Try.f23 = some code21 := by kernel_rfl
theorem c20 : cFunc E false hint20 Go.Proofs.Try.f24 = some code20 := by kernel_rfl
theorem c22 : cFunc E false hint22 Go.Proofs.Try.f25 = some code22 := by kernel_rfl
theorem r24 : RndOK E code24.body.rounds := trivial
theorem r10 : RndOK E code10.body.rounds := trivial
theorem r11 : RndOK E code11.body.rounds := trivial
theorem r12 : RndOK E code12.body.rounds := trivial
theorem r9 : RndOK E code9.body.rounds := trivial
theorem r8 : RndOK E code8.body.rounds := trivial
theorem r7 : RndOK E code7.body.rounds := trivial
theorem r6 : RndOK E code6.body.rounds := trivial
theorem r5 : RndOK E code5.body.rounds := trivial
theorem r4 : RndOK E code4.body.rounds := trivial
theorem r0 : RndOK E code0.body.rounds := trivial
theorem r1 : RndOK E code1.body.rounds := trivial
theorem r2 : RndOK E code2.body.rounds := trivial
theorem r3 : RndOK E code3.body.rounds := trivial
theorem r14 : RndOK E code14.body.rounds := trivial
theorem r13 : RndOK E code13.body.rounds := trivial
theorem r15 : RndOK E code15.body.rounds := trivial
theorem r16 : RndOK E code16.body.rounds := trivial
theorem r17 : RndOK E code17.body.rounds := trivial
theorem r18 : RndOK E code18.body.rounds := trivial
theorem r19 : RndOK E code19.body.rounds := trivial
theorem r21 : RndOK E code21.body.rounds := trivial
theorem r20 : RndOK E code20.body.rounds := trivial
theorem r22 : RndOK E code22.body.rounds := trivial
theorem agrees : Agrees E T := agrees_of ⟨⟨_, _, _, _, Go.Proofs.Try.func2, t24, c24, r24⟩, ⟨_, _, _, _, Go.Proofs.Try.func3, t10, c10, r10⟩, ⟨_, _, _, _, Go.Proofs.Try.func4, t11, c11, r11⟩, ⟨_, _, _, _, Go.Proofs.Try.func5, t12, c12, r12⟩, ⟨_, _, _, _, Go.Proofs.Try.func6, t9, c9, r9⟩, ⟨_, _, _, _, Go.Proofs.Try.func7, t8, c8, r8⟩, ⟨_, _, _, _, Go.Proofs.Try.func8, t7, c7, r7⟩, ⟨_, _, _, _, Go.Proofs.Try.func9, t6, c6, r6⟩, ⟨_, _, _, _, Go.Proofs.Try.func10, t5, c5, r5⟩, ⟨_, _, _, _, Go.Proofs.Try.func11, t4, c4, r4⟩, ⟨_, _, _, _, Go.Proofs.Try.func12, t0, c0, r0⟩, ⟨_, _, _, _, Go.Proofs.Try.func13, t1, c1, r1⟩, ⟨_, _, _, _, Go.Proofs.Try.func14, t2, c2, r2⟩, ⟨_, _, _, _, Go.Proofs.Try.func15, t3, c3, r3⟩, ⟨_, _, _, _, Go.Proofs.Try.func16, t14, c14, r14⟩, ⟨_, _, _, _, Go.Proofs.Try.func17, t13, c13, r13⟩, ⟨_, _, _, _, Go.Proofs.Try.func18, t15, c15, r15⟩, ⟨_, _, _, _, Go.Proofs.Try.func19, t16, c16, r16⟩, ⟨_, _, _, _, Go.Proofs.Try.func20, t17, c17, r17⟩, ⟨_, _, _, _, Go.Proofs.Try.func21, t18, c18, r18⟩, ⟨_, _, _, _, Go.Proofs.Try.func22, t19, c19, r19⟩, ⟨_, _, _, _, Go.Proofs.Try.func23, t21, c21, r21⟩, ⟨_, _, _, _, Go.Proofs.Try.func24, t20, c20, r20⟩, ⟨_, _, _, _, Go.Proofs.Try.func25, t22, c22, r22⟩, trivial⟩
theorem mixed : E.P.follows .mixedOrders = true := by kernel_rfl
end Go.Abs.AbsWear
