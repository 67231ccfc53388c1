/-
  The code is the functions': asked of the kernel.
-/
import Derived.Test.YtknncfpfhjnjpaaDoorP5
import Derived.Test.YtknncfpfhjnjpaaDoorP6
import Derived.Test.YtknncfpfhjnjpaaDoorProg
import Derived.KernelRfl
import Derived.Test.YtknncfpfhjnjpaaDoorP7
namespace Go.Abs.AbsOrdM
set_option linter.unusedVariables false
set_option linter.unusedSimpArgs false
set_option maxRecDepth 100000
open Go.Abs.AbsOrd Go.Abs.AbsMake Go.Abs.AbsHier Go.Abs.AbsDesc
open Go.Abs.ShortH
def hint25 : Hint :=
  .seq (r 1 [0]) (.seq (r 10 [2]) (l [2]))
def hint27 : Hint :=
  .seq (r 1 [0]) (.seq (r 9 [2]) (l [2]))
def hint30 : Hint :=
  .seq (r 1 [0]) (.seq (r 7 [2]) (l [2]))
def hint34 : Hint :=
  .seq (r 2 [0]) (.seq (.seq (r 13 [0, 16]) (.after (.cond (.seq (r 2 [2, 3]) (l [2, 3])) (.leaf)) [0])) (.seq (r 7 [2, 3]) (l [2, 3])))
def hint36 : Hint :=
  .seq (r 2 [0]) (.seq (r 7 [4, 5]) (.seq (.seq (r 2 [4, 12]) (.after (.cond (.seq (r 2 [2, 3]) (l [2, 3])) (.leaf)) [4])) (.seq (r 3 [2, 3]) (l [2, 3]))))
def hint38L0 : Hint :=
  .live [5, 7] (.seq (.seq (r 7 [5, 7, 23]) (.after (.cond (.leaf) (l [5, 7])) [5, 7])) (.after (.block (.seq (r 3 [5, 7, 8]) (.seq (.seq (r 7 [5, 7, 8, 32]) (.after (.cond (.seq (r 3 [2, 3, 4]) (l [2, 3, 4])) (.leaf)) [5, 7, 8])) (.after (.reg [(true, 9), (false, 1)] []) [5, 7])))) [5, 7]))
def hint38 : Hint :=
  .seq (r 3 [0]) (.seq (r 7 [5, 6]) (.seq (.seq (r 2 [5, 16]) (.after (.cond (.seq (r 3 [2, 3, 4]) (l [2, 3, 4])) (.leaf)) [5])) (.seq (r 1 [5, 7]) (.seq (.after (.block (.loop hint38L0)) [5, 7]) (.seq (r 7 [6, 7, 9]) (.seq (.seq (r 11 [7, 9, 56]) (.after (.cond (.seq (r 3 [2, 3, 4]) (l [2, 3, 4])) (.leaf)) [7, 9])) (.seq (r 5 [2, 3, 4]) (l [2, 3, 4]))))))))
def hint47 : Hint :=
  .seq (r 1 [0, 1, 2]) (.seq (.seq (r 14 [0, 1, 2, 28]) (.after (.cond (.seq (r 1 [6]) (l [6])) (.leaf)) [0, 1, 2])) (.seq (r 7 [0, 1, 2, 7, 8]) (.seq (r 7 [0, 1, 2, 7, 8, 9, 10]) (.seq (r 7 [0, 1, 2, 7, 8, 9, 10, 11, 12]) (.seq (r 7 [0, 1, 2, 7, 8, 9, 10, 11, 12, 13, 14]) (.seq (.after (.block (.seq (r 4 [0, 1, 2, 7, 8, 9, 10, 11, 12, 13, 14, 49]) (.after (.cond (.seq (r 1 [6]) (l [6])) (.seq (r 3 [0, 2, 7, 8, 9, 10, 11, 12, 13, 14, 53]) (.after (.cond (.seq (r 3 [6]) (l [6])) (.seq (r 5 [0, 7, 9, 10, 11, 12, 13, 14, 58]) (.after (.cond (.seq (r 5 [6]) (l [6])) (.seq (r 5 [0, 9, 11, 12, 13, 14, 67]) (.after (.cond (.seq (r 3 [6]) (l [6])) (.leaf)) [0, 11, 12, 13, 14]))) [0, 11, 12, 13, 14]))) [0, 11, 12, 13, 14]))) [0, 11, 12, 13, 14]))) [0, 11, 12, 13, 14]) (.seq (r 19 [6]) (l [6]))))))))
def hint48 : Hint :=
  .seq (r 1 [0]) (.seq (.after (.reg [(false, 6)] [4]) [0, 3]) (.seq (r 20 [0, 3]) (.seq (.after (.reg [(false, 10)] [8]) [0, 3, 4]) (.seq (.after (.reg [(false, 5)] [3]) [0, 3, 4, 5]) (.seq (.seq (r 3 [0, 3, 4, 5, 42]) (.after (.cond (r 5 [3, 4, 5]) (.leaf)) [3, 4, 5])) (.seq (r 6 [2]) (l [2])))))))
def hint49L0 : Hint :=
  .live [4, 69, 70, 71] (.seq (r 1 [4, 69, 70, 71, 72]) (.seq (.after (.cond (.leaf) (l [4])) [4, 69, 70, 71]) (.seq (.after (.block (.seq (.after (.reg [(false, 4)] [2]) [4, 10, 69, 70, 71]) (.seq (r 4 [4, 69, 70, 71, 78]) (.after (.cond (.seq (r 2 [2, 3]) (l [2, 3])) (.leaf)) [4, 69, 70, 71])))) [4, 69, 70, 71]) (r 2 [4, 69, 70, 71]))))
def hint49L1 : Hint :=
  .live [0, 4, 45, 46, 47] (.seq (r 1 [0, 4, 45, 46, 47, 48]) (.seq (.after (.cond (.leaf) (l [0, 4])) [0, 4, 45, 46, 47]) (.seq (.after (.block (.seq (.after (.reg [(false, 4)] [2]) [0, 4, 8, 45, 46, 47]) (.seq (r 17 [0, 4, 45, 46, 47, 67]) (.after (.cond (.seq (r 2 [2, 3]) (l [2, 3])) (.leaf)) [0, 4, 45, 46, 47])))) [0, 4, 45, 46, 47]) (r 2 [0, 4, 45, 46, 47]))))
def hint49L2 : Hint :=
  .live [0, 4, 15, 16, 17] (.seq (r 1 [0, 4, 15, 16, 17, 18]) (.seq (.after (.cond (.leaf) (l [0, 4])) [0, 4, 15, 16, 17]) (.seq (.after (.block (.seq (.after (.reg [(false, 4)] [2]) [0, 4, 6, 15, 16, 17]) (.seq (.seq (r 15 [0, 4, 6, 15, 16, 17, 35]) (.after (.cond (.seq (r 2 [2, 3]) (l [2, 3])) (.leaf)) [0, 4, 6, 15, 16, 17])) (.after (.reg [(true, 8), (false, 1)] []) [0, 4, 15, 16, 17])))) [0, 4, 15, 16, 17]) (r 2 [0, 4, 15, 16, 17]))))
def hint49 : Hint :=
  .seq (r 2 [0]) (.seq (r 2 [0, 4]) (.seq (.seq (r 3 [0, 4, 14]) (.after (.cond (.seq (r 2 [2, 3]) (l [2, 3])) (.leaf)) [0, 4])) (.seq (.seq (r 3 [0, 4, 15, 16, 17]) (.after (.block (.loop hint49L2)) [0, 4])) (.seq (.seq (r 3 [0, 4, 45, 46, 47]) (.after (.block (.loop hint49L1)) [0, 4])) (.seq (.seq (r 3 [4, 69, 70, 71]) (.after (.block (.loop hint49L0)) [4])) (.seq (r 3 [2, 3]) (l [2, 3])))))))
def hint50 : Hint :=
  .seq (r 1 []) (.seq (r 6 [1, 2]) (.seq (r 8 [1, 2, 4]) (.seq (r 7 [1, 2, 4, 5, 6]) (.seq (r 31 [0]) (l [0])))))
def rhint320a : Hint :=
  r 1 [5, 6, 7]
def rhint320b : Hint :=
  .after (.block (.seq (r 3 [6, 16]) (.after (.cond (.seq (r 1 []) (l [])) (.leaf)) []))) []
def hint52 : Hint :=
  .seq (r 2 [0, 1, 5, 6]) (.seq (.seq (r 2 [0, 1, 5, 6, 9]) (.after (.cond (.seq (r 1 [6]) (l [6])) (.leaf)) [0, 1, 5, 6])) (.seq (.seq (r 3 [5, 6, 12]) (.after (.block (.after (.rangeFunc 320 [5, 6] rhint320a rhint320b) [6])) [6])) (.seq (r 1 [6]) (l [6]))))
def rhint319a : Hint :=
  r 1 [3, 5, 6, 7]
def rhint319b : Hint :=
  .after (.block (.seq (r 4 [6, 7, 17]) (.after (.cond (.seq (r 2 []) (l [])) (.leaf)) []))) []
def hint53 : Hint :=
  .seq (r 3 [1, 3, 5, 6]) (.seq (.seq (r 2 [1, 3, 5, 6, 9]) (.after (.cond (.seq (r 1 [6]) (l [6])) (.leaf)) [1, 3, 5, 6])) (.seq (.seq (r 3 [3, 5, 6, 12]) (.after (.block (.after (.rangeFunc 319 [3, 5, 6] rhint319a rhint319b) [6])) [6])) (.seq (r 1 [6]) (l [6]))))
def hint54 : Hint :=
  .seq (r 1 [0, 1]) (.seq (r 8 [6]) (.seq (r 2 [4]) (l [4])))
def hint55 : Hint :=
  .seq (r 1 [0, 1, 2, 3]) (.seq (.seq (r 2 [0, 1, 2, 3, 13]) (.after (.cond (.seq (r 1 [8]) (l [8])) (.leaf)) [0, 1, 2, 3])) (.seq (.seq (r 14 [0, 1, 2, 3, 27]) (.after (.cond (.seq (r 1 [8]) (l [8])) (.leaf)) [0, 1, 2, 3])) (.seq (r 10 [1, 2, 3, 9, 10]) (.seq (r 5 [1, 2, 3, 9, 10, 11]) (.seq (.seq (r 17 [1, 2, 3, 9, 11, 56]) (.after (.cond (.seq (r 1 [8]) (l [8])) (.leaf)) [1, 2, 3, 9, 11])) (.seq (.seq (r 2 [1, 2, 3, 9, 11, 58]) (.after (.cond (.seq (r 1 [8]) (l [8])) (.leaf)) [1, 2, 3, 9, 11])) (.seq (r 39 [8]) (l [8]))))))))
def hint85 : Hint :=
  .seq (r 2 [0, 1]) (.seq (r 7 [4, 5]) (l [4, 5]))
def hint86 : Hint :=
  .seq (r 1 [0]) (.seq (r 3 [0, 3]) (.seq (r 6 [0, 3, 4]) (.seq (.seq (r 6 [0, 3, 4, 21]) (.after (.cond (.seq (r 1 [2]) (l [2])) (.leaf)) [0, 3, 4])) (.seq (.seq (r 3 [0, 3, 4, 5]) (.after (.block (.seq (.seq (r 3 [0, 3, 4, 5, 24]) (.after (.cond (.leaf) (.seq (r 7 [0, 3, 4, 5, 24]) (.after (.cond (.leaf) (r 7 [0, 3, 4, 5, 24])) [0, 3, 4, 5, 24]))) [0, 3, 4, 5, 24])) (.after (.cond (.seq (r 5 [2]) (l [2])) (.seq (r 3 [0, 3, 4, 43]) (.after (.cond (.seq (r 10 [0, 4, 6, 8]) (.seq (r 5 [0, 4, 6, 57]) (.after (.cond (.seq (r 8 [2]) (l [2])) (.leaf)) []))) (.leaf)) []))) []))) [])) (.seq (r 1 [2]) (l [2]))))))
def hint88 : Hint :=
  .seq (r 1 [0, 1]) (.seq (r 4 [4]) (l [4]))
def hint89 : Hint :=
  .seq (r 1 [0, 1]) (.seq (r 4 [4]) (l [4]))
def hint90 : Hint :=
  .seq (r 1 [0, 1]) (.seq (r 4 [4]) (l [4]))
def hint91 : Hint :=
  .seq (r 1 [0, 1]) (.seq (r 5 [4]) (l [4]))
def hint92 : Hint :=
  .seq (r 1 [0]) (.seq (r 4 [2]) (l [2]))
def hint95 : Hint :=
  .seq (r 1 [0, 1, 2, 3]) (.seq (r 14 [8]) (l [8]))
def hint96 : Hint :=
  .seq (r 2 [0, 1]) (.seq (.seq (r 2 [0, 1, 9]) (.after (.cond (.seq (r 2 [4, 5]) (l [4, 5])) (.leaf)) [0, 1])) (.seq (r 11 [6, 7]) (.seq (r 4 [4, 5]) (l [4, 5]))))
def rhint322a : Hint :=
  r 1 [2, 4, 6, 7]
def rhint322b : Hint :=
  .after (.block (.seq (.after (.reg [(true, 16), (false, 1)] [14]) [4, 6, 8, 9]) (.seq (r 8 [4, 43]) (.after (.cond (.seq (r 1 []) (l [])) (.leaf)) [])))) []
def hint97L1 : Hint :=
  .live [2, 3, 4, 11, 12, 13] (.seq (r 1 [2, 3, 4, 11, 12, 13, 14]) (.seq (.after (.cond (.leaf) (l [4])) [2, 3, 4, 11, 12, 13]) (.seq (.after (.block (.seq (r 4 [2, 3, 4, 6, 11, 12, 13]) (.seq (r 4 [2, 3, 4, 6, 11, 12, 13, 20]) (.after (.block (.after (.rangeFunc 322 [2, 4, 6] rhint322a rhint322b) [2, 3, 4, 11, 12, 13])) [2, 3, 4, 11, 12, 13])))) [2, 3, 4, 11, 12, 13]) (r 2 [2, 3, 4, 11, 12, 13]))))
def hint97 : Hint :=
  .seq (.after (.reg [(false, 3)] [1]) [2, 3, 4]) (.seq (.seq (r 4 [2, 3, 4, 11, 12, 13]) (.after (.block (.loop hint97L1)) [4])) (.seq (r 1 [4]) (l [4])))
def rhint321a : Hint :=
  r 1 [5, 6, 7]
def rhint321b : Hint :=
  .after (.block (.after (.reg [(true, 4), (false, 1)] [3]) [])) []
def hint98 : Hint :=
  .seq (r 1 [0, 1]) (.seq (r 4 [0, 1, 5, 6]) (.seq (.seq (r 3 [5, 6, 10]) (.after (.block (.after (.rangeFunc 321 [5, 6] rhint321a rhint321b) [5, 6])) [5, 6])) (.seq (r 7 [4]) (l [4]))))
def hint99L0 : Hint :=
  .live [0, 3, 5, 10, 11, 12] (.seq (r 1 [0, 3, 5, 10, 11, 12, 13]) (.seq (.after (.cond (.leaf) (l [])) [0, 3, 5, 10, 11, 12]) (.seq (.after (.block (.seq (.after (.reg [(false, 4)] [2]) [0, 3, 5, 7, 10, 11, 12]) (.seq (.seq (r 23 [0, 3, 5, 7, 10, 11, 12, 38]) (.after (.cond (.seq (r 1 [4]) (l [4])) (.leaf)) [0, 3, 5, 7, 10, 11, 12])) (.seq (r 4 [0, 3, 5, 7, 10, 11, 12]) (.after (.reg [(true, 16), (false, 1)] []) [0, 3, 5, 10, 11, 12]))))) [0, 3, 5, 10, 11, 12]) (r 2 [0, 3, 5, 10, 11, 12]))))
def hint99 : Hint :=
  .seq (.after (.reg [(false, 2)] [0]) [0, 3]) (.seq (r 2 [0, 3, 5]) (.seq (.seq (r 4 [0, 3, 5, 10, 11, 12]) (.after (.block (.loop hint99L0)) [])) (.seq (r 1 [4]) (l [4]))))
def hint100L0 : Hint :=
  .live [0, 3, 11, 12, 13] (.seq (r 1 [0, 3, 11, 12, 13, 14]) (.seq (.after (.cond (.leaf) (l [])) [0, 3, 11, 12, 13]) (.seq (.after (.block (.seq (.after (.reg [(false, 4)] [2]) [0, 3, 6, 11, 12, 13]) (.seq (.after (.reg [(false, 9)] [7]) [0, 3, 6, 7, 11, 12, 13]) (.seq (.seq (.after (.reg [(true, 11), (false, 1)] [9]) [0, 3, 6, 7, 9, 11, 12, 13]) (.seq (r 7 [0, 3, 6, 7, 11, 12, 13, 39]) (.after (.cond (.seq (r 1 [4]) (l [4])) (.leaf)) [0, 3, 6, 7, 11, 12, 13]))) (.after (.reg [(true, 10), (false, 1)] []) [0, 3, 11, 12, 13]))))) [0, 3, 11, 12, 13]) (r 2 [0, 3, 11, 12, 13]))))
def hint100 : Hint :=
  .seq (.after (.reg [(false, 2)] [0]) [0, 3]) (.seq (.seq (r 4 [0, 3, 11, 12, 13]) (.after (.block (.loop hint100L0)) [])) (.seq (r 1 [4]) (l [4])))
def hint101L0 : Hint :=
  .live [2, 8, 9, 12] (.seq (.seq (r 2 [2, 8, 9, 12, 90]) (.after (.cond (.leaf) (l [2, 8, 9])) [2, 8, 9, 12])) (.seq (.after (.block (r 2 [2, 8, 9, 12])) [2, 8, 9, 12]) (r 3 [2, 8, 9, 12])))
def hint101L1 : Hint :=
  .live [0, 2, 3, 8, 9, 43, 44, 45] (.seq (r 1 [0, 2, 3, 8, 9, 43, 44, 45, 46]) (.seq (.after (.cond (.leaf) (l [0, 2, 3, 8, 9])) [0, 2, 3, 8, 9, 43, 44, 45]) (.seq (.after (.block (.seq (r 3 [0, 2, 3, 8, 9, 11, 43, 44, 45]) (.seq (r 4 [0, 2, 3, 8, 9, 11, 43, 44, 45]) (r 3 [0, 2, 3, 8, 9, 43, 44, 45])))) [0, 2, 3, 8, 9, 43, 44, 45]) (r 2 [0, 2, 3, 8, 9, 43, 44, 45]))))
def hint101 : Hint :=
  .seq (.after (.reg [(false, 1)] [0]) [0, 1, 2, 3, 8]) (.seq (r 4 [0, 1, 2, 3, 8, 9]) (.seq (.seq (r 2 [0, 2, 3, 8, 9, 17]) (.after (.cond (.seq (r 2 [0, 2, 8, 9]) (.seq (r 2 [0, 2, 8, 9]) (.seq (r 2 [0, 2, 8, 9]) (.seq (r 2 [0, 2, 8, 9]) (.seq (r 2 [0, 2, 8, 9]) (.seq (r 7 [2, 8, 9]) (.seq (r 2 [2, 8, 9]) (.seq (r 7 [8]) (l [8]))))))))) (.leaf)) [0, 2, 3, 8, 9])) (.seq (.seq (r 3 [0, 2, 3, 8, 9, 43, 44, 45]) (.after (.block (.loop hint101L1)) [0, 2, 3, 8, 9])) (.seq (r 2 [0, 2, 3, 8, 9]) (.seq (r 2 [0, 2, 3, 8, 9]) (.seq (r 11 [0, 2, 3, 8, 9]) (.seq (r 2 [0, 2, 3, 8, 9]) (.seq (r 4 [0, 2, 3, 8, 9]) (.seq (r 2 [0, 2, 3, 8, 9]) (.seq (r 2 [0, 2, 3, 8, 9]) (.seq (r 2 [0, 2, 3, 8, 9]) (.seq (r 2 [0, 2, 3, 8, 9]) (.seq (.seq (r 5 [2, 8, 9, 12]) (.after (.block (.loop hint101L0)) [2, 8, 9])) (.seq (r 2 [2, 8, 9]) (.seq (r 2 [2, 8, 9]) (.seq (.after (.reg [(true, 13), (false, 2)] []) [8]) (l [8])))))))))))))))))
def hint102 : Hint :=
  .seq (r 1 [0, 1]) (.seq (.seq (.after (.reg [(false, 3), (true, 9), (false, 2)] []) [0, 1, 18]) (.after (.cond (.seq (r 1 [4]) (l [4])) (.leaf)) [0, 1])) (.seq (r 9 [0, 1]) (.seq (.after (.reg [(true, 13), (false, 2)] []) [4]) (l [4]))))
def hint103 : Hint :=
  .seq (r 1 [0, 1]) (.seq (r 8 [0, 5, 6]) (.seq (r 8 [4]) (l [4])))
def hint137 : Hint :=
  .seq (r 2 [0, 1]) (.seq (.seq (r 4 [0, 1, 9]) (.after (.cond (.seq (r 3 [4, 5]) (l [4, 5])) (.leaf)) [0, 1])) (.seq (r 6 [4, 5]) (l [4, 5])))
def hint138 : Hint :=
  .seq (r 3 [0, 1]) (.seq (r 9 [4, 5, 6]) (l [4, 5, 6]))
def hint139 : Hint :=
  .seq (r 1 [0, 1]) (.seq (.seq (r 6 [0, 1, 12]) (.after (.cond (.seq (r 2 [4]) (l [4])) (.leaf)) [0, 1])) (.seq (.seq (r 8 [0, 1, 21]) (.after (.cond (.seq (r 5 [4]) (l [4])) (.leaf)) [0, 1])) (.seq (.seq (r 8 [0, 1, 5, 6]) (.seq (r 1 [0, 1, 5, 31]) (.after (.cond (.seq (r 3 [4]) (l [4])) (.leaf)) [0, 1]))) (.seq (r 4 [4]) (l [4])))))
def hint140 : Hint :=
  .seq (r 1 [0, 1]) (.seq (r 14 [4]) (l [4]))
def hint141 : Hint :=
  .seq (r 1 [0, 1]) (.seq (r 17 [4]) (l [4]))
def hint142L0 : Hint :=
  .live [0, 1, 7, 8] (.seq (r 1 [0, 1, 7, 8, 9]) (.seq (.after (.cond (.leaf) (l [])) [0, 1, 7, 8]) (.seq (.after (.block (.seq (r 2 [0, 1, 5, 7, 8]) (.seq (r 6 [0, 1, 5, 7, 8, 16]) (.after (.cond (.seq (r 2 [4]) (l [4])) (.leaf)) [0, 1, 7, 8])))) [0, 1, 7, 8]) (r 2 [0, 1, 7, 8]))))
def hint142 : Hint :=
  .seq (r 1 [0, 1]) (.seq (.seq (r 3 [0, 1, 7, 8]) (.after (.block (.loop hint142L0)) [])) (.seq (r 1 [4]) (l [4])))
def hint143L0 : Hint :=
  .live [0, 1, 2, 3, 9, 10] (.seq (.seq (r 3 [0, 1, 2, 3, 9, 10, 36]) (.after (.cond (.leaf) (l [0, 9, 10])) [0, 1, 2, 3, 9, 10])) (.after (.block (.seq (r 4 [0, 1, 2, 3, 9, 10, 11]) (.seq (.seq (r 2 [0, 1, 2, 3, 9, 10, 11, 41]) (.after (.cond (l [0, 9, 10]) (.leaf)) [0, 1, 2, 3, 9, 10, 11])) (.seq (r 9 [0, 1, 2, 3, 9, 10, 11]) (.seq (r 7 [0, 1, 2, 3, 9, 10]) (r 3 [0, 1, 2, 3, 9, 10])))))) [0, 1, 2, 3, 9, 10]))
def hint143 : Hint :=
  .seq (r 1 [0, 1, 2, 3]) (.seq (.seq (r 2 [0, 1, 2, 3, 13]) (.after (.cond (.seq (r 1 [8]) (l [8])) (.leaf)) [0, 1, 2, 3])) (.seq (.seq (r 2 [0, 1, 2, 3, 15]) (.after (.cond (.seq (r 4 [8]) (l [8])) (.leaf)) [0, 1, 2, 3])) (.seq (.seq (r 2 [0, 1, 2, 3, 20]) (.after (.cond (r 5 [0, 1, 2, 3]) (.leaf)) [0, 1, 2, 3])) (.seq (r 6 [0, 1, 2, 3]) (.seq (r 3 [0, 1, 2, 3, 9]) (.seq (r 3 [0, 1, 2, 3, 9]) (.seq (r 1 [0, 1, 2, 3, 9, 10]) (.seq (.after (.block (.loop hint143L0)) [0, 9, 10]) (.seq (r 5 [9, 10]) (.seq (r 5 [8]) (l [8])))))))))))
def hint144 : Hint :=
  .seq (r 1 [0]) (.seq (r 1 [0, 3]) (.seq (r 10 [2]) (l [2])))
def hint145 : Hint :=
  .seq (r 1 [0, 1]) (.seq (r 5 [4]) (l [4]))
def hint146 : Hint :=
  .seq (r 1 [0]) (.seq (.after (.block (.seq (.seq (r 7 [0, 3]) (.after (.cond (.leaf) (.seq (r 7 [0, 3]) (.after (.cond (.leaf) (.seq (r 7 [0, 3]) (.after (.cond (.leaf) (.seq (r 3 [0, 3]) (.after (.cond (.leaf) (r 3 [3])) [3]))) [3]))) [3]))) [3])) (.after (.cond (.seq (r 1 [2]) (l [2])) (.leaf)) []))) []) (.seq (r 1 [2]) (l [2])))
def hint150 : Hint :=
  r 13 []
def hint151 : Hint :=
  .seq (r 9 [0, 1]) (.seq (r 6 [0, 1, 4]) (.seq (.seq (r 9 [0, 1, 4, 26]) (.after (.cond (r 3 [0, 1, 4]) (.leaf)) [0, 1, 4])) (.seq (r 1 [0, 1, 29]) (.after (.block (.seq (.seq (r 2 [0, 1, 29, 40]) (.after (.cond (.leaf) (r 2 [0, 1, 29, 40])) [0, 1, 29, 40])) (.after (.cond (r 7 []) (.seq (r 2 [0, 1, 29, 50]) (.after (.cond (r 8 []) (.seq (r 2 [0, 1, 29, 60]) (.after (.cond (r 2 []) (.seq (.seq (r 2 [0, 1, 29, 64]) (.after (.cond (.leaf) (.seq (r 2 [0, 1, 29, 64]) (.after (.cond (.leaf) (.seq (r 2 [0, 1, 29, 64]) (.after (.cond (.leaf) (r 2 [0, 1, 29, 64])) [0, 1, 29, 64]))) [0, 1, 29, 64]))) [0, 1, 29, 64])) (.after (.cond (.seq (r 4 [0, 1]) (.seq (r 4 [0]) (r 10 []))) (.seq (r 2 [0, 1, 29, 87]) (.after (.cond (.seq (r 4 [0]) (r 2 [])) (.seq (r 2 [0, 1, 29, 95]) (.after (.cond (.seq (r 2 [0, 1]) (.seq (r 4 [0]) (r 2 []))) (.seq (r 2 [0, 1, 29, 105]) (.after (.cond (.seq (r 2 [0]) (r 2 [])) (.seq (r 2 [0, 1, 29, 111]) (.after (.cond (.seq (r 2 [0, 1]) (.seq (r 4 [0]) (r 2 []))) (.seq (r 2 [0, 1, 29, 121]) (.after (.cond (.seq (r 4 [0]) (r 2 [])) (.seq (r 2 [0, 1, 29, 129]) (.after (.cond (.seq (r 8 [0]) (r 2 [])) (.seq (r 2 [0, 1, 141]) (.after (.cond (.seq (r 2 [0]) (r 11 [])) (.seq (r 4 [0, 1]) (.seq (r 4 [0]) (r 2 [])))) []))) []))) []))) []))) []))) []))) []))) []))) []))) []))) []))) []))))
def hint152 : Hint :=
  .seq (r 9 [0]) (.seq (r 6 [0, 2]) (.after (.block (.seq (r 10 [0, 2, 38]) (.after (.cond (.seq (r 2 [0]) (r 8 [])) (.seq (r 3 [0, 2, 58]) (.after (.cond (.seq (r 2 [0]) (r 2 [])) (.seq (r 3 [0, 2, 65]) (.after (.cond (.seq (r 2 [0]) (r 2 [])) (.seq (r 3 [0, 2, 72]) (.after (.cond (.seq (r 2 [0]) (r 2 [])) (.seq (r 3 [0, 2, 79]) (.after (.cond (.seq (r 2 [0]) (.seq (r 2 [0]) (r 2 []))) (.seq (r 3 [0, 2, 88]) (.after (.cond (.seq (r 2 [0]) (r 2 [])) (.seq (r 3 [0, 2, 95]) (.after (.cond (.seq (r 2 [0]) (.seq (r 6 [0, 3]) (.seq (r 5 [0, 3]) (r 4 [])))) (.seq (r 3 [0, 2, 114]) (.after (.cond (.seq (r 2 [0]) (.seq (r 2 [0]) (.seq (r 2 [0]) (r 2 [])))) (.seq (r 10 [0, 2, 125]) (.after (.cond (r 2 []) (.seq (r 10 [0, 2, 137]) (.after (.cond (r 2 []) (.seq (r 10 [0, 2, 149]) (.after (.cond (r 2 []) (.seq (r 3 [0, 2, 161]) (.after (.cond (r 2 []) (.seq (r 3 [0, 2, 166]) (.after (.cond (.seq (r 11 [0]) (r 2 [])) (.seq (r 3 [0, 181]) (.after (.cond (.seq (r 2 [0]) (r 2 [])) (.after (.reg [(true, 19), (false, 3)] []) [])) []))) []))) []))) []))) []))) []))) []))) []))) []))) []))) []))) []))) []))) []))) []))
def hint153 : Hint :=
  .after (.block (.seq (r 7 [0, 1, 15]) (.after (.cond (r 5 []) (.seq (r 7 [0, 1, 27]) (.after (.cond (r 3 []) (.seq (r 7 [0, 1, 37]) (.after (.cond (r 3 []) (r 12 [])) []))) []))) []))) []
def hint154 : Hint :=
  r 15 []
def hint155L0 : Hint :=
  .live [0, 1, 2, 10, 11] (.seq (r 1 [0, 1, 2, 10, 11, 12]) (.seq (.after (.cond (.leaf) (l [])) [0, 1, 2, 10, 11]) (.seq (.after (.block (.seq (.after (.reg [(true, 5), (false, 2), (true, 3), (false, 1)] []) [0, 1, 2, 4, 5, 10, 11]) (.seq (.seq (r 8 [0, 1, 2, 4, 10, 11, 29]) (.after (.cond (l []) (.leaf)) [0, 1, 2, 4, 10, 11])) (r 2 [0, 1, 2, 10, 11])))) [0, 1, 2, 10, 11]) (r 2 [0, 1, 2, 10, 11]))))
def hint155 : Hint :=
  .seq (r 6 [0, 1, 2, 10, 11]) (.after (.block (.loop hint155L0)) [])
def hint156 : Hint :=
  .seq (r 3 [2, 3]) (.seq (r 2 [4]) (l [4]))
def hint171L0 : Hint :=
  .live [0, 1] (.seq (.seq (r 9 [0, 1, 13]) (.after (.cond (.leaf) (l [0])) [0, 1])) (.after (.block (r 3 [0, 1])) [0, 1]))
def hint171 : Hint :=
  .seq (r 1 [0, 1]) (.seq (.after (.block (.loop hint171L0)) [0]) (.seq (r 2 [4]) (l [4])))
def hint172 : Hint :=
  .seq (r 3 [0, 1]) (.seq (.seq (r 4 [0, 1, 7]) (.seq (r 2 [0, 1, 7, 12]) (.after (.cond (.seq (.after (.reg [(true, 10), (false, 2)] []) [4, 5, 6]) (l [4, 5, 6])) (.leaf)) [0]))) (.seq (r 4 [4, 5, 6]) (l [4, 5, 6])))
def hint173 : Hint :=
  .seq (r 1 [0, 1]) (.seq (r 4 [4]) (l [4]))
def hint174L0 : Hint :=
  .live [0, 1, 5] (.after (.block (.seq (r 4 [0, 1, 5, 6]) (.seq (.seq (r 2 [0, 1, 5, 6, 24]) (.after (.cond (.seq (r 2 [4]) (l [4])) (.leaf)) [0, 1, 5, 6])) (.seq (r 3 [0, 1, 5, 6]) (r 7 [0, 1, 5]))))) [0, 1, 5])
def hint174 : Hint :=
  .seq (r 1 [0, 1]) (.seq (.seq (r 3 [0, 1, 9]) (.after (.cond (.seq (r 4 [4]) (l [4])) (.leaf)) [0, 1])) (.seq (.seq (r 3 [0, 1, 15]) (.after (.cond (.seq (r 5 [4]) (l [4])) (.leaf)) [0, 1])) (.seq (r 1 [0, 1, 5]) (.after (.block (.loop hint174L0)) [4]))))
def hint176L0 : Hint :=
  .live [0, 1, 7, 8] (.seq (r 1 [0, 1, 7, 8, 9]) (.seq (.after (.cond (.leaf) (l [])) [0, 1, 7, 8]) (.seq (.after (.block (.seq (r 2 [0, 1, 5, 7, 8]) (.seq (r 6 [0, 1, 5, 7, 8, 16]) (.after (.cond (.seq (r 2 [4]) (l [4])) (.leaf)) [0, 1, 7, 8])))) [0, 1, 7, 8]) (r 2 [0, 1, 7, 8]))))
def hint176 : Hint :=
  .seq (r 1 [0, 1]) (.seq (.seq (r 3 [0, 1, 7, 8]) (.after (.block (.loop hint176L0)) [])) (.seq (r 1 [4]) (l [4])))
def hint179 : Hint :=
  .seq (.after (.reg [(false, 1)] [0]) [0]) (.seq (r 10 [0]) (l [0]))
def hint180 : Hint :=
  .seq (r 1 [0, 1]) (.seq (r 5 [4]) (l [4]))
def hint181 : Hint :=
  .seq (r 1 [0]) (.seq (r 8 [2]) (l [2]))
def hint182L0 : Hint :=
  .live [0, 42, 43, 44] (.seq (r 1 [0, 42, 43, 44, 45]) (.seq (.after (.cond (.leaf) (l [])) [0, 42, 43, 44]) (.seq (.after (.block (.seq (.after (.reg [(false, 4)] [2]) [0, 11, 42, 43, 44]) (.seq (r 10 [0, 42, 43, 44, 57]) (.after (.cond (.seq (r 1 [4]) (l [4])) (.leaf)) [0, 42, 43, 44])))) [0, 42, 43, 44]) (r 2 [0, 42, 43, 44]))))
def hint182L1 : Hint :=
  .live [0, 3, 30, 31, 32] (.seq (r 1 [0, 3, 30, 31, 32, 33]) (.seq (.after (.cond (.leaf) (l [0, 3])) [0, 3, 30, 31, 32]) (.seq (.after (.block (.seq (r 3 [0, 3, 9, 30, 31, 32]) (.seq (r 4 [0, 3, 30, 31, 32, 39]) (.after (.cond (.seq (r 1 [4]) (l [4])) (.leaf)) [0, 3, 30, 31, 32])))) [0, 3, 30, 31, 32]) (r 2 [0, 3, 30, 31, 32]))))
def hint182 : Hint :=
  .seq (.after (.reg [(false, 2)] [0]) [0, 3]) (.seq (r 10 [0, 3, 5, 6, 7]) (.seq (.seq (r 8 [0, 3, 5, 6, 26]) (.after (.cond (.seq (r 1 [4]) (l [4])) (.leaf)) [0, 3, 5, 6])) (.seq (.seq (r 6 [0, 3, 30, 31, 32]) (.after (.block (.loop hint182L1)) [0, 3])) (.seq (.seq (r 4 [0, 42, 43, 44]) (.after (.block (.loop hint182L0)) [])) (.seq (r 1 [4]) (l [4]))))))
def hint183 : Hint :=
  .seq (r 6 [0, 1, 4]) (.after (.block (.seq (r 7 [0, 1, 4, 16]) (.after (.cond (.seq (r 4 [0, 1]) (.seq (r 4 [0]) (r 10 []))) (.seq (r 7 [0, 1, 4, 41]) (.after (.cond (.seq (r 4 [0, 1]) (.seq (r 4 [0]) (r 10 []))) (.seq (r 3 [0, 1, 4, 66]) (.after (.cond (r 2 []) (.seq (r 3 [0, 1, 71]) (.after (.cond (.after (.reg [(true, 15), (false, 3)] []) []) (.seq (r 4 [0]) (r 2 []))) []))) []))) []))) []))) [])
def hint184 : Hint :=
  .seq (r 5 [0, 6]) (.after (.block (.seq (r 2 [0, 6, 17]) (.after (.cond (r 2 []) (.seq (r 2 [0, 6, 21]) (.after (.cond (r 11 []) (.seq (r 2 [0, 33]) (.after (.cond (.seq (r 2 [0]) (r 11 [])) (r 11 [])) []))) []))) []))) [])
def hint185 : Hint :=
  .seq (r 2 [0]) (.seq (r 11 [0, 2]) (.seq (r 2 [0, 2]) (.seq (r 3 [0, 2, 3]) (.seq (.after (.reg [(true, 7), (false, 3)] []) [0, 3]) (.seq (r 2 [0, 3]) (.after (.reg [(true, 7), (false, 3)] []) []))))))
def hint186 : Hint :=
  .seq (r 7 [0]) (.seq (r 2 [0]) (.seq (r 3 [0, 2]) (.seq (r 2 [0, 2]) (.seq (r 3 [0, 2, 3]) (.seq (r 2 [0, 2, 3]) (.seq (r 11 [0, 2, 3]) (.seq (r 3 [0, 3]) (.after (.reg [(true, 7), (false, 3)] []) []))))))))
def hint187 : Hint :=
  .seq (r 6 [0, 2]) (.seq (r 2 [0, 2]) (.seq (r 1 [0, 2, 3]) (.seq (.seq (r 6 [0, 2, 3, 21]) (.after (.cond (.seq (r 11 [0, 2, 3]) (r 2 [0, 2, 3])) (r 2 [0, 2, 3])) [0, 2, 3])) (.seq (r 6 [0, 2, 3, 4]) (.seq (.seq (r 10 [0, 2, 3, 4, 50]) (.after (.cond (r 3 [0, 2, 3, 4]) (.leaf)) [0, 2, 3, 4])) (.seq (r 9 [0, 2, 3, 4, 5]) (.seq (r 2 [0, 2, 3, 4, 5, 6]) (.seq (.seq (r 2 [0, 2, 3, 4, 5, 6, 63]) (.after (.cond (r 1 [0, 2, 3, 4, 5, 6]) (.leaf)) [0, 2, 3, 4, 5, 6])) (.seq (r 7 [0, 2, 3, 4, 5, 7]) (.seq (r 2 [0, 2, 3, 4, 5, 7]) (.seq (r 2 [0, 2, 3, 4, 5, 7]) (.seq (r 3 [0, 2, 3, 4, 5, 7, 8]) (.seq (.seq (r 2 [0, 2, 3, 4, 5, 7, 8, 77]) (.after (.cond (r 9 [0, 2, 4, 5, 7]) (.leaf)) [0, 2, 4, 5, 7])) (r 15 []))))))))))))))
def hint188 : Hint :=
  .seq (r 5 [0, 6]) (.after (.block (.seq (r 2 [0, 6, 11]) (.after (.cond (.seq (r 2 [0]) (.seq (r 2 [0]) (r 2 []))) (.seq (r 2 [0, 6, 19]) (.after (.cond (.seq (r 2 [0]) (.seq (r 2 [0]) (r 2 []))) (.seq (r 2 [0, 27]) (.after (.cond (.seq (r 2 [0]) (.seq (r 2 [0]) (r 2 []))) (.seq (r 2 [0]) (r 2 []))) []))) []))) []))) [])
def hint205L0 : Hint :=
  .live [0, 1, 5, 6, 7, 8, 9, 10] (.seq (.seq (r 3 [0, 1, 5, 6, 7, 8, 9, 10, 59]) (.after (.cond (.leaf) (l [])) [0, 1, 5, 6, 7, 8, 9, 10])) (.after (.block (.seq (.seq (r 5 [0, 1, 5, 6, 7, 8, 9, 10, 64]) (.after (.cond (.seq (r 8 [0, 1, 5, 6, 7, 8, 9, 10, 11]) (.seq (.seq (r 2 [0, 1, 5, 6, 7, 8, 9, 10, 11, 73]) (.after (.cond (.seq (r 1 [4]) (l [4])) (.leaf)) [0, 1, 5, 6, 7, 8, 9, 10, 11])) (r 5 [0, 1, 5, 6, 7, 8, 9, 10]))) (.leaf)) [0, 1, 5, 6, 7, 8, 9, 10])) (.seq (.seq (r 16 [0, 1, 5, 6, 7, 8, 9, 10, 93]) (.after (.cond (.seq (r 2 [4]) (l [4])) (.leaf)) [0, 1, 5, 6, 7, 8, 9, 10])) (.seq (r 3 [0, 1, 5, 6, 7, 8, 9, 10]) (.seq (r 3 [0, 1, 5, 6, 7, 8, 9, 10]) (.seq (r 9 [0, 1, 5, 6, 7, 8, 9, 10, 107]) (.after (.cond (.seq (r 6 [8, 12]) (.seq (.seq (r 2 [8, 12, 114]) (.after (.cond (.seq (r 4 [4]) (l [4])) (.leaf)) [])) (.seq (r 1 [4]) (l [4])))) (.seq (r 15 [0, 1, 5, 6, 7, 8, 9, 10, 132]) (.after (.cond (.seq (r 6 [8, 13]) (.seq (.seq (r 2 [8, 13, 139]) (.after (.cond (.seq (r 1 [4]) (l [4])) (.leaf)) [8, 13])) (.seq (r 4 [4]) (l [4])))) (.leaf)) [0, 1, 5, 6, 7, 8, 9, 10]))) [0, 1, 5, 6, 7, 8, 9, 10]))))))) [0, 1, 5, 6, 7, 8, 9, 10]))
def hint205 : Hint :=
  .seq (r 1 [0, 1]) (.seq (r 3 [0, 1, 5]) (.seq (.after (.block (.seq (r 8 [0, 1, 5, 16]) (.after (.cond (.seq (r 1 [4]) (l [4])) (.seq (r 3 [0, 1, 5, 24]) (.after (.cond (.seq (r 5 [4]) (l [4])) (.seq (r 5 [0, 1, 5, 31]) (.after (.cond (.seq (r 1 [4]) (l [4])) (.seq (r 9 [0, 1, 5, 36]) (.after (.cond (.seq (r 4 [4]) (l [4])) (.leaf)) [0, 1, 5]))) [0, 1, 5]))) [0, 1, 5]))) [0, 1, 5]))) [0, 1, 5]) (.seq (r 3 [0, 1, 5, 6]) (.seq (r 3 [0, 1, 5, 6, 7]) (.seq (r 1 [0, 1, 5, 6, 7, 8]) (.seq (r 6 [0, 1, 5, 6, 7, 8, 9]) (.seq (r 1 [0, 1, 5, 6, 7, 8, 9, 10]) (.seq (.after (.block (.loop hint205L0)) []) (.seq (r 1 [4]) (l [4]))))))))))
def hint209L0 : Hint :=
  .live [0, 2] (.seq (.seq (r 2 [0, 2, 18]) (.after (.cond (.leaf) (l [0])) [0, 2])) (.seq (.after (.block (r 2 [0, 2])) [0, 2]) (r 3 [0, 2])))
def hint209 : Hint :=
  .seq (r 9 [0]) (.seq (.seq (r 7 [0, 2]) (.after (.block (.loop hint209L0)) [0])) (r 9 []))
def hint210 : Hint :=
  .seq (r 1 [0, 1]) (.seq (r 3 [0]) (.seq (r 7 [4]) (l [4])))
def hint222 : Hint :=
  .seq (r 1 []) (.seq (r 2 [0]) (l [0]))
def hint226 : Hint :=
  .seq (r 1 [0, 1]) (.seq (r 4 [4]) (l [4]))
def hint284L0 : Hint :=
  .live [1, 24, 25] (.seq (r 1 [1, 24, 25, 26]) (.seq (.after (.cond (.leaf) (l [1])) [1, 24, 25]) (.seq (.after (.block (.seq (.after (.reg [(false, 3)] [1]) [1, 5, 24, 25]) (.seq (.after (.reg [(false, 7)] [5]) [1, 6, 24, 25]) (.seq (.after (.reg [(true, 6), (false, 1)] []) [1, 6, 24, 25]) (.after (.reg [(true, 5), (false, 1)] []) [1, 24, 25]))))) [1, 24, 25]) (r 2 [1, 24, 25]))))
def hint284L1 : Hint :=
  .live [1, 14, 15] (.seq (r 1 [1, 14, 15, 16]) (.seq (.after (.cond (.leaf) (l [1])) [1, 14, 15]) (.seq (.after (.block (.seq (r 2 [1, 3, 14, 15]) (r 6 [1, 14, 15]))) [1, 14, 15]) (r 2 [1, 14, 15]))))
def hint284 : Hint :=
  .seq (r 1 []) (.seq (r 11 [1]) (.seq (.seq (r 2 [1, 14, 15]) (.after (.block (.loop hint284L1)) [1])) (.seq (.seq (r 2 [1, 24, 25]) (.after (.block (.loop hint284L0)) [1])) (.seq (r 2 [0]) (l [0])))))
def hint100208 : Hint :=
  .seq (r 1 [0, 1]) (.seq (r 6 [0, 1, 5]) (.seq (.seq (r 6 [0, 1, 5, 6]) (.seq (r 15 [0, 1, 5, 31]) (.after (.cond (.seq (r 2 [4]) (l [4])) (.leaf)) [0, 1, 5]))) (.seq (.after (.reg [(true, 11), (false, 3)] []) [5]) (.seq (r 2 [4]) (l [4])))))
noncomputable def E : Env := ⟨Go.Proofs.Tryd.prog, fun f => List.lookup f [(30, 25), (58, 27), (40, 30), (38, 34), (39, 36), (79, 38), (10, 47), (9, 48), (8, 49), (7, 50), (13, 52), (11, 53), (12, 54), (4, 55), (68, 85), (78, 86), (66, 88), (67, 89), (54, 90), (53, 91), (55, 92), (28, 95), (27, 96), (34, 97), (31, 98), (32, 99), (33, 100), (35, 101), (36, 102), (37, 103), (92, 137), (99, 138), (65, 139), (90, 140), (91, 141), (73, 142), (74, 143), (56, 144), (76, 145), (75, 146), (60, 150), (64, 151), (63, 152), (61, 153), (62, 154), (69, 155), (41, 156), (86, 171), (109, 172), (97, 173), (96, 174), (98, 176), (52, 179), (77, 180), (57, 181), (59, 182), (80, 183), (81, 184), (82, 185), (83, 186), (84, 187), (85, 188), (108, 205), (101, 209), (100, 210), (110, 222), (113, 226), (29, 284), (102, 100208)], rndOf Go.Abs.AbsOrd.T⟩
theorem c25 : cFunc E false hint25 Go.Proofs.Tryd.f30 = some code25 := by kernel_rfl
theorem c27 : cFunc E false hint27 Go.Proofs.Tryd.f58 = some code27 := by kernel_rfl
theorem c30 : cFunc E false hint30 Go.Proofs.Tryd.f40 = some code30 := by kernel_rfl
theorem c34 : cFunc E false hint34 Go.Proofs.Tryd.f38 = some code34 := by kernel_rfl
theorem c36 : cFunc E false hint36 Go.Proofs.Tryd.f39 = some code36 := by kernel_rfl
theorem c38 : cFunc E false hint38 Go.Proofs.Tryd.f79 = some code38 := by kernel_rfl
theorem c47 : cFunc E false hint47 Go.Proofs.Tryd.f10 = some code47 := by kernel_rfl
theorem c48 : cFunc E false hint48 Go.Proofs.Tryd.f9 = some code48 := by kernel_rfl
theorem c49 : cFunc E false hint49 Go.Proofs.Tryd.f8 = some code49 := by kernel_rfl
theorem c50 : cFunc E true hint50 Go.Proofs.Tryd.f7 = some code50 := by kernel_rfl
theorem c52 : cFunc E false hint52 Go.Proofs.Tryd.f13 = some code52 := by kernel_rfl
theorem c53 : cFunc E false hint53 Go.Proofs.Tryd.f11 = some code53 := by kernel_rfl
theorem c54 : cFunc E false hint54 Go.Proofs.Tryd.f12 = some code54 := by kernel_rfl
theorem c55 : cFunc E false hint55 Go.Proofs.Tryd.f4 = some code55 := by kernel_rfl
theorem c85 : cFunc E false hint85 Go.Proofs.Tryd.f68 = some code85 := by kernel_rfl
theorem c86 : cFunc E false hint86 Go.Proofs.Tryd.f78 = some code86 := by kernel_rfl
theorem c88 : cFunc E false hint88 Go.Proofs.Tryd.f66 = some code88 := by kernel_rfl
theorem c89 : cFunc E false hint89 Go.Proofs.Tryd.f67 = some code89 := by kernel_rfl
theorem c90 : cFunc E false hint90 Go.Proofs.Tryd.f54 = some code90 := by kernel_rfl
theorem c91 : cFunc E false hint91 Go.Proofs.Tryd.f53 = some code91 := by kernel_rfl
theorem c92 : cFunc E false hint92 Go.Proofs.Tryd.f55 = some code92 := by kernel_rfl
theorem c95 : cFunc E false hint95 Go.Proofs.Tryd.f28 = some code95 := by kernel_rfl
theorem c96 : cFunc E false hint96 Go.Proofs.Tryd.f27 = some code96 := by kernel_rfl
theorem c97 : cFunc E false hint97 Go.Proofs.Tryd.f34 = some code97 := by kernel_rfl
theorem c98 : cFunc E false hint98 Go.Proofs.Tryd.f31 = some code98 := by kernel_rfl
theorem c99 : cFunc E false hint99 Go.Proofs.Tryd.f32 = some code99 := by kernel_rfl
theorem c100 : cFunc E false hint100 Go.Proofs.Tryd.f33 = some code100 := by kernel_rfl
theorem c101 : cFunc E false hint101 Go.Proofs.Tryd.f35 = some code101 := by kernel_rfl
theorem c102 : cFunc E false hint102 Go.Proofs.Tryd.f36 = some code102 := by kernel_rfl
theorem c103 : cFunc E false hint103 Go.Proofs.Tryd.f37 = some code103 := by kernel_rfl
theorem c137 : cFunc E false hint137 Go.Proofs.Tryd.f92 = some code137 := by kernel_rfl
theorem c138 : cFunc E false hint138 Go.Proofs.Tryd.f99 = some code138 := by kernel_rfl
theorem c139 : cFunc E false hint139 Go.Proofs.Tryd.f65 = some code139 := by kernel_rfl
theorem c140 : cFunc E false hint140 Go.Proofs.Tryd.f90 = some code140 := by kernel_rfl
theorem c141 : cFunc E false hint141 Go.Proofs.Tryd.f91 = some code141 := by kernel_rfl
theorem c142 : cFunc E false hint142 Go.Proofs.Tryd.f73 = some code142 := by kernel_rfl
theorem c143 : cFunc E false hint143 Go.Proofs.Tryd.f74 = some code143 := by kernel_rfl
theorem c144 : cFunc E false hint144 Go.Proofs.Tryd.f56 = some code144 := by kernel_rfl
theorem c145 : cFunc E false hint145 Go.Proofs.Tryd.f76 = some code145 := by kernel_rfl
theorem c146 : cFunc E false hint146 Go.Proofs.Tryd.f75 = some code146 := by kernel_rfl
theorem c150 : cFunc E false hint150 Go.Proofs.Tryd.f60 = some code150 := by kernel_rfl
theorem c151 : cFunc E false hint151 Go.Proofs.Tryd.f64 = some code151 := by kernel_rfl
theorem c152 : cFunc E false hint152 Go.Proofs.Tryd.f63 = some code152 := by kernel_rfl
theorem c153 : cFunc E false hint153 Go.Proofs.Tryd.f61 = some code153 := by kernel_rfl
theorem c154 : cFunc E false hint154 Go.Proofs.Tryd.f62 = some code154 := by kernel_rfl
theorem c155 : cFunc E false hint155 Go.Proofs.Tryd.f69 = some code155 := by kernel_rfl
theorem c156 : cFunc E false hint156 Go.Proofs.Tryd.f41 = some code156 := by kernel_rfl
theorem c171 : cFunc E false hint171 Go.Proofs.Tryd.f86 = some code171 := by kernel_rfl
theorem c172 : cFunc E false hint172 Go.Proofs.Tryd.f109 = some code172 := by kernel_rfl
theorem c173 : cFunc E false hint173 Go.Proofs.Tryd.f97 = some code173 := by kernel_rfl
theorem c174 : cFunc E false hint174 Go.Proofs.Tryd.f96 = some code174 := by kernel_rfl
theorem c176 : cFunc E false hint176 Go.Proofs.Tryd.f98 = some code176 := by kernel_rfl
theorem c179 : cFunc E false hint179 Go.Proofs.Tryd.f52 = some code179 := by kernel_rfl
theorem c180 : cFunc E false hint180 Go.Proofs.Tryd.f77 = some code180 := by kernel_rfl
theorem c181 : cFunc E false hint181 Go.Proofs.Tryd.f57 = some code181 := by kernel_rfl
theorem c182 : cFunc E false hint182 Go.Proofs.Tryd.f59 = some code182 := by kernel_rfl
theorem c183 : cFunc E false hint183 Go.Proofs.Tryd.f80 = some code183 := by kernel_rfl
theorem c184 : cFunc E false hint184 Go.Proofs.Tryd.f81 = some code184 := by kernel_rfl
theorem c185 : cFunc E false hint185 Go.Proofs.Tryd.f82 = some code185 := by kernel_rfl
theorem c186 : cFunc E false hint186 Go.Proofs.Tryd.f83 = some code186 := by kernel_rfl
theorem c187 : cFunc E false hint187 Go.Proofs.Tryd.f84 = some code187 := by kernel_rfl
theorem c188 : cFunc E false hint188 Go.Proofs.Tryd.f85 = some code188 := by kernel_rfl
theorem c205 : cFunc E false hint205 Go.Proofs.Tryd.f108 = some code205 := by kernel_rfl
theorem c209 : cFunc E false hint209 Go.Proofs.Tryd.f101 = some code209 := by kernel_rfl
theorem c210 : cFunc E false hint210 Go.Proofs.Tryd.f100 = some code210 := by kernel_rfl
theorem c222 : cFunc E false hint222 Go.Proofs.Tryd.f110 = some code222 := by kernel_rfl
theorem c226 : cFunc E false hint226 Go.Proofs.Tryd.f113 = some code226 := by kernel_rfl
theorem c284 : cFunc E false hint284 Go.Proofs.Tryd.f29 = some code284 := by kernel_rfl
theorem c100208 : cFunc E false hint100208 Go.Proofs.Tryd.f102 = some code100208 := by kernel_rfl
theorem r52 : RndOK E code52.body.rounds := ⟨rfl, trivial⟩
theorem r53 : RndOK E code53.body.rounds := ⟨rfl, trivial⟩
theorem r97 : RndOK E code97.body.rounds := ⟨rfl, trivial⟩
theorem r98 : RndOK E code98.body.rounds := ⟨rfl, trivial⟩
theorem agrees : Agrees E Go.Abs.AbsOrd.T := agrees_of ⟨.inl ⟨_, _, _, _, Go.Proofs.Tryd.func30, (rfl : Go.Abs.AbsOrd.T 25 = some code25), c25, trivial⟩, .inl ⟨_, _, _, _, Go.Proofs.Tryd.func58, (rfl : Go.Abs.AbsOrd.T 27 = some code27), c27, trivial⟩, .inl ⟨_, _, _, _, Go.Proofs.Tryd.func40, (rfl : Go.Abs.AbsOrd.T 30 = some code30), c30, trivial⟩, .inl ⟨_, _, _, _, Go.Proofs.Tryd.func38, (rfl : Go.Abs.AbsOrd.T 34 = some code34), c34, trivial⟩, .inl ⟨_, _, _, _, Go.Proofs.Tryd.func39, (rfl : Go.Abs.AbsOrd.T 36 = some code36), c36, trivial⟩, .inl ⟨_, _, _, _, Go.Proofs.Tryd.func79, (rfl : Go.Abs.AbsOrd.T 38 = some code38), c38, trivial⟩, .inl ⟨_, _, _, _, Go.Proofs.Tryd.func10, (rfl : Go.Abs.AbsOrd.T 47 = some code47), c47, trivial⟩, .inl ⟨_, _, _, _, Go.Proofs.Tryd.func9, (rfl : Go.Abs.AbsOrd.T 48 = some code48), c48, trivial⟩, .inl ⟨_, _, _, _, Go.Proofs.Tryd.func8, (rfl : Go.Abs.AbsOrd.T 49 = some code49), c49, trivial⟩, .inl ⟨_, _, _, _, Go.Proofs.Tryd.func7, (rfl : Go.Abs.AbsOrd.T 50 = some code50), c50, trivial⟩, .inl ⟨_, _, _, _, Go.Proofs.Tryd.func13, (rfl : Go.Abs.AbsOrd.T 52 = some code52), c52, r52⟩, .inl ⟨_, _, _, _, Go.Proofs.Tryd.func11, (rfl : Go.Abs.AbsOrd.T 53 = some code53), c53, r53⟩, .inl ⟨_, _, _, _, Go.Proofs.Tryd.func12, (rfl : Go.Abs.AbsOrd.T 54 = some code54), c54, trivial⟩, .inl ⟨_, _, _, _, Go.Proofs.Tryd.func4, (rfl : Go.Abs.AbsOrd.T 55 = some code55), c55, trivial⟩, .inl ⟨_, _, _, _, Go.Proofs.Tryd.func68, (rfl : Go.Abs.AbsOrd.T 85 = some code85), c85, trivial⟩, .inl ⟨_, _, _, _, Go.Proofs.Tryd.func78, (rfl : Go.Abs.AbsOrd.T 86 = some code86), c86, trivial⟩, .inl ⟨_, _, _, _, Go.Proofs.Tryd.func66, (rfl : Go.Abs.AbsOrd.T 88 = some code88), c88, trivial⟩, .inl ⟨_, _, _, _, Go.Proofs.Tryd.func67, (rfl : Go.Abs.AbsOrd.T 89 = some code89), c89, trivial⟩, .inl ⟨_, _, _, _, Go.Proofs.Tryd.func54, (rfl : Go.Abs.AbsOrd.T 90 = some code90), c90, trivial⟩, .inl ⟨_, _, _, _, Go.Proofs.Tryd.func53, (rfl : Go.Abs.AbsOrd.T 91 = some code91), c91, trivial⟩, .inl ⟨_, _, _, _, Go.Proofs.Tryd.func55, (rfl : Go.Abs.AbsOrd.T 92 = some code92), c92, trivial⟩, .inl ⟨_, _, _, _, Go.Proofs.Tryd.func28, (rfl : Go.Abs.AbsOrd.T 95 = some code95), c95, trivial⟩, .inl ⟨_, _, _, _, Go.Proofs.Tryd.func27, (rfl : Go.Abs.AbsOrd.T 96 = some code96), c96, trivial⟩, .inl ⟨_, _, _, _, Go.Proofs.Tryd.func34, (rfl : Go.Abs.AbsOrd.T 97 = some code97), c97, r97⟩, .inl ⟨_, _, _, _, Go.Proofs.Tryd.func31, (rfl : Go.Abs.AbsOrd.T 98 = some code98), c98, r98⟩, .inl ⟨_, _, _, _, Go.Proofs.Tryd.func32, (rfl : Go.Abs.AbsOrd.T 99 = some code99), c99, trivial⟩, .inl ⟨_, _, _, _, Go.Proofs.Tryd.func33, (rfl : Go.Abs.AbsOrd.T 100 = some code100), c100, trivial⟩, .inl ⟨_, _, _, _, Go.Proofs.Tryd.func35, (rfl : Go.Abs.AbsOrd.T 101 = some code101), c101, trivial⟩, .inl ⟨_, _, _, _, Go.Proofs.Tryd.func36, (rfl : Go.Abs.AbsOrd.T 102 = some code102), c102, trivial⟩, .inl ⟨_, _, _, _, Go.Proofs.Tryd.func37, (rfl : Go.Abs.AbsOrd.T 103 = some code103), c103, trivial⟩, .inl ⟨_, _, _, _, Go.Proofs.Tryd.func92, (rfl : Go.Abs.AbsOrd.T 137 = some code137), c137, trivial⟩, .inl ⟨_, _, _, _, Go.Proofs.Tryd.func99, (rfl : Go.Abs.AbsOrd.T 138 = some code138), c138, trivial⟩, .inl ⟨_, _, _, _, Go.Proofs.Tryd.func65, (rfl : Go.Abs.AbsOrd.T 139 = some code139), c139, trivial⟩, .inl ⟨_, _, _, _, Go.Proofs.Tryd.func90, (rfl : Go.Abs.AbsOrd.T 140 = some code140), c140, trivial⟩, .inl ⟨_, _, _, _, Go.Proofs.Tryd.func91, (rfl : Go.Abs.AbsOrd.T 141 = some code141), c141, trivial⟩, .inl ⟨_, _, _, _, Go.Proofs.Tryd.func73, (rfl : Go.Abs.AbsOrd.T 142 = some code142), c142, trivial⟩, .inl ⟨_, _, _, _, Go.Proofs.Tryd.func74, (rfl : Go.Abs.AbsOrd.T 143 = some code143), c143, trivial⟩, .inl ⟨_, _, _, _, Go.Proofs.Tryd.func56, (rfl : Go.Abs.AbsOrd.T 144 = some code144), c144, trivial⟩, .inl ⟨_, _, _, _, Go.Proofs.Tryd.func76, (rfl : Go.Abs.AbsOrd.T 145 = some code145), c145, trivial⟩, .inl ⟨_, _, _, _, Go.Proofs.Tryd.func75, (rfl : Go.Abs.AbsOrd.T 146 = some code146), c146, trivial⟩, .inl ⟨_, _, _, _, Go.Proofs.Tryd.func60, (rfl : Go.Abs.AbsOrd.T 150 = some code150), c150, trivial⟩, .inl ⟨_, _, _, _, Go.Proofs.Tryd.func64, (rfl : Go.Abs.AbsOrd.T 151 = some code151), c151, trivial⟩, .inl ⟨_, _, _, _, Go.Proofs.Tryd.func63, (rfl : Go.Abs.AbsOrd.T 152 = some code152), c152, trivial⟩, .inl ⟨_, _, _, _, Go.Proofs.Tryd.func61, (rfl : Go.Abs.AbsOrd.T 153 = some code153), c153, trivial⟩, .inl ⟨_, _, _, _, Go.Proofs.Tryd.func62, (rfl : Go.Abs.AbsOrd.T 154 = some code154), c154, trivial⟩, .inl ⟨_, _, _, _, Go.Proofs.Tryd.func69, (rfl : Go.Abs.AbsOrd.T 155 = some code155), c155, trivial⟩, .inl ⟨_, _, _, _, Go.Proofs.Tryd.func41, (rfl : Go.Abs.AbsOrd.T 156 = some code156), c156, trivial⟩, .inl ⟨_, _, _, _, Go.Proofs.Tryd.func86, (rfl : Go.Abs.AbsOrd.T 171 = some code171), c171, trivial⟩, .inl ⟨_, _, _, _, Go.Proofs.Tryd.func109, (rfl : Go.Abs.AbsOrd.T 172 = some code172), c172, trivial⟩, .inl ⟨_, _, _, _, Go.Proofs.Tryd.func97, (rfl : Go.Abs.AbsOrd.T 173 = some code173), c173, trivial⟩, .inl ⟨_, _, _, _, Go.Proofs.Tryd.func96, (rfl : Go.Abs.AbsOrd.T 174 = some code174), c174, trivial⟩, .inl ⟨_, _, _, _, Go.Proofs.Tryd.func98, (rfl : Go.Abs.AbsOrd.T 176 = some code176), c176, trivial⟩, .inl ⟨_, _, _, _, Go.Proofs.Tryd.func52, (rfl : Go.Abs.AbsOrd.T 179 = some code179), c179, trivial⟩, .inl ⟨_, _, _, _, Go.Proofs.Tryd.func77, (rfl : Go.Abs.AbsOrd.T 180 = some code180), c180, trivial⟩, .inl ⟨_, _, _, _, Go.Proofs.Tryd.func57, (rfl : Go.Abs.AbsOrd.T 181 = some code181), c181, trivial⟩, .inl ⟨_, _, _, _, Go.Proofs.Tryd.func59, (rfl : Go.Abs.AbsOrd.T 182 = some code182), c182, trivial⟩, .inl ⟨_, _, _, _, Go.Proofs.Tryd.func80, (rfl : Go.Abs.AbsOrd.T 183 = some code183), c183, trivial⟩, .inl ⟨_, _, _, _, Go.Proofs.Tryd.func81, (rfl : Go.Abs.AbsOrd.T 184 = some code184), c184, trivial⟩, .inl ⟨_, _, _, _, Go.Proofs.Tryd.func82, (rfl : Go.Abs.AbsOrd.T 185 = some code185), c185, trivial⟩, .inl ⟨_, _, _, _, Go.Proofs.Tryd.func83, (rfl : Go.Abs.AbsOrd.T 186 = some code186), c186, trivial⟩, .inl ⟨_, _, _, _, Go.Proofs.Tryd.func84, (rfl : Go.Abs.AbsOrd.T 187 = some code187), c187, trivial⟩, .inl ⟨_, _, _, _, Go.Proofs.Tryd.func85, (rfl : Go.Abs.AbsOrd.T 188 = some code188), c188, trivial⟩, .inl ⟨_, _, _, _, Go.Proofs.Tryd.func108, (rfl : Go.Abs.AbsOrd.T 205 = some code205), c205, trivial⟩, .inl ⟨_, _, _, _, Go.Proofs.Tryd.func101, (rfl : Go.Abs.AbsOrd.T 209 = some code209), c209, trivial⟩, .inl ⟨_, _, _, _, Go.Proofs.Tryd.func100, (rfl : Go.Abs.AbsOrd.T 210 = some code210), c210, trivial⟩, .inl ⟨_, _, _, _, Go.Proofs.Tryd.func110, (rfl : Go.Abs.AbsOrd.T 222 = some code222), c222, trivial⟩, .inl ⟨_, _, _, _, Go.Proofs.Tryd.func113, (rfl : Go.Abs.AbsOrd.T 226 = some code226), c226, trivial⟩, .inl ⟨_, _, _, _, Go.Proofs.Tryd.func29, (rfl : Go.Abs.AbsOrd.T 284 = some code284), c284, trivial⟩, .inl ⟨_, _, _, _, Go.Proofs.Tryd.func102, (rfl : Go.Abs.AbsOrd.T 100208 = some code100208), c100208, trivial⟩, trivial⟩
theorem mixed : E.P.follows .mixedOrders = true := by kernel_rfl
end Go.Abs.AbsOrdM

/-
  Bytes that come in.
-/
namespace Go.Abs
set_option linter.unusedVariables false
set_option linter.unusedSimpArgs false
open Go.Abs.AbsDesc
section
variable {os : List AObj} {b w : Nat} {d : Dat} {cs : List AVal}
theorem has_byte (h : Has ⟨os, b, w⟩ (.int .u8) d cs) : ∃ x : UInt8, cs = byteCell x ∧ True := by
  obtain ⟨n, _, rfl, h1, h2⟩ := h.int
  have e1 : IntKind.u8.min = 0 := rfl
  have e2 : IntKind.u8.max = 255 := rfl
  rw [e1] at h1
  rw [e2] at h2
  refine ⟨UInt8.ofNat n.toNat, ?_, trivial⟩
  unfold byteCell
  have : ((UInt8.ofNat n.toNat).toNat : Int) = n := by
    rw [UInt8.toNat_ofNat']
    have : n.toNat % 2 ^ 8 = n.toNat := Nat.mod_eq_of_lt (by omega)
    rw [this]; omega
  rw [this]
theorem has_bytes (hb : b ≤ os.length) (h : Has ⟨os, b, w⟩ (.slice (.int .u8)) d cs) : ∃ (a : Option (Nat × Nat)) (L : List UInt8) (c : Option Nat), cs = [.slice a L.length c] ∧ Row os 1 byteCell L a ∧ L.length ≤ reachB ∧ under os.length a := by
  obtain ⟨a, L, c, h1, h2, h3, _, h5, _⟩ := h.row fun d c h => has_byte h
  exact ⟨a, L, c, h1, h2, h3, under_of h5 hb⟩
end
end Go.Abs
