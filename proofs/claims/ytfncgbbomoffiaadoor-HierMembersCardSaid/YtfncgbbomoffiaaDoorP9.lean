/-
  The code is the functions': asked of the kernel.
-/
import Derived.Test.YtfncgbbomoffiaaDoorP4
import Derived.Test.YtfncgbbomoffiaaDoorP6
import Derived.Test.YtfncgbbomoffiaaDoorProg
import Derived.KernelRfl
namespace Go.Abs.AbsHierM
set_option maxRecDepth 100000
open Go.Abs.AbsHier Go.Abs.AbsDesc
open Go.Abs.ShortH
def hint25 : Hint :=
  .seq (r 1 [0]) (.seq (r 10 [2]) (l [2]))
def hint26L0 : Hint :=
  .live [0, 3, 4] (.seq (.seq (r 4 [0, 3, 4, 10]) (.after (.cond (.leaf) (l [0, 3])) [0, 3, 4])) (.seq (.after (.block (.seq (r 4 [0, 3, 4, 5]) (.seq (r 31 [0, 3, 4, 5, 6]) (.seq (.seq (r 10 [0, 4, 5, 55]) (.after (.cond (.seq (r 1 [2]) (l [2])) (.leaf)) [0, 4, 5])) (r 2 [0, 3, 4]))))) [0, 3, 4]) (r 3 [0, 3, 4])))
def hint26 : Hint :=
  .seq (r 1 [0]) (.seq (r 1 [0, 3]) (.seq (.seq (r 1 [0, 3, 4]) (.after (.block (.loop hint26L0)) [0, 3])) (.seq (r 8 [2]) (l [2]))))
def hint27 : Hint :=
  .seq (r 1 [0]) (.seq (r 9 [2]) (l [2]))
def hint28L0 : Hint :=
  .live [0, 3] (.seq (.seq (r 10 [0, 3, 14]) (.after (.cond (.leaf) (l [0, 3])) [0, 3])) (.after (.block (r 3 [0, 3])) [0, 3]))
def hint28 : Hint :=
  .seq (r 1 [0]) (.seq (r 1 [0, 3]) (.seq (.after (.block (.loop hint28L0)) [0, 3]) (.seq (r 4 [3, 4]) (.seq (.seq (r 2 [3, 4, 21]) (.after (.cond (.seq (r 1 [2]) (l [2])) (.leaf)) [3, 4])) (.seq (.seq (r 6 [3, 4, 27]) (.after (.cond (.seq (r 1 [2]) (l [2])) (.leaf)) [3, 4])) (.seq (r 15 [2]) (l [2])))))))
def hint30 : Hint :=
  .seq (r 1 [0]) (.seq (r 7 [2]) (l [2]))
def hint33 : Hint :=
  .seq (r 2 [0]) (.seq (.seq (r 16 [0, 19]) (.after (.cond (.seq (r 2 [2, 3]) (l [2, 3])) (.leaf)) [0])) (.seq (r 7 [2, 3]) (l [2, 3])))
def hint34 : Hint :=
  .seq (r 2 [0]) (.seq (.seq (r 13 [0, 16]) (.after (.cond (.seq (r 2 [2, 3]) (l [2, 3])) (.leaf)) [0])) (.seq (r 7 [2, 3]) (l [2, 3])))
def hint36 : Hint :=
  .seq (r 2 [0]) (.seq (r 7 [4, 5]) (.seq (.seq (r 2 [4, 12]) (.after (.cond (.seq (r 2 [2, 3]) (l [2, 3])) (.leaf)) [4])) (.seq (r 3 [2, 3]) (l [2, 3]))))
def hint37L0 : Hint :=
  .live [5, 6] (.seq (.seq (r 7 [5, 6, 23]) (.after (.cond (.leaf) (l [5, 6])) [5, 6])) (.after (.block (.seq (r 3 [5, 6, 7]) (.seq (.seq (r 7 [5, 6, 7, 32]) (.after (.cond (.seq (r 3 [2, 3, 4]) (l [2, 3, 4])) (.leaf)) [5, 6, 7])) (.seq (r 5 [5, 6, 7]) (r 5 [5, 6]))))) [5, 6]))
def hint37 : Hint :=
  .seq (r 3 [0]) (.seq (.seq (r 7 [0, 14]) (.after (.cond (.seq (r 3 [2, 3, 4]) (l [2, 3, 4])) (.leaf)) [0])) (.seq (r 1 [0, 5]) (.seq (r 3 [5, 6]) (.seq (.after (.block (.loop hint37L0)) [5, 6]) (.seq (.seq (r 13 [5, 6, 53]) (.after (.cond (.seq (r 3 [2, 3, 4]) (l [2, 3, 4])) (.leaf)) [5, 6])) (.seq (.after (.reg [(true, 4), (false, 2)] []) [2, 3, 4]) (l [2, 3, 4])))))))
def hint38L0 : Hint :=
  .live [5, 7] (.seq (.seq (r 7 [5, 7, 23]) (.after (.cond (.leaf) (l [5, 7])) [5, 7])) (.after (.block (.seq (r 3 [5, 7, 8]) (.seq (.seq (r 7 [5, 7, 8, 32]) (.after (.cond (.seq (r 3 [2, 3, 4]) (l [2, 3, 4])) (.leaf)) [5, 7, 8])) (.after (.reg [(true, 9), (false, 1)] []) [5, 7])))) [5, 7]))
def hint38 : Hint :=
  .seq (r 3 [0]) (.seq (r 7 [5, 6]) (.seq (.seq (r 2 [5, 16]) (.after (.cond (.seq (r 3 [2, 3, 4]) (l [2, 3, 4])) (.leaf)) [5])) (.seq (r 1 [5, 7]) (.seq (.after (.block (.loop hint38L0)) [5, 7]) (.seq (r 7 [6, 7, 9]) (.seq (.seq (r 11 [7, 9, 56]) (.after (.cond (.seq (r 3 [2, 3, 4]) (l [2, 3, 4])) (.leaf)) [7, 9])) (.seq (r 5 [2, 3, 4]) (l [2, 3, 4]))))))))
def hint47 : Hint :=
  .seq (r 1 [0, 1, 2]) (.seq (.seq (r 14 [0, 1, 2, 28]) (.after (.cond (.seq (r 1 [6]) (l [6])) (.leaf)) [0, 1, 2])) (.seq (r 7 [0, 1, 2, 7, 8]) (.seq (r 7 [0, 1, 2, 7, 8, 9, 10]) (.seq (r 7 [0, 1, 2, 7, 8, 9, 10, 11, 12]) (.seq (r 7 [0, 1, 2, 7, 8, 9, 10, 11, 12, 13, 14]) (.seq (.after (.block (.seq (r 4 [0, 1, 2, 7, 8, 9, 10, 11, 12, 13, 14, 49]) (.after (.cond (.seq (r 1 [6]) (l [6])) (.seq (r 3 [0, 2, 7, 8, 9, 10, 11, 12, 13, 14, 53]) (.after (.cond (.seq (r 3 [6]) (l [6])) (.seq (r 5 [0, 7, 9, 10, 11, 12, 13, 14, 58]) (.after (.cond (.seq (r 5 [6]) (l [6])) (.seq (r 5 [0, 9, 11, 12, 13, 14, 67]) (.after (.cond (.seq (r 3 [6]) (l [6])) (.leaf)) [0, 11, 12, 13, 14]))) [0, 11, 12, 13, 14]))) [0, 11, 12, 13, 14]))) [0, 11, 12, 13, 14]))) [0, 11, 12, 13, 14]) (.seq (r 19 [6]) (l [6]))))))))
def hint49L0 : Hint :=
  .live [4, 69, 70, 71] (.seq (r 1 [4, 69, 70, 71, 72]) (.seq (.after (.cond (.leaf) (l [4])) [4, 69, 70, 71]) (.seq (.after (.block (.seq (.after (.reg [(false, 4)] [2]) [4, 10, 69, 70, 71]) (.seq (r 4 [4, 69, 70, 71, 78]) (.after (.cond (.seq (r 2 [2, 3]) (l [2, 3])) (.leaf)) [4, 69, 70, 71])))) [4, 69, 70, 71]) (r 2 [4, 69, 70, 71]))))
def hint49L1 : Hint :=
  .live [0, 4, 45, 46, 47] (.seq (r 1 [0, 4, 45, 46, 47, 48]) (.seq (.after (.cond (.leaf) (l [0, 4])) [0, 4, 45, 46, 47]) (.seq (.after (.block (.seq (.after (.reg [(false, 4)] [2]) [0, 4, 8, 45, 46, 47]) (.seq (r 17 [0, 4, 45, 46, 47, 67]) (.after (.cond (.seq (r 2 [2, 3]) (l [2, 3])) (.leaf)) [0, 4, 45, 46, 47])))) [0, 4, 45, 46, 47]) (r 2 [0, 4, 45, 46, 47]))))
def hint49L2 : Hint :=
  .live [0, 4, 15, 16, 17] (.seq (r 1 [0, 4, 15, 16, 17, 18]) (.seq (.after (.cond (.leaf) (l [0, 4])) [0, 4, 15, 16, 17]) (.seq (.after (.block (.seq (.after (.reg [(false, 4)] [2]) [0, 4, 6, 15, 16, 17]) (.seq (.seq (r 15 [0, 4, 6, 15, 16, 17, 35]) (.after (.cond (.seq (r 2 [2, 3]) (l [2, 3])) (.leaf)) [0, 4, 6, 15, 16, 17])) (.after (.reg [(true, 8), (false, 1)] []) [0, 4, 15, 16, 17])))) [0, 4, 15, 16, 17]) (r 2 [0, 4, 15, 16, 17]))))
def hint49 : Hint :=
  .seq (r 2 [0]) (.seq (r 2 [0, 4]) (.seq (.seq (r 3 [0, 4, 14]) (.after (.cond (.seq (r 2 [2, 3]) (l [2, 3])) (.leaf)) [0, 4])) (.seq (.seq (r 3 [0, 4, 15, 16, 17]) (.after (.block (.loop hint49L2)) [0, 4])) (.seq (.seq (r 3 [0, 4, 45, 46, 47]) (.after (.block (.loop hint49L1)) [0, 4])) (.seq (.seq (r 3 [4, 69, 70, 71]) (.after (.block (.loop hint49L0)) [4])) (.seq (r 3 [2, 3]) (l [2, 3])))))))
def hint50 : Hint :=
  .seq (r 1 []) (.seq (r 6 [1, 2]) (.seq (r 8 [1, 2, 4]) (.seq (r 7 [1, 2, 4, 5, 6]) (.seq (r 31 [0]) (l [0])))))
def rhint320a : Hint :=
  r 1 [5, 6, 7]
def rhint320b : Hint :=
  .after (.block (.seq (r 3 [6, 16]) (.after (.cond (.seq (r 1 []) (l [])) (.leaf)) []))) []
def hint52 : Hint :=
  .seq (r 2 [0, 1, 5, 6]) (.seq (.seq (r 2 [0, 1, 5, 6, 9]) (.after (.cond (.seq (r 1 [6]) (l [6])) (.leaf)) [0, 1, 5, 6])) (.seq (.seq (r 3 [5, 6, 12]) (.after (.block (.after (.rangeFunc 320 [5, 6] rhint320a rhint320b) [6])) [6])) (.seq (r 1 [6]) (l [6]))))
def hint54 : Hint :=
  .seq (r 1 [0, 1]) (.seq (r 8 [6]) (.seq (r 2 [4]) (l [4])))
def hint85 : Hint :=
  .seq (r 2 [0, 1]) (.seq (r 7 [4, 5]) (l [4, 5]))
def hint86 : Hint :=
  .seq (r 1 [0]) (.seq (r 3 [0, 3]) (.seq (r 6 [0, 3, 4]) (.seq (.seq (r 6 [0, 3, 4, 21]) (.after (.cond (.seq (r 1 [2]) (l [2])) (.leaf)) [0, 3, 4])) (.seq (.seq (r 3 [0, 3, 4, 5]) (.after (.block (.seq (.seq (r 3 [0, 3, 4, 5, 24]) (.after (.cond (.leaf) (.seq (r 7 [0, 3, 4, 5, 24]) (.after (.cond (.leaf) (r 7 [0, 3, 4, 5, 24])) [0, 3, 4, 5, 24]))) [0, 3, 4, 5, 24])) (.after (.cond (.seq (r 5 [2]) (l [2])) (.seq (r 3 [0, 3, 4, 43]) (.after (.cond (.seq (r 10 [0, 4, 6, 8]) (.seq (r 5 [0, 4, 6, 57]) (.after (.cond (.seq (r 8 [2]) (l [2])) (.leaf)) []))) (.leaf)) []))) []))) [])) (.seq (r 1 [2]) (l [2]))))))
def hint87L0 : Hint :=
  .live [0, 3] (.seq (.seq (r 4 [0, 3, 7]) (.after (.cond (.leaf) (l [])) [0, 3])) (.seq (.after (.block (.seq (r 4 [0, 3, 13]) (.after (.cond (.seq (r 4 [2]) (l [2])) (.leaf)) [0, 3]))) [0, 3]) (r 3 [0, 3])))
def hint87 : Hint :=
  .seq (r 1 [0]) (.seq (.seq (r 1 [0, 3]) (.after (.block (.loop hint87L0)) [])) (.seq (r 1 [2]) (l [2])))
def hint88 : Hint :=
  .seq (r 1 [0, 1]) (.seq (r 4 [4]) (l [4]))
def hint89 : Hint :=
  .seq (r 1 [0, 1]) (.seq (r 4 [4]) (l [4]))
def hint90 : Hint :=
  .seq (r 1 [0, 1]) (.seq (r 4 [4]) (l [4]))
def hint91 : Hint :=
  .seq (r 1 [0, 1]) (.seq (r 5 [4]) (l [4]))
def hint92 : Hint :=
  .seq (r 1 [0]) (.seq (r 4 [2]) (l [2]))
def hint93 : Hint :=
  .seq (r 1 [0]) (.seq (r 25 [2]) (l [2]))
def hint95 : Hint :=
  .seq (r 1 [0, 1, 2, 3]) (.seq (r 14 [8]) (l [8]))
def hint96 : Hint :=
  .seq (r 2 [0, 1]) (.seq (.seq (r 2 [0, 1, 9]) (.after (.cond (.seq (r 2 [4, 5]) (l [4, 5])) (.leaf)) [0, 1])) (.seq (r 11 [6, 7]) (.seq (r 4 [4, 5]) (l [4, 5]))))
def rhint322a : Hint :=
  r 1 [2, 4, 6, 7]
def rhint322b : Hint :=
  .after (.block (.seq (.after (.reg [(true, 16), (false, 1)] [14]) [4, 6, 8, 9]) (.seq (r 8 [4, 43]) (.after (.cond (.seq (r 1 []) (l [])) (.leaf)) [])))) []
def hint97L1 : Hint :=
  .live [2, 3, 4, 11, 12, 13] (.seq (r 1 [2, 3, 4, 11, 12, 13, 14]) (.seq (.after (.cond (.leaf) (l [4])) [2, 3, 4, 11, 12, 13]) (.seq (.after (.block (.seq (r 4 [2, 3, 4, 6, 11, 12, 13]) (.seq (r 4 [2, 3, 4, 6, 11, 12, 13, 20]) (.after (.block (.after (.rangeFunc 322 [2, 4, 6] rhint322a rhint322b) [2, 3, 4, 11, 12, 13])) [2, 3, 4, 11, 12, 13])))) [2, 3, 4, 11, 12, 13]) (r 2 [2, 3, 4, 11, 12, 13]))))
def hint97 : Hint :=
  .seq (.after (.reg [(false, 3)] [1]) [2, 3, 4]) (.seq (.seq (r 4 [2, 3, 4, 11, 12, 13]) (.after (.block (.loop hint97L1)) [4])) (.seq (r 1 [4]) (l [4])))
def rhint321a : Hint :=
  r 1 [5, 6, 7]
def rhint321b : Hint :=
  .after (.block (.after (.reg [(true, 4), (false, 1)] [3]) [])) []
def hint98 : Hint :=
  .seq (r 1 [0, 1]) (.seq (r 4 [0, 1, 5, 6]) (.seq (.seq (r 3 [5, 6, 10]) (.after (.block (.after (.rangeFunc 321 [5, 6] rhint321a rhint321b) [5, 6])) [5, 6])) (.seq (r 7 [4]) (l [4]))))
def hint99L0 : Hint :=
  .live [0, 3, 5, 10, 11, 12] (.seq (r 1 [0, 3, 5, 10, 11, 12, 13]) (.seq (.after (.cond (.leaf) (l [])) [0, 3, 5, 10, 11, 12]) (.seq (.after (.block (.seq (.after (.reg [(false, 4)] [2]) [0, 3, 5, 7, 10, 11, 12]) (.seq (.seq (r 23 [0, 3, 5, 7, 10, 11, 12, 38]) (.after (.cond (.seq (r 1 [4]) (l [4])) (.leaf)) [0, 3, 5, 7, 10, 11, 12])) (.seq (r 4 [0, 3, 5, 7, 10, 11, 12]) (.after (.reg [(true, 16), (false, 1)] []) [0, 3, 5, 10, 11, 12]))))) [0, 3, 5, 10, 11, 12]) (r 2 [0, 3, 5, 10, 11, 12]))))
def hint99 : Hint :=
  .seq (.after (.reg [(false, 2)] [0]) [0, 3]) (.seq (r 2 [0, 3, 5]) (.seq (.seq (r 4 [0, 3, 5, 10, 11, 12]) (.after (.block (.loop hint99L0)) [])) (.seq (r 1 [4]) (l [4]))))
def hint100L0 : Hint :=
  .live [0, 3, 11, 12, 13] (.seq (r 1 [0, 3, 11, 12, 13, 14]) (.seq (.after (.cond (.leaf) (l [])) [0, 3, 11, 12, 13]) (.seq (.after (.block (.seq (.after (.reg [(false, 4)] [2]) [0, 3, 6, 11, 12, 13]) (.seq (.after (.reg [(false, 9)] [7]) [0, 3, 6, 7, 11, 12, 13]) (.seq (.seq (.after (.reg [(true, 11), (false, 1)] [9]) [0, 3, 6, 7, 9, 11, 12, 13]) (.seq (r 7 [0, 3, 6, 7, 11, 12, 13, 39]) (.after (.cond (.seq (r 1 [4]) (l [4])) (.leaf)) [0, 3, 6, 7, 11, 12, 13]))) (.after (.reg [(true, 10), (false, 1)] []) [0, 3, 11, 12, 13]))))) [0, 3, 11, 12, 13]) (r 2 [0, 3, 11, 12, 13]))))
def hint100 : Hint :=
  .seq (.after (.reg [(false, 2)] [0]) [0, 3]) (.seq (.seq (r 4 [0, 3, 11, 12, 13]) (.after (.block (.loop hint100L0)) [])) (.seq (r 1 [4]) (l [4])))
def hint103 : Hint :=
  .seq (r 1 [0, 1]) (.seq (r 8 [0, 5, 6]) (.seq (r 8 [4]) (l [4])))
def hint104L0 : Hint :=
  .live [3, 56, 57, 58, 124, 125, 126, 148, 149, 150] (.seq (r 1 [3, 56, 57, 58, 124, 125, 126, 148, 149, 150, 151]) (.seq (.after (.cond (.leaf) (l [3, 56, 57, 58, 124, 125, 126])) [3, 56, 57, 58, 124, 125, 126, 148, 149, 150]) (.seq (.after (.block (.seq (r 3 [3, 15, 56, 57, 58, 124, 125, 126, 148, 149, 150]) (r 6 [3, 56, 57, 58, 124, 125, 126, 148, 149, 150]))) [3, 56, 57, 58, 124, 125, 126, 148, 149, 150]) (r 2 [3, 56, 57, 58, 124, 125, 126, 148, 149, 150]))))
def hint104L1 : Hint :=
  .live [3, 56, 57, 58, 124, 125, 126] (.seq (r 1 [3, 56, 57, 58, 124, 125, 126, 127]) (.seq (.after (.cond (.leaf) (l [3, 56, 57, 58])) [3, 56, 57, 58, 124, 125, 126]) (.seq (.after (.block (.seq (.after (.reg [(false, 4)] [2]) [3, 13, 56, 57, 58, 124, 125, 126]) (.seq (r 11 [3, 13, 56, 57, 58, 124, 125, 126]) (.seq (.seq (r 2 [3, 13, 56, 57, 58, 124, 125, 126, 141]) (.after (.cond (.seq (r 1 [2]) (l [2])) (.leaf)) [3, 13, 56, 57, 58, 124, 125, 126])) (.seq (.after (.reg [(true, 9)] []) [3, 56, 57, 58, 124, 125, 126, 148, 149, 150]) (.after (.block (.loop hint104L0)) [3, 56, 57, 58, 124, 125, 126])))))) [3, 56, 57, 58, 124, 125, 126]) (r 2 [3, 56, 57, 58, 124, 125, 126]))))
def hint104L2 : Hint :=
  .live [3, 7, 56, 57, 58, 110, 111, 112] (.seq (r 1 [3, 7, 56, 57, 58, 110, 111, 112, 113]) (.seq (.after (.cond (.leaf) (l [3, 7, 56, 57, 58])) [3, 7, 56, 57, 58, 110, 111, 112]) (.seq (.after (.block (.seq (.after (.reg [(false, 4)] [2]) [3, 7, 11, 56, 57, 58, 110, 111, 112]) (r 7 [3, 7, 56, 57, 58, 110, 111, 112]))) [3, 7, 56, 57, 58, 110, 111, 112]) (r 2 [3, 7, 56, 57, 58, 110, 111, 112]))))
def hint104L3 : Hint :=
  .live [3, 7, 56, 57, 58, 84, 85, 86] (.seq (r 1 [3, 7, 56, 57, 58, 84, 85, 86, 87]) (.seq (.after (.cond (.leaf) (l [3, 7, 56, 57, 58])) [3, 7, 56, 57, 58, 84, 85, 86]) (.seq (.after (.block (.seq (.after (.reg [(false, 4)] [2]) [3, 7, 9, 56, 57, 58, 84, 85, 86]) (r 19 [3, 7, 56, 57, 58, 84, 85, 86]))) [3, 7, 56, 57, 58, 84, 85, 86]) (r 2 [3, 7, 56, 57, 58, 84, 85, 86]))))
def hint104L4 : Hint :=
  .live [3, 56, 57, 58] (.seq (r 1 [3, 56, 57, 58, 59]) (.seq (.after (.cond (.leaf) (l [3])) [3, 56, 57, 58]) (.seq (.after (.block (.seq (.after (.reg [(false, 4)] [2]) [3, 7, 56, 57, 58]) (.seq (r 20 [3, 7, 56, 57, 58]) (.seq (.seq (r 2 [3, 7, 56, 57, 58, 82]) (.after (.cond (.seq (r 1 [2]) (l [2])) (.leaf)) [3, 7, 56, 57, 58])) (.seq (.seq (r 4 [3, 7, 56, 57, 58, 84, 85, 86]) (.after (.block (.loop hint104L3)) [3, 7, 56, 57, 58])) (.seq (.seq (r 4 [3, 7, 56, 57, 58, 110, 111, 112]) (.after (.block (.loop hint104L2)) [3, 7, 56, 57, 58])) (.seq (.seq (r 4 [3, 56, 57, 58, 124, 125, 126]) (.after (.block (.loop hint104L1)) [3, 56, 57, 58])) (.seq (r 2 [3, 56, 57, 58, 162]) (.after (.cond (.seq (r 1 [2]) (l [2])) (.leaf)) [3, 56, 57, 58]))))))))) [3, 56, 57, 58]) (r 2 [3, 56, 57, 58]))))
def hint104L5 : Hint :=
  .live [1, 3, 37, 38, 39] (.seq (r 1 [1, 3, 37, 38, 39, 40]) (.seq (.after (.cond (.leaf) (l [1, 3])) [1, 3, 37, 38, 39]) (.seq (.after (.block (.seq (.after (.reg [(false, 4)] [2]) [1, 3, 5, 37, 38, 39]) (r 12 [1, 3, 37, 38, 39]))) [1, 3, 37, 38, 39]) (r 2 [1, 3, 37, 38, 39]))))
def hint104 : Hint :=
  .seq (.after (.reg [(false, 2)] [0]) [1]) (.seq (.seq (r 20 [1, 35]) (.after (.cond (.seq (r 1 [2]) (l [2])) (.leaf)) [1])) (.seq (r 1 [1, 3]) (.seq (.seq (r 4 [1, 3, 37, 38, 39]) (.after (.block (.loop hint104L5)) [1, 3])) (.seq (.seq (r 4 [3, 56, 57, 58]) (.after (.block (.loop hint104L4)) [3])) (.seq (r 3 [2]) (l [2]))))))
def hint105L0 : Hint :=
  .live [8, 9, 10] (.seq (r 1 [8, 9, 10, 11]) (.seq (.after (.cond (.leaf) (l [])) [8, 9, 10]) (.seq (.after (.block (.seq (.after (.reg [(false, 4)] [2]) [4, 8, 9, 10]) (.seq (r 3 [8, 9, 10, 16]) (.after (.cond (.seq (r 1 [2]) (l [2])) (.leaf)) [8, 9, 10])))) [8, 9, 10]) (r 2 [8, 9, 10]))))
def hint105 : Hint :=
  .seq (r 1 [0]) (.seq (.seq (r 3 [0, 7]) (.after (.cond (.seq (r 1 [2]) (l [2])) (.leaf)) [0])) (.seq (.seq (r 3 [8, 9, 10]) (.after (.block (.loop hint105L0)) [])) (.seq (r 1 [2]) (l [2]))))
def hint106L0 : Hint :=
  .live [0, 3, 11, 91, 92, 93, 106, 107, 108] (.seq (r 1 [0, 3, 11, 91, 92, 93, 106, 107, 108, 109]) (.seq (.after (.cond (.leaf) (l [0, 3, 91, 92, 93])) [0, 3, 11, 91, 92, 93, 106, 107, 108]) (.seq (.after (.block (.seq (.after (.reg [(false, 4)] [2]) [0, 3, 11, 13, 91, 92, 93, 106, 107, 108]) (.seq (r 12 [0, 3, 11, 91, 92, 93, 106, 107, 108, 123]) (.after (.cond (.seq (r 1 [4]) (l [4])) (.leaf)) [0, 3, 11, 91, 92, 93, 106, 107, 108])))) [0, 3, 11, 91, 92, 93, 106, 107, 108]) (r 2 [0, 3, 11, 91, 92, 93, 106, 107, 108]))))
def hint106L1 : Hint :=
  .live [0, 3, 91, 92, 93] (.seq (r 1 [0, 3, 91, 92, 93, 94]) (.seq (.after (.cond (.leaf) (l [])) [0, 3, 91, 92, 93]) (.seq (.after (.block (.seq (.after (.reg [(false, 6)] [3]) [0, 3, 10, 11, 91, 92, 93]) (.seq (.seq (r 5 [0, 3, 10, 11, 91, 92, 93, 102]) (.after (.cond (.seq (r 1 [4]) (l [4])) (.leaf)) [0, 3, 10, 11, 91, 92, 93])) (.seq (r 6 [0, 3, 11, 91, 92, 93, 106, 107, 108]) (.after (.block (.loop hint106L0)) [0, 3, 91, 92, 93]))))) [0, 3, 91, 92, 93]) (r 2 [0, 3, 91, 92, 93]))))
def hint106L2 : Hint :=
  .live [0, 3, 7, 50, 51, 52, 77, 78, 79] (.seq (r 1 [0, 3, 7, 50, 51, 52, 77, 78, 79, 80]) (.seq (.after (.cond (.leaf) (l [0, 3, 50, 51, 52])) [0, 3, 7, 50, 51, 52, 77, 78, 79]) (.seq (.after (.block (.seq (.after (.reg [(false, 4)] [2]) [0, 3, 7, 9, 50, 51, 52, 77, 78, 79]) (.seq (r 5 [0, 3, 7, 50, 51, 52, 77, 78, 79, 87]) (.after (.cond (.seq (r 1 [4]) (l [4])) (.leaf)) [0, 3, 7, 50, 51, 52, 77, 78, 79])))) [0, 3, 7, 50, 51, 52, 77, 78, 79]) (r 2 [0, 3, 7, 50, 51, 52, 77, 78, 79]))))
def hint106L3 : Hint :=
  .live [0, 3, 50, 51, 52] (.seq (r 1 [0, 3, 50, 51, 52, 53]) (.seq (.after (.cond (.leaf) (l [0, 3])) [0, 3, 50, 51, 52]) (.seq (.after (.block (.seq (.after (.reg [(false, 6)] [3]) [0, 3, 6, 7, 50, 51, 52]) (.seq (.seq (r 17 [0, 3, 6, 7, 50, 51, 52, 73]) (.after (.cond (.seq (r 1 [4]) (l [4])) (.leaf)) [0, 3, 6, 7, 50, 51, 52])) (.seq (r 6 [0, 3, 7, 50, 51, 52, 77, 78, 79]) (.after (.block (.loop hint106L2)) [0, 3, 50, 51, 52]))))) [0, 3, 50, 51, 52]) (r 2 [0, 3, 50, 51, 52]))))
def hint106 : Hint :=
  .seq (.after (.reg [(false, 2)] [0]) [0, 3]) (.seq (r 5 [0, 3, 5]) (.seq (.seq (r 31 [0, 3, 48]) (.after (.cond (.seq (r 1 [4]) (l [4])) (.leaf)) [0, 3])) (.seq (.seq (r 4 [0, 3, 50, 51, 52]) (.after (.block (.loop hint106L3)) [0, 3])) (.seq (.seq (r 4 [0, 3, 91, 92, 93]) (.after (.block (.loop hint106L1)) [])) (.seq (r 1 [4]) (l [4]))))))
def hint107L0 : Hint :=
  .live [4, 39, 40, 41] (.seq (r 1 [4, 39, 40, 41, 42]) (.seq (.after (.cond (.leaf) (l [4])) [4, 39, 40, 41]) (.seq (.after (.block (.seq (.after (.reg [(false, 4)] [2]) [4, 10, 39, 40, 41]) (.seq (r 4 [4, 39, 40, 41, 48]) (.after (.cond (.seq (r 2 [2, 3]) (l [2, 3])) (.leaf)) [4, 39, 40, 41])))) [4, 39, 40, 41]) (r 2 [4, 39, 40, 41]))))
def hint107L1 : Hint :=
  .live [0, 4, 6, 17, 18, 19, 26, 27, 28] (.seq (r 1 [0, 4, 6, 17, 18, 19, 26, 27, 28, 29]) (.seq (.after (.cond (.leaf) (l [0, 4, 17, 18, 19])) [0, 4, 6, 17, 18, 19, 26, 27, 28]) (.seq (.after (.block (.seq (.after (.reg [(false, 4)] [2]) [0, 4, 6, 8, 17, 18, 19, 26, 27, 28]) (.seq (r 5 [0, 4, 6, 17, 18, 19, 26, 27, 28, 36]) (.after (.cond (.seq (r 2 [2, 3]) (l [2, 3])) (.leaf)) [0, 4, 6, 17, 18, 19, 26, 27, 28])))) [0, 4, 6, 17, 18, 19, 26, 27, 28]) (r 2 [0, 4, 6, 17, 18, 19, 26, 27, 28]))))
def hint107L2 : Hint :=
  .live [0, 4, 17, 18, 19] (.seq (r 1 [0, 4, 17, 18, 19, 20]) (.seq (.after (.cond (.leaf) (l [0, 4])) [0, 4, 17, 18, 19]) (.seq (.after (.block (.seq (.after (.reg [(false, 6)] [3]) [0, 4, 5, 6, 17, 18, 19]) (.seq (r 5 [0, 4, 6, 17, 18, 19, 26, 27, 28]) (.after (.block (.loop hint107L1)) [0, 4, 17, 18, 19])))) [0, 4, 17, 18, 19]) (r 2 [0, 4, 17, 18, 19]))))
def hint107 : Hint :=
  .seq (r 2 [0]) (.seq (r 4 [0, 4]) (.seq (.seq (r 3 [0, 4, 16]) (.after (.cond (.seq (r 2 [2, 3]) (l [2, 3])) (.leaf)) [0, 4])) (.seq (.seq (r 3 [0, 4, 17, 18, 19]) (.after (.block (.loop hint107L2)) [0, 4])) (.seq (.seq (r 3 [4, 39, 40, 41]) (.after (.block (.loop hint107L0)) [4])) (.seq (r 3 [2, 3]) (l [2, 3]))))))
def hint108L0 : Hint :=
  .live [2, 19, 20, 21] (.seq (r 1 [2, 19, 20, 21, 22]) (.seq (.after (.cond (.leaf) (l [2])) [2, 19, 20, 21]) (.seq (.after (.block (.seq (r 3 [2, 4, 19, 20, 21]) (r 6 [2, 19, 20, 21]))) [2, 19, 20, 21]) (r 2 [2, 19, 20, 21]))))
def hint108 : Hint :=
  .seq (r 1 []) (.seq (.after (.reg [(false, 12)] [10]) [1]) (.seq (r 5 [2]) (.seq (.seq (r 3 [2, 19, 20, 21]) (.after (.block (.loop hint108L0)) [2])) (.seq (r 2 [0]) (l [0])))))
def rhint323a : Hint :=
  r 1 [4, 5, 6, 7, 8]
def rhint323b : Hint :=
  .after (.block (.seq (.after (.reg [(false, 14)] [11]) [6, 7, 9, 10]) (.seq (r 1 [6, 7, 9, 27]) (.after (.cond (.seq (r 3 []) (l [])) (.leaf)) [])))) []
def hint109 : Hint :=
  .seq (r 4 [0, 4, 5, 6, 7]) (.seq (.seq (r 4 [4, 5, 6, 7, 14]) (.after (.block (.after (.rangeFunc 323 [4, 5, 6, 7] rhint323a rhint323b) [6, 7])) [6, 7])) (.seq (r 3 [6, 7]) (l [6, 7])))
def hint110 : Hint :=
  .seq (.after (.reg [(false, 2)] [0]) [0, 1, 2, 3, 8]) (.seq (.seq (r 2 [0, 1, 2, 3, 8, 11]) (.after (.cond (.seq (r 3 [8, 9]) (l [8, 9])) (.leaf)) [0, 1, 2, 3, 8])) (.seq (r 14 [8, 9]) (l [8, 9])))
def hint111L0 : Hint :=
  .live [2, 3, 8, 11, 16, 17, 18, 23, 24, 25] (.seq (r 1 [2, 3, 8, 11, 16, 17, 18, 23, 24, 25, 26]) (.seq (.after (.cond (.leaf) (l [2, 3, 8, 16, 17, 18])) [2, 3, 8, 11, 16, 17, 18, 23, 24, 25]) (.seq (.after (.block (.seq (.after (.reg [(false, 4)] [2]) [2, 3, 8, 11, 13, 16, 17, 18, 23, 24, 25]) (.seq (r 10 [2, 3, 8, 11, 13, 16, 17, 18, 23, 24, 25, 38]) (.after (.cond (.seq (r 7 [8, 9]) (l [8, 9])) (.leaf)) [2, 3, 8, 11, 16, 17, 18, 23, 24, 25])))) [2, 3, 8, 11, 16, 17, 18, 23, 24, 25]) (r 2 [2, 3, 8, 11, 16, 17, 18, 23, 24, 25]))))
def hint111L1 : Hint :=
  .live [2, 3, 8, 16, 17, 18] (.seq (r 1 [2, 3, 8, 16, 17, 18, 19]) (.seq (.after (.cond (.leaf) (l [8])) [2, 3, 8, 16, 17, 18]) (.seq (.after (.block (.seq (.after (.reg [(false, 4)] [2]) [2, 3, 8, 11, 16, 17, 18]) (.seq (r 4 [2, 3, 8, 11, 16, 17, 18, 23, 24, 25]) (.after (.block (.loop hint111L0)) [2, 3, 8, 16, 17, 18])))) [2, 3, 8, 16, 17, 18]) (r 2 [2, 3, 8, 16, 17, 18]))))
def hint111 : Hint :=
  .seq (.after (.reg [(false, 2)] [0]) [0, 1, 2, 3, 8]) (.seq (.seq (r 5 [2, 3, 8, 16, 17, 18]) (.after (.block (.loop hint111L1)) [8])) (.seq (r 3 [8, 9]) (l [8, 9])))
def hint112L0 : Hint :=
  .live [0, 5, 6, 7] (.seq (.seq (r 8 [0, 5, 6, 21]) (.after (.cond (.leaf) (l [5])) [0, 5, 6])) (.seq (.after (.block (r 5 [0, 5, 6])) [0, 5, 6]) (.seq (.seq (r 1 [0, 5, 33]) (.after (.reg [(false, 2)] [0]) [0, 5, 6])) (r 9 [0, 5, 6, 7]))))
def hint112 : Hint :=
  .seq (r 1 [0, 1]) (.seq (r 1 [0, 1, 5]) (.seq (.seq (.after (.reg [(false, 9)] [6]) [0, 5, 6, 7]) (.after (.block (.loop hint112L0)) [5])) (.seq (r 2 [4]) (l [4]))))
def hint113 : Hint :=
  .seq (.after (.reg [(false, 2)] [0]) [0, 1, 2, 3, 8]) (.seq (.seq (r 2 [0, 1, 2, 3, 8, 11]) (.after (.cond (.seq (r 3 [8, 9]) (l [8, 9])) (.leaf)) [0, 1, 2, 3, 8])) (.seq (r 14 [8, 9]) (l [8, 9])))
def hint114L0 : Hint :=
  .live [2, 3, 8, 11, 16, 17, 18, 23, 24, 25] (.seq (r 1 [2, 3, 8, 11, 16, 17, 18, 23, 24, 25, 26]) (.seq (.after (.cond (.leaf) (l [2, 3, 8, 16, 17, 18])) [2, 3, 8, 11, 16, 17, 18, 23, 24, 25]) (.seq (.after (.block (.seq (.after (.reg [(false, 4)] [2]) [2, 3, 8, 11, 13, 16, 17, 18, 23, 24, 25]) (.seq (r 10 [2, 3, 8, 11, 13, 16, 17, 18, 23, 24, 25, 38]) (.after (.cond (.seq (r 7 [8, 9]) (l [8, 9])) (.leaf)) [2, 3, 8, 11, 16, 17, 18, 23, 24, 25])))) [2, 3, 8, 11, 16, 17, 18, 23, 24, 25]) (r 2 [2, 3, 8, 11, 16, 17, 18, 23, 24, 25]))))
def hint114L1 : Hint :=
  .live [2, 3, 8, 16, 17, 18] (.seq (r 1 [2, 3, 8, 16, 17, 18, 19]) (.seq (.after (.cond (.leaf) (l [8])) [2, 3, 8, 16, 17, 18]) (.seq (.after (.block (.seq (.after (.reg [(false, 4)] [2]) [2, 3, 8, 11, 16, 17, 18]) (.seq (r 4 [2, 3, 8, 11, 16, 17, 18, 23, 24, 25]) (.after (.block (.loop hint114L0)) [2, 3, 8, 16, 17, 18])))) [2, 3, 8, 16, 17, 18]) (r 2 [2, 3, 8, 16, 17, 18]))))
def hint114 : Hint :=
  .seq (.after (.reg [(false, 2)] [0]) [0, 1, 2, 3, 8]) (.seq (.seq (r 5 [2, 3, 8, 16, 17, 18]) (.after (.block (.loop hint114L1)) [8])) (.seq (r 3 [8, 9]) (l [8, 9])))
def hint115 : Hint :=
  .seq (.after (.reg [(false, 1)] [0]) [0, 1, 4]) (.seq (r 4 [4]) (l [4]))
def hint137 : Hint :=
  .seq (r 2 [0, 1]) (.seq (.seq (r 4 [0, 1, 9]) (.after (.cond (.seq (r 3 [4, 5]) (l [4, 5])) (.leaf)) [0, 1])) (.seq (r 6 [4, 5]) (l [4, 5])))
def hint138 : Hint :=
  .seq (r 3 [0, 1]) (.seq (r 9 [4, 5, 6]) (l [4, 5, 6]))
def hint139 : Hint :=
  .seq (r 1 [0, 1]) (.seq (.seq (r 6 [0, 1, 12]) (.after (.cond (.seq (r 2 [4]) (l [4])) (.leaf)) [0, 1])) (.seq (.seq (r 8 [0, 1, 21]) (.after (.cond (.seq (r 5 [4]) (l [4])) (.leaf)) [0, 1])) (.seq (.seq (r 8 [0, 1, 5, 6]) (.seq (r 1 [0, 1, 5, 31]) (.after (.cond (.seq (r 3 [4]) (l [4])) (.leaf)) [0, 1]))) (.seq (r 4 [4]) (l [4])))))
def hint140 : Hint :=
  .seq (r 1 [0, 1]) (.seq (r 14 [4]) (l [4]))
def hint141 : Hint :=
  .seq (r 1 [0, 1]) (.seq (r 17 [4]) (l [4]))
def hint142L0 : Hint :=
  .live [0, 1, 7, 8] (.seq (r 1 [0, 1, 7, 8, 9]) (.seq (.after (.cond (.leaf) (l [])) [0, 1, 7, 8]) (.seq (.after (.block (.seq (r 2 [0, 1, 5, 7, 8]) (.seq (r 6 [0, 1, 5, 7, 8, 16]) (.after (.cond (.seq (r 2 [4]) (l [4])) (.leaf)) [0, 1, 7, 8])))) [0, 1, 7, 8]) (r 2 [0, 1, 7, 8]))))
def hint142 : Hint :=
  .seq (r 1 [0, 1]) (.seq (.seq (r 3 [0, 1, 7, 8]) (.after (.block (.loop hint142L0)) [])) (.seq (r 1 [4]) (l [4])))
def hint143L0 : Hint :=
  .live [0, 1, 2, 3, 9, 10] (.seq (.seq (r 3 [0, 1, 2, 3, 9, 10, 36]) (.after (.cond (.leaf) (l [0, 9, 10])) [0, 1, 2, 3, 9, 10])) (.after (.block (.seq (r 4 [0, 1, 2, 3, 9, 10, 11]) (.seq (.seq (r 2 [0, 1, 2, 3, 9, 10, 11, 41]) (.after (.cond (l [0, 9, 10]) (.leaf)) [0, 1, 2, 3, 9, 10, 11])) (.seq (r 9 [0, 1, 2, 3, 9, 10, 11]) (.seq (r 7 [0, 1, 2, 3, 9, 10]) (r 3 [0, 1, 2, 3, 9, 10])))))) [0, 1, 2, 3, 9, 10]))
def hint143 : Hint :=
  .seq (r 1 [0, 1, 2, 3]) (.seq (.seq (r 2 [0, 1, 2, 3, 13]) (.after (.cond (.seq (r 1 [8]) (l [8])) (.leaf)) [0, 1, 2, 3])) (.seq (.seq (r 2 [0, 1, 2, 3, 15]) (.after (.cond (.seq (r 4 [8]) (l [8])) (.leaf)) [0, 1, 2, 3])) (.seq (.seq (r 2 [0, 1, 2, 3, 20]) (.after (.cond (r 5 [0, 1, 2, 3]) (.leaf)) [0, 1, 2, 3])) (.seq (r 6 [0, 1, 2, 3]) (.seq (r 3 [0, 1, 2, 3, 9]) (.seq (r 3 [0, 1, 2, 3, 9]) (.seq (r 1 [0, 1, 2, 3, 9, 10]) (.seq (.after (.block (.loop hint143L0)) [0, 9, 10]) (.seq (r 5 [9, 10]) (.seq (r 5 [8]) (l [8])))))))))))
def hint144 : Hint :=
  .seq (r 1 [0]) (.seq (r 1 [0, 3]) (.seq (r 10 [2]) (l [2])))
def hint145 : Hint :=
  .seq (r 1 [0, 1]) (.seq (r 5 [4]) (l [4]))
def hint146 : Hint :=
  .seq (r 1 [0]) (.seq (.after (.block (.seq (.seq (r 7 [0, 3]) (.after (.cond (.leaf) (.seq (r 7 [0, 3]) (.after (.cond (.leaf) (.seq (r 7 [0, 3]) (.after (.cond (.leaf) (.seq (r 3 [0, 3]) (.after (.cond (.leaf) (r 3 [3])) [3]))) [3]))) [3]))) [3])) (.after (.cond (.seq (r 1 [2]) (l [2])) (.leaf)) []))) []) (.seq (r 1 [2]) (l [2])))
def hint155L0 : Hint :=
  .live [0, 1, 2, 10, 11] (.seq (r 1 [0, 1, 2, 10, 11, 12]) (.seq (.after (.cond (.leaf) (l [])) [0, 1, 2, 10, 11]) (.seq (.after (.block (.seq (.after (.reg [(true, 5), (false, 2), (true, 3), (false, 1)] []) [0, 1, 2, 4, 5, 10, 11]) (.seq (.seq (r 8 [0, 1, 2, 4, 10, 11, 29]) (.after (.cond (l []) (.leaf)) [0, 1, 2, 4, 10, 11])) (r 2 [0, 1, 2, 10, 11])))) [0, 1, 2, 10, 11]) (r 2 [0, 1, 2, 10, 11]))))
def hint155 : Hint :=
  .seq (r 6 [0, 1, 2, 10, 11]) (.after (.block (.loop hint155L0)) [])
def hint156 : Hint :=
  .seq (r 3 [2, 3]) (.seq (r 2 [4]) (l [4]))
def hint157L0 : Hint :=
  .live [5, 77, 78, 79, 84, 85, 86] (.seq (r 1 [5, 77, 78, 79, 84, 85, 86, 87]) (.seq (.after (.cond (.leaf) (l [5, 77, 78, 79])) [5, 77, 78, 79, 84, 85, 86]) (.seq (.after (.block (.seq (.after (.reg [(false, 4)] [2]) [5, 19, 77, 78, 79, 84, 85, 86]) (.seq (r 19 [5, 77, 78, 79, 84, 85, 86, 108]) (.after (.cond (.seq (r 1 [6]) (l [6])) (.leaf)) [5, 77, 78, 79, 84, 85, 86])))) [5, 77, 78, 79, 84, 85, 86]) (r 2 [5, 77, 78, 79, 84, 85, 86]))))
def hint157L1 : Hint :=
  .live [5, 77, 78, 79] (.seq (r 1 [5, 77, 78, 79, 80]) (.seq (.after (.cond (.leaf) (l [])) [5, 77, 78, 79]) (.seq (.after (.block (.seq (.after (.reg [(false, 4)] [2]) [5, 17, 77, 78, 79]) (.seq (r 4 [5, 77, 78, 79, 84, 85, 86]) (.after (.block (.loop hint157L0)) [5, 77, 78, 79])))) [5, 77, 78, 79]) (r 2 [5, 77, 78, 79]))))
def hint157L2 : Hint :=
  .live [0, 4, 5, 53, 54, 55] (.seq (r 1 [0, 4, 5, 53, 54, 55, 56]) (.seq (.after (.cond (.leaf) (l [0, 4, 5])) [0, 4, 5, 53, 54, 55]) (.seq (.after (.block (.seq (.after (.reg [(false, 4)] [2]) [0, 4, 5, 13, 53, 54, 55]) (.seq (.after (.reg [(false, 10)] [7]) [0, 4, 5, 13, 15, 53, 54, 55]) (.seq (r 7 [0, 4, 5, 53, 54, 55, 72]) (.after (.cond (.seq (r 1 [6]) (l [6])) (.leaf)) [0, 4, 5, 53, 54, 55]))))) [0, 4, 5, 53, 54, 55]) (r 2 [0, 4, 5, 53, 54, 55]))))
def hint157L3 : Hint :=
  .live [0, 4, 5, 41, 42, 43] (.seq (r 1 [0, 4, 5, 41, 42, 43, 44]) (.seq (.after (.cond (.leaf) (l [0, 4, 5])) [0, 4, 5, 41, 42, 43]) (.seq (.after (.block (.seq (r 3 [0, 4, 5, 11, 41, 42, 43]) (.seq (r 4 [0, 4, 5, 41, 42, 43, 50]) (.after (.cond (.seq (r 1 [6]) (l [6])) (.leaf)) [0, 4, 5, 41, 42, 43])))) [0, 4, 5, 41, 42, 43]) (r 2 [0, 4, 5, 41, 42, 43]))))
def hint157 : Hint :=
  .seq (.after (.reg [(false, 3)] [0, 1]) [0, 4, 5]) (.seq (r 10 [0, 4, 5, 7, 8, 9]) (.seq (.seq (r 14 [0, 4, 5, 7, 40]) (.after (.cond (.seq (r 1 [6]) (l [6])) (.leaf)) [0, 4, 5, 7])) (.seq (.seq (r 3 [0, 4, 5, 41, 42, 43]) (.after (.block (.loop hint157L3)) [0, 4, 5])) (.seq (.seq (r 4 [0, 4, 5, 53, 54, 55]) (.after (.block (.loop hint157L2)) [0, 4, 5])) (.seq (.seq (r 6 [5, 77, 78, 79]) (.after (.block (.loop hint157L1)) [])) (.seq (r 1 [6]) (l [6])))))))
def hint158L0 : Hint :=
  .live [0, 3] (.seq (.seq (r 4 [0, 3, 7]) (.after (.cond (.leaf) (l [0])) [0, 3])) (.seq (.after (.block (.seq (r 4 [0, 3, 13]) (.after (.cond (.seq (r 1 [2]) (l [2])) (.leaf)) [0, 3]))) [0, 3]) (r 3 [0, 3])))
def hint158 : Hint :=
  .seq (r 1 [0]) (.seq (.seq (r 1 [0, 3]) (.after (.block (.loop hint158L0)) [0])) (.seq (r 3 [2]) (l [2])))
def hint159L0 : Hint :=
  .live [0, 1] (.seq (.seq (r 7 [0, 1, 15]) (.after (.cond (.leaf) (l [0, 1])) [0, 1])) (.after (.block (r 3 [0, 1])) [0, 1]))
def hint159 : Hint :=
  .seq (r 1 [0, 1]) (.seq (.after (.block (.loop hint159L0)) [0, 1]) (.seq (r 7 [0, 5, 6]) (.seq (.after (.reg [(false, 9)] [6]) [6, 8]) (.seq (r 6 [4]) (l [4])))))
def hint160L0 : Hint :=
  .live [1, 4, 8, 9, 10] (.seq (r 1 [1, 4, 8, 9, 10, 11]) (.seq (.after (.cond (.leaf) (l [4])) [1, 4, 8, 9, 10]) (.seq (.after (.block (.seq (.after (.reg [(false, 4)] [2]) [1, 4, 7, 8, 9, 10]) (.seq (r 4 [1, 4, 7, 8, 9, 10, 17]) (.after (.cond (.seq (r 3 [4, 5]) (l [4, 5])) (.leaf)) [1, 4, 8, 9, 10])))) [1, 4, 8, 9, 10]) (r 2 [1, 4, 8, 9, 10]))))
def hint160 : Hint :=
  .seq (.after (.reg [(false, 2)] [0]) [0, 1, 4]) (.seq (.seq (r 3 [1, 4, 8, 9, 10]) (.after (.block (.loop hint160L0)) [4])) (.seq (r 3 [4, 5]) (l [4, 5])))
def hint171L0 : Hint :=
  .live [0, 1] (.seq (.seq (r 9 [0, 1, 13]) (.after (.cond (.leaf) (l [0])) [0, 1])) (.after (.block (r 3 [0, 1])) [0, 1]))
def hint171 : Hint :=
  .seq (r 1 [0, 1]) (.seq (.after (.block (.loop hint171L0)) [0]) (.seq (r 2 [4]) (l [4])))
def hint172 : Hint :=
  .seq (r 3 [0, 1]) (.seq (.seq (r 4 [0, 1, 7]) (.seq (r 2 [0, 1, 7, 12]) (.after (.cond (.seq (.after (.reg [(true, 10), (false, 2)] []) [4, 5, 6]) (l [4, 5, 6])) (.leaf)) [0]))) (.seq (r 4 [4, 5, 6]) (l [4, 5, 6])))
def hint173 : Hint :=
  .seq (r 1 [0, 1]) (.seq (r 4 [4]) (l [4]))
def hint174L0 : Hint :=
  .live [0, 1, 5] (.after (.block (.seq (r 4 [0, 1, 5, 6]) (.seq (.seq (r 2 [0, 1, 5, 6, 24]) (.after (.cond (.seq (r 2 [4]) (l [4])) (.leaf)) [0, 1, 5, 6])) (.seq (r 3 [0, 1, 5, 6]) (r 7 [0, 1, 5]))))) [0, 1, 5])
def hint174 : Hint :=
  .seq (r 1 [0, 1]) (.seq (.seq (r 3 [0, 1, 9]) (.after (.cond (.seq (r 4 [4]) (l [4])) (.leaf)) [0, 1])) (.seq (.seq (r 3 [0, 1, 15]) (.after (.cond (.seq (r 5 [4]) (l [4])) (.leaf)) [0, 1])) (.seq (r 1 [0, 1, 5]) (.after (.block (.loop hint174L0)) [4]))))
def hint176L0 : Hint :=
  .live [0, 1, 7, 8] (.seq (r 1 [0, 1, 7, 8, 9]) (.seq (.after (.cond (.leaf) (l [])) [0, 1, 7, 8]) (.seq (.after (.block (.seq (r 2 [0, 1, 5, 7, 8]) (.seq (r 6 [0, 1, 5, 7, 8, 16]) (.after (.cond (.seq (r 2 [4]) (l [4])) (.leaf)) [0, 1, 7, 8])))) [0, 1, 7, 8]) (r 2 [0, 1, 7, 8]))))
def hint176 : Hint :=
  .seq (r 1 [0, 1]) (.seq (.seq (r 3 [0, 1, 7, 8]) (.after (.block (.loop hint176L0)) [])) (.seq (r 1 [4]) (l [4])))
def hint179 : Hint :=
  .seq (.after (.reg [(false, 1)] [0]) [0]) (.seq (r 10 [0]) (l [0]))
def hint180 : Hint :=
  .seq (r 1 [0, 1]) (.seq (r 5 [4]) (l [4]))
def hint181 : Hint :=
  .seq (r 1 [0]) (.seq (r 8 [2]) (l [2]))
def hint182L0 : Hint :=
  .live [0, 42, 43, 44] (.seq (r 1 [0, 42, 43, 44, 45]) (.seq (.after (.cond (.leaf) (l [])) [0, 42, 43, 44]) (.seq (.after (.block (.seq (.after (.reg [(false, 4)] [2]) [0, 11, 42, 43, 44]) (.seq (r 10 [0, 42, 43, 44, 57]) (.after (.cond (.seq (r 1 [4]) (l [4])) (.leaf)) [0, 42, 43, 44])))) [0, 42, 43, 44]) (r 2 [0, 42, 43, 44]))))
def hint182L1 : Hint :=
  .live [0, 3, 30, 31, 32] (.seq (r 1 [0, 3, 30, 31, 32, 33]) (.seq (.after (.cond (.leaf) (l [0, 3])) [0, 3, 30, 31, 32]) (.seq (.after (.block (.seq (r 3 [0, 3, 9, 30, 31, 32]) (.seq (r 4 [0, 3, 30, 31, 32, 39]) (.after (.cond (.seq (r 1 [4]) (l [4])) (.leaf)) [0, 3, 30, 31, 32])))) [0, 3, 30, 31, 32]) (r 2 [0, 3, 30, 31, 32]))))
def hint182 : Hint :=
  .seq (.after (.reg [(false, 2)] [0]) [0, 3]) (.seq (r 10 [0, 3, 5, 6, 7]) (.seq (.seq (r 8 [0, 3, 5, 6, 26]) (.after (.cond (.seq (r 1 [4]) (l [4])) (.leaf)) [0, 3, 5, 6])) (.seq (.seq (r 6 [0, 3, 30, 31, 32]) (.after (.block (.loop hint182L1)) [0, 3])) (.seq (.seq (r 4 [0, 42, 43, 44]) (.after (.block (.loop hint182L0)) [])) (.seq (r 1 [4]) (l [4]))))))
def hint205L0 : Hint :=
  .live [0, 1, 5, 6, 7, 8, 9, 10] (.seq (.seq (r 3 [0, 1, 5, 6, 7, 8, 9, 10, 59]) (.after (.cond (.leaf) (l [])) [0, 1, 5, 6, 7, 8, 9, 10])) (.after (.block (.seq (.seq (r 5 [0, 1, 5, 6, 7, 8, 9, 10, 64]) (.after (.cond (.seq (r 8 [0, 1, 5, 6, 7, 8, 9, 10, 11]) (.seq (.seq (r 2 [0, 1, 5, 6, 7, 8, 9, 10, 11, 73]) (.after (.cond (.seq (r 1 [4]) (l [4])) (.leaf)) [0, 1, 5, 6, 7, 8, 9, 10, 11])) (r 5 [0, 1, 5, 6, 7, 8, 9, 10]))) (.leaf)) [0, 1, 5, 6, 7, 8, 9, 10])) (.seq (.seq (r 16 [0, 1, 5, 6, 7, 8, 9, 10, 93]) (.after (.cond (.seq (r 2 [4]) (l [4])) (.leaf)) [0, 1, 5, 6, 7, 8, 9, 10])) (.seq (r 3 [0, 1, 5, 6, 7, 8, 9, 10]) (.seq (r 3 [0, 1, 5, 6, 7, 8, 9, 10]) (.seq (r 9 [0, 1, 5, 6, 7, 8, 9, 10, 107]) (.after (.cond (.seq (r 6 [8, 12]) (.seq (.seq (r 2 [8, 12, 114]) (.after (.cond (.seq (r 4 [4]) (l [4])) (.leaf)) [])) (.seq (r 1 [4]) (l [4])))) (.seq (r 15 [0, 1, 5, 6, 7, 8, 9, 10, 132]) (.after (.cond (.seq (r 6 [8, 13]) (.seq (.seq (r 2 [8, 13, 139]) (.after (.cond (.seq (r 1 [4]) (l [4])) (.leaf)) [8, 13])) (.seq (r 4 [4]) (l [4])))) (.leaf)) [0, 1, 5, 6, 7, 8, 9, 10]))) [0, 1, 5, 6, 7, 8, 9, 10]))))))) [0, 1, 5, 6, 7, 8, 9, 10]))
def hint205 : Hint :=
  .seq (r 1 [0, 1]) (.seq (r 3 [0, 1, 5]) (.seq (.after (.block (.seq (r 8 [0, 1, 5, 16]) (.after (.cond (.seq (r 1 [4]) (l [4])) (.seq (r 3 [0, 1, 5, 24]) (.after (.cond (.seq (r 5 [4]) (l [4])) (.seq (r 5 [0, 1, 5, 31]) (.after (.cond (.seq (r 1 [4]) (l [4])) (.seq (r 9 [0, 1, 5, 36]) (.after (.cond (.seq (r 4 [4]) (l [4])) (.leaf)) [0, 1, 5]))) [0, 1, 5]))) [0, 1, 5]))) [0, 1, 5]))) [0, 1, 5]) (.seq (r 3 [0, 1, 5, 6]) (.seq (r 3 [0, 1, 5, 6, 7]) (.seq (r 1 [0, 1, 5, 6, 7, 8]) (.seq (r 6 [0, 1, 5, 6, 7, 8, 9]) (.seq (r 1 [0, 1, 5, 6, 7, 8, 9, 10]) (.seq (.after (.block (.loop hint205L0)) []) (.seq (r 1 [4]) (l [4]))))))))))
def hint226 : Hint :=
  .seq (r 1 [0, 1]) (.seq (r 4 [4]) (l [4]))
def hint283 : Hint :=
  .seq (r 1 [0, 1, 2, 3]) (.seq (.seq (r 2 [0, 1, 2, 3, 24]) (.after (.cond (.seq (r 1 [8]) (l [8])) (.leaf)) [0, 1, 2, 3])) (.seq (.seq (r 14 [0, 1, 2, 3, 38]) (.after (.cond (.seq (r 1 [8]) (l [8])) (.leaf)) [0, 1, 2, 3])) (.seq (r 7 [0, 1, 2, 3, 9, 10]) (.seq (r 7 [1, 2, 3, 9, 10, 11, 12]) (.seq (.seq (r 2 [1, 2, 3, 9, 10, 11, 50]) (.after (.cond (.seq (r 3 [8]) (l [8])) (.leaf)) [1, 2, 3, 9, 10, 11])) (.seq (.after (.reg [(false, 11)] [8]) [1, 2, 3, 9, 10, 11, 13, 14]) (.seq (.after (.reg [(false, 11)] [8]) [1, 2, 3, 9, 10, 11, 13, 14, 15, 16]) (.seq (.after (.reg [(false, 11)] [8]) [1, 2, 3, 9, 10, 11, 13, 14, 15, 16, 17, 18]) (.seq (.after (.reg [(false, 11)] [8]) [1, 2, 3, 9, 10, 13, 14, 15, 16, 17, 18, 19, 20]) (.seq (.after (.reg [(false, 11)] [8]) [1, 2, 3, 9, 10, 13, 14, 15, 16, 17, 18, 19, 20, 21]) (.seq (.after (.reg [(false, 3), (true, 2), (false, 3), (true, 2), (false, 3), (true, 2), (false, 3), (true, 2), (false, 3), (true, 8), (false, 3)] []) [8]) (l [8]))))))))))))
def hint284L0 : Hint :=
  .live [1, 24, 25] (.seq (r 1 [1, 24, 25, 26]) (.seq (.after (.cond (.leaf) (l [1])) [1, 24, 25]) (.seq (.after (.block (.seq (.after (.reg [(false, 3)] [1]) [1, 5, 24, 25]) (.seq (.after (.reg [(false, 7)] [5]) [1, 6, 24, 25]) (.seq (.after (.reg [(true, 6), (false, 1)] []) [1, 6, 24, 25]) (.after (.reg [(true, 5), (false, 1)] []) [1, 24, 25]))))) [1, 24, 25]) (r 2 [1, 24, 25]))))
def hint284L1 : Hint :=
  .live [1, 14, 15] (.seq (r 1 [1, 14, 15, 16]) (.seq (.after (.cond (.leaf) (l [1])) [1, 14, 15]) (.seq (.after (.block (.seq (r 2 [1, 3, 14, 15]) (r 6 [1, 14, 15]))) [1, 14, 15]) (r 2 [1, 14, 15]))))
def hint284 : Hint :=
  .seq (r 1 []) (.seq (r 11 [1]) (.seq (.seq (r 2 [1, 14, 15]) (.after (.block (.loop hint284L1)) [1])) (.seq (.seq (r 2 [1, 24, 25]) (.after (.block (.loop hint284L0)) [1])) (.seq (r 2 [0]) (l [0])))))
noncomputable def E : Env := ⟨Go.Proofs.Tryd.prog, fun f => List.lookup f [(23, 25), (58, 26), (46, 27), (60, 28), (33, 30), (85, 33), (31, 34), (32, 36), (86, 37), (70, 38), (9, 47), (7, 49), (6, 50), (12, 52), (11, 54), (56, 85), (69, 86), (98, 87), (54, 88), (55, 89), (42, 90), (41, 91), (43, 92), (84, 93), (20, 95), (21, 96), (27, 97), (24, 98), (25, 99), (26, 100), (30, 103), (35, 104), (13, 105), (36, 106), (14, 107), (19, 108), (37, 109), (15, 110), (16, 111), (38, 112), (17, 113), (18, 114), (39, 115), (83, 137), (91, 138), (53, 139), (81, 140), (82, 141), (64, 142), (65, 143), (44, 144), (67, 145), (66, 146), (57, 155), (34, 156), (62, 157), (59, 158), (61, 159), (63, 160), (77, 171), (102, 172), (89, 173), (88, 174), (90, 176), (40, 179), (68, 180), (45, 181), (47, 182), (101, 205), (106, 226), (5, 283), (22, 284)], rndOf Go.Abs.AbsHier.T⟩
theorem c25 : cFunc E false hint25 Go.Proofs.Tryd.f23 = some code25 := by kernel_rfl
theorem c26 : cFunc E false hint26 Go.Proofs.Tryd.f58 = some code26 := by kernel_rfl
theorem c27 : cFunc E false hint27 Go.Proofs.Tryd.f46 = some code27 := by kernel_rfl
theorem c28 : cFunc E false hint28 Go.Proofs.Tryd.f60 = some code28 := by kernel_rfl
theorem c30 : cFunc E false hint30 Go.Proofs.Tryd.f33 = some code30 := by kernel_rfl
theorem c33 : cFunc E false hint33 Go.Proofs.Tryd.f85 = some code33 := by kernel_rfl
theorem c34 : cFunc E false hint34 Go.Proofs.Tryd.f31 = some code34 := by kernel_rfl
theorem c36 : cFunc E false hint36 Go.Proofs.Tryd.f32 = some code36 := by kernel_rfl
theorem c37 : cFunc E false hint37 Go.Proofs.Tryd.f86 = some code37 := by kernel_rfl
theorem c38 : cFunc E false hint38 Go.Proofs.Tryd.f70 = some code38 := by kernel_rfl
theorem c47 : cFunc E false hint47 Go.Proofs.Tryd.f9 = some code47 := by kernel_rfl
theorem c49 : cFunc E false hint49 Go.Proofs.Tryd.f7 = some code49 := by kernel_rfl
theorem c50 : cFunc E true hint50 Go.Proofs.Tryd.f6 = some code50 := by kernel_rfl
theorem c52 : cFunc E false hint52 Go.Proofs.Tryd.f12 = some code52 := by kernel_rfl
theorem c54 : cFunc E false hint54 Go.Proofs.Tryd.f11 = some code54 := by kernel_rfl
theorem c85 : cFunc E false hint85 Go.Proofs.Tryd.f56 = some code85 := by kernel_rfl
theorem c86 : cFunc E false hint86 Go.Proofs.Tryd.f69 = some code86 := by kernel_rfl
theorem c87 : cFunc E false hint87 Go.Proofs.Tryd.f98 = some code87 := by kernel_rfl
theorem c88 : cFunc E false hint88 Go.Proofs.Tryd.f54 = some code88 := by kernel_rfl
theorem c89 : cFunc E false hint89 Go.Proofs.Tryd.f55 = some code89 := by kernel_rfl
theorem c90 : cFunc E false hint90 Go.Proofs.Tryd.f42 = some code90 := by kernel_rfl
theorem c91 : cFunc E false hint91 Go.Proofs.Tryd.f41 = some code91 := by kernel_rfl
theorem c92 : cFunc E false hint92 Go.Proofs.Tryd.f43 = some code92 := by kernel_rfl
theorem c93 : cFunc E false hint93 Go.Proofs.Tryd.f84 = some code93 := by kernel_rfl
theorem c95 : cFunc E false hint95 Go.Proofs.Tryd.f20 = some code95 := by kernel_rfl
theorem c96 : cFunc E false hint96 Go.Proofs.Tryd.f21 = some code96 := by kernel_rfl
theorem c97 : cFunc E false hint97 Go.Proofs.Tryd.f27 = some code97 := by kernel_rfl
theorem c98 : cFunc E false hint98 Go.Proofs.Tryd.f24 = some code98 := by kernel_rfl
theorem c99 : cFunc E false hint99 Go.Proofs.Tryd.f25 = some code99 := by kernel_rfl
theorem c100 : cFunc E false hint100 Go.Proofs.Tryd.f26 = some code100 := by kernel_rfl
theorem c103 : cFunc E false hint103 Go.Proofs.Tryd.f30 = some code103 := by kernel_rfl
theorem c104 : cFunc E false hint104 Go.Proofs.Tryd.f35 = some code104 := by kernel_rfl
theorem c105 : cFunc E false hint105 Go.Proofs.Tryd.f13 = some code105 := by kernel_rfl
theorem c106 : cFunc E false hint106 Go.Proofs.Tryd.f36 = some code106 := by kernel_rfl
theorem c107 : cFunc E false hint107 Go.Proofs.Tryd.f14 = some code107 := by kernel_rfl
theorem c108 : cFunc E false hint108 Go.Proofs.Tryd.f19 = some code108 := by kernel_rfl
theorem c109 : cFunc E false hint109 Go.Proofs.Tryd.f37 = some code109 := by kernel_rfl
theorem c110 : cFunc E false hint110 Go.Proofs.Tryd.f15 = some code110 := by kernel_rfl
theorem c111 : cFunc E false hint111 Go.Proofs.Tryd.f16 = some code111 := by kernel_rfl
theorem c112 : cFunc E false hint112 Go.Proofs.Tryd.f38 = some code112 := by kernel_rfl
theorem c113 : cFunc E false hint113 Go.Proofs.Tryd.f17 = some code113 := by kernel_rfl
theorem c114 : cFunc E false hint114 Go.Proofs.Tryd.f18 = some code114 := by kernel_rfl
theorem c115 : cFunc E false hint115 Go.Proofs.Tryd.f39 = some code115 := by kernel_rfl
theorem c137 : cFunc E false hint137 Go.Proofs.Tryd.f83 = some code137 := by kernel_rfl
theorem c138 : cFunc E false hint138 Go.Proofs.Tryd.f91 = some code138 := by kernel_rfl
theorem c139 : cFunc E false hint139 Go.Proofs.Tryd.f53 = some code139 := by kernel_rfl
theorem c140 : cFunc E false hint140 Go.Proofs.Tryd.f81 = some code140 := by kernel_rfl
theorem c141 : cFunc E false hint141 Go.Proofs.Tryd.f82 = some code141 := by kernel_rfl
theorem c142 : cFunc E false hint142 Go.Proofs.Tryd.f64 = some code142 := by kernel_rfl
theorem c143 : cFunc E false hint143 Go.Proofs.Tryd.f65 = some code143 := by kernel_rfl
theorem c144 : cFunc E false hint144 Go.Proofs.Tryd.f44 = some code144 := by kernel_rfl
theorem c145 : cFunc E false hint145 Go.Proofs.Tryd.f67 = some code145 := by kernel_rfl
theorem c146 : cFunc E false hint146 Go.Proofs.Tryd.f66 = some code146 := by kernel_rfl
theorem c155 : cFunc E false hint155 Go.Proofs.Tryd.f57 = some code155 := by kernel_rfl
theorem c156 : cFunc E false hint156 Go.Proofs.Tryd.f34 = some code156 := by kernel_rfl
theorem c157 : cFunc E false hint157 Go.Proofs.Tryd.f62 = some code157 := by kernel_rfl
theorem c158 : cFunc E false hint158 Go.Proofs.Tryd.f59 = some code158 := by kernel_rfl
theorem c159 : cFunc E false hint159 Go.Proofs.Tryd.f61 = some code159 := by kernel_rfl
theorem c160 : cFunc E false hint160 Go.Proofs.Tryd.f63 = some code160 := by kernel_rfl
theorem c171 : cFunc E false hint171 Go.Proofs.Tryd.f77 = some code171 := by kernel_rfl
theorem c172 : cFunc E false hint172 Go.Proofs.Tryd.f102 = some code172 := by kernel_rfl
theorem c173 : cFunc E false hint173 Go.Proofs.Tryd.f89 = some code173 := by kernel_rfl
theorem c174 : cFunc E false hint174 Go.Proofs.Tryd.f88 = some code174 := by kernel_rfl
theorem c176 : cFunc E false hint176 Go.Proofs.Tryd.f90 = some code176 := by kernel_rfl
theorem c179 : cFunc E false hint179 Go.Proofs.Tryd.f40 = some code179 := by kernel_rfl
theorem c180 : cFunc E false hint180 Go.Proofs.Tryd.f68 = some code180 := by kernel_rfl
theorem c181 : cFunc E false hint181 Go.Proofs.Tryd.f45 = some code181 := by kernel_rfl
theorem c182 : cFunc E false hint182 Go.Proofs.Tryd.f47 = some code182 := by kernel_rfl
theorem c205 : cFunc E false hint205 Go.Proofs.Tryd.f101 = some code205 := by kernel_rfl
theorem c226 : cFunc E false hint226 Go.Proofs.Tryd.f106 = some code226 := by kernel_rfl
theorem c283 : cFunc E false hint283 Go.Proofs.Tryd.f5 = some code283 := by kernel_rfl
theorem c284 : cFunc E false hint284 Go.Proofs.Tryd.f22 = some code284 := by kernel_rfl
theorem r52 : RndOK E code52.body.rounds := ⟨rfl, trivial⟩
theorem r97 : RndOK E code97.body.rounds := ⟨rfl, trivial⟩
theorem r98 : RndOK E code98.body.rounds := ⟨rfl, trivial⟩
theorem r109 : RndOK E code109.body.rounds := ⟨rfl, trivial⟩
theorem agrees : Agrees E Go.Abs.AbsHier.T := agrees_of ⟨.inl ⟨_, _, _, _, Go.Proofs.Tryd.func23, (rfl : Go.Abs.AbsHier.T 25 = some code25), c25, trivial⟩, .inl ⟨_, _, _, _, Go.Proofs.Tryd.func58, (rfl : Go.Abs.AbsHier.T 26 = some code26), c26, trivial⟩, .inl ⟨_, _, _, _, Go.Proofs.Tryd.func46, (rfl : Go.Abs.AbsHier.T 27 = some code27), c27, trivial⟩, .inl ⟨_, _, _, _, Go.Proofs.Tryd.func60, (rfl : Go.Abs.AbsHier.T 28 = some code28), c28, trivial⟩, .inl ⟨_, _, _, _, Go.Proofs.Tryd.func33, (rfl : Go.Abs.AbsHier.T 30 = some code30), c30, trivial⟩, .inl ⟨_, _, _, _, Go.Proofs.Tryd.func85, (rfl : Go.Abs.AbsHier.T 33 = some code33), c33, trivial⟩, .inl ⟨_, _, _, _, Go.Proofs.Tryd.func31, (rfl : Go.Abs.AbsHier.T 34 = some code34), c34, trivial⟩, .inl ⟨_, _, _, _, Go.Proofs.Tryd.func32, (rfl : Go.Abs.AbsHier.T 36 = some code36), c36, trivial⟩, .inl ⟨_, _, _, _, Go.Proofs.Tryd.func86, (rfl : Go.Abs.AbsHier.T 37 = some code37), c37, trivial⟩, .inl ⟨_, _, _, _, Go.Proofs.Tryd.func70, (rfl : Go.Abs.AbsHier.T 38 = some code38), c38, trivial⟩, .inl ⟨_, _, _, _, Go.Proofs.Tryd.func9, (rfl : Go.Abs.AbsHier.T 47 = some code47), c47, trivial⟩, .inl ⟨_, _, _, _, Go.Proofs.Tryd.func7, (rfl : Go.Abs.AbsHier.T 49 = some code49), c49, trivial⟩, .inl ⟨_, _, _, _, Go.Proofs.Tryd.func6, (rfl : Go.Abs.AbsHier.T 50 = some code50), c50, trivial⟩, .inl ⟨_, _, _, _, Go.Proofs.Tryd.func12, (rfl : Go.Abs.AbsHier.T 52 = some code52), c52, r52⟩, .inl ⟨_, _, _, _, Go.Proofs.Tryd.func11, (rfl : Go.Abs.AbsHier.T 54 = some code54), c54, trivial⟩, .inl ⟨_, _, _, _, Go.Proofs.Tryd.func56, (rfl : Go.Abs.AbsHier.T 85 = some code85), c85, trivial⟩, .inl ⟨_, _, _, _, Go.Proofs.Tryd.func69, (rfl : Go.Abs.AbsHier.T 86 = some code86), c86, trivial⟩, .inl ⟨_, _, _, _, Go.Proofs.Tryd.func98, (rfl : Go.Abs.AbsHier.T 87 = some code87), c87, trivial⟩, .inl ⟨_, _, _, _, Go.Proofs.Tryd.func54, (rfl : Go.Abs.AbsHier.T 88 = some code88), c88, trivial⟩, .inl ⟨_, _, _, _, Go.Proofs.Tryd.func55, (rfl : Go.Abs.AbsHier.T 89 = some code89), c89, trivial⟩, .inl ⟨_, _, _, _, Go.Proofs.Tryd.func42, (rfl : Go.Abs.AbsHier.T 90 = some code90), c90, trivial⟩, .inl ⟨_, _, _, _, Go.Proofs.Tryd.func41, (rfl : Go.Abs.AbsHier.T 91 = some code91), c91, trivial⟩, .inl ⟨_, _, _, _, Go.Proofs.Tryd.func43, (rfl : Go.Abs.AbsHier.T 92 = some code92), c92, trivial⟩, .inl ⟨_, _, _, _, Go.Proofs.Tryd.func84, (rfl : Go.Abs.AbsHier.T 93 = some code93), c93, trivial⟩, .inl ⟨_, _, _, _, Go.Proofs.Tryd.func20, (rfl : Go.Abs.AbsHier.T 95 = some code95), c95, trivial⟩, .inl ⟨_, _, _, _, Go.Proofs.Tryd.func21, (rfl : Go.Abs.AbsHier.T 96 = some code96), c96, trivial⟩, .inl ⟨_, _, _, _, Go.Proofs.Tryd.func27, (rfl : Go.Abs.AbsHier.T 97 = some code97), c97, r97⟩, .inl ⟨_, _, _, _, Go.Proofs.Tryd.func24, (rfl : Go.Abs.AbsHier.T 98 = some code98), c98, r98⟩, .inl ⟨_, _, _, _, Go.Proofs.Tryd.func25, (rfl : Go.Abs.AbsHier.T 99 = some code99), c99, trivial⟩, .inl ⟨_, _, _, _, Go.Proofs.Tryd.func26, (rfl : Go.Abs.AbsHier.T 100 = some code100), c100, trivial⟩, .inl ⟨_, _, _, _, Go.Proofs.Tryd.func30, (rfl : Go.Abs.AbsHier.T 103 = some code103), c103, trivial⟩, .inl ⟨_, _, _, _, Go.Proofs.Tryd.func35, (rfl : Go.Abs.AbsHier.T 104 = some code104), c104, trivial⟩, .inl ⟨_, _, _, _, Go.Proofs.Tryd.func13, (rfl : Go.Abs.AbsHier.T 105 = some code105), c105, trivial⟩, .inl ⟨_, _, _, _, Go.Proofs.Tryd.func36, (rfl : Go.Abs.AbsHier.T 106 = some code106), c106, trivial⟩, .inl ⟨_, _, _, _, Go.Proofs.Tryd.func14, (rfl : Go.Abs.AbsHier.T 107 = some code107), c107, trivial⟩, .inl ⟨_, _, _, _, Go.Proofs.Tryd.func19, (rfl : Go.Abs.AbsHier.T 108 = some code108), c108, trivial⟩, .inl ⟨_, _, _, _, Go.Proofs.Tryd.func37, (rfl : Go.Abs.AbsHier.T 109 = some code109), c109, r109⟩, .inl ⟨_, _, _, _, Go.Proofs.Tryd.func15, (rfl : Go.Abs.AbsHier.T 110 = some code110), c110, trivial⟩, .inl ⟨_, _, _, _, Go.Proofs.Tryd.func16, (rfl : Go.Abs.AbsHier.T 111 = some code111), c111, trivial⟩, .inl ⟨_, _, _, _, Go.Proofs.Tryd.func38, (rfl : Go.Abs.AbsHier.T 112 = some code112), c112, trivial⟩, .inl ⟨_, _, _, _, Go.Proofs.Tryd.func17, (rfl : Go.Abs.AbsHier.T 113 = some code113), c113, trivial⟩, .inl ⟨_, _, _, _, Go.Proofs.Tryd.func18, (rfl : Go.Abs.AbsHier.T 114 = some code114), c114, trivial⟩, .inl ⟨_, _, _, _, Go.Proofs.Tryd.func39, (rfl : Go.Abs.AbsHier.T 115 = some code115), c115, trivial⟩, .inl ⟨_, _, _, _, Go.Proofs.Tryd.func83, (rfl : Go.Abs.AbsHier.T 137 = some code137), c137, trivial⟩, .inl ⟨_, _, _, _, Go.Proofs.Tryd.func91, (rfl : Go.Abs.AbsHier.T 138 = some code138), c138, trivial⟩, .inl ⟨_, _, _, _, Go.Proofs.Tryd.func53, (rfl : Go.Abs.AbsHier.T 139 = some code139), c139, trivial⟩, .inl ⟨_, _, _, _, Go.Proofs.Tryd.func81, (rfl : Go.Abs.AbsHier.T 140 = some code140), c140, trivial⟩, .inl ⟨_, _, _, _, Go.Proofs.Tryd.func82, (rfl : Go.Abs.AbsHier.T 141 = some code141), c141, trivial⟩, .inl ⟨_, _, _, _, Go.Proofs.Tryd.func64, (rfl : Go.Abs.AbsHier.T 142 = some code142), c142, trivial⟩, .inl ⟨_, _, _, _, Go.Proofs.Tryd.func65, (rfl : Go.Abs.AbsHier.T 143 = some code143), c143, trivial⟩, .inl ⟨_, _, _, _, Go.Proofs.Tryd.func44, (rfl : Go.Abs.AbsHier.T 144 = some code144), c144, trivial⟩, .inl ⟨_, _, _, _, Go.Proofs.Tryd.func67, (rfl : Go.Abs.AbsHier.T 145 = some code145), c145, trivial⟩, .inl ⟨_, _, _, _, Go.Proofs.Tryd.func66, (rfl : Go.Abs.AbsHier.T 146 = some code146), c146, trivial⟩, .inl ⟨_, _, _, _, Go.Proofs.Tryd.func57, (rfl : Go.Abs.AbsHier.T 155 = some code155), c155, trivial⟩, .inl ⟨_, _, _, _, Go.Proofs.Tryd.func34, (rfl : Go.Abs.AbsHier.T 156 = some code156), c156, trivial⟩, .inl ⟨_, _, _, _, Go.Proofs.Tryd.func62, (rfl : Go.Abs.AbsHier.T 157 = some code157), c157, trivial⟩, .inl ⟨_, _, _, _, Go.Proofs.Tryd.func59, (rfl : Go.Abs.AbsHier.T 158 = some code158), c158, trivial⟩, .inl ⟨_, _, _, _, Go.Proofs.Tryd.func61, (rfl : Go.Abs.AbsHier.T 159 = some code159), c159, trivial⟩, .inl ⟨_, _, _, _, Go.Proofs.Tryd.func63, (rfl : Go.Abs.AbsHier.T 160 = some code160), c160, trivial⟩, .inl ⟨_, _, _, _, Go.Proofs.Tryd.func77, (rfl : Go.Abs.AbsHier.T 171 = some code171), c171, trivial⟩, .inl ⟨_, _, _, _, Go.Proofs.Tryd.func102, (rfl : Go.Abs.AbsHier.T 172 = some code172), c172, trivial⟩, .inl ⟨_, _, _, _, Go.Proofs.Tryd.func89, (rfl : Go.Abs.AbsHier.T 173 = some code173), c173, trivial⟩, .inl ⟨_, _, _, _, Go.Proofs.Tryd.func88, (rfl : Go.Abs.AbsHier.T 174 = some code174), c174, trivial⟩, .inl ⟨_, _, _, _, Go.Proofs.Tryd.func90, (rfl : Go.Abs.AbsHier.T 176 = some code176), c176, trivial⟩, .inl ⟨_, _, _, _, Go.Proofs.Tryd.func40, (rfl : Go.Abs.AbsHier.T 179 = some code179), c179, trivial⟩, .inl ⟨_, _, _, _, Go.Proofs.Tryd.func68, (rfl : Go.Abs.AbsHier.T 180 = some code180), c180, trivial⟩, .inl ⟨_, _, _, _, Go.Proofs.Tryd.func45, (rfl : Go.Abs.AbsHier.T 181 = some code181), c181, trivial⟩, .inl ⟨_, _, _, _, Go.Proofs.Tryd.func47, (rfl : Go.Abs.AbsHier.T 182 = some code182), c182, trivial⟩, .inl ⟨_, _, _, _, Go.Proofs.Tryd.func101, (rfl : Go.Abs.AbsHier.T 205 = some code205), c205, trivial⟩, .inl ⟨_, _, _, _, Go.Proofs.Tryd.func106, (rfl : Go.Abs.AbsHier.T 226 = some code226), c226, trivial⟩, .inl ⟨_, _, _, _, Go.Proofs.Tryd.func5, (rfl : Go.Abs.AbsHier.T 283 = some code283), c283, trivial⟩, .inl ⟨_, _, _, _, Go.Proofs.Tryd.func22, (rfl : Go.Abs.AbsHier.T 284 = some code284), c284, trivial⟩, trivial⟩
theorem mixed : E.P.follows .mixedOrders = true := by kernel_rfl
end Go.Abs.AbsHierM
