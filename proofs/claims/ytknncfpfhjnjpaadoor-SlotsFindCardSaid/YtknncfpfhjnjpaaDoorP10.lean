/-
  The code is the functions': asked of the kernel.
-/
import Derived.Test.YtknncfpfhjnjpaaDoorP5
import Derived.Test.YtknncfpfhjnjpaaDoorP8
import Derived.Test.YtknncfpfhjnjpaaDoorProg
import Derived.KernelRfl
namespace Go.Abs.AbsSlotF
set_option maxRecDepth 100000
open Go.Abs.AbsSlot Go.Abs.AbsHier Go.Abs.AbsDesc
open Go.Abs.ShortH
def hint25 : Hint :=
  .seq (r 1 [0]) (.seq (r 10 [2]) (l [2]))
def hint27 : Hint :=
  .seq (r 1 [0]) (.seq (r 9 [2]) (l [2]))
def hint30 : Hint :=
  .seq (r 1 [0]) (.seq (r 7 [2]) (l [2]))
def hint34 : Hint :=
  .seq (r 2 [0]) (.seq (.seq (r 13 [0, 16]) (.after (.cond (.seq (r 2 [2, 3]) (l [2, 3])) (.leaf)) [0])) (.seq (r 7 [2, 3]) (l [2, 3])))
def hint38L0 : Hint :=
  .live [5, 7] (.seq (.seq (r 7 [5, 7, 23]) (.after (.cond (.leaf) (l [5, 7])) [5, 7])) (.after (.block (.seq (r 3 [5, 7, 8]) (.seq (.seq (r 7 [5, 7, 8, 32]) (.after (.cond (.seq (r 3 [2, 3, 4]) (l [2, 3, 4])) (.leaf)) [5, 7, 8])) (.after (.reg [(true, 9), (false, 1)] []) [5, 7])))) [5, 7]))
def hint38 : Hint :=
  .seq (r 3 [0]) (.seq (r 7 [5, 6]) (.seq (.seq (r 2 [5, 16]) (.after (.cond (.seq (r 3 [2, 3, 4]) (l [2, 3, 4])) (.leaf)) [5])) (.seq (r 1 [5, 7]) (.seq (.after (.block (.loop hint38L0)) [5, 7]) (.seq (r 7 [6, 7, 9]) (.seq (.seq (r 11 [7, 9, 56]) (.after (.cond (.seq (r 3 [2, 3, 4]) (l [2, 3, 4])) (.leaf)) [7, 9])) (.seq (r 5 [2, 3, 4]) (l [2, 3, 4]))))))))
def hint49L0 : Hint :=
  .live [4, 69, 70, 71] (.seq (r 1 [4, 69, 70, 71, 72]) (.seq (.after (.cond (.leaf) (l [4])) [4, 69, 70, 71]) (.seq (.after (.block (.seq (.after (.reg [(false, 4)] [2]) [4, 10, 69, 70, 71]) (.seq (r 4 [4, 69, 70, 71, 78]) (.after (.cond (.seq (r 2 [2, 3]) (l [2, 3])) (.leaf)) [4, 69, 70, 71])))) [4, 69, 70, 71]) (r 2 [4, 69, 70, 71]))))
def hint49L1 : Hint :=
  .live [0, 4, 45, 46, 47] (.seq (r 1 [0, 4, 45, 46, 47, 48]) (.seq (.after (.cond (.leaf) (l [0, 4])) [0, 4, 45, 46, 47]) (.seq (.after (.block (.seq (.after (.reg [(false, 4)] [2]) [0, 4, 8, 45, 46, 47]) (.seq (r 17 [0, 4, 45, 46, 47, 67]) (.after (.cond (.seq (r 2 [2, 3]) (l [2, 3])) (.leaf)) [0, 4, 45, 46, 47])))) [0, 4, 45, 46, 47]) (r 2 [0, 4, 45, 46, 47]))))
def hint49L2 : Hint :=
  .live [0, 4, 15, 16, 17] (.seq (r 1 [0, 4, 15, 16, 17, 18]) (.seq (.after (.cond (.leaf) (l [0, 4])) [0, 4, 15, 16, 17]) (.seq (.after (.block (.seq (.after (.reg [(false, 4)] [2]) [0, 4, 6, 15, 16, 17]) (.seq (.seq (r 15 [0, 4, 6, 15, 16, 17, 35]) (.after (.cond (.seq (r 2 [2, 3]) (l [2, 3])) (.leaf)) [0, 4, 6, 15, 16, 17])) (.after (.reg [(true, 8), (false, 1)] []) [0, 4, 15, 16, 17])))) [0, 4, 15, 16, 17]) (r 2 [0, 4, 15, 16, 17]))))
def hint49 : Hint :=
  .seq (r 2 [0]) (.seq (r 2 [0, 4]) (.seq (.seq (r 3 [0, 4, 14]) (.after (.cond (.seq (r 2 [2, 3]) (l [2, 3])) (.leaf)) [0, 4])) (.seq (.seq (r 3 [0, 4, 15, 16, 17]) (.after (.block (.loop hint49L2)) [0, 4])) (.seq (.seq (r 3 [0, 4, 45, 46, 47]) (.after (.block (.loop hint49L1)) [0, 4])) (.seq (.seq (r 3 [4, 69, 70, 71]) (.after (.block (.loop hint49L0)) [4])) (.seq (r 3 [2, 3]) (l [2, 3])))))))
def hint54 : Hint :=
  .seq (r 1 [0, 1]) (.seq (r 8 [6]) (.seq (r 2 [4]) (l [4])))
def hint56 : Hint :=
  .seq (.after (.reg [(false, 3)] [0]) [1, 3, 5]) (.seq (r 5 [6]) (l [6]))
def hint59 : Hint :=
  .seq (.after (.reg [(false, 2)] [0]) [0, 2]) (.seq (.seq (r 7 [0, 2, 5]) (.seq (r 2 [0, 2, 5, 12]) (.after (.cond (.seq (r 4 [2, 3]) (l [2, 3])) (.leaf)) [0, 2]))) (.seq (r 7 [2, 3]) (l [2, 3])))
def hint61 : Hint :=
  .seq (r 1 []) (.seq (.after (.reg [(false, 7)] [4]) [1, 2]) (.seq (.after (.reg [(false, 9)] [6]) [1, 2, 4]) (.seq (r 7 [1, 2, 4, 5, 6]) (.seq (r 7 [1, 2, 4, 5, 6, 7, 8]) (.seq (r 37 [0]) (l [0]))))))
def hint62L0 : Hint :=
  .live [2, 11, 12, 13] (.seq (r 1 [2, 11, 12, 13, 14]) (.seq (.after (.cond (.leaf) (l [])) [2, 11, 12, 13]) (.seq (.after (.block (.seq (r 3 [2, 8, 11, 12, 13]) (.seq (r 3 [2, 11, 12, 13, 19]) (.after (.cond (.seq (r 1 [6]) (l [6])) (.leaf)) [2, 11, 12, 13])))) [2, 11, 12, 13]) (r 2 [2, 11, 12, 13]))))
def hint62 : Hint :=
  .seq (.after (.reg [(false, 2)] [0]) [1, 2, 3]) (.seq (.seq (r 5 [2, 11, 12, 13]) (.after (.block (.loop hint62L0)) [])) (.seq (r 1 [6]) (l [6])))
def hint63 : Hint :=
  .seq (.after (.reg [(false, 3)] [0]) [1, 2, 3]) (.seq (.seq (r 24 [1, 2, 3, 31]) (.after (.cond (.seq (r 2 [6, 7]) (l [6, 7])) (.leaf)) [1, 2, 3])) (.seq (r 11 [6, 7]) (l [6, 7])))
def hint64 : Hint :=
  .seq (.after (.reg [(false, 3)] [0]) [1, 2, 3]) (.seq (.seq (r 24 [1, 2, 3, 31]) (.after (.cond (.seq (r 2 [6, 7]) (l [6, 7])) (.leaf)) [1, 2, 3])) (.seq (r 11 [6, 7]) (l [6, 7])))
def hint65L0 : Hint :=
  .live [2, 3, 4, 13, 26, 27, 28, 33, 34, 35] (.seq (r 1 [2, 3, 4, 13, 26, 27, 28, 33, 34, 35, 36]) (.seq (.after (.cond (.leaf) (l [2, 3, 4, 26, 27, 28])) [2, 3, 4, 13, 26, 27, 28, 33, 34, 35]) (.seq (.after (.block (.seq (.after (.reg [(false, 6)] [3]) [2, 3, 4, 13, 14, 15, 26, 27, 28, 33, 34, 35]) (.seq (r 16 [2, 3, 4, 13, 14, 26, 27, 28, 33, 34, 35, 55]) (.after (.cond (.seq (r 3 [8, 9]) (l [8, 9])) (.leaf)) [2, 3, 4, 13, 26, 27, 28, 33, 34, 35])))) [2, 3, 4, 13, 26, 27, 28, 33, 34, 35]) (r 2 [2, 3, 4, 13, 26, 27, 28, 33, 34, 35]))))
def hint65L1 : Hint :=
  .live [2, 3, 4, 26, 27, 28] (.seq (r 1 [2, 3, 4, 26, 27, 28, 29]) (.seq (.after (.cond (.leaf) (l [])) [2, 3, 4, 26, 27, 28]) (.seq (.after (.block (.seq (r 3 [2, 3, 4, 13, 26, 27, 28]) (.seq (r 4 [2, 3, 4, 13, 26, 27, 28, 33, 34, 35]) (.after (.block (.loop hint65L0)) [2, 3, 4, 26, 27, 28])))) [2, 3, 4, 26, 27, 28]) (r 2 [2, 3, 4, 26, 27, 28]))))
def hint65 : Hint :=
  .seq (.after (.reg [(false, 3)] [0]) [1, 2, 3, 4]) (.seq (r 8 [2, 3, 4, 10, 11]) (.seq (.seq (r 2 [2, 3, 4, 10, 23]) (.after (.cond (.seq (r 2 [8, 9]) (l [8, 9])) (.leaf)) [2, 3, 4, 10])) (.seq (.seq (r 5 [2, 3, 4, 26, 27, 28]) (.after (.block (.loop hint65L1)) [])) (.seq (r 2 [8, 9]) (l [8, 9])))))
def hint66 : Hint :=
  .seq (r 5 [1, 4, 6, 7]) (.seq (r 8 [4, 6, 7, 10, 11]) (.seq (.seq (r 2 [4, 6, 7, 10, 20]) (.after (.cond (.seq (r 2 [8, 9]) (l [8, 9])) (.leaf)) [4, 6, 7, 10])) (.seq (r 2 [4, 6, 7, 10, 12]) (.seq (r 5 [11, 12]) (.seq (r 4 [8, 9]) (l [8, 9]))))))
def hint67L0 : Hint :=
  .live [1, 9, 10, 11] (.seq (r 1 [1, 9, 10, 11, 12]) (.seq (.after (.cond (.leaf) (l [])) [1, 9, 10, 11]) (.seq (.after (.block (.seq (.after (.reg [(false, 6)] [3]) [1, 6, 7, 9, 10, 11]) (.seq (r 4 [1, 6, 9, 10, 11, 19]) (.after (.cond (.seq (r 3 [4, 5]) (l [4, 5])) (.leaf)) [1, 9, 10, 11])))) [1, 9, 10, 11]) (r 2 [1, 9, 10, 11]))))
def hint67 : Hint :=
  .seq (.after (.reg [(false, 3)] [0]) [1, 2]) (.seq (.seq (r 4 [1, 9, 10, 11]) (.after (.block (.loop hint67L0)) [])) (.seq (r 2 [4, 5]) (l [4, 5])))
def hint68 : Hint :=
  .seq (.after (.reg [(false, 4)] [0]) [2, 3]) (.seq (r 5 [6]) (.seq (r 6 [4, 5]) (l [4, 5])))
def hint69L0 : Hint :=
  .live [3, 45, 46, 47] (.seq (r 1 [3, 45, 46, 47, 48]) (.seq (.after (.cond (.leaf) (l [3])) [3, 45, 46, 47]) (.seq (.after (.block (.seq (.after (.reg [(false, 4)] [2]) [3, 7, 45, 46, 47]) (r 12 [3, 45, 46, 47]))) [3, 45, 46, 47]) (r 2 [3, 45, 46, 47]))))
def hint69L1 : Hint :=
  .live [1, 3, 21, 22, 23] (.seq (r 1 [1, 3, 21, 22, 23, 24]) (.seq (.after (.cond (.leaf) (l [1, 3])) [1, 3, 21, 22, 23]) (.seq (.after (.block (.seq (.after (.reg [(false, 4)] [2]) [1, 3, 5, 21, 22, 23]) (.seq (.seq (r 2 [1, 3, 5, 21, 22, 23, 28]) (.after (.cond (.seq (r 1 [2]) (l [2])) (.leaf)) [1, 3, 5, 21, 22, 23])) (r 15 [1, 3, 21, 22, 23])))) [1, 3, 21, 22, 23]) (r 2 [1, 3, 21, 22, 23]))))
def hint69 : Hint :=
  .seq (.after (.reg [(false, 2)] [0]) [1]) (.seq (r 13 [1, 3]) (.seq (.seq (r 4 [1, 3, 21, 22, 23]) (.after (.block (.loop hint69L1)) [1, 3])) (.seq (.seq (r 4 [3, 45, 46, 47]) (.after (.block (.loop hint69L0)) [3])) (.seq (r 3 [2]) (l [2])))))
def hint70 : Hint :=
  .seq (.after (.reg [(false, 2)] [0]) [1, 2, 3, 4, 5, 6]) (.seq (.seq (r 2 [1, 2, 3, 4, 5, 6, 26]) (.after (.cond (.seq (r 1 [12]) (l [12])) (.leaf)) [1, 2, 3, 4, 5, 6])) (.seq (.seq (r 14 [1, 2, 3, 4, 5, 6, 40]) (.after (.cond (.seq (r 1 [12]) (l [12])) (.leaf)) [1, 2, 3, 4, 5, 6])) (.seq (r 8 [1, 2, 3, 4, 5, 6, 13, 14]) (.seq (r 8 [1, 2, 3, 4, 5, 6, 13, 14, 15, 16]) (.seq (r 10 [1, 2, 3, 4, 5, 6, 13, 14, 15, 16, 17, 18]) (.seq (r 10 [4, 5, 6, 13, 14, 15, 16, 17, 18, 19, 20]) (.seq (r 9 [4, 5, 6, 13, 14, 15, 16, 17, 18, 19, 20, 21, 22]) (.seq (r 9 [4, 5, 6, 13, 14, 15, 16, 17, 18, 19, 20, 21, 22, 23, 24]) (.seq (.after (.reg [(true, 2), (false, 2), (true, 2), (false, 3), (true, 2), (false, 3), (true, 2), (false, 3), (true, 2), (false, 3), (true, 2), (false, 3), (true, 7), (false, 4)] []) [12]) (l [12]))))))))))
def hint85 : Hint :=
  .seq (r 2 [0, 1]) (.seq (r 7 [4, 5]) (l [4, 5]))
def hint86 : Hint :=
  .seq (r 1 [0]) (.seq (r 3 [0, 3]) (.seq (r 6 [0, 3, 4]) (.seq (.seq (r 6 [0, 3, 4, 21]) (.after (.cond (.seq (r 1 [2]) (l [2])) (.leaf)) [0, 3, 4])) (.seq (.seq (r 3 [0, 3, 4, 5]) (.after (.block (.seq (.seq (r 3 [0, 3, 4, 5, 24]) (.after (.cond (.leaf) (.seq (r 7 [0, 3, 4, 5, 24]) (.after (.cond (.leaf) (r 7 [0, 3, 4, 5, 24])) [0, 3, 4, 5, 24]))) [0, 3, 4, 5, 24])) (.after (.cond (.seq (r 5 [2]) (l [2])) (.seq (r 3 [0, 3, 4, 43]) (.after (.cond (.seq (r 10 [0, 4, 6, 8]) (.seq (r 5 [0, 4, 6, 57]) (.after (.cond (.seq (r 8 [2]) (l [2])) (.leaf)) []))) (.leaf)) []))) []))) [])) (.seq (r 1 [2]) (l [2]))))))
def hint88 : Hint :=
  .seq (r 1 [0, 1]) (.seq (r 4 [4]) (l [4]))
def hint89 : Hint :=
  .seq (r 1 [0, 1]) (.seq (r 4 [4]) (l [4]))
def hint90 : Hint :=
  .seq (r 1 [0, 1]) (.seq (r 4 [4]) (l [4]))
def hint91 : Hint :=
  .seq (r 1 [0, 1]) (.seq (r 5 [4]) (l [4]))
def hint92 : Hint :=
  .seq (r 1 [0]) (.seq (r 4 [2]) (l [2]))
def hint96 : Hint :=
  .seq (r 2 [0, 1]) (.seq (.seq (r 2 [0, 1, 9]) (.after (.cond (.seq (r 2 [4, 5]) (l [4, 5])) (.leaf)) [0, 1])) (.seq (r 11 [6, 7]) (.seq (r 4 [4, 5]) (l [4, 5]))))
def rhint322a : Hint :=
  r 1 [2, 4, 6, 7]
def rhint322b : Hint :=
  .after (.block (.seq (.after (.reg [(true, 16), (false, 1)] [14]) [4, 6, 8, 9]) (.seq (r 8 [4, 43]) (.after (.cond (.seq (r 1 []) (l [])) (.leaf)) [])))) []
def hint97L1 : Hint :=
  .live [2, 3, 4, 11, 12, 13] (.seq (r 1 [2, 3, 4, 11, 12, 13, 14]) (.seq (.after (.cond (.leaf) (l [4])) [2, 3, 4, 11, 12, 13]) (.seq (.after (.block (.seq (r 4 [2, 3, 4, 6, 11, 12, 13]) (.seq (r 4 [2, 3, 4, 6, 11, 12, 13, 20]) (.after (.block (.after (.rangeFunc 322 [2, 4, 6] rhint322a rhint322b) [2, 3, 4, 11, 12, 13])) [2, 3, 4, 11, 12, 13])))) [2, 3, 4, 11, 12, 13]) (r 2 [2, 3, 4, 11, 12, 13]))))
def hint97 : Hint :=
  .seq (.after (.reg [(false, 3)] [1]) [2, 3, 4]) (.seq (.seq (r 4 [2, 3, 4, 11, 12, 13]) (.after (.block (.loop hint97L1)) [4])) (.seq (r 1 [4]) (l [4])))
def rhint321a : Hint :=
  r 1 [5, 6, 7]
def rhint321b : Hint :=
  .after (.block (.after (.reg [(true, 4), (false, 1)] [3]) [])) []
def hint98 : Hint :=
  .seq (r 1 [0, 1]) (.seq (r 4 [0, 1, 5, 6]) (.seq (.seq (r 3 [5, 6, 10]) (.after (.block (.after (.rangeFunc 321 [5, 6] rhint321a rhint321b) [5, 6])) [5, 6])) (.seq (r 7 [4]) (l [4]))))
def hint99L0 : Hint :=
  .live [0, 3, 5, 10, 11, 12] (.seq (r 1 [0, 3, 5, 10, 11, 12, 13]) (.seq (.after (.cond (.leaf) (l [])) [0, 3, 5, 10, 11, 12]) (.seq (.after (.block (.seq (.after (.reg [(false, 4)] [2]) [0, 3, 5, 7, 10, 11, 12]) (.seq (.seq (r 23 [0, 3, 5, 7, 10, 11, 12, 38]) (.after (.cond (.seq (r 1 [4]) (l [4])) (.leaf)) [0, 3, 5, 7, 10, 11, 12])) (.seq (r 4 [0, 3, 5, 7, 10, 11, 12]) (.after (.reg [(true, 16), (false, 1)] []) [0, 3, 5, 10, 11, 12]))))) [0, 3, 5, 10, 11, 12]) (r 2 [0, 3, 5, 10, 11, 12]))))
def hint99 : Hint :=
  .seq (.after (.reg [(false, 2)] [0]) [0, 3]) (.seq (r 2 [0, 3, 5]) (.seq (.seq (r 4 [0, 3, 5, 10, 11, 12]) (.after (.block (.loop hint99L0)) [])) (.seq (r 1 [4]) (l [4]))))
def hint100L0 : Hint :=
  .live [0, 3, 11, 12, 13] (.seq (r 1 [0, 3, 11, 12, 13, 14]) (.seq (.after (.cond (.leaf) (l [])) [0, 3, 11, 12, 13]) (.seq (.after (.block (.seq (.after (.reg [(false, 4)] [2]) [0, 3, 6, 11, 12, 13]) (.seq (.after (.reg [(false, 9)] [7]) [0, 3, 6, 7, 11, 12, 13]) (.seq (.seq (.after (.reg [(true, 11), (false, 1)] [9]) [0, 3, 6, 7, 9, 11, 12, 13]) (.seq (r 7 [0, 3, 6, 7, 11, 12, 13, 39]) (.after (.cond (.seq (r 1 [4]) (l [4])) (.leaf)) [0, 3, 6, 7, 11, 12, 13]))) (.after (.reg [(true, 10), (false, 1)] []) [0, 3, 11, 12, 13]))))) [0, 3, 11, 12, 13]) (r 2 [0, 3, 11, 12, 13]))))
def hint100 : Hint :=
  .seq (.after (.reg [(false, 2)] [0]) [0, 3]) (.seq (.seq (r 4 [0, 3, 11, 12, 13]) (.after (.block (.loop hint100L0)) [])) (.seq (r 1 [4]) (l [4])))
def hint103 : Hint :=
  .seq (r 1 [0, 1]) (.seq (r 8 [0, 5, 6]) (.seq (r 8 [4]) (l [4])))
def hint116L0 : Hint :=
  .live [3, 5, 16, 152, 153] (.seq (r 1 [3, 5, 16, 152, 153, 154]) (.seq (.after (.cond (.leaf) (l [3])) [3, 5, 16, 152, 153]) (.seq (.after (.block (.seq (r 2 [3, 5, 16, 17, 152, 153]) (r 5 [3, 5, 16, 152, 153]))) [3, 5, 16, 152, 153]) (r 2 [3, 5, 16, 152, 153]))))
def hint116L1 : Hint :=
  .live [3, 4, 5, 108, 109, 110] (.seq (r 1 [3, 4, 5, 108, 109, 110, 111]) (.seq (.after (.cond (.leaf) (l [3, 4, 5])) [3, 4, 5, 108, 109, 110]) (.seq (.after (.block (.seq (.after (.reg [(false, 4)] [2]) [3, 4, 5, 13, 108, 109, 110]) (.seq (.after (.reg [(true, 6), (false, 2), (true, 3), (false, 1)] []) [3, 4, 5, 13, 14, 15, 108, 109, 110]) (.seq (.seq (r 2 [3, 4, 5, 13, 14, 108, 109, 110, 125]) (.after (.cond (r 1 [3, 4, 5, 13, 14, 108, 109, 110]) (.leaf)) [3, 4, 5, 13, 14, 108, 109, 110])) (.after (.reg [(true, 12), (false, 4)] []) [3, 4, 5, 108, 109, 110]))))) [3, 4, 5, 108, 109, 110]) (r 2 [3, 4, 5, 108, 109, 110]))))
def hint116L2 : Hint :=
  .live [3, 4, 5, 6, 7, 8, 27, 28, 68, 69, 70] (.seq (r 1 [3, 4, 5, 6, 7, 8, 27, 28, 68, 69, 70, 71]) (.seq (.after (.cond (.leaf) (l [3, 4, 5, 6, 8, 27, 28])) [3, 4, 5, 6, 7, 8, 27, 28, 68, 69, 70]) (.seq (.after (.block (.seq (.after (.reg [(false, 4)] [2]) [3, 4, 5, 6, 7, 8, 10, 27, 28, 68, 69, 70]) (.seq (.after (.reg [(false, 10)] [8]) [3, 4, 5, 6, 7, 8, 11, 27, 28, 68, 69, 70]) (.seq (.seq (r 5 [3, 4, 5, 6, 7, 8, 11, 27, 28, 68, 69, 70, 86]) (.after (.cond (.seq (r 3 [3, 4, 5, 6, 7, 8, 11, 27, 28, 68, 69, 70]) (r 3 [3, 4, 5, 6, 7, 8, 11, 27, 28, 68, 69, 70])) (.leaf)) [3, 4, 5, 6, 7, 8, 11, 27, 28, 68, 69, 70])) (.after (.reg [(true, 9), (false, 4)] []) [3, 4, 5, 6, 7, 8, 27, 28, 68, 69, 70]))))) [3, 4, 5, 6, 7, 8, 27, 28, 68, 69, 70]) (r 2 [3, 4, 5, 6, 7, 8, 27, 28, 68, 69, 70]))))
def hint116L3 : Hint :=
  .live [3, 4, 5, 6, 27, 28] (.seq (r 1 [3, 4, 5, 6, 27, 28, 29]) (.seq (.after (.cond (.leaf) (l [3, 4, 5])) [3, 4, 5, 6, 27, 28]) (.seq (.after (.block (.seq (r 2 [3, 4, 5, 6, 7, 27, 28]) (.seq (r 4 [3, 4, 5, 6, 7, 8, 27, 28]) (.seq (.after (.reg [(true, 23), (false, 1)] []) [3, 4, 5, 6, 7, 8, 27, 28]) (.seq (r 10 [3, 4, 5, 6, 7, 8, 27, 28]) (.seq (.seq (r 6 [3, 4, 5, 6, 7, 8, 27, 28, 68, 69, 70]) (.after (.block (.loop hint116L2)) [3, 4, 5, 6, 8, 27, 28])) (r 3 [3, 4, 5, 6, 27, 28]))))))) [3, 4, 5, 6, 27, 28]) (r 2 [3, 4, 5, 6, 27, 28]))))
def hint116 : Hint :=
  .seq (r 1 [0]) (.seq (r 6 [0, 3]) (.seq (r 4 [3, 4]) (.seq (r 1 [3, 4, 5]) (.seq (r 1 [3, 4, 5, 6]) (.seq (.seq (r 3 [3, 4, 5, 6, 27, 28]) (.after (.block (.loop hint116L3)) [3, 4, 5])) (.seq (.seq (r 3 [3, 4, 5, 108, 109, 110]) (.after (.block (.loop hint116L1)) [3, 4, 5])) (.seq (r 7 [3, 4, 5]) (.seq (r 4 [3, 4, 5, 16]) (.seq (.seq (r 3 [3, 5, 16, 152, 153]) (.after (.block (.loop hint116L0)) [3])) (.seq (r 2 [2]) (l [2])))))))))))
def hint117 : Hint :=
  .seq (r 1 [0, 1]) (.seq (r 4 [3]) (l [3]))
def hint118L0 : Hint :=
  .live [1, 2, 3, 9, 10] (.seq (r 1 [1, 2, 3, 9, 10, 11]) (.seq (.after (.cond (.leaf) (l [])) [1, 2, 3, 9, 10]) (.seq (.after (.block (.seq (.seq (r 9 [1, 2, 3, 9, 10, 20]) (.after (.cond (.seq (r 1 [6]) (l [6])) (.leaf)) [1, 2, 3, 9, 10])) (.seq (.seq (r 3 [1, 2, 3, 9, 10, 23]) (.after (.cond (.seq (r 1 [6]) (l [6])) (.leaf)) [1, 2, 3, 9, 10])) (r 7 [1, 2, 3, 9, 10])))) [1, 2, 3, 9, 10]) (r 2 [1, 2, 3, 9, 10]))))
def hint118 : Hint :=
  .seq (.after (.reg [(false, 2)] [0]) [1, 2, 3]) (.seq (.seq (r 4 [1, 2, 3, 9, 10]) (.after (.block (.loop hint118L0)) [])) (.seq (r 1 [6]) (l [6])))
def hint119 : Hint :=
  .seq (.after (.reg [(false, 2)] [0]) [1, 2]) (.seq (r 5 [3]) (l [3]))
def hint120L0 : Hint :=
  .live [0, 1, 7, 8] (.seq (r 1 [0, 1, 7, 8, 9]) (.seq (.after (.cond (.leaf) (l [])) [0, 1, 7, 8]) (.seq (.after (.block (.seq (r 2 [0, 1, 5, 7, 8]) (.seq (r 6 [0, 1, 5, 7, 8, 16]) (.after (.cond (.seq (r 2 [4]) (l [4])) (.leaf)) [0, 1, 7, 8])))) [0, 1, 7, 8]) (r 2 [0, 1, 7, 8]))))
def hint120 : Hint :=
  .seq (r 1 [0, 1]) (.seq (.seq (r 3 [0, 1, 7, 8]) (.after (.block (.loop hint120L0)) [])) (.seq (r 1 [4]) (l [4])))
def hint121 : Hint :=
  .seq (r 2 [1, 2, 3, 4, 5]) (.seq (r 5 [4, 7]) (.seq (r 3 [7]) (.seq (r 3 [6]) (l [6]))))
def hint122L0 : Hint :=
  .live [1, 2, 5] (.seq (.seq (r 17 [1, 2, 5, 22]) (.after (.cond (.leaf) (l [5])) [1, 2, 5])) (.after (.block (.seq (r 5 [1, 2, 5]) (r 7 [1, 2, 5]))) [1, 2, 5]))
def hint122 : Hint :=
  .seq (.after (.reg [(false, 2)] [0]) [1, 2]) (.seq (r 1 [1, 2, 5]) (.seq (.after (.block (.loop hint122L0)) [5]) (.seq (r 2 [4]) (l [4]))))
def hint137 : Hint :=
  .seq (r 2 [0, 1]) (.seq (.seq (r 4 [0, 1, 9]) (.after (.cond (.seq (r 3 [4, 5]) (l [4, 5])) (.leaf)) [0, 1])) (.seq (r 6 [4, 5]) (l [4, 5])))
def hint138 : Hint :=
  .seq (r 3 [0, 1]) (.seq (r 9 [4, 5, 6]) (l [4, 5, 6]))
def hint139 : Hint :=
  .seq (r 1 [0, 1]) (.seq (.seq (r 6 [0, 1, 12]) (.after (.cond (.seq (r 2 [4]) (l [4])) (.leaf)) [0, 1])) (.seq (.seq (r 8 [0, 1, 21]) (.after (.cond (.seq (r 5 [4]) (l [4])) (.leaf)) [0, 1])) (.seq (.seq (r 8 [0, 1, 5, 6]) (.seq (r 1 [0, 1, 5, 31]) (.after (.cond (.seq (r 3 [4]) (l [4])) (.leaf)) [0, 1]))) (.seq (r 4 [4]) (l [4])))))
def hint140 : Hint :=
  .seq (r 1 [0, 1]) (.seq (r 14 [4]) (l [4]))
def hint141 : Hint :=
  .seq (r 1 [0, 1]) (.seq (r 17 [4]) (l [4]))
def hint142L0 : Hint :=
  .live [0, 1, 7, 8] (.seq (r 1 [0, 1, 7, 8, 9]) (.seq (.after (.cond (.leaf) (l [])) [0, 1, 7, 8]) (.seq (.after (.block (.seq (r 2 [0, 1, 5, 7, 8]) (.seq (r 6 [0, 1, 5, 7, 8, 16]) (.after (.cond (.seq (r 2 [4]) (l [4])) (.leaf)) [0, 1, 7, 8])))) [0, 1, 7, 8]) (r 2 [0, 1, 7, 8]))))
def hint142 : Hint :=
  .seq (r 1 [0, 1]) (.seq (.seq (r 3 [0, 1, 7, 8]) (.after (.block (.loop hint142L0)) [])) (.seq (r 1 [4]) (l [4])))
def hint143L0 : Hint :=
  .live [0, 1, 2, 3, 9, 10] (.seq (.seq (r 3 [0, 1, 2, 3, 9, 10, 36]) (.after (.cond (.leaf) (l [0, 9, 10])) [0, 1, 2, 3, 9, 10])) (.after (.block (.seq (r 4 [0, 1, 2, 3, 9, 10, 11]) (.seq (.seq (r 2 [0, 1, 2, 3, 9, 10, 11, 41]) (.after (.cond (l [0, 9, 10]) (.leaf)) [0, 1, 2, 3, 9, 10, 11])) (.seq (r 9 [0, 1, 2, 3, 9, 10, 11]) (.seq (r 7 [0, 1, 2, 3, 9, 10]) (r 3 [0, 1, 2, 3, 9, 10])))))) [0, 1, 2, 3, 9, 10]))
def hint143 : Hint :=
  .seq (r 1 [0, 1, 2, 3]) (.seq (.seq (r 2 [0, 1, 2, 3, 13]) (.after (.cond (.seq (r 1 [8]) (l [8])) (.leaf)) [0, 1, 2, 3])) (.seq (.seq (r 2 [0, 1, 2, 3, 15]) (.after (.cond (.seq (r 4 [8]) (l [8])) (.leaf)) [0, 1, 2, 3])) (.seq (.seq (r 2 [0, 1, 2, 3, 20]) (.after (.cond (r 5 [0, 1, 2, 3]) (.leaf)) [0, 1, 2, 3])) (.seq (r 6 [0, 1, 2, 3]) (.seq (r 3 [0, 1, 2, 3, 9]) (.seq (r 3 [0, 1, 2, 3, 9]) (.seq (r 1 [0, 1, 2, 3, 9, 10]) (.seq (.after (.block (.loop hint143L0)) [0, 9, 10]) (.seq (r 5 [9, 10]) (.seq (r 5 [8]) (l [8])))))))))))
def hint144 : Hint :=
  .seq (r 1 [0]) (.seq (r 1 [0, 3]) (.seq (r 10 [2]) (l [2])))
def hint145 : Hint :=
  .seq (r 1 [0, 1]) (.seq (r 5 [4]) (l [4]))
def hint146 : Hint :=
  .seq (r 1 [0]) (.seq (.after (.block (.seq (.seq (r 7 [0, 3]) (.after (.cond (.leaf) (.seq (r 7 [0, 3]) (.after (.cond (.leaf) (.seq (r 7 [0, 3]) (.after (.cond (.leaf) (.seq (r 3 [0, 3]) (.after (.cond (.leaf) (r 3 [3])) [3]))) [3]))) [3]))) [3])) (.after (.cond (.seq (r 1 [2]) (l [2])) (.leaf)) []))) []) (.seq (r 1 [2]) (l [2])))
def hint155L0 : Hint :=
  .live [0, 1, 2, 10, 11] (.seq (r 1 [0, 1, 2, 10, 11, 12]) (.seq (.after (.cond (.leaf) (l [])) [0, 1, 2, 10, 11]) (.seq (.after (.block (.seq (.after (.reg [(true, 5), (false, 2), (true, 3), (false, 1)] []) [0, 1, 2, 4, 5, 10, 11]) (.seq (.seq (r 8 [0, 1, 2, 4, 10, 11, 29]) (.after (.cond (l []) (.leaf)) [0, 1, 2, 4, 10, 11])) (r 2 [0, 1, 2, 10, 11])))) [0, 1, 2, 10, 11]) (r 2 [0, 1, 2, 10, 11]))))
def hint155 : Hint :=
  .seq (r 6 [0, 1, 2, 10, 11]) (.after (.block (.loop hint155L0)) [])
def hint156 : Hint :=
  .seq (r 3 [2, 3]) (.seq (r 2 [4]) (l [4]))
def hint161L0 : Hint :=
  .live [0, 1, 2, 8, 10, 110, 111, 112] (.seq (r 1 [0, 1, 2, 8, 10, 110, 111, 112, 113]) (.seq (.after (.cond (.leaf) (l [0, 1, 10])) [0, 1, 2, 8, 10, 110, 111, 112]) (.seq (.after (.block (.seq (.after (.reg [(false, 6)] [3]) [0, 1, 2, 8, 10, 14, 15, 110, 111, 112]) (.seq (.after (.reg [(true, 11), (false, 2)] []) [0, 1, 2, 8, 10, 14, 15, 16, 110, 111, 112]) (.seq (.seq (r 2 [0, 1, 2, 8, 10, 14, 15, 16, 110, 111, 112, 130]) (.after (.cond (l [0, 1, 2, 8, 10, 110, 111, 112]) (.leaf)) [0, 1, 2, 8, 10, 14, 15, 16, 110, 111, 112])) (.seq (r 12 [0, 1, 2, 8, 10, 14, 15, 16, 17, 18, 110, 111, 112]) (.seq (.seq (r 2 [0, 1, 2, 8, 10, 14, 15, 16, 17, 110, 111, 112, 142]) (.after (.cond (.seq (r 6 [0, 1, 2, 8, 10, 14, 15, 16, 17, 110, 111, 112]) (.seq (r 8 [0, 1, 2, 8, 10, 14, 16, 17, 110, 111, 112]) (r 10 [0, 1, 2, 8, 10, 14, 16, 17, 110, 111, 112]))) (.leaf)) [0, 1, 2, 8, 10, 14, 16, 17, 110, 111, 112])) (.seq (.after (.reg [(true, 11), (false, 2)] []) [0, 1, 2, 8, 10, 16, 17, 110, 111, 112]) (r 5 [0, 1, 2, 8, 10, 110, 111, 112])))))))) [0, 1, 2, 8, 10, 110, 111, 112]) (r 2 [0, 1, 2, 8, 10, 110, 111, 112]))))
def hint161L1 : Hint :=
  .live [0, 1, 2, 8, 9, 10, 94] (.seq (.after (.next) [0, 1, 2, 8, 9, 10, 94, 96]) (.seq (.after (.cond (.leaf) (l [0, 1, 2, 8, 9, 10])) [0, 1, 2, 8, 9, 10, 94]) (.after (.block (.seq (.after (.reg [(false, 6)] [3]) [0, 1, 2, 8, 9, 10, 12, 13, 94]) (r 4 [0, 1, 2, 8, 9, 10, 94]))) [0, 1, 2, 8, 9, 10, 94])))
def hint161 : Hint :=
  .seq (.seq (r 4 [0, 1, 2, 3, 22]) (.after (.cond (l []) (.leaf)) [0, 1, 2, 3])) (.seq (r 4 [0, 1, 2, 3]) (.seq (r 8 [0, 1, 2, 3, 8]) (.seq (.after (.reg [(true, 8), (false, 2)] []) [0, 1, 2, 3, 8, 9]) (.seq (r 2 [0, 1, 2, 3, 8, 9, 10]) (.seq (.seq (r 5 [0, 1, 2, 3, 8, 9, 10, 47]) (.after (.cond (.seq (r 8 [0, 1, 2, 8, 9, 10]) (.seq (.after (.reg [(true, 12), (false, 1)] [11]) [0, 1, 2, 8, 9, 10, 11]) (.seq (.after (.reg [(true, 17), (false, 3)] [13, 16]) [0, 1, 2, 8, 9, 10]) (.seq (.after (.reg [(true, 8), (false, 3)] []) [0, 1, 2, 8, 9, 10, 94]) (.after (.block (.loop hint161L1)) [0, 1, 2, 8, 9, 10]))))) (.leaf)) [0, 1, 2, 8, 9, 10])) (.seq (r 4 [0, 1, 2, 8, 9, 10]) (.seq (.seq (r 6 [0, 1, 2, 8, 10, 110, 111, 112]) (.after (.block (.loop hint161L0)) [0, 1, 10])) (r 8 []))))))))
def hint162 : Hint :=
  .seq (.after (.reg [(false, 2)] [0]) [1, 2, 3, 4]) (.seq (r 17 [5]) (l [5]))
def hint163L0 : Hint :=
  .live [0, 1, 7, 8] (.seq (r 1 [0, 1, 7, 8, 9]) (.seq (.after (.cond (.leaf) (l [])) [0, 1, 7, 8]) (.seq (.after (.block (.seq (r 2 [0, 1, 5, 7, 8]) (.seq (r 6 [0, 1, 5, 7, 8, 16]) (.after (.cond (.seq (r 2 [4]) (l [4])) (.leaf)) [0, 1, 7, 8])))) [0, 1, 7, 8]) (r 2 [0, 1, 7, 8]))))
def hint163 : Hint :=
  .seq (r 1 [0, 1]) (.seq (.seq (r 3 [0, 1, 7, 8]) (.after (.block (.loop hint163L0)) [])) (.seq (r 1 [4]) (l [4])))
def hint171L0 : Hint :=
  .live [0, 1] (.seq (.seq (r 9 [0, 1, 13]) (.after (.cond (.leaf) (l [0])) [0, 1])) (.after (.block (r 3 [0, 1])) [0, 1]))
def hint171 : Hint :=
  .seq (r 1 [0, 1]) (.seq (.after (.block (.loop hint171L0)) [0]) (.seq (r 2 [4]) (l [4])))
def hint172 : Hint :=
  .seq (r 3 [0, 1]) (.seq (.seq (r 4 [0, 1, 7]) (.seq (r 2 [0, 1, 7, 12]) (.after (.cond (.seq (.after (.reg [(true, 10), (false, 2)] []) [4, 5, 6]) (l [4, 5, 6])) (.leaf)) [0]))) (.seq (r 4 [4, 5, 6]) (l [4, 5, 6])))
def hint173 : Hint :=
  .seq (r 1 [0, 1]) (.seq (r 4 [4]) (l [4]))
def hint174L0 : Hint :=
  .live [0, 1, 5] (.after (.block (.seq (r 4 [0, 1, 5, 6]) (.seq (.seq (r 2 [0, 1, 5, 6, 24]) (.after (.cond (.seq (r 2 [4]) (l [4])) (.leaf)) [0, 1, 5, 6])) (.seq (r 3 [0, 1, 5, 6]) (r 7 [0, 1, 5]))))) [0, 1, 5])
def hint174 : Hint :=
  .seq (r 1 [0, 1]) (.seq (.seq (r 3 [0, 1, 9]) (.after (.cond (.seq (r 4 [4]) (l [4])) (.leaf)) [0, 1])) (.seq (.seq (r 3 [0, 1, 15]) (.after (.cond (.seq (r 5 [4]) (l [4])) (.leaf)) [0, 1])) (.seq (r 1 [0, 1, 5]) (.after (.block (.loop hint174L0)) [4]))))
def hint176L0 : Hint :=
  .live [0, 1, 7, 8] (.seq (r 1 [0, 1, 7, 8, 9]) (.seq (.after (.cond (.leaf) (l [])) [0, 1, 7, 8]) (.seq (.after (.block (.seq (r 2 [0, 1, 5, 7, 8]) (.seq (r 6 [0, 1, 5, 7, 8, 16]) (.after (.cond (.seq (r 2 [4]) (l [4])) (.leaf)) [0, 1, 7, 8])))) [0, 1, 7, 8]) (r 2 [0, 1, 7, 8]))))
def hint176 : Hint :=
  .seq (r 1 [0, 1]) (.seq (.seq (r 3 [0, 1, 7, 8]) (.after (.block (.loop hint176L0)) [])) (.seq (r 1 [4]) (l [4])))
def hint179 : Hint :=
  .seq (.after (.reg [(false, 1)] [0]) [0]) (.seq (r 10 [0]) (l [0]))
def hint180 : Hint :=
  .seq (r 1 [0, 1]) (.seq (r 5 [4]) (l [4]))
def hint181 : Hint :=
  .seq (r 1 [0]) (.seq (r 8 [2]) (l [2]))
def hint182L0 : Hint :=
  .live [0, 42, 43, 44] (.seq (r 1 [0, 42, 43, 44, 45]) (.seq (.after (.cond (.leaf) (l [])) [0, 42, 43, 44]) (.seq (.after (.block (.seq (.after (.reg [(false, 4)] [2]) [0, 11, 42, 43, 44]) (.seq (r 10 [0, 42, 43, 44, 57]) (.after (.cond (.seq (r 1 [4]) (l [4])) (.leaf)) [0, 42, 43, 44])))) [0, 42, 43, 44]) (r 2 [0, 42, 43, 44]))))
def hint182L1 : Hint :=
  .live [0, 3, 30, 31, 32] (.seq (r 1 [0, 3, 30, 31, 32, 33]) (.seq (.after (.cond (.leaf) (l [0, 3])) [0, 3, 30, 31, 32]) (.seq (.after (.block (.seq (r 3 [0, 3, 9, 30, 31, 32]) (.seq (r 4 [0, 3, 30, 31, 32, 39]) (.after (.cond (.seq (r 1 [4]) (l [4])) (.leaf)) [0, 3, 30, 31, 32])))) [0, 3, 30, 31, 32]) (r 2 [0, 3, 30, 31, 32]))))
def hint182 : Hint :=
  .seq (.after (.reg [(false, 2)] [0]) [0, 3]) (.seq (r 10 [0, 3, 5, 6, 7]) (.seq (.seq (r 8 [0, 3, 5, 6, 26]) (.after (.cond (.seq (r 1 [4]) (l [4])) (.leaf)) [0, 3, 5, 6])) (.seq (.seq (r 6 [0, 3, 30, 31, 32]) (.after (.block (.loop hint182L1)) [0, 3])) (.seq (.seq (r 4 [0, 42, 43, 44]) (.after (.block (.loop hint182L0)) [])) (.seq (r 1 [4]) (l [4]))))))
def hint189L0 : Hint :=
  .live [4, 37, 38, 39] (.seq (r 1 [4, 37, 38, 39, 40]) (.seq (.after (.cond (.leaf) (l [4])) [4, 37, 38, 39]) (.seq (.after (.block (.seq (r 3 [4, 6, 37, 38, 39]) (r 6 [4, 37, 38, 39]))) [4, 37, 38, 39]) (r 2 [4, 37, 38, 39]))))
def hint189L1 : Hint :=
  .live [1, 16, 17, 18] (.seq (r 1 [1, 16, 17, 18, 19]) (.seq (.after (.cond (.leaf) (l [1])) [1, 16, 17, 18]) (.seq (.after (.block (.seq (.after (.reg [(false, 4)] [2]) [1, 3, 16, 17, 18]) (r 11 [1, 16, 17, 18]))) [1, 16, 17, 18]) (r 2 [1, 16, 17, 18]))))
def hint189 : Hint :=
  .seq (r 1 []) (.seq (.after (.reg [(false, 3)] [1]) [1]) (.seq (.seq (r 11 [1, 16, 17, 18]) (.after (.block (.loop hint189L1)) [1])) (.seq (r 5 [4]) (.seq (.seq (r 3 [4, 37, 38, 39]) (.after (.block (.loop hint189L0)) [4])) (.seq (r 2 [0]) (l [0]))))))
def hint205L0 : Hint :=
  .live [0, 1, 5, 6, 7, 8, 9, 10] (.seq (.seq (r 3 [0, 1, 5, 6, 7, 8, 9, 10, 59]) (.after (.cond (.leaf) (l [])) [0, 1, 5, 6, 7, 8, 9, 10])) (.after (.block (.seq (.seq (r 5 [0, 1, 5, 6, 7, 8, 9, 10, 64]) (.after (.cond (.seq (r 8 [0, 1, 5, 6, 7, 8, 9, 10, 11]) (.seq (.seq (r 2 [0, 1, 5, 6, 7, 8, 9, 10, 11, 73]) (.after (.cond (.seq (r 1 [4]) (l [4])) (.leaf)) [0, 1, 5, 6, 7, 8, 9, 10, 11])) (r 5 [0, 1, 5, 6, 7, 8, 9, 10]))) (.leaf)) [0, 1, 5, 6, 7, 8, 9, 10])) (.seq (.seq (r 16 [0, 1, 5, 6, 7, 8, 9, 10, 93]) (.after (.cond (.seq (r 2 [4]) (l [4])) (.leaf)) [0, 1, 5, 6, 7, 8, 9, 10])) (.seq (r 3 [0, 1, 5, 6, 7, 8, 9, 10]) (.seq (r 3 [0, 1, 5, 6, 7, 8, 9, 10]) (.seq (r 9 [0, 1, 5, 6, 7, 8, 9, 10, 107]) (.after (.cond (.seq (r 6 [8, 12]) (.seq (.seq (r 2 [8, 12, 114]) (.after (.cond (.seq (r 4 [4]) (l [4])) (.leaf)) [])) (.seq (r 1 [4]) (l [4])))) (.seq (r 15 [0, 1, 5, 6, 7, 8, 9, 10, 132]) (.after (.cond (.seq (r 6 [8, 13]) (.seq (.seq (r 2 [8, 13, 139]) (.after (.cond (.seq (r 1 [4]) (l [4])) (.leaf)) [8, 13])) (.seq (r 4 [4]) (l [4])))) (.leaf)) [0, 1, 5, 6, 7, 8, 9, 10]))) [0, 1, 5, 6, 7, 8, 9, 10]))))))) [0, 1, 5, 6, 7, 8, 9, 10]))
def hint205 : Hint :=
  .seq (r 1 [0, 1]) (.seq (r 3 [0, 1, 5]) (.seq (.after (.block (.seq (r 8 [0, 1, 5, 16]) (.after (.cond (.seq (r 1 [4]) (l [4])) (.seq (r 3 [0, 1, 5, 24]) (.after (.cond (.seq (r 5 [4]) (l [4])) (.seq (r 5 [0, 1, 5, 31]) (.after (.cond (.seq (r 1 [4]) (l [4])) (.seq (r 9 [0, 1, 5, 36]) (.after (.cond (.seq (r 4 [4]) (l [4])) (.leaf)) [0, 1, 5]))) [0, 1, 5]))) [0, 1, 5]))) [0, 1, 5]))) [0, 1, 5]) (.seq (r 3 [0, 1, 5, 6]) (.seq (r 3 [0, 1, 5, 6, 7]) (.seq (r 1 [0, 1, 5, 6, 7, 8]) (.seq (r 6 [0, 1, 5, 6, 7, 8, 9]) (.seq (r 1 [0, 1, 5, 6, 7, 8, 9, 10]) (.seq (.after (.block (.loop hint205L0)) []) (.seq (r 1 [4]) (l [4]))))))))))
def hint211 : Hint :=
  .seq (r 1 [0]) (.seq (.seq (r 2 [0, 4]) (.after (.cond (.seq (r 1 [2]) (l [2])) (.leaf)) [0])) (.seq (r 4 [2]) (l [2])))
def hint226 : Hint :=
  .seq (r 1 [0, 1]) (.seq (r 4 [4]) (l [4]))
def hint284L0 : Hint :=
  .live [1, 24, 25] (.seq (r 1 [1, 24, 25, 26]) (.seq (.after (.cond (.leaf) (l [1])) [1, 24, 25]) (.seq (.after (.block (.seq (.after (.reg [(false, 3)] [1]) [1, 5, 24, 25]) (.seq (.after (.reg [(false, 7)] [5]) [1, 6, 24, 25]) (.seq (.after (.reg [(true, 6), (false, 1)] []) [1, 6, 24, 25]) (.after (.reg [(true, 5), (false, 1)] []) [1, 24, 25]))))) [1, 24, 25]) (r 2 [1, 24, 25]))))
def hint284L1 : Hint :=
  .live [1, 14, 15] (.seq (r 1 [1, 14, 15, 16]) (.seq (.after (.cond (.leaf) (l [1])) [1, 14, 15]) (.seq (.after (.block (.seq (r 2 [1, 3, 14, 15]) (r 6 [1, 14, 15]))) [1, 14, 15]) (r 2 [1, 14, 15]))))
def hint284 : Hint :=
  .seq (r 1 []) (.seq (r 11 [1]) (.seq (.seq (r 2 [1, 14, 15]) (.after (.block (.loop hint284L1)) [1])) (.seq (.seq (r 2 [1, 24, 25]) (.after (.block (.loop hint284L0)) [1])) (.seq (r 2 [0]) (l [0])))))
def hint285L0 : Hint :=
  .live [0, 1, 9, 10, 11] (.seq (r 1 [0, 1, 9, 10, 11, 12]) (.seq (.after (.cond (.leaf) (l [])) [0, 1, 9, 10, 11]) (.seq (.after (.block (.seq (.after (.reg [(false, 4)] [2]) [0, 1, 5, 9, 10, 11]) (.seq (.seq (r 3 [0, 1, 5, 9, 10, 11, 17]) (.after (.cond (l [0, 1, 9, 10, 11]) (.leaf)) [0, 1, 5, 9, 10, 11])) (.seq (.seq (r 3 [0, 1, 5, 9, 10, 11, 20]) (.after (.cond (.after (.reg [(true, 13), (false, 4)] []) [0, 1, 5, 9, 10, 11]) (.leaf)) [0, 1, 5, 9, 10, 11])) (.seq (.after (.reg [(true, 18), (false, 1)] []) [0, 1, 9, 10, 11]) (r 10 [0, 1, 9, 10, 11])))))) [0, 1, 9, 10, 11]) (r 2 [0, 1, 9, 10, 11]))))
def hint285 : Hint :=
  .seq (r 6 [0, 1, 9, 10, 11]) (.after (.block (.loop hint285L0)) [])
def hint286L0 : Hint :=
  .live [0, 1, 2, 12, 13, 14] (.seq (r 1 [0, 1, 2, 12, 13, 14, 15]) (.seq (.after (.cond (.leaf) (l [])) [0, 1, 2, 12, 13, 14]) (.seq (.after (.block (.seq (.after (.reg [(false, 4)] [2]) [0, 1, 2, 7, 12, 13, 14]) (.seq (.after (.reg [(true, 10), (false, 1)] [9]) [0, 1, 2, 7, 8, 12, 13, 14]) (.seq (.seq (r 2 [0, 1, 2, 7, 8, 12, 13, 14, 28]) (.after (.cond (l [0, 1, 2, 12, 13, 14]) (.leaf)) [0, 1, 2, 7, 8, 12, 13, 14])) (.seq (.seq (r 3 [0, 1, 2, 8, 12, 13, 14, 31]) (.after (.cond (.after (.reg [(true, 11), (false, 3)] []) [0, 1, 2, 8, 12, 13, 14]) (.leaf)) [0, 1, 2, 8, 12, 13, 14])) (.seq (.after (.reg [(true, 9), (false, 1)] []) [0, 1, 2, 12, 13, 14]) (r 8 [0, 1, 2, 12, 13, 14]))))))) [0, 1, 2, 12, 13, 14]) (r 2 [0, 1, 2, 12, 13, 14]))))
def hint286 : Hint :=
  .seq (r 6 [0, 1, 2, 12, 13, 14]) (.after (.block (.loop hint286L0)) [])
noncomputable def E : Env := ⟨Go.Proofs.Tryd.prog, fun f => List.lookup f [(30, 25), (58, 27), (40, 30), (38, 34), (79, 38), (8, 49), (12, 54), (18, 56), (16, 59), (14, 61), (26, 62), (25, 63), (24, 64), (23, 65), (22, 66), (21, 67), (20, 68), (19, 69), (6, 70), (68, 85), (78, 86), (66, 88), (67, 89), (54, 90), (53, 91), (55, 92), (27, 96), (34, 97), (31, 98), (32, 99), (33, 100), (37, 103), (43, 116), (45, 117), (44, 118), (47, 119), (46, 120), (48, 121), (51, 122), (92, 137), (99, 138), (65, 139), (90, 140), (91, 141), (73, 142), (74, 143), (56, 144), (76, 145), (75, 146), (69, 155), (41, 156), (72, 161), (50, 162), (49, 163), (86, 171), (109, 172), (97, 173), (96, 174), (98, 176), (52, 179), (77, 180), (57, 181), (59, 182), (70, 189), (108, 205), (93, 211), (113, 226), (29, 284), (71, 285), (94, 286)], rndOf Go.Abs.AbsSlot.T⟩
theorem c25 : cFunc E false hint25 Go.Proofs.Tryd.f30 = some code25 := by kernel_rfl
theorem c27 : cFunc E false hint27 Go.Proofs.Tryd.f58 = some code27 := by kernel_rfl
theorem c30 : cFunc E false hint30 Go.Proofs.Tryd.f40 = some code30 := by kernel_rfl
theorem c34 : cFunc E false hint34 Go.Proofs.Tryd.f38 = some code34 := by kernel_rfl
theorem c38 : cFunc E false hint38 Go.Proofs.Tryd.f79 = some code38 := by kernel_rfl
theorem c49 : cFunc E false hint49 Go.Proofs.Tryd.f8 = some code49 := by kernel_rfl
theorem c54 : cFunc E false hint54 Go.Proofs.Tryd.f12 = some code54 := by kernel_rfl
theorem c56 : cFunc E false hint56 Go.Proofs.Tryd.f18 = some code56 := by kernel_rfl
theorem c59 : cFunc E false hint59 Go.Proofs.Tryd.f16 = some code59 := by kernel_rfl
theorem c61 : cFunc E true hint61 Go.Proofs.Tryd.f14 = some code61 := by kernel_rfl
theorem c62 : cFunc E false hint62 Go.Proofs.Tryd.f26 = some code62 := by kernel_rfl
theorem c63 : cFunc E false hint63 Go.Proofs.Tryd.f25 = some code63 := by kernel_rfl
theorem c64 : cFunc E false hint64 Go.Proofs.Tryd.f24 = some code64 := by kernel_rfl
theorem c65 : cFunc E false hint65 Go.Proofs.Tryd.f23 = some code65 := by kernel_rfl
theorem c66 : cFunc E false hint66 Go.Proofs.Tryd.f22 = some code66 := by kernel_rfl
theorem c67 : cFunc E false hint67 Go.Proofs.Tryd.f21 = some code67 := by kernel_rfl
theorem c68 : cFunc E false hint68 Go.Proofs.Tryd.f20 = some code68 := by kernel_rfl
theorem c69 : cFunc E false hint69 Go.Proofs.Tryd.f19 = some code69 := by kernel_rfl
theorem c70 : cFunc E false hint70 Go.Proofs.Tryd.f6 = some code70 := by kernel_rfl
theorem c85 : cFunc E false hint85 Go.Proofs.Tryd.f68 = some code85 := by kernel_rfl
theorem c86 : cFunc E false hint86 Go.Proofs.Tryd.f78 = some code86 := by kernel_rfl
theorem c88 : cFunc E false hint88 Go.Proofs.Tryd.f66 = some code88 := by kernel_rfl
theorem c89 : cFunc E false hint89 Go.Proofs.Tryd.f67 = some code89 := by kernel_rfl
theorem c90 : cFunc E false hint90 Go.Proofs.Tryd.f54 = some code90 := by kernel_rfl
theorem c91 : cFunc E false hint91 Go.Proofs.Tryd.f53 = some code91 := by kernel_rfl
theorem c92 : cFunc E false hint92 Go.Proofs.Tryd.f55 = some code92 := by kernel_rfl
theorem c96 : cFunc E false hint96 Go.Proofs.Tryd.f27 = some code96 := by kernel_rfl
theorem c97 : cFunc E false hint97 Go.Proofs.Tryd.f34 = some code97 := by kernel_rfl
theorem c98 : cFunc E false hint98 Go.Proofs.Tryd.f31 = some code98 := by kernel_rfl
theorem c99 : cFunc E false hint99 Go.Proofs.Tryd.f32 = some code99 := by kernel_rfl
theorem c100 : cFunc E false hint100 Go.Proofs.Tryd.f33 = some code100 := by kernel_rfl
theorem c103 : cFunc E false hint103 Go.Proofs.Tryd.f37 = some code103 := by kernel_rfl
theorem c116 : cFunc E false hint116 Go.Proofs.Tryd.f43 = some code116 := by kernel_rfl
theorem c117 : cFunc E false hint117 Go.Proofs.Tryd.f45 = some code117 := by kernel_rfl
theorem c118 : cFunc E false hint118 Go.Proofs.Tryd.f44 = some code118 := by kernel_rfl
theorem c119 : cFunc E false hint119 Go.Proofs.Tryd.f47 = some code119 := by kernel_rfl
theorem c120 : cFunc E false hint120 Go.Proofs.Tryd.f46 = some code120 := by kernel_rfl
theorem c121 : cFunc E false hint121 Go.Proofs.Tryd.f48 = some code121 := by kernel_rfl
theorem c122 : cFunc E false hint122 Go.Proofs.Tryd.f51 = some code122 := by kernel_rfl
theorem c137 : cFunc E false hint137 Go.Proofs.Tryd.f92 = some code137 := by kernel_rfl
theorem c138 : cFunc E false hint138 Go.Proofs.Tryd.f99 = some code138 := by kernel_rfl
theorem c139 : cFunc E false hint139 Go.Proofs.Tryd.f65 = some code139 := by kernel_rfl
theorem c140 : cFunc E false hint140 Go.Proofs.Tryd.f90 = some code140 := by kernel_rfl
theorem c141 : cFunc E false hint141 Go.Proofs.Tryd.f91 = some code141 := by kernel_rfl
theorem c142 : cFunc E false hint142 Go.Proofs.Tryd.f73 = some code142 := by kernel_rfl
theorem c143 : cFunc E false hint143 Go.Proofs.Tryd.f74 = some code143 := by kernel_rfl
theorem c144 : cFunc E false hint144 Go.Proofs.Tryd.f56 = some code144 := by kernel_rfl
theorem c145 : cFunc E false hint145 Go.Proofs.Tryd.f76 = some code145 := by kernel_rfl
theorem c146 : cFunc E false hint146 Go.Proofs.Tryd.f75 = some code146 := by kernel_rfl
theorem c155 : cFunc E false hint155 Go.Proofs.Tryd.f69 = some code155 := by kernel_rfl
theorem c156 : cFunc E false hint156 Go.Proofs.Tryd.f41 = some code156 := by kernel_rfl
theorem c161 : cFunc E false hint161 Go.Proofs.Tryd.f72 = some code161 := by kernel_rfl
theorem c162 : cFunc E false hint162 Go.Proofs.Tryd.f50 = some code162 := by kernel_rfl
theorem c163 : cFunc E false hint163 Go.Proofs.Tryd.f49 = some code163 := by kernel_rfl
theorem c171 : cFunc E false hint171 Go.Proofs.Tryd.f86 = some code171 := by kernel_rfl
theorem c172 : cFunc E false hint172 Go.Proofs.Tryd.f109 = some code172 := by kernel_rfl
theorem c173 : cFunc E false hint173 Go.Proofs.Tryd.f97 = some code173 := by kernel_rfl
theorem c174 : cFunc E false hint174 Go.Proofs.Tryd.f96 = some code174 := by kernel_rfl
theorem c176 : cFunc E false hint176 Go.Proofs.Tryd.f98 = some code176 := by kernel_rfl
theorem c179 : cFunc E false hint179 Go.Proofs.Tryd.f52 = some code179 := by kernel_rfl
theorem c180 : cFunc E false hint180 Go.Proofs.Tryd.f77 = some code180 := by kernel_rfl
theorem c181 : cFunc E false hint181 Go.Proofs.Tryd.f57 = some code181 := by kernel_rfl
theorem c182 : cFunc E false hint182 Go.Proofs.Tryd.f59 = some code182 := by kernel_rfl
theorem c189 : cFunc E false hint189 Go.Proofs.Tryd.f70 = some code189 := by kernel_rfl
theorem c205 : cFunc E false hint205 Go.Proofs.Tryd.f108 = some code205 := by kernel_rfl
theorem c211 : cFunc E false hint211 Go.Proofs.Tryd.f93 = some code211 := by kernel_rfl
theorem c226 : cFunc E false hint226 Go.Proofs.Tryd.f113 = some code226 := by kernel_rfl
theorem c284 : cFunc E false hint284 Go.Proofs.Tryd.f29 = some code284 := by kernel_rfl
theorem c285 : cFunc E false hint285 Go.Proofs.Tryd.f71 = some code285 := by kernel_rfl
theorem c286 : cFunc E false hint286 Go.Proofs.Tryd.f94 = some code286 := by kernel_rfl
theorem r97 : RndOK E code97.body.rounds := ⟨rfl, trivial⟩
theorem r98 : RndOK E code98.body.rounds := ⟨rfl, trivial⟩
theorem agrees : Agrees E Go.Abs.AbsSlot.T := agrees_of ⟨.inl ⟨_, _, _, _, Go.Proofs.Tryd.func30, (rfl : Go.Abs.AbsSlot.T 25 = some code25), c25, trivial⟩, .inl ⟨_, _, _, _, Go.Proofs.Tryd.func58, (rfl : Go.Abs.AbsSlot.T 27 = some code27), c27, trivial⟩, .inl ⟨_, _, _, _, Go.Proofs.Tryd.func40, (rfl : Go.Abs.AbsSlot.T 30 = some code30), c30, trivial⟩, .inl ⟨_, _, _, _, Go.Proofs.Tryd.func38, (rfl : Go.Abs.AbsSlot.T 34 = some code34), c34, trivial⟩, .inl ⟨_, _, _, _, Go.Proofs.Tryd.func79, (rfl : Go.Abs.AbsSlot.T 38 = some code38), c38, trivial⟩, .inl ⟨_, _, _, _, Go.Proofs.Tryd.func8, (rfl : Go.Abs.AbsSlot.T 49 = some code49), c49, trivial⟩, .inl ⟨_, _, _, _, Go.Proofs.Tryd.func12, (rfl : Go.Abs.AbsSlot.T 54 = some code54), c54, trivial⟩, .inl ⟨_, _, _, _, Go.Proofs.Tryd.func18, (rfl : Go.Abs.AbsSlot.T 56 = some code56), c56, trivial⟩, .inl ⟨_, _, _, _, Go.Proofs.Tryd.func16, (rfl : Go.Abs.AbsSlot.T 59 = some code59), c59, trivial⟩, .inl ⟨_, _, _, _, Go.Proofs.Tryd.func14, (rfl : Go.Abs.AbsSlot.T 61 = some code61), c61, trivial⟩, .inl ⟨_, _, _, _, Go.Proofs.Tryd.func26, (rfl : Go.Abs.AbsSlot.T 62 = some code62), c62, trivial⟩, .inl ⟨_, _, _, _, Go.Proofs.Tryd.func25, (rfl : Go.Abs.AbsSlot.T 63 = some code63), c63, trivial⟩, .inl ⟨_, _, _, _, Go.Proofs.Tryd.func24, (rfl : Go.Abs.AbsSlot.T 64 = some code64), c64, trivial⟩, .inl ⟨_, _, _, _, Go.Proofs.Tryd.func23, (rfl : Go.Abs.AbsSlot.T 65 = some code65), c65, trivial⟩, .inl ⟨_, _, _, _, Go.Proofs.Tryd.func22, (rfl : Go.Abs.AbsSlot.T 66 = some code66), c66, trivial⟩, .inl ⟨_, _, _, _, Go.Proofs.Tryd.func21, (rfl : Go.Abs.AbsSlot.T 67 = some code67), c67, trivial⟩, .inl ⟨_, _, _, _, Go.Proofs.Tryd.func20, (rfl : Go.Abs.AbsSlot.T 68 = some code68), c68, trivial⟩, .inl ⟨_, _, _, _, Go.Proofs.Tryd.func19, (rfl : Go.Abs.AbsSlot.T 69 = some code69), c69, trivial⟩, .inl ⟨_, _, _, _, Go.Proofs.Tryd.func6, (rfl : Go.Abs.AbsSlot.T 70 = some code70), c70, trivial⟩, .inl ⟨_, _, _, _, Go.Proofs.Tryd.func68, (rfl : Go.Abs.AbsSlot.T 85 = some code85), c85, trivial⟩, .inl ⟨_, _, _, _, Go.Proofs.Tryd.func78, (rfl : Go.Abs.AbsSlot.T 86 = some code86), c86, trivial⟩, .inl ⟨_, _, _, _, Go.Proofs.Tryd.func66, (rfl : Go.Abs.AbsSlot.T 88 = some code88), c88, trivial⟩, .inl ⟨_, _, _, _, Go.Proofs.Tryd.func67, (rfl : Go.Abs.AbsSlot.T 89 = some code89), c89, trivial⟩, .inl ⟨_, _, _, _, Go.Proofs.Tryd.func54, (rfl : Go.Abs.AbsSlot.T 90 = some code90), c90, trivial⟩, .inl ⟨_, _, _, _, Go.Proofs.Tryd.func53, (rfl : Go.Abs.AbsSlot.T 91 = some code91), c91, trivial⟩, .inl ⟨_, _, _, _, Go.Proofs.Tryd.func55, (rfl : Go.Abs.AbsSlot.T 92 = some code92), c92, trivial⟩, .inl ⟨_, _, _, _, Go.Proofs.Tryd.func27, (rfl : Go.Abs.AbsSlot.T 96 = some code96), c96, trivial⟩, .inl ⟨_, _, _, _, Go.Proofs.Tryd.func34, (rfl : Go.Abs.AbsSlot.T 97 = some code97), c97, r97⟩, .inl ⟨_, _, _, _, Go.Proofs.Tryd.func31, (rfl : Go.Abs.AbsSlot.T 98 = some code98), c98, r98⟩, .inl ⟨_, _, _, _, Go.Proofs.Tryd.func32, (rfl : Go.Abs.AbsSlot.T 99 = some code99), c99, trivial⟩, .inl ⟨_, _, _, _, Go.Proofs.Tryd.func33, (rfl : Go.Abs.AbsSlot.T 100 = some code100), c100, trivial⟩, .inl ⟨_, _, _, _, Go.Proofs.Tryd.func37, (rfl : Go.Abs.AbsSlot.T 103 = some code103), c103, trivial⟩, .inl ⟨_, _, _, _, Go.Proofs.Tryd.func43, (rfl : Go.Abs.AbsSlot.T 116 = some code116), c116, trivial⟩, .inl ⟨_, _, _, _, Go.Proofs.Tryd.func45, (rfl : Go.Abs.AbsSlot.T 117 = some code117), c117, trivial⟩, .inl ⟨_, _, _, _, Go.Proofs.Tryd.func44, (rfl : Go.Abs.AbsSlot.T 118 = some code118), c118, trivial⟩, .inl ⟨_, _, _, _, Go.Proofs.Tryd.func47, (rfl : Go.Abs.AbsSlot.T 119 = some code119), c119, trivial⟩, .inl ⟨_, _, _, _, Go.Proofs.Tryd.func46, (rfl : Go.Abs.AbsSlot.T 120 = some code120), c120, trivial⟩, .inl ⟨_, _, _, _, Go.Proofs.Tryd.func48, (rfl : Go.Abs.AbsSlot.T 121 = some code121), c121, trivial⟩, .inl ⟨_, _, _, _, Go.Proofs.Tryd.func51, (rfl : Go.Abs.AbsSlot.T 122 = some code122), c122, trivial⟩, .inl ⟨_, _, _, _, Go.Proofs.Tryd.func92, (rfl : Go.Abs.AbsSlot.T 137 = some code137), c137, trivial⟩, .inl ⟨_, _, _, _, Go.Proofs.Tryd.func99, (rfl : Go.Abs.AbsSlot.T 138 = some code138), c138, trivial⟩, .inl ⟨_, _, _, _, Go.Proofs.Tryd.func65, (rfl : Go.Abs.AbsSlot.T 139 = some code139), c139, trivial⟩, .inl ⟨_, _, _, _, Go.Proofs.Tryd.func90, (rfl : Go.Abs.AbsSlot.T 140 = some code140), c140, trivial⟩, .inl ⟨_, _, _, _, Go.Proofs.Tryd.func91, (rfl : Go.Abs.AbsSlot.T 141 = some code141), c141, trivial⟩, .inl ⟨_, _, _, _, Go.Proofs.Tryd.func73, (rfl : Go.Abs.AbsSlot.T 142 = some code142), c142, trivial⟩, .inl ⟨_, _, _, _, Go.Proofs.Tryd.func74, (rfl : Go.Abs.AbsSlot.T 143 = some code143), c143, trivial⟩, .inl ⟨_, _, _, _, Go.Proofs.Tryd.func56, (rfl : Go.Abs.AbsSlot.T 144 = some code144), c144, trivial⟩, .inl ⟨_, _, _, _, Go.Proofs.Tryd.func76, (rfl : Go.Abs.AbsSlot.T 145 = some code145), c145, trivial⟩, .inl ⟨_, _, _, _, Go.Proofs.Tryd.func75, (rfl : Go.Abs.AbsSlot.T 146 = some code146), c146, trivial⟩, .inl ⟨_, _, _, _, Go.Proofs.Tryd.func69, (rfl : Go.Abs.AbsSlot.T 155 = some code155), c155, trivial⟩, .inl ⟨_, _, _, _, Go.Proofs.Tryd.func41, (rfl : Go.Abs.AbsSlot.T 156 = some code156), c156, trivial⟩, .inl ⟨_, _, _, _, Go.Proofs.Tryd.func72, (rfl : Go.Abs.AbsSlot.T 161 = some code161), c161, trivial⟩, .inl ⟨_, _, _, _, Go.Proofs.Tryd.func50, (rfl : Go.Abs.AbsSlot.T 162 = some code162), c162, trivial⟩, .inl ⟨_, _, _, _, Go.Proofs.Tryd.func49, (rfl : Go.Abs.AbsSlot.T 163 = some code163), c163, trivial⟩, .inl ⟨_, _, _, _, Go.Proofs.Tryd.func86, (rfl : Go.Abs.AbsSlot.T 171 = some code171), c171, trivial⟩, .inl ⟨_, _, _, _, Go.Proofs.Tryd.func109, (rfl : Go.Abs.AbsSlot.T 172 = some code172), c172, trivial⟩, .inl ⟨_, _, _, _, Go.Proofs.Tryd.func97, (rfl : Go.Abs.AbsSlot.T 173 = some code173), c173, trivial⟩, .inl ⟨_, _, _, _, Go.Proofs.Tryd.func96, (rfl : Go.Abs.AbsSlot.T 174 = some code174), c174, trivial⟩, .inl ⟨_, _, _, _, Go.Proofs.Tryd.func98, (rfl : Go.Abs.AbsSlot.T 176 = some code176), c176, trivial⟩, .inl ⟨_, _, _, _, Go.Proofs.Tryd.func52, (rfl : Go.Abs.AbsSlot.T 179 = some code179), c179, trivial⟩, .inl ⟨_, _, _, _, Go.Proofs.Tryd.func77, (rfl : Go.Abs.AbsSlot.T 180 = some code180), c180, trivial⟩, .inl ⟨_, _, _, _, Go.Proofs.Tryd.func57, (rfl : Go.Abs.AbsSlot.T 181 = some code181), c181, trivial⟩, .inl ⟨_, _, _, _, Go.Proofs.Tryd.func59, (rfl : Go.Abs.AbsSlot.T 182 = some code182), c182, trivial⟩, .inl ⟨_, _, _, _, Go.Proofs.Tryd.func70, (rfl : Go.Abs.AbsSlot.T 189 = some code189), c189, trivial⟩, .inl ⟨_, _, _, _, Go.Proofs.Tryd.func108, (rfl : Go.Abs.AbsSlot.T 205 = some code205), c205, trivial⟩, .inl ⟨_, _, _, _, Go.Proofs.Tryd.func93, (rfl : Go.Abs.AbsSlot.T 211 = some code211), c211, trivial⟩, .inl ⟨_, _, _, _, Go.Proofs.Tryd.func113, (rfl : Go.Abs.AbsSlot.T 226 = some code226), c226, trivial⟩, .inl ⟨_, _, _, _, Go.Proofs.Tryd.func29, (rfl : Go.Abs.AbsSlot.T 284 = some code284), c284, trivial⟩, .inl ⟨_, _, _, _, Go.Proofs.Tryd.func71, (rfl : Go.Abs.AbsSlot.T 285 = some code285), c285, trivial⟩, .inl ⟨_, _, _, _, Go.Proofs.Tryd.func94, (rfl : Go.Abs.AbsSlot.T 286 = some code286), c286, trivial⟩, trivial⟩
theorem mixed : E.P.follows .mixedOrders = true := by kernel_rfl
end Go.Abs.AbsSlotF
