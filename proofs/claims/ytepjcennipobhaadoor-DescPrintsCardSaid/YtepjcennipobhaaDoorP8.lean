/-
  The code is the functions': asked of the kernel.
-/
import Derived.Test.YtepjcennipobhaaDoorP4
import Derived.Test.YtepjcennipobhaaDoorP7
import Derived.Test.YtepjcennipobhaaDoorP5
import Derived.Test.YtepjcennipobhaaDoorProg
import Derived.KernelRfl
namespace Go.Abs.AbsDesc
set_option maxRecDepth 100000
def hint24 : Hint :=
  .after (.reg [(false, 1)] []) []
def hint40 : Hint :=
  .seq (.after (.reg [(false, 1)] []) [0]) (.seq (.seq (.after (.reg [(false, 2)] []) [0, 18]) (.after (.cond (.seq (.after (.reg [(false, 1)] []) [2]) (.live [2] (.leaf))) (.leaf)) [0])) (.seq (.seq (.after (.reg [(false, 3)] []) [0, 21]) (.after (.cond (.seq (.after (.reg [(false, 1)] []) [2]) (.live [2] (.leaf))) (.leaf)) [0])) (.seq (.after (.reg [(false, 9)] []) [0, 3, 4, 5]) (.seq (.after (.reg [(false, 9)] []) [0, 3, 4, 5, 6, 7, 8]) (.seq (.after (.reg [(false, 7)] []) [0, 3, 4, 5, 6, 7, 8, 9, 10]) (.seq (.after (.reg [(false, 7)] []) [0, 3, 4, 5, 6, 7, 8, 9, 10, 11, 12]) (.seq (.after (.reg [(false, 7)] []) [0, 3, 4, 5, 6, 7, 8, 9, 10, 11, 12, 13, 14]) (.seq (.after (.reg [(false, 7)] []) [0, 3, 4, 5, 6, 7, 8, 9, 10, 11, 12, 13, 14, 15, 16]) (.seq (.after (.reg [(false, 63)] []) [2]) (.live [2] (.leaf)))))))))))
def hint41L0 : Hint :=
  .live [0, 17] (.seq (.after (.reg [(false, 1)] []) [0, 17, 18]) (.seq (.after (.cond (.leaf) (.live [] (.leaf))) [0, 17]) (.seq (.after (.block (.seq (.after (.reg [(false, 7)] []) [0, 3, 4, 17]) (.seq (.seq (.after (.reg [(false, 2)] []) [0, 3, 17, 25]) (.after (.cond (.seq (.after (.reg [(false, 7)] []) [0, 5, 6]) (.seq (.after (.reg [(false, 17)] []) [2]) (.live [2] (.leaf)))) (.leaf)) [3, 17])) (.seq (.seq (.after (.reg [(false, 7)] []) [3, 17, 53]) (.after (.cond (.seq (.after (.reg [(false, 1)] []) [2]) (.live [2] (.leaf))) (.leaf)) [3, 17])) (.after (.reg [(false, 2)] []) [0, 17]))))) [0, 17]) (.after (.reg [(false, 2)] []) [0, 17]))))
def hint41 : Hint :=
  .seq (.after (.reg [(false, 1)] []) [0]) (.seq (.seq (.after (.reg [(false, 2)] []) [0, 8]) (.after (.cond (.seq (.after (.reg [(false, 1)] []) [2]) (.live [2] (.leaf))) (.leaf)) [0])) (.seq (.seq (.after (.reg [(false, 8)] []) [0, 16]) (.after (.cond (.seq (.after (.reg [(false, 1)] []) [2]) (.live [2] (.leaf))) (.leaf)) [0])) (.seq (.seq (.after (.reg [(false, 1)] []) [0, 17]) (.after (.block (.loop hint41L0)) [])) (.seq (.after (.reg [(false, 1)] []) [2]) (.live [2] (.leaf))))))
def hint46L0 : Hint :=
  .live [0, 1, 5, 28, 29, 30] (.seq (.after (.reg [(false, 1)] []) [0, 1, 5, 28, 29, 30, 31]) (.seq (.after (.cond (.leaf) (.live [0, 1, 5] (.leaf))) [0, 1, 5, 28, 29, 30]) (.seq (.after (.block (.seq (.after (.reg [(false, 3)] []) [0, 1, 5, 7, 28, 29, 30]) (.seq (.seq (.after (.reg [(false, 3)] []) [0, 1, 5, 7, 28, 29, 30, 36]) (.after (.cond (.seq (.after (.reg [(false, 1)] []) [4]) (.live [4] (.leaf))) (.leaf)) [0, 1, 5, 7, 28, 29, 30])) (.after (.reg [(false, 6)] []) [0, 1, 5, 28, 29, 30])))) [0, 1, 5, 28, 29, 30]) (.after (.reg [(false, 2)] []) [0, 1, 5, 28, 29, 30]))))
def hint46 : Hint :=
  .seq (.after (.reg [(false, 1)] []) [0, 1]) (.seq (.seq (.after (.reg [(false, 2)] []) [0, 1, 13]) (.after (.cond (.seq (.after (.reg [(false, 1)] []) [4]) (.live [4] (.leaf))) (.leaf)) [0, 1])) (.seq (.seq (.after (.reg [(false, 8)] []) [0, 1, 21]) (.after (.cond (.seq (.after (.reg [(false, 1)] []) [4]) (.live [4] (.leaf))) (.leaf)) [0, 1])) (.seq (.after (.reg [(false, 7)] []) [0, 1, 5]) (.seq (.seq (.after (.reg [(false, 3)] []) [0, 1, 5, 28, 29, 30]) (.after (.block (.loop hint46L0)) [0, 1, 5])) (.seq (.after (.reg [(false, 4)] []) [0, 1, 5, 8]) (.seq (.seq (.after (.reg [(false, 12)] []) [0, 1, 5, 8, 57]) (.after (.cond (.seq (.after (.reg [(false, 1)] []) [4]) (.live [4] (.leaf))) (.leaf)) [0, 1, 5, 8])) (.seq (.seq (.after (.reg [(false, 7)] []) [0, 1, 8, 64]) (.after (.cond (.seq (.after (.reg [(false, 1)] []) [4]) (.live [4] (.leaf))) (.leaf)) [0, 1, 8])) (.seq (.after (.reg [(false, 9)] []) [0, 1, 9, 10, 11]) (.seq (.after (.reg [(false, 13)] []) [4]) (.live [4] (.leaf)))))))))))
def hint39 : Hint :=
  .seq (.after (.reg [(false, 1)] []) []) (.seq (.after (.reg [(false, 8)] []) [1, 2, 3]) (.seq (.after (.reg [(false, 8)] []) [1, 2, 3, 6]) (.seq (.after (.reg [(false, 34)] []) [0]) (.live [0] (.leaf)))))
def hint38L0 : Hint :=
  .live [5, 7] (.seq (.seq (.after (.reg [(false, 7)] []) [5, 7, 23]) (.after (.cond (.leaf) (.live [5, 7] (.leaf))) [5, 7])) (.after (.block (.seq (.after (.reg [(false, 3)] []) [5, 7, 8]) (.seq (.seq (.after (.reg [(false, 7)] []) [5, 7, 8, 32]) (.after (.cond (.seq (.after (.reg [(false, 3)] []) [2, 3, 4]) (.live [2, 3, 4] (.leaf))) (.leaf)) [5, 7, 8])) (.after (.reg [(true, 9), (false, 1)] []) [5, 7])))) [5, 7]))
def hint38 : Hint :=
  .seq (.after (.reg [(false, 3)] []) [0]) (.seq (.after (.reg [(false, 7)] []) [5, 6]) (.seq (.seq (.after (.reg [(false, 2)] []) [5, 16]) (.after (.cond (.seq (.after (.reg [(false, 3)] []) [2, 3, 4]) (.live [2, 3, 4] (.leaf))) (.leaf)) [5])) (.seq (.after (.reg [(false, 1)] []) [5, 7]) (.seq (.after (.block (.loop hint38L0)) [5, 7]) (.seq (.after (.reg [(false, 7)] []) [6, 7, 9]) (.seq (.seq (.after (.reg [(false, 11)] []) [7, 9, 56]) (.after (.cond (.seq (.after (.reg [(false, 3)] []) [2, 3, 4]) (.live [2, 3, 4] (.leaf))) (.leaf)) [7, 9])) (.seq (.after (.reg [(false, 5)] []) [2, 3, 4]) (.live [2, 3, 4] (.leaf)))))))))
def hint37L0 : Hint :=
  .live [5, 6] (.seq (.seq (.after (.reg [(false, 7)] []) [5, 6, 23]) (.after (.cond (.leaf) (.live [5, 6] (.leaf))) [5, 6])) (.after (.block (.seq (.after (.reg [(false, 3)] []) [5, 6, 7]) (.seq (.seq (.after (.reg [(false, 7)] []) [5, 6, 7, 32]) (.after (.cond (.seq (.after (.reg [(false, 3)] []) [2, 3, 4]) (.live [2, 3, 4] (.leaf))) (.leaf)) [5, 6, 7])) (.seq (.after (.reg [(false, 5)] []) [5, 6, 7]) (.after (.reg [(false, 5)] []) [5, 6]))))) [5, 6]))
def hint37 : Hint :=
  .seq (.after (.reg [(false, 3)] []) [0]) (.seq (.seq (.after (.reg [(false, 7)] []) [0, 14]) (.after (.cond (.seq (.after (.reg [(false, 3)] []) [2, 3, 4]) (.live [2, 3, 4] (.leaf))) (.leaf)) [0])) (.seq (.after (.reg [(false, 1)] []) [0, 5]) (.seq (.after (.reg [(false, 3)] []) [5, 6]) (.seq (.after (.block (.loop hint37L0)) [5, 6]) (.seq (.seq (.after (.reg [(false, 13)] []) [5, 6, 53]) (.after (.cond (.seq (.after (.reg [(false, 3)] []) [2, 3, 4]) (.live [2, 3, 4] (.leaf))) (.leaf)) [5, 6])) (.seq (.after (.reg [(true, 4), (false, 2)] []) [2, 3, 4]) (.live [2, 3, 4] (.leaf))))))))
def hint36 : Hint :=
  .seq (.after (.reg [(false, 2)] []) [0]) (.seq (.after (.reg [(false, 7)] []) [4, 5]) (.seq (.seq (.after (.reg [(false, 2)] []) [4, 12]) (.after (.cond (.seq (.after (.reg [(false, 2)] []) [2, 3]) (.live [2, 3] (.leaf))) (.leaf)) [4])) (.seq (.after (.reg [(false, 3)] []) [2, 3]) (.live [2, 3] (.leaf)))))
def hint35 : Hint :=
  .seq (.after (.reg [(false, 2)] []) [0]) (.seq (.seq (.after (.reg [(false, 7)] []) [0, 10]) (.after (.cond (.seq (.after (.reg [(false, 2)] []) [2, 3]) (.live [2, 3] (.leaf))) (.leaf)) [0])) (.seq (.after (.reg [(false, 4)] []) [2, 3]) (.live [2, 3] (.leaf))))
def hint34 : Hint :=
  .seq (.after (.reg [(false, 2)] []) [0]) (.seq (.seq (.after (.reg [(false, 13)] []) [0, 16]) (.after (.cond (.seq (.after (.reg [(false, 2)] []) [2, 3]) (.live [2, 3] (.leaf))) (.leaf)) [0])) (.seq (.after (.reg [(false, 7)] []) [2, 3]) (.live [2, 3] (.leaf))))
def hint33 : Hint :=
  .seq (.after (.reg [(false, 2)] []) [0]) (.seq (.seq (.after (.reg [(false, 16)] []) [0, 19]) (.after (.cond (.seq (.after (.reg [(false, 2)] []) [2, 3]) (.live [2, 3] (.leaf))) (.leaf)) [0])) (.seq (.after (.reg [(false, 7)] []) [2, 3]) (.live [2, 3] (.leaf))))
def hint25 : Hint :=
  .seq (.after (.reg [(false, 1)] []) [0]) (.seq (.after (.reg [(false, 10)] []) [2]) (.live [2] (.leaf)))
def hint26L0 : Hint :=
  .live [0, 3, 4] (.seq (.seq (.after (.reg [(false, 4)] []) [0, 3, 4, 10]) (.after (.cond (.leaf) (.live [0, 3] (.leaf))) [0, 3, 4])) (.seq (.after (.block (.seq (.after (.reg [(false, 4)] []) [0, 3, 4, 5]) (.seq (.after (.reg [(false, 31)] []) [0, 3, 4, 5, 6]) (.seq (.seq (.after (.reg [(false, 10)] []) [0, 4, 5, 55]) (.after (.cond (.seq (.after (.reg [(false, 1)] []) [2]) (.live [2] (.leaf))) (.leaf)) [0, 4, 5])) (.after (.reg [(false, 2)] []) [0, 3, 4]))))) [0, 3, 4]) (.after (.reg [(false, 3)] []) [0, 3, 4])))
def hint26 : Hint :=
  .seq (.after (.reg [(false, 1)] []) [0]) (.seq (.after (.reg [(false, 1)] []) [0, 3]) (.seq (.seq (.after (.reg [(false, 1)] []) [0, 3, 4]) (.after (.block (.loop hint26L0)) [0, 3])) (.seq (.after (.reg [(false, 8)] []) [2]) (.live [2] (.leaf)))))
def hint27 : Hint :=
  .seq (.after (.reg [(false, 1)] []) [0]) (.seq (.after (.reg [(false, 9)] []) [2]) (.live [2] (.leaf)))
def hint28L0 : Hint :=
  .live [0, 3] (.seq (.seq (.after (.reg [(false, 10)] []) [0, 3, 14]) (.after (.cond (.leaf) (.live [0, 3] (.leaf))) [0, 3])) (.after (.block (.after (.reg [(false, 3)] []) [0, 3])) [0, 3]))
def hint28 : Hint :=
  .seq (.after (.reg [(false, 1)] []) [0]) (.seq (.after (.reg [(false, 1)] []) [0, 3]) (.seq (.after (.block (.loop hint28L0)) [0, 3]) (.seq (.after (.reg [(false, 4)] []) [3, 4]) (.seq (.seq (.after (.reg [(false, 2)] []) [3, 4, 21]) (.after (.cond (.seq (.after (.reg [(false, 1)] []) [2]) (.live [2] (.leaf))) (.leaf)) [3, 4])) (.seq (.seq (.after (.reg [(false, 6)] []) [3, 4, 27]) (.after (.cond (.seq (.after (.reg [(false, 1)] []) [2]) (.live [2] (.leaf))) (.leaf)) [3, 4])) (.seq (.after (.reg [(false, 15)] []) [2]) (.live [2] (.leaf))))))))
def hint29L0 : Hint :=
  .live [0, 1, 12, 13] (.seq (.after (.reg [(false, 1)] []) [0, 1, 12, 13, 14]) (.seq (.after (.cond (.leaf) (.live [] (.leaf))) [0, 1, 12, 13]) (.seq (.after (.block (.seq (.after (.reg [(false, 2)] []) [0, 1, 5, 12, 13]) (.seq (.after (.reg [(true, 8), (false, 1)] []) [0, 1, 12, 13, 24]) (.after (.cond (.seq (.after (.reg [(false, 1)] []) [4]) (.live [4] (.leaf))) (.leaf)) [0, 1, 12, 13])))) [0, 1, 12, 13]) (.after (.reg [(false, 2)] []) [0, 1, 12, 13]))))
def hint29 : Hint :=
  .seq (.after (.reg [(false, 1)] []) [0, 1]) (.seq (.seq (.after (.reg [(false, 5)] []) [0, 1, 10]) (.after (.cond (.seq (.after (.reg [(false, 1)] []) [4]) (.live [4] (.leaf))) (.leaf)) [0, 1])) (.seq (.seq (.after (.reg [(false, 3)] []) [0, 1, 12, 13]) (.after (.block (.loop hint29L0)) [])) (.seq (.after (.reg [(false, 1)] []) [4]) (.live [4] (.leaf)))))
def hint30 : Hint :=
  .seq (.after (.reg [(false, 1)] []) [0]) (.seq (.after (.reg [(false, 7)] []) [2]) (.live [2] (.leaf)))
def hint31 : Hint :=
  .seq (.after (.reg [(false, 1)] []) [0]) (.seq (.after (.reg [(false, 13)] []) [2]) (.live [2] (.leaf)))
def hint32 : Hint :=
  .seq (.after (.reg [(false, 1)] []) [0]) (.seq (.after (.reg [(false, 4)] []) [2]) (.live [2] (.leaf)))
def hint45 : Hint :=
  .seq (.after (.reg [(false, 1)] []) [0, 1]) (.seq (.after (.reg [(false, 7)] []) [4]) (.live [4] (.leaf)))
def hint42L0 : Hint :=
  .live [1, 5, 8, 9, 10] (.seq (.after (.reg [(false, 1)] []) [1, 5, 8, 9, 10, 11]) (.seq (.after (.cond (.leaf) (.live [1, 5] (.leaf))) [1, 5, 8, 9, 10]) (.seq (.after (.block (.seq (.after (.reg [(false, 3)] []) [1, 5, 7, 8, 9, 10]) (.after (.reg [(false, 4)] []) [1, 5, 8, 9, 10]))) [1, 5, 8, 9, 10]) (.after (.reg [(false, 2)] []) [1, 5, 8, 9, 10]))))
def hint42 : Hint :=
  .seq (.after (.reg [(false, 1)] []) [0, 1]) (.seq (.after (.reg [(false, 1)] []) [0, 1, 5]) (.seq (.seq (.after (.reg [(false, 3)] []) [1, 5, 8, 9, 10]) (.after (.block (.loop hint42L0)) [1, 5])) (.seq (.after (.reg [(false, 5)] []) [4]) (.live [4] (.leaf)))))
def hint43L0 : Hint :=
  .live [3, 6, 7, 8] (.seq (.after (.reg [(false, 1)] []) [3, 6, 7, 8, 9]) (.seq (.after (.cond (.leaf) (.live [3] (.leaf))) [3, 6, 7, 8]) (.seq (.after (.block (.seq (.after (.reg [(false, 3)] []) [3, 5, 6, 7, 8]) (.seq (.after (.reg [(false, 1)] []) [3, 6, 7, 8, 12]) (.after (.block (.seq (.after (.reg [(false, 2)] []) [3, 6, 7, 8, 12, 15]) (.after (.cond (.leaf) (.seq (.after (.reg [(false, 2)] []) [3, 6, 7, 8, 17]) (.after (.cond (.after (.reg [(false, 3)] []) [3, 6, 7, 8]) (.after (.reg [(false, 3)] []) [3, 6, 7, 8])) [3, 6, 7, 8]))) [3, 6, 7, 8]))) [3, 6, 7, 8])))) [3, 6, 7, 8]) (.after (.reg [(false, 2)] []) [3, 6, 7, 8]))))
def hint43 : Hint :=
  .seq (.after (.reg [(false, 1)] []) [0]) (.seq (.after (.reg [(false, 1)] []) [0, 3]) (.seq (.seq (.after (.reg [(false, 3)] []) [3, 6, 7, 8]) (.after (.block (.loop hint43L0)) [3])) (.seq (.after (.reg [(false, 2)] []) [2]) (.live [2] (.leaf)))))
def hint44L0 : Hint :=
  .live [3, 6, 7, 8] (.seq (.after (.reg [(false, 1)] []) [3, 6, 7, 8, 9]) (.seq (.after (.cond (.leaf) (.live [3] (.leaf))) [3, 6, 7, 8]) (.seq (.after (.block (.seq (.after (.reg [(false, 3)] []) [3, 5, 6, 7, 8]) (.seq (.after (.reg [(false, 3)] []) [3, 5, 6, 7, 8]) (.seq (.seq (.after (.reg [(false, 2)] []) [3, 5, 6, 7, 8, 15]) (.after (.cond (.after (.reg [(false, 3)] []) [3, 5, 6, 7, 8]) (.leaf)) [3, 5, 6, 7, 8])) (.seq (.after (.reg [(false, 2)] []) [3, 6, 7, 8, 19]) (.after (.cond (.after (.reg [(false, 3)] []) [3, 6, 7, 8]) (.leaf)) [3, 6, 7, 8])))))) [3, 6, 7, 8]) (.after (.reg [(false, 2)] []) [3, 6, 7, 8]))))
def hint44 : Hint :=
  .seq (.after (.reg [(false, 1)] []) [0]) (.seq (.after (.reg [(false, 1)] []) [0, 3]) (.seq (.seq (.after (.reg [(false, 3)] []) [3, 6, 7, 8]) (.after (.block (.loop hint44L0)) [3])) (.seq (.after (.reg [(false, 2)] []) [2]) (.live [2] (.leaf)))))
def hint85 : Hint :=
  .seq (.after (.reg [(false, 2)] []) [0, 1]) (.seq (.after (.reg [(false, 7)] []) [4, 5]) (.live [4, 5] (.leaf)))
def hint86 : Hint :=
  .seq (.after (.reg [(false, 1)] []) [0]) (.seq (.after (.reg [(false, 3)] []) [0, 3]) (.seq (.after (.reg [(false, 6)] []) [0, 3, 4]) (.seq (.seq (.after (.reg [(false, 6)] []) [0, 3, 4, 21]) (.after (.cond (.seq (.after (.reg [(false, 1)] []) [2]) (.live [2] (.leaf))) (.leaf)) [0, 3, 4])) (.seq (.seq (.after (.reg [(false, 3)] []) [0, 3, 4, 5]) (.after (.block (.seq (.seq (.after (.reg [(false, 3)] []) [0, 3, 4, 5, 24]) (.after (.cond (.leaf) (.seq (.after (.reg [(false, 7)] []) [0, 3, 4, 5, 24]) (.after (.cond (.leaf) (.after (.reg [(false, 7)] []) [0, 3, 4, 5, 24])) [0, 3, 4, 5, 24]))) [0, 3, 4, 5, 24])) (.after (.cond (.seq (.after (.reg [(false, 5)] []) [2]) (.live [2] (.leaf))) (.seq (.after (.reg [(false, 3)] []) [0, 3, 4, 43]) (.after (.cond (.seq (.after (.reg [(false, 10)] []) [0, 4, 6, 8]) (.seq (.after (.reg [(false, 5)] []) [0, 4, 6, 57]) (.after (.cond (.seq (.after (.reg [(false, 8)] []) [2]) (.live [2] (.leaf))) (.leaf)) []))) (.leaf)) []))) []))) [])) (.seq (.after (.reg [(false, 1)] []) [2]) (.live [2] (.leaf)))))))
def hint87L0 : Hint :=
  .live [0, 3] (.seq (.seq (.after (.reg [(false, 4)] []) [0, 3, 7]) (.after (.cond (.leaf) (.live [] (.leaf))) [0, 3])) (.seq (.after (.block (.seq (.after (.reg [(false, 4)] []) [0, 3, 13]) (.after (.cond (.seq (.after (.reg [(false, 4)] []) [2]) (.live [2] (.leaf))) (.leaf)) [0, 3]))) [0, 3]) (.after (.reg [(false, 3)] []) [0, 3])))
def hint87 : Hint :=
  .seq (.after (.reg [(false, 1)] []) [0]) (.seq (.seq (.after (.reg [(false, 1)] []) [0, 3]) (.after (.block (.loop hint87L0)) [])) (.seq (.after (.reg [(false, 1)] []) [2]) (.live [2] (.leaf))))
def hint88 : Hint :=
  .seq (.after (.reg [(false, 1)] []) [0, 1]) (.seq (.after (.reg [(false, 4)] []) [4]) (.live [4] (.leaf)))
def hint89 : Hint :=
  .seq (.after (.reg [(false, 1)] []) [0, 1]) (.seq (.after (.reg [(false, 4)] []) [4]) (.live [4] (.leaf)))
def hint91 : Hint :=
  .seq (.after (.reg [(false, 1)] []) [0, 1]) (.seq (.after (.reg [(false, 5)] []) [4]) (.live [4] (.leaf)))
def hint90 : Hint :=
  .seq (.after (.reg [(false, 1)] []) [0, 1]) (.seq (.after (.reg [(false, 4)] []) [4]) (.live [4] (.leaf)))
def hint92 : Hint :=
  .seq (.after (.reg [(false, 1)] []) [0]) (.seq (.after (.reg [(false, 4)] []) [2]) (.live [2] (.leaf)))
def hint144 : Hint :=
  .seq (.after (.reg [(false, 1)] []) [0]) (.seq (.after (.reg [(false, 1)] []) [0, 3]) (.seq (.after (.reg [(false, 10)] []) [2]) (.live [2] (.leaf))))
def hint93 : Hint :=
  .seq (.after (.reg [(false, 1)] []) [0]) (.seq (.after (.reg [(false, 25)] []) [2]) (.live [2] (.leaf)))
def hint137 : Hint :=
  .seq (.after (.reg [(false, 2)] []) [0, 1]) (.seq (.seq (.after (.reg [(false, 4)] []) [0, 1, 9]) (.after (.cond (.seq (.after (.reg [(false, 3)] []) [4, 5]) (.live [4, 5] (.leaf))) (.leaf)) [0, 1])) (.seq (.after (.reg [(false, 6)] []) [4, 5]) (.live [4, 5] (.leaf))))
def hint139 : Hint :=
  .seq (.after (.reg [(false, 1)] []) [0, 1]) (.seq (.seq (.after (.reg [(false, 6)] []) [0, 1, 12]) (.after (.cond (.seq (.after (.reg [(false, 2)] []) [4]) (.live [4] (.leaf))) (.leaf)) [0, 1])) (.seq (.seq (.after (.reg [(false, 8)] []) [0, 1, 21]) (.after (.cond (.seq (.after (.reg [(false, 5)] []) [4]) (.live [4] (.leaf))) (.leaf)) [0, 1])) (.seq (.seq (.after (.reg [(false, 8)] []) [0, 1, 5, 6]) (.seq (.after (.reg [(false, 1)] []) [0, 1, 5, 31]) (.after (.cond (.seq (.after (.reg [(false, 3)] []) [4]) (.live [4] (.leaf))) (.leaf)) [0, 1]))) (.seq (.after (.reg [(false, 4)] []) [4]) (.live [4] (.leaf))))))
def hint138 : Hint :=
  .seq (.after (.reg [(false, 3)] []) [0, 1]) (.seq (.after (.reg [(false, 9)] []) [4, 5, 6]) (.live [4, 5, 6] (.leaf)))
def hint140 : Hint :=
  .seq (.after (.reg [(false, 1)] []) [0, 1]) (.seq (.after (.reg [(false, 14)] []) [4]) (.live [4] (.leaf)))
def hint141 : Hint :=
  .seq (.after (.reg [(false, 1)] []) [0, 1]) (.seq (.after (.reg [(false, 17)] []) [4]) (.live [4] (.leaf)))
def hint142L0 : Hint :=
  .live [0, 1, 7, 8] (.seq (.after (.reg [(false, 1)] []) [0, 1, 7, 8, 9]) (.seq (.after (.cond (.leaf) (.live [] (.leaf))) [0, 1, 7, 8]) (.seq (.after (.block (.seq (.after (.reg [(false, 2)] []) [0, 1, 5, 7, 8]) (.seq (.after (.reg [(false, 6)] []) [0, 1, 5, 7, 8, 16]) (.after (.cond (.seq (.after (.reg [(false, 2)] []) [4]) (.live [4] (.leaf))) (.leaf)) [0, 1, 7, 8])))) [0, 1, 7, 8]) (.after (.reg [(false, 2)] []) [0, 1, 7, 8]))))
def hint142 : Hint :=
  .seq (.after (.reg [(false, 1)] []) [0, 1]) (.seq (.seq (.after (.reg [(false, 3)] []) [0, 1, 7, 8]) (.after (.block (.loop hint142L0)) [])) (.seq (.after (.reg [(false, 1)] []) [4]) (.live [4] (.leaf))))
def hint143L0 : Hint :=
  .live [0, 1, 2, 3, 9, 10] (.seq (.seq (.after (.reg [(false, 3)] []) [0, 1, 2, 3, 9, 10, 36]) (.after (.cond (.leaf) (.live [0, 9, 10] (.leaf))) [0, 1, 2, 3, 9, 10])) (.after (.block (.seq (.after (.reg [(false, 4)] []) [0, 1, 2, 3, 9, 10, 11]) (.seq (.seq (.after (.reg [(false, 2)] []) [0, 1, 2, 3, 9, 10, 11, 41]) (.after (.cond (.live [0, 9, 10] (.leaf)) (.leaf)) [0, 1, 2, 3, 9, 10, 11])) (.seq (.after (.reg [(false, 9)] []) [0, 1, 2, 3, 9, 10, 11]) (.seq (.after (.reg [(false, 7)] []) [0, 1, 2, 3, 9, 10]) (.after (.reg [(false, 3)] []) [0, 1, 2, 3, 9, 10])))))) [0, 1, 2, 3, 9, 10]))
def hint143 : Hint :=
  .seq (.after (.reg [(false, 1)] []) [0, 1, 2, 3]) (.seq (.seq (.after (.reg [(false, 2)] []) [0, 1, 2, 3, 13]) (.after (.cond (.seq (.after (.reg [(false, 1)] []) [8]) (.live [8] (.leaf))) (.leaf)) [0, 1, 2, 3])) (.seq (.seq (.after (.reg [(false, 2)] []) [0, 1, 2, 3, 15]) (.after (.cond (.seq (.after (.reg [(false, 4)] []) [8]) (.live [8] (.leaf))) (.leaf)) [0, 1, 2, 3])) (.seq (.seq (.after (.reg [(false, 2)] []) [0, 1, 2, 3, 20]) (.after (.cond (.after (.reg [(false, 5)] []) [0, 1, 2, 3]) (.leaf)) [0, 1, 2, 3])) (.seq (.after (.reg [(false, 6)] []) [0, 1, 2, 3]) (.seq (.after (.reg [(false, 3)] []) [0, 1, 2, 3, 9]) (.seq (.after (.reg [(false, 3)] []) [0, 1, 2, 3, 9]) (.seq (.after (.reg [(false, 1)] []) [0, 1, 2, 3, 9, 10]) (.seq (.after (.block (.loop hint143L0)) [0, 9, 10]) (.seq (.after (.reg [(false, 5)] []) [9, 10]) (.seq (.after (.reg [(false, 5)] []) [8]) (.live [8] (.leaf))))))))))))
def hint146 : Hint :=
  .seq (.after (.reg [(false, 1)] []) [0]) (.seq (.after (.block (.seq (.seq (.after (.reg [(false, 7)] []) [0, 3]) (.after (.cond (.leaf) (.seq (.after (.reg [(false, 7)] []) [0, 3]) (.after (.cond (.leaf) (.seq (.after (.reg [(false, 7)] []) [0, 3]) (.after (.cond (.leaf) (.seq (.after (.reg [(false, 3)] []) [0, 3]) (.after (.cond (.leaf) (.after (.reg [(false, 3)] []) [3])) [3]))) [3]))) [3]))) [3])) (.after (.cond (.seq (.after (.reg [(false, 1)] []) [2]) (.live [2] (.leaf))) (.leaf)) []))) []) (.seq (.after (.reg [(false, 1)] []) [2]) (.live [2] (.leaf))))
def hint145 : Hint :=
  .seq (.after (.reg [(false, 1)] []) [0, 1]) (.seq (.after (.reg [(false, 5)] []) [4]) (.live [4] (.leaf)))
def hint149 : Hint :=
  .seq (.after (.reg [(false, 2)] []) [0, 1]) (.seq (.seq (.after (.reg [(false, 2)] []) [0, 1, 7]) (.after (.cond (.after (.reg [(false, 2)] []) [0, 1]) (.leaf)) [0, 1])) (.seq (.after (.reg [(true, 12), (false, 1)] []) [0, 1, 21]) (.after (.cond (.after (.reg [(false, 3)] []) []) (.leaf)) [])))
def hint148 : Hint :=
  .seq (.after (.reg [(false, 2)] []) [0, 1]) (.seq (.after (.reg [(false, 2)] []) [0, 1]) (.seq (.after (.reg [(false, 10)] []) [1]) (.seq (.after (.reg [(false, 4)] []) [4, 5]) (.live [4, 5] (.leaf)))))
def hint147 : Hint :=
  .seq (.after (.reg [(false, 1)] []) [0]) (.seq (.after (.reg [(true, 10), (false, 2)] []) [2]) (.live [2] (.leaf)))
def hint171L0 : Hint :=
  .live [0, 1] (.seq (.seq (.after (.reg [(false, 9)] []) [0, 1, 13]) (.after (.cond (.leaf) (.live [0] (.leaf))) [0, 1])) (.after (.block (.after (.reg [(false, 3)] []) [0, 1])) [0, 1]))
def hint171 : Hint :=
  .seq (.after (.reg [(false, 1)] []) [0, 1]) (.seq (.after (.block (.loop hint171L0)) [0]) (.seq (.after (.reg [(false, 2)] []) [4]) (.live [4] (.leaf))))
def hint170L0 : Hint :=
  .live [0, 2, 4] (.seq (.seq (.after (.reg [(false, 4)] []) [0, 2, 4, 9]) (.after (.cond (.leaf) (.live [2] (.leaf))) [0, 2, 4])) (.seq (.after (.block (.seq (.after (.reg [(false, 4)] []) [0, 2, 4, 5]) (.seq (.seq (.after (.reg [(false, 2)] []) [0, 2, 4, 5, 16]) (.after (.cond (.seq (.after (.reg [(false, 3)] []) [2, 3]) (.live [2, 3] (.leaf))) (.leaf)) [0, 2, 4, 5])) (.after (.reg [(false, 3)] []) [0, 2, 4])))) [0, 2, 4]) (.after (.reg [(false, 3)] []) [0, 2, 4])))
def hint170 : Hint :=
  .seq (.after (.reg [(false, 2)] [0]) [0, 2]) (.seq (.seq (.after (.reg [(false, 1)] []) [0, 2, 4]) (.after (.block (.loop hint170L0)) [2])) (.seq (.after (.reg [(false, 3)] []) [2, 3]) (.live [2, 3] (.leaf))))
def hint169L0 : Hint :=
  .live [0, 1] (.seq (.seq (.after (.reg [(false, 3)] []) [0, 1, 7]) (.after (.cond (.leaf) (.live [0] (.leaf))) [0, 1])) (.after (.block (.seq (.seq (.after (.reg [(false, 5)] []) [0, 1, 12]) (.after (.cond (.live [0] (.leaf)) (.leaf)) [0, 1])) (.after (.reg [(false, 3)] []) [0, 1]))) [0, 1]))
def hint169 : Hint :=
  .seq (.after (.reg [(false, 1)] []) [0, 1]) (.seq (.after (.block (.loop hint169L0)) [0]) (.seq (.after (.reg [(false, 2)] []) [4]) (.live [4] (.leaf))))
def hint168L0 : Hint :=
  .live [0, 1] (.seq (.seq (.after (.reg [(false, 3)] []) [0, 1, 9]) (.after (.cond (.leaf) (.live [0] (.leaf))) [0, 1])) (.after (.block (.seq (.after (.reg [(false, 7)] []) [0, 1, 5, 6]) (.seq (.seq (.after (.reg [(false, 4)] []) [0, 1, 6, 18]) (.after (.cond (.live [0] (.leaf)) (.leaf)) [0, 1, 6])) (.after (.reg [(false, 4)] []) [0, 1])))) [0, 1]))
def hint168 : Hint :=
  .seq (.after (.reg [(false, 1)] []) [0, 1]) (.seq (.after (.block (.loop hint168L0)) [0]) (.seq (.after (.reg [(false, 2)] []) [4]) (.live [4] (.leaf))))
def hint172 : Hint :=
  .seq (.after (.reg [(false, 3)] []) [0, 1]) (.seq (.seq (.after (.reg [(false, 4)] []) [0, 1, 7]) (.seq (.after (.reg [(false, 2)] []) [0, 1, 7, 12]) (.after (.cond (.seq (.after (.reg [(true, 10), (false, 2)] []) [4, 5, 6]) (.live [4, 5, 6] (.leaf))) (.leaf)) [0]))) (.seq (.after (.reg [(false, 4)] []) [4, 5, 6]) (.live [4, 5, 6] (.leaf))))
def hint175L0 : Hint :=
  .live [0, 1, 6, 7] (.seq (.seq (.after (.reg [(false, 4)] []) [0, 1, 6, 7, 25]) (.after (.cond (.leaf) (.live [0, 1, 6] (.leaf))) [0, 1, 6, 7])) (.seq (.after (.block (.seq (.after (.reg [(false, 7)] []) [0, 1, 6, 7, 9]) (.seq (.after (.reg [(false, 7)] []) [0, 1, 6, 7, 9]) (.after (.reg [(false, 4)] []) [0, 1, 6, 7])))) [0, 1, 6, 7]) (.after (.reg [(false, 3)] []) [0, 1, 6, 7])))
def hint175 : Hint :=
  .seq (.after (.reg [(false, 1)] []) [0, 1]) (.seq (.after (.reg [(false, 3)] []) [0, 1, 5]) (.seq (.seq (.after (.reg [(false, 7)] []) [0, 1, 5, 18]) (.after (.cond (.after (.reg [(false, 2)] []) [0, 1]) (.leaf)) [0, 1])) (.seq (.after (.reg [(false, 3)] []) [0, 1, 6]) (.seq (.seq (.after (.reg [(false, 1)] []) [0, 1, 6, 7]) (.after (.block (.loop hint175L0)) [0, 1, 6])) (.seq (.seq (.after (.reg [(false, 2)] []) [0, 1, 6, 43]) (.after (.cond (.after (.reg [(false, 6)] []) [6]) (.leaf)) [6])) (.seq (.after (.reg [(false, 2)] []) [4]) (.live [4] (.leaf))))))))
def hint174L0 : Hint :=
  .live [0, 1, 5] (.after (.block (.seq (.after (.reg [(false, 4)] []) [0, 1, 5, 6]) (.seq (.seq (.after (.reg [(false, 2)] []) [0, 1, 5, 6, 24]) (.after (.cond (.seq (.after (.reg [(false, 2)] []) [4]) (.live [4] (.leaf))) (.leaf)) [0, 1, 5, 6])) (.seq (.after (.reg [(false, 3)] []) [0, 1, 5, 6]) (.after (.reg [(false, 7)] []) [0, 1, 5]))))) [0, 1, 5])
def hint174 : Hint :=
  .seq (.after (.reg [(false, 1)] []) [0, 1]) (.seq (.seq (.after (.reg [(false, 3)] []) [0, 1, 9]) (.after (.cond (.seq (.after (.reg [(false, 4)] []) [4]) (.live [4] (.leaf))) (.leaf)) [0, 1])) (.seq (.seq (.after (.reg [(false, 3)] []) [0, 1, 15]) (.after (.cond (.seq (.after (.reg [(false, 5)] []) [4]) (.live [4] (.leaf))) (.leaf)) [0, 1])) (.seq (.after (.reg [(false, 1)] []) [0, 1, 5]) (.after (.block (.loop hint174L0)) [4]))))
def hint173 : Hint :=
  .seq (.after (.reg [(false, 1)] []) [0, 1]) (.seq (.after (.reg [(false, 4)] []) [4]) (.live [4] (.leaf)))
def hint176L0 : Hint :=
  .live [0, 1, 7, 8] (.seq (.after (.reg [(false, 1)] []) [0, 1, 7, 8, 9]) (.seq (.after (.cond (.leaf) (.live [] (.leaf))) [0, 1, 7, 8]) (.seq (.after (.block (.seq (.after (.reg [(false, 2)] []) [0, 1, 5, 7, 8]) (.seq (.after (.reg [(false, 6)] []) [0, 1, 5, 7, 8, 16]) (.after (.cond (.seq (.after (.reg [(false, 2)] []) [4]) (.live [4] (.leaf))) (.leaf)) [0, 1, 7, 8])))) [0, 1, 7, 8]) (.after (.reg [(false, 2)] []) [0, 1, 7, 8]))))
def hint176 : Hint :=
  .seq (.after (.reg [(false, 1)] []) [0, 1]) (.seq (.seq (.after (.reg [(false, 3)] []) [0, 1, 7, 8]) (.after (.block (.loop hint176L0)) [])) (.seq (.after (.reg [(false, 1)] []) [4]) (.live [4] (.leaf))))
def hint178 : Hint :=
  .seq (.after (.reg [(false, 5)] []) [0, 6]) (.after (.cond (.after (.reg [(false, 8)] []) []) (.seq (.after (.reg [(false, 6)] []) [19]) (.after (.cond (.stuck) (.leaf)) []))) [])
def hint177 : Hint :=
  .seq (.after (.reg [(true, 14), (false, 2)] []) [0, 4]) (.seq (.after (.reg [(false, 6)] []) [0, 4]) (.after (.reg [(false, 5)] []) []))
def hint202 : Hint :=
  .seq (.after (.reg [(false, 1)] []) [0, 1]) (.seq (.after (.reg [(false, 6)] []) [4]) (.live [4] (.leaf)))
def hint204 : Hint :=
  .seq (.after (.reg [(false, 2)] []) [0]) (.seq (.seq (.after (.reg [(false, 7)] []) [0, 10]) (.after (.cond (.seq (.after (.reg [(false, 5)] []) [2, 3]) (.live [2, 3] (.leaf))) (.after (.reg [(false, 7)] []) [2, 3])) [2, 3])) (.live [2, 3] (.leaf)))
def hint203 : Hint :=
  .seq (.after (.reg [(false, 1)] []) [0, 1]) (.seq (.after (.reg [(false, 5)] []) [4]) (.live [4] (.leaf)))
def hint205L0 : Hint :=
  .live [0, 1, 5, 6, 7, 8, 9, 10] (.seq (.seq (.after (.reg [(false, 3)] []) [0, 1, 5, 6, 7, 8, 9, 10, 59]) (.after (.cond (.leaf) (.live [] (.leaf))) [0, 1, 5, 6, 7, 8, 9, 10])) (.after (.block (.seq (.seq (.after (.reg [(false, 5)] []) [0, 1, 5, 6, 7, 8, 9, 10, 64]) (.after (.cond (.seq (.after (.reg [(false, 8)] []) [0, 1, 5, 6, 7, 8, 9, 10, 11]) (.seq (.seq (.after (.reg [(false, 2)] []) [0, 1, 5, 6, 7, 8, 9, 10, 11, 73]) (.after (.cond (.seq (.after (.reg [(false, 1)] []) [4]) (.live [4] (.leaf))) (.leaf)) [0, 1, 5, 6, 7, 8, 9, 10, 11])) (.after (.reg [(false, 5)] []) [0, 1, 5, 6, 7, 8, 9, 10]))) (.leaf)) [0, 1, 5, 6, 7, 8, 9, 10])) (.seq (.seq (.after (.reg [(false, 16)] []) [0, 1, 5, 6, 7, 8, 9, 10, 93]) (.after (.cond (.seq (.after (.reg [(false, 2)] []) [4]) (.live [4] (.leaf))) (.leaf)) [0, 1, 5, 6, 7, 8, 9, 10])) (.seq (.after (.reg [(false, 3)] []) [0, 1, 5, 6, 7, 8, 9, 10]) (.seq (.after (.reg [(false, 3)] []) [0, 1, 5, 6, 7, 8, 9, 10]) (.seq (.after (.reg [(false, 9)] []) [0, 1, 5, 6, 7, 8, 9, 10, 107]) (.after (.cond (.seq (.after (.reg [(false, 6)] []) [8, 12]) (.seq (.seq (.after (.reg [(false, 2)] []) [8, 12, 114]) (.after (.cond (.seq (.after (.reg [(false, 4)] []) [4]) (.live [4] (.leaf))) (.leaf)) [])) (.seq (.after (.reg [(false, 1)] []) [4]) (.live [4] (.leaf))))) (.seq (.after (.reg [(false, 15)] []) [0, 1, 5, 6, 7, 8, 9, 10, 132]) (.after (.cond (.seq (.after (.reg [(false, 6)] []) [8, 13]) (.seq (.seq (.after (.reg [(false, 2)] []) [8, 13, 139]) (.after (.cond (.seq (.after (.reg [(false, 1)] []) [4]) (.live [4] (.leaf))) (.leaf)) [8, 13])) (.seq (.after (.reg [(false, 4)] []) [4]) (.live [4] (.leaf))))) (.leaf)) [0, 1, 5, 6, 7, 8, 9, 10]))) [0, 1, 5, 6, 7, 8, 9, 10]))))))) [0, 1, 5, 6, 7, 8, 9, 10]))
def hint205 : Hint :=
  .seq (.after (.reg [(false, 1)] []) [0, 1]) (.seq (.after (.reg [(false, 3)] []) [0, 1, 5]) (.seq (.after (.block (.seq (.after (.reg [(false, 8)] []) [0, 1, 5, 16]) (.after (.cond (.seq (.after (.reg [(false, 1)] []) [4]) (.live [4] (.leaf))) (.seq (.after (.reg [(false, 3)] []) [0, 1, 5, 24]) (.after (.cond (.seq (.after (.reg [(false, 5)] []) [4]) (.live [4] (.leaf))) (.seq (.after (.reg [(false, 5)] []) [0, 1, 5, 31]) (.after (.cond (.seq (.after (.reg [(false, 1)] []) [4]) (.live [4] (.leaf))) (.seq (.after (.reg [(false, 9)] []) [0, 1, 5, 36]) (.after (.cond (.seq (.after (.reg [(false, 4)] []) [4]) (.live [4] (.leaf))) (.leaf)) [0, 1, 5]))) [0, 1, 5]))) [0, 1, 5]))) [0, 1, 5]))) [0, 1, 5]) (.seq (.after (.reg [(false, 3)] []) [0, 1, 5, 6]) (.seq (.after (.reg [(false, 3)] []) [0, 1, 5, 6, 7]) (.seq (.after (.reg [(false, 1)] []) [0, 1, 5, 6, 7, 8]) (.seq (.after (.reg [(false, 6)] []) [0, 1, 5, 6, 7, 8, 9]) (.seq (.after (.reg [(false, 1)] []) [0, 1, 5, 6, 7, 8, 9, 10]) (.seq (.after (.block (.loop hint205L0)) []) (.seq (.after (.reg [(false, 1)] []) [4]) (.live [4] (.leaf)))))))))))
def hint206L0 : Hint :=
  .live [2, 4] (.seq (.after (.reg [(false, 2)] []) [2, 4, 6]) (.seq (.after (.cond (.leaf) (.live [2] (.leaf))) [2, 4]) (.after (.block (.after (.reg [(false, 3)] []) [2, 4])) [2, 4])))
def hint206 : Hint :=
  .seq (.after (.reg [(false, 1)] []) [0, 2]) (.seq (.seq (.after (.reg [(false, 2)] []) [2, 4]) (.after (.block (.loop hint206L0)) [2])) (.seq (.after (.reg [(false, 2)] []) [2]) (.live [2] (.leaf))))
def hint218 : Hint :=
  .seq (.after (.reg [(false, 2)] []) [0]) (.seq (.after (.reg [(false, 3)] []) [0, 4]) (.seq (.seq (.after (.reg [(false, 2)] []) [0, 4, 16]) (.after (.cond (.seq (.after (.reg [(false, 2)] []) [2, 3]) (.live [2, 3] (.leaf))) (.leaf)) [0, 4])) (.seq (.after (.reg [(false, 3)] []) [0, 4, 5]) (.seq (.after (.reg [(false, 4)] []) [0, 4, 5, 6]) (.seq (.seq (.after (.reg [(false, 2)] []) [0, 4, 5, 6, 23]) (.after (.cond (.seq (.after (.reg [(false, 5)] []) [0, 7]) (.seq (.after (.reg [(false, 10)] []) [2, 3]) (.live [2, 3] (.leaf)))) (.leaf)) [0, 4, 5, 6])) (.seq (.after (.reg [(false, 4)] []) [0, 4, 5, 6, 8]) (.seq (.after (.reg [(false, 6)] [4]) [0, 4, 5, 8, 9]) (.seq (.seq (.after (.reg [(false, 3)] []) [0, 5, 8, 9, 45]) (.after (.cond (.seq (.after (.reg [(false, 2)] []) [2, 3]) (.live [2, 3] (.leaf))) (.leaf)) [0, 5, 8, 9])) (.seq (.after (.reg [(false, 3)] []) [0, 5, 8, 9, 10]) (.seq (.seq (.after (.reg [(false, 10)] []) [0, 5, 8, 10, 57]) (.after (.cond (.seq (.after (.reg [(false, 2)] []) [2, 3]) (.live [2, 3] (.leaf))) (.leaf)) [0, 5, 8, 10])) (.seq (.seq (.after (.reg [(false, 2)] []) [0, 5, 8, 10, 59]) (.after (.cond (.seq (.after (.reg [(false, 10)] []) [2, 3]) (.live [2, 3] (.leaf))) (.leaf)) [0, 5, 8, 10])) (.seq (.after (.reg [(false, 3)] []) [0, 5, 8, 10, 11]) (.seq (.seq (.after (.reg [(false, 6)] []) [0, 5, 8, 10, 11, 75]) (.after (.cond (.seq (.after (.reg [(false, 2)] []) [2, 3]) (.live [2, 3] (.leaf))) (.leaf)) [0, 5, 8, 10, 11])) (.seq (.seq (.after (.reg [(false, 2)] []) [0, 5, 10, 11, 77]) (.after (.cond (.seq (.after (.reg [(false, 15)] []) [2, 3]) (.live [2, 3] (.leaf))) (.leaf)) [0, 5, 10, 11])) (.seq (.after (.reg [(false, 3)] []) [5, 10, 11, 12]) (.seq (.seq (.after (.reg [(false, 6)] []) [5, 10, 11, 12, 98]) (.after (.cond (.seq (.after (.reg [(false, 2)] []) [2, 3]) (.live [2, 3] (.leaf))) (.leaf)) [5, 10, 11, 12])) (.seq (.after (.reg [(false, 20)] []) [2, 3]) (.live [2, 3] (.leaf)))))))))))))))))))
def hint219L0 : Hint :=
  .live [175] (.seq (.after (.reg [(false, 2)] []) [175, 176, 177]) (.seq (.after (.cond (.leaf) (.live [] (.leaf))) [175, 176]) (.after (.block (.seq (.after (.reg [(false, 4)] []) [5, 6, 175]) (.seq (.after (.reg [(false, 2)] []) [5, 175, 181]) (.after (.cond (.seq (.after (.reg [(false, 2)] []) [4]) (.live [4] (.leaf))) (.leaf)) [175])))) [175])))
def hint219 : Hint :=
  .seq (.after (.reg [(false, 1)] []) [0, 1]) (.after (.block (.seq (.after (.reg [(false, 7)] []) [0, 1, 160]) (.after (.cond (.seq (.after (.reg [(false, 5)] []) [4]) (.live [4] (.leaf))) (.seq (.after (.reg [(false, 3)] []) [0, 1, 171]) (.after (.cond (.seq (.seq (.after (.reg [(false, 2)] []) [175]) (.after (.block (.loop hint219L0)) [])) (.seq (.after (.reg [(false, 1)] []) [4]) (.live [4] (.leaf)))) (.seq (.after (.reg [(false, 4)] []) [183]) (.after (.cond (.seq (.after (.reg [(false, 1)] []) [4]) (.live [4] (.leaf))) (.stuck)) [4]))) [4]))) [4]))) [4])
def hint226 : Hint :=
  .seq (.after (.reg [(false, 1)] []) [0, 1]) (.seq (.after (.reg [(false, 4)] []) [4]) (.live [4] (.leaf)))
def hint227 : Hint :=
  .seq (.after (.reg [(false, 1)] []) [0]) (.seq (.after (.reg [(false, 4)] []) [2]) (.live [2] (.leaf)))
def hint221L0 : Hint :=
  .live [0, 1, 5, 6, 7, 8, 10] (.seq (.seq (.after (.reg [(false, 4)] []) [0, 1, 5, 6, 7, 8, 10, 44]) (.after (.cond (.leaf) (.live [] (.leaf))) [0, 1, 5, 6, 7, 8, 10])) (.after (.block (.seq (.after (.reg [(false, 3)] []) [0, 1, 5, 6, 7, 8, 10]) (.seq (.after (.reg [(false, 7)] []) [0, 1, 5, 6, 7, 8, 10]) (.seq (.after (.reg [(false, 11)] []) [0, 1, 5, 6, 7, 8, 10]) (.seq (.after (.reg [(false, 3)] []) [0, 1, 5, 6, 7, 8, 10]) (.seq (.after (.reg [(false, 13)] []) [0, 1, 5, 6, 7, 8, 10, 77]) (.after (.cond (.seq (.after (.reg [(false, 4)] []) [4]) (.live [4] (.leaf))) (.leaf)) [0, 1, 5, 6, 7, 8, 10]))))))) [0, 1, 5, 6, 7, 8, 10]))
def hint221L1 : Hint :=
  .live [0, 1, 5, 6, 7, 8, 9] (.seq (.seq (.after (.reg [(false, 3)] []) [0, 1, 5, 6, 7, 8, 9, 20]) (.after (.cond (.leaf) (.live [0, 1, 5, 6, 7, 8] (.leaf))) [0, 1, 5, 6, 7, 8, 9])) (.seq (.after (.block (.after (.reg [(false, 8)] []) [0, 1, 5, 6, 7, 8, 9])) [0, 1, 5, 6, 7, 8, 9]) (.after (.reg [(false, 3)] []) [0, 1, 5, 6, 7, 8, 9])))
def hint221 : Hint :=
  .seq (.after (.reg [(false, 1)] []) [0, 1]) (.seq (.after (.reg [(false, 7)] []) [0, 1, 5, 6]) (.seq (.after (.reg [(false, 3)] []) [0, 1, 5, 6, 7]) (.seq (.after (.reg [(false, 1)] []) [0, 1, 5, 6, 7, 8]) (.seq (.seq (.after (.reg [(false, 1)] []) [0, 1, 5, 6, 7, 8, 9]) (.after (.block (.loop hint221L1)) [0, 1, 5, 6, 7, 8])) (.seq (.seq (.after (.reg [(false, 10)] []) [0, 1, 5, 6, 7, 8, 39]) (.after (.cond (.seq (.after (.reg [(false, 1)] []) [4]) (.live [4] (.leaf))) (.leaf)) [0, 1, 5, 6, 7, 8])) (.seq (.seq (.after (.reg [(false, 2)] []) [0, 1, 5, 6, 7, 8, 10]) (.after (.block (.loop hint221L0)) [])) (.seq (.after (.reg [(false, 1)] []) [4]) (.live [4] (.leaf)))))))))
def hint224 : Hint :=
  .seq (.after (.reg [(false, 1)] []) [0, 1]) (.seq (.after (.reg [(false, 4)] []) [4]) (.live [4] (.leaf)))
def hint229 : Hint :=
  .seq (.after (.reg [(false, 1)] []) [0]) (.seq (.after (.block (.seq (.after (.reg [(false, 7)] []) [0, 3]) (.after (.cond (.seq (.after (.reg [(false, 1)] []) [2]) (.live [2] (.leaf))) (.seq (.after (.reg [(false, 7)] []) [10]) (.after (.cond (.seq (.after (.reg [(false, 1)] []) [2]) (.live [2] (.leaf))) (.leaf)) []))) []))) []) (.seq (.after (.reg [(false, 1)] []) [2]) (.live [2] (.leaf))))
def hint228L0 : Hint :=
  .live [4, 6, 7, 8] (.seq (.seq (.after (.reg [(false, 2)] []) [4, 6, 7, 8, 25]) (.after (.cond (.leaf) (.live [4, 6] (.leaf))) [4, 6, 7, 8])) (.seq (.after (.block (.seq (.seq (.after (.reg [(false, 3)] []) [4, 6, 7, 8, 30]) (.after (.cond (.after (.reg [(false, 4)] []) [4, 6, 7, 8]) (.leaf)) [4, 6, 7, 8])) (.after (.reg [(false, 4)] []) [4, 6, 7, 8]))) [4, 6, 7, 8]) (.after (.reg [(false, 3)] []) [4, 6, 7, 8])))
def hint228L1 : Hint :=
  .live [0, 4, 5] (.seq (.seq (.after (.reg [(false, 4)] []) [0, 4, 5, 12]) (.after (.cond (.leaf) (.live [0, 4] (.leaf))) [0, 4, 5])) (.seq (.after (.block (.after (.reg [(false, 8)] []) [0, 4, 5])) [0, 4, 5]) (.after (.reg [(false, 3)] []) [0, 4, 5])))
def hint228 : Hint :=
  .seq (.after (.reg [(false, 2)] []) [0]) (.seq (.after (.reg [(false, 1)] []) [0, 4]) (.seq (.seq (.after (.reg [(false, 1)] []) [0, 4, 5]) (.after (.block (.loop hint228L1)) [0, 4])) (.seq (.after (.reg [(false, 2)] []) [0, 4, 6, 7]) (.seq (.seq (.after (.reg [(false, 3)] []) [4, 6, 7, 8]) (.after (.block (.loop hint228L0)) [4, 6])) (.seq (.after (.reg [(false, 4)] []) [2, 3]) (.live [2, 3] (.leaf)))))))
def hint289 : Hint :=
  .after (.reg [(false, 7)] []) []
noncomputable def E : Env := ⟨Go.Proofs.Tryd.prog, fun f => List.lookup f [(2, 24), (3, 40), (4, 41), (5, 46), (6, 39), (7, 38), (8, 37), (9, 36), (10, 35), (11, 34), (12, 33), (13, 25), (14, 26), (15, 27), (16, 28), (17, 29), (18, 30), (19, 31), (20, 32), (21, 45), (22, 42), (23, 43), (24, 44), (25, 85), (26, 86), (27, 87), (28, 88), (29, 89), (30, 91), (31, 90), (32, 92), (33, 144), (34, 93), (35, 94), (36, 137), (37, 139), (38, 138), (39, 140), (40, 141), (41, 142), (42, 143), (43, 146), (44, 145), (45, 149), (46, 148), (47, 147), (48, 171), (49, 170), (50, 169), (51, 168), (52, 172), (53, 175), (54, 174), (55, 173), (56, 176), (57, 178), (58, 177), (59, 202), (60, 204), (61, 203), (62, 205), (63, 206), (67, 218), (68, 219), (69, 226), (71, 227), (72, 221), (73, 224), (74, 229), (76, 228), (98, 289)], rndOf T⟩
theorem lib94 : LibOK E 35 Go.Proofs.Tryd.f35 joinF := join_ok Go.Proofs.Tryd.lays156 Go.Proofs.Tryd.Builder_Extra_156 rfl (of_decide_eq_true (by kernel_rfl)) (by kernel_rfl)
theorem c24 : cFunc E false hint24 Go.Proofs.Tryd.f2 = some code24 := by kernel_rfl
theorem c40 : cFunc E false hint40 Go.Proofs.Tryd.f3 = some code40 := by kernel_rfl
theorem c41 : cFunc E false hint41 Go.Proofs.Tryd.f4 = some code41 := by kernel_rfl
theorem c46 : cFunc E false hint46 Go.Proofs.Tryd.f5 = some code46 := by kernel_rfl
theorem c39 : cFunc E true hint39 Go.Proofs.Tryd.f6 = some code39 := by kernel_rfl
theorem c38 : cFunc E false hint38 Go.Proofs.Tryd.f7 = some code38 := by kernel_rfl
theorem c37 : cFunc E false hint37 Go.Proofs.Tryd.f8 = some code37 := by kernel_rfl
theorem c36 : cFunc E false hint36 Go.Proofs.Tryd.f9 = some code36 := by kernel_rfl
theorem c35 : cFunc E false hint35 Go.Proofs.Tryd.f10 = some code35 := by kernel_rfl
theorem c34 : cFunc E false hint34 Go.Proofs.Tryd.f11 = some code34 := by kernel_rfl
theorem c33 : cFunc E false hint33 Go.Proofs.Tryd.f12 = some code33 := by kernel_rfl
theorem c25 : cFunc E false hint25 Go.Proofs.Tryd.f13 = some code25 := by kernel_rfl
theorem c26 : cFunc E false hint26 Go.Proofs.Tryd.f14 = some code26 := by kernel_rfl
theorem c27 : cFunc E false hint27 Go.Proofs.Tryd.f15 = some code27 := by kernel_rfl
theorem c28 : cFunc E false hint28 Go.Proofs.Tryd.f16 = some code28 := by kernel_rfl
theorem c29 : cFunc E false hint29 Go.Proofs.Tryd.f17 = some code29 := by kernel_rfl
theorem c30 : cFunc E false hint30 Go.Proofs.Tryd.f18 = some code30 := by kernel_rfl
theorem c31 : cFunc E false hint31 Go.Proofs.Tryd.f19 = some code31 := by kernel_rfl
theorem c32 : cFunc E false hint32 Go.Proofs.Tryd.f20 = some code32 := by kernel_rfl
theorem c45 : cFunc E false hint45 Go.Proofs.Tryd.f21 = some code45 := by kernel_rfl
theorem c42 : cFunc E false hint42 Go.Proofs.Tryd.f22 = some code42 := by kernel_rfl
theorem c43 : cFunc E false hint43 Go.Proofs.Tryd.f23 = some code43 := by kernel_rfl
theorem c44 : cFunc E false hint44 Go.Proofs.Tryd.f24 = some code44 := by kernel_rfl
theorem c85 : cFunc E false hint85 Go.Proofs.Tryd.f25 = some code85 := by kernel_rfl
theorem c86 : cFunc E false hint86 Go.Proofs.Tryd.f26 = some code86 := by kernel_rfl
theorem c87 : cFunc E false hint87 Go.Proofs.Tryd.f27 = some code87 := by kernel_rfl
theorem c88 : cFunc E false hint88 Go.Proofs.Tryd.f28 = some code88 := by kernel_rfl
theorem c89 : cFunc E false hint89 Go.Proofs.Tryd.f29 = some code89 := by kernel_rfl
theorem c91 : cFunc E false hint91 Go.Proofs.Tryd.f30 = some code91 := by kernel_rfl
theorem c90 : cFunc E false hint90 Go.Proofs.Tryd.f31 = some code90 := by kernel_rfl
theorem c92 : cFunc E false hint92 Go.Proofs.Tryd.f32 = some code92 := by kernel_rfl
theorem c144 : cFunc E false hint144 Go.Proofs.Tryd.f33 = some code144 := by kernel_rfl
theorem c93 : cFunc E false hint93 Go.Proofs.Tryd.f34 = some code93 := by kernel_rfl
theorem c137 : cFunc E false hint137 Go.Proofs.Tryd.f36 = some code137 := by kernel_rfl
theorem c139 : cFunc E false hint139 Go.Proofs.Tryd.f37 = some code139 := by kernel_rfl
theorem c138 : cFunc E false hint138 Go.Proofs.Tryd.f38 = some code138 := by kernel_rfl
theorem c140 : cFunc E false hint140 Go.Proofs.Tryd.f39 = some code140 := by kernel_rfl
theorem c141 : cFunc E false hint141 Go.Proofs.Tryd.f40 = some code141 := by kernel_rfl
theorem c142 : cFunc E false hint142 Go.Proofs.Tryd.f41 = some code142 := by kernel_rfl
theorem c143 : cFunc E false hint143 Go.Proofs.Tryd.f42 = some code143 := by kernel_rfl
theorem c146 : cFunc E false hint146 Go.Proofs.Tryd.f43 = some code146 := by kernel_rfl
theorem c145 : cFunc E false hint145 Go.Proofs.Tryd.f44 = some code145 := by kernel_rfl
theorem c149 : cFunc E false hint149 Go.Proofs.Tryd.f45 = some code149 := by kernel_rfl
theorem c148 : cFunc E false hint148 Go.Proofs.Tryd.f46 = some code148 := by kernel_rfl
theorem c147 : cFunc E false hint147 Go.Proofs.Tryd.f47 = some code147 := by kernel_rfl
theorem c171 : cFunc E false hint171 Go.Proofs.Tryd.f48 = some code171 := by kernel_rfl
theorem c170 : cFunc E false hint170 Go.Proofs.Tryd.f49 = some code170 := by kernel_rfl
theorem c169 : cFunc E false hint169 Go.Proofs.Tryd.f50 = some code169 := by kernel_rfl
theorem c168 : cFunc E false hint168 Go.Proofs.Tryd.f51 = some code168 := by kernel_rfl
theorem c172 : cFunc E false hint172 Go.Proofs.Tryd.f52 = some code172 := by kernel_rfl
theorem c175 : cFunc E false hint175 Go.Proofs.Tryd.f53 = some code175 := by kernel_rfl
theorem c174 : cFunc E false hint174 Go.Proofs.Tryd.f54 = some code174 := by kernel_rfl
theorem c173 : cFunc E false hint173 Go.Proofs.Tryd.f55 = some code173 := by kernel_rfl
theorem c176 : cFunc E false hint176 Go.Proofs.Tryd.f56 = some code176 := by kernel_rfl
theorem c178 : cFunc E false hint178 Go.Proofs.Tryd.f57 = some code178 := by kernel_rfl
theorem c177 : cFunc E false hint177 Go.Proofs.Tryd.f58 = some code177 := by kernel_rfl
theorem c202 : cFunc E false hint202 Go.Proofs.Tryd.f59 = some code202 := by kernel_rfl
theorem c204 : cFunc E false hint204 Go.Proofs.Tryd.f60 = some code204 := by kernel_rfl
theorem c203 : cFunc E false hint203 Go.Proofs.Tryd.f61 = some code203 := by kernel_rfl
theorem c205 : cFunc E false hint205 Go.Proofs.Tryd.f62 = some code205 := by kernel_rfl
theorem c206 : cFunc E false hint206 Go.Proofs.Tryd.f63 = some code206 := by kernel_rfl
theorem c218 : cFunc E false hint218 Go.Proofs.Tryd.f67 = some code218 := by kernel_rfl
theorem c219 : cFunc E false hint219 Go.Proofs.Tryd.f68 = some code219 := by kernel_rfl
theorem c226 : cFunc E false hint226 Go.Proofs.Tryd.f69 = some code226 := by kernel_rfl
theorem c227 : cFunc E false hint227 Go.Proofs.Tryd.f71 = some code227 := by kernel_rfl
theorem c221 : cFunc E false hint221 Go.Proofs.Tryd.f72 = some code221 := by kernel_rfl
theorem c224 : cFunc E false hint224 Go.Proofs.Tryd.f73 = some code224 := by kernel_rfl
theorem c229 : cFunc E false hint229 Go.Proofs.Tryd.f74 = some code229 := by kernel_rfl
theorem c228 : cFunc E false hint228 Go.Proofs.Tryd.f76 = some code228 := by kernel_rfl
theorem c289 : cFunc E false hint289 Go.Proofs.Tryd.f98 = some code289 := by kernel_rfl
theorem r24 : RndOK E code24.body.rounds := trivial
theorem r40 : RndOK E code40.body.rounds := trivial
theorem r41 : RndOK E code41.body.rounds := trivial
theorem r46 : RndOK E code46.body.rounds := trivial
theorem r39 : RndOK E code39.body.rounds := trivial
theorem r38 : RndOK E code38.body.rounds := trivial
theorem r37 : RndOK E code37.body.rounds := trivial
theorem r36 : RndOK E code36.body.rounds := trivial
theorem r35 : RndOK E code35.body.rounds := trivial
theorem r34 : RndOK E code34.body.rounds := trivial
theorem r33 : RndOK E code33.body.rounds := trivial
theorem r25 : RndOK E code25.body.rounds := trivial
theorem r26 : RndOK E code26.body.rounds := trivial
theorem r27 : RndOK E code27.body.rounds := trivial
theorem r28 : RndOK E code28.body.rounds := trivial
theorem r29 : RndOK E code29.body.rounds := trivial
theorem r30 : RndOK E code30.body.rounds := trivial
theorem r31 : RndOK E code31.body.rounds := trivial
theorem r32 : RndOK E code32.body.rounds := trivial
theorem r45 : RndOK E code45.body.rounds := trivial
theorem r42 : RndOK E code42.body.rounds := trivial
theorem r43 : RndOK E code43.body.rounds := trivial
theorem r44 : RndOK E code44.body.rounds := trivial
theorem r85 : RndOK E code85.body.rounds := trivial
theorem r86 : RndOK E code86.body.rounds := trivial
theorem r87 : RndOK E code87.body.rounds := trivial
theorem r88 : RndOK E code88.body.rounds := trivial
theorem r89 : RndOK E code89.body.rounds := trivial
theorem r91 : RndOK E code91.body.rounds := trivial
theorem r90 : RndOK E code90.body.rounds := trivial
theorem r92 : RndOK E code92.body.rounds := trivial
theorem r144 : RndOK E code144.body.rounds := trivial
theorem r93 : RndOK E code93.body.rounds := trivial
theorem r137 : RndOK E code137.body.rounds := trivial
theorem r139 : RndOK E code139.body.rounds := trivial
theorem r138 : RndOK E code138.body.rounds := trivial
theorem r140 : RndOK E code140.body.rounds := trivial
theorem r141 : RndOK E code141.body.rounds := trivial
theorem r142 : RndOK E code142.body.rounds := trivial
theorem r143 : RndOK E code143.body.rounds := trivial
theorem r146 : RndOK E code146.body.rounds := trivial
theorem r145 : RndOK E code145.body.rounds := trivial
theorem r149 : RndOK E code149.body.rounds := trivial
theorem r148 : RndOK E code148.body.rounds := trivial
theorem r147 : RndOK E code147.body.rounds := trivial
theorem r171 : RndOK E code171.body.rounds := trivial
theorem r170 : RndOK E code170.body.rounds := trivial
theorem r169 : RndOK E code169.body.rounds := trivial
theorem r168 : RndOK E code168.body.rounds := trivial
theorem r172 : RndOK E code172.body.rounds := trivial
theorem r175 : RndOK E code175.body.rounds := trivial
theorem r174 : RndOK E code174.body.rounds := trivial
theorem r173 : RndOK E code173.body.rounds := trivial
theorem r176 : RndOK E code176.body.rounds := trivial
theorem r178 : RndOK E code178.body.rounds := trivial
theorem r177 : RndOK E code177.body.rounds := trivial
theorem r202 : RndOK E code202.body.rounds := trivial
theorem r204 : RndOK E code204.body.rounds := trivial
theorem r203 : RndOK E code203.body.rounds := trivial
theorem r205 : RndOK E code205.body.rounds := trivial
theorem r206 : RndOK E code206.body.rounds := trivial
theorem r218 : RndOK E code218.body.rounds := trivial
theorem r219 : RndOK E code219.body.rounds := trivial
theorem r226 : RndOK E code226.body.rounds := trivial
theorem r227 : RndOK E code227.body.rounds := trivial
theorem r221 : RndOK E code221.body.rounds := trivial
theorem r224 : RndOK E code224.body.rounds := trivial
theorem r229 : RndOK E code229.body.rounds := trivial
theorem r228 : RndOK E code228.body.rounds := trivial
theorem r289 : RndOK E code289.body.rounds := trivial
theorem agrees : Agrees E T := agrees_of ⟨.inl ⟨_, _, _, _, Go.Proofs.Tryd.func2, t24, c24, r24⟩, .inl ⟨_, _, _, _, Go.Proofs.Tryd.func3, t40, c40, r40⟩, .inl ⟨_, _, _, _, Go.Proofs.Tryd.func4, t41, c41, r41⟩, .inl ⟨_, _, _, _, Go.Proofs.Tryd.func5, t46, c46, r46⟩, .inl ⟨_, _, _, _, Go.Proofs.Tryd.func6, t39, c39, r39⟩, .inl ⟨_, _, _, _, Go.Proofs.Tryd.func7, t38, c38, r38⟩, .inl ⟨_, _, _, _, Go.Proofs.Tryd.func8, t37, c37, r37⟩, .inl ⟨_, _, _, _, Go.Proofs.Tryd.func9, t36, c36, r36⟩, .inl ⟨_, _, _, _, Go.Proofs.Tryd.func10, t35, c35, r35⟩, .inl ⟨_, _, _, _, Go.Proofs.Tryd.func11, t34, c34, r34⟩, .inl ⟨_, _, _, _, Go.Proofs.Tryd.func12, t33, c33, r33⟩, .inl ⟨_, _, _, _, Go.Proofs.Tryd.func13, t25, c25, r25⟩, .inl ⟨_, _, _, _, Go.Proofs.Tryd.func14, t26, c26, r26⟩, .inl ⟨_, _, _, _, Go.Proofs.Tryd.func15, t27, c27, r27⟩, .inl ⟨_, _, _, _, Go.Proofs.Tryd.func16, t28, c28, r28⟩, .inl ⟨_, _, _, _, Go.Proofs.Tryd.func17, t29, c29, r29⟩, .inl ⟨_, _, _, _, Go.Proofs.Tryd.func18, t30, c30, r30⟩, .inl ⟨_, _, _, _, Go.Proofs.Tryd.func19, t31, c31, r31⟩, .inl ⟨_, _, _, _, Go.Proofs.Tryd.func20, t32, c32, r32⟩, .inl ⟨_, _, _, _, Go.Proofs.Tryd.func21, t45, c45, r45⟩, .inl ⟨_, _, _, _, Go.Proofs.Tryd.func22, t42, c42, r42⟩, .inl ⟨_, _, _, _, Go.Proofs.Tryd.func23, t43, c43, r43⟩, .inl ⟨_, _, _, _, Go.Proofs.Tryd.func24, t44, c44, r44⟩, .inl ⟨_, _, _, _, Go.Proofs.Tryd.func25, t85, c85, r85⟩, .inl ⟨_, _, _, _, Go.Proofs.Tryd.func26, t86, c86, r86⟩, .inl ⟨_, _, _, _, Go.Proofs.Tryd.func27, t87, c87, r87⟩, .inl ⟨_, _, _, _, Go.Proofs.Tryd.func28, t88, c88, r88⟩, .inl ⟨_, _, _, _, Go.Proofs.Tryd.func29, t89, c89, r89⟩, .inl ⟨_, _, _, _, Go.Proofs.Tryd.func30, t91, c91, r91⟩, .inl ⟨_, _, _, _, Go.Proofs.Tryd.func31, t90, c90, r90⟩, .inl ⟨_, _, _, _, Go.Proofs.Tryd.func32, t92, c92, r92⟩, .inl ⟨_, _, _, _, Go.Proofs.Tryd.func33, t144, c144, r144⟩, .inl ⟨_, _, _, _, Go.Proofs.Tryd.func34, t93, c93, r93⟩, .inr ⟨_, _, _, Go.Proofs.Tryd.func35, t94, rfl, lib94⟩, .inl ⟨_, _, _, _, Go.Proofs.Tryd.func36, t137, c137, r137⟩, .inl ⟨_, _, _, _, Go.Proofs.Tryd.func37, t139, c139, r139⟩, .inl ⟨_, _, _, _, Go.Proofs.Tryd.func38, t138, c138, r138⟩, .inl ⟨_, _, _, _, Go.Proofs.Tryd.func39, t140, c140, r140⟩, .inl ⟨_, _, _, _, Go.Proofs.Tryd.func40, t141, c141, r141⟩, .inl ⟨_, _, _, _, Go.Proofs.Tryd.func41, t142, c142, r142⟩, .inl ⟨_, _, _, _, Go.Proofs.Tryd.func42, t143, c143, r143⟩, .inl ⟨_, _, _, _, Go.Proofs.Tryd.func43, t146, c146, r146⟩, .inl ⟨_, _, _, _, Go.Proofs.Tryd.func44, t145, c145, r145⟩, .inl ⟨_, _, _, _, Go.Proofs.Tryd.func45, t149, c149, r149⟩, .inl ⟨_, _, _, _, Go.Proofs.Tryd.func46, t148, c148, r148⟩, .inl ⟨_, _, _, _, Go.Proofs.Tryd.func47, t147, c147, r147⟩, .inl ⟨_, _, _, _, Go.Proofs.Tryd.func48, t171, c171, r171⟩, .inl ⟨_, _, _, _, Go.Proofs.Tryd.func49, t170, c170, r170⟩, .inl ⟨_, _, _, _, Go.Proofs.Tryd.func50, t169, c169, r169⟩, .inl ⟨_, _, _, _, Go.Proofs.Tryd.func51, t168, c168, r168⟩, .inl ⟨_, _, _, _, Go.Proofs.Tryd.func52, t172, c172, r172⟩, .inl ⟨_, _, _, _, Go.Proofs.Tryd.func53, t175, c175, r175⟩, .inl ⟨_, _, _, _, Go.Proofs.Tryd.func54, t174, c174, r174⟩, .inl ⟨_, _, _, _, Go.Proofs.Tryd.func55, t173, c173, r173⟩, .inl ⟨_, _, _, _, Go.Proofs.Tryd.func56, t176, c176, r176⟩, .inl ⟨_, _, _, _, Go.Proofs.Tryd.func57, t178, c178, r178⟩, .inl ⟨_, _, _, _, Go.Proofs.Tryd.func58, t177, c177, r177⟩, .inl ⟨_, _, _, _, Go.Proofs.Tryd.func59, t202, c202, r202⟩, .inl ⟨_, _, _, _, Go.Proofs.Tryd.func60, t204, c204, r204⟩, .inl ⟨_, _, _, _, Go.Proofs.Tryd.func61, t203, c203, r203⟩, .inl ⟨_, _, _, _, Go.Proofs.Tryd.func62, t205, c205, r205⟩, .inl ⟨_, _, _, _, Go.Proofs.Tryd.func63, t206, c206, r206⟩, .inl ⟨_, _, _, _, Go.Proofs.Tryd.func67, t218, c218, r218⟩, .inl ⟨_, _, _, _, Go.Proofs.Tryd.func68, t219, c219, r219⟩, .inl ⟨_, _, _, _, Go.Proofs.Tryd.func69, t226, c226, r226⟩, .inl ⟨_, _, _, _, Go.Proofs.Tryd.func71, t227, c227, r227⟩, .inl ⟨_, _, _, _, Go.Proofs.Tryd.func72, t221, c221, r221⟩, .inl ⟨_, _, _, _, Go.Proofs.Tryd.func73, t224, c224, r224⟩, .inl ⟨_, _, _, _, Go.Proofs.Tryd.func74, t229, c229, r229⟩, .inl ⟨_, _, _, _, Go.Proofs.Tryd.func76, t228, c228, r228⟩, .inl ⟨_, _, _, _, Go.Proofs.Tryd.func98, t289, c289, r289⟩, trivial⟩
theorem mixed : E.P.follows .mixedOrders = true := by kernel_rfl
end Go.Abs.AbsDesc
