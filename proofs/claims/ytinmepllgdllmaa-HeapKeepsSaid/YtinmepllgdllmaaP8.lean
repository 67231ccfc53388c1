/-
  The code is the functions': asked of the kernel.
-/
import Derived.Test.YtinmepllgdllmaaP5
import Derived.Test.YtinmepllgdllmaaP1
import Derived.Test.YtinmepllgdllmaaProg
import Derived.KernelRfl
namespace Go.Abs.AbsHeap
set_option maxRecDepth 100000
def hint24 : Hint :=
  .after (.reg [(false, 1)] []) []
def hint291L0 : Hint :=
  .live [7, 11, 18, 22, 23, 24, 148, 149] (.seq (.after (.reg [(false, 1)] []) [7, 11, 18, 22, 23, 24, 148, 149, 150]) (.seq (.after (.cond (.leaf) (.live [18, 23, 24] (.leaf))) [7, 11, 18, 22, 23, 24, 148, 149]) (.seq (.after (.block (.seq (.after (.reg [(false, 2)] []) [7, 11, 18, 22, 23, 24, 25, 148, 149]) (.seq (.after (.reg [(false, 9)] []) [7, 11, 18, 22, 23, 24, 25, 27, 148, 149]) (.seq (.seq (.after (.reg [(false, 26)] []) [7, 11, 18, 22, 23, 24, 27, 148, 149, 184]) (.after (.cond (.seq (.after (.reg [(false, 1)] []) [6]) (.live [6] (.leaf))) (.leaf)) [7, 11, 18, 22, 23, 24, 27, 148, 149])) (.seq (.after (.reg [(false, 2)] []) [7, 11, 18, 22, 23, 24, 148, 149, 186]) (.after (.cond (.after (.reg [(false, 3)] []) [7, 11, 18, 22, 23, 24, 148, 149]) (.leaf)) [7, 11, 18, 22, 23, 24, 148, 149])))))) [7, 11, 18, 22, 23, 24, 148, 149]) (.after (.reg [(false, 2)] []) [7, 11, 18, 22, 23, 24, 148, 149]))))
def hint291L1 : Hint :=
  .live [7, 8, 11, 15, 18, 126, 127] (.seq (.after (.reg [(false, 1)] []) [7, 8, 11, 15, 18, 126, 127, 128]) (.seq (.after (.cond (.leaf) (.live [7, 8, 11, 15, 18] (.leaf))) [7, 8, 11, 15, 18, 126, 127]) (.seq (.after (.block (.seq (.after (.reg [(false, 2)] []) [7, 8, 11, 15, 18, 19, 126, 127]) (.seq (.after (.reg [(false, 9)] []) [7, 8, 11, 15, 18, 21, 126, 127]) (.seq (.after (.reg [(false, 2)] []) [7, 8, 11, 15, 18, 126, 127, 138]) (.after (.cond (.after (.reg [(false, 3)] []) [7, 8, 11, 15, 18, 126, 127]) (.leaf)) [7, 8, 11, 15, 18, 126, 127]))))) [7, 8, 11, 15, 18, 126, 127]) (.after (.reg [(false, 2)] []) [7, 8, 11, 15, 18, 126, 127]))))
def hint291L2 : Hint :=
  .live [7, 8, 11, 15, 107, 108, 109] (.seq (.after (.reg [(false, 1)] []) [7, 8, 11, 15, 107, 108, 109, 110]) (.seq (.after (.cond (.leaf) (.live [7, 8, 11, 15] (.leaf))) [7, 8, 11, 15, 107, 108, 109]) (.seq (.after (.block (.seq (.after (.reg [(false, 3)] []) [7, 8, 11, 15, 17, 107, 108, 109]) (.after (.reg [(false, 13)] []) [7, 8, 11, 15, 107, 108, 109]))) [7, 8, 11, 15, 107, 108, 109]) (.after (.reg [(false, 2)] []) [7, 8, 11, 15, 107, 108, 109]))))
def hint291L3 : Hint :=
  .live [2, 7, 8, 11, 70, 71, 72] (.seq (.after (.reg [(false, 1)] []) [2, 7, 8, 11, 70, 71, 72, 73]) (.seq (.after (.cond (.leaf) (.live [2, 7, 8, 11] (.leaf))) [2, 7, 8, 11, 70, 71, 72]) (.seq (.after (.block (.seq (.after (.reg [(false, 5)] []) [2, 7, 8, 11, 12, 13, 70, 71, 72]) (.seq (.after (.reg [(false, 11)] [9]) [2, 7, 8, 11, 12, 13, 14, 70, 71, 72]) (.seq (.after (.reg [(true, 9), (false, 1)] []) [2, 7, 8, 11, 12, 13, 14, 70, 71, 72]) (.after (.reg [(true, 9), (false, 1)] []) [2, 7, 8, 11, 70, 71, 72]))))) [2, 7, 8, 11, 70, 71, 72]) (.after (.reg [(false, 2)] []) [2, 7, 8, 11, 70, 71, 72]))))
def hint291L4 : Hint :=
  .live [0, 1, 2, 7, 8, 46, 47, 48] (.seq (.after (.reg [(false, 1)] []) [0, 1, 2, 7, 8, 46, 47, 48, 49]) (.seq (.after (.cond (.leaf) (.live [0, 1, 2, 7, 8] (.leaf))) [0, 1, 2, 7, 8, 46, 47, 48]) (.seq (.after (.block (.seq (.after (.reg [(false, 3)] []) [0, 1, 2, 7, 8, 10, 46, 47, 48]) (.seq (.after (.reg [(false, 5)] []) [0, 1, 2, 7, 8, 10, 46, 47, 48]) (.after (.reg [(false, 5)] []) [0, 1, 2, 7, 8, 46, 47, 48])))) [0, 1, 2, 7, 8, 46, 47, 48]) (.after (.reg [(false, 2)] []) [0, 1, 2, 7, 8, 46, 47, 48]))))
def hint291 : Hint :=
  .seq (.after (.reg [(false, 1)] []) [0, 1, 2]) (.seq (.seq (.after (.reg [(false, 2)] []) [0, 1, 2, 29]) (.after (.cond (.seq (.after (.reg [(false, 1)] []) [6]) (.live [6] (.leaf))) (.leaf)) [0, 1, 2])) (.seq (.seq (.after (.reg [(false, 13)] []) [0, 1, 2, 42]) (.after (.cond (.seq (.after (.reg [(false, 1)] []) [6]) (.live [6] (.leaf))) (.leaf)) [0, 1, 2])) (.seq (.after (.reg [(false, 5)] []) [0, 1, 2, 7, 8]) (.seq (.seq (.after (.reg [(false, 3)] []) [0, 1, 2, 7, 8, 46, 47, 48]) (.after (.block (.loop hint291L4)) [0, 1, 2, 7, 8])) (.seq (.after (.reg [(false, 3)] []) [1, 2, 7, 8, 11]) (.seq (.seq (.after (.reg [(false, 2)] []) [1, 2, 7, 8, 11, 66]) (.after (.cond (.seq (.after (.reg [(false, 4)] []) [6]) (.live [6] (.leaf))) (.leaf)) [1, 2, 7, 8, 11])) (.seq (.seq (.after (.reg [(false, 3)] []) [2, 7, 8, 11, 70, 71, 72]) (.after (.block (.loop hint291L3)) [2, 7, 8, 11])) (.seq (.after (.reg [(false, 1)] []) [2, 7, 8, 11, 15]) (.seq (.seq (.after (.reg [(false, 3)] []) [7, 8, 11, 15, 107, 108, 109]) (.after (.block (.loop hint291L2)) [7, 8, 11, 15])) (.seq (.after (.reg [(false, 1)] []) [7, 8, 11, 15, 18]) (.seq (.seq (.after (.reg [(false, 2)] []) [7, 8, 11, 15, 18, 126, 127]) (.after (.block (.loop hint291L1)) [7, 8, 11, 15, 18])) (.seq (.after (.reg [(false, 5)] []) [7, 11, 15, 18, 22, 23]) (.seq (.after (.reg [(false, 4)] []) [7, 11, 18, 22, 23, 24]) (.seq (.seq (.after (.reg [(false, 2)] []) [7, 11, 18, 22, 23, 24, 148, 149]) (.after (.block (.loop hint291L0)) [18, 23, 24])) (.seq (.after (.reg [(false, 6)] []) [6]) (.live [6] (.leaf)))))))))))))))))
def hint301 : Hint :=
  .seq (.after (.reg [(false, 1)] []) [0, 1]) (.seq (.seq (.after (.reg [(false, 2)] []) [0, 1, 6]) (.after (.cond (.seq (.after (.reg [(false, 1)] []) [4]) (.live [4] (.leaf))) (.leaf)) [0, 1])) (.seq (.seq (.after (.reg [(false, 3)] []) [0, 1, 9]) (.after (.cond (.seq (.after (.reg [(false, 1)] []) [4]) (.live [4] (.leaf))) (.leaf)) [0, 1])) (.seq (.after (.reg [(false, 12)] []) [4]) (.live [4] (.leaf)))))
def hint302 : Hint :=
  .seq (.after (.reg [(false, 1)] []) [0, 1]) (.seq (.seq (.after (.reg [(false, 2)] []) [0, 1, 6]) (.after (.cond (.seq (.after (.reg [(false, 1)] []) [4]) (.live [4] (.leaf))) (.leaf)) [0, 1])) (.seq (.seq (.after (.reg [(false, 3)] []) [0, 1, 9]) (.after (.cond (.seq (.after (.reg [(false, 1)] []) [4]) (.live [4] (.leaf))) (.leaf)) [0, 1])) (.seq (.after (.reg [(false, 12)] []) [4]) (.live [4] (.leaf)))))
def hint307 : Hint :=
  .seq (.after (.reg [(false, 2)] [0]) [0, 1, 2, 3, 5, 10]) (.seq (.seq (.after (.reg [(false, 2)] []) [0, 1, 2, 3, 5, 10, 35]) (.after (.cond (.seq (.after (.reg [(false, 1)] []) [12]) (.live [12] (.leaf))) (.leaf)) [0, 1, 2, 3, 5, 10])) (.seq (.seq (.after (.reg [(false, 11)] []) [0, 1, 2, 3, 5, 10, 46]) (.after (.cond (.seq (.after (.reg [(false, 1)] []) [12]) (.live [12] (.leaf))) (.leaf)) [0, 1, 2, 3, 5, 10])) (.seq (.after (.reg [(false, 4)] []) [0, 1, 2, 3, 5, 10, 13]) (.seq (.after (.reg [(false, 10)] [7]) [0, 1, 2, 3, 5, 10, 13, 15]) (.seq (.after (.reg [(false, 8)] []) [0, 1, 2, 3, 5, 10, 13, 15, 17]) (.seq (.after (.reg [(false, 10)] []) [0, 1, 2, 3, 5, 10, 13, 15, 17, 20]) (.seq (.after (.reg [(false, 6)] []) [0, 1, 2, 3, 5, 10, 13, 15, 17, 20, 21]) (.seq (.after (.reg [(false, 10)] []) [0, 1, 2, 3, 5, 13, 15, 17, 20, 21, 23]) (.seq (.after (.reg [(false, 9)] []) [0, 1, 2, 3, 5, 15, 17, 20, 21, 23, 25]) (.seq (.after (.reg [(false, 2)] []) [0, 1, 2, 3, 5, 15, 17, 20, 21, 23, 25, 26, 27]) (.seq (.seq (.after (.reg [(false, 2)] []) [0, 1, 2, 3, 5, 15, 17, 20, 21, 23, 25, 26, 27, 91]) (.after (.cond (.after (.reg [(false, 1)] []) [1, 2, 3, 5, 15, 17, 20, 21, 23, 25, 26, 27]) (.seq (.after (.reg [(false, 9)] []) [1, 2, 3, 5, 15, 17, 20, 21, 23, 25, 26, 27, 100]) (.after (.cond (.after (.reg [(false, 1)] []) [1, 2, 3, 5, 15, 17, 20, 21, 23, 25, 26, 27]) (.leaf)) [1, 2, 3, 5, 15, 17, 20, 21, 23, 25, 26, 27]))) [1, 2, 3, 5, 15, 17, 20, 21, 23, 25, 26, 27])) (.seq (.seq (.after (.reg [(false, 12)] []) [2, 3, 15, 17, 20, 21, 23, 25, 26, 27, 112]) (.after (.cond (.after (.reg [(false, 1)] []) [2, 3, 15, 17, 20, 21, 23, 25, 26, 27]) (.leaf)) [2, 3, 15, 17, 20, 21, 23, 25, 26, 27])) (.seq (.after (.reg [(false, 1)] []) [2, 3, 15, 17, 20, 21, 23, 25, 26, 27, 28]) (.seq (.after (.reg [(false, 7)] []) [2, 3, 15, 17, 20, 21, 23, 25, 26, 27, 28, 30]) (.seq (.after (.reg [(false, 10)] [7]) [15, 17, 20, 21, 23, 25, 26, 27, 28, 30, 32]) (.seq (.after (.reg [(false, 1)] []) [15, 17, 20, 21, 23, 25, 26, 27, 28, 30, 32, 33]) (.seq (.after (.reg [(false, 54)] []) [12]) (.live [12] (.leaf)))))))))))))))))))
def hint299 : Hint :=
  .seq (.after (.reg [(false, 1)] []) []) (.seq (.after (.reg [(false, 2)] []) [1]) (.seq (.after (.reg [(false, 7)] []) [1, 2, 3]) (.seq (.after (.reg [(false, 10)] []) [1, 2, 3, 5]) (.seq (.after (.reg [(false, 7)] []) [1, 2, 3, 5, 6, 7]) (.seq (.after (.reg [(false, 10)] []) [1, 2, 3, 5, 6, 7, 8, 9, 10]) (.seq (.after (.reg [(false, 7)] []) [2, 3, 5, 6, 7, 8, 9, 10, 12]) (.seq (.after (.reg [(false, 35)] []) [0]) (.live [0] (.leaf)))))))))
def hint298 : Hint :=
  .seq (.after (.reg [(false, 1)] []) [0]) (.seq (.after (.reg [(false, 5)] []) [2]) (.live [2] (.leaf)))
def hint297 : Hint :=
  .seq (.after (.reg [(false, 2)] []) [0, 1, 2, 3]) (.seq (.seq (.after (.reg [(false, 2)] []) [0, 1, 2, 3, 11]) (.after (.cond (.seq (.after (.reg [(false, 2)] []) [8, 9]) (.live [8, 9] (.leaf))) (.leaf)) [0, 1, 2, 3])) (.seq (.after (.reg [(false, 11)] []) [8, 9]) (.live [8, 9] (.leaf))))
def hint296L0 : Hint :=
  .live [0, 12, 51, 52] (.seq (.after (.reg [(false, 1)] []) [0, 12, 51, 52, 53]) (.seq (.after (.cond (.leaf) (.live [0, 12] (.leaf))) [0, 12, 51, 52]) (.seq (.after (.block (.seq (.after (.reg [(false, 2)] []) [0, 12, 13, 51, 52]) (.after (.reg [(false, 6)] []) [0, 12, 51, 52]))) [0, 12, 51, 52]) (.after (.reg [(false, 2)] []) [0, 12, 51, 52]))))
def hint296 : Hint :=
  .seq (.after (.reg [(false, 2)] []) [0, 1, 2, 3, 4]) (.seq (.seq (.after (.reg [(false, 6)] []) [0, 1, 2, 3, 4, 19]) (.after (.cond (.seq (.seq (.after (.reg [(false, 2)] []) [21]) (.after (.cond (.seq (.after (.reg [(false, 2)] []) [10, 11]) (.live [10, 11] (.leaf))) (.leaf)) [])) (.seq (.after (.reg [(false, 2)] []) [10, 11]) (.live [10, 11] (.leaf)))) (.leaf)) [0, 1, 2, 3, 4])) (.seq (.seq (.after (.reg [(true, 10), (false, 2)] []) [0, 1, 2, 3, 33]) (.after (.cond (.seq (.after (.reg [(false, 2)] []) [10, 11]) (.live [10, 11] (.leaf))) (.leaf)) [0, 1, 2, 3])) (.seq (.after (.reg [(false, 7)] [5]) [0, 2, 12]) (.seq (.seq (.after (.reg [(false, 10)] []) [0, 12, 48]) (.after (.cond (.seq (.after (.reg [(false, 4)] []) [0, 12, 51, 52]) (.after (.block (.loop hint296L0)) [0, 12])) (.leaf)) [0, 12])) (.seq (.after (.reg [(true, 8), (false, 3)] []) [0]) (.seq (.after (.reg [(false, 7)] []) [10, 11]) (.live [10, 11] (.leaf))))))))
def hint292L0 : Hint :=
  .live [0, 5, 6, 26] (.seq (.after (.next) [0, 5, 6, 26, 28]) (.seq (.after (.cond (.leaf) (.live [0, 6] (.leaf))) [0, 5, 6, 26]) (.after (.block (.seq (.after (.reg [(false, 5)] []) [0, 5, 6, 7, 8, 26]) (.seq (.seq (.after (.reg [(false, 4)] []) [0, 5, 6, 7, 8, 26, 35]) (.after (.cond (.seq (.after (.reg [(false, 6)] []) [0, 5, 6, 26]) (.live [0, 5, 6, 26] (.leaf))) (.leaf)) [0, 5, 6, 8, 26])) (.after (.reg [(true, 14), (false, 4)] []) [0, 5, 6, 26])))) [0, 5, 6, 26])))
def hint292 : Hint :=
  .seq (.after (.reg [(false, 1)] []) [0, 1]) (.seq (.seq (.after (.reg [(false, 2)] []) [0, 1, 10]) (.after (.cond (.seq (.after (.reg [(false, 1)] []) [4]) (.live [4] (.leaf))) (.leaf)) [0, 1])) (.seq (.after (.reg [(false, 4)] []) [0, 5]) (.seq (.after (.reg [(false, 6)] []) [0, 5, 6]) (.seq (.after (.reg [(false, 4)] []) [0, 5, 6]) (.seq (.seq (.after (.reg [(false, 5)] []) [0, 5, 6, 26]) (.after (.block (.loop hint292L0)) [0, 6])) (.seq (.after (.reg [(false, 8)] []) [4]) (.live [4] (.leaf))))))))
def hint100295 : Hint :=
  .seq (.after (.reg [(false, 2)] [0]) [0, 1, 2, 7]) (.seq (.after (.reg [(false, 11)] []) [7, 9, 10, 11]) (.seq (.seq (.after (.reg [(false, 2)] []) [7, 9, 10, 11, 21]) (.after (.cond (.seq (.after (.reg [(false, 2)] []) [8]) (.live [8] (.leaf))) (.leaf)) [7, 9, 10])) (.seq (.seq (.after (.reg [(false, 4)] []) [7, 10, 26]) (.after (.block (.seq (.after (.reg [(false, 2)] []) [7, 10, 26, 27]) (.after (.cond (.after (.reg [(false, 6)] []) [7, 10]) (.seq (.after (.reg [(false, 2)] []) [7, 10, 34]) (.after (.cond (.after (.reg [(false, 2)] []) [7, 10]) (.leaf)) [7, 10]))) [7, 10]))) [7, 10])) (.seq (.after (.reg [(false, 4)] []) []) (.seq (.after (.reg [(false, 1)] []) [8]) (.live [8] (.leaf)))))))
def hint294 : Hint :=
  .seq (.after (.reg [(false, 2)] [0]) [0, 1, 2, 7]) (.seq (.after (.reg [(false, 9)] [6]) [2, 7, 9, 10]) (.seq (.seq (.after (.reg [(false, 2)] []) [2, 7, 9, 18]) (.after (.cond (.seq (.after (.reg [(false, 1)] []) [8]) (.live [8] (.leaf))) (.leaf)) [2, 7, 9])) (.seq (.seq (.after (.reg [(false, 9)] []) [2, 7, 9, 27]) (.after (.cond (.seq (.after (.reg [(false, 1)] []) [8]) (.live [8] (.leaf))) (.leaf)) [2, 7, 9])) (.seq (.seq (.after (.reg [(false, 3)] []) [2, 7, 9, 30]) (.after (.cond (.after (.reg [(false, 6)] []) [2, 7, 9]) (.leaf)) [2, 7, 9])) (.seq (.seq (.after (.reg [(false, 3)] []) [2, 7, 9, 38]) (.after (.cond (.after (.reg [(false, 4)] []) [2, 7, 9]) (.leaf)) [2, 7, 9])) (.seq (.after (.reg [(false, 6)] []) []) (.seq (.after (.reg [(false, 1)] []) [8]) (.live [8] (.leaf)))))))))
def hint290 : Hint :=
  .seq (.after (.reg [(false, 2)] []) [0, 1]) (.seq (.after (.reg [(false, 8)] []) [6, 7]) (.seq (.seq (.after (.reg [(false, 2)] []) [6, 7, 15]) (.after (.cond (.seq (.after (.reg [(false, 3)] []) [4, 5]) (.live [4, 5] (.leaf))) (.leaf)) [6])) (.seq (.after (.reg [(false, 7)] []) [4, 5]) (.live [4, 5] (.leaf)))))
def hint293L0 : Hint :=
  .live [0, 5, 6] (.seq (.seq (.after (.reg [(false, 3)] []) [0, 5, 6, 20]) (.after (.cond (.leaf) (.live [5] (.leaf))) [0, 5, 6])) (.after (.block (.seq (.after (.reg [(false, 5)] [3]) [0, 5, 6, 7]) (.seq (.after (.reg [(false, 3)] []) [0, 5, 6, 7]) (.seq (.seq (.after (.reg [(false, 9), (true, 7), (false, 3), (true, 3), (false, 3)] []) [0, 5, 6, 7, 50]) (.after (.cond (.live [0, 5, 6] (.leaf)) (.leaf)) [0, 5, 6, 7])) (.seq (.after (.reg [(false, 5)] []) [0, 5, 6, 7]) (.after (.reg [(true, 11), (false, 2)] []) [0, 5, 6])))))) [0, 5, 6]))
def hint293 : Hint :=
  .seq (.after (.reg [(false, 1)] []) [0, 1]) (.seq (.after (.reg [(false, 8)] []) [0, 1, 5]) (.seq (.after (.reg [(false, 4)] []) [0, 5, 6]) (.seq (.after (.block (.loop hint293L0)) [5]) (.seq (.after (.reg [(false, 2)] []) [4]) (.live [4] (.leaf))))))
def hint300L0 : Hint :=
  .live [0, 1, 3, 9, 19, 20, 21] (.seq (.after (.reg [(false, 1)] []) [0, 1, 3, 9, 19, 20, 21, 22]) (.seq (.after (.cond (.leaf) (.live [] (.leaf))) [0, 1, 3, 9, 19, 20, 21]) (.seq (.after (.block (.seq (.after (.reg [(false, 4)] [2]) [0, 1, 3, 9, 11, 19, 20, 21]) (.seq (.seq (.after (.reg [(false, 3)] []) [0, 1, 3, 9, 11, 19, 20, 21, 27]) (.after (.block (.seq (.seq (.after (.reg [(false, 2)] []) [0, 1, 3, 9, 11, 19, 20, 21, 27, 32]) (.after (.cond (.leaf) (.after (.reg [(false, 2)] []) [0, 1, 3, 9, 11, 19, 20, 21, 27, 32])) [0, 1, 3, 9, 11, 19, 20, 21, 27, 32])) (.after (.cond (.seq (.after (.reg [(false, 2)] []) [0, 1, 3, 9, 11, 19, 20, 21]) (.seq (.after (.reg [(false, 2)] []) [0, 1, 3, 9, 11, 19, 20, 21]) (.seq (.seq (.after (.reg [(false, 4)] []) [0, 1, 3, 9, 11, 19, 20, 21, 38]) (.after (.cond (.seq (.after (.reg [(false, 13)] []) [0, 1, 3, 9, 11, 12, 14, 19, 20, 21]) (.after (.reg [(false, 13)] []) [0, 1, 3, 9, 12, 13, 14, 15, 19, 20, 21])) (.seq (.after (.reg [(true, 7), (false, 2), (true, 3), (false, 1)] []) [0, 1, 3, 9, 11, 12, 14, 19, 20, 21]) (.after (.reg [(true, 7), (false, 2), (true, 3), (false, 1)] []) [0, 1, 3, 9, 12, 13, 14, 15, 19, 20, 21]))) [0, 1, 3, 9, 12, 13, 14, 15, 19, 20, 21])) (.seq (.seq (.after (.reg [(false, 8)] []) [0, 1, 3, 9, 12, 14, 19, 20, 21, 90]) (.after (.cond (.seq (.after (.reg [(false, 1)] []) [8]) (.live [8] (.leaf))) (.leaf)) [0, 1, 3, 9, 12, 14, 19, 20, 21])) (.seq (.after (.reg [(false, 2)] []) [0, 1, 3, 9, 12, 19, 20, 21, 92]) (.after (.cond (.after (.reg [(false, 6)] []) [0, 1, 3, 9, 19, 20, 21]) (.leaf)) [0, 1, 3, 9, 19, 20, 21])))))) (.seq (.after (.reg [(false, 2)] []) [0, 1, 3, 9, 11, 19, 20, 21, 27, 98]) (.after (.cond (.seq (.seq (.after (.reg [(false, 3)] []) [0, 1, 3, 9, 11, 19, 20, 21, 102]) (.after (.cond (.live [0, 1, 3, 9, 19, 20, 21] (.leaf)) (.leaf)) [0, 1, 3, 9, 11, 19, 20, 21])) (.seq (.after (.reg [(false, 11)] []) [0, 1, 3, 9, 11, 16, 19, 20, 21]) (.seq (.after (.reg [(false, 5)] [3]) [0, 1, 3, 9, 11, 16, 17, 19, 20, 21]) (.seq (.seq (.after (.reg [(false, 2)] []) [0, 1, 3, 9, 11, 16, 17, 19, 20, 21, 117]) (.after (.cond (.after (.reg [(false, 10)] []) [0, 1, 3, 9, 11, 16, 17, 19, 20, 21]) (.leaf)) [0, 1, 3, 9, 11, 16, 17, 19, 20, 21])) (.seq (.after (.reg [(true, 17), (false, 2)] []) [0, 1, 3, 9, 19, 20, 21, 145]) (.after (.cond (.seq (.after (.reg [(false, 1)] []) [8]) (.live [8] (.leaf))) (.leaf)) [0, 1, 3, 9, 19, 20, 21])))))) (.seq (.after (.reg [(false, 2)] []) [0, 1, 3, 9, 11, 19, 20, 21, 146]) (.after (.cond (.seq (.after (.reg [(false, 3)] []) [0, 1, 3, 9, 11, 19, 20, 21, 150]) (.after (.cond (.seq (.after (.reg [(false, 7)] []) [0, 1, 3, 9, 18, 19, 20, 21]) (.after (.reg [(true, 8), (false, 2)] []) [0, 1, 3, 9, 19, 20, 21])) (.leaf)) [0, 1, 3, 9, 19, 20, 21])) (.seq (.after (.reg [(false, 1)] []) [0, 1, 3, 9, 19, 20, 21, 28]) (.after (.cond (.after (.reg [(false, 3)] []) [0, 1, 3, 9, 19, 20, 21]) (.leaf)) [0, 1, 3, 9, 19, 20, 21]))) [0, 1, 3, 9, 19, 20, 21]))) [0, 1, 3, 9, 19, 20, 21]))) [0, 1, 3, 9, 19, 20, 21]))) [0, 1, 3, 9, 19, 20, 21])) (.seq (.after (.reg [(false, 5)] []) [0, 1, 3, 9, 19, 20, 21, 170]) (.after (.cond (.seq (.after (.reg [(false, 1)] []) [8]) (.live [8] (.leaf))) (.leaf)) [0, 1, 3, 9, 19, 20, 21]))))) [0, 1, 3, 9, 19, 20, 21]) (.after (.reg [(false, 2)] []) [0, 1, 3, 9, 19, 20, 21]))))
def hint300 : Hint :=
  .seq (.after (.reg [(false, 1)] []) [0, 1, 2, 3]) (.seq (.after (.reg [(false, 1)] []) [0, 1, 2, 3, 9]) (.seq (.seq (.after (.reg [(false, 3)] []) [0, 1, 3, 9, 19, 20, 21]) (.after (.block (.loop hint300L0)) [])) (.seq (.after (.reg [(false, 1)] []) [8]) (.live [8] (.leaf)))))
def hint304 : Hint :=
  .seq (.after (.reg [(false, 2)] [0]) [0, 1, 2, 6]) (.seq (.after (.reg [(false, 11)] []) [6, 9, 10]) (.seq (.seq (.after (.reg [(false, 2)] []) [6, 9, 10, 20]) (.after (.cond (.seq (.after (.reg [(false, 4)] []) [6, 7]) (.live [6, 7] (.leaf))) (.leaf)) [6, 9])) (.seq (.after (.reg [(false, 5)] []) [6, 7]) (.live [6, 7] (.leaf)))))
def hint306 : Hint :=
  .seq (.after (.reg [(false, 3)] []) [0, 1]) (.seq (.after (.reg [(false, 8)] []) [7, 8]) (.seq (.seq (.after (.reg [(false, 2)] []) [7, 8, 16]) (.after (.cond (.seq (.after (.reg [(false, 4)] []) [4, 5, 6]) (.live [4, 5, 6] (.leaf))) (.leaf)) [7])) (.seq (.after (.reg [(true, 9), (false, 2)] []) [4, 5, 6]) (.live [4, 5, 6] (.leaf)))))
def hint305 : Hint :=
  .seq (.after (.reg [(false, 2)] []) [0, 1, 2, 3]) (.seq (.seq (.after (.reg [(false, 7)] []) [0, 1, 2, 3, 16]) (.after (.cond (.seq (.after (.reg [(false, 2)] []) [8, 9]) (.live [8, 9] (.leaf))) (.leaf)) [0, 1, 2, 3])) (.seq (.after (.reg [(false, 11)] []) [8, 9]) (.live [8, 9] (.leaf))))
def hint303L0 : Hint :=
  .live [0, 5, 12] (.seq (.after (.next) [0, 5, 12, 14]) (.seq (.after (.cond (.leaf) (.live [5] (.leaf))) [0, 5, 12]) (.after (.block (.seq (.after (.reg [(false, 3)] []) [0, 5, 6, 12]) (.after (.reg [(true, 21), (false, 2)] []) [0, 5, 12]))) [0, 5, 12])))
def hint303 : Hint :=
  .seq (.after (.reg [(false, 1)] []) [0, 1]) (.seq (.seq (.after (.reg [(false, 2)] []) [0, 1, 8]) (.after (.cond (.seq (.after (.reg [(false, 1)] []) [4]) (.live [4] (.leaf))) (.leaf)) [0, 1])) (.seq (.after (.reg [(false, 1)] []) [0, 1, 5]) (.seq (.seq (.after (.reg [(false, 4)] []) [0, 5, 12]) (.after (.block (.loop hint303L0)) [5])) (.seq (.after (.reg [(false, 2)] []) [4]) (.live [4] (.leaf))))))
def hint308L0 : Hint :=
  .live [0, 1, 10, 77, 78] (.seq (.after (.reg [(false, 1)] []) [0, 1, 10, 77, 78, 79]) (.seq (.after (.cond (.leaf) (.live [0, 1, 10] (.leaf))) [0, 1, 10, 77, 78]) (.seq (.after (.block (.seq (.after (.reg [(false, 2)] []) [0, 1, 10, 11, 77, 78]) (.after (.reg [(false, 8)] []) [0, 1, 10, 77, 78]))) [0, 1, 10, 77, 78]) (.after (.reg [(false, 2)] []) [0, 1, 10, 77, 78]))))
def hint308 : Hint :=
  .seq (.after (.reg [(false, 2)] []) [0, 1, 2, 3]) (.seq (.seq (.after (.reg [(false, 6)] []) [0, 1, 2, 3, 17]) (.after (.cond (.seq (.after (.reg [(false, 2)] []) [8, 9]) (.live [8, 9] (.leaf))) (.leaf)) [0, 1, 2, 3])) (.seq (.after (.reg [(false, 7)] []) [0, 1, 2, 3, 10]) (.seq (.seq (.after (.reg [(true, 10), (false, 1)] []) [0, 1, 2, 3, 10, 34]) (.after (.cond (.after (.reg [(false, 3)] []) [0, 1, 2, 10]) (.leaf)) [0, 1, 2, 10])) (.seq (.seq (.after (.reg [(true, 10), (false, 1)] []) [0, 1, 2, 10, 48]) (.after (.cond (.seq (.after (.reg [(false, 2)] []) [8, 9]) (.live [8, 9] (.leaf))) (.leaf)) [0, 1, 2, 10])) (.seq (.after (.reg [(false, 6)] []) [0, 1, 10]) (.seq (.seq (.after (.reg [(false, 19)] []) [0, 1, 10, 72]) (.after (.cond (.seq (.after (.reg [(false, 6)] []) [0, 1, 10, 77, 78]) (.after (.block (.loop hint308L0)) [0, 1, 10])) (.leaf)) [0, 1, 10])) (.seq (.after (.reg [(false, 8)] []) [0, 1, 10]) (.seq (.after (.reg [(true, 9), (false, 1)] []) [0, 10]) (.seq (.after (.reg [(false, 9)] []) [0]) (.seq (.after (.reg [(false, 6)] []) [8, 9]) (.live [8, 9] (.leaf))))))))))))
def hint309 : Hint :=
  .seq (.after (.reg [(false, 1)] []) [0, 1]) (.seq (.seq (.after (.reg [(false, 2)] []) [1, 6]) (.after (.cond (.seq (.after (.reg [(false, 5)] []) [4]) (.live [4] (.leaf))) (.leaf)) [1])) (.seq (.after (.reg [(false, 3)] []) [4]) (.live [4] (.leaf))))
def hint310L0 : Hint :=
  .live [0, 5, 10, 11, 12] (.seq (.after (.reg [(false, 1)] []) [0, 5, 10, 11, 12, 13]) (.seq (.after (.cond (.leaf) (.live [5] (.leaf))) [0, 5, 10, 11, 12]) (.seq (.after (.block (.seq (.after (.reg [(false, 5)] []) [0, 5, 6, 7, 10, 11, 12]) (.seq (.after (.reg [(false, 1)] []) [0, 5, 6, 10, 11, 12, 17]) (.after (.cond (.after (.reg [(true, 21), (false, 2)] []) [0, 5, 10, 11, 12]) (.leaf)) [0, 5, 10, 11, 12])))) [0, 5, 10, 11, 12]) (.after (.reg [(false, 2)] []) [0, 5, 10, 11, 12]))))
def hint310 : Hint :=
  .seq (.after (.reg [(false, 1)] []) [0, 1]) (.seq (.after (.reg [(false, 1)] []) [0, 1, 5]) (.seq (.seq (.after (.reg [(false, 5)] []) [0, 5, 10, 11, 12]) (.after (.block (.loop hint310L0)) [5])) (.seq (.after (.reg [(false, 2)] []) [4]) (.live [4] (.leaf)))))
def hint312L0 : Hint :=
  .live [5, 6, 7] (.seq (.seq (.after (.reg [(false, 3)] []) [5, 6, 7, 16]) (.after (.cond (.leaf) (.live [5] (.leaf))) [5, 6, 7])) (.after (.block (.seq (.after (.reg [(false, 7)] []) [5, 6, 7, 8]) (.seq (.after (.reg [(false, 6)] []) [5, 6, 7, 8]) (.after (.reg [(false, 6)] []) [5, 6, 7])))) [5, 6, 7]))
def hint312 : Hint :=
  .seq (.after (.reg [(false, 2)] []) [1, 2]) (.seq (.after (.reg [(false, 3)] []) [1, 2, 5]) (.seq (.after (.reg [(false, 1)] []) [1, 2, 5, 6]) (.seq (.after (.reg [(false, 2)] []) [1, 5, 6, 7]) (.seq (.seq (.after (.reg [(false, 3)] []) [5, 6, 7]) (.after (.block (.loop hint312L0)) [5])) (.seq (.after (.reg [(false, 2)] []) [4]) (.live [4] (.leaf)))))))
def hint311 : Hint :=
  .seq (.after (.reg [(false, 1)] []) [0, 1]) (.seq (.seq (.after (.reg [(false, 2)] []) [1, 6]) (.after (.cond (.after (.reg [(false, 5)] []) [1]) (.leaf)) [1])) (.seq (.after (.reg [(false, 3)] []) [4]) (.live [4] (.leaf))))
def hint313 : Hint :=
  .seq (.after (.reg [(false, 3)] []) [0, 1, 2]) (.seq (.after (.reg [(false, 8)] []) [2, 9, 10]) (.seq (.after (.block (.seq (.after (.reg [(false, 3)] []) [2, 9, 10, 17]) (.after (.cond (.seq (.after (.reg [(false, 4)] []) [6, 7, 8]) (.live [6, 7, 8] (.leaf))) (.seq (.after (.reg [(false, 12)] []) [2, 9, 21]) (.after (.cond (.seq (.after (.reg [(false, 3)] []) [6, 7, 8]) (.live [6, 7, 8] (.leaf))) (.leaf)) [2, 9]))) [2, 9]))) [2, 9]) (.seq (.after (.reg [(true, 8), (false, 2)] []) [6, 7, 8]) (.live [6, 7, 8] (.leaf)))))
def hint314 : Hint :=
  .seq (.after (.reg [(false, 2)] [0]) [0, 1, 4]) (.seq (.seq (.after (.reg [(false, 11)] []) [0, 1, 4, 16]) (.after (.cond (.seq (.after (.reg [(false, 3)] []) [4, 5]) (.live [4, 5] (.leaf))) (.leaf)) [0, 1, 4])) (.seq (.after (.reg [(false, 10)] []) [4, 5]) (.live [4, 5] (.leaf))))
def hint315 : Hint :=
  .seq (.after (.reg [(false, 2)] []) [0, 1]) (.seq (.seq (.after (.reg [(false, 11)] []) [0, 1, 16]) (.after (.cond (.seq (.after (.reg [(false, 2)] []) [4, 5]) (.live [4, 5] (.leaf))) (.leaf)) [0, 1])) (.seq (.after (.reg [(false, 8)] []) [4, 5]) (.live [4, 5] (.leaf))))
def hint317 : Hint :=
  .seq (.after (.reg [(false, 1)] []) [0]) (.seq (.after (.reg [(false, 6)] []) [2]) (.live [2] (.leaf)))
def hint316L0 : Hint :=
  .live [0, 1, 9, 30, 31, 32, 99, 100, 101] (.seq (.after (.reg [(false, 1)] []) [0, 1, 9, 30, 31, 32, 99, 100, 101, 102]) (.seq (.after (.cond (.leaf) (.live [0, 1, 30, 31, 32] (.leaf))) [0, 1, 9, 30, 31, 32, 99, 100, 101]) (.seq (.after (.block (.seq (.after (.reg [(false, 6)] [3]) [0, 1, 9, 17, 18, 30, 31, 32, 99, 100, 101]) (.seq (.after (.reg [(false, 10)] [7]) [0, 1, 9, 18, 19, 20, 30, 31, 32, 99, 100, 101]) (.seq (.after (.reg [(false, 7)] []) [0, 1, 9, 30, 31, 32, 99, 100, 101, 119]) (.after (.cond (.seq (.after (.reg [(false, 1)] []) [6]) (.live [6] (.leaf))) (.leaf)) [0, 1, 9, 30, 31, 32, 99, 100, 101]))))) [0, 1, 9, 30, 31, 32, 99, 100, 101]) (.after (.reg [(false, 2)] []) [0, 1, 9, 30, 31, 32, 99, 100, 101]))))
def hint316L1 : Hint :=
  .live [0, 1, 30, 31, 32] (.seq (.after (.reg [(false, 1)] []) [0, 1, 30, 31, 32, 33]) (.seq (.after (.cond (.leaf) (.live [] (.leaf))) [0, 1, 30, 31, 32]) (.seq (.after (.block (.seq (.after (.reg [(false, 5)] []) [0, 1, 7, 8, 30, 31, 32]) (.seq (.seq (.after (.reg [(false, 2)] []) [0, 1, 7, 30, 31, 32, 38]) (.after (.cond (.live [0, 1, 30, 31, 32] (.leaf)) (.leaf)) [0, 1, 7, 30, 31, 32])) (.seq (.after (.reg [(false, 2)] []) [0, 1, 9, 30, 31, 32]) (.seq (.after (.reg [(false, 9)] [6]) [0, 1, 9, 10, 30, 31, 32]) (.seq (.after (.reg [(false, 8)] []) [0, 1, 9, 10, 12, 13, 30, 31, 32]) (.seq (.after (.reg [(false, 10)] []) [0, 1, 9, 10, 12, 13, 14, 15, 16, 30, 31, 32]) (.seq (.seq (.after (.reg [(false, 39)] []) [0, 1, 9, 10, 30, 31, 32, 97]) (.after (.cond (.seq (.after (.reg [(false, 1)] []) [6]) (.live [6] (.leaf))) (.leaf)) [0, 1, 9, 10, 30, 31, 32])) (.seq (.after (.reg [(false, 4)] []) [0, 1, 9, 30, 31, 32, 99, 100, 101]) (.after (.block (.loop hint316L0)) [0, 1, 30, 31, 32])))))))))) [0, 1, 30, 31, 32]) (.after (.reg [(false, 2)] []) [0, 1, 30, 31, 32]))))
def hint316 : Hint :=
  .seq (.after (.reg [(false, 1)] []) [0, 1, 2]) (.seq (.seq (.after (.reg [(false, 7)] []) [0, 1, 2, 27]) (.after (.cond (.seq (.after (.reg [(false, 1)] []) [6]) (.live [6] (.leaf))) (.leaf)) [0, 1, 2])) (.seq (.seq (.after (.reg [(false, 5)] []) [0, 1, 30, 31, 32]) (.after (.block (.loop hint316L1)) [])) (.seq (.after (.reg [(false, 1)] []) [6]) (.live [6] (.leaf)))))
def hint88 : Hint :=
  .seq (.after (.reg [(false, 1)] []) [0, 1]) (.seq (.after (.reg [(false, 4)] []) [4]) (.live [4] (.leaf)))
def hint318L0 : Hint :=
  .live [1, 2, 3, 8, 9, 10] (.seq (.after (.reg [(false, 1)] []) [1, 2, 3, 8, 9, 10, 11]) (.seq (.after (.cond (.leaf) (.live [] (.leaf))) [1, 2, 3, 8, 9, 10]) (.seq (.after (.block (.seq (.after (.reg [(false, 4)] [2]) [1, 2, 3, 6, 8, 9, 10]) (.seq (.after (.reg [(true, 6), (false, 2)] []) [1, 2, 3, 6, 7, 8, 9, 10]) (.seq (.after (.reg [(false, 13)] []) [1, 2, 3, 6, 7, 8, 9, 10, 33]) (.after (.cond (.seq (.after (.reg [(false, 4)] []) [1, 2, 3, 7, 8, 9, 10]) (.after (.reg [(false, 5)] []) [1, 2, 3, 8, 9, 10])) (.leaf)) [1, 2, 3, 8, 9, 10]))))) [1, 2, 3, 8, 9, 10]) (.after (.reg [(false, 2)] []) [1, 2, 3, 8, 9, 10]))))
def hint318 : Hint :=
  .seq (.after (.reg [(false, 3)] []) [1, 2, 3, 8, 9, 10]) (.after (.block (.loop hint318L0)) [])
def hint140 : Hint :=
  .seq (.after (.reg [(false, 1)] []) [0, 1]) (.seq (.after (.reg [(false, 14)] []) [4]) (.live [4] (.leaf)))
noncomputable def E : Env := ⟨Go.Proofs.Try.prog, fun f => List.lookup f [(2, 24), (3, 291), (4, 301), (5, 302), (6, 307), (7, 299), (8, 298), (9, 297), (10, 296), (11, 292), (12, 100295), (13, 294), (14, 290), (15, 293), (16, 300), (17, 304), (18, 306), (19, 305), (20, 303), (21, 308), (22, 309), (23, 310), (24, 312), (25, 311), (26, 313), (27, 314), (28, 315), (29, 317), (30, 316), (31, 88), (32, 318), (33, 140)], rndOf T⟩
theorem c24 : cFunc E false hint24 Go.Proofs.Try.f2 = some code24 := by kernel_rfl
theorem c291 : cFunc E false hint291 Go.Proofs.Try.f3 = some code291 := by kernel_rfl
theorem c301 : cFunc E false hint301 Go.Proofs.Try.f4 = some code301 := by kernel_rfl
theorem c302 : cFunc E false hint302 Go.Proofs.Try.f5 = some code302 := by kernel_rfl
theorem c307 : cFunc E false hint307 Go.Proofs.Try.f6 = some code307 := by kernel_rfl
theorem c299 : cFunc E true hint299 Go.Proofs.Try.f7 = some code299 := by kernel_rfl
theorem c298 : cFunc E false hint298 Go.Proofs.Try.f8 = some code298 := by kernel_rfl
theorem c297 : cFunc E false hint297 Go.Proofs.Try.f9 = some code297 := by kernel_rfl
theorem c296 : cFunc E false hint296 Go.Proofs.Try.f10 = some code296 := by kernel_rfl
theorem c292 : cFunc E false hint292 Go.Proofs.Try.f11 = some code292 := by kernel_rfl
theorem c100295 : cFunc E false hint100295 Go.Proofs.Try.f12 = some code100295 := by kernel_rfl
theorem c294 : cFunc E false hint294 Go.Proofs.Try.f13 = some code294 := by kernel_rfl
theorem c290 : cFunc E false hint290 Go.Proofs.Try.f14 = some code290 := by kernel_rfl
theorem c293 : cFunc E false hint293 Go.Proofs.Try.f15 = some code293 := by kernel_rfl
theorem c300 : cFunc E false hint300 Go.Proofs.Try.f16 = some code300 := by kernel_rfl
theorem c304 : cFunc E false hint304 Go.Proofs.Try.f17 = some code304 := by kernel_rfl
theorem c306 : cFunc E false hint306 Go.Proofs.Try.f18 = some code306 := by kernel_rfl
theorem c305 : cFunc E false hint305 Go.Proofs.Try.f19 = some code305 := by kernel_rfl
theorem c303 : cFunc E false hint303 Go.Proofs.Try.f20 = some code303 := by kernel_rfl
theorem c308 : cFunc E false hint308 Go.Proofs.Try.f21 = some code308 := by kernel_rfl
theorem c309 : cFunc E false hint309 Go.Proofs.Try.f22 = some code309 := by kernel_rfl
theorem c310 : cFunc E false hint310 Go.Proofs.Try.f23 = some code310 := by kernel_rfl
theorem c312 : cFunc E false hint312 Go.Proofs.Try.f24 = some code312 := by kernel_rfl
theorem c311 : cFunc E false hint311 Go.Proofs.Try.f25 = some code311 := by kernel_rfl
theorem c313 : cFunc E false hint313 Go.Proofs.Try.f26 = some code313 := by kernel_rfl
theorem c314 : cFunc E false hint314 Go.Proofs.Try.f27 = some code314 := by kernel_rfl
theorem c315 : cFunc E false hint315 Go.Proofs.Try.f28 = some code315 := by kernel_rfl
theorem c317 : cFunc E false hint317 Go.Proofs.Try.f29 = some code317 := by kernel_rfl
theorem c316 : cFunc E false hint316 Go.Proofs.Try.f30 = some code316 := by kernel_rfl
theorem c88 : cFunc E false hint88 Go.Proofs.Try.f31 = some code88 := by kernel_rfl
theorem c318 : cFunc E false hint318 Go.Proofs.Try.f32 = some code318 := by kernel_rfl
theorem c140 : cFunc E false hint140 Go.Proofs.Try.f33 = some code140 := by kernel_rfl
theorem r24 : RndOK E code24.body.rounds := trivial
theorem r291 : RndOK E code291.body.rounds := trivial
theorem r301 : RndOK E code301.body.rounds := trivial
theorem r302 : RndOK E code302.body.rounds := trivial
theorem r307 : RndOK E code307.body.rounds := trivial
theorem r299 : RndOK E code299.body.rounds := trivial
theorem r298 : RndOK E code298.body.rounds := trivial
theorem r297 : RndOK E code297.body.rounds := trivial
theorem r296 : RndOK E code296.body.rounds := trivial
theorem r292 : RndOK E code292.body.rounds := trivial
theorem r100295 : RndOK E code100295.body.rounds := trivial
theorem r294 : RndOK E code294.body.rounds := trivial
theorem r290 : RndOK E code290.body.rounds := trivial
theorem r293 : RndOK E code293.body.rounds := trivial
theorem r300 : RndOK E code300.body.rounds := trivial
theorem r304 : RndOK E code304.body.rounds := trivial
theorem r306 : RndOK E code306.body.rounds := trivial
theorem r305 : RndOK E code305.body.rounds := trivial
theorem r303 : RndOK E code303.body.rounds := trivial
theorem r308 : RndOK E code308.body.rounds := trivial
theorem r309 : RndOK E code309.body.rounds := trivial
theorem r310 : RndOK E code310.body.rounds := trivial
theorem r312 : RndOK E code312.body.rounds := trivial
theorem r311 : RndOK E code311.body.rounds := trivial
theorem r313 : RndOK E code313.body.rounds := trivial
theorem r314 : RndOK E code314.body.rounds := trivial
theorem r315 : RndOK E code315.body.rounds := trivial
theorem r317 : RndOK E code317.body.rounds := trivial
theorem r316 : RndOK E code316.body.rounds := trivial
theorem r88 : RndOK E code88.body.rounds := trivial
theorem r318 : RndOK E code318.body.rounds := trivial
theorem r140 : RndOK E code140.body.rounds := trivial
theorem agrees : Agrees E T := agrees_of ⟨⟨_, _, _, _, Go.Proofs.Try.func2, t24, c24, r24⟩, ⟨_, _, _, _, Go.Proofs.Try.func3, t291, c291, r291⟩, ⟨_, _, _, _, Go.Proofs.Try.func4, t301, c301, r301⟩, ⟨_, _, _, _, Go.Proofs.Try.func5, t302, c302, r302⟩, ⟨_, _, _, _, Go.Proofs.Try.func6, t307, c307, r307⟩, ⟨_, _, _, _, Go.Proofs.Try.func7, t299, c299, r299⟩, ⟨_, _, _, _, Go.Proofs.Try.func8, t298, c298, r298⟩, ⟨_, _, _, _, Go.Proofs.Try.func9, t297, c297, r297⟩, ⟨_, _, _, _, Go.Proofs.Try.func10, t296, c296, r296⟩, ⟨_, _, _, _, Go.Proofs.Try.func11, t292, c292, r292⟩, ⟨_, _, _, _, Go.Proofs.Try.func12, t100295, c100295, r100295⟩, ⟨_, _, _, _, Go.Proofs.Try.func13, t294, c294, r294⟩, ⟨_, _, _, _, Go.Proofs.Try.func14, t290, c290, r290⟩, ⟨_, _, _, _, Go.Proofs.Try.func15, t293, c293, r293⟩, ⟨_, _, _, _, Go.Proofs.Try.func16, t300, c300, r300⟩, ⟨_, _, _, _, Go.Proofs.Try.func17, t304, c304, r304⟩, ⟨_, _, _, _, Go.Proofs.Try.func18, t306, c306, r306⟩, ⟨_, _, _, _, Go.Proofs.Try.func19, t305, c305, r305⟩, ⟨_, _, _, _, Go.Proofs.Try.func20, t303, c303, r303⟩, ⟨_, _, _, _, Go.Proofs.Try.func21, t308, c308, r308⟩, ⟨_, _, _, _, Go.Proofs.Try.func22, t309, c309, r309⟩, ⟨_, _, _, _, Go.Proofs.Try.func23, t310, c310, r310⟩, ⟨_, _, _, _, Go.Proofs.Try.func24, t312, c312, r312⟩, ⟨_, _, _, _, Go.Proofs.Try.func25, t311, c311, r311⟩, ⟨_, _, _, _, Go.Proofs.Try.func26, t313, c313, r313⟩, ⟨_, _, _, _, Go.Proofs.Try.func27, t314, c314, r314⟩, ⟨_, _, _, _, Go.Proofs.Try.func28, t315, c315, r315⟩, ⟨_, _, _, _, Go.Proofs.Try.func29, t317, c317, r317⟩, ⟨_, _, _, _, Go.Proofs.Try.func30, t316, c316, r316⟩, ⟨_, _, _, _, Go.Proofs.Try.func31, t88, c88, r88⟩, ⟨_, _, _, _, Go.Proofs.Try.func32, t318, c318, r318⟩, ⟨_, _, _, _, Go.Proofs.Try.func33, t140, c140, r140⟩, trivial⟩
theorem mixed : E.P.follows .mixedOrders = true := by kernel_rfl
end Go.Abs.AbsHeap
