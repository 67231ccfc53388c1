/-
  The code of the functions, for the abstract machine: printed by a program.
-/
import Derived.Test.YtnpjncdnlacmeaaAbsCore
namespace Go.Abs.AbsWear
set_option maxRecDepth 100000
/-- gosem.cut.init -/
def code24 : AFunc := ⟨false, 0, 1, [],
  .after (.region [⟨false, [], [⟨(some 0), none, .nextStr (.const (.bool false))⟩]⟩]) [], none⟩
/-- carpetbag.carpetbaglaw07.WearTells -/
def code10 : AFunc := ⟨false, 2, 74, [.tmp 4],
  .seq (.after (.region [⟨false, [], [⟨(some 4), none, .val (.const (.bool false))⟩]⟩]) [0, 1])
  (.seq (.seq (.after (.region [⟨false, [], [⟨(some 13), none, .callg 9 []⟩,
      ⟨(some 14), none, .un .not (.tmp 13)⟩]⟩]) [0, 1, 14])
  (.after (.cond (.tmp 14) (.seq (.after (.region [⟨false, [], [⟨(some 4), none, .val (.const (.bool false))⟩]⟩]) [4])
  (.live [4] (.ret))) (.skip)) [0, 1]))
  (.seq (.seq (.after (.region [⟨false, [], [⟨(some 15), none, .val (.tmp 0)⟩,
      ⟨(some 16), none, .callg 8 [.tmp 15]⟩,
      ⟨(some 17), none, .un .not (.tmp 16)⟩]⟩]) [0, 1, 17])
  (.after (.cond (.tmp 17) (.seq (.after (.region [⟨false, [], [⟨(some 4), none, .val (.const (.bool true))⟩]⟩]) [4])
  (.live [4] (.ret))) (.skip)) [0, 1]))
  (.seq (.after (.region [⟨false, [], [⟨(some 19), none, .val (.tmp 0)⟩,
      ⟨(some 20), none, .val (.tmp 1)⟩,
      ⟨(some 21), none, .callg 7 [.tmp 19, .tmp 20]⟩,
      ⟨(some 18), none, .val (.tmp 21)⟩,
      ⟨(some 22), none, .extract (.tmp 18) 0⟩,
      ⟨(some 23), none, .extract (.tmp 18) 1⟩,
      ⟨(some 5), none, .val (.tmp 22)⟩,
      ⟨(some 6), none, .val (.tmp 23)⟩]⟩]) [0, 1, 5, 6])
  (.seq (.after (.region [⟨false, [], [⟨(some 25), none, .val (.tmp 0)⟩,
      ⟨(some 26), none, .val (.tmp 1)⟩,
      ⟨(some 27), none, .callg 6 [.tmp 25, .tmp 26]⟩,
      ⟨(some 24), none, .val (.tmp 27)⟩,
      ⟨(some 28), none, .extract (.tmp 24) 0⟩,
      ⟨(some 29), none, .extract (.tmp 24) 1⟩,
      ⟨(some 7), none, .val (.tmp 28)⟩,
      ⟨(some 8), none, .val (.tmp 29)⟩]⟩]) [0, 1, 5, 6, 7, 8])
  (.seq (.after (.region [⟨false, [], [⟨(some 31), none, .val (.tmp 0)⟩,
      ⟨(some 32), none, .callg 5 [.tmp 31]⟩,
      ⟨(some 30), none, .val (.tmp 32)⟩,
      ⟨(some 33), none, .extract (.tmp 30) 0⟩,
      ⟨(some 34), none, .extract (.tmp 30) 1⟩,
      ⟨(some 9), none, .val (.tmp 33)⟩,
      ⟨(some 10), none, .val (.tmp 34)⟩]⟩]) [0, 1, 5, 6, 7, 8, 9, 10])
  (.seq (.after (.region [⟨false, [], [⟨(some 36), none, .val (.tmp 0)⟩,
      ⟨(some 37), none, .callg 4 [.tmp 36]⟩,
      ⟨(some 35), none, .val (.tmp 37)⟩,
      ⟨(some 38), none, .extract (.tmp 35) 0⟩,
      ⟨(some 39), none, .extract (.tmp 35) 1⟩,
      ⟨(some 11), none, .val (.tmp 38)⟩,
      ⟨(some 12), none, .val (.tmp 39)⟩]⟩]) [0, 1, 5, 6, 7, 8, 9, 10, 11, 12])
  (.seq (.after (.region [⟨false, [], [⟨(some 40), none, .val (.tmp 5)⟩,
      ⟨(some 41), none, .val (.tmp 7)⟩,
      ⟨(some 42), none, .bin .eql (.tmp 40) (.tmp 41)⟩,
      ⟨(some 43), none, .val (.tmp 42)⟩,
      ⟨(some 44), (some (43, true)), .val (.tmp 6)⟩,
      ⟨(some 45), (some (43, true)), .val (.tmp 8)⟩,
      ⟨(some 46), (some (43, true)), .beq false (.tmp 44) (.tmp 45)⟩,
      ⟨(some 47), none, .pick (.tmp 43) (.tmp 46) (.const (.bool false))⟩,
      ⟨(some 48), none, .val (.tmp 47)⟩,
      ⟨(some 49), (some (48, true)), .val (.tmp 9)⟩,
      ⟨(some 50), (some (48, true)), .val (.tmp 11)⟩,
      ⟨(some 51), (some (48, true)), .bin .eql (.tmp 49) (.tmp 50)⟩,
      ⟨(some 52), none, .pick (.tmp 48) (.tmp 51) (.const (.bool false))⟩,
      ⟨(some 53), none, .val (.tmp 52)⟩,
      ⟨(some 54), (some (53, true)), .val (.tmp 10)⟩,
      ⟨(some 55), (some (53, true)), .val (.tmp 12)⟩,
      ⟨(some 56), (some (53, true)), .beq false (.tmp 54) (.tmp 55)⟩,
      ⟨(some 57), none, .pick (.tmp 53) (.tmp 56) (.const (.bool false))⟩,
      ⟨(some 58), none, .val (.tmp 57)⟩,
      ⟨(some 59), (some (58, true)), .val (.tmp 0)⟩,
      ⟨(some 60), (some (58, true)), .val (.tmp 1)⟩,
      ⟨(some 61), (some (58, true)), .callg 0 [.tmp 59, .tmp 60]⟩,
      ⟨(some 62), (some (58, true)), .val (.tmp 0)⟩,
      ⟨(some 63), (some (58, true)), .val (.tmp 1)⟩,
      ⟨(some 64), (some (58, true)), .callg 1 [.tmp 62, .tmp 63]⟩,
      ⟨(some 65), (some (58, true)), .bin .eql (.tmp 61) (.tmp 64)⟩,
      ⟨(some 66), none, .pick (.tmp 58) (.tmp 65) (.const (.bool false))⟩,
      ⟨(some 67), none, .val (.tmp 66)⟩,
      ⟨(some 68), (some (67, true)), .val (.tmp 0)⟩,
      ⟨(some 69), (some (67, true)), .callg 2 [.tmp 68]⟩,
      ⟨(some 70), (some (67, true)), .val (.tmp 0)⟩,
      ⟨(some 71), (some (67, true)), .callg 3 [.tmp 70]⟩,
      ⟨(some 72), (some (67, true)), .bin .eql (.tmp 69) (.tmp 71)⟩,
      ⟨(some 73), none, .pick (.tmp 67) (.tmp 72) (.const (.bool false))⟩,
      ⟨(some 4), none, .val (.tmp 73)⟩]⟩]) [4])
  (.live [4] (.ret))))))))), none⟩
def code11L0 : ACode :=
  .live [5, 7, 36, 37] (.seq (.after (.region [⟨false, [], [⟨(some 38), none, .bin .lss (.tmp 37) (.tmp 36)⟩]⟩]) [5, 7, 36, 37, 38])
  (.seq (.after (.cond (.tmp 38) (.skip) (.live [] (.exit 2))) [5, 7, 36, 37])
  (.seq (.after (.block 3 (.seq (.after (.region [⟨false, [], [⟨(some 40), none, .val (.tmp 5)⟩,
      ⟨(some 41), none, .callg 7 [.tmp 40, .const (.int .i64 1049576)]⟩,
      ⟨(some 39), none, .val (.tmp 41)⟩,
      ⟨(some 42), none, .extract (.tmp 39) 0⟩,
      ⟨(some 43), none, .extract (.tmp 39) 1⟩,
      ⟨(some 8), none, .val (.tmp 42)⟩,
      ⟨(some 9), none, .val (.tmp 43)⟩]⟩]) [5, 7, 8, 9, 36, 37])
  (.seq (.seq (.after (.region [⟨false, [], [⟨(some 44), none, .val (.tmp 9)⟩,
      ⟨(some 45), none, .un .not (.tmp 44)⟩,
      ⟨(some 46), none, .val (.tmp 45)⟩,
      ⟨(some 47), (some (46, false)), .val (.tmp 8)⟩,
      ⟨(some 48), (some (46, false)), .bin .lss (.tmp 47) (.const (.int .i64 0))⟩,
      ⟨(some 49), none, .pick (.tmp 46) (.const (.bool true)) (.tmp 48)⟩,
      ⟨(some 50), none, .val (.tmp 49)⟩,
      ⟨(some 51), (some (50, false)), .val (.tmp 8)⟩,
      ⟨(some 52), (some (50, false)), .val (.tmp 5)⟩,
      ⟨(some 53), (some (50, false)), .len .sl (.tmp 52)⟩,
      ⟨(some 54), (some (50, false)), .bin .geq (.tmp 51) (.tmp 53)⟩,
      ⟨(some 55), none, .pick (.tmp 50) (.const (.bool true)) (.tmp 54)⟩]⟩]) [5, 7, 8, 36, 37, 55])
  (.after (.cond (.tmp 55) (.seq (.after (.region [⟨false, [], [⟨(some 4), none, .val (.const (.bool false))⟩]⟩]) [4])
  (.live [4] (.ret))) (.skip)) [5, 7, 8, 36, 37]))
  (.seq (.after (.region [⟨false, [], [⟨(some 56), none, .val (.tmp 5)⟩,
      ⟨(some 57), none, .val (.tmp 8)⟩,
      ⟨(some 58), none, .iaddr 3 (.tmp 56) (.tmp 57)⟩,
      ⟨(some 59), none, .faddr (.tmp 58) 2⟩,
      ⟨(some 60), none, .load none (.tmp 59)⟩,
      ⟨(some 61), none, .bin .add (.tmp 60) (.const (.int .i64 1))⟩,
      ⟨(some 62), none, .iaddr 3 (.tmp 56) (.tmp 57)⟩,
      ⟨(some 63), none, .faddr (.tmp 62) 2⟩,
      ⟨none, none, .store 1 (.tmp 63) (.tmp 61)⟩]⟩]) [5, 7, 36, 37])
  (.seq (.after (.region [⟨false, [], [⟨(some 64), none, .val (.tmp 5)⟩,
      ⟨(some 65), none, .callg 2 [.tmp 64]⟩,
      ⟨(some 66), none, .val (.tmp 7)⟩,
      ⟨(some 67), none, .bin .gtr (.tmp 65) (.tmp 66)⟩]⟩]) [5, 7, 36, 37, 67])
  (.after (.cond (.tmp 67) (.seq (.after (.region [⟨false, [], [⟨(some 4), none, .val (.const (.bool false))⟩]⟩]) [4])
  (.live [4] (.ret))) (.skip)) [5, 7, 36, 37])))))) [5, 7, 36, 37])
  (.after (.region [⟨false, [], [⟨(some 68), none, .bin .add (.tmp 37) (.const (.int .u8 1))⟩,
      ⟨(some 37), none, .val (.tmp 68)⟩]⟩]) [5, 7, 36, 37]))))
def code11L1 : ACode :=
  .live [1, 5, 24, 25] (.seq (.after (.region [⟨false, [], [⟨(some 26), none, .bin .lss (.tmp 25) (.tmp 24)⟩]⟩]) [1, 5, 24, 25, 26])
  (.seq (.after (.cond (.tmp 26) (.skip) (.live [1, 5] (.exit 0))) [1, 5, 24, 25])
  (.seq (.after (.block 1 (.seq (.after (.region [⟨false, [], [⟨(some 27), none, .val (.tmp 25)⟩,
      ⟨(some 6), none, .val (.tmp 27)⟩]⟩]) [1, 5, 6, 24, 25])
  (.after (.region [⟨false, [], [⟨(some 28), none, .val (.tmp 5)⟩,
      ⟨(some 29), none, .val (.tmp 6)⟩,
      ⟨(some 30), none, .iaddr 3 (.tmp 28) (.tmp 29)⟩,
      ⟨(some 31), none, .faddr (.tmp 30) 0⟩,
      ⟨none, none, .store 1 (.tmp 31) (.const (.int .i64 1))⟩]⟩]) [1, 5, 24, 25]))) [1, 5, 24, 25])
  (.after (.region [⟨false, [], [⟨(some 32), none, .bin .add (.tmp 25) (.const (.int .i64 1))⟩,
      ⟨(some 25), none, .val (.tmp 32)⟩]⟩]) [1, 5, 24, 25]))))
/-- carpetbag.carpetbaglaw07.WearEven -/
def code11 : AFunc := ⟨false, 2, 69, [.tmp 4],
  .seq (.after (.region [⟨false, [], [⟨(some 4), none, .val (.const (.bool false))⟩]⟩]) [0, 1])
  (.seq (.seq (.after (.region [⟨false, [], [⟨(some 10), none, .callg 9 []⟩,
      ⟨(some 11), none, .un .not (.tmp 10)⟩]⟩]) [0, 1, 11])
  (.after (.cond (.tmp 11) (.seq (.after (.region [⟨false, [], [⟨(some 4), none, .val (.const (.bool false))⟩]⟩]) [4])
  (.live [4] (.ret))) (.skip)) [0, 1]))
  (.seq (.seq (.after (.region [⟨false, [], [⟨(some 12), none, .val (.tmp 0)⟩,
      ⟨(some 13), none, .callg 8 [.tmp 12]⟩,
      ⟨(some 14), none, .un .not (.tmp 13)⟩,
      ⟨(some 15), none, .val (.tmp 14)⟩,
      ⟨(some 16), (some (15, false)), .val (.tmp 0)⟩,
      ⟨(some 17), (some (15, false)), .len .sl (.tmp 16)⟩,
      ⟨(some 18), (some (15, false)), .bin .eql (.tmp 17) (.const (.int .i64 0))⟩,
      ⟨(some 19), none, .pick (.tmp 15) (.const (.bool true)) (.tmp 18)⟩]⟩]) [0, 1, 19])
  (.after (.cond (.tmp 19) (.seq (.after (.region [⟨false, [], [⟨(some 4), none, .val (.const (.bool true))⟩]⟩]) [4])
  (.live [4] (.ret))) (.skip)) [0, 1]))
  (.seq (.after (.region [⟨false, [], [⟨(some 20), none, .mkslice 3 0 [] []⟩,
      ⟨(some 21), none, .val (.tmp 0)⟩,
      ⟨(some 22), none, .append 3 24 (.tmp 20) (.tmp 21)⟩,
      ⟨(some 5), none, .val (.tmp 22)⟩]⟩]) [1, 5])
  (.seq (.seq (.after (.region [⟨false, [], [⟨(some 23), none, .val (.tmp 5)⟩,
      ⟨(some 24), none, .len .sl (.tmp 23)⟩,
      ⟨(some 25), none, .val (.const (.int .i64 0))⟩]⟩]) [1, 5, 24, 25])
  (.after (.block 0 (.loop code11L1)) [1, 5]))
  (.seq (.after (.region [⟨false, [], [⟨(some 33), none, .val (.tmp 5)⟩,
      ⟨(some 34), none, .callg 2 [.tmp 33]⟩,
      ⟨(some 35), none, .minmax true [.tmp 34, .const (.int .i64 1)]⟩,
      ⟨(some 7), none, .val (.tmp 35)⟩]⟩]) [1, 5, 7])
  (.seq (.seq (.after (.region [⟨false, [], [⟨(some 36), none, .val (.tmp 1)⟩,
      ⟨(some 37), none, .val (.const (.int .u8 0))⟩]⟩]) [5, 7, 36, 37])
  (.after (.block 2 (.loop code11L0)) []))
  (.seq (.after (.region [⟨false, [], [⟨(some 4), none, .val (.const (.bool true))⟩]⟩]) [4])
  (.live [4] (.ret))))))))), none⟩
/-- carpetbag.carpetbaglaw07.WearFree -/
def code12 : AFunc := ⟨false, 3, 59, [.tmp 6],
  .seq (.after (.region [⟨false, [], [⟨(some 5), none, .lbox (.tmp 2)⟩,
      ⟨(some 6), none, .val (.const (.bool false))⟩]⟩]) [0, 1, 5])
  (.seq (.seq (.after (.region [⟨false, [], [⟨(some 11), none, .callg 9 []⟩,
      ⟨(some 12), none, .un .not (.tmp 11)⟩]⟩]) [0, 1, 5, 12])
  (.after (.cond (.tmp 12) (.seq (.after (.region [⟨false, [], [⟨(some 6), none, .val (.const (.bool false))⟩]⟩]) [6])
  (.live [6] (.ret))) (.skip)) [0, 1, 5]))
  (.seq (.seq (.after (.region [⟨false, [], [⟨(some 13), none, .val (.tmp 0)⟩,
      ⟨(some 14), none, .callg 8 [.tmp 13]⟩,
      ⟨(some 15), none, .un .not (.tmp 14)⟩]⟩]) [0, 1, 5, 15])
  (.after (.cond (.tmp 15) (.seq (.after (.region [⟨false, [], [⟨(some 6), none, .val (.const (.bool true))⟩]⟩]) [6])
  (.live [6] (.ret))) (.skip)) [0, 1, 5]))
  (.seq (.after (.region [⟨false, [], [⟨(some 17), none, .val (.tmp 0)⟩,
      ⟨(some 18), none, .val (.tmp 1)⟩,
      ⟨(some 19), none, .callg 7 [.tmp 17, .tmp 18]⟩,
      ⟨(some 16), none, .val (.tmp 19)⟩,
      ⟨(some 20), none, .extract (.tmp 16) 0⟩,
      ⟨(some 21), none, .extract (.tmp 16) 1⟩,
      ⟨(some 7), none, .val (.tmp 20)⟩,
      ⟨(some 8), none, .val (.tmp 21)⟩]⟩]) [0, 1, 5, 7, 8])
  (.seq (.seq (.after (.region [⟨false, [], [⟨(some 22), none, .val (.tmp 8)⟩,
      ⟨(some 23), none, .val (.tmp 0)⟩,
      ⟨(some 24), none, .val (.tmp 1)⟩,
      ⟨(some 25), none, .callg 0 [.tmp 23, .tmp 24]⟩,
      ⟨(some 26), none, .bin .gtr (.tmp 25) (.const (.int .i64 0))⟩,
      ⟨(some 27), none, .beq true (.tmp 22) (.tmp 26)⟩,
      ⟨(some 28), none, .val (.tmp 27)⟩,
      ⟨(some 29), (some (28, false)), .val (.tmp 8)⟩,
      ⟨(some 30), (some (28, false)), .val (.tmp 29)⟩,
      ⟨(some 31), (some (30, true)), .val (.tmp 0)⟩,
      ⟨(some 32), (some (30, true)), .val (.tmp 7)⟩,
      ⟨(some 33), (some (30, true)), .iaddr 3 (.tmp 31) (.tmp 32)⟩,
      ⟨(some 34), (some (30, true)), .faddr (.tmp 33) 0⟩,
      ⟨(some 35), (some (30, true)), .load none (.tmp 34)⟩,
      ⟨(some 36), (some (30, true)), .bin .eql (.tmp 35) (.const (.int .i64 2))⟩,
      ⟨(some 37), (some (28, false)), .pick (.tmp 30) (.tmp 36) (.const (.bool false))⟩,
      ⟨(some 38), none, .pick (.tmp 28) (.const (.bool true)) (.tmp 37)⟩]⟩]) [0, 1, 5, 7, 8, 38])
  (.after (.cond (.tmp 38) (.seq (.after (.region [⟨false, [], [⟨(some 6), none, .val (.const (.bool false))⟩]⟩]) [6])
  (.live [6] (.ret))) (.skip)) [0, 1, 5, 7, 8]))
  (.seq (.after (.region [⟨false, [], [⟨(some 39), none, .faddr (.tmp 5) 0⟩,
      ⟨none, none, .store 1 (.tmp 39) (.const (.int .i64 2))⟩]⟩]) [0, 1, 5, 7, 8])
  (.seq (.after (.region [⟨true, [0, 0, 3, 0, 8, 31, 0], [⟨(some 41), none, .mkslice 3 0 [] []⟩,
      ⟨(some 42), none, .val (.tmp 0)⟩,
      ⟨(some 43), none, .append 3 24 (.tmp 41) (.tmp 42)⟩,
      ⟨(some 44), none, .load (some 3) (.tmp 5)⟩,
      ⟨(some 45), none, .mkslice 3 1 [.int .i64 0, .int .u32 0, .int .i64 0] [(0, 3, .tmp 44)]⟩,
      ⟨(some 46), none, .append 3 24 (.tmp 43) (.tmp 45)⟩,
      ⟨(some 47), none, .val (.tmp 1)⟩]⟩, ⟨false, [], [⟨(some 48), none, .callg 7 [.tmp 46, .tmp 47]⟩,
      ⟨(some 40), none, .val (.tmp 48)⟩]⟩, ⟨true, [], [⟨(some 49), none, .extract (.tmp 40) 0⟩,
      ⟨(some 50), none, .extract (.tmp 40) 1⟩,
      ⟨(some 9), none, .val (.tmp 49)⟩]⟩, ⟨false, [], [⟨(some 10), none, .val (.tmp 50)⟩]⟩]) [7, 8, 9, 10])
  (.seq (.after (.region [⟨false, [], [⟨(some 51), none, .val (.tmp 10)⟩,
      ⟨(some 52), none, .val (.tmp 8)⟩,
      ⟨(some 53), none, .beq false (.tmp 51) (.tmp 52)⟩,
      ⟨(some 54), none, .val (.tmp 53)⟩,
      ⟨(some 55), (some (54, true)), .val (.tmp 9)⟩,
      ⟨(some 56), (some (54, true)), .val (.tmp 7)⟩,
      ⟨(some 57), (some (54, true)), .bin .eql (.tmp 55) (.tmp 56)⟩,
      ⟨(some 58), none, .pick (.tmp 54) (.tmp 57) (.const (.bool false))⟩,
      ⟨(some 6), none, .val (.tmp 58)⟩]⟩]) [6])
  (.live [6] (.ret))))))))), none⟩
/-- carpetbag.carpetbaglaw07.fixed -/
def code9 : AFunc := ⟨true, 0, 53, [.tmp 0],
  .seq (.after (.region [⟨false, [], [⟨(some 0), none, .val (.const (.bool false))⟩]⟩]) [])
  (.seq (.after (.region [⟨false, [], [⟨(some 9), none, .callg 7 [.const (.slice none 0 (some 0)), .const (.int .i64 9)]⟩,
      ⟨(some 8), none, .val (.tmp 9)⟩,
      ⟨(some 10), none, .extract (.tmp 8) 0⟩,
      ⟨(some 11), none, .extract (.tmp 8) 1⟩,
      ⟨(some 1), none, .val (.tmp 10)⟩,
      ⟨(some 2), none, .val (.tmp 11)⟩]⟩]) [2])
  (.seq (.after (.region [⟨false, [], [⟨(some 12), none, .build [.int .i64 0, .int .u32 0, .int .i64 0] [(0, 1, .const (.int .i64 2)), (1, 1, .const (.int .u32 5))]⟩,
      ⟨(some 13), none, .build [.int .i64 0, .int .u32 0, .int .i64 0] [(0, 1, .const (.int .i64 1)), (2, 1, .const (.int .i64 3))]⟩,
      ⟨(some 14), none, .build [.int .i64 0, .int .u32 0, .int .i64 0] [(0, 1, .const (.int .i64 0)), (2, 1, .const (.int .i64 2))]⟩,
      ⟨(some 15), none, .build [.int .i64 0, .int .u32 0, .int .i64 0] [(0, 1, .const (.int .i64 2)), (1, 1, .const (.int .u32 4))]⟩,
      ⟨(some 16), none, .mkslice 3 4 [.int .i64 0, .int .u32 0, .int .i64 0, .int .i64 0, .int .u32 0, .int .i64 0, .int .i64 0, .int .u32 0, .int .i64 0, .int .i64 0, .int .u32 0, .int .i64 0] [(0, 3, .tmp 12), (3, 3, .tmp 13), (6, 3, .tmp 14), (9, 3, .tmp 15)]⟩,
      ⟨(some 3), none, .val (.tmp 16)⟩]⟩]) [2, 3])
  (.seq (.after (.region [⟨false, [], [⟨(some 18), none, .val (.tmp 3)⟩,
      ⟨(some 19), none, .callg 7 [.tmp 18, .const (.int .i64 9)]⟩,
      ⟨(some 17), none, .val (.tmp 19)⟩,
      ⟨(some 20), none, .extract (.tmp 17) 0⟩,
      ⟨(some 21), none, .extract (.tmp 17) 1⟩,
      ⟨(some 4), none, .val (.tmp 20)⟩,
      ⟨(some 5), none, .val (.tmp 21)⟩]⟩]) [2, 3, 4, 5])
  (.seq (.after (.region [⟨false, [], [⟨(some 23), none, .val (.tmp 3)⟩,
      ⟨(some 24), none, .callg 5 [.tmp 23]⟩,
      ⟨(some 22), none, .val (.tmp 24)⟩,
      ⟨(some 25), none, .extract (.tmp 22) 0⟩,
      ⟨(some 26), none, .extract (.tmp 22) 1⟩,
      ⟨(some 6), none, .val (.tmp 25)⟩,
      ⟨(some 7), none, .val (.tmp 26)⟩]⟩]) [2, 3, 4, 5, 6, 7])
  (.seq (.after (.region [⟨false, [], [⟨(some 27), none, .val (.tmp 2)⟩,
      ⟨(some 28), none, .un .not (.tmp 27)⟩,
      ⟨(some 29), none, .val (.tmp 28)⟩,
      ⟨(some 30), (some (29, true)), .val (.tmp 5)⟩,
      ⟨(some 31), none, .pick (.tmp 29) (.tmp 30) (.const (.bool false))⟩,
      ⟨(some 32), none, .val (.tmp 31)⟩,
      ⟨(some 33), (some (32, true)), .val (.tmp 7)⟩,
      ⟨(some 34), none, .pick (.tmp 32) (.tmp 33) (.const (.bool false))⟩,
      ⟨(some 35), none, .val (.tmp 34)⟩,
      ⟨(some 36), (some (35, true)), .val (.tmp 4)⟩,
      ⟨(some 37), (some (35, true)), .bin .eql (.tmp 36) (.const (.int .i64 2))⟩,
      ⟨(some 38), none, .pick (.tmp 35) (.tmp 37) (.const (.bool false))⟩,
      ⟨(some 39), none, .val (.tmp 38)⟩,
      ⟨(some 40), (some (39, true)), .val (.tmp 6)⟩,
      ⟨(some 41), (some (39, true)), .bin .eql (.tmp 40) (.const (.int .i64 3))⟩,
      ⟨(some 42), none, .pick (.tmp 39) (.tmp 41) (.const (.bool false))⟩,
      ⟨(some 43), none, .val (.tmp 42)⟩,
      ⟨(some 44), (some (43, true)), .val (.tmp 3)⟩,
      ⟨(some 45), (some (43, true)), .callg 0 [.tmp 44, .const (.int .i64 3)]⟩,
      ⟨(some 46), (some (43, true)), .bin .eql (.tmp 45) (.const (.int .i64 1))⟩,
      ⟨(some 47), none, .pick (.tmp 43) (.tmp 46) (.const (.bool false))⟩,
      ⟨(some 48), none, .val (.tmp 47)⟩,
      ⟨(some 49), (some (48, true)), .val (.tmp 3)⟩,
      ⟨(some 50), (some (48, true)), .callg 2 [.tmp 49]⟩,
      ⟨(some 51), (some (48, true)), .bin .eql (.tmp 50) (.const (.int .i64 3))⟩,
      ⟨(some 52), none, .pick (.tmp 48) (.tmp 51) (.const (.bool false))⟩,
      ⟨(some 0), none, .val (.tmp 52)⟩]⟩]) [0])
  (.live [0] (.ret))))))), none⟩
def code8L0 : ACode :=
  .live [0, 5, 6, 7] (.seq (.after (.region [⟨false, [], [⟨(some 8), none, .bin .lss (.tmp 7) (.tmp 6)⟩]⟩]) [0, 5, 6, 7, 8])
  (.seq (.after (.cond (.tmp 8) (.skip) (.live [0] (.exit 0))) [0, 5, 6, 7])
  (.seq (.after (.block 1 (.seq (.after (.region [⟨false, [], [⟨(some 9), none, .iaddr 3 (.tmp 5) (.tmp 7)⟩,
      ⟨(some 10), none, .load (some 3) (.tmp 9)⟩,
      ⟨(some 4), none, .lalloc [.int .i64 0, .int .u32 0, .int .i64 0]⟩,
      ⟨none, none, .store 3 (.tmp 4) (.tmp 10)⟩]⟩]) [0, 4, 5, 6, 7])
  (.seq (.after (.region [⟨false, [], [⟨(some 11), none, .faddr (.tmp 4) 2⟩,
      ⟨(some 12), none, .load none (.tmp 11)⟩,
      ⟨(some 13), none, .bin .lss (.tmp 12) (.const (.int .i64 0))⟩,
      ⟨(some 14), none, .val (.tmp 13)⟩,
      ⟨(some 15), (some (14, false)), .faddr (.tmp 4) 2⟩,
      ⟨(some 16), (some (14, false)), .load none (.tmp 15)⟩,
      ⟨(some 17), (some (14, false)), .bin .gtr (.tmp 16) (.const (.int .i64 1048576))⟩,
      ⟨(some 18), none, .pick (.tmp 14) (.const (.bool true)) (.tmp 17)⟩]⟩]) [0, 5, 6, 7, 18])
  (.after (.cond (.tmp 18) (.seq (.after (.region [⟨false, [], [⟨(some 2), none, .val (.const (.bool false))⟩]⟩]) [2])
  (.live [2] (.ret))) (.skip)) [0, 5, 6, 7])))) [0, 5, 6, 7])
  (.after (.region [⟨false, [], [⟨(some 19), none, .bin .add (.tmp 7) (.const (.int .i64 1))⟩,
      ⟨(some 7), none, .val (.tmp 19)⟩]⟩]) [0, 5, 6, 7]))))
/-- carpetbag.carpetbaglaw07.right -/
def code8 : AFunc := ⟨false, 1, 23, [.tmp 2],
  .seq (.after (.region [⟨false, [], [⟨(some 2), none, .val (.const (.bool false))⟩]⟩]) [0])
  (.seq (.seq (.after (.region [⟨false, [], [⟨(some 5), none, .val (.tmp 0)⟩,
      ⟨(some 6), none, .len .sl (.tmp 5)⟩,
      ⟨(some 7), none, .val (.const (.int .i64 0))⟩]⟩]) [0, 5, 6, 7])
  (.after (.block 0 (.loop code8L0)) [0]))
  (.seq (.after (.region [⟨false, [], [⟨(some 20), none, .val (.tmp 0)⟩,
      ⟨(some 21), none, .len .sl (.tmp 20)⟩,
      ⟨(some 22), none, .bin .leq (.tmp 21) (.const (.int .i64 100))⟩,
      ⟨(some 2), none, .val (.tmp 22)⟩]⟩]) [2])
  (.live [2] (.ret)))), none⟩
/-- carpetbag.wear.Next -/
def code7 : AFunc := ⟨false, 2, 12, [.tmp 4, .tmp 5],
  .seq (.after (.region [⟨false, [], [⟨(some 4), none, .val (.const (.int .i64 0))⟩,
      ⟨(some 5), none, .val (.const (.bool false))⟩]⟩]) [0, 1])
  (.seq (.after (.region [⟨false, [], [⟨(some 6), none, .val (.tmp 0)⟩,
      ⟨(some 7), none, .val (.tmp 1)⟩,
      ⟨(some 8), none, .callg 13 [.tmp 7]⟩,
      ⟨(some 9), none, .callg 14 [.tmp 6, .tmp 8, .const (.func 15 [] [])]⟩,
      ⟨(some 10), none, .extract (.tmp 9) 0⟩,
      ⟨(some 11), none, .extract (.tmp 9) 1⟩,
      ⟨(some 4), none, .val (.tmp 10)⟩,
      ⟨(some 5), none, .val (.tmp 11)⟩]⟩]) [4, 5])
  (.live [4, 5] (.ret))), none⟩
def code6L0 : ACode :=
  .live [0, 1, 6, 9, 10, 11] (.seq (.after (.region [⟨false, [], [⟨(some 12), none, .bin .lss (.tmp 11) (.tmp 10)⟩]⟩]) [0, 1, 6, 9, 10, 11, 12])
  (.seq (.after (.cond (.tmp 12) (.skip) (.live [6] (.exit 0))) [0, 1, 6, 9, 10, 11])
  (.seq (.after (.block 1 (.seq (.after (.region [⟨false, [], [⟨(some 13), none, .val (.tmp 11)⟩,
      ⟨(some 14), none, .iaddr 3 (.tmp 9) (.tmp 11)⟩,
      ⟨(some 15), none, .load (some 3) (.tmp 14)⟩,
      ⟨(some 8), none, .lalloc [.int .i64 0, .int .u32 0, .int .i64 0]⟩,
      ⟨(some 7), none, .val (.tmp 13)⟩,
      ⟨none, none, .store 3 (.tmp 8) (.tmp 15)⟩]⟩]) [0, 1, 6, 7, 8, 9, 10, 11])
  (.seq (.after (.region [⟨true, [], [⟨(some 16), none, .load (some 3) (.tmp 8)⟩,
      ⟨(some 17), none, .val (.tmp 1)⟩]⟩, ⟨false, [], [⟨(some 18), none, .callg 16 [.tmp 16, .tmp 17]⟩,
      ⟨(some 19), none, .val (.tmp 18)⟩,
      ⟨(some 20), (some (19, true)), .val (.tmp 6)⟩,
      ⟨(some 21), (some (19, true)), .bin .lss (.tmp 20) (.const (.int .i64 0))⟩,
      ⟨(some 22), (some (19, true)), .val (.tmp 21)⟩]⟩, ⟨true, [], [⟨(some 23), (some (22, false)), .faddr (.tmp 8) 2⟩,
      ⟨(some 24), (some (22, false)), .load none (.tmp 23)⟩,
      ⟨(some 25), (some (22, false)), .val (.tmp 0)⟩,
      ⟨(some 26), (some (22, false)), .val (.tmp 6)⟩,
      ⟨(some 27), (some (22, false)), .iaddr 3 (.tmp 25) (.tmp 26)⟩,
      ⟨(some 28), (some (22, false)), .faddr (.tmp 27) 2⟩,
      ⟨(some 29), (some (22, false)), .load none (.tmp 28)⟩]⟩, ⟨false, [], [⟨(some 30), (some (22, false)), .bin .lss (.tmp 24) (.tmp 29)⟩,
      ⟨(some 31), (some (19, true)), .pick (.tmp 22) (.const (.bool true)) (.tmp 30)⟩,
      ⟨(some 32), none, .pick (.tmp 19) (.tmp 31) (.const (.bool false))⟩]⟩]) [0, 1, 6, 7, 9, 10, 11, 32])
  (.after (.cond (.tmp 32) (.after (.region [⟨false, [], [⟨(some 33), none, .val (.tmp 7)⟩,
      ⟨(some 6), none, .val (.tmp 33)⟩]⟩]) [0, 1, 6, 9, 10, 11]) (.skip)) [0, 1, 6, 9, 10, 11])))) [0, 1, 6, 9, 10, 11])
  (.after (.region [⟨false, [], [⟨(some 34), none, .bin .add (.tmp 11) (.const (.int .i64 1))⟩,
      ⟨(some 11), none, .val (.tmp 34)⟩]⟩]) [0, 1, 6, 9, 10, 11]))))
/-- carpetbag.carpetbagref07.Next -/
def code6 : AFunc := ⟨false, 2, 39, [.tmp 4, .tmp 5],
  .seq (.after (.region [⟨false, [], [⟨(some 4), none, .val (.const (.int .i64 0))⟩,
      ⟨(some 5), none, .val (.const (.bool false))⟩]⟩]) [0, 1])
  (.seq (.after (.region [⟨false, [], [⟨(some 6), none, .val (.const (.int .i64 (-1)))⟩]⟩]) [0, 1, 6])
  (.seq (.seq (.after (.region [⟨false, [], [⟨(some 9), none, .val (.tmp 0)⟩,
      ⟨(some 10), none, .len .sl (.tmp 9)⟩,
      ⟨(some 11), none, .val (.const (.int .i64 0))⟩]⟩]) [0, 1, 6, 9, 10, 11])
  (.after (.block 0 (.loop code6L0)) [6]))
  (.seq (.after (.region [⟨false, [], [⟨(some 35), none, .val (.tmp 6)⟩,
      ⟨(some 36), none, .minmax true [.tmp 35, .const (.int .i64 0)]⟩,
      ⟨(some 37), none, .val (.tmp 6)⟩,
      ⟨(some 38), none, .bin .geq (.tmp 37) (.const (.int .i64 0))⟩,
      ⟨(some 4), none, .val (.tmp 36)⟩,
      ⟨(some 5), none, .val (.tmp 38)⟩]⟩]) [4, 5])
  (.live [4, 5] (.ret))))), none⟩
/-- carpetbag.wear.Oldest -/
def code5 : AFunc := ⟨false, 1, 8, [.tmp 2, .tmp 3],
  .seq (.after (.region [⟨false, [], [⟨(some 2), none, .val (.const (.int .i64 0))⟩,
      ⟨(some 3), none, .val (.const (.bool false))⟩]⟩]) [0])
  (.seq (.after (.region [⟨false, [], [⟨(some 4), none, .val (.tmp 0)⟩,
      ⟨(some 5), none, .callg 17 [.tmp 4, .const (.func 18 [] []), .const (.func 19 [] [])]⟩,
      ⟨(some 6), none, .extract (.tmp 5) 0⟩,
      ⟨(some 7), none, .extract (.tmp 5) 1⟩,
      ⟨(some 2), none, .val (.tmp 6)⟩,
      ⟨(some 3), none, .val (.tmp 7)⟩]⟩]) [2, 3])
  (.live [2, 3] (.ret))), none⟩
def code4L0 : ACode :=
  .live [0, 4, 7, 8, 9] (.seq (.after (.region [⟨false, [], [⟨(some 10), none, .bin .lss (.tmp 9) (.tmp 8)⟩]⟩]) [0, 4, 7, 8, 9, 10])
  (.seq (.after (.cond (.tmp 10) (.skip) (.live [4] (.exit 0))) [0, 4, 7, 8, 9])
  (.seq (.after (.block 1 (.seq (.after (.region [⟨false, [], [⟨(some 11), none, .val (.tmp 9)⟩,
      ⟨(some 12), none, .iaddr 3 (.tmp 7) (.tmp 9)⟩,
      ⟨(some 13), none, .load (some 3) (.tmp 12)⟩,
      ⟨(some 6), none, .lalloc [.int .i64 0, .int .u32 0, .int .i64 0]⟩,
      ⟨(some 5), none, .val (.tmp 11)⟩,
      ⟨none, none, .store 3 (.tmp 6) (.tmp 13)⟩]⟩]) [0, 4, 5, 6, 7, 8, 9])
  (.seq (.after (.region [⟨false, [], [⟨(some 14), none, .faddr (.tmp 6) 0⟩,
      ⟨(some 15), none, .load none (.tmp 14)⟩,
      ⟨(some 16), none, .bin .eql (.tmp 15) (.const (.int .i64 2))⟩,
      ⟨(some 17), none, .val (.tmp 16)⟩,
      ⟨(some 18), (some (17, true)), .val (.tmp 4)⟩,
      ⟨(some 19), (some (17, true)), .bin .lss (.tmp 18) (.const (.int .i64 0))⟩,
      ⟨(some 20), (some (17, true)), .val (.tmp 19)⟩]⟩, ⟨true, [], [⟨(some 21), (some (20, false)), .faddr (.tmp 6) 1⟩,
      ⟨(some 22), (some (20, false)), .load none (.tmp 21)⟩,
      ⟨(some 23), (some (20, false)), .val (.tmp 0)⟩,
      ⟨(some 24), (some (20, false)), .val (.tmp 4)⟩,
      ⟨(some 25), (some (20, false)), .iaddr 3 (.tmp 23) (.tmp 24)⟩,
      ⟨(some 26), (some (20, false)), .faddr (.tmp 25) 1⟩,
      ⟨(some 27), (some (20, false)), .load none (.tmp 26)⟩]⟩, ⟨false, [], [⟨(some 28), (some (20, false)), .bin .lss (.tmp 22) (.tmp 27)⟩,
      ⟨(some 29), (some (17, true)), .pick (.tmp 20) (.const (.bool true)) (.tmp 28)⟩,
      ⟨(some 30), none, .pick (.tmp 17) (.tmp 29) (.const (.bool false))⟩]⟩]) [0, 4, 5, 7, 8, 9, 30])
  (.after (.cond (.tmp 30) (.after (.region [⟨false, [], [⟨(some 31), none, .val (.tmp 5)⟩,
      ⟨(some 4), none, .val (.tmp 31)⟩]⟩]) [0, 4, 7, 8, 9]) (.skip)) [0, 4, 7, 8, 9])))) [0, 4, 7, 8, 9])
  (.after (.region [⟨false, [], [⟨(some 32), none, .bin .add (.tmp 9) (.const (.int .i64 1))⟩,
      ⟨(some 9), none, .val (.tmp 32)⟩]⟩]) [0, 4, 7, 8, 9]))))
/-- carpetbag.carpetbagref07.Oldest -/
def code4 : AFunc := ⟨false, 1, 37, [.tmp 2, .tmp 3],
  .seq (.after (.region [⟨false, [], [⟨(some 2), none, .val (.const (.int .i64 0))⟩,
      ⟨(some 3), none, .val (.const (.bool false))⟩]⟩]) [0])
  (.seq (.after (.region [⟨false, [], [⟨(some 4), none, .val (.const (.int .i64 (-1)))⟩]⟩]) [0, 4])
  (.seq (.seq (.after (.region [⟨false, [], [⟨(some 7), none, .val (.tmp 0)⟩,
      ⟨(some 8), none, .len .sl (.tmp 7)⟩,
      ⟨(some 9), none, .val (.const (.int .i64 0))⟩]⟩]) [0, 4, 7, 8, 9])
  (.after (.block 0 (.loop code4L0)) [4]))
  (.seq (.after (.region [⟨false, [], [⟨(some 33), none, .val (.tmp 4)⟩,
      ⟨(some 34), none, .minmax true [.tmp 33, .const (.int .i64 0)]⟩,
      ⟨(some 35), none, .val (.tmp 4)⟩,
      ⟨(some 36), none, .bin .geq (.tmp 35) (.const (.int .i64 0))⟩,
      ⟨(some 2), none, .val (.tmp 34)⟩,
      ⟨(some 3), none, .val (.tmp 36)⟩]⟩]) [2, 3])
  (.live [2, 3] (.ret))))), none⟩
def code0L0 : ACode :=
  .live [5, 6, 11, 12, 13] (.seq (.after (.region [⟨false, [], [⟨(some 14), none, .bin .lss (.tmp 13) (.tmp 12)⟩]⟩]) [5, 6, 11, 12, 13, 14])
  (.seq (.after (.cond (.tmp 14) (.skip) (.live [5] (.exit 0))) [5, 6, 11, 12, 13])
  (.seq (.after (.block 1 (.seq (.after (.region [⟨false, [], [⟨(some 15), none, .iaddr 3 (.tmp 11) (.tmp 13)⟩,
      ⟨(some 16), none, .load (some 3) (.tmp 15)⟩,
      ⟨(some 8), none, .lalloc [.int .i64 0, .int .u32 0, .int .i64 0]⟩,
      ⟨none, none, .store 3 (.tmp 8) (.tmp 16)⟩]⟩]) [5, 6, 8, 11, 12, 13])
  (.seq (.after (.region [⟨false, [], [⟨(some 17), none, .val (.tmp 6)⟩,
      ⟨(some 18), none, .load (some 3) (.tmp 8)⟩,
      ⟨(some 19), none, .call (.tmp 17) [.tmp 18]⟩]⟩]) [5, 6, 11, 12, 13, 19])
  (.after (.cond (.tmp 19) (.after (.region [⟨false, [], [⟨(some 20), none, .val (.tmp 5)⟩,
      ⟨(some 21), none, .bin .add (.tmp 20) (.const (.int .i64 1))⟩,
      ⟨(some 5), none, .val (.tmp 21)⟩]⟩]) [5, 6, 11, 12, 13]) (.skip)) [5, 6, 11, 12, 13])))) [5, 6, 11, 12, 13])
  (.after (.region [⟨false, [], [⟨(some 22), none, .bin .add (.tmp 13) (.const (.int .i64 1))⟩,
      ⟨(some 13), none, .val (.tmp 22)⟩]⟩]) [5, 6, 11, 12, 13]))))
/-- carpetbag.wear.Free -/
def code0 : AFunc := ⟨false, 2, 24, [.tmp 4],
  .seq (.after (.region [⟨false, [], [⟨(some 4), none, .val (.const (.int .i64 0))⟩]⟩]) [0, 1])
  (.seq (.after (.region [⟨false, [], [⟨(some 9), none, .val (.tmp 1)⟩,
      ⟨(some 10), none, .callg 13 [.tmp 9]⟩,
      ⟨(some 5), none, .val (.const (.int .i64 0))⟩,
      ⟨(some 6), none, .val (.tmp 10)⟩]⟩]) [0, 5, 6])
  (.seq (.seq (.after (.region [⟨false, [], [⟨(some 11), none, .val (.tmp 0)⟩,
      ⟨(some 12), none, .len .sl (.tmp 11)⟩,
      ⟨(some 13), none, .val (.const (.int .i64 0))⟩]⟩]) [5, 6, 11, 12, 13])
  (.after (.block 0 (.loop code0L0)) [5]))
  (.seq (.after (.region [⟨false, [], [⟨(some 23), none, .val (.tmp 5)⟩,
      ⟨(some 4), none, .val (.tmp 23)⟩]⟩]) [4])
  (.live [4] (.ret))))), none⟩
def code1L0 : ACode :=
  .live [1, 5, 8, 9, 10] (.seq (.after (.region [⟨false, [], [⟨(some 11), none, .bin .lss (.tmp 10) (.tmp 9)⟩]⟩]) [1, 5, 8, 9, 10, 11])
  (.seq (.after (.cond (.tmp 11) (.skip) (.live [5] (.exit 0))) [1, 5, 8, 9, 10])
  (.seq (.after (.block 1 (.seq (.after (.region [⟨false, [], [⟨(some 12), none, .iaddr 3 (.tmp 8) (.tmp 10)⟩,
      ⟨(some 13), none, .load (some 3) (.tmp 12)⟩,
      ⟨(some 7), none, .lalloc [.int .i64 0, .int .u32 0, .int .i64 0]⟩,
      ⟨none, none, .store 3 (.tmp 7) (.tmp 13)⟩]⟩]) [1, 5, 7, 8, 9, 10])
  (.seq (.after (.region [⟨false, [], [⟨(some 14), none, .load (some 3) (.tmp 7)⟩,
      ⟨(some 15), none, .val (.tmp 1)⟩,
      ⟨(some 16), none, .callg 16 [.tmp 14, .tmp 15]⟩]⟩]) [1, 5, 8, 9, 10, 16])
  (.after (.cond (.tmp 16) (.after (.region [⟨false, [], [⟨(some 17), none, .val (.tmp 5)⟩,
      ⟨(some 18), none, .bin .add (.tmp 17) (.const (.int .i64 1))⟩,
      ⟨(some 5), none, .val (.tmp 18)⟩]⟩]) [1, 5, 8, 9, 10]) (.skip)) [1, 5, 8, 9, 10])))) [1, 5, 8, 9, 10])
  (.after (.region [⟨false, [], [⟨(some 19), none, .bin .add (.tmp 10) (.const (.int .i64 1))⟩,
      ⟨(some 10), none, .val (.tmp 19)⟩]⟩]) [1, 5, 8, 9, 10]))))
/-- carpetbag.carpetbagref07.Free -/
def code1 : AFunc := ⟨false, 2, 21, [.tmp 4],
  .seq (.after (.region [⟨false, [], [⟨(some 4), none, .val (.const (.int .i64 0))⟩]⟩]) [0, 1])
  (.seq (.after (.region [⟨false, [], [⟨(some 5), none, .val (.const (.int .i64 0))⟩]⟩]) [0, 1, 5])
  (.seq (.seq (.after (.region [⟨false, [], [⟨(some 8), none, .val (.tmp 0)⟩,
      ⟨(some 9), none, .len .sl (.tmp 8)⟩,
      ⟨(some 10), none, .val (.const (.int .i64 0))⟩]⟩]) [1, 5, 8, 9, 10])
  (.after (.block 0 (.loop code1L0)) [5]))
  (.seq (.after (.region [⟨false, [], [⟨(some 20), none, .val (.tmp 5)⟩,
      ⟨(some 4), none, .val (.tmp 20)⟩]⟩]) [4])
  (.live [4] (.ret))))), none⟩
/-- carpetbag.wear.Spread -/
def code2 : AFunc := ⟨false, 1, 34, [.tmp 2],
  .seq (.after (.region [⟨false, [], [⟨(some 2), none, .val (.const (.int .i64 0))⟩]⟩]) [0])
  (.seq (.seq (.after (.region [⟨false, [], [⟨(some 8), none, .val (.tmp 0)⟩,
      ⟨(some 9), none, .len .sl (.tmp 8)⟩,
      ⟨(some 10), none, .bin .eql (.tmp 9) (.const (.int .i64 0))⟩]⟩]) [0, 10])
  (.after (.cond (.tmp 10) (.seq (.after (.region [⟨false, [], [⟨(some 2), none, .val (.const (.int .i64 0))⟩]⟩]) [2])
  (.live [2] (.ret))) (.skip)) [0]))
  (.seq (.after (.region [⟨false, [], [⟨(some 3), none, .val (.const (.func 21 [] []))⟩]⟩]) [0, 3])
  (.seq (.after (.region [⟨false, [], [⟨(some 12), none, .val (.tmp 0)⟩,
      ⟨(some 13), none, .val (.tmp 3)⟩,
      ⟨(some 14), none, .callg 14 [.tmp 12, .tmp 13, .const (.func 15 [] [])]⟩,
      ⟨(some 11), none, .val (.tmp 14)⟩,
      ⟨(some 15), none, .extract (.tmp 11) 0⟩,
      ⟨(some 16), none, .extract (.tmp 11) 1⟩,
      ⟨(some 4), none, .val (.tmp 15)⟩,
      ⟨(some 5), none, .val (.tmp 16)⟩]⟩]) [0, 3, 4])
  (.seq (.after (.region [⟨false, [], [⟨(some 18), none, .val (.tmp 0)⟩,
      ⟨(some 19), none, .val (.tmp 3)⟩,
      ⟨(some 20), none, .callg 14 [.tmp 18, .tmp 19, .const (.func 20 [] [])]⟩,
      ⟨(some 17), none, .val (.tmp 20)⟩,
      ⟨(some 21), none, .extract (.tmp 17) 0⟩,
      ⟨(some 22), none, .extract (.tmp 17) 1⟩,
      ⟨(some 6), none, .val (.tmp 21)⟩,
      ⟨(some 7), none, .val (.tmp 22)⟩]⟩]) [0, 4, 6])
  (.seq (.after (.region [⟨true, [], [⟨(some 23), none, .val (.tmp 0)⟩,
      ⟨(some 24), none, .val (.tmp 6)⟩,
      ⟨(some 25), none, .iaddr 3 (.tmp 23) (.tmp 24)⟩,
      ⟨(some 26), none, .faddr (.tmp 25) 2⟩,
      ⟨(some 27), none, .load none (.tmp 26)⟩,
      ⟨(some 28), none, .val (.tmp 0)⟩,
      ⟨(some 29), none, .val (.tmp 4)⟩,
      ⟨(some 30), none, .iaddr 3 (.tmp 28) (.tmp 29)⟩,
      ⟨(some 31), none, .faddr (.tmp 30) 2⟩,
      ⟨(some 32), none, .load none (.tmp 31)⟩]⟩, ⟨false, [], [⟨(some 33), none, .bin .sub (.tmp 27) (.tmp 32)⟩,
      ⟨(some 2), none, .val (.tmp 33)⟩]⟩]) [2])
  (.live [2] (.ret))))))), none⟩
def code3L0 : ACode :=
  .live [3, 4, 18, 19, 20] (.seq (.after (.region [⟨false, [], [⟨(some 21), none, .bin .lss (.tmp 20) (.tmp 19)⟩]⟩]) [3, 4, 18, 19, 20, 21])
  (.seq (.after (.cond (.tmp 21) (.skip) (.live [3, 4] (.exit 0))) [3, 4, 18, 19, 20])
  (.seq (.after (.block 1 (.seq (.after (.region [⟨false, [], [⟨(some 22), none, .iaddr 3 (.tmp 18) (.tmp 20)⟩,
      ⟨(some 23), none, .load (some 3) (.tmp 22)⟩,
      ⟨(some 6), none, .lalloc [.int .i64 0, .int .u32 0, .int .i64 0]⟩,
      ⟨none, none, .store 3 (.tmp 6) (.tmp 23)⟩]⟩]) [3, 4, 6, 18, 19, 20])
  (.seq (.after (.region [⟨false, [], [⟨(some 24), none, .val (.tmp 3)⟩,
      ⟨(some 25), none, .faddr (.tmp 6) 2⟩,
      ⟨(some 26), none, .load none (.tmp 25)⟩,
      ⟨(some 27), none, .minmax false [.tmp 24, .tmp 26]⟩,
      ⟨(some 3), none, .val (.tmp 27)⟩]⟩]) [3, 4, 6, 18, 19, 20])
  (.after (.region [⟨false, [], [⟨(some 28), none, .val (.tmp 4)⟩,
      ⟨(some 29), none, .faddr (.tmp 6) 2⟩,
      ⟨(some 30), none, .load none (.tmp 29)⟩,
      ⟨(some 31), none, .minmax true [.tmp 28, .tmp 30]⟩,
      ⟨(some 4), none, .val (.tmp 31)⟩]⟩]) [3, 4, 18, 19, 20])))) [3, 4, 18, 19, 20])
  (.after (.region [⟨false, [], [⟨(some 32), none, .bin .add (.tmp 20) (.const (.int .i64 1))⟩,
      ⟨(some 20), none, .val (.tmp 32)⟩]⟩]) [3, 4, 18, 19, 20]))))
/-- carpetbag.carpetbagref07.Spread -/
def code3 : AFunc := ⟨false, 1, 36, [.tmp 2],
  .seq (.after (.region [⟨false, [], [⟨(some 2), none, .val (.const (.int .i64 0))⟩]⟩]) [0])
  (.seq (.seq (.after (.region [⟨false, [], [⟨(some 7), none, .val (.tmp 0)⟩,
      ⟨(some 8), none, .len .sl (.tmp 7)⟩,
      ⟨(some 9), none, .bin .eql (.tmp 8) (.const (.int .i64 0))⟩]⟩]) [0, 9])
  (.after (.cond (.tmp 9) (.seq (.after (.region [⟨false, [], [⟨(some 2), none, .val (.const (.int .i64 0))⟩]⟩]) [2])
  (.live [2] (.ret))) (.skip)) [0]))
  (.seq (.after (.region [⟨true, [], [⟨(some 10), none, .val (.tmp 0)⟩,
      ⟨(some 11), none, .iaddr 3 (.tmp 10) (.const (.int .i64 0))⟩,
      ⟨(some 12), none, .faddr (.tmp 11) 2⟩,
      ⟨(some 13), none, .load none (.tmp 12)⟩,
      ⟨(some 14), none, .val (.tmp 0)⟩,
      ⟨(some 15), none, .iaddr 3 (.tmp 14) (.const (.int .i64 0))⟩,
      ⟨(some 16), none, .faddr (.tmp 15) 2⟩,
      ⟨(some 17), none, .load none (.tmp 16)⟩,
      ⟨(some 3), none, .val (.tmp 13)⟩]⟩, ⟨false, [], [⟨(some 4), none, .val (.tmp 17)⟩]⟩]) [0, 3, 4])
  (.seq (.seq (.after (.region [⟨false, [], [⟨(some 18), none, .val (.tmp 0)⟩,
      ⟨(some 19), none, .len .sl (.tmp 18)⟩,
      ⟨(some 20), none, .val (.const (.int .i64 0))⟩]⟩]) [3, 4, 18, 19, 20])
  (.after (.block 0 (.loop code3L0)) [3, 4]))
  (.seq (.after (.region [⟨false, [], [⟨(some 33), none, .val (.tmp 4)⟩,
      ⟨(some 34), none, .val (.tmp 3)⟩,
      ⟨(some 35), none, .bin .sub (.tmp 33) (.tmp 34)⟩,
      ⟨(some 2), none, .val (.tmp 35)⟩]⟩]) [2])
  (.live [2] (.ret)))))), none⟩
def code14L0 : ACode :=
  .live [0, 1, 2, 8, 9, 12, 13, 14] (.seq (.after (.region [⟨false, [], [⟨(some 15), none, .bin .lss (.tmp 14) (.tmp 13)⟩]⟩]) [0, 1, 2, 8, 9, 12, 13, 14, 15])
  (.seq (.after (.cond (.tmp 15) (.skip) (.live [8, 9] (.exit 0))) [0, 1, 2, 8, 9, 12, 13, 14])
  (.seq (.after (.block 1 (.seq (.after (.region [⟨false, [], [⟨(some 16), none, .val (.tmp 14)⟩,
      ⟨(some 17), none, .iaddr 3 (.tmp 12) (.tmp 14)⟩,
      ⟨(some 18), none, .load (some 3) (.tmp 17)⟩,
      ⟨(some 11), none, .lalloc [.int .i64 0, .int .u32 0, .int .i64 0]⟩,
      ⟨(some 10), none, .val (.tmp 16)⟩,
      ⟨none, none, .store 3 (.tmp 11) (.tmp 18)⟩]⟩]) [0, 1, 2, 8, 9, 10, 11, 12, 13, 14])
  (.seq (.after (.region [⟨true, [], [⟨(some 19), none, .val (.tmp 1)⟩,
      ⟨(some 20), none, .load (some 3) (.tmp 11)⟩]⟩, ⟨false, [], [⟨(some 21), none, .call (.tmp 19) [.tmp 20]⟩,
      ⟨(some 22), none, .val (.tmp 21)⟩,
      ⟨(some 23), (some (22, true)), .val (.tmp 9)⟩,
      ⟨(some 24), (some (22, true)), .un .not (.tmp 23)⟩,
      ⟨(some 25), (some (22, true)), .val (.tmp 24)⟩]⟩, ⟨true, [], [⟨(some 26), (some (25, false)), .val (.tmp 2)⟩,
      ⟨(some 27), (some (25, false)), .load (some 3) (.tmp 11)⟩,
      ⟨(some 28), (some (25, false)), .call (.tmp 26) [.tmp 27]⟩,
      ⟨(some 29), (some (25, false)), .val (.tmp 2)⟩,
      ⟨(some 30), (some (25, false)), .val (.tmp 0)⟩,
      ⟨(some 31), (some (25, false)), .val (.tmp 8)⟩,
      ⟨(some 32), (some (25, false)), .iaddr 3 (.tmp 30) (.tmp 31)⟩,
      ⟨(some 33), (some (25, false)), .load (some 3) (.tmp 32)⟩]⟩, ⟨false, [], [⟨(some 34), (some (25, false)), .call (.tmp 29) [.tmp 33]⟩,
      ⟨(some 35), (some (25, false)), .bin .lss (.tmp 28) (.tmp 34)⟩,
      ⟨(some 36), (some (22, true)), .pick (.tmp 25) (.const (.bool true)) (.tmp 35)⟩,
      ⟨(some 37), none, .pick (.tmp 22) (.tmp 36) (.const (.bool false))⟩]⟩]) [0, 1, 2, 8, 9, 10, 12, 13, 14, 37])
  (.after (.cond (.tmp 37) (.after (.region [⟨false, [], [⟨(some 38), none, .val (.tmp 10)⟩,
      ⟨(some 8), none, .val (.tmp 38)⟩,
      ⟨(some 9), none, .val (.const (.bool true))⟩]⟩]) [0, 1, 2, 8, 9, 12, 13, 14]) (.skip)) [0, 1, 2, 8, 9, 12, 13, 14])))) [0, 1, 2, 8, 9, 12, 13, 14])
  (.after (.region [⟨false, [], [⟨(some 39), none, .bin .add (.tmp 14) (.const (.int .i64 1))⟩,
      ⟨(some 14), none, .val (.tmp 39)⟩]⟩]) [0, 1, 2, 8, 9, 12, 13, 14]))))
/-- carpetbag.wear.least[int] -/
def code14 : AFunc := ⟨false, 3, 42, [.tmp 6, .tmp 7],
  .seq (.after (.region [⟨false, [], [⟨(some 6), none, .val (.const (.int .i64 0))⟩,
      ⟨(some 7), none, .val (.const (.bool false))⟩]⟩]) [0, 1, 2])
  (.seq (.after (.region [⟨false, [], [⟨(some 8), none, .val (.const (.int .i64 0))⟩,
      ⟨(some 9), none, .val (.const (.bool false))⟩]⟩]) [0, 1, 2, 8, 9])
  (.seq (.seq (.after (.region [⟨false, [], [⟨(some 12), none, .val (.tmp 0)⟩,
      ⟨(some 13), none, .len .sl (.tmp 12)⟩,
      ⟨(some 14), none, .val (.const (.int .i64 0))⟩]⟩]) [0, 1, 2, 8, 9, 12, 13, 14])
  (.after (.block 0 (.loop code14L0)) [8, 9]))
  (.seq (.after (.region [⟨false, [], [⟨(some 40), none, .val (.tmp 8)⟩,
      ⟨(some 41), none, .val (.tmp 9)⟩,
      ⟨(some 6), none, .val (.tmp 40)⟩,
      ⟨(some 7), none, .val (.tmp 41)⟩]⟩]) [6, 7])
  (.live [6, 7] (.ret))))), none⟩
/-- carpetbag.wear.opens -/
def code13 : AFunc := ⟨false, 1, 4, [.tmp 2],
  .seq (.after (.region [⟨false, [], [⟨(some 1), none, .box (.tmp 0)⟩,
      ⟨(some 2), none, .val (.const (.nilFunc))⟩]⟩]) [1])
  (.seq (.after (.region [⟨false, [], [⟨(some 3), none, .mkfunc 22 [] [.tmp 1]⟩,
      ⟨(some 2), none, .val (.tmp 3)⟩]⟩]) [2])
  (.live [2] (.ret))), none⟩
/-- carpetbag.wear.erases -/
def code15 : AFunc := ⟨false, 1, 5, [.tmp 2],
  .seq (.after (.region [⟨false, [], [⟨(some 1), none, .lbox (.tmp 0)⟩,
      ⟨(some 2), none, .val (.const (.int .i64 0))⟩]⟩]) [1])
  (.seq (.after (.region [⟨false, [], [⟨(some 3), none, .faddr (.tmp 1) 2⟩,
      ⟨(some 4), none, .load none (.tmp 3)⟩,
      ⟨(some 2), none, .val (.tmp 4)⟩]⟩]) [2])
  (.live [2] (.ret))), none⟩
/-- carpetbag.carpetbagref07.opens -/
def code16 : AFunc := ⟨false, 2, 19, [.tmp 4],
  .seq (.after (.region [⟨false, [], [⟨(some 2), none, .lbox (.tmp 0)⟩,
      ⟨(some 4), none, .val (.const (.bool false))⟩]⟩]) [1, 2])
  (.seq (.after (.region [⟨false, [], [⟨(some 5), none, .faddr (.tmp 2) 0⟩,
      ⟨(some 6), none, .load none (.tmp 5)⟩,
      ⟨(some 7), none, .bin .eql (.tmp 6) (.const (.int .i64 0))⟩,
      ⟨(some 8), none, .val (.tmp 7)⟩,
      ⟨(some 9), (some (8, false)), .faddr (.tmp 2) 0⟩,
      ⟨(some 10), (some (8, false)), .load none (.tmp 9)⟩,
      ⟨(some 11), (some (8, false)), .bin .eql (.tmp 10) (.const (.int .i64 1))⟩,
      ⟨(some 12), (some (8, false)), .val (.tmp 11)⟩,
      ⟨(some 13), (some (12, true)), .faddr (.tmp 2) 2⟩,
      ⟨(some 14), (some (12, true)), .load none (.tmp 13)⟩,
      ⟨(some 15), (some (12, true)), .val (.tmp 1)⟩,
      ⟨(some 16), (some (12, true)), .bin .lss (.tmp 14) (.tmp 15)⟩,
      ⟨(some 17), (some (8, false)), .pick (.tmp 12) (.tmp 16) (.const (.bool false))⟩,
      ⟨(some 18), none, .pick (.tmp 8) (.const (.bool true)) (.tmp 17)⟩,
      ⟨(some 4), none, .val (.tmp 18)⟩]⟩]) [4])
  (.live [4] (.ret))), none⟩
def code17L0 : ACode :=
  .live [0, 1, 2, 8, 9, 12, 13, 14] (.seq (.after (.region [⟨false, [], [⟨(some 15), none, .bin .lss (.tmp 14) (.tmp 13)⟩]⟩]) [0, 1, 2, 8, 9, 12, 13, 14, 15])
  (.seq (.after (.cond (.tmp 15) (.skip) (.live [8, 9] (.exit 0))) [0, 1, 2, 8, 9, 12, 13, 14])
  (.seq (.after (.block 1 (.seq (.after (.region [⟨false, [], [⟨(some 16), none, .val (.tmp 14)⟩,
      ⟨(some 17), none, .iaddr 3 (.tmp 12) (.tmp 14)⟩,
      ⟨(some 18), none, .load (some 3) (.tmp 17)⟩,
      ⟨(some 11), none, .lalloc [.int .i64 0, .int .u32 0, .int .i64 0]⟩,
      ⟨(some 10), none, .val (.tmp 16)⟩,
      ⟨none, none, .store 3 (.tmp 11) (.tmp 18)⟩]⟩]) [0, 1, 2, 8, 9, 10, 11, 12, 13, 14])
  (.seq (.after (.region [⟨true, [], [⟨(some 19), none, .val (.tmp 1)⟩,
      ⟨(some 20), none, .load (some 3) (.tmp 11)⟩]⟩, ⟨false, [], [⟨(some 21), none, .call (.tmp 19) [.tmp 20]⟩,
      ⟨(some 22), none, .val (.tmp 21)⟩,
      ⟨(some 23), (some (22, true)), .val (.tmp 9)⟩,
      ⟨(some 24), (some (22, true)), .un .not (.tmp 23)⟩,
      ⟨(some 25), (some (22, true)), .val (.tmp 24)⟩]⟩, ⟨true, [], [⟨(some 26), (some (25, false)), .val (.tmp 2)⟩,
      ⟨(some 27), (some (25, false)), .load (some 3) (.tmp 11)⟩,
      ⟨(some 28), (some (25, false)), .call (.tmp 26) [.tmp 27]⟩,
      ⟨(some 29), (some (25, false)), .val (.tmp 2)⟩,
      ⟨(some 30), (some (25, false)), .val (.tmp 0)⟩,
      ⟨(some 31), (some (25, false)), .val (.tmp 8)⟩,
      ⟨(some 32), (some (25, false)), .iaddr 3 (.tmp 30) (.tmp 31)⟩,
      ⟨(some 33), (some (25, false)), .load (some 3) (.tmp 32)⟩]⟩, ⟨false, [], [⟨(some 34), (some (25, false)), .call (.tmp 29) [.tmp 33]⟩,
      ⟨(some 35), (some (25, false)), .bin .lss (.tmp 28) (.tmp 34)⟩,
      ⟨(some 36), (some (22, true)), .pick (.tmp 25) (.const (.bool true)) (.tmp 35)⟩,
      ⟨(some 37), none, .pick (.tmp 22) (.tmp 36) (.const (.bool false))⟩]⟩]) [0, 1, 2, 8, 9, 10, 12, 13, 14, 37])
  (.after (.cond (.tmp 37) (.after (.region [⟨false, [], [⟨(some 38), none, .val (.tmp 10)⟩,
      ⟨(some 8), none, .val (.tmp 38)⟩,
      ⟨(some 9), none, .val (.const (.bool true))⟩]⟩]) [0, 1, 2, 8, 9, 12, 13, 14]) (.skip)) [0, 1, 2, 8, 9, 12, 13, 14])))) [0, 1, 2, 8, 9, 12, 13, 14])
  (.after (.region [⟨false, [], [⟨(some 39), none, .bin .add (.tmp 14) (.const (.int .i64 1))⟩,
      ⟨(some 14), none, .val (.tmp 39)⟩]⟩]) [0, 1, 2, 8, 9, 12, 13, 14]))))
/-- carpetbag.wear.least[uint32] -/
def code17 : AFunc := ⟨false, 3, 42, [.tmp 6, .tmp 7],
  .seq (.after (.region [⟨false, [], [⟨(some 6), none, .val (.const (.int .i64 0))⟩,
      ⟨(some 7), none, .val (.const (.bool false))⟩]⟩]) [0, 1, 2])
  (.seq (.after (.region [⟨false, [], [⟨(some 8), none, .val (.const (.int .i64 0))⟩,
      ⟨(some 9), none, .val (.const (.bool false))⟩]⟩]) [0, 1, 2, 8, 9])
  (.seq (.seq (.after (.region [⟨false, [], [⟨(some 12), none, .val (.tmp 0)⟩,
      ⟨(some 13), none, .len .sl (.tmp 12)⟩,
      ⟨(some 14), none, .val (.const (.int .i64 0))⟩]⟩]) [0, 1, 2, 8, 9, 12, 13, 14])
  (.after (.block 0 (.loop code17L0)) [8, 9]))
  (.seq (.after (.region [⟨false, [], [⟨(some 40), none, .val (.tmp 8)⟩,
      ⟨(some 41), none, .val (.tmp 9)⟩,
      ⟨(some 6), none, .val (.tmp 40)⟩,
      ⟨(some 7), none, .val (.tmp 41)⟩]⟩]) [6, 7])
  (.live [6, 7] (.ret))))), none⟩
/-- carpetbag.wear.Oldest-1 -/
def code18 : AFunc := ⟨false, 1, 6, [.tmp 2],
  .seq (.after (.region [⟨false, [], [⟨(some 1), none, .lbox (.tmp 0)⟩,
      ⟨(some 2), none, .val (.const (.bool false))⟩]⟩]) [1])
  (.seq (.after (.region [⟨false, [], [⟨(some 3), none, .faddr (.tmp 1) 0⟩,
      ⟨(some 4), none, .load none (.tmp 3)⟩,
      ⟨(some 5), none, .bin .eql (.tmp 4) (.const (.int .i64 2))⟩,
      ⟨(some 2), none, .val (.tmp 5)⟩]⟩]) [2])
  (.live [2] (.ret))), none⟩
/-- carpetbag.wear.Oldest-2 -/
def code19 : AFunc := ⟨false, 1, 5, [.tmp 2],
  .seq (.after (.region [⟨false, [], [⟨(some 1), none, .lbox (.tmp 0)⟩,
      ⟨(some 2), none, .val (.const (.int .u32 0))⟩]⟩]) [1])
  (.seq (.after (.region [⟨false, [], [⟨(some 3), none, .faddr (.tmp 1) 1⟩,
      ⟨(some 4), none, .load none (.tmp 3)⟩,
      ⟨(some 2), none, .val (.tmp 4)⟩]⟩]) [2])
  (.live [2] (.ret))), none⟩
/-- carpetbag.wear.Spread-1 -/
def code21 : AFunc := ⟨false, 1, 3, [.tmp 2],
  .seq (.after (.region [⟨false, [], [⟨(some 1), none, .lbox (.tmp 0)⟩,
      ⟨(some 2), none, .val (.const (.bool false))⟩]⟩]) [])
  (.seq (.after (.region [⟨false, [], [⟨(some 2), none, .val (.const (.bool true))⟩]⟩]) [2])
  (.live [2] (.ret))), none⟩
/-- carpetbag.wear.Spread-2 -/
def code20 : AFunc := ⟨false, 1, 6, [.tmp 2],
  .seq (.after (.region [⟨false, [], [⟨(some 1), none, .lbox (.tmp 0)⟩,
      ⟨(some 2), none, .val (.const (.int .i64 0))⟩]⟩]) [1])
  (.seq (.after (.region [⟨false, [], [⟨(some 3), none, .faddr (.tmp 1) 2⟩,
      ⟨(some 4), none, .load none (.tmp 3)⟩,
      ⟨(some 5), none, .un .neg (.tmp 4)⟩,
      ⟨(some 2), none, .val (.tmp 5)⟩]⟩]) [2])
  (.live [2] (.ret))), none⟩
/-- carpetbag.wear.opens-1 -/
def code22 : AFunc := ⟨false, 2, 18, [.tmp 3],
  .seq (.after (.region [⟨false, [], [⟨(some 2), none, .lbox (.tmp 0)⟩,
      ⟨(some 3), none, .val (.const (.bool false))⟩]⟩]) [1, 2])
  (.seq (.after (.region [⟨false, [], [⟨(some 4), none, .faddr (.tmp 2) 0⟩,
      ⟨(some 5), none, .load none (.tmp 4)⟩,
      ⟨(some 6), none, .bin .eql (.tmp 5) (.const (.int .i64 0))⟩,
      ⟨(some 7), none, .val (.tmp 6)⟩,
      ⟨(some 8), (some (7, false)), .faddr (.tmp 2) 0⟩,
      ⟨(some 9), (some (7, false)), .load none (.tmp 8)⟩,
      ⟨(some 10), (some (7, false)), .bin .eql (.tmp 9) (.const (.int .i64 1))⟩,
      ⟨(some 11), (some (7, false)), .val (.tmp 10)⟩,
      ⟨(some 12), (some (11, true)), .faddr (.tmp 2) 2⟩,
      ⟨(some 13), (some (11, true)), .load none (.tmp 12)⟩,
      ⟨(some 14), (some (11, true)), .load none (.tmp 1)⟩,
      ⟨(some 15), (some (11, true)), .bin .lss (.tmp 13) (.tmp 14)⟩,
      ⟨(some 16), (some (7, false)), .pick (.tmp 11) (.tmp 15) (.const (.bool false))⟩,
      ⟨(some 17), none, .pick (.tmp 7) (.const (.bool true)) (.tmp 16)⟩,
      ⟨(some 3), none, .val (.tmp 17)⟩]⟩]) [3])
  (.live [3] (.ret))), none⟩
def T : Nat → Option AFunc := fun g => List.lookup g [(24, code24), (10, code10), (11, code11), (12, code12), (9, code9), (8, code8), (7, code7), (6, code6), (5, code5), (4, code4), (0, code0), (1, code1), (2, code2), (3, code3), (14, code14), (13, code13), (15, code15), (16, code16), (17, code17), (18, code18), (19, code19), (21, code21), (20, code20), (22, code22)]
theorem t24 : T 24 = some code24 := rfl
theorem t10 : T 10 = some code10 := rfl
theorem t11 : T 11 = some code11 := rfl
theorem t12 : T 12 = some code12 := rfl
theorem t9 : T 9 = some code9 := rfl
theorem t8 : T 8 = some code8 := rfl
theorem t7 : T 7 = some code7 := rfl
theorem t6 : T 6 = some code6 := rfl
theorem t5 : T 5 = some code5 := rfl
theorem t4 : T 4 = some code4 := rfl
theorem t0 : T 0 = some code0 := rfl
theorem t1 : T 1 = some code1 := rfl
theorem t2 : T 2 = some code2 := rfl
theorem t3 : T 3 = some code3 := rfl
theorem t14 : T 14 = some code14 := rfl
theorem t13 : T 13 = some code13 := rfl
theorem t15 : T 15 = some code15 := rfl
theorem t16 : T 16 = some code16 := rfl
theorem t17 : T 17 = some code17 := rfl
theorem t18 : T 18 = some code18 := rfl
theorem t19 : T 19 = some code19 := rfl
theorem t21 : T 21 = some code21 := rfl
theorem t20 : T 20 = some code20 := rfl
theorem t22 : T 22 = some code22 := rfl
end Go.Abs.AbsWear
