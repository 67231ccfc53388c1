/-
  Texts joined.
-/
import Derived.Test.YtnpknimahijmfaaGreatDoorQ0
import Derived.Test.YtnpknimahijmfaaGreatDoorQ8
import Derived.Test.YtnpknimahijmfaaGreatDoorQ9
set_option linter.unusedVariables false
set_option linter.unusedSimpArgs false
set_option maxRecDepth 100000
namespace Go.Abs.AbsMake
open Go.Abs.Short
-- base: AbsHier
def code48T0:ACode :=
 .seq (R [2] [o 47 (.load (some 4) (t 3)),o 48 (.load (some 4) (t 4)),o 49 (.load (some 4) (t 5)),o 50 (.build [.str [],.str [],.slice none 0 (some 0),.slice none 0 (some 0)] [(0,1,.const (.str [79,111,112,115])),(1,1,.const (.str [84,104,114,111,119,97,98,108,101]))]),o 51 (.mkslice 4 4 [.str [],.str [],.slice none 0 (some 0),.slice none 0 (some 0),.str [],.str [],.slice none 0 (some 0),.slice none 0 (some 0),.str [],.str [],.slice none 0 (some 0),.slice none 0 (some 0),.str [],.str [],.slice none 0 (some 0),.slice none 0 (some 0)] [(0,4,t 47),(4,4,t 48),(8,4,t 49),(12,4,t 50)]),v 2 51])
 (.live [2] (.ret))
def code48T1:ACode :=
 .seq (.seq (R [0,3,4,5,42] [v 40 0,o 41 (.callg 102 [t 40,n 3]),o 42 (.bin .gtr (t 41) (n 0))])
 (.after (.cond (t 42) (R [3,4,5] [v 43 0,o 44 (.callg 101 [t 43,.const (.bool false),.const (.str [118]),n 0]),o 45 (.mkslice 8 1 [.bool false,.str [],.str [],.int .i64 0,.int .i64 0,.slice none 0 (some 0),.slice none 0 (some 0),.slice none 0 (some 0)] [(0,8,t 44)]),o 46 (.faddr (t 5) 3),u (.store 1 (t 46) (t 45))]) (.skip)) [3,4,5]))
 (code48T0)
def code48T2:ACode :=
 .seq (R [0,3,4,5] [o 37 (.build [.bool false,.str [],.str []] [(1,1,.const (.str [103])),(2,1,.const (.str [73]))]),o 38 (.mkslice 3 1 [.bool false,.str [],.str []] [(0,3,t 37)]),o 39 (.build [.str [],.str [],.slice none 0 (some 0),.slice none 0 (some 0)] [(0,1,.const (.str [66])),(1,1,.const (.str [65])),(2,1,t 38)]),o 5 (.lalloc [.str [],.str [],.slice none 0 (some 0),.slice none 0 (some 0)]),u (.store 4 (t 5) (t 39))])
 (code48T1)
def code48T3:ACode :=
 .seq (R [0,3,4] [o 29 (.build [.bool false,.str [],.str []] [(1,1,.const (.str [102])),(2,1,.const (.str [73]))]),o 30 (.build [.bool false,.str [],.str []] [(1,1,.const (.str [108])),(2,1,.const (.str [74]))]),o 31 (.build [.bool false,.str [],.str []] [(1,1,.const (.str [110,101,120,116])),(2,1,.const (.str [76,65,59]))]),o 32 (.mkslice 3 3 [.bool false,.str [],.str [],.bool false,.str [],.str [],.bool false,.str [],.str []] [(0,3,t 29),(3,3,t 30),(6,3,t 31)]),v 33 0,o 34 (.callg 101 [t 33,.const (.bool false),.const (.str [118]),n 0]),o 35 (.mkslice 8 1 [.bool false,.str [],.str [],.int .i64 0,.int .i64 0,.slice none 0 (some 0),.slice none 0 (some 0),.slice none 0 (some 0)] [(0,8,t 34)]),o 36 (.build [.str [],.str [],.slice none 0 (some 0),.slice none 0 (some 0)] [(0,1,.const (.str [65])),(1,1,.const (.str [79,98,106,101,99,116])),(2,1,t 32),(3,1,t 35)]),o 4 (.lalloc [.str [],.str [],.slice none 0 (some 0),.slice none 0 (some 0)]),u (.store 4 (t 4) (t 36))])
 (code48T2)
def code48T4:ACode :=
 .seq (R [0,3] [v 10 0,o 11 (.callg 101 [t 10,.const (.bool true),.const (.str [109,97,105,110]),n 6]),o 12 (.build [.int .u8 0,.int .i64 0,.int .i64 0,.str [],.str [],.str [],.str []] [(0,1,.const (.int .u8 21))]),v 13 0,o 14 (.callg 102 [t 13,n 7]),o 15 (.bin .add (n 2) (t 14)),o 16 (.conv (.int .u8) (t 15)),o 17 (.build [.int .u8 0,.int .i64 0,.int .i64 0,.str [],.str [],.str [],.str []] [(0,1,t 16)]),o 18 (.mkslice 1 3 [.int .u8 0,.int .u8 0,.int .u8 0] [(0,1,.const (.int .u8 100)),(1,1,.const (.int .u8 108)),(2,1,.const (.int .u8 112))]),v 19 0,o 20 (.callg 102 [t 19,n 3]),o 21 (.iaddr 1 (t 18) (t 20)),o 22 (.load none (t 21)),o 23 (.build [.int .u8 0,.int .i64 0,.int .i64 0,.str [],.str [],.str [],.str []] [(0,1,t 22)]),o 24 (.build [.int .u8 0,.int .i64 0,.int .i64 0,.str [],.str [],.str [],.str []] [(0,1,.const (.int .u8 172))]),o 25 (.mkslice 7 4 [.int .u8 0,.int .i64 0,.int .i64 0,.str [],.str [],.str [],.str [],.int .u8 0,.int .i64 0,.int .i64 0,.str [],.str [],.str [],.str [],.int .u8 0,.int .i64 0,.int .i64 0,.str [],.str [],.str [],.str [],.int .u8 0,.int .i64 0,.int .i64 0,.str [],.str [],.str [],.str []] [(0,7,t 12),(7,7,t 17),(14,7,t 23),(21,7,t 24)]),o 26 (.build [.bool false,.str [],.str [],.int .i64 0,.int .i64 0,.slice none 0 (some 0),.slice none 0 (some 0),.slice none 0 (some 0)] [(0,1,.const (.bool true)),(1,1,.const (.str [104,101,108,112])),(2,1,.const (.str [40,73,41,73])),(3,1,n 4),(4,1,n 1),(5,1,t 25)]),o 27 (.mkslice 8 2 [.bool false,.str [],.str [],.int .i64 0,.int .i64 0,.slice none 0 (some 0),.slice none 0 (some 0),.slice none 0 (some 0),.bool false,.str [],.str [],.int .i64 0,.int .i64 0,.slice none 0 (some 0),.slice none 0 (some 0),.slice none 0 (some 0)] [(0,8,t 11),(8,8,t 26)]),o 28 (.faddr (t 3) 3),u (.store 1 (t 28) (t 27))])
 (code48T3)
def code48:AFunc:=⟨false,false,1,52,[.tmp 2],
 .seq (R [0] [o 2 (.val (.const (.slice none 0 (some 0))))])
 (.seq (R [0,3] [o 6 (.build [.bool false,.str [],.str []] [(0,1,.const (.bool true)),(1,1,.const (.str [115])),(2,1,.const (.str [73]))]),o 7 (.build [.bool false,.str [],.str []] [(0,1,.const (.bool true)),(1,1,.const (.str [111])),(2,1,.const (.str [76,65,59]))]),o 8 (.mkslice 3 2 [.bool false,.str [],.str [],.bool false,.str [],.str []] [(0,3,t 6),(3,3,t 7)]),o 9 (.build [.str [],.str [],.slice none 0 (some 0),.slice none 0 (some 0)] [(0,1,.const (.str [77,97,105,110])),(1,1,.const (.str [79,98,106,101,99,116])),(2,1,t 8)]),o 3 (.lalloc [.str [],.str [],.slice none 0 (some 0),.slice none 0 (some 0)]),u (.store 4 (t 3) (t 9))])
 (code48T4)),none⟩
def code101L0:ACode :=
 .live [2,8,9,12] (.seq (.seq (R [2,8,9,12,90] [v 89 12,o 90 (.bin .gtr (t 89) (n 0))])
 (.after (.cond (t 90) (.skip) (.live [2,8,9] (.exit 2))) [2,8,9,12]))
 (.seq (.after (.block 3 (R [2,8,9,12] [v 93 9,o 94 (.callg 152 [t 93])])) [2,8,9,12])
 (R [2,8,9,12] [v 91 12,o 92 (.bin .sub (t 91) (n 1)),v 12 92])))
def code101L1:ACode :=
 .live [0,2,3,8,9,43,44,45] (.seq (R [0,2,3,8,9,43,44,45,46] [o 46 (.bin .lss (t 45) (t 44))])
 (.seq (.after (.cond (t 46) (.skip) (.live [0,2,3,8,9] (.exit 0))) [0,2,3,8,9,43,44,45])
 (.seq (.after (.block 1 (.seq (R [0,2,3,8,9,11,43,44,45] [o 47 (.iaddr 1 (t 43) (t 45)),o 48 (.load none (t 47)),v 11 48])
 (.seq (R [0,2,3,8,9,11,43,44,45] [v 49 9,v 50 0,o 51 (.callg 102 [t 50,n 4]),o 52 (.callg 153 [t 49,t 51])])
 (R [0,2,3,8,9,43,44,45] [v 53 9,v 54 11,o 55 (.callg 150 [t 53,.const (.int .u8 54),t 54])])))) [0,2,3,8,9,43,44,45])
 (R [0,2,3,8,9,43,44,45] [o 56 (.bin .add (t 45) (n 1)),v 45 56]))))
def code101R0:ACode :=
 .after (.region [⟨true,[],[v 99 2,v 100 9,o 101 (.nilcheck (t 100)),o 102 (.faddr (t 101) 1),o 103 (.load none (t 102)),v 104 9,o 105 (.nilcheck (t 104)),o 106 (.faddr (t 105) 2),o 107 (.load none (t 106)),v 108 9,o 109 (.nilcheck (t 108)),o 110 (.faddr (t 109) 3),o 111 (.load none (t 110))]⟩,⟨false,[],[o 112 (.build [.bool false,.str [],.str [],.int .i64 0,.int .i64 0,.slice none 0 (some 0),.slice none 0 (some 0),.slice none 0 (some 0)] [(0,1,.const (.bool true)),(1,1,t 99),(2,1,.const (.str [40,73,41,73])),(3,1,n 40),(4,1,n 8),(5,1,t 103),(6,1,t 107),(7,1,t 111)]),u (.store 8 (t 8) (t 112))]⟩]) [8]
def code101T0:ACode :=
 .seq (.seq (R [2,8,9,12] [v 85 0,v 86 3,o 87 (.callg 102 [t 85,t 86]),o 88 (.bin .add (n 1) (t 87)),v 12 88])
 (.after (.block 2 (.loop code101L0)) [2,8,9]))
 (.seq (R [2,8,9] [v 95 9,o 96 (.callg 151 [t 95,n 1])])
 (.seq (R [2,8,9] [v 97 9,o 98 (.callg 150 [t 97,.const (.int .u8 172),n 0])])
 (.seq (code101R0)
 (.live [8] (.ret)))))
def code101T1:ACode :=
 .seq (R [0,2,3,8,9] [v 57 9,o 58 (.callg 150 [t 57,.const (.int .u8 10),n 0])])
 (.seq (R [0,2,3,8,9] [v 59 9,o 60 (.callg 150 [t 59,.const (.int .u8 55),n 3])])
 (.seq (R [0,2,3,8,9] [v 61 9,v 62 9,o 63 (.nilcheck (t 62)),o 64 (.faddr (t 63) 1),o 65 (.load none (t 64)),o 66 (.build [.int .u8 0,.int .i64 0,.int .i64 0,.str [],.str [],.str [],.str []] [(0,1,.const (.int .u8 187)),(3,1,.const (.str [65]))]),o 67 (.mkslice 7 1 [.int .u8 0,.int .i64 0,.int .i64 0,.str [],.str [],.str [],.str []] [(0,7,t 66)]),o 68 (.append 7 88 (t 65) (t 67)),o 69 (.nilcheck (t 61)),o 70 (.faddr (t 69) 1),u (.store 1 (t 70) (t 68))])
 (.seq (R [0,2,3,8,9] [v 71 9,o 72 (.callg 150 [t 71,.const (.int .u8 58),n 5])])
 (.seq (R [0,2,3,8,9] [v 73 9,v 74 0,o 75 (.callg 102 [t 74,n 5]),o 76 (.callg 153 [t 73,t 75])])
 (.seq (R [0,2,3,8,9] [v 77 9,o 78 (.callg 150 [t 77,.const (.int .u8 188),n 10])])
 (.seq (R [0,2,3,8,9] [v 79 9,o 80 (.callg 150 [t 79,.const (.int .u8 58),n 6])])
 (.seq (R [0,2,3,8,9] [v 81 9,o 82 (.callg 150 [t 81,.const (.int .u8 1),n 0])])
 (.seq (R [0,2,3,8,9] [v 83 9,o 84 (.callg 150 [t 83,.const (.int .u8 58),n 7])])
 (code101T0)))))))))
def code101:AFunc:=⟨false,false,4,113,[.cell 8 (some 8)],
 .seq (R [0,1,2,3,8] [o 8 (.lalloc [.bool false,.str [],.str [],.int .i64 0,.int .i64 0,.slice none 0 (some 0),.slice none 0 (some 0),.slice none 0 (some 0)])])
 (.seq (R [0,1,2,3,8,9] [v 13 0,o 14 (.build [.ptr none,.slice none 0 (some 0),.slice none 0 (some 0),.slice none 0 (some 0),.int .i64 0,.int .i64 0] [(0,1,t 13),(5,1,n 60)]),o 15 (.box (t 14)),v 9 15])
 (.seq (.seq (R [0,2,3,8,9,17] [v 16 1,o 17 (.un .not (t 16))])
 (.after (.cond (t 17) (.seq (R [0,2,8,9] [v 18 9,o 19 (.callg 150 [t 18,.const (.int .u8 21),n 1])])
 (.seq (R [0,2,8,9] [v 20 9,o 21 (.callg 153 [t 20,n 3])])
 (.seq (R [0,2,8,9] [v 22 9,o 23 (.callg 150 [t 22,.const (.int .u8 96),n 0])])
 (.seq (R [0,2,8,9] [v 24 9,o 25 (.callg 150 [t 24,.const (.int .u8 25),n 0])])
 (.seq (R [0,2,8,9] [v 26 9,o 27 (.callg 154 [t 26,.const (.int .u8 180),.const (.str [65]),.const (.str [102]),.const (.str [73])])])
 (.seq (R [2,8,9] [v 28 9,o 29 (.mkslice 1 3 [.int .u8 0,.int .u8 0,.int .u8 0] [(0,1,.const (.int .u8 96)),(1,1,.const (.int .u8 104)),(2,1,.const (.int .u8 130))]),v 30 0,o 31 (.callg 102 [t 30,n 3]),o 32 (.iaddr 1 (t 29) (t 31)),o 33 (.load none (t 32)),o 34 (.callg 150 [t 28,t 33,n 0])])
 (.seq (R [2,8,9] [v 35 9,o 36 (.callg 150 [t 35,.const (.int .u8 172),n 0])])
 (.seq (R [8] [v 37 2,v 38 9,o 39 (.nilcheck (t 38)),o 40 (.faddr (t 39) 1),o 41 (.load none (t 40)),o 42 (.build [.bool false,.str [],.str [],.int .i64 0,.int .i64 0,.slice none 0 (some 0),.slice none 0 (some 0),.slice none 0 (some 0)] [(1,1,t 37),(2,1,.const (.str [40,73,41,73])),(3,1,n 8),(4,1,n 2),(5,1,t 41)]),u (.store 8 (t 8) (t 42))])
 (.live [8] (.ret)))))))))) (.skip)) [0,2,3,8,9]))
 (.seq (.seq (R [0,2,3,8,9,43,44,45] [o 43 (.mkslice 1 2 [.int .i64 0,.int .i64 0] [(0,1,n 1),(1,1,n 2)]),o 44 (.len .sl (t 43)),o 45 (.val (n 0))])
 (.after (.block 0 (.loop code101L1)) [0,2,3,8,9]))
 (code101T1)))),none⟩
def code102:AFunc:=⟨false,false,2,41,[.tmp 4],
 .seq (R [0,1] [o 4 (.val (n 0))])
 (.seq (.seq (.after (.region [⟨false,[],[v 5 1,o 6 (.bin .lss (t 5) (n 2)),v 7 6]⟩,⟨true,[],[g 8 7 false (.val (t 0)),g 9 7 false (.nilcheck (t 8)),g 10 7 false (.faddr (t 9) 1),g 11 7 false (.load none (t 10)),g 12 7 false (.val (t 0)),g 13 7 false (.nilcheck (t 12)),g 14 7 false (.faddr (t 13) 0),g 15 7 false (.load none (t 14)),g 16 7 false (.len .sl (t 15))]⟩,⟨false,[],[g 17 7 false (.bin .geq (t 11) (t 16)),o 18 (.pick (t 7) Y (t 17))]⟩]) [0,1,18])
 (.after (.cond (t 18) (.seq (R [4] [o 4 (.val (n 0))])
 (.live [4] (.ret))) (.skip)) [0,1]))
 (.seq (R [0,1] [v 19 0,v 20 0,o 21 (.nilcheck (t 20)),o 22 (.faddr (t 21) 1),o 23 (.load none (t 22)),o 24 (.bin .add (t 23) (n 1)),o 25 (.nilcheck (t 19)),o 26 (.faddr (t 25) 1),u (.store 1 (t 26) (t 24))])
 (.seq (.after (.region [⟨true,[],[v 27 0,o 28 (.nilcheck (t 27)),o 29 (.faddr (t 28) 0),o 30 (.load none (t 29)),v 31 0,o 32 (.nilcheck (t 31)),o 33 (.faddr (t 32) 1),o 34 (.load none (t 33)),o 35 (.bin .sub (t 34) (n 1)),o 36 (.iaddr 1 (t 30) (t 35)),o 37 (.load none (t 36)),o 38 (.conv (.int .i64) (t 37)),v 39 1]⟩,⟨false,[],[o 40 (.bin .rem (t 38) (t 39)),v 4 40]⟩]) [4])
 (.live [4] (.ret))))),none⟩
def code150:AFunc:=⟨false,false,3,18,[],
 R [] [v 6 0,v 7 0,o 8 (.nilcheck (t 7)),o 9 (.faddr (t 8) 1),o 10 (.load none (t 9)),v 11 1,v 12 2,o 13 (.build [.int .u8 0,.int .i64 0,.int .i64 0,.str [],.str [],.str [],.str []] [(0,1,t 11),(1,1,t 12)]),o 14 (.mkslice 7 1 [.int .u8 0,.int .i64 0,.int .i64 0,.str [],.str [],.str [],.str []] [(0,7,t 13)]),o 15 (.append 7 88 (t 10) (t 14)),o 16 (.nilcheck (t 6)),o 17 (.faddr (t 16) 1),u (.store 1 (t 17) (t 15))],none⟩
def code151B0:ACode :=
 .seq (.seq (R [0,1,29,40] [o 41 (.bin .eql (t 29) (n 0)),v 40 41])
 (.after (.cond (t 40) (.skip) (R [0,1,29,40] [o 42 (.bin .eql (t 29) (n 1)),v 40 42])) [0,1,29,40]))
 (.after (.cond (t 40) (R [] [v 43 0,v 44 0,o 45 (.nilcheck (t 44)),o 46 (.faddr (t 45) 0),o 47 (.load none (t 46)),o 48 (.callg 102 [t 47,n 3]),o 49 (.callg 150 [t 43,.const (.int .u8 21),t 48])]) (.seq (R [0,1,29,50] [o 51 (.bin .eql (t 29) (n 2)),v 50 51])
 (.after (.cond (t 50) (R [] [v 52 0,v 53 0,o 54 (.nilcheck (t 53)),o 55 (.faddr (t 54) 0),o 56 (.load none (t 55)),o 57 (.callg 102 [t 56,n 256]),o 58 (.bin .sub (t 57) (n 100)),o 59 (.callg 153 [t 52,t 58])]) (.seq (R [0,1,29,60] [o 61 (.bin .eql (t 29) (n 3)),v 60 61])
 (.after (.cond (t 60) (R [] [v 62 0,o 63 (.callg 154 [t 62,.const (.int .u8 178),.const (.str [77,97,105,110]),.const (.str [115]),.const (.str [73])])]) (.seq (.seq (R [0,1,29,64] [o 65 (.bin .eql (t 29) (n 4)),v 64 65])
 (.after (.cond (t 64) (.skip) (.seq (R [0,1,29,64] [o 66 (.bin .eql (t 29) (n 5)),v 64 66])
 (.after (.cond (t 64) (.skip) (.seq (R [0,1,29,64] [o 67 (.bin .eql (t 29) (n 6)),v 64 67])
 (.after (.cond (t 64) (.skip) (R [0,1,29,64] [o 68 (.bin .eql (t 29) (n 7)),v 64 68])) [0,1,29,64]))) [0,1,29,64]))) [0,1,29,64]))
 (.after (.cond (t 64) (.seq (R [0,1] [v 69 0,v 70 1,o 71 (.bin .sub (t 70) (n 1)),o 72 (.callg 151 [t 69,t 71])])
 (.seq (R [0] [v 73 0,v 74 1,o 75 (.bin .sub (t 74) (n 1)),o 76 (.callg 151 [t 73,t 75])])
 (R [] [v 77 0,o 78 (.mkslice 1 10 [.int .u8 0,.int .u8 0,.int .u8 0,.int .u8 0,.int .u8 0,.int .u8 0,.int .u8 0,.int .u8 0,.int .u8 0,.int .u8 0] [(0,1,.const (.int .u8 96)),(1,1,.const (.int .u8 100)),(2,1,.const (.int .u8 104)),(3,1,.const (.int .u8 108)),(4,1,.const (.int .u8 126)),(5,1,.const (.int .u8 130)),(6,1,.const (.int .u8 120)),(7,1,.const (.int .u8 112)),(8,1,.const (.int .u8 128)),(9,1,.const (.int .u8 124))]),v 79 0,o 80 (.nilcheck (t 79)),o 81 (.faddr (t 80) 0),o 82 (.load none (t 81)),o 83 (.callg 102 [t 82,n 10]),o 84 (.iaddr 1 (t 78) (t 83)),o 85 (.load none (t 84)),o 86 (.callg 150 [t 77,t 85,n 0])]))) (.seq (R [0,1,29,87] [o 88 (.bin .eql (t 29) (n 8)),v 87 88])
 (.after (.cond (t 87) (.seq (R [0] [v 89 0,v 90 1,o 91 (.bin .sub (t 90) (n 1)),o 92 (.callg 183 [t 89,t 91])])
 (R [] [v 93 0,o 94 (.callg 150 [t 93,.const (.int .u8 136),n 0])])) (.seq (R [0,1,29,95] [o 96 (.bin .eql (t 29) (n 9)),v 95 96])
 (.after (.cond (t 95) (.seq (R [0,1] [v 97 0,o 98 (.callg 150 [t 97,.const (.int .u8 25),n 6])])
 (.seq (R [0] [v 99 0,v 100 1,o 101 (.bin .sub (t 100) (n 1)),o 102 (.callg 151 [t 99,t 101])])
 (R [] [v 103 0,o 104 (.callg 150 [t 103,.const (.int .u8 46),n 0])]))) (.seq (R [0,1,29,105] [o 106 (.bin .eql (t 29) (n 10)),v 105 106])
 (.after (.cond (t 105) (.seq (R [0] [v 107 0,o 108 (.callg 150 [t 107,.const (.int .u8 25),n 5])])
 (R [] [v 109 0,o 110 (.callg 154 [t 109,.const (.int .u8 180),.const (.str [65]),.const (.str [102]),.const (.str [73])])])) (.seq (R [0,1,29,111] [o 112 (.bin .eql (t 29) (n 11)),v 111 112])
 (.after (.cond (t 111) (.seq (R [0,1] [v 113 0,o 114 (.callg 150 [t 113,.const (.int .u8 25),n 5])])
 (.seq (R [0] [v 115 0,v 116 1,o 117 (.bin .sub (t 116) (n 1)),o 118 (.callg 151 [t 115,t 117])])
 (R [] [v 119 0,o 120 (.callg 154 [t 119,.const (.int .u8 182),.const (.str [65]),.const (.str [118]),.const (.str [40,73,41,73])])]))) (.seq (R [0,1,29,121] [o 122 (.bin .eql (t 29) (n 12)),v 121 122])
 (.after (.cond (t 121) (.seq (R [0] [v 123 0,v 124 1,o 125 (.bin .sub (t 124) (n 1)),o 126 (.callg 151 [t 123,t 125])])
 (R [] [v 127 0,o 128 (.callg 154 [t 127,.const (.int .u8 184),.const (.str [77,97,105,110]),.const (.str [104,101,108,112]),.const (.str [40,73,41,73])])])) (.seq (R [0,1,29,129] [o 130 (.bin .eql (t 29) (n 13)),v 129 130])
 (.after (.cond (t 129) (.seq (R [0] [v 131 0,v 132 0,o 133 (.nilcheck (t 132)),o 134 (.faddr (t 133) 0),o 135 (.load none (t 134)),o 136 (.callg 102 [t 135,n 2]),o 137 (.bin .add (n 6) (t 136)),o 138 (.callg 150 [t 131,.const (.int .u8 25),t 137])])
 (R [] [v 139 0,o 140 (.callg 150 [t 139,.const (.int .u8 190),n 0])])) (.seq (R [0,1,141] [o 142 (.bin .eql (t 29) (n 14)),v 141 142])
 (.after (.cond (t 141) (.seq (R [0] [v 143 0,o 144 (.callg 150 [t 143,.const (.int .u8 25),n 5])])
 (R [] [v 145 0,v 146 0,o 147 (.nilcheck (t 146)),o 148 (.faddr (t 147) 1),o 149 (.load none (t 148)),o 150 (.build [.int .u8 0,.int .i64 0,.int .i64 0,.str [],.str [],.str [],.str []] [(0,1,.const (.int .u8 193)),(3,1,.const (.str [66]))]),o 151 (.mkslice 7 1 [.int .u8 0,.int .i64 0,.int .i64 0,.str [],.str [],.str [],.str []] [(0,7,t 150)]),o 152 (.append 7 88 (t 149) (t 151)),o 153 (.nilcheck (t 145)),o 154 (.faddr (t 153) 1),u (.store 1 (t 154) (t 152))])) (.seq (R [0,1] [v 30 0,v 31 1,o 32 (.bin .sub (t 31) (n 1)),o 33 (.callg 183 [t 30,t 32])])
 (.seq (R [0] [v 34 0,v 35 1,o 36 (.bin .sub (t 35) (n 1)),o 37 (.callg 183 [t 34,t 36])])
 (R [] [v 38 0,o 39 (.callg 150 [t 38,.const (.int .u8 148),n 0])])))) []))) []))) []))) []))) []))) []))) []))) []))) []))) []))) [])
def code151:AFunc:=⟨false,false,2,155,[],
 .seq (R [0,1] [v 5 0,v 6 0,o 7 (.nilcheck (t 6)),o 8 (.faddr (t 7) 5),o 9 (.load none (t 8)),o 10 (.bin .sub (t 9) (n 1)),o 11 (.nilcheck (t 5)),o 12 (.faddr (t 11) 5),u (.store 1 (t 12) (t 10))])
 (.seq (R [0,1,4] [v 13 0,o 14 (.nilcheck (t 13)),o 15 (.faddr (t 14) 0),o 16 (.load none (t 15)),o 17 (.callg 102 [t 16,n 16]),v 4 17])
 (.seq (.seq (R [0,1,4,26] [v 18 1,o 19 (.bin .leq (t 18) (n 0)),v 20 19,g 21 20 false (.val (t 0)),g 22 20 false (.nilcheck (t 21)),g 23 20 false (.faddr (t 22) 5),g 24 20 false (.load none (t 23)),g 25 20 false (.bin .leq (t 24) (n 0)),o 26 (.pick (t 20) Y (t 25))])
 (.after (.cond (t 26) (R [0,1,4] [v 27 4,o 28 (.bin .rem (t 27) (n 4)),v 4 28]) (.skip)) [0,1,4]))
 (.seq (R [0,1,29] [v 29 4])
 (.after (.block 0 code151B0) [])))),none⟩
def code152R0:ACode :=
 .after (.region [⟨true,[0,0,2,6,14,0,32,96,224,480,0,1024,3072,7168,16352,32736,65504,131040,262142],[v 17 0,v 18 0,o 19 (.nilcheck (t 18)),o 20 (.faddr (t 19) 1),o 21 (.load none (t 20)),v 22 0,o 23 (.nilcheck (t 22)),o 24 (.faddr (t 23) 0),o 25 (.load none (t 24)),o 26 (.callg 102 [t 25,n 3]),v 27 0,o 28 (.nilcheck (t 27)),o 29 (.faddr (t 28) 0),o 30 (.load none (t 29)),o 31 (.callg 102 [t 30,n 9]),o 32 (.bin .sub (t 31) (n 4)),o 33 (.build [.int .u8 0,.int .i64 0,.int .i64 0,.str [],.str [],.str [],.str []] [(0,1,.const (.int .u8 132)),(1,1,t 26),(2,1,t 32)]),o 34 (.mkslice 7 1 [.int .u8 0,.int .i64 0,.int .i64 0,.str [],.str [],.str [],.str []] [(0,7,t 33)]),o 35 (.append 7 88 (t 21) (t 34))]⟩,⟨false,[],[o 36 (.nilcheck (t 17)),o 37 (.faddr (t 36) 1),u (.store 1 (t 37) (t 35))]⟩]) []
def code152B0:ACode :=
 .seq (R [0,2,38] [v 39 0,o 40 (.nilcheck (t 39)),o 41 (.faddr (t 40) 5),o 42 (.load none (t 41)),o 43 (.bin .leq (t 42) (n 0)),v 44 43,g 45 44 false (.val (t 2)),g 46 44 false (.bin .lss (t 45) (n 2)),o 47 (.pick (t 44) Y (t 46)),v 38 47])
 (.after (.cond (t 38) (.seq (R [0] [v 48 0,o 49 (.callg 151 [t 48,n 2])])
 (R [] [v 50 0,v 51 0,o 52 (.nilcheck (t 51)),o 53 (.faddr (t 52) 0),o 54 (.load none (t 53)),o 55 (.callg 102 [t 54,n 2]),o 56 (.bin .add (n 1) (t 55)),o 57 (.callg 150 [t 50,.const (.int .u8 54),t 56])])) (.seq (R [0,2,58] [v 59 2,o 60 (.bin .eql (t 59) (n 2)),v 58 60])
 (.after (.cond (t 58) (.seq (R [0] [v 61 0,o 62 (.callg 151 [t 61,n 2])])
 (R [] [v 63 0,o 64 (.callg 154 [t 63,.const (.int .u8 184),.const (.str [115,121,115]),.const (.str [112,114,105,110,116]),.const (.str [40,73,41,86])])])) (.seq (R [0,2,65] [v 66 2,o 67 (.bin .eql (t 66) (n 3)),v 65 67])
 (.after (.cond (t 65) (.seq (R [0] [v 68 0,o 69 (.callg 183 [t 68,n 2])])
 (R [] [v 70 0,o 71 (.callg 150 [t 70,.const (.int .u8 55),n 3])])) (.seq (R [0,2,72] [v 73 2,o 74 (.bin .eql (t 73) (n 4)),v 72 74])
 (.after (.cond (t 72) (.seq (R [0] [v 75 0,o 76 (.callg 184 [t 75])])
 (R [] [v 77 0,o 78 (.callg 150 [t 77,.const (.int .u8 58),n 5])])) (.seq (R [0,2,79] [v 80 2,o 81 (.bin .eql (t 80) (n 5)),v 79 81])
 (.after (.cond (t 79) (.seq (R [0] [v 82 0,o 83 (.callg 150 [t 82,.const (.int .u8 25),n 5])])
 (.seq (R [0] [v 84 0,o 85 (.callg 151 [t 84,n 1])])
 (R [] [v 86 0,o 87 (.callg 154 [t 86,.const (.int .u8 181),.const (.str [65]),.const (.str [102]),.const (.str [73])])]))) (.seq (R [0,2,88] [v 89 2,o 90 (.bin .eql (t 89) (n 6)),v 88 90])
 (.after (.cond (t 88) (.seq (R [0] [v 91 0,o 92 (.callg 151 [t 91,n 1])])
 (R [] [v 93 0,o 94 (.callg 154 [t 93,.const (.int .u8 179),.const (.str [77,97,105,110]),.const (.str [115]),.const (.str [73])])])) (.seq (R [0,2,95] [v 96 2,o 97 (.bin .eql (t 96) (n 7)),v 95 97])
 (.after (.cond (t 95) (.seq (R [0] [v 98 0,o 99 (.callg 151 [t 98,n 1])])
 (.seq (R [0,3] [v 100 0,o 101 (.nilcheck (t 100)),o 102 (.faddr (t 101) 0),o 103 (.load none (t 102)),o 104 (.callg 102 [t 103,n 2]),v 3 104])
 (.seq (R [0,3] [v 105 0,v 106 3,o 107 (.bin .mul (n 2) (t 106)),o 108 (.bin .sub (n 10) (t 107)),o 109 (.callg 150 [t 105,.const (.int .u8 188),t 108])])
 (R [] [v 110 0,v 111 3,o 112 (.bin .add (n 6) (t 111)),o 113 (.callg 150 [t 110,.const (.int .u8 58),t 112])])))) (.seq (R [0,2,114] [v 115 2,o 116 (.bin .eql (t 115) (n 8)),v 114 116])
 (.after (.cond (t 114) (.seq (R [0] [v 117 0,o 118 (.callg 150 [t 117,.const (.int .u8 25),n 6])])
 (.seq (R [0] [v 119 0,o 120 (.callg 151 [t 119,n 1])])
 (.seq (R [0] [v 121 0,o 122 (.callg 151 [t 121,n 1])])
 (R [] [v 123 0,o 124 (.callg 150 [t 123,.const (.int .u8 79),n 0])])))) (.seq (R [0,2,125] [v 126 2,o 127 (.bin .eql (t 126) (n 9)),v 128 127,g 129 128 true (.val (t 0)),g 130 128 true (.nilcheck (t 129)),g 131 128 true (.faddr (t 130) 4),g 132 128 true (.load none (t 131)),g 133 128 true (.bin .lss (t 132) (n 3)),o 134 (.pick (t 128) (t 133) F),v 125 134])
 (.after (.cond (t 125) (R [] [v 135 0,o 136 (.callg 185 [t 135])]) (.seq (R [0,2,137] [v 138 2,o 139 (.bin .eql (t 138) (n 10)),v 140 139,g 141 140 true (.val (t 0)),g 142 140 true (.nilcheck (t 141)),g 143 140 true (.faddr (t 142) 4),g 144 140 true (.load none (t 143)),g 145 140 true (.bin .lss (t 144) (n 3)),o 146 (.pick (t 140) (t 145) F),v 137 146])
 (.after (.cond (t 137) (R [] [v 147 0,o 148 (.callg 186 [t 147])]) (.seq (R [0,2,149] [v 150 2,o 151 (.bin .eql (t 150) (n 11)),v 152 151,g 153 152 true (.val (t 0)),g 154 152 true (.nilcheck (t 153)),g 155 152 true (.faddr (t 154) 4),g 156 152 true (.load none (t 155)),g 157 152 true (.bin .lss (t 156) (n 3)),o 158 (.pick (t 152) (t 157) F),v 149 158])
 (.after (.cond (t 149) (R [] [v 159 0,o 160 (.callg 187 [t 159])]) (.seq (R [0,2,161] [v 162 2,o 163 (.bin .eql (t 162) (n 12)),v 161 163])
 (.after (.cond (t 161) (R [] [v 164 0,o 165 (.callg 188 [t 164])]) (.seq (R [0,2,166] [v 167 2,o 168 (.bin .eql (t 167) (n 13)),v 166 168])
 (.after (.cond (t 166) (.seq (R [0] [v 169 0,v 170 0,o 171 (.nilcheck (t 170)),o 172 (.faddr (t 171) 1),o 173 (.load none (t 172)),o 174 (.build [.int .u8 0,.int .i64 0,.int .i64 0,.str [],.str [],.str [],.str []] [(0,1,.const (.int .u8 18)),(5,1,.const (.str [83])),(6,1,.const (.str [104,105]))]),o 175 (.mkslice 7 1 [.int .u8 0,.int .i64 0,.int .i64 0,.str [],.str [],.str [],.str []] [(0,7,t 174)]),o 176 (.append 7 88 (t 173) (t 175)),o 177 (.nilcheck (t 169)),o 178 (.faddr (t 177) 1),u (.store 1 (t 178) (t 176))])
 (R [] [v 179 0,o 180 (.callg 150 [t 179,.const (.int .u8 58),n 7])])) (.seq (R [0,181] [v 182 2,o 183 (.bin .eql (t 182) (n 14)),v 181 183])
 (.after (.cond (t 181) (.seq (R [0] [v 184 0,o 185 (.callg 150 [t 184,.const (.int .u8 25),n 7])])
 (R [] [v 186 0,o 187 (.callg 154 [t 186,.const (.int .u8 184),.const (.str [115,121,115]),.const (.str [112,114,105,110,116,84,101,120,116]),.const (.str [40,91,66,41,86])])])) (code152R0)) []))) []))) []))) []))) []))) []))) []))) []))) []))) []))) []))) []))) []))) [])
def code152:AFunc:=⟨false,false,1,188,[],
 .seq (R [0] [v 4 0,v 5 0,o 6 (.nilcheck (t 5)),o 7 (.faddr (t 6) 5),o 8 (.load none (t 7)),o 9 (.bin .sub (t 8) (n 1)),o 10 (.nilcheck (t 4)),o 11 (.faddr (t 10) 5),u (.store 1 (t 11) (t 9))])
 (.seq (R [0,2] [v 12 0,o 13 (.nilcheck (t 12)),o 14 (.faddr (t 13) 0),o 15 (.load none (t 14)),o 16 (.callg 102 [t 15,n 16]),v 2 16])
 (.after (.block 0 code152B0) [])),none⟩
def code153:AFunc:=⟨false,false,2,47,[],
 .after (.block 0 (.seq (R [0,1,15] [v 16 1,o 17 (.bin .geq (t 16) (.const (.int .i64 (-1)))),v 18 17,g 19 18 true (.val (t 1)),g 20 18 true (.bin .leq (t 19) (n 5)),o 21 (.pick (t 18) (t 20) F),v 15 21])
 (.after (.cond (t 15) (R [] [v 22 0,v 23 1,o 24 (.bin .add (n 3) (t 23)),o 25 (.conv (.int .u8) (t 24)),o 26 (.callg 150 [t 22,t 25,n 0])]) (.seq (R [0,1,27] [v 28 1,o 29 (.bin .geq (t 28) (.const (.int .i64 (-128)))),v 30 29,g 31 30 true (.val (t 1)),g 32 30 true (.bin .lss (t 31) (n 128)),o 33 (.pick (t 30) (t 32) F),v 27 33])
 (.after (.cond (t 27) (R [] [v 34 0,v 35 1,o 36 (.callg 150 [t 34,.const (.int .u8 16),t 35])]) (.seq (R [0,1,37] [v 38 1,o 39 (.bin .geq (t 38) (.const (.int .i64 (-32768)))),v 40 39,g 41 40 true (.val (t 1)),g 42 40 true (.bin .lss (t 41) (n 32768)),o 43 (.pick (t 40) (t 42) F),v 37 43])
 (.after (.cond (t 37) (R [] [v 44 0,v 45 1,o 46 (.callg 150 [t 44,.const (.int .u8 17),t 45])]) (R [] [v 4 0,v 5 0,o 6 (.nilcheck (t 5)),o 7 (.faddr (t 6) 1),o 8 (.load none (t 7)),v 9 1,o 10 (.build [.int .u8 0,.int .i64 0,.int .i64 0,.str [],.str [],.str [],.str []] [(0,1,.const (.int .u8 18)),(5,1,.const (.str [73])),(1,1,t 9)]),o 11 (.mkslice 7 1 [.int .u8 0,.int .i64 0,.int .i64 0,.str [],.str [],.str [],.str []] [(0,7,t 10)]),o 12 (.append 7 88 (t 8) (t 11)),o 13 (.nilcheck (t 4)),o 14 (.faddr (t 13) 1),u (.store 1 (t 14) (t 12))])) []))) []))) []))) [],none⟩
def code154:AFunc:=⟨false,false,5,24,[],
 R [] [v 10 0,v 11 0,o 12 (.nilcheck (t 11)),o 13 (.faddr (t 12) 1),o 14 (.load none (t 13)),v 15 1,v 16 2,v 17 3,v 18 4,o 19 (.build [.int .u8 0,.int .i64 0,.int .i64 0,.str [],.str [],.str [],.str []] [(0,1,t 15),(3,1,t 16),(4,1,t 17),(5,1,t 18)]),o 20 (.mkslice 7 1 [.int .u8 0,.int .i64 0,.int .i64 0,.str [],.str [],.str [],.str []] [(0,7,t 19)]),o 21 (.append 7 88 (t 14) (t 20)),o 22 (.nilcheck (t 10)),o 23 (.faddr (t 22) 1),u (.store 1 (t 23) (t 21))],none⟩
def code183B0:ACode :=
 .seq (R [0,1,4,16] [v 17 1,o 18 (.bin .gtr (t 17) (n 0)),v 19 18,g 20 19 true (.val (t 4)),g 21 19 true (.bin .lss (t 20) (n 2)),o 22 (.pick (t 19) (t 21) F),v 16 22])
 (.after (.cond (t 16) (.seq (R [0,1] [v 23 0,v 24 1,o 25 (.bin .sub (t 24) (n 1)),o 26 (.callg 183 [t 23,t 25])])
 (.seq (R [0] [v 27 0,v 28 1,o 29 (.bin .sub (t 28) (n 1)),o 30 (.callg 183 [t 27,t 29])])
 (R [] [v 31 0,o 32 (.mkslice 1 8 [.int .u8 0,.int .u8 0,.int .u8 0,.int .u8 0,.int .u8 0,.int .u8 0,.int .u8 0,.int .u8 0] [(0,1,.const (.int .u8 97)),(1,1,.const (.int .u8 101)),(2,1,.const (.int .u8 105)),(3,1,.const (.int .u8 109)),(4,1,.const (.int .u8 127)),(5,1,.const (.int .u8 131)),(6,1,.const (.int .u8 113)),(7,1,.const (.int .u8 129))]),v 33 0,o 34 (.nilcheck (t 33)),o 35 (.faddr (t 34) 0),o 36 (.load none (t 35)),o 37 (.callg 102 [t 36,n 8]),o 38 (.iaddr 1 (t 32) (t 37)),o 39 (.load none (t 38)),o 40 (.callg 150 [t 31,t 39,n 0])]))) (.seq (R [0,1,4,41] [v 42 1,o 43 (.bin .gtr (t 42) (n 0)),v 44 43,g 45 44 true (.val (t 4)),g 46 44 true (.bin .eql (t 45) (n 2)),o 47 (.pick (t 44) (t 46) F),v 41 47])
 (.after (.cond (t 41) (.seq (R [0,1] [v 48 0,v 49 1,o 50 (.bin .sub (t 49) (n 1)),o 51 (.callg 183 [t 48,t 50])])
 (.seq (R [0] [v 52 0,v 53 1,o 54 (.bin .sub (t 53) (n 1)),o 55 (.callg 151 [t 52,t 54])])
 (R [] [v 56 0,o 57 (.mkslice 1 3 [.int .u8 0,.int .u8 0,.int .u8 0] [(0,1,.const (.int .u8 121)),(1,1,.const (.int .u8 123)),(2,1,.const (.int .u8 125))]),v 58 0,o 59 (.nilcheck (t 58)),o 60 (.faddr (t 59) 0),o 61 (.load none (t 60)),o 62 (.callg 102 [t 61,n 3]),o 63 (.iaddr 1 (t 57) (t 62)),o 64 (.load none (t 63)),o 65 (.callg 150 [t 56,t 64,n 0])]))) (.seq (R [0,1,4,66] [v 67 4,o 68 (.bin .eql (t 67) (n 3)),v 66 68])
 (.after (.cond (t 66) (R [] [v 69 0,o 70 (.callg 150 [t 69,.const (.int .u8 22),n 3])]) (.seq (R [0,1,71] [v 72 4,o 73 (.bin .eql (t 72) (n 4)),v 71 73])
 (.after (.cond (t 71) (.after (.region [⟨true,[0,0,2,6,14,0,32,96,224,480,992,2016,4064,8160,16382],[v 74 0,v 75 0,o 76 (.nilcheck (t 75)),o 77 (.faddr (t 76) 1),o 78 (.load none (t 77)),v 79 0,o 80 (.nilcheck (t 79)),o 81 (.faddr (t 80) 0),o 82 (.load none (t 81)),o 83 (.callg 102 [t 82,n 256]),o 84 (.bin .shl (t 83) (.const (.int .u64 40))),o 85 (.bin .sub (t 84) (n 5)),o 86 (.build [.int .u8 0,.int .i64 0,.int .i64 0,.str [],.str [],.str [],.str []] [(0,1,.const (.int .u8 20)),(5,1,.const (.str [74])),(1,1,t 85)]),o 87 (.mkslice 7 1 [.int .u8 0,.int .i64 0,.int .i64 0,.str [],.str [],.str [],.str []] [(0,7,t 86)]),o 88 (.append 7 88 (t 78) (t 87))]⟩,⟨false,[],[o 89 (.nilcheck (t 74)),o 90 (.faddr (t 89) 1),u (.store 1 (t 90) (t 88))]⟩]) []) (.seq (R [0] [v 10 0,v 11 1,o 12 (.bin .sub (t 11) (n 1)),o 13 (.callg 151 [t 10,t 12])])
 (R [] [v 14 0,o 15 (.callg 150 [t 14,.const (.int .u8 133),n 0])]))) []))) []))) []))) [])
def code183:AFunc:=⟨false,false,2,91,[],
 .seq (R [0,1,4] [v 5 0,o 6 (.nilcheck (t 5)),o 7 (.faddr (t 6) 0),o 8 (.load none (t 7)),o 9 (.callg 102 [t 8,n 6]),v 4 9])
 (.after (.block 0 code183B0) []),none⟩
def code184B0:ACode :=
 .seq (R [0,6,17] [o 18 (.bin .eql (t 6) (n 0)),v 17 18])
 (.after (.cond (t 17) (R [] [v 19 0,o 20 (.callg 150 [t 19,.const (.int .u8 1),n 0])]) (.seq (R [0,6,21] [o 22 (.bin .eql (t 6) (n 1)),v 21 22])
 (.after (.cond (t 21) (R [] [v 23 0,v 24 0,o 25 (.nilcheck (t 24)),o 26 (.faddr (t 25) 1),o 27 (.load none (t 26)),o 28 (.build [.int .u8 0,.int .i64 0,.int .i64 0,.str [],.str [],.str [],.str []] [(0,1,.const (.int .u8 187)),(3,1,.const (.str [66]))]),o 29 (.mkslice 7 1 [.int .u8 0,.int .i64 0,.int .i64 0,.str [],.str [],.str [],.str []] [(0,7,t 28)]),o 30 (.append 7 88 (t 27) (t 29)),o 31 (.nilcheck (t 23)),o 32 (.faddr (t 31) 1),u (.store 1 (t 32) (t 30))]) (.seq (R [0,33] [o 34 (.bin .eql (t 6) (n 2)),v 33 34])
 (.after (.cond (t 33) (.seq (R [0] [v 35 0,o 36 (.callg 150 [t 35,.const (.int .u8 25),n 5])])
 (R [] [v 37 0,v 38 0,o 39 (.nilcheck (t 38)),o 40 (.faddr (t 39) 1),o 41 (.load none (t 40)),o 42 (.build [.int .u8 0,.int .i64 0,.int .i64 0,.str [],.str [],.str [],.str []] [(0,1,.const (.int .u8 192)),(3,1,.const (.str [66]))]),o 43 (.mkslice 7 1 [.int .u8 0,.int .i64 0,.int .i64 0,.str [],.str [],.str [],.str []] [(0,7,t 42)]),o 44 (.append 7 88 (t 41) (t 43)),o 45 (.nilcheck (t 37)),o 46 (.faddr (t 45) 1),u (.store 1 (t 46) (t 44))])) (R [] [v 7 0,v 8 0,o 9 (.nilcheck (t 8)),o 10 (.faddr (t 9) 1),o 11 (.load none (t 10)),o 12 (.build [.int .u8 0,.int .i64 0,.int .i64 0,.str [],.str [],.str [],.str []] [(0,1,.const (.int .u8 187)),(3,1,.const (.str [65]))]),o 13 (.mkslice 7 1 [.int .u8 0,.int .i64 0,.int .i64 0,.str [],.str [],.str [],.str []] [(0,7,t 12)]),o 14 (.append 7 88 (t 11) (t 13)),o 15 (.nilcheck (t 7)),o 16 (.faddr (t 15) 1),u (.store 1 (t 16) (t 14))])) []))) []))) [])
def code184:AFunc:=⟨false,false,1,47,[],
 .seq (R [0,6] [v 2 0,o 3 (.nilcheck (t 2)),o 4 (.faddr (t 3) 0),o 5 (.load none (t 4)),o 6 (.callg 102 [t 5,n 5])])
 (.after (.block 0 code184B0) []),none⟩
def code185R0:ACode :=
 .after (.region [⟨true,[0,1,3,7,0,0,32],[v 20 0,o 21 (.nilcheck (t 20)),o 22 (.faddr (t 21) 1),o 23 (.load none (t 22)),v 24 2,v 25 0,o 26 (.callg 100208 [t 25,.const (.slice none 0 (some 0))])]⟩,⟨false,[],[o 27 (.iaddr 7 (t 23) (t 24)),o 28 (.faddr (t 27) 1),u (.store 1 (t 28) (t 26))]⟩]) [0,3]
def code185R1:ACode :=
 .after (.region [⟨true,[0,1,3,7,0,0,32],[v 31 0,o 32 (.nilcheck (t 31)),o 33 (.faddr (t 32) 1),o 34 (.load none (t 33)),v 35 3,v 36 0,o 37 (.callg 100208 [t 36,.const (.slice none 0 (some 0))])]⟩,⟨false,[],[o 38 (.iaddr 7 (t 34) (t 35)),o 39 (.faddr (t 38) 1),u (.store 1 (t 39) (t 37))]⟩]) []
def code185:AFunc:=⟨false,false,1,40,[],
 .seq (R [0] [v 4 0,o 5 (.callg 151 [t 4,n 1])])
 (.seq (R [0,2] [v 6 0,o 7 (.mkslice 1 6 [.int .u8 0,.int .u8 0,.int .u8 0,.int .u8 0,.int .u8 0,.int .u8 0] [(0,1,.const (.int .u8 153)),(1,1,.const (.int .u8 154)),(2,1,.const (.int .u8 155)),(3,1,.const (.int .u8 156)),(4,1,.const (.int .u8 157)),(5,1,.const (.int .u8 158))]),v 8 0,o 9 (.nilcheck (t 8)),o 10 (.faddr (t 9) 0),o 11 (.load none (t 10)),o 12 (.callg 102 [t 11,n 6]),o 13 (.iaddr 1 (t 7) (t 12)),o 14 (.load none (t 13)),o 15 (.callg 210 [t 6,t 14]),v 2 15])
 (.seq (R [0,2] [v 16 0,o 17 (.callg 209 [t 16])])
 (.seq (R [0,2,3] [v 18 0,o 19 (.callg 210 [t 18,.const (.int .u8 167)]),v 3 19])
 (.seq (code185R0)
 (.seq (R [0,3] [v 29 0,o 30 (.callg 209 [t 29])])
 (code185R1)))))),none⟩
def code186R0:ACode :=
 .after (.region [⟨true,[0,1,3,7,0,0,32],[v 34 0,o 35 (.nilcheck (t 34)),o 36 (.faddr (t 35) 1),o 37 (.load none (t 36)),v 38 3,v 39 0,o 40 (.callg 100208 [t 39,.const (.slice none 0 (some 0))])]⟩,⟨false,[],[o 41 (.iaddr 7 (t 37) (t 38)),o 42 (.faddr (t 41) 1),u (.store 1 (t 42) (t 40))]⟩]) []
def code186:AFunc:=⟨false,false,1,43,[],
 .seq (R [0] [v 4 0,v 5 0,o 6 (.nilcheck (t 5)),o 7 (.faddr (t 6) 0),o 8 (.load none (t 7)),o 9 (.callg 102 [t 8,n 5]),o 10 (.callg 153 [t 4,t 9])])
 (.seq (R [0] [v 11 0,o 12 (.callg 150 [t 11,.const (.int .u8 54),n 2])])
 (.seq (R [0,2] [v 13 0,o 14 (.callg 100208 [t 13,.const (.slice none 0 (some 0))]),v 2 14])
 (.seq (R [0,2] [v 15 0,o 16 (.callg 150 [t 15,.const (.int .u8 21),n 2])])
 (.seq (R [0,2,3] [v 17 0,o 18 (.callg 210 [t 17,.const (.int .u8 158)]),v 3 18])
 (.seq (R [0,2,3] [v 19 0,o 20 (.callg 209 [t 19])])
 (.seq (R [0,2,3] [v 21 0,v 22 0,o 23 (.nilcheck (t 22)),o 24 (.faddr (t 23) 1),o 25 (.load none (t 24)),o 26 (.build [.int .u8 0,.int .i64 0,.int .i64 0,.str [],.str [],.str [],.str []] [(0,1,.const (.int .u8 132)),(1,1,n 2),(2,1,.const (.int .i64 (-1)))]),o 27 (.mkslice 7 1 [.int .u8 0,.int .i64 0,.int .i64 0,.str [],.str [],.str [],.str []] [(0,7,t 26)]),o 28 (.append 7 88 (t 25) (t 27)),o 29 (.nilcheck (t 21)),o 30 (.faddr (t 29) 1),u (.store 1 (t 30) (t 28))])
 (.seq (R [0,3] [v 31 0,v 32 2,o 33 (.callg 150 [t 31,.const (.int .u8 167),t 32])])
 (code186R0)))))))),none⟩
def code187T0:ACode :=
 .seq (.seq (R [0,2,3,4,5,7,8,77] [v 76 3,o 77 (.bin .geq (t 76) (n 0))])
 (.after (.cond (t 77) (R [0,2,4,5,7] [v 78 0,o 79 (.nilcheck (t 78)),o 80 (.faddr (t 79) 1),o 81 (.load none (t 80)),v 82 3,v 83 8,o 84 (.iaddr 7 (t 81) (t 82)),o 85 (.faddr (t 84) 1),u (.store 1 (t 85) (t 83))]) (.skip)) [0,2,4,5,7]))
 (R [] [v 86 0,v 87 0,o 88 (.nilcheck (t 87)),o 89 (.faddr (t 88) 2),o 90 (.load none (t 89)),v 91 2,v 92 4,v 93 7,v 94 5,o 95 (.build [.int .i64 0,.int .i64 0,.int .i64 0,.str []] [(0,1,t 91),(1,1,t 92),(2,1,t 93),(3,1,t 94)]),o 96 (.mkslice 4 1 [.int .i64 0,.int .i64 0,.int .i64 0,.str []] [(0,4,t 95)]),o 97 (.append 4 40 (t 90) (t 96)),o 98 (.nilcheck (t 86)),o 99 (.faddr (t 98) 2),u (.store 1 (t 99) (t 97))])
def code187T1:ACode :=
 .seq (R [0,2,3,4,5] [o 53 (.mkslice 1 5 [.str [],.str [],.str [],.str [],.str []] [(0,1,.const (.str [])),(1,1,.const (.str [84,104,114,111,119,97,98,108,101])),(2,1,.const (.str [77,97,116,104,70,97,117,108,116])),(3,1,.const (.str [79,111,112,115])),(4,1,.const (.str [78,117,108,108,70,97,117,108,116]))]),v 54 0,o 55 (.nilcheck (t 54)),o 56 (.faddr (t 55) 0),o 57 (.load none (t 56)),o 58 (.callg 102 [t 57,n 5]),o 59 (.iaddr 1 (t 53) (t 58)),o 60 (.load none (t 59)),v 5 60])
 (.seq (R [0,2,3,4,5,6] [v 61 5,v 6 61])
 (.seq (.seq (R [0,2,3,4,5,6,63] [v 62 6,o 63 (.bin .eql (t 62) (.const (.str [])))])
 (.after (.cond (t 63) (R [0,2,3,4,5,6] [o 6 (.val (.const (.str [84,104,114,111,119,97,98,108,101])))]) (.skip)) [0,2,3,4,5,6]))
 (.seq (R [0,2,3,4,5,7] [v 64 0,v 65 6,o 66 (.bin .add (.const (.str [76])) (t 65)),o 67 (.bin .add (t 66) (.const (.str [59]))),o 68 (.mkslice 1 1 [.str []] [(0,1,t 67)]),o 69 (.callg 100208 [t 64,t 68]),v 7 69])
 (.seq (R [0,2,3,4,5,7] [v 70 0,o 71 (.callg 150 [t 70,.const (.int .u8 87),n 0])])
 (.seq (R [0,2,3,4,5,7] [v 72 0,o 73 (.callg 209 [t 72])])
 (.seq (R [0,2,3,4,5,7,8] [v 74 0,o 75 (.callg 100208 [t 74,.const (.slice none 0 (some 0))]),v 8 75])
 (code187T0)))))))
def code187T2:ACode :=
 .seq (R [0,2,3,4] [v 36 0,o 37 (.nilcheck (t 36)),o 38 (.faddr (t 37) 1),o 39 (.load none (t 38)),o 40 (.len .sl (t 39)),v 4 40])
 (.seq (.seq (R [0,2,3,4,50] [v 41 0,o 42 (.nilcheck (t 41)),o 43 (.faddr (t 42) 1),o 44 (.load none (t 43)),v 45 4,o 46 (.bin .sub (t 45) (n 1)),o 47 (.iaddr 7 (t 44) (t 46)),o 48 (.faddr (t 47) 0),o 49 (.load none (t 48)),o 50 (.bin .eql (t 49) (.const (.int .u8 0)))])
 (.after (.cond (t 50) (R [0,2,3,4] [v 51 0,o 52 (.callg 210 [t 51,.const (.int .u8 167)]),v 3 52]) (.skip)) [0,2,3,4]))
 (code187T1))
def code187:AFunc:=⟨false,false,1,100,[],
 .seq (R [0,2] [v 9 0,o 10 (.nilcheck (t 9)),o 11 (.faddr (t 10) 1),o 12 (.load none (t 11)),o 13 (.len .sl (t 12)),v 2 13])
 (.seq (R [0,2] [v 14 0,o 15 (.callg 209 [t 14])])
 (.seq (R [0,2,3] [o 3 (.val (.const (.int .i64 (-1))))])
 (.seq (.seq (R [0,2,3,21] [v 16 0,o 17 (.nilcheck (t 16)),o 18 (.faddr (t 17) 0),o 19 (.load none (t 18)),o 20 (.callg 102 [t 19,n 3]),o 21 (.bin .eql (t 20) (n 1))])
 (.after (.cond (t 21) (.seq (R [0,2,3] [v 22 0,v 23 0,o 24 (.nilcheck (t 23)),o 25 (.faddr (t 24) 1),o 26 (.load none (t 25)),o 27 (.build [.int .u8 0,.int .i64 0,.int .i64 0,.str [],.str [],.str [],.str []] [(0,1,.const (.int .u8 187)),(3,1,.const (.str [79,111,112,115]))]),o 28 (.mkslice 7 1 [.int .u8 0,.int .i64 0,.int .i64 0,.str [],.str [],.str [],.str []] [(0,7,t 27)]),o 29 (.append 7 88 (t 26) (t 28)),o 30 (.nilcheck (t 22)),o 31 (.faddr (t 30) 1),u (.store 1 (t 31) (t 29))])
 (R [0,2,3] [v 32 0,o 33 (.callg 150 [t 32,.const (.int .u8 191),n 0])])) (R [0,2,3] [v 34 0,o 35 (.callg 150 [t 34,.const (.int .u8 0),n 0])])) [0,2,3]))
 (code187T2)))),none⟩
def code188B0:ACode :=
 .seq (R [0,6,11] [o 12 (.bin .eql (t 6) (n 0)),v 11 12])
 (.after (.cond (t 11) (.seq (R [0] [v 13 0,o 14 (.callg 150 [t 13,.const (.int .u8 25),n 7])])
 (.seq (R [0] [v 15 0,o 16 (.callg 154 [t 15,.const (.int .u8 184),.const (.str [115,121,115]),.const (.str [97,100,100]),.const (.str [40,91,66,41,73])])])
 (R [] [v 17 0,o 18 (.callg 150 [t 17,.const (.int .u8 54),n 1])]))) (.seq (R [0,6,19] [o 20 (.bin .eql (t 6) (n 1)),v 19 20])
 (.after (.cond (t 19) (.seq (R [0] [v 21 0,o 22 (.callg 151 [t 21,n 1])])
 (.seq (R [0] [v 23 0,o 24 (.callg 154 [t 23,.const (.int .u8 184),.const (.str [115,121,115]),.const (.str [103,101,116]),.const (.str [40,73,41,91,66])])])
 (R [] [v 25 0,o 26 (.callg 150 [t 25,.const (.int .u8 58),n 7])]))) (.seq (R [0,27] [o 28 (.bin .eql (t 6) (n 2)),v 27 28])
 (.after (.cond (t 27) (.seq (R [0] [v 29 0,o 30 (.callg 151 [t 29,n 1])])
 (.seq (R [0] [v 31 0,o 32 (.callg 150 [t 31,.const (.int .u8 25),n 7])])
 (R [] [v 33 0,o 34 (.callg 154 [t 33,.const (.int .u8 184),.const (.str [115,121,115]),.const (.str [115,101,116]),.const (.str [40,73,91,66,41,86])])]))) (.seq (R [0] [v 7 0,o 8 (.callg 154 [t 7,.const (.int .u8 184),.const (.str [115,121,115]),.const (.str [99,111,117,110,116]),.const (.str [40,41,73])])])
 (R [] [v 9 0,o 10 (.callg 150 [t 9,.const (.int .u8 54),n 1])]))) []))) []))) [])
def code188:AFunc:=⟨false,false,1,35,[],
 .seq (R [0,6] [v 2 0,o 3 (.nilcheck (t 2)),o 4 (.faddr (t 3) 0),o 5 (.load none (t 4)),o 6 (.callg 102 [t 5,n 4])])
 (.after (.block 0 code188B0) []),none⟩
def code209L0:ACode :=
 .live [0,2] (.seq (.seq (R [0,2,18] [v 17 2,o 18 (.bin .gtr (t 17) (n 0))])
 (.after (.cond (t 18) (.skip) (.live [0] (.exit 0))) [0,2]))
 (.seq (.after (.block 1 (R [0,2] [v 21 0,o 22 (.callg 152 [t 21])])) [0,2])
 (R [0,2] [v 19 2,o 20 (.bin .sub (t 19) (n 1)),v 2 20])))
def code209:AFunc:=⟨false,false,1,31,[],
 .seq (R [0] [v 3 0,v 4 0,o 5 (.nilcheck (t 4)),o 6 (.faddr (t 5) 4),o 7 (.load none (t 6)),o 8 (.bin .add (t 7) (n 1)),o 9 (.nilcheck (t 3)),o 10 (.faddr (t 9) 4),u (.store 1 (t 10) (t 8))])
 (.seq (.seq (R [0,2] [v 11 0,o 12 (.nilcheck (t 11)),o 13 (.faddr (t 12) 0),o 14 (.load none (t 13)),o 15 (.callg 102 [t 14,n 3]),o 16 (.bin .add (n 1) (t 15)),v 2 16])
 (.after (.block 0 (.loop code209L0)) [0]))
 (R [] [v 23 0,v 24 0,o 25 (.nilcheck (t 24)),o 26 (.faddr (t 25) 4),o 27 (.load none (t 26)),o 28 (.bin .sub (t 27) (n 1)),o 29 (.nilcheck (t 23)),o 30 (.faddr (t 29) 4),u (.store 1 (t 30) (t 28))])),none⟩
def code210:AFunc:=⟨false,false,2,14,[.tmp 4],
 .seq (R [0,1] [o 4 (.val (n 0))])
 (.seq (R [0] [v 5 0,v 6 1,o 7 (.callg 150 [t 5,t 6,n 0])])
 (.seq (R [4] [v 8 0,o 9 (.nilcheck (t 8)),o 10 (.faddr (t 9) 1),o 11 (.load none (t 10)),o 12 (.len .sl (t 11)),o 13 (.bin .sub (t 12) (n 1)),v 4 13])
 (.live [4] (.ret)))),none⟩
def code222:AFunc:=⟨false,false,0,2,[.tmp 0],
 .seq (R [] [o 0 (.val (.const (.slice none 0 (some 0))))])
 (.seq (R [0] [o 1 (.mkslice 1 7 [.str [],.str [],.str [],.str [],.str [],.str [],.str []] [(0,1,.const (.str [73])),(1,1,.const (.str [73])),(2,1,.const (.str [73])),(3,1,.const (.str [74])),(4,1,.const (.str [76,65,59])),(5,1,.const (.str [91,73])),(6,1,.const (.str [91,66]))]),v 0 1])
 (.live [0] (.ret))),none⟩
def code100208:AFunc:=⟨false,false,2,47,[.tmp 4],
 .seq (R [0,1] [o 4 (.val (n 0))])
 (.seq (R [0,1,5] [v 7 0,o 8 (.nilcheck (t 7)),o 9 (.faddr (t 8) 1),o 10 (.load none (t 9)),o 11 (.len .sl (t 10)),v 5 11])
 (.seq (.seq (R [0,1,5,6] [v 12 0,o 13 (.nilcheck (t 12)),o 14 (.faddr (t 13) 3),o 15 (.load none (t 14)),o 16 (.len .sl (t 15)),v 6 16])
 (.seq (R [0,1,5,31] [v 17 6,o 18 (.bin .gtr (t 17) (n 0)),v 19 18,g 20 19 true (.val (t 0)),g 21 19 true (.nilcheck (t 20)),g 22 19 true (.faddr (t 21) 3),g 23 19 true (.load none (t 22)),g 24 19 true (.val (t 6)),g 25 19 true (.bin .sub (t 24) (n 1)),g 26 19 true (.iaddr 3 (t 23) (t 25)),g 27 19 true (.faddr (t 26) 0),g 28 19 true (.load none (t 27)),g 29 19 true (.val (t 5)),g 30 19 true (.bin .eql (t 28) (t 29)),o 31 (.pick (t 19) (t 30) F)])
 (.after (.cond (t 31) (.seq (R [4] [v 32 5,v 4 32])
 (.live [4] (.ret))) (.skip)) [0,1,5])))
 (.seq (.after (.region [⟨true,[0,0,2,6,14,0,0,0,224,480,1022],[v 33 0,v 34 0,o 35 (.nilcheck (t 34)),o 36 (.faddr (t 35) 3),o 37 (.load none (t 36)),v 38 5,o 39 (.callg 222 []),v 40 1,o 41 (.build [.int .i64 0,.slice none 0 (some 0),.slice none 0 (some 0)] [(0,1,t 38),(1,1,t 39),(2,1,t 40)]),o 42 (.mkslice 3 1 [.int .i64 0,.slice none 0 (some 0),.slice none 0 (some 0)] [(0,3,t 41)]),o 43 (.append 3 56 (t 37) (t 42))]⟩,⟨false,[],[o 44 (.nilcheck (t 33)),o 45 (.faddr (t 44) 3),u (.store 1 (t 45) (t 43))]⟩]) [5])
 (.seq (R [4] [v 46 5,v 4 46])
 (.live [4] (.ret)))))),none⟩
def T:Nat→Option AFunc:=fun g=>match AbsHier.T g with
 | some f=>some f
 | none=>List.lookup g [(48,code48),(101,code101),(102,code102),(150,code150),(151,code151),(152,code152),(153,code153),(154,code154),(183,code183),(184,code184),(185,code185),(186,code186),(187,code187),(188,code188),(209,code209),(210,code210),(222,code222),(100208,code100208)]
theorem sub:∀ g f,AbsHier.T g=some f→T g=some f:=fun g f h=>by unfold T; rw [h]
theorem t48:T 48=some code48:=rfl
theorem t101:T 101=some code101:=rfl
theorem t102:T 102=some code102:=rfl
theorem t150:T 150=some code150:=rfl
theorem t151:T 151=some code151:=rfl
theorem t152:T 152=some code152:=rfl
theorem t153:T 153=some code153:=rfl
theorem t154:T 154=some code154:=rfl
theorem t183:T 183=some code183:=rfl
theorem t184:T 184=some code184:=rfl
theorem t185:T 185=some code185:=rfl
theorem t186:T 186=some code186:=rfl
theorem t187:T 187=some code187:=rfl
theorem t188:T 188=some code188:=rfl
theorem t209:T 209=some code209:=rfl
theorem t210:T 210=some code210:=rfl
theorem t222:T 222=some code222:=rfl
theorem t100208:T 100208=some code100208:=rfl
end Go.Abs.AbsMake

namespace Go.Abs.AbsOrd
open Go.Abs.Short
-- base: AbsMake
def T:Nat→Option AFunc:=fun g=>match AbsMake.T g with
 | some f=>some f
 | none=>List.lookup g []
theorem sub:∀ g f,AbsMake.T g=some f→T g=some f:=fun g f h=>by unfold T; rw [h]
end Go.Abs.AbsOrd
