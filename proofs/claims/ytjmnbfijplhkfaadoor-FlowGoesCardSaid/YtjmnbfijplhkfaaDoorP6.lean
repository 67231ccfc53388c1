/-
  Texts joined.
-/
import Derived.Test.YtjmnbfijplhkfaaDoorP0
import Derived.Test.YtjmnbfijplhkfaaDoorP5
import Derived.KernelRfl
set_option linter.unusedVariables false
set_option linter.unusedSimpArgs false
set_option maxRecDepth 100000
namespace Go.Abs.AbsFlow
open Go.Abs.Short
-- base: AbsOrd
def code71:AFunc:=⟨false,false,2,19,[.cell 4 (some 3),.tmp 5],
 .seq (R [2,3,4] [o 2 (.lbox (t 0)),o 3 (.box (t 1)),o 4 (.lalloc [.int .i64 0,.slice none 0 (some 0),.slice none 0 (some 0)]),o 5 (.val F)])
 (.seq (R [2,4,6] [o 7 (.faddr (t 2) 7),o 8 (.load none (t 7)),o 9 (.mkfunc 132 [] [t 3]),o 10 (.callg 133 [t 8,t 9]),v 6 10])
 (.seq (.seq (R [2,4,6,12] [v 11 6,o 12 (.bin .lss (t 11) (n 0))])
 (.after (.cond (t 12) (.seq (R [4,5] [o 13 (.build [.int .i64 0,.slice none 0 (some 0),.slice none 0 (some 0)] []),u (.store 3 (t 4) (t 13)),o 5 (.val F)])
 (.live [4,5] (.ret))) (.skip)) [2,4,6]))
 (.seq (R [4,5] [o 14 (.faddr (t 2) 7),o 15 (.load none (t 14)),v 16 6,o 17 (.iaddr 3 (t 15) (t 16)),o 18 (.load (some 3) (t 17)),u (.store 3 (t 4) (t 18)),o 5 (.val Y)])
 (.live [4,5] (.ret))))),none⟩
def code73:AFunc:=⟨false,false,1,11,[.tmp 2],
 .seq (R [0] [o 2 (.val F)])
 (.seq (.seq (R [3] [v 3 0])
 (.after (.block 0 (.seq (.seq (R [3,4] [o 5 (.bin .eql (t 3) (.const (.int .u8 167))),v 4 5])
 (.after (.cond (t 4) (.skip) (.seq (R [3,4] [o 6 (.bin .eql (t 3) (.const (.int .u8 191))),v 4 6])
 (.after (.cond (t 4) (.skip) (.seq (R [3,4] [o 7 (.bin .eql (t 3) (.const (.int .u8 172))),v 4 7])
 (.after (.cond (t 4) (.skip) (.seq (R [3,4] [o 8 (.bin .eql (t 3) (.const (.int .u8 173))),v 4 8])
 (.after (.cond (t 4) (.skip) (.seq (R [3,4] [o 9 (.bin .eql (t 3) (.const (.int .u8 176))),v 4 9])
 (.after (.cond (t 4) (.skip) (R [4] [o 10 (.bin .eql (t 3) (.const (.int .u8 177))),v 4 10])) [4]))) [4]))) [4]))) [4]))) [4]))
 (.after (.cond (t 4) (.seq (R [2] [o 2 (.val Y)])
 (.live [2] (.ret))) (.skip)) []))) []))
 (.seq (R [2] [o 2 (.val F)])
 (.live [2] (.ret)))),none⟩
def code75:AFunc:=⟨false,false,1,19,[.tmp 2],
 .seq (R [1] [o 1 (.lbox (t 0)),o 2 (.val F)])
 (.seq (R [2] [o 3 (.faddr (t 1) 5),o 4 (.load none (t 3)),o 5 (.len .sl (t 4)),o 6 (.bin .leq (t 5) (n 200)),v 7 6,g 8 7 true (.faddr (t 1) 6),g 9 7 true (.load none (t 8)),g 10 7 true (.len .sl (t 9)),g 11 7 true (.bin .leq (t 10) (n 30)),o 12 (.pick (t 7) (t 11) F),v 13 12,g 14 13 true (.load (some 8) (t 1)),g 15 13 true (.mkslice 8 1 [.bool false,.str [],.str [],.int .i64 0,.int .i64 0,.slice none 0 (some 0),.slice none 0 (some 0),.slice none 0 (some 0)] [(0,8,t 14)]),g 16 13 true (.build [.str [],.str [],.slice none 0 (some 0),.slice none 0 (some 0)] [(3,1,t 15)]),g 17 13 true (.callg 104 [t 16]),o 18 (.pick (t 13) (t 17) F),v 2 18])
 (.live [2] (.ret))),none⟩
def code76L0:ACode :=
 .live [1,78,79,80] (.seq (R [1,78,79,80,81] [o 81 (.bin .lss (t 80) (t 79))])
 (.seq (.after (.cond (t 81) (.skip) (.live [] (.exit 2))) [1,78,79,80])
 (.seq (.after (.block 3 (.seq (R [1,10,78,79,80] [o 82 (.iaddr 1 (t 78) (t 80)),o 83 (.load none (t 82)),v 10 83])
 (.seq (R [1,12,78,79,80] [o 85 (.load (some 8) (t 1)),v 86 10,o 87 (.callg 71 [t 85,t 86]),v 84 87,o 88 (.extract (t 84) 0),o 89 (.extract (t 84) 1),o 11 (.lalloc [.int .i64 0,.slice none 0 (some 0),.slice none 0 (some 0)]),u (.store 3 (t 11) (t 88)),v 12 89])
 (.seq (R [1,78,79,80,91] [v 90 12,o 91 (.un .not (t 90))])
 (.after (.cond (t 91) (.seq (R [2] [o 2 (.val (n 11))])
 (.live [2] (.ret))) (.skip)) [1,78,79,80]))))) [1,78,79,80])
 (R [1,78,79,80] [o 92 (.bin .add (t 80) (n 1)),v 80 92]))))
def code76L1:ACode :=
 .live [1,6,56,57,58] (.seq (R [1,6,56,57,58,59] [o 59 (.bin .lss (t 58) (t 57))])
 (.seq (.after (.cond (t 59) (.skip) (.live [1,6] (.exit 0))) [1,6,56,57,58])
 (.seq (.after (.block 1 (.seq (R [1,6,7,8,56,57,58] [v 60 58,o 61 (.iaddr 7 (t 56) (t 58)),o 62 (.load (some 7) (t 61)),o 8 (.lalloc [.int .u8 0,.int .i64 0,.int .i64 0,.str [],.str [],.str [],.str []]),v 7 60,u (.store 7 (t 8) (t 62))])
 (.seq (.after (.region [⟨true,[],[o 63 (.load (some 8) (t 1)),o 64 (.load (some 7) (t 8)),v 65 6,v 66 7,o 67 (.iaddr 1 (t 65) (t 66)),o 68 (.load none (t 67))]⟩,⟨false,[],[o 69 (.callg 125 [t 63,t 64,t 68]),o 70 (.un .not (t 69))]⟩]) [1,6,56,57,58,70])
 (.after (.cond (t 70) (.seq (R [2] [o 2 (.val (n 8))])
 (.live [2] (.ret))) (.skip)) [1,6,56,57,58])))) [1,6,56,57,58])
 (R [1,6,56,57,58] [o 71 (.bin .add (t 58) (n 1)),v 58 71]))))
def code76:AFunc:=⟨false,false,1,93,[.tmp 2],
 .seq (R [1] [o 1 (.lbox (t 0)),o 2 (.val (n 0))])
 (.seq (R [1,5] [o 14 (.faddr (t 1) 2),o 15 (.load none (t 14)),o 16 (.callg 38 [t 15]),v 13 16,o 17 (.extract (t 13) 0),o 18 (.extract (t 13) 1),o 19 (.extract (t 13) 2),v 3 17,v 4 18,v 5 19])
 (.seq (.seq (R [1,52] [v 20 5,o 21 (.bin .neq (t 20) (n 0)),v 22 21,g 23 22 false (.faddr (t 1) 3),g 24 22 false (.load none (t 23)),g 25 22 false (.callg 127 [t 24,n 0,n 64]),g 26 22 false (.un .not (t 25)),o 27 (.pick (t 22) Y (t 26)),v 28 27,g 29 28 false (.faddr (t 1) 4),g 30 28 false (.load none (t 29)),g 31 28 false (.callg 127 [t 30,n 0,n 64]),g 32 28 false (.un .not (t 31)),o 33 (.pick (t 28) Y (t 32)),v 34 33,g 35 34 false (.faddr (t 1) 5),g 36 34 false (.load none (t 35)),g 37 34 false (.len .sl (t 36)),g 38 34 false (.bin .eql (t 37) (n 0)),o 39 (.pick (t 34) Y (t 38)),v 40 39,g 41 40 false (.faddr (t 1) 5),g 42 40 false (.load none (t 41)),g 43 40 false (.faddr (t 1) 5),g 44 40 false (.load none (t 43)),g 45 40 false (.len .sl (t 44)),g 46 40 false (.bin .sub (t 45) (n 1)),g 47 40 false (.iaddr 7 (t 42) (t 46)),g 48 40 false (.faddr (t 47) 0),g 49 40 false (.load none (t 48)),g 50 40 false (.callg 73 [t 49]),g 51 40 false (.un .not (t 50)),o 52 (.pick (t 40) Y (t 51))])
 (.after (.cond (t 52) (.seq (R [2] [o 2 (.val (n 8))])
 (.live [2] (.ret))) (.skip)) [1]))
 (.seq (R [1,6] [o 53 (.load (some 8) (t 1)),o 54 (.callg 126 [t 53]),v 6 54])
 (.seq (.seq (R [1,6,56,57,58] [o 55 (.faddr (t 1) 5),o 56 (.load none (t 55)),o 57 (.len .sl (t 56)),o 58 (.val (n 0))])
 (.after (.block 0 (.loop code76L1)) [1,6]))
 (.seq (.seq (R [1,6,75] [o 72 (.load (some 8) (t 1)),v 73 6,o 74 (.callg 124 [t 72,t 73]),o 75 (.un .not (t 74))])
 (.after (.cond (t 75) (.seq (R [2] [o 2 (.val (n 2))])
 (.live [2] (.ret))) (.skip)) [1,6]))
 (.seq (.seq (R [1,78,79,80] [o 76 (.load (some 8) (t 1)),v 77 6,o 78 (.callg 123 [t 76,t 77]),o 79 (.len .sl (t 78)),o 80 (.val (n 0))])
 (.after (.block 2 (.loop code76L0)) []))
 (.seq (R [2] [o 2 (.val (n 0))])
 (.live [2] (.ret))))))))),none⟩
def code77:AFunc:=⟨true,false,0,31,[.tmp 0],
 .seq (R [] [o 0 (.val F)])
 (.seq (R [1] [o 3 (.build [.int .u8 0,.int .i64 0,.int .i64 0,.str [],.str [],.str [],.str []] [(0,1,.const (.int .u8 177))]),o 4 (.mkslice 7 1 [.int .u8 0,.int .i64 0,.int .i64 0,.str [],.str [],.str [],.str []] [(0,7,t 3)]),o 5 (.build [.bool false,.str [],.str [],.int .i64 0,.int .i64 0,.slice none 0 (some 0),.slice none 0 (some 0),.slice none 0 (some 0)] [(2,1,.const (.str [40,41,86])),(5,1,t 4)]),o 1 (.lalloc [.bool false,.str [],.str [],.int .i64 0,.int .i64 0,.slice none 0 (some 0),.slice none 0 (some 0),.slice none 0 (some 0)]),u (.store 8 (t 1) (t 5))])
 (.seq (R [1,2] [o 6 (.build [.int .u8 0,.int .i64 0,.int .i64 0,.str [],.str [],.str [],.str []] [(0,1,.const (.int .u8 167))]),o 7 (.mkslice 7 1 [.int .u8 0,.int .i64 0,.int .i64 0,.str [],.str [],.str [],.str []] [(0,7,t 6)]),o 8 (.build [.bool false,.str [],.str [],.int .i64 0,.int .i64 0,.slice none 0 (some 0),.slice none 0 (some 0),.slice none 0 (some 0)] [(2,1,.const (.str [40,41,86])),(5,1,t 7)]),o 2 (.lalloc [.bool false,.str [],.str [],.int .i64 0,.int .i64 0,.slice none 0 (some 0),.slice none 0 (some 0),.slice none 0 (some 0)]),u (.store 8 (t 2) (t 8))])
 (.seq (R [0] [o 9 (.load (some 8) (t 1)),o 10 (.callg 76 [t 9]),o 11 (.bin .eql (t 10) (n 0)),v 12 11,g 13 12 true (.load (some 8) (t 2)),g 14 12 true (.callg 76 [t 13]),g 15 12 true (.bin .eql (t 14) (n 11)),o 16 (.pick (t 12) (t 15) F),v 17 16,g 18 17 true (.build [.bool false,.str [],.str [],.int .i64 0,.int .i64 0,.slice none 0 (some 0),.slice none 0 (some 0),.slice none 0 (some 0)] []),g 19 17 true (.callg 76 [t 18]),g 20 17 true (.bin .eql (t 19) (n 8)),o 21 (.pick (t 17) (t 20) F),v 22 21,g 23 22 true (.callg 73 [.const (.int .u8 191)]),o 24 (.pick (t 22) (t 23) F),v 25 24,g 26 25 true (.load (some 8) (t 2)),g 27 25 true (.callg 100074 [t 26,n 0]),g 28 25 true (.len .sl (t 27)),g 29 25 true (.bin .eql (t 28) (n 1)),o 30 (.pick (t 25) (t 29) F),v 0 30])
 (.live [0] (.ret))))),none⟩
def code79L0:ACode :=
 .live [14,15,107,108] (.seq (R [14,15,107,108,109] [o 109 (.bin .lss (t 108) (t 107))])
 (.seq (.after (.cond (t 109) (.skip) (.live [] (.exit 2))) [14,15,107,108])
 (.seq (.after (.block 3 (.seq (R [14,15,16,107,108] [v 110 108,v 16 110])
 (.seq (.after (.region [⟨true,[],[v 111 14,v 112 16,o 113 (.iaddr 1 (t 111) (t 112)),o 114 (.load none (t 113)),v 115 15,v 116 16,o 117 (.iaddr 1 (t 115) (t 116)),o 118 (.load none (t 117))]⟩,⟨false,[],[o 119 (.beq true (t 114) (t 118))]⟩]) [14,15,107,108,119])
 (.after (.cond (t 119) (.seq (R [6] [o 6 (.val F)])
 (.live [6] (.ret))) (.skip)) [14,15,107,108])))) [14,15,107,108])
 (R [14,15,107,108] [o 120 (.bin .add (t 108) (n 1)),v 108 120]))))
def code79L1:ACode :=
 .live [1,3,7,8,41,42] (.seq (R [1,3,7,8,41,42,43] [o 43 (.bin .lss (t 42) (t 41))])
 (.seq (.after (.cond (t 43) (.skip) (.live [1,3] (.exit 0))) [1,3,7,8,41,42])
 (.seq (.after (.block 1 (.seq (R [1,3,7,8,9,41,42] [v 44 42,v 9 44])
 (.seq (.after (.region [⟨true,[],[v 45 7,v 46 9,o 47 (.iaddr 1 (t 45) (t 46)),o 48 (.load none (t 47)),v 49 8,v 50 9,o 51 (.iaddr 1 (t 49) (t 50)),o 52 (.load none (t 51))]⟩,⟨false,[],[o 53 (.bin .neq (t 48) (t 52))]⟩]) [1,3,7,8,41,42,53])
 (.after (.cond (t 53) (.seq (R [6] [o 6 (.val F)])
 (.live [6] (.ret))) (.skip)) [1,3,7,8,41,42])))) [1,3,7,8,41,42])
 (R [1,3,7,8,41,42] [o 54 (.bin .add (t 42) (n 1)),v 42 54]))))
def code79:AFunc:=⟨false,false,3,121,[.tmp 6],
 .seq (R [1,2,3] [o 3 (.lbox (t 0)),o 6 (.val F)])
 (.seq (.seq (R [1,2,3,18] [o 17 (.callg 77 []),o 18 (.un .not (t 17))])
 (.after (.cond (t 18) (.seq (R [6] [o 6 (.val F)])
 (.live [6] (.ret))) (.skip)) [1,2,3]))
 (.seq (.seq (R [1,2,3,21] [o 19 (.load (some 8) (t 3)),o 20 (.callg 75 [t 19]),o 21 (.un .not (t 20))])
 (.after (.cond (t 21) (.seq (R [6] [o 6 (.val Y)])
 (.live [6] (.ret))) (.skip)) [1,2,3]))
 (.seq (.after (.region [⟨true,[0,0,3,0,0],[o 22 (.load (some 8) (t 3)),v 23 1,o 24 (.callg 100074 [t 22,t 23]),o 25 (.load (some 8) (t 3)),v 26 1]⟩,⟨false,[],[o 27 (.callg 84 [t 25,t 26]),v 7 24,v 8 27]⟩]) [1,2,3,7,8])
 (.seq (.seq (R [1,3,7,8,39] [v 28 7,o 29 (.len .sl (t 28)),v 30 8,o 31 (.len .sl (t 30)),o 32 (.bin .neq (t 29) (t 31)),v 33 32,g 34 33 false (.val (t 2)),g 35 33 false (.callg 73 [t 34]),g 36 33 false (.val (t 2)),g 37 33 false (.callg 83 [t 36]),g 38 33 false (.beq true (t 35) (t 37)),o 39 (.pick (t 33) Y (t 38))])
 (.after (.cond (t 39) (.seq (R [6] [o 6 (.val F)])
 (.live [6] (.ret))) (.skip)) [1,3,7,8]))
 (.seq (.seq (R [1,3,7,8,41,42] [v 40 7,o 41 (.len .sl (t 40)),o 42 (.val (n 0))])
 (.after (.block 0 (.loop code79L1)) [1,3]))
 (.seq (R [1,3,10,11] [o 56 (.load (some 8) (t 3)),v 57 1,o 58 (.callg 71 [t 56,t 57]),v 55 58,o 59 (.extract (t 55) 0),o 60 (.extract (t 55) 1),o 10 (.lalloc [.int .i64 0,.slice none 0 (some 0),.slice none 0 (some 0)]),u (.store 3 (t 10) (t 59)),v 11 60])
 (.seq (R [3,10,11,12,13] [o 62 (.load (some 8) (t 3)),v 63 1,o 64 (.callg 82 [t 62,t 63]),v 61 64,o 65 (.extract (t 61) 0),o 66 (.extract (t 61) 1),o 12 (.lalloc [.int .i64 0,.slice none 0 (some 0),.slice none 0 (some 0)]),u (.store 3 (t 12) (t 65)),v 13 66])
 (.seq (.after (.region [⟨true,[0,1,0],[o 67 (.load (some 8) (t 3)),o 68 (.callg 100080 [t 67]),o 69 (.load (some 8) (t 3))]⟩,⟨false,[],[o 70 (.callg 81 [t 69]),v 14 68,v 15 70]⟩]) [10,11,12,13,14,15])
 (.seq (.seq (R [14,15,105] [v 71 11,v 72 13,o 73 (.beq true (t 71) (t 72)),v 74 73,g 75 74 false (.faddr (t 10) 0),g 76 74 false (.load none (t 75)),g 77 74 false (.faddr (t 12) 0),g 78 74 false (.load none (t 77)),g 79 74 false (.bin .neq (t 76) (t 78)),o 80 (.pick (t 74) Y (t 79)),v 81 80,g 82 81 false (.faddr (t 10) 1),g 83 81 false (.load none (t 82)),g 84 81 false (.len .sl (t 83)),g 85 81 false (.faddr (t 12) 1),g 86 81 false (.load none (t 85)),g 87 81 false (.len .sl (t 86)),g 88 81 false (.bin .neq (t 84) (t 87)),o 89 (.pick (t 81) Y (t 88)),v 90 89,g 91 90 false (.faddr (t 10) 2),g 92 90 false (.load none (t 91)),g 93 90 false (.len .sl (t 92)),g 94 90 false (.faddr (t 12) 2),g 95 90 false (.load none (t 94)),g 96 90 false (.len .sl (t 95)),g 97 90 false (.bin .neq (t 93) (t 96)),o 98 (.pick (t 90) Y (t 97)),v 99 98,g 100 99 false (.val (t 14)),g 101 99 false (.len .sl (t 100)),g 102 99 false (.val (t 15)),g 103 99 false (.len .sl (t 102)),g 104 99 false (.bin .neq (t 101) (t 103)),o 105 (.pick (t 99) Y (t 104))])
 (.after (.cond (t 105) (.seq (R [6] [o 6 (.val F)])
 (.live [6] (.ret))) (.skip)) [14,15]))
 (.seq (.seq (R [14,15,107,108] [v 106 14,o 107 (.len .sl (t 106)),o 108 (.val (n 0))])
 (.after (.block 2 (.loop code79L0)) []))
 (.seq (R [6] [o 6 (.val Y)])
 (.live [6] (.ret))))))))))))),none⟩
def code81L0:ACode :=
 .live [1,3,4,22,23,63,64,65] (.seq (R [1,3,4,22,23,63,64,65,66] [o 66 (.bin .lss (t 65) (t 64))])
 (.seq (.after (.cond (t 66) (.skip) (.live [1,3,4,22,23] (.exit 6))) [1,3,4,22,23,63,64,65])
 (.seq (.after (.block 7 (.seq (R [1,3,4,10,22,23,63,64,65] [o 67 (.iaddr 1 (t 63) (t 65)),o 68 (.load none (t 67)),v 10 68])
 (.seq (R [1,3,4,10,22,23,63,64,65] [v 69 4,v 70 69,g 71 70 false (.val (t 3)),g 72 70 false (.val (t 10)),g 73 70 false (.iaddr 1 (t 71) (t 72)),g 74 70 false (.load none (t 73)),g 75 70 false (.un .not (t 74)),o 76 (.pick (t 70) Y (t 75)),v 4 76])
 (R [1,3,4,22,23,63,64,65] [v 77 3,v 78 10,o 79 (.iaddr 1 (t 77) (t 78)),u (.store 1 (t 79) Y)])))) [1,3,4,22,23,63,64,65])
 (R [1,3,4,22,23,63,64,65] [o 80 (.bin .add (t 65) (n 1)),v 65 80]))))
def code81L1:ACode :=
 .live [1,3,4,5,6,22,23,35,36,37] (.seq (R [1,3,4,5,6,22,23,35,36,37,38] [o 38 (.bin .lss (t 37) (t 36))])
 (.seq (.after (.cond (t 38) (.skip) (.live [1,3,4,6,22,23] (.exit 4))) [1,3,4,5,6,22,23,35,36,37])
 (.seq (.after (.block 5 (.seq (R [1,3,4,5,6,8,22,23,35,36,37] [o 39 (.iaddr 4 (t 35) (t 37)),o 40 (.load (some 4) (t 39)),o 8 (.lalloc [.int .i64 0,.int .i64 0,.int .i64 0,.str []]),u (.store 4 (t 8) (t 40))])
 (.seq (R [1,3,4,5,6,8,22,23,35,36,37,56] [v 41 5,o 42 (.faddr (t 8) 0),o 43 (.load none (t 42)),o 44 (.bin .geq (t 41) (t 43)),v 45 44,g 46 45 true (.val (t 5)),g 47 45 true (.faddr (t 8) 1),g 48 45 true (.load none (t 47)),g 49 45 true (.bin .lss (t 46) (t 48)),o 50 (.pick (t 45) (t 49) F),v 51 50,g 52 51 true (.load (some 8) (t 1)),g 53 51 true (.faddr (t 8) 2),g 54 51 true (.load none (t 53)),g 55 51 true (.callg 135 [t 52,t 54]),o 56 (.pick (t 51) (t 55) F)])
 (.after (.cond (t 56) (R [1,3,4,5,6,22,23,35,36,37] [v 57 6,o 58 (.faddr (t 8) 2),o 59 (.load none (t 58)),o 60 (.mkslice 1 1 [.int .i64 0] [(0,1,t 59)]),o 61 (.append 1 8 (t 57) (t 60)),v 6 61]) (.skip)) [1,3,4,5,6,22,23,35,36,37])))) [1,3,4,5,6,22,23,35,36,37])
 (R [1,3,4,5,6,22,23,35,36,37] [o 62 (.bin .add (t 37) (n 1)),v 37 62]))))
def code81L2:ACode :=
 .live [1,3,4,22,23] (.seq (R [1,3,4,22,23,24] [o 24 (.bin .lss (t 23) (t 22))])
 (.seq (.after (.cond (t 24) (.skip) (.live [1,3,4] (.exit 2))) [1,3,4,22,23])
 (.seq (.after (.block 3 (.seq (R [1,3,4,5,22,23] [v 25 23,v 5 25])
 (.seq (.seq (R [1,3,4,5,22,23,30] [v 26 3,v 27 5,o 28 (.iaddr 1 (t 26) (t 27)),o 29 (.load none (t 28)),o 30 (.un .not (t 29))])
 (.after (.cond (t 30) (.live [1,3,4,22,23] (.exit 3)) (.skip)) [1,3,4,5,22,23]))
 (.seq (R [1,3,4,5,6,22,23] [o 31 (.load (some 8) (t 1)),v 32 5,o 33 (.callg 84 [t 31,t 32]),v 6 33])
 (.seq (.seq (R [1,3,4,5,6,22,23,35,36,37] [o 34 (.faddr (t 1) 6),o 35 (.load none (t 34)),o 36 (.len .sl (t 35)),o 37 (.val (n 0))])
 (.after (.block 4 (.loop code81L1)) [1,3,4,6,22,23]))
 (.seq (R [1,3,4,22,23,63,64,65] [v 63 6,o 64 (.len .sl (t 63)),o 65 (.val (n 0))])
 (.after (.block 6 (.loop code81L0)) [1,3,4,22,23]))))))) [1,3,4,22,23])
 (R [1,3,4,22,23] [o 81 (.bin .add (t 23) (n 1)),v 23 81]))))
def code81L3:ACode :=
 .live [1,3,4] (.seq (.seq (R [1,3,20] [v 20 4])
 (.after (.cond (t 20) (.skip) (.live [3] (.exit 0))) [1,3]))
 (.after (.block 1 (.seq (R [1,3,4] [o 4 (.val F)])
 (.seq (R [1,3,4,22,23] [v 21 3,o 22 (.len .sl (t 21)),o 23 (.val (n 0))])
 (.after (.block 2 (.loop code81L2)) [1,3,4])))) [1,3,4]))
def code81:AFunc:=⟨false,false,1,83,[.tmp 2],
 .seq (R [1] [o 1 (.lbox (t 0)),o 2 (.val (.const (.slice none 0 (some 0))))])
 (.seq (R [1,3] [o 11 (.faddr (t 1) 5),o 12 (.load none (t 11)),o 13 (.len .sl (t 12)),o 14 (.make 1 1 [.bool false] (t 13) (t 13)),v 3 14])
 (.seq (.seq (R [1,3,17] [v 15 3,o 16 (.len .sl (t 15)),o 17 (.bin .gtr (t 16) (n 0))])
 (.after (.cond (t 17) (R [1,3] [v 18 3,o 19 (.iaddr 1 (t 18) (n 0)),u (.store 1 (t 19) Y)]) (.skip)) [1,3]))
 (.seq (.seq (R [1,3,4] [o 4 (.val Y)])
 (.after (.block 0 (.loop code81L3)) [3]))
 (.seq (R [2] [v 82 3,v 2 82])
 (.live [2] (.ret)))))),none⟩
def code82L0:ACode :=
 .live [1,4,9,10,11] (.seq (R [1,4,9,10,11,12] [o 12 (.bin .lss (t 11) (t 10))])
 (.seq (.after (.cond (t 12) (.skip) (.live [4] (.exit 0))) [1,4,9,10,11])
 (.seq (.after (.block 1 (.seq (R [1,4,7,9,10,11] [o 13 (.iaddr 3 (t 9) (t 11)),o 14 (.load (some 3) (t 13)),o 7 (.lalloc [.int .i64 0,.slice none 0 (some 0),.slice none 0 (some 0)]),u (.store 3 (t 7) (t 14))])
 (.seq (R [1,4,7,9,10,11,18] [o 15 (.faddr (t 7) 0),o 16 (.load none (t 15)),v 17 1,o 18 (.bin .eql (t 16) (t 17))])
 (.after (.cond (t 18) (.seq (R [4,5] [o 19 (.load (some 3) (t 7)),u (.store 3 (t 4) (t 19)),o 5 (.val Y)])
 (.live [4,5] (.ret))) (.skip)) [1,4,9,10,11])))) [1,4,9,10,11])
 (R [1,4,9,10,11] [o 20 (.bin .add (t 11) (n 1)),v 11 20]))))
def code82:AFunc:=⟨false,false,2,22,[.cell 4 (some 3),.tmp 5],
 .seq (R [1,2,4] [o 2 (.lbox (t 0)),o 4 (.lalloc [.int .i64 0,.slice none 0 (some 0),.slice none 0 (some 0)]),o 5 (.val F)])
 (.seq (.seq (R [1,4,9,10,11] [o 8 (.faddr (t 2) 7),o 9 (.load none (t 8)),o 10 (.len .sl (t 9)),o 11 (.val (n 0))])
 (.after (.block 0 (.loop code82L0)) [4]))
 (.seq (R [4,5] [o 21 (.build [.int .i64 0,.slice none 0 (some 0),.slice none 0 (some 0)] []),u (.store 3 (t 4) (t 21)),o 5 (.val F)])
 (.live [4,5] (.ret)))),none⟩
def code83:AFunc:=⟨false,false,1,25,[.tmp 2],
 .seq (R [0] [o 2 (.val F)])
 (.seq (R [2] [v 3 0,o 4 (.bin .eql (t 3) (.const (.int .u8 167))),v 5 4,g 6 5 false (.val (t 0)),g 7 5 false (.bin .eql (t 6) (.const (.int .u8 191))),o 8 (.pick (t 5) Y (t 7)),v 9 8,g 10 9 false (.val (t 0)),g 11 9 false (.bin .eql (t 10) (.const (.int .u8 172))),o 12 (.pick (t 9) Y (t 11)),v 13 12,g 14 13 false (.val (t 0)),g 15 13 false (.bin .eql (t 14) (.const (.int .u8 173))),o 16 (.pick (t 13) Y (t 15)),v 17 16,g 18 17 false (.val (t 0)),g 19 17 false (.bin .eql (t 18) (.const (.int .u8 176))),o 20 (.pick (t 17) Y (t 19)),v 21 20,g 22 21 false (.val (t 0)),g 23 21 false (.bin .eql (t 22) (.const (.int .u8 177))),o 24 (.pick (t 21) Y (t 23)),v 2 24])
 (.live [2] (.ret))),none⟩
def code84L0:ACode :=
 .live [1,5,6,7,32,33] (.seq (R [1,5,6,7,32,33,34] [o 34 (.bin .lss (t 33) (t 32))])
 (.seq (.after (.cond (t 34) (.skip) (.live [7] (.exit 0))) [1,5,6,7,32,33])
 (.seq (.after (.block 1 (.seq (R [1,5,6,7,8,32,33] [v 35 33,v 8 35])
 (.seq (R [1,5,6,7,8,32,33,50] [v 36 8,v 37 6,o 38 (.bin .eql (t 36) (t 37)),v 39 38,g 40 39 false (.val (t 8)),g 41 39 false (.val (t 1)),g 42 39 false (.bin .add (t 41) (n 1)),g 43 39 false (.bin .eql (t 40) (t 42)),g 44 39 false (.val (t 43)),g 45 44 true (.faddr (t 5) 0),g 46 44 true (.load none (t 45)),g 47 44 true (.callg 83 [t 46]),g 48 44 true (.un .not (t 47)),g 49 39 false (.pick (t 44) (t 48) F),o 50 (.pick (t 39) Y (t 49))])
 (.after (.cond (t 50) (R [1,5,6,7,32,33] [v 51 7,v 52 8,o 53 (.mkslice 1 1 [.int .i64 0] [(0,1,t 52)]),o 54 (.append 1 8 (t 51) (t 53)),v 7 54]) (.skip)) [1,5,6,7,32,33])))) [1,5,6,7,32,33])
 (R [1,5,6,7,32,33] [o 55 (.bin .add (t 33) (n 1)),v 33 55]))))
def code84:AFunc:=⟨false,false,2,57,[.tmp 4],
 .seq (R [1,2] [o 2 (.lbox (t 0)),o 4 (.val (.const (.slice none 0 (some 0))))])
 (.seq (.seq (R [1,2,12] [o 9 (.load (some 8) (t 2)),v 10 1,o 11 (.callg 135 [t 9,t 10]),o 12 (.un .not (t 11))])
 (.after (.cond (t 12) (.seq (R [4] [o 4 (.val (.const (.slice none 0 (some 0))))])
 (.live [4] (.ret))) (.skip)) [1,2]))
 (.seq (R [1,2,5] [o 13 (.faddr (t 2) 5),o 14 (.load none (t 13)),v 15 1,o 16 (.iaddr 7 (t 14) (t 15)),o 17 (.load (some 7) (t 16)),o 5 (.lalloc [.int .u8 0,.int .i64 0,.int .i64 0,.str [],.str [],.str [],.str []]),u (.store 7 (t 5) (t 17))])
 (.seq (R [1,2,5,6] [o 6 (.val (.const (.int .i64 (-1))))])
 (.seq (.seq (R [1,2,5,6,27] [o 18 (.faddr (t 5) 0),o 19 (.load none (t 18)),o 20 (.callg 134 [t 19]),o 21 (.bin .eql (t 20) (n 7)),v 22 21,g 23 22 true (.load (some 8) (t 2)),g 24 22 true (.faddr (t 5) 1),g 25 22 true (.load none (t 24)),g 26 22 true (.callg 135 [t 23,t 25]),o 27 (.pick (t 22) (t 26) F)])
 (.after (.cond (t 27) (R [1,2,5,6] [o 28 (.faddr (t 5) 1),o 29 (.load none (t 28)),v 6 29]) (.skip)) [1,2,5,6]))
 (.seq (R [1,2,5,6,7] [o 7 (.val (.const (.slice none 0 (some 0))))])
 (.seq (.seq (R [1,5,6,7,32,33] [o 30 (.faddr (t 2) 5),o 31 (.load none (t 30)),o 32 (.len .sl (t 31)),o 33 (.val (n 0))])
 (.after (.block 0 (.loop code84L0)) [7]))
 (.seq (R [4] [v 56 7,v 4 56])
 (.live [4] (.ret))))))))),none⟩
def code123L0:ACode :=
 .live [5,46,47,48] (.seq (R [5,46,47,48,49] [o 49 (.bin .lss (t 48) (t 47))])
 (.seq (.after (.cond (t 49) (.skip) (.live [5] (.exit 2))) [5,46,47,48])
 (.seq (.after (.block 3 (.seq (R [5,9,46,47,48] [o 50 (.iaddr 4 (t 46) (t 48)),o 51 (.load (some 4) (t 50)),o 9 (.lalloc [.int .i64 0,.int .i64 0,.int .i64 0,.str []]),u (.store 4 (t 9) (t 51))])
 (R [5,46,47,48] [v 52 5,o 53 (.faddr (t 9) 2),o 54 (.load none (t 53)),o 55 (.mkslice 1 1 [.int .i64 0] [(0,1,t 54)]),o 56 (.append 1 8 (t 52) (t 55)),v 5 56]))) [5,46,47,48])
 (R [5,46,47,48] [o 57 (.bin .add (t 48) (n 1)),v 48 57]))))
def code123L1:ACode :=
 .live [1,2,5,11,12,13] (.seq (R [1,2,5,11,12,13,14] [o 14 (.bin .lss (t 13) (t 12))])
 (.seq (.after (.cond (t 14) (.skip) (.live [2,5] (.exit 0))) [1,2,5,11,12,13])
 (.seq (.after (.block 1 (.seq (R [1,2,5,6,7,11,12,13] [v 15 13,o 16 (.iaddr 7 (t 11) (t 13)),o 17 (.load (some 7) (t 16)),o 7 (.lalloc [.int .u8 0,.int .i64 0,.int .i64 0,.str [],.str [],.str [],.str []]),v 6 15,u (.store 7 (t 7) (t 17))])
 (.seq (.seq (R [1,2,5,6,7,11,12,13,22] [v 18 1,v 19 6,o 20 (.iaddr 1 (t 18) (t 19)),o 21 (.load none (t 20)),o 22 (.bin .eql (t 21) (n 7))])
 (.after (.cond (t 22) (R [1,2,5,6,7,11,12,13] [v 23 5,o 24 (.faddr (t 7) 1),o 25 (.load none (t 24)),o 26 (.mkslice 1 1 [.int .i64 0] [(0,1,t 25)]),o 27 (.append 1 8 (t 23) (t 26)),v 5 27]) (.skip)) [1,2,5,6,7,11,12,13]))
 (.seq (R [1,2,5,6,11,12,13,38] [o 28 (.faddr (t 7) 0),o 29 (.load none (t 28)),o 30 (.callg 73 [t 29]),v 31 30,g 32 31 true (.val (t 6)),g 33 31 true (.bin .add (t 32) (n 1)),g 34 31 true (.faddr (t 2) 5),g 35 31 true (.load none (t 34)),g 36 31 true (.len .sl (t 35)),g 37 31 true (.bin .lss (t 33) (t 36)),o 38 (.pick (t 31) (t 37) F)])
 (.after (.cond (t 38) (R [1,2,5,11,12,13] [v 39 5,v 40 6,o 41 (.bin .add (t 40) (n 1)),o 42 (.mkslice 1 1 [.int .i64 0] [(0,1,t 41)]),o 43 (.append 1 8 (t 39) (t 42)),v 5 43]) (.skip)) [1,2,5,11,12,13]))))) [1,2,5,11,12,13])
 (R [1,2,5,11,12,13] [o 44 (.bin .add (t 13) (n 1)),v 13 44]))))
def code123:AFunc:=⟨false,false,2,59,[.tmp 4],
 .seq (R [1,2] [o 2 (.lbox (t 0)),o 4 (.val (.const (.slice none 0 (some 0))))])
 (.seq (R [1,2,5] [o 5 (.val (.const (.slice none 0 (some 0))))])
 (.seq (.seq (R [1,2,5,11,12,13] [o 10 (.faddr (t 2) 5),o 11 (.load none (t 10)),o 12 (.len .sl (t 11)),o 13 (.val (n 0))])
 (.after (.block 0 (.loop code123L1)) [2,5]))
 (.seq (.seq (R [5,46,47,48] [o 45 (.faddr (t 2) 6),o 46 (.load none (t 45)),o 47 (.len .sl (t 46)),o 48 (.val (n 0))])
 (.after (.block 2 (.loop code123L0)) [5]))
 (.seq (R [4] [v 58 5,v 4 58])
 (.live [4] (.ret)))))),none⟩
def code124L0:ACode :=
 .live [2,9,67,68,69] (.seq (R [2,9,67,68,69,70] [o 70 (.bin .lss (t 69) (t 68))])
 (.seq (.after (.cond (t 70) (.skip) (.live [] (.exit 4))) [2,9,67,68,69])
 (.seq (.after (.block 5 (.seq (R [2,9,11,67,68,69] [o 71 (.iaddr 3 (t 67) (t 69)),o 72 (.load (some 3) (t 71)),o 11 (.lalloc [.int .i64 0,.slice none 0 (some 0),.slice none 0 (some 0)]),u (.store 3 (t 11) (t 72))])
 (.seq (.seq (R [2,11,67,68,69,83] [o 73 (.faddr (t 11) 0),o 74 (.load none (t 73)),v 75 9,o 76 (.bin .leq (t 74) (t 75)),v 77 76,g 78 77 false (.load (some 8) (t 2)),g 79 77 false (.faddr (t 11) 0),g 80 77 false (.load none (t 79)),g 81 77 false (.callg 131 [t 78,t 80]),g 82 77 false (.un .not (t 81)),o 83 (.pick (t 77) Y (t 82))])
 (.after (.cond (t 83) (.seq (R [4] [o 4 (.val F)])
 (.live [4] (.ret))) (.skip)) [2,11,67,68,69]))
 (R [2,9,67,68,69] [o 84 (.faddr (t 11) 0),o 85 (.load none (t 84)),v 9 85])))) [2,9,67,68,69])
 (R [2,9,67,68,69] [o 86 (.bin .add (t 69) (n 1)),v 69 86]))))
def code124L1:ACode :=
 .live [2,34,35,36] (.seq (R [2,34,35,36,37] [o 37 (.bin .lss (t 36) (t 35))])
 (.seq (.after (.cond (t 37) (.skip) (.live [2] (.exit 2))) [2,34,35,36])
 (.seq (.after (.block 3 (.seq (R [2,8,34,35,36] [o 38 (.iaddr 4 (t 34) (t 36)),o 39 (.load (some 4) (t 38)),o 8 (.lalloc [.int .i64 0,.int .i64 0,.int .i64 0,.str []]),u (.store 4 (t 8) (t 39))])
 (.seq (R [2,34,35,36,64] [o 40 (.faddr (t 8) 0),o 41 (.load none (t 40)),o 42 (.bin .lss (t 41) (n 0)),v 43 42,g 44 43 false (.faddr (t 8) 0),g 45 43 false (.load none (t 44)),g 46 43 false (.faddr (t 8) 1),g 47 43 false (.load none (t 46)),g 48 43 false (.bin .geq (t 45) (t 47)),o 49 (.pick (t 43) Y (t 48)),v 50 49,g 51 50 false (.faddr (t 8) 1),g 52 50 false (.load none (t 51)),g 53 50 false (.faddr (t 2) 5),g 54 50 false (.load none (t 53)),g 55 50 false (.len .sl (t 54)),g 56 50 false (.bin .gtr (t 52) (t 55)),o 57 (.pick (t 50) Y (t 56)),v 58 57,g 59 58 false (.load (some 8) (t 2)),g 60 58 false (.faddr (t 8) 2),g 61 58 false (.load none (t 60)),g 62 58 false (.callg 131 [t 59,t 61]),g 63 58 false (.un .not (t 62)),o 64 (.pick (t 58) Y (t 63))])
 (.after (.cond (t 64) (.seq (R [4] [o 4 (.val F)])
 (.live [4] (.ret))) (.skip)) [2,34,35,36])))) [2,34,35,36])
 (R [2,34,35,36] [o 65 (.bin .add (t 36) (n 1)),v 36 65]))))
def code124L2:ACode :=
 .live [1,2,13,14,15] (.seq (R [1,2,13,14,15,16] [o 16 (.bin .lss (t 15) (t 14))])
 (.seq (.after (.cond (t 16) (.skip) (.live [2] (.exit 0))) [1,2,13,14,15])
 (.seq (.after (.block 1 (.seq (R [1,2,5,6,13,14,15] [v 17 15,o 18 (.iaddr 7 (t 13) (t 15)),o 19 (.load (some 7) (t 18)),o 6 (.lalloc [.int .u8 0,.int .i64 0,.int .i64 0,.str [],.str [],.str [],.str []]),v 5 17,u (.store 7 (t 6) (t 19))])
 (.seq (R [1,2,13,14,15,31] [v 20 1,v 21 5,o 22 (.iaddr 1 (t 20) (t 21)),o 23 (.load none (t 22)),o 24 (.bin .eql (t 23) (n 7)),v 25 24,g 26 25 true (.load (some 8) (t 2)),g 27 25 true (.faddr (t 6) 1),g 28 25 true (.load none (t 27)),g 29 25 true (.callg 131 [t 26,t 28]),g 30 25 true (.un .not (t 29)),o 31 (.pick (t 25) (t 30) F)])
 (.after (.cond (t 31) (.seq (R [4] [o 4 (.val F)])
 (.live [4] (.ret))) (.skip)) [1,2,13,14,15])))) [1,2,13,14,15])
 (R [1,2,13,14,15] [o 32 (.bin .add (t 15) (n 1)),v 15 32]))))
def code124:AFunc:=⟨false,false,2,87,[.tmp 4],
 .seq (R [1,2] [o 2 (.lbox (t 0)),o 4 (.val F)])
 (.seq (.seq (R [1,2,13,14,15] [o 12 (.faddr (t 2) 5),o 13 (.load none (t 12)),o 14 (.len .sl (t 13)),o 15 (.val (n 0))])
 (.after (.block 0 (.loop code124L2)) [2]))
 (.seq (.seq (R [2,34,35,36] [o 33 (.faddr (t 2) 6),o 34 (.load none (t 33)),o 35 (.len .sl (t 34)),o 36 (.val (n 0))])
 (.after (.block 2 (.loop code124L1)) [2]))
 (.seq (R [2,9] [o 9 (.val (.const (.int .i64 (-1))))])
 (.seq (.seq (R [2,9,67,68,69] [o 66 (.faddr (t 2) 7),o 67 (.load none (t 66)),o 68 (.len .sl (t 67)),o 69 (.val (n 0))])
 (.after (.block 4 (.loop code124L0)) []))
 (.seq (R [4] [o 4 (.val Y)])
 (.live [4] (.ret))))))),none⟩
def code125:AFunc:=⟨false,false,3,30,[.tmp 6],
 .seq (R [2,3,4] [o 3 (.lbox (t 0)),o 4 (.lbox (t 1)),o 6 (.val F)])
 (.seq (R [2,3,4,7] [o 7 (.val (n 0))])
 (.seq (.seq (R [2,3,4,7,15] [o 8 (.faddr (t 4) 0),o 9 (.load none (t 8)),o 10 (.bin .eql (t 9) (.const (.int .u8 22))),v 11 10,g 12 11 false (.faddr (t 4) 0),g 13 11 false (.load none (t 12)),g 14 11 false (.bin .eql (t 13) (.const (.int .u8 55))),o 15 (.pick (t 11) Y (t 14))])
 (.after (.cond (t 15) (R [2,3,4,7] [o 7 (.val (n 1))]) (.skip)) [2,3,4,7]))
 (.seq (.seq (R [3,4,7,16] [v 16 2])
 (.after (.block 0 (.seq (R [3,4,7,16,17] [o 18 (.bin .eql (t 16) (n 0)),v 17 18])
 (.after (.cond (t 17) (.seq (R [6] [o 6 (.val F)])
 (.live [6] (.ret))) (.seq (.seq (R [3,4,7,16,19] [o 20 (.bin .eql (t 16) (n 2)),v 19 20])
 (.after (.cond (t 19) (.skip) (R [3,4,7,19] [o 21 (.bin .eql (t 16) (n 8)),v 19 21])) [3,4,7,19]))
 (.after (.cond (t 19) (.seq (R [6] [o 22 (.faddr (t 4) 1),o 23 (.load none (t 22)),o 24 (.faddr (t 3) 4),o 25 (.load none (t 24)),o 26 (.bin .sub (t 25) (n 1)),v 27 7,o 28 (.bin .sub (t 26) (t 27)),o 29 (.callg 164 [t 23,n 0,t 28]),v 6 29])
 (.live [6] (.ret))) (.skip)) []))) []))) []))
 (.seq (R [6] [o 6 (.val Y)])
 (.live [6] (.ret)))))),none⟩
def code126L0:ACode :=
 .live [3,7,8,9] (.seq (R [3,7,8,9,10] [o 10 (.bin .lss (t 9) (t 8))])
 (.seq (.after (.cond (t 10) (.skip) (.live [3] (.exit 0))) [3,7,8,9])
 (.seq (.after (.block 1 (.seq (R [3,5,7,8,9] [o 11 (.iaddr 7 (t 7) (t 9)),o 12 (.load (some 7) (t 11)),o 5 (.lalloc [.int .u8 0,.int .i64 0,.int .i64 0,.str [],.str [],.str [],.str []]),u (.store 7 (t 5) (t 12))])
 (R [3,7,8,9] [v 13 3,o 14 (.faddr (t 5) 0),o 15 (.load none (t 14)),o 16 (.callg 130 [t 15]),o 17 (.mkslice 1 1 [.int .i64 0] [(0,1,t 16)]),o 18 (.append 1 8 (t 13) (t 17)),v 3 18]))) [3,7,8,9])
 (R [3,7,8,9] [o 19 (.bin .add (t 9) (n 1)),v 9 19]))))
def code126:AFunc:=⟨false,false,1,21,[.tmp 2],
 .seq (R [1] [o 1 (.lbox (t 0)),o 2 (.val (.const (.slice none 0 (some 0))))])
 (.seq (R [1,3] [o 3 (.val (.const (.slice none 0 (some 0))))])
 (.seq (.seq (R [3,7,8,9] [o 6 (.faddr (t 1) 5),o 7 (.load none (t 6)),o 8 (.len .sl (t 7)),o 9 (.val (n 0))])
 (.after (.block 0 (.loop code126L0)) [3]))
 (.seq (R [2] [v 20 3,v 2 20])
 (.live [2] (.ret))))),none⟩
def code127:AFunc:=⟨false,false,3,15,[.tmp 6],
 .seq (R [0,1,2] [o 6 (.val F)])
 (.seq (R [6] [v 7 0,v 8 1,o 9 (.bin .geq (t 7) (t 8)),v 10 9,g 11 10 true (.val (t 0)),g 12 10 true (.val (t 2)),g 13 10 true (.bin .leq (t 11) (t 12)),o 14 (.pick (t 10) (t 13) F),v 6 14])
 (.live [6] (.ret))),none⟩
def code128L0:ACode :=
 .live [0,3,4,5] (.seq (.seq (R [0,3,4,5,32] [v 29 5,v 30 4,o 31 (.len .sl (t 30)),o 32 (.bin .lss (t 29) (t 31))])
 (.after (.cond (t 32) (.skip) (.live [0,3] (.exit 2))) [0,3,4,5]))
 (.seq (.after (.block 3 (.seq (.after (.region [⟨true,[],[v 35 4,v 36 5,o 37 (.iaddr 1 (t 35) (t 36)),o 38 (.load none (t 37)),v 39 4,v 40 5,o 41 (.bin .sub (t 40) (n 1)),o 42 (.iaddr 1 (t 39) (t 41)),o 43 (.load none (t 42))]⟩,⟨false,[],[o 44 (.bin .neq (t 38) (t 43))]⟩]) [0,3,4,5,44])
 (.after (.cond (t 44) (.seq (R [0,3,4,5] [v 45 0,v 46 3,v 47 4,v 48 5,o 49 (.iaddr 1 (t 47) (t 48)),o 50 (.load none (t 49)),o 51 (.iaddr 1 (t 45) (t 46)),u (.store 1 (t 51) (t 50))])
 (R [0,3,4,5] [v 52 3,o 53 (.bin .add (t 52) (n 1)),v 3 53])) (.skip)) [0,3,4,5]))) [0,3,4,5])
 (R [0,3,4,5] [v 33 5,o 34 (.bin .add (t 33) (n 1)),v 5 34])))
def code128L1:ACode :=
 .live [0,3] (.seq (.seq (R [0,3,13] [v 10 3,v 11 0,o 12 (.len .sl (t 11)),o 13 (.bin .lss (t 10) (t 12))])
 (.after (.cond (t 13) (.skip) (.live [0] (.exit 0))) [0,3]))
 (.seq (.after (.block 1 (.seq (.after (.region [⟨true,[],[v 16 0,v 17 3,o 18 (.iaddr 1 (t 16) (t 17)),o 19 (.load none (t 18)),v 20 0,v 21 3,o 22 (.bin .sub (t 21) (n 1)),o 23 (.iaddr 1 (t 20) (t 22)),o 24 (.load none (t 23))]⟩,⟨false,[],[o 25 (.bin .eql (t 19) (t 24))]⟩]) [0,3,25])
 (.after (.cond (t 25) (.seq (R [0,3,4] [v 26 0,v 27 3,o 28 (.slice (.sl 1) (t 26) (some (t 27)) none none),v 4 28])
 (.seq (.seq (R [0,3,4,5] [o 5 (.val (n 1))])
 (.after (.block 2 (.loop code128L0)) [0,3]))
 (.seq (R [0,3] [v 54 0,v 55 3,o 56 (.slice (.sl 1) (t 54) (some (t 55)) none none),u (.ext (.clear 1 [.int .i64 0]) [t 56])])
 (.seq (R [2] [v 57 0,v 58 3,o 59 (.slice (.sl 1) (t 57) none (some (t 58)) none),v 2 59])
 (.live [2] (.ret)))))) (.skip)) [0,3]))) [0,3])
 (R [0,3] [v 14 3,o 15 (.bin .add (t 14) (n 1)),v 3 15])))
def code128:AFunc:=⟨false,false,1,61,[.tmp 2],
 .seq (R [0] [o 2 (.val (.const (.slice none 0 (some 0))))])
 (.seq (.seq (R [0,8] [v 6 0,o 7 (.len .sl (t 6)),o 8 (.bin .lss (t 7) (n 2))])
 (.after (.cond (t 8) (.seq (R [2] [v 9 0,v 2 9])
 (.live [2] (.ret))) (.skip)) [0]))
 (.seq (.seq (R [0,3] [o 3 (.val (n 1))])
 (.after (.block 0 (.loop code128L1)) [0]))
 (.seq (R [2] [v 60 0,v 2 60])
 (.live [2] (.ret))))),none⟩
def code129:AFunc:=⟨false,false,1,11,[],
 .seq (R [0,2] [v 3 0,o 4 (.len .sl (t 3)),v 2 4])
 (R [] [v 5 0,v 6 2,v 7 2,o 8 (.conv (.int .u64) (t 7)),o 9 (.callg 166 [t 8]),o 10 (.callg 167 [t 5,n 0,t 6,t 9])]),none⟩
def code130:AFunc:=⟨false,false,1,7,[.tmp 2],
 .seq (R [0] [o 2 (.val (n 0))])
 (.seq (R [2] [o 3 (.callg 165 []),v 4 0,o 5 (.aindex 256 1 none (t 3) (t 4)),o 6 (.conv (.int .i64) (t 5)),v 2 6])
 (.live [2] (.ret))),none⟩
def code131:AFunc:=⟨false,false,2,11,[.tmp 4],
 .seq (R [1,2] [o 2 (.lbox (t 0)),o 4 (.val F)])
 (.seq (R [4] [v 5 1,o 6 (.faddr (t 2) 5),o 7 (.load none (t 6)),o 8 (.len .sl (t 7)),o 9 (.bin .sub (t 8) (n 1)),o 10 (.callg 164 [t 5,n 0,t 9]),v 4 10])
 (.live [4] (.ret))),none⟩
def code132:AFunc:=⟨false,false,2,8,[.tmp 3],
 .seq (R [1,2] [o 2 (.lbox (t 0)),o 3 (.val F)])
 (.seq (R [3] [o 4 (.faddr (t 2) 0),o 5 (.load none (t 4)),o 6 (.load none (t 1)),o 7 (.bin .eql (t 5) (t 6)),v 3 7])
 (.live [3] (.ret))),none⟩
def code133L0:ACode :=
 .live [0,1,7,8] (.seq (R [0,1,7,8,9] [o 9 (.bin .lss (t 8) (t 7))])
 (.seq (.after (.cond (t 9) (.skip) (.live [] (.exit 0))) [0,1,7,8])
 (.seq (.after (.block 1 (.seq (R [0,1,5,7,8] [v 10 8,v 5 10])
 (.seq (R [0,1,5,7,8,16] [v 11 1,v 12 0,v 13 5,o 14 (.iaddr 3 (t 12) (t 13)),o 15 (.load (some 3) (t 14)),o 16 (.call (t 11) [t 15])])
 (.after (.cond (t 16) (.seq (R [4] [v 17 5,v 4 17])
 (.live [4] (.ret))) (.skip)) [0,1,7,8])))) [0,1,7,8])
 (R [0,1,7,8] [o 18 (.bin .add (t 8) (n 1)),v 8 18]))))
def code133:AFunc:=⟨false,false,2,19,[.tmp 4],
 .seq (R [0,1] [o 4 (.val (n 0))])
 (.seq (.seq (R [0,1,7,8] [v 6 0,o 7 (.len .sl (t 6)),o 8 (.val (n 0))])
 (.after (.block 0 (.loop code133L0)) []))
 (.seq (R [4] [o 4 (.val (.const (.int .i64 (-1))))])
 (.live [4] (.ret)))),none⟩
def code134:AFunc:=⟨false,false,1,107,[.tmp 2],
 .seq (R [0] [o 2 (.val (n 0))])
 (.seq (.seq (R [0,3] [v 3 0])
 (.after (.block 0 (.seq (.seq (R [0,3,4] [o 5 (.bin .eql (t 3) (.const (.int .u8 21))),v 4 5])
 (.after (.cond (t 4) (.skip) (.seq (R [0,3,4] [o 6 (.bin .eql (t 3) (.const (.int .u8 22))),v 4 6])
 (.after (.cond (t 4) (.skip) (.seq (R [0,3,4] [o 7 (.bin .eql (t 3) (.const (.int .u8 25))),v 4 7])
 (.after (.cond (t 4) (.skip) (.seq (R [0,3,4] [o 8 (.bin .eql (t 3) (.const (.int .u8 54))),v 4 8])
 (.after (.cond (t 4) (.skip) (.seq (R [0,3,4] [o 9 (.bin .eql (t 3) (.const (.int .u8 55))),v 4 9])
 (.after (.cond (t 4) (.skip) (R [0,3,4] [o 10 (.bin .eql (t 3) (.const (.int .u8 58))),v 4 10])) [0,3,4]))) [0,3,4]))) [0,3,4]))) [0,3,4]))) [0,3,4]))
 (.after (.cond (t 4) (.seq (R [2] [o 2 (.val (n 2))])
 (.live [2] (.ret))) (.seq (R [0,3,11] [o 12 (.bin .eql (t 3) (.const (.int .u8 16))),v 11 12])
 (.after (.cond (t 11) (.seq (R [2] [o 2 (.val (n 3))])
 (.live [2] (.ret))) (.seq (R [0,3,13] [o 14 (.bin .eql (t 3) (.const (.int .u8 17))),v 13 14])
 (.after (.cond (t 13) (.seq (R [2] [o 2 (.val (n 4))])
 (.live [2] (.ret))) (.seq (R [0,3,15] [o 16 (.bin .eql (t 3) (.const (.int .u8 18))),v 15 16])
 (.after (.cond (t 15) (.seq (R [2] [o 2 (.val (n 5))])
 (.live [2] (.ret))) (.seq (.seq (R [0,3,17] [o 18 (.bin .eql (t 3) (.const (.int .u8 20))),v 17 18])
 (.after (.cond (t 17) (.skip) (.seq (R [0,3,17] [o 19 (.bin .eql (t 3) (.const (.int .u8 178))),v 17 19])
 (.after (.cond (t 17) (.skip) (.seq (R [0,3,17] [o 20 (.bin .eql (t 3) (.const (.int .u8 179))),v 17 20])
 (.after (.cond (t 17) (.skip) (.seq (R [0,3,17] [o 21 (.bin .eql (t 3) (.const (.int .u8 180))),v 17 21])
 (.after (.cond (t 17) (.skip) (.seq (R [0,3,17] [o 22 (.bin .eql (t 3) (.const (.int .u8 181))),v 17 22])
 (.after (.cond (t 17) (.skip) (.seq (R [0,3,17] [o 23 (.bin .eql (t 3) (.const (.int .u8 182))),v 17 23])
 (.after (.cond (t 17) (.skip) (.seq (R [0,3,17] [o 24 (.bin .eql (t 3) (.const (.int .u8 184))),v 17 24])
 (.after (.cond (t 17) (.skip) (.seq (R [0,3,17] [o 25 (.bin .eql (t 3) (.const (.int .u8 187))),v 17 25])
 (.after (.cond (t 17) (.skip) (.seq (R [0,3,17] [o 26 (.bin .eql (t 3) (.const (.int .u8 189))),v 17 26])
 (.after (.cond (t 17) (.skip) (.seq (R [0,3,17] [o 27 (.bin .eql (t 3) (.const (.int .u8 192))),v 17 27])
 (.after (.cond (t 17) (.skip) (R [0,3,17] [o 28 (.bin .eql (t 3) (.const (.int .u8 193))),v 17 28])) [0,3,17]))) [0,3,17]))) [0,3,17]))) [0,3,17]))) [0,3,17]))) [0,3,17]))) [0,3,17]))) [0,3,17]))) [0,3,17]))) [0,3,17]))
 (.after (.cond (t 17) (.seq (R [2] [o 2 (.val (n 6))])
 (.live [2] (.ret))) (.seq (.seq (R [0,3,29] [o 30 (.bin .eql (t 3) (.const (.int .u8 153))),v 29 30])
 (.after (.cond (t 29) (.skip) (.seq (R [0,3,29] [o 31 (.bin .eql (t 3) (.const (.int .u8 154))),v 29 31])
 (.after (.cond (t 29) (.skip) (.seq (R [0,3,29] [o 32 (.bin .eql (t 3) (.const (.int .u8 155))),v 29 32])
 (.after (.cond (t 29) (.skip) (.seq (R [0,3,29] [o 33 (.bin .eql (t 3) (.const (.int .u8 156))),v 29 33])
 (.after (.cond (t 29) (.skip) (.seq (R [0,3,29] [o 34 (.bin .eql (t 3) (.const (.int .u8 157))),v 29 34])
 (.after (.cond (t 29) (.skip) (.seq (R [0,3,29] [o 35 (.bin .eql (t 3) (.const (.int .u8 158))),v 29 35])
 (.after (.cond (t 29) (.skip) (.seq (R [0,3,29] [o 36 (.bin .eql (t 3) (.const (.int .u8 159))),v 29 36])
 (.after (.cond (t 29) (.skip) (.seq (R [0,3,29] [o 37 (.bin .eql (t 3) (.const (.int .u8 160))),v 29 37])
 (.after (.cond (t 29) (.skip) (.seq (R [0,3,29] [o 38 (.bin .eql (t 3) (.const (.int .u8 161))),v 29 38])
 (.after (.cond (t 29) (.skip) (.seq (R [0,3,29] [o 39 (.bin .eql (t 3) (.const (.int .u8 162))),v 29 39])
 (.after (.cond (t 29) (.skip) (.seq (R [0,3,29] [o 40 (.bin .eql (t 3) (.const (.int .u8 163))),v 29 40])
 (.after (.cond (t 29) (.skip) (.seq (R [0,3,29] [o 41 (.bin .eql (t 3) (.const (.int .u8 164))),v 29 41])
 (.after (.cond (t 29) (.skip) (.seq (R [0,3,29] [o 42 (.bin .eql (t 3) (.const (.int .u8 165))),v 29 42])
 (.after (.cond (t 29) (.skip) (.seq (R [0,3,29] [o 43 (.bin .eql (t 3) (.const (.int .u8 166))),v 29 43])
 (.after (.cond (t 29) (.skip) (.seq (R [0,3,29] [o 44 (.bin .eql (t 3) (.const (.int .u8 167))),v 29 44])
 (.after (.cond (t 29) (.skip) (.seq (R [0,3,29] [o 45 (.bin .eql (t 3) (.const (.int .u8 198))),v 29 45])
 (.after (.cond (t 29) (.skip) (R [0,3,29] [o 46 (.bin .eql (t 3) (.const (.int .u8 199))),v 29 46])) [0,3,29]))) [0,3,29]))) [0,3,29]))) [0,3,29]))) [0,3,29]))) [0,3,29]))) [0,3,29]))) [0,3,29]))) [0,3,29]))) [0,3,29]))) [0,3,29]))) [0,3,29]))) [0,3,29]))) [0,3,29]))) [0,3,29]))) [0,3,29]))
 (.after (.cond (t 29) (.seq (R [2] [o 2 (.val (n 7))])
 (.live [2] (.ret))) (.seq (R [0,3,47] [o 48 (.bin .eql (t 3) (.const (.int .u8 132))),v 47 48])
 (.after (.cond (t 47) (.seq (R [2] [o 2 (.val (n 8))])
 (.live [2] (.ret))) (.seq (R [0,3,49] [o 50 (.bin .eql (t 3) (.const (.int .u8 188))),v 49 50])
 (.after (.cond (t 49) (.seq (R [2] [o 2 (.val (n 9))])
 (.live [2] (.ret))) (.seq (.seq (R [0,3,51] [o 52 (.bin .eql (t 3) (.const (.int .u8 0))),v 51 52])
 (.after (.cond (t 51) (.skip) (.seq (R [0,3,51] [o 53 (.bin .eql (t 3) (.const (.int .u8 1))),v 51 53])
 (.after (.cond (t 51) (.skip) (.seq (R [0,3,51] [o 54 (.bin .eql (t 3) (.const (.int .u8 9))),v 51 54])
 (.after (.cond (t 51) (.skip) (.seq (R [0,3,51] [o 55 (.bin .eql (t 3) (.const (.int .u8 10))),v 51 55])
 (.after (.cond (t 51) (.skip) (.seq (R [0,3,51] [o 56 (.bin .eql (t 3) (.const (.int .u8 46))),v 51 56])
 (.after (.cond (t 51) (.skip) (.seq (R [0,3,51] [o 57 (.bin .eql (t 3) (.const (.int .u8 50))),v 51 57])
 (.after (.cond (t 51) (.skip) (.seq (R [0,3,51] [o 58 (.bin .eql (t 3) (.const (.int .u8 51))),v 51 58])
 (.after (.cond (t 51) (.skip) (.seq (R [0,3,51] [o 59 (.bin .eql (t 3) (.const (.int .u8 79))),v 51 59])
 (.after (.cond (t 51) (.skip) (.seq (R [0,3,51] [o 60 (.bin .eql (t 3) (.const (.int .u8 83))),v 51 60])
 (.after (.cond (t 51) (.skip) (.seq (R [0,3,51] [o 61 (.bin .eql (t 3) (.const (.int .u8 84))),v 51 61])
 (.after (.cond (t 51) (.skip) (.seq (R [0,3,51] [o 62 (.bin .eql (t 3) (.const (.int .u8 87))),v 51 62])
 (.after (.cond (t 51) (.skip) (.seq (R [0,3,51] [o 63 (.bin .eql (t 3) (.const (.int .u8 89))),v 51 63])
 (.after (.cond (t 51) (.skip) (R [0,3,51] [o 64 (.bin .eql (t 3) (.const (.int .u8 95))),v 51 64])) [0,3,51]))) [0,3,51]))) [0,3,51]))) [0,3,51]))) [0,3,51]))) [0,3,51]))) [0,3,51]))) [0,3,51]))) [0,3,51]))) [0,3,51]))) [0,3,51]))) [0,3,51]))
 (.after (.cond (t 51) (.seq (R [2] [o 2 (.val (n 1))])
 (.live [2] (.ret))) (.seq (.seq (R [0,3,65] [o 66 (.bin .eql (t 3) (.const (.int .u8 96))),v 65 66])
 (.after (.cond (t 65) (.skip) (.seq (R [0,3,65] [o 67 (.bin .eql (t 3) (.const (.int .u8 97))),v 65 67])
 (.after (.cond (t 65) (.skip) (.seq (R [0,3,65] [o 68 (.bin .eql (t 3) (.const (.int .u8 100))),v 65 68])
 (.after (.cond (t 65) (.skip) (.seq (R [0,3,65] [o 69 (.bin .eql (t 3) (.const (.int .u8 101))),v 65 69])
 (.after (.cond (t 65) (.skip) (.seq (R [0,3,65] [o 70 (.bin .eql (t 3) (.const (.int .u8 104))),v 65 70])
 (.after (.cond (t 65) (.skip) (.seq (R [0,3,65] [o 71 (.bin .eql (t 3) (.const (.int .u8 105))),v 65 71])
 (.after (.cond (t 65) (.skip) (.seq (R [0,3,65] [o 72 (.bin .eql (t 3) (.const (.int .u8 108))),v 65 72])
 (.after (.cond (t 65) (.skip) (.seq (R [0,3,65] [o 73 (.bin .eql (t 3) (.const (.int .u8 109))),v 65 73])
 (.after (.cond (t 65) (.skip) (.seq (R [0,3,65] [o 74 (.bin .eql (t 3) (.const (.int .u8 112))),v 65 74])
 (.after (.cond (t 65) (.skip) (.seq (R [0,3,65] [o 75 (.bin .eql (t 3) (.const (.int .u8 113))),v 65 75])
 (.after (.cond (t 65) (.skip) (.seq (R [0,3,65] [o 76 (.bin .eql (t 3) (.const (.int .u8 116))),v 65 76])
 (.after (.cond (t 65) (.skip) (.seq (R [0,3,65] [o 77 (.bin .eql (t 3) (.const (.int .u8 117))),v 65 77])
 (.after (.cond (t 65) (.skip) (.seq (R [0,3,65] [o 78 (.bin .eql (t 3) (.const (.int .u8 120))),v 65 78])
 (.after (.cond (t 65) (.skip) (.seq (R [0,3,65] [o 79 (.bin .eql (t 3) (.const (.int .u8 121))),v 65 79])
 (.after (.cond (t 65) (.skip) (.seq (R [0,3,65] [o 80 (.bin .eql (t 3) (.const (.int .u8 122))),v 65 80])
 (.after (.cond (t 65) (.skip) (.seq (R [0,3,65] [o 81 (.bin .eql (t 3) (.const (.int .u8 123))),v 65 81])
 (.after (.cond (t 65) (.skip) (.seq (R [0,3,65] [o 82 (.bin .eql (t 3) (.const (.int .u8 124))),v 65 82])
 (.after (.cond (t 65) (.skip) (.seq (R [0,3,65] [o 83 (.bin .eql (t 3) (.const (.int .u8 125))),v 65 83])
 (.after (.cond (t 65) (.skip) (.seq (R [0,3,65] [o 84 (.bin .eql (t 3) (.const (.int .u8 126))),v 65 84])
 (.after (.cond (t 65) (.skip) (.seq (R [0,3,65] [o 85 (.bin .eql (t 3) (.const (.int .u8 127))),v 65 85])
 (.after (.cond (t 65) (.skip) (.seq (R [0,3,65] [o 86 (.bin .eql (t 3) (.const (.int .u8 128))),v 65 86])
 (.after (.cond (t 65) (.skip) (.seq (R [0,3,65] [o 87 (.bin .eql (t 3) (.const (.int .u8 129))),v 65 87])
 (.after (.cond (t 65) (.skip) (.seq (R [0,3,65] [o 88 (.bin .eql (t 3) (.const (.int .u8 130))),v 65 88])
 (.after (.cond (t 65) (.skip) (R [0,3,65] [o 89 (.bin .eql (t 3) (.const (.int .u8 131))),v 65 89])) [0,3,65]))) [0,3,65]))) [0,3,65]))) [0,3,65]))) [0,3,65]))) [0,3,65]))) [0,3,65]))) [0,3,65]))) [0,3,65]))) [0,3,65]))) [0,3,65]))) [0,3,65]))) [0,3,65]))) [0,3,65]))) [0,3,65]))) [0,3,65]))) [0,3,65]))) [0,3,65]))) [0,3,65]))) [0,3,65]))) [0,3,65]))) [0,3,65]))) [0,3,65]))
 (.after (.cond (t 65) (.seq (R [2] [o 2 (.val (n 1))])
 (.live [2] (.ret))) (.seq (.seq (R [0,3,90] [o 91 (.bin .eql (t 3) (.const (.int .u8 133))),v 90 91])
 (.after (.cond (t 90) (.skip) (.seq (R [0,3,90] [o 92 (.bin .eql (t 3) (.const (.int .u8 136))),v 90 92])
 (.after (.cond (t 90) (.skip) (.seq (R [0,3,90] [o 93 (.bin .eql (t 3) (.const (.int .u8 145))),v 90 93])
 (.after (.cond (t 90) (.skip) (.seq (R [0,3,90] [o 94 (.bin .eql (t 3) (.const (.int .u8 148))),v 90 94])
 (.after (.cond (t 90) (.skip) (.seq (R [0,3,90] [o 95 (.bin .eql (t 3) (.const (.int .u8 172))),v 90 95])
 (.after (.cond (t 90) (.skip) (.seq (R [0,3,90] [o 96 (.bin .eql (t 3) (.const (.int .u8 173))),v 90 96])
 (.after (.cond (t 90) (.skip) (.seq (R [0,3,90] [o 97 (.bin .eql (t 3) (.const (.int .u8 176))),v 90 97])
 (.after (.cond (t 90) (.skip) (.seq (R [0,3,90] [o 98 (.bin .eql (t 3) (.const (.int .u8 177))),v 90 98])
 (.after (.cond (t 90) (.skip) (.seq (R [0,3,90] [o 99 (.bin .eql (t 3) (.const (.int .u8 190))),v 90 99])
 (.after (.cond (t 90) (.skip) (R [0,90] [o 100 (.bin .eql (t 3) (.const (.int .u8 191))),v 90 100])) [0,90]))) [0,90]))) [0,90]))) [0,90]))) [0,90]))) [0,90]))) [0,90]))) [0,90]))) [0,90]))
 (.after (.cond (t 90) (.seq (R [2] [o 2 (.val (n 1))])
 (.live [2] (.ret))) (.skip)) [0]))) [0]))) [0]))) [0]))) [0]))) [0]))) [0]))) [0]))) [0]))) [0]))) [0]))) [0]))
 (.seq (.seq (R [106] [v 101 0,o 102 (.bin .geq (t 101) (.const (.int .u8 2))),v 103 102,g 104 103 true (.val (t 0)),g 105 103 true (.bin .leq (t 104) (.const (.int .u8 8))),o 106 (.pick (t 103) (t 105) F)])
 (.after (.cond (t 106) (.seq (R [2] [o 2 (.val (n 1))])
 (.live [2] (.ret))) (.skip)) []))
 (.seq (R [2] [o 2 (.val (n 0))])
 (.live [2] (.ret))))),none⟩
def code135:AFunc:=⟨false,false,2,14,[.tmp 4],
 .seq (R [1,2] [o 2 (.lbox (t 0)),o 4 (.val F)])
 (.seq (R [4] [v 5 1,o 6 (.bin .geq (t 5) (n 0)),v 7 6,g 8 7 true (.val (t 1)),g 9 7 true (.faddr (t 2) 5),g 10 7 true (.load none (t 9)),g 11 7 true (.len .sl (t 10)),g 12 7 true (.bin .lss (t 8) (t 11)),o 13 (.pick (t 7) (t 12) F),v 4 13])
 (.live [4] (.ret))),none⟩
def code136:AFunc:=⟨false,false,3,16,[],
 .seq (R [0,1,2,8] [o 4 (.load none (t 1)),v 5 0,o 6 (.iaddr 1 (t 4) (t 5)),o 7 (.load none (t 6)),o 8 (.un .not (t 7))])
 (.after (.cond (t 8) (.seq (R [0,2] [o 9 (.load none (t 1)),v 10 0,o 11 (.iaddr 1 (t 9) (t 10)),u (.store 1 (t 11) Y)])
 (R [] [o 12 (.load none (t 2)),v 13 0,o 14 (.mkslice 1 1 [.int .i64 0] [(0,1,t 13)]),o 15 (.append 1 8 (t 12) (t 14)),u (.store 1 (t 2) (t 15))])) (.skip)) []),none⟩
def code164:AFunc:=⟨false,false,3,15,[.tmp 6],
 .seq (R [0,1,2] [o 6 (.val F)])
 (.seq (R [6] [v 7 0,v 8 1,o 9 (.bin .geq (t 7) (t 8)),v 10 9,g 11 10 true (.val (t 0)),g 12 10 true (.val (t 2)),g 13 10 true (.bin .leq (t 11) (t 12)),o 14 (.pick (t 10) (t 13) F),v 6 14])
 (.live [6] (.ret))),none⟩
def code165L0:ACode :=
 .live [0,1,3,4,5,6,7] (.seq (.seq (R [0,1,3,4,5,6,7,18] [v 14 4,o 15 (.faddr (t 3) 1),o 16 (.load none (t 15)),o 17 (.conv (.int .i64) (t 16)),o 18 (.bin .leq (t 14) (t 17))])
 (.after (.cond (t 18) (.skip) (.live [0,1,5,6,7] (.exit 2))) [0,1,3,4,5,6,7]))
 (.seq (.after (.block 3 (R [0,1,3,4,5,6,7] [v 21 4,o 22 (.faddr (t 3) 2),o 23 (.load none (t 22)),o 24 (.conv (.int .u8) (t 23)),o 25 (.aaddr 256 1 (t 1) (t 21)),u (.store 1 (t 25) (t 24))])) [0,1,3,4,5,6,7])
 (R [0,1,3,4,5,6,7] [v 19 4,o 20 (.bin .add (t 19) (n 1)),v 4 20])))
def code165L1:ACode :=
 .live [0,1,5,6,7] (.seq (R [0,1,5,6,7,8] [o 8 (.bin .lss (t 7) (t 6))])
 (.seq (.after (.cond (t 8) (.skip) (.live [0,1] (.exit 0))) [0,1,5,6,7])
 (.seq (.after (.block 1 (.seq (R [0,1,3,5,6,7] [o 9 (.iaddr 3 (t 5) (t 7)),o 10 (.load (some 3) (t 9)),o 3 (.lalloc [.int .u8 0,.int .u8 0,.int .i64 0]),u (.store 3 (t 3) (t 10))])
 (.seq (R [0,1,3,4,5,6,7] [o 11 (.faddr (t 3) 0),o 12 (.load none (t 11)),o 13 (.conv (.int .i64) (t 12)),v 4 13])
 (.after (.block 2 (.loop code165L0)) [0,1,5,6,7])))) [0,1,5,6,7])
 (R [0,1,5,6,7] [o 26 (.bin .add (t 7) (n 1)),v 7 26]))))
def code165:AFunc:=⟨true,false,0,28,[.cell 0 (some 256)],
 .seq (R [0] [o 0 (.lalloc [.int .u8 0,.int .u8 0,.int .u8 0,.int .u8 0,.int .u8 0,.int .u8 0,.int .u8 0,.int .u8 0,.int .u8 0,.int .u8 0,.int .u8 0,.int .u8 0,.int .u8 0,.int .u8 0,.int .u8 0,.int .u8 0,.int .u8 0,.int .u8 0,.int .u8 0,.int .u8 0,.int .u8 0,.int .u8 0,.int .u8 0,.int .u8 0,.int .u8 0,.int .u8 0,.int .u8 0,.int .u8 0,.int .u8 0,.int .u8 0,.int .u8 0,.int .u8 0,.int .u8 0,.int .u8 0,.int .u8 0,.int .u8 0,.int .u8 0,.int .u8 0,.int .u8 0,.int .u8 0,.int .u8 0,.int .u8 0,.int .u8 0,.int .u8 0,.int .u8 0,.int .u8 0,.int .u8 0,.int .u8 0,.int .u8 0,.int .u8 0,.int .u8 0,.int .u8 0,.int .u8 0,.int .u8 0,.int .u8 0,.int .u8 0,.int .u8 0,.int .u8 0,.int .u8 0,.int .u8 0,.int .u8 0,.int .u8 0,.int .u8 0,.int .u8 0,.int .u8 0,.int .u8 0,.int .u8 0,.int .u8 0,.int .u8 0,.int .u8 0,.int .u8 0,.int .u8 0,.int .u8 0,.int .u8 0,.int .u8 0,.int .u8 0,.int .u8 0,.int .u8 0,.int .u8 0,.int .u8 0,.int .u8 0,.int .u8 0,.int .u8 0,.int .u8 0,.int .u8 0,.int .u8 0,.int .u8 0,.int .u8 0,.int .u8 0,.int .u8 0,.int .u8 0,.int .u8 0,.int .u8 0,.int .u8 0,.int .u8 0,.int .u8 0,.int .u8 0,.int .u8 0,.int .u8 0,.int .u8 0,.int .u8 0,.int .u8 0,.int .u8 0,.int .u8 0,.int .u8 0,.int .u8 0,.int .u8 0,.int .u8 0,.int .u8 0,.int .u8 0,.int .u8 0,.int .u8 0,.int .u8 0,.int .u8 0,.int .u8 0,.int .u8 0,.int .u8 0,.int .u8 0,.int .u8 0,.int .u8 0,.int .u8 0,.int .u8 0,.int .u8 0,.int .u8 0,.int .u8 0,.int .u8 0,.int .u8 0,.int .u8 0,.int .u8 0,.int .u8 0,.int .u8 0,.int .u8 0,.int .u8 0,.int .u8 0,.int .u8 0,.int .u8 0,.int .u8 0,.int .u8 0,.int .u8 0,.int .u8 0,.int .u8 0,.int .u8 0,.int .u8 0,.int .u8 0,.int .u8 0,.int .u8 0,.int .u8 0,.int .u8 0,.int .u8 0,.int .u8 0,.int .u8 0,.int .u8 0,.int .u8 0,.int .u8 0,.int .u8 0,.int .u8 0,.int .u8 0,.int .u8 0,.int .u8 0,.int .u8 0,.int .u8 0,.int .u8 0,.int .u8 0,.int .u8 0,.int .u8 0,.int .u8 0,.int .u8 0,.int .u8 0,.int .u8 0,.int .u8 0,.int .u8 0,.int .u8 0,.int .u8 0,.int .u8 0,.int .u8 0,.int .u8 0,.int .u8 0,.int .u8 0,.int .u8 0,.int .u8 0,.int .u8 0,.int .u8 0,.int .u8 0,.int .u8 0,.int .u8 0,.int .u8 0,.int .u8 0,.int .u8 0,.int .u8 0,.int .u8 0,.int .u8 0,.int .u8 0,.int .u8 0,.int .u8 0,.int .u8 0,.int .u8 0,.int .u8 0,.int .u8 0,.int .u8 0,.int .u8 0,.int .u8 0,.int .u8 0,.int .u8 0,.int .u8 0,.int .u8 0,.int .u8 0,.int .u8 0,.int .u8 0,.int .u8 0,.int .u8 0,.int .u8 0,.int .u8 0,.int .u8 0,.int .u8 0,.int .u8 0,.int .u8 0,.int .u8 0,.int .u8 0,.int .u8 0,.int .u8 0,.int .u8 0,.int .u8 0,.int .u8 0,.int .u8 0,.int .u8 0,.int .u8 0,.int .u8 0,.int .u8 0,.int .u8 0,.int .u8 0,.int .u8 0,.int .u8 0,.int .u8 0,.int .u8 0,.int .u8 0,.int .u8 0,.int .u8 0,.int .u8 0,.int .u8 0,.int .u8 0,.int .u8 0,.int .u8 0,.int .u8 0,.int .u8 0,.int .u8 0,.int .u8 0,.int .u8 0,.int .u8 0,.int .u8 0,.int .u8 0,.int .u8 0,.int .u8 0,.int .u8 0,.int .u8 0,.int .u8 0,.int .u8 0])])
 (.seq (R [0,1] [o 1 (.lalloc [.int .u8 0,.int .u8 0,.int .u8 0,.int .u8 0,.int .u8 0,.int .u8 0,.int .u8 0,.int .u8 0,.int .u8 0,.int .u8 0,.int .u8 0,.int .u8 0,.int .u8 0,.int .u8 0,.int .u8 0,.int .u8 0,.int .u8 0,.int .u8 0,.int .u8 0,.int .u8 0,.int .u8 0,.int .u8 0,.int .u8 0,.int .u8 0,.int .u8 0,.int .u8 0,.int .u8 0,.int .u8 0,.int .u8 0,.int .u8 0,.int .u8 0,.int .u8 0,.int .u8 0,.int .u8 0,.int .u8 0,.int .u8 0,.int .u8 0,.int .u8 0,.int .u8 0,.int .u8 0,.int .u8 0,.int .u8 0,.int .u8 0,.int .u8 0,.int .u8 0,.int .u8 0,.int .u8 0,.int .u8 0,.int .u8 0,.int .u8 0,.int .u8 0,.int .u8 0,.int .u8 0,.int .u8 0,.int .u8 0,.int .u8 0,.int .u8 0,.int .u8 0,.int .u8 0,.int .u8 0,.int .u8 0,.int .u8 0,.int .u8 0,.int .u8 0,.int .u8 0,.int .u8 0,.int .u8 0,.int .u8 0,.int .u8 0,.int .u8 0,.int .u8 0,.int .u8 0,.int .u8 0,.int .u8 0,.int .u8 0,.int .u8 0,.int .u8 0,.int .u8 0,.int .u8 0,.int .u8 0,.int .u8 0,.int .u8 0,.int .u8 0,.int .u8 0,.int .u8 0,.int .u8 0,.int .u8 0,.int .u8 0,.int .u8 0,.int .u8 0,.int .u8 0,.int .u8 0,.int .u8 0,.int .u8 0,.int .u8 0,.int .u8 0,.int .u8 0,.int .u8 0,.int .u8 0,.int .u8 0,.int .u8 0,.int .u8 0,.int .u8 0,.int .u8 0,.int .u8 0,.int .u8 0,.int .u8 0,.int .u8 0,.int .u8 0,.int .u8 0,.int .u8 0,.int .u8 0,.int .u8 0,.int .u8 0,.int .u8 0,.int .u8 0,.int .u8 0,.int .u8 0,.int .u8 0,.int .u8 0,.int .u8 0,.int .u8 0,.int .u8 0,.int .u8 0,.int .u8 0,.int .u8 0,.int .u8 0,.int .u8 0,.int .u8 0,.int .u8 0,.int .u8 0,.int .u8 0,.int .u8 0,.int .u8 0,.int .u8 0,.int .u8 0,.int .u8 0,.int .u8 0,.int .u8 0,.int .u8 0,.int .u8 0,.int .u8 0,.int .u8 0,.int .u8 0,.int .u8 0,.int .u8 0,.int .u8 0,.int .u8 0,.int .u8 0,.int .u8 0,.int .u8 0,.int .u8 0,.int .u8 0,.int .u8 0,.int .u8 0,.int .u8 0,.int .u8 0,.int .u8 0,.int .u8 0,.int .u8 0,.int .u8 0,.int .u8 0,.int .u8 0,.int .u8 0,.int .u8 0,.int .u8 0,.int .u8 0,.int .u8 0,.int .u8 0,.int .u8 0,.int .u8 0,.int .u8 0,.int .u8 0,.int .u8 0,.int .u8 0,.int .u8 0,.int .u8 0,.int .u8 0,.int .u8 0,.int .u8 0,.int .u8 0,.int .u8 0,.int .u8 0,.int .u8 0,.int .u8 0,.int .u8 0,.int .u8 0,.int .u8 0,.int .u8 0,.int .u8 0,.int .u8 0,.int .u8 0,.int .u8 0,.int .u8 0,.int .u8 0,.int .u8 0,.int .u8 0,.int .u8 0,.int .u8 0,.int .u8 0,.int .u8 0,.int .u8 0,.int .u8 0,.int .u8 0,.int .u8 0,.int .u8 0,.int .u8 0,.int .u8 0,.int .u8 0,.int .u8 0,.int .u8 0,.int .u8 0,.int .u8 0,.int .u8 0,.int .u8 0,.int .u8 0,.int .u8 0,.int .u8 0,.int .u8 0,.int .u8 0,.int .u8 0,.int .u8 0,.int .u8 0,.int .u8 0,.int .u8 0,.int .u8 0,.int .u8 0,.int .u8 0,.int .u8 0,.int .u8 0,.int .u8 0,.int .u8 0,.int .u8 0,.int .u8 0,.int .u8 0,.int .u8 0,.int .u8 0,.int .u8 0,.int .u8 0,.int .u8 0,.int .u8 0,.int .u8 0,.int .u8 0,.int .u8 0,.int .u8 0,.int .u8 0,.int .u8 0,.int .u8 0,.int .u8 0,.int .u8 0,.int .u8 0,.int .u8 0,.int .u8 0,.int .u8 0,.int .u8 0,.int .u8 0])])
 (.seq (.seq (R [0,1,5,6,7] [o 5 (.callg 190 []),o 6 (.len .sl (t 5)),o 7 (.val (n 0))])
 (.after (.block 0 (.loop code165L1)) [0,1]))
 (.seq (R [0] [o 27 (.load (some 256) (t 1)),u (.store 256 (t 0) (t 27))])
 (.live [0] (.ret))))),none⟩
def code166:AFunc:=⟨false,false,1,8,[.tmp 2],
 .seq (R [0] [o 2 (.val (n 0))])
 (.seq (.after (.cond F (.seq (R [2] [v 3 0,o 4 (.conv (.int .u32) (t 3)),o 5 (.nextStr F),v 2 5])
 (.live [2] (.ret))) (.skip)) [0])
 (.seq (R [2] [v 6 0,o 7 (.callg 200 [t 6]),v 2 7])
 (.live [2] (.ret)))),none⟩
def code167L0:ACode :=
 .live [0,1,2,3,8,9] (.after (.block 1 (.seq (R [0,1,2,3,8,9,10] [v 19 2,v 20 1,o 21 (.bin .sub (t 19) (t 20)),v 10 21])
 (.seq (.seq (R [0,1,2,3,8,9,10,23] [v 22 10,o 23 (.bin .leq (t 22) (n 12))])
 (.after (.cond (t 23) (.seq (R [] [v 24 0,v 25 1,v 26 2,o 27 (.callg 199 [t 24,t 25,t 26])])
 (.live [] (.ret))) (.skip)) [0,1,2,3,8,9,10]))
 (.seq (.seq (R [0,1,2,3,8,9,10,29] [v 28 3,o 29 (.bin .eql (t 28) (n 0))])
 (.after (.cond (t 29) (.seq (R [] [v 30 0,v 31 1,v 32 2,o 33 (.nextStr F)])
 (.live [] (.ret))) (.skip)) [0,1,2,3,8,9,10]))
 (.seq (.seq (R [0,1,2,3,8,9,10,35] [v 34 8,o 35 (.un .not (t 34))])
 (.after (.cond (t 35) (.seq (R [0,1,2,3,8,9,10] [v 36 0,v 37 1,v 38 2,o 39 (.nextStr F)])
 (R [0,1,2,3,8,9,10] [v 40 3,o 41 (.bin .sub (t 40) (n 1)),v 3 41])) (.skip)) [0,1,2,3,8,9,10]))
 (.seq (R [0,1,2,3,8,9,10,11,12] [v 43 0,v 44 1,v 45 2,o 46 (.nextStr F),v 42 46,o 47 (.extract (t 42) 0),o 48 (.extract (t 42) 1),v 11 47,v 12 48])
 (.seq (.seq (R [0,1,2,3,8,9,10,11,12,50] [v 49 12,o 50 (.bin .eql (t 49) (n 2))])
 (.after (.cond (t 50) (.seq (R [0,1,2,3,8,9,10,11] [v 51 0,v 52 1,v 53 2,o 54 (.nextStr F)])
 (.seq (R [0,1,2,3,8,9,10,11] [v 55 2,o 56 (.bin .sub (t 55) (n 1)),v 57 11,v 58 1,o 59 (.bin .sub (t 57) (t 58)),o 60 (.bin .sub (t 56) (t 59)),v 11 60])
 (R [0,1,2,3,8,9,10,11,12] [o 12 (.val (n 1))]))) (.skip)) [0,1,2,3,8,9,10,11,12]))
 (.seq (.seq (R [0,1,2,3,8,9,10,11,68] [v 61 8,v 62 61,g 63 62 true (.val (t 9)),o 64 (.pick (t 62) (t 63) F),v 65 64,g 66 65 true (.val (t 12)),g 67 65 true (.bin .eql (t 66) (n 1)),o 68 (.pick (t 65) (t 67) F)])
 (.after (.cond (t 68) (.seq (R [0,1,2,3,8,9,10,11,72] [v 69 0,v 70 1,v 71 2,o 72 (.nextStr F)])
 (.after (.cond (t 72) (.live [] (.ret)) (.skip)) [0,1,2,3,8,9,10,11])) (.skip)) [0,1,2,3,8,9,10,11]))
 (.seq (.seq (.after (.region [⟨false,[],[v 73 1,o 74 (.bin .gtr (t 73) (n 0)),v 75 74]⟩,⟨true,[],[g 76 75 true (.val (t 0)),g 77 75 true (.val (t 1)),g 78 75 true (.bin .sub (t 77) (n 1)),g 79 75 true (.iaddr 1 (t 76) (t 78)),g 80 75 true (.load none (t 79)),g 81 75 true (.val (t 0)),g 82 75 true (.val (t 11)),g 83 75 true (.iaddr 1 (t 81) (t 82)),g 84 75 true (.load none (t 83))]⟩,⟨false,[],[g 85 75 true (.callg 193 [t 80,t 84]),g 86 75 true (.un .not (t 85)),o 87 (.pick (t 75) (t 86) F)]⟩]) [0,1,2,3,8,9,10,11,87])
 (.after (.cond (t 87) (.seq (R [0,2,3,8,9,13] [v 88 0,v 89 1,v 90 2,v 91 11,o 92 (.nextStr F),v 13 92])
 (.seq (R [0,1,2,3,8,9] [v 93 13,v 1 93])
 (.live [0,1,2,3,8,9] (.exit 1)))) (.skip)) [0,1,2,3,10,11]))
 (.seq (R [0,1,2,3,10,14,15] [v 95 0,v 96 1,v 97 2,v 98 11,o 99 (.nextStr F),v 94 99,o 100 (.extract (t 94) 0),o 101 (.extract (t 94) 1),v 14 100,v 15 101])
 (.seq (R [0,1,2,3,9,10,14] [v 102 15,v 9 102])
 (.seq (R [0,1,2,3,9,10,14,16,17] [v 103 14,v 104 1,o 105 (.bin .sub (t 103) (t 104)),v 106 2,v 107 14,o 108 (.bin .sub (t 106) (t 107)),v 16 105,v 17 108])
 (.seq (R [0,1,2,3,9,14,16,17,18] [v 109 10,o 110 (.bin .quo (t 109) (n 8)),v 18 110])
 (.seq (R [0,1,2,3,9,14,16,17,18,113] [v 111 16,v 112 17,o 113 (.bin .lss (t 111) (t 112))])
 (.after (.cond (t 113) (.seq (R [0,1,2,3,8,9,14] [v 114 16,v 115 18,o 116 (.bin .geq (t 114) (t 115)),v 8 116])
 (.seq (R [0,2,3,8,9,14] [v 117 0,v 118 1,v 119 14,v 120 3,o 121 (.callg 167 [t 117,t 118,t 119,t 120])])
 (R [0,1,2,3,8,9] [v 122 14,o 123 (.bin .add (t 122) (n 1)),v 1 123]))) (.seq (R [0,1,2,3,8,9,14] [v 124 17,v 125 18,o 126 (.bin .geq (t 124) (t 125)),v 8 126])
 (.seq (R [0,1,3,8,9,14] [v 127 0,v 128 14,o 129 (.bin .add (t 128) (n 1)),v 130 2,v 131 3,o 132 (.callg 167 [t 127,t 129,t 130,t 131])])
 (R [0,1,2,3,8,9] [v 133 14,v 2 133])))) [0,1,2,3,8,9]))))))))))))))) [0,1,2,3,8,9])
def code167:AFunc:=⟨false,false,4,134,[],
 .seq (R [0,1,2,3,8] [o 8 (.val Y)])
 (.seq (R [0,1,2,3,8,9] [o 9 (.val Y)])
 (.after (.block 0 (.loop code167L0)) [])),none⟩
def code190:AFunc:=⟨false,false,0,40,[.tmp 0],
 .seq (R [] [o 0 (.val (.const (.slice none 0 (some 0))))])
 (.seq (R [0] [o 1 (.build [.int .u8 0,.int .u8 0,.int .i64 0] [(0,1,.const (.int .u8 0)),(1,1,.const (.int .u8 10)),(2,1,n 1)]),o 2 (.build [.int .u8 0,.int .u8 0,.int .i64 0] [(0,1,.const (.int .u8 16)),(1,1,.const (.int .u8 16)),(2,1,n 3)]),o 3 (.build [.int .u8 0,.int .u8 0,.int .i64 0] [(0,1,.const (.int .u8 17)),(1,1,.const (.int .u8 17)),(2,1,n 4)]),o 4 (.build [.int .u8 0,.int .u8 0,.int .i64 0] [(0,1,.const (.int .u8 18)),(1,1,.const (.int .u8 18)),(2,1,n 5)]),o 5 (.build [.int .u8 0,.int .u8 0,.int .i64 0] [(0,1,.const (.int .u8 20)),(1,1,.const (.int .u8 20)),(2,1,n 6)]),o 6 (.build [.int .u8 0,.int .u8 0,.int .i64 0] [(0,1,.const (.int .u8 21)),(1,1,.const (.int .u8 22)),(2,1,n 2)]),o 7 (.build [.int .u8 0,.int .u8 0,.int .i64 0] [(0,1,.const (.int .u8 25)),(1,1,.const (.int .u8 25)),(2,1,n 2)]),o 8 (.build [.int .u8 0,.int .u8 0,.int .i64 0] [(0,1,.const (.int .u8 46)),(1,1,.const (.int .u8 46)),(2,1,n 1)]),o 9 (.build [.int .u8 0,.int .u8 0,.int .i64 0] [(0,1,.const (.int .u8 50)),(1,1,.const (.int .u8 51)),(2,1,n 1)]),o 10 (.build [.int .u8 0,.int .u8 0,.int .i64 0] [(0,1,.const (.int .u8 54)),(1,1,.const (.int .u8 55)),(2,1,n 2)]),o 11 (.build [.int .u8 0,.int .u8 0,.int .i64 0] [(0,1,.const (.int .u8 58)),(1,1,.const (.int .u8 58)),(2,1,n 2)]),o 12 (.build [.int .u8 0,.int .u8 0,.int .i64 0] [(0,1,.const (.int .u8 79)),(1,1,.const (.int .u8 79)),(2,1,n 1)]),o 13 (.build [.int .u8 0,.int .u8 0,.int .i64 0] [(0,1,.const (.int .u8 83)),(1,1,.const (.int .u8 84)),(2,1,n 1)]),o 14 (.build [.int .u8 0,.int .u8 0,.int .i64 0] [(0,1,.const (.int .u8 87)),(1,1,.const (.int .u8 87)),(2,1,n 1)]),o 15 (.build [.int .u8 0,.int .u8 0,.int .i64 0] [(0,1,.const (.int .u8 89)),(1,1,.const (.int .u8 89)),(2,1,n 1)]),o 16 (.build [.int .u8 0,.int .u8 0,.int .i64 0] [(0,1,.const (.int .u8 95)),(1,1,.const (.int .u8 97)),(2,1,n 1)]),o 17 (.build [.int .u8 0,.int .u8 0,.int .i64 0] [(0,1,.const (.int .u8 100)),(1,1,.const (.int .u8 101)),(2,1,n 1)]),o 18 (.build [.int .u8 0,.int .u8 0,.int .i64 0] [(0,1,.const (.int .u8 104)),(1,1,.const (.int .u8 105)),(2,1,n 1)]),o 19 (.build [.int .u8 0,.int .u8 0,.int .i64 0] [(0,1,.const (.int .u8 108)),(1,1,.const (.int .u8 109)),(2,1,n 1)]),o 20 (.build [.int .u8 0,.int .u8 0,.int .i64 0] [(0,1,.const (.int .u8 112)),(1,1,.const (.int .u8 113)),(2,1,n 1)]),o 21 (.build [.int .u8 0,.int .u8 0,.int .i64 0] [(0,1,.const (.int .u8 116)),(1,1,.const (.int .u8 117)),(2,1,n 1)]),o 22 (.build [.int .u8 0,.int .u8 0,.int .i64 0] [(0,1,.const (.int .u8 120)),(1,1,.const (.int .u8 131)),(2,1,n 1)]),o 23 (.build [.int .u8 0,.int .u8 0,.int .i64 0] [(0,1,.const (.int .u8 132)),(1,1,.const (.int .u8 132)),(2,1,n 8)]),o 24 (.build [.int .u8 0,.int .u8 0,.int .i64 0] [(0,1,.const (.int .u8 133)),(1,1,.const (.int .u8 133)),(2,1,n 1)]),o 25 (.build [.int .u8 0,.int .u8 0,.int .i64 0] [(0,1,.const (.int .u8 136)),(1,1,.const (.int .u8 136)),(2,1,n 1)]),o 26 (.build [.int .u8 0,.int .u8 0,.int .i64 0] [(0,1,.const (.int .u8 145)),(1,1,.const (.int .u8 145)),(2,1,n 1)]),o 27 (.build [.int .u8 0,.int .u8 0,.int .i64 0] [(0,1,.const (.int .u8 148)),(1,1,.const (.int .u8 148)),(2,1,n 1)]),o 28 (.build [.int .u8 0,.int .u8 0,.int .i64 0] [(0,1,.const (.int .u8 153)),(1,1,.const (.int .u8 167)),(2,1,n 7)]),o 29 (.build [.int .u8 0,.int .u8 0,.int .i64 0] [(0,1,.const (.int .u8 172)),(1,1,.const (.int .u8 173)),(2,1,n 1)]),o 30 (.build [.int .u8 0,.int .u8 0,.int .i64 0] [(0,1,.const (.int .u8 176)),(1,1,.const (.int .u8 177)),(2,1,n 1)]),o 31 (.build [.int .u8 0,.int .u8 0,.int .i64 0] [(0,1,.const (.int .u8 178)),(1,1,.const (.int .u8 182)),(2,1,n 6)]),o 32 (.build [.int .u8 0,.int .u8 0,.int .i64 0] [(0,1,.const (.int .u8 184)),(1,1,.const (.int .u8 184)),(2,1,n 6)]),o 33 (.build [.int .u8 0,.int .u8 0,.int .i64 0] [(0,1,.const (.int .u8 187)),(1,1,.const (.int .u8 187)),(2,1,n 6)]),o 34 (.build [.int .u8 0,.int .u8 0,.int .i64 0] [(0,1,.const (.int .u8 188)),(1,1,.const (.int .u8 188)),(2,1,n 9)]),o 35 (.build [.int .u8 0,.int .u8 0,.int .i64 0] [(0,1,.const (.int .u8 189)),(1,1,.const (.int .u8 189)),(2,1,n 6)]),o 36 (.build [.int .u8 0,.int .u8 0,.int .i64 0] [(0,1,.const (.int .u8 190)),(1,1,.const (.int .u8 191)),(2,1,n 1)]),o 37 (.build [.int .u8 0,.int .u8 0,.int .i64 0] [(0,1,.const (.int .u8 192)),(1,1,.const (.int .u8 193)),(2,1,n 6)]),o 38 (.build [.int .u8 0,.int .u8 0,.int .i64 0] [(0,1,.const (.int .u8 198)),(1,1,.const (.int .u8 199)),(2,1,n 7)]),o 39 (.mkslice 3 38 [.int .u8 0,.int .u8 0,.int .i64 0,.int .u8 0,.int .u8 0,.int .i64 0,.int .u8 0,.int .u8 0,.int .i64 0,.int .u8 0,.int .u8 0,.int .i64 0,.int .u8 0,.int .u8 0,.int .i64 0,.int .u8 0,.int .u8 0,.int .i64 0,.int .u8 0,.int .u8 0,.int .i64 0,.int .u8 0,.int .u8 0,.int .i64 0,.int .u8 0,.int .u8 0,.int .i64 0,.int .u8 0,.int .u8 0,.int .i64 0,.int .u8 0,.int .u8 0,.int .i64 0,.int .u8 0,.int .u8 0,.int .i64 0,.int .u8 0,.int .u8 0,.int .i64 0,.int .u8 0,.int .u8 0,.int .i64 0,.int .u8 0,.int .u8 0,.int .i64 0,.int .u8 0,.int .u8 0,.int .i64 0,.int .u8 0,.int .u8 0,.int .i64 0,.int .u8 0,.int .u8 0,.int .i64 0,.int .u8 0,.int .u8 0,.int .i64 0,.int .u8 0,.int .u8 0,.int .i64 0,.int .u8 0,.int .u8 0,.int .i64 0,.int .u8 0,.int .u8 0,.int .i64 0,.int .u8 0,.int .u8 0,.int .i64 0,.int .u8 0,.int .u8 0,.int .i64 0,.int .u8 0,.int .u8 0,.int .i64 0,.int .u8 0,.int .u8 0,.int .i64 0,.int .u8 0,.int .u8 0,.int .i64 0,.int .u8 0,.int .u8 0,.int .i64 0,.int .u8 0,.int .u8 0,.int .i64 0,.int .u8 0,.int .u8 0,.int .i64 0,.int .u8 0,.int .u8 0,.int .i64 0,.int .u8 0,.int .u8 0,.int .i64 0,.int .u8 0,.int .u8 0,.int .i64 0,.int .u8 0,.int .u8 0,.int .i64 0,.int .u8 0,.int .u8 0,.int .i64 0,.int .u8 0,.int .u8 0,.int .i64 0,.int .u8 0,.int .u8 0,.int .i64 0,.int .u8 0,.int .u8 0,.int .i64 0] [(0,3,t 1),(3,3,t 2),(6,3,t 3),(9,3,t 4),(12,3,t 5),(15,3,t 6),(18,3,t 7),(21,3,t 8),(24,3,t 9),(27,3,t 10),(30,3,t 11),(33,3,t 12),(36,3,t 13),(39,3,t 14),(42,3,t 15),(45,3,t 16),(48,3,t 17),(51,3,t 18),(54,3,t 19),(57,3,t 20),(60,3,t 21),(63,3,t 22),(66,3,t 23),(69,3,t 24),(72,3,t 25),(75,3,t 26),(78,3,t 27),(81,3,t 28),(84,3,t 29),(87,3,t 30),(90,3,t 31),(93,3,t 32),(96,3,t 33),(99,3,t 34),(102,3,t 35),(105,3,t 36),(108,3,t 37),(111,3,t 38)]),v 0 39])
 (.live [0] (.ret))),none⟩
def code193:AFunc:=⟨false,false,2,17,[.tmp 4],
 .seq (R [0,1] [o 4 (.val F)])
 (.seq (R [4] [v 5 0,o 6 (.callg 217 [t 5]),v 7 6,g 8 7 true (.val (t 1)),g 9 7 true (.callg 217 [t 8]),g 10 7 true (.un .not (t 9)),o 11 (.pick (t 7) (t 10) F),v 12 11,g 13 12 false (.val (t 0)),g 14 12 false (.val (t 1)),g 15 12 false (.bin .lss (t 13) (t 14)),o 16 (.pick (t 12) Y (t 15)),v 4 16])
 (.live [4] (.ret))),none⟩
def code199L0:ACode :=
 .live [0,1,2,6,7] (.seq (.seq (.after (.region [⟨true,[],[v 16 7,v 17 1]⟩,⟨false,[],[o 18 (.bin .gtr (t 16) (t 17)),v 19 18]⟩,⟨true,[],[g 20 19 true (.val (t 0)),g 21 19 true (.val (t 7)),g 22 19 true (.iaddr 1 (t 20) (t 21)),g 23 19 true (.load none (t 22)),g 24 19 true (.val (t 0)),g 25 19 true (.val (t 7)),g 26 19 true (.bin .sub (t 25) (n 1)),g 27 19 true (.iaddr 1 (t 24) (t 26)),g 28 19 true (.load none (t 27))]⟩,⟨false,[],[g 29 19 true (.callg 193 [t 23,t 28]),o 30 (.pick (t 19) (t 29) F)]⟩]) [0,1,2,6,7,30])
 (.after (.cond (t 30) (.skip) (.live [0,1,2,6] (.exit 2))) [0,1,2,6,7]))
 (.seq (.after (.block 3 (.after (.region [⟨true,[0,0,0,0,8,0,0,64,224,480,0,0,3072,7168,16355,32739],[v 33 0,v 34 7,v 35 0,v 36 7,o 37 (.bin .sub (t 36) (n 1)),v 38 0,v 39 7,o 40 (.bin .sub (t 39) (n 1)),o 41 (.iaddr 1 (t 38) (t 40)),o 42 (.load none (t 41)),v 43 0,v 44 7,o 45 (.iaddr 1 (t 43) (t 44)),o 46 (.load none (t 45)),o 47 (.iaddr 1 (t 33) (t 34)),u (.ext (.hstore 1) [t 47,t 42])]⟩,⟨false,[],[o 48 (.iaddr 1 (t 35) (t 37)),u (.store 1 (t 48) (t 46))]⟩]) [0,1,2,6,7])) [0,1,2,6,7])
 (R [0,1,2,6,7] [v 31 7,o 32 (.bin .sub (t 31) (n 1)),v 7 32])))
def code199L1:ACode :=
 .live [0,1,2,6] (.seq (.seq (R [0,1,2,6,12] [v 10 6,v 11 2,o 12 (.bin .lss (t 10) (t 11))])
 (.after (.cond (t 12) (.skip) (.live [] (.exit 0))) [0,1,2,6]))
 (.seq (.after (.block 1 (.seq (R [0,1,2,6,7] [v 15 6,v 7 15])
 (.after (.block 2 (.loop code199L0)) [0,1,2,6]))) [0,1,2,6])
 (R [0,1,2,6] [v 13 6,o 14 (.bin .add (t 13) (n 1)),v 6 14])))
def code199:AFunc:=⟨false,false,3,49,[],
 .seq (R [0,1,2,6] [v 8 1,o 9 (.bin .add (t 8) (n 1)),v 6 9])
 (.after (.block 0 (.loop code199L1)) []),none⟩
def code200:AFunc:=⟨false,false,1,25,[.tmp 2],
 .seq (R [0,2] [o 2 (.val (n 0))])
 (.seq (.seq (R [0,2,4] [v 3 0,o 4 (.bin .geq (t 3) (.const (.int .u64 4294967296)))])
 (.after (.cond (t 4) (.seq (R [0] [v 5 0,o 6 (.bin .shr (t 5) (.const (.int .u64 32))),v 0 6])
 (R [0,2] [o 2 (.val (n 32))])) (.skip)) [0,2]))
 (.seq (.seq (R [0,2,8] [v 7 0,o 8 (.bin .geq (t 7) (.const (.int .u64 65536)))])
 (.after (.cond (t 8) (.seq (R [0,2] [v 9 0,o 10 (.bin .shr (t 9) (.const (.int .u64 16))),v 0 10])
 (R [0,2] [v 11 2,o 12 (.bin .add (t 11) (n 16)),v 2 12])) (.skip)) [0,2]))
 (.seq (.seq (R [0,2,14] [v 13 0,o 14 (.bin .geq (t 13) (.const (.int .u64 256)))])
 (.after (.cond (t 14) (.seq (R [0,2] [v 15 0,o 16 (.bin .shr (t 15) (.const (.int .u64 8))),v 0 16])
 (R [0,2] [v 17 2,o 18 (.bin .add (t 17) (n 8)),v 2 18])) (.skip)) [0,2]))
 (.seq (R [2] [v 19 2,v 20 0,o 21 (.conv (.int .u8) (t 20)),o 22 (.index (.const (.str [0,1,2,2,3,3,3,3,4,4,4,4,4,4,4,4,5,5,5,5,5,5,5,5,5,5,5,5,5,5,5,5,6,6,6,6,6,6,6,6,6,6,6,6,6,6,6,6,6,6,6,6,6,6,6,6,6,6,6,6,6,6,6,6,7,7,7,7,7,7,7,7,7,7,7,7,7,7,7,7,7,7,7,7,7,7,7,7,7,7,7,7,7,7,7,7,7,7,7,7,7,7,7,7,7,7,7,7,7,7,7,7,7,7,7,7,7,7,7,7,7,7,7,7,7,7,7,7,8,8,8,8,8,8,8,8,8,8,8,8,8,8,8,8,8,8,8,8,8,8,8,8,8,8,8,8,8,8,8,8,8,8,8,8,8,8,8,8,8,8,8,8,8,8,8,8,8,8,8,8,8,8,8,8,8,8,8,8,8,8,8,8,8,8,8,8,8,8,8,8,8,8,8,8,8,8,8,8,8,8,8,8,8,8,8,8,8,8,8,8,8,8,8,8,8,8,8,8,8,8,8,8,8,8,8,8,8,8,8,8,8,8,8,8,8,8,8,8,8,8,8,8,8,8,8,8])) (t 21)),o 23 (.conv (.int .i64) (t 22)),o 24 (.bin .add (t 19) (t 23)),v 2 24])
 (.live [2] (.ret)))))),none⟩
def code217:AFunc:=⟨false,false,1,6,[.tmp 2],
 .seq (R [0] [o 2 (.val F)])
 (.seq (R [2] [v 3 0,v 4 0,o 5 (.bin .neq (t 3) (t 4)),v 2 5])
 (.live [2] (.ret))),none⟩
def code100074:AFunc:=⟨false,false,2,52,[.tmp 4],
 .seq (R [1,2] [o 2 (.lbox (t 0)),o 4 (.val (.const (.slice none 0 (some 0))))])
 (.seq (.seq (R [1,2,10] [o 7 (.load (some 8) (t 2)),v 8 1,o 9 (.callg 131 [t 7,t 8]),o 10 (.un .not (t 9))])
 (.after (.cond (t 10) (.seq (R [4] [o 4 (.val (.const (.slice none 0 (some 0))))])
 (.live [4] (.ret))) (.skip)) [1,2]))
 (.seq (R [1,2,5] [o 11 (.faddr (t 2) 5),o 12 (.load none (t 11)),v 13 1,o 14 (.iaddr 7 (t 12) (t 13)),o 15 (.load (some 7) (t 14)),o 5 (.lalloc [.int .u8 0,.int .i64 0,.int .i64 0,.str [],.str [],.str [],.str []]),u (.store 7 (t 5) (t 15))])
 (.seq (R [1,2,5,6] [o 6 (.val (.const (.slice none 0 (some 0))))])
 (.seq (.seq (R [1,2,5,6,27] [o 16 (.faddr (t 5) 0),o 17 (.load none (t 16)),o 18 (.callg 73 [t 17]),o 19 (.un .not (t 18)),v 20 19,g 21 20 true (.val (t 1)),g 22 20 true (.bin .add (t 21) (n 1)),g 23 20 true (.faddr (t 2) 5),g 24 20 true (.load none (t 23)),g 25 20 true (.len .sl (t 24)),g 26 20 true (.bin .lss (t 22) (t 25)),o 27 (.pick (t 20) (t 26) F)])
 (.after (.cond (t 27) (R [2,5,6] [v 28 6,v 29 1,o 30 (.bin .add (t 29) (n 1)),o 31 (.mkslice 1 1 [.int .i64 0] [(0,1,t 30)]),o 32 (.append 1 8 (t 28) (t 31)),v 6 32]) (.skip)) [2,5,6]))
 (.seq (.seq (R [5,6,42] [o 33 (.faddr (t 5) 0),o 34 (.load none (t 33)),o 35 (.callg 130 [t 34]),o 36 (.bin .eql (t 35) (n 7)),v 37 36,g 38 37 true (.load (some 8) (t 2)),g 39 37 true (.faddr (t 5) 1),g 40 37 true (.load none (t 39)),g 41 37 true (.callg 131 [t 38,t 40]),o 42 (.pick (t 37) (t 41) F)])
 (.after (.cond (t 42) (R [6] [v 43 6,o 44 (.faddr (t 5) 1),o 45 (.load none (t 44)),o 46 (.mkslice 1 1 [.int .i64 0] [(0,1,t 45)]),o 47 (.append 1 8 (t 43) (t 46)),v 6 47]) (.skip)) [6]))
 (.seq (R [6] [v 48 6,o 49 (.callg 129 [t 48])])
 (.seq (R [4] [v 50 6,o 51 (.callg 128 [t 50]),v 4 51])
 (.live [4] (.ret))))))))),none⟩
def code100080L0:ACode :=
 .live [1,3,4,5,6,48,49,50] (.seq (R [1,3,4,5,6,48,49,50,51] [o 51 (.bin .lss (t 50) (t 49))])
 (.seq (.after (.cond (t 51) (.skip) (.live [1,3,4,5] (.exit 4))) [1,3,4,5,6,48,49,50])
 (.seq (.after (.block 5 (.seq (R [1,3,4,5,6,10,48,49,50] [o 52 (.iaddr 4 (t 48) (t 50)),o 53 (.load (some 4) (t 52)),o 10 (.lalloc [.int .i64 0,.int .i64 0,.int .i64 0,.str []]),u (.store 4 (t 10) (t 53))])
 (.seq (R [1,3,4,5,6,10,48,49,50,69] [v 54 6,o 55 (.faddr (t 10) 0),o 56 (.load none (t 55)),o 57 (.bin .geq (t 54) (t 56)),v 58 57,g 59 58 true (.val (t 6)),g 60 58 true (.faddr (t 10) 1),g 61 58 true (.load none (t 60)),g 62 58 true (.bin .lss (t 59) (t 61)),o 63 (.pick (t 58) (t 62) F),v 64 63,g 65 64 true (.load (some 8) (t 1)),g 66 64 true (.faddr (t 10) 2),g 67 64 true (.load none (t 66)),g 68 64 true (.callg 131 [t 65,t 67]),o 69 (.pick (t 64) (t 68) F)])
 (.after (.cond (t 69) (R [1,3,4,5,6,48,49,50] [v 70 5,o 71 (.faddr (t 10) 2),o 72 (.load none (t 71)),o 73 (.call (t 70) [t 72])]) (.skip)) [1,3,4,5,6,48,49,50])))) [1,3,4,5,6,48,49,50])
 (R [1,3,4,5,6,48,49,50] [o 74 (.bin .add (t 50) (n 1)),v 50 74]))))
def code100080L1:ACode :=
 .live [1,3,4,5,6,37,38,39] (.seq (R [1,3,4,5,6,37,38,39,40] [o 40 (.bin .lss (t 39) (t 38))])
 (.seq (.after (.cond (t 40) (.skip) (.live [1,3,4,5,6] (.exit 2))) [1,3,4,5,6,37,38,39])
 (.seq (.after (.block 3 (.seq (R [1,3,4,5,6,8,37,38,39] [o 41 (.iaddr 1 (t 37) (t 39)),o 42 (.load none (t 41)),v 8 42])
 (R [1,3,4,5,6,37,38,39] [v 43 5,v 44 8,o 45 (.call (t 43) [t 44])]))) [1,3,4,5,6,37,38,39])
 (R [1,3,4,5,6,37,38,39] [o 46 (.bin .add (t 39) (n 1)),v 39 46]))))
def code100080L2:ACode :=
 .live [1,3,4,5] (.seq (.seq (R [1,3,4,5,23] [o 21 (.load none (t 4)),o 22 (.len .sl (t 21)),o 23 (.bin .gtr (t 22) (n 0))])
 (.after (.cond (t 23) (.skip) (.live [3] (.exit 0))) [1,3,4,5]))
 (.after (.block 1 (.seq (R [1,3,4,5,6] [o 24 (.load none (t 4)),o 25 (.load none (t 4)),o 26 (.len .sl (t 25)),o 27 (.bin .sub (t 26) (n 1)),o 28 (.iaddr 1 (t 24) (t 27)),o 29 (.load none (t 28)),v 6 29])
 (.seq (R [1,3,4,5,6] [o 30 (.load none (t 4)),o 31 (.load none (t 4)),o 32 (.len .sl (t 31)),o 33 (.bin .sub (t 32) (n 1)),o 34 (.slice (.sl 1) (t 30) none (some (t 33)) none),u (.store 1 (t 4) (t 34))])
 (.seq (.seq (R [1,3,4,5,6,37,38,39] [o 35 (.load (some 8) (t 1)),v 36 6,o 37 (.callg 100074 [t 35,t 36]),o 38 (.len .sl (t 37)),o 39 (.val (n 0))])
 (.after (.block 2 (.loop code100080L1)) [1,3,4,5,6]))
 (.seq (R [1,3,4,5,6,48,49,50] [o 47 (.faddr (t 1) 6),o 48 (.load none (t 47)),o 49 (.len .sl (t 48)),o 50 (.val (n 0))])
 (.after (.block 4 (.loop code100080L0)) [1,3,4,5])))))) [1,3,4,5]))
def code100080:AFunc:=⟨false,false,1,76,[.tmp 2],
 .seq (R [1] [o 1 (.lbox (t 0)),o 2 (.val (.const (.slice none 0 (some 0))))])
 (.seq (R [1,3] [o 11 (.faddr (t 1) 5),o 12 (.load none (t 11)),o 13 (.len .sl (t 12)),o 14 (.make 1 1 [.bool false] (t 13) (t 13)),o 3 (.alloc 1 [.slice none 0 (some 0)]),u (.store 1 (t 3) (t 14))])
 (.seq (R [1,3,4] [o 4 (.alloc 1 [.slice none 0 (some 0)])])
 (.seq (R [1,3,4,5] [o 15 (.mkfunc 136 [] [t 3,t 4]),v 5 15])
 (.seq (.seq (R [1,3,4,5,18] [o 16 (.load none (t 3)),o 17 (.len .sl (t 16)),o 18 (.bin .gtr (t 17) (n 0))])
 (.after (.cond (t 18) (R [1,3,4,5] [v 19 5,o 20 (.call (t 19) [n 0])]) (.skip)) [1,3,4,5]))
 (.seq (.after (.block 0 (.loop code100080L2)) [3])
 (.seq (R [2] [o 75 (.load none (t 3)),v 2 75])
 (.live [2] (.ret)))))))),none⟩
def T:Nat→Option AFunc:=fun g=>match AbsOrd.T g with
 | some f=>some f
 | none=>List.lookup g [(71,code71),(73,code73),(75,code75),(76,code76),(77,code77),(79,code79),(81,code81),(82,code82),(83,code83),(84,code84),(123,code123),(124,code124),(125,code125),(126,code126),(127,code127),(128,code128),(129,code129),(130,code130),(131,code131),(132,code132),(133,code133),(134,code134),(135,code135),(136,code136),(164,code164),(165,code165),(166,code166),(167,code167),(190,code190),(193,code193),(199,code199),(200,code200),(217,code217),(100074,code100074),(100080,code100080)]
theorem sub:∀ g f,AbsOrd.T g=some f→T g=some f:=fun g f h=>by unfold T; rw [h]
theorem t71:T 71=some code71:=rfl
theorem t73:T 73=some code73:=rfl
theorem t75:T 75=some code75:=rfl
theorem t76:T 76=some code76:=rfl
theorem t77:T 77=some code77:=rfl
theorem t79:T 79=some code79:=rfl
theorem t81:T 81=some code81:=rfl
theorem t82:T 82=some code82:=rfl
theorem t83:T 83=some code83:=rfl
theorem t84:T 84=some code84:=rfl
theorem t123:T 123=some code123:=rfl
theorem t124:T 124=some code124:=rfl
theorem t125:T 125=some code125:=rfl
theorem t126:T 126=some code126:=rfl
theorem t127:T 127=some code127:=rfl
theorem t128:T 128=some code128:=rfl
theorem t129:T 129=some code129:=rfl
theorem t130:T 130=some code130:=rfl
theorem t131:T 131=some code131:=rfl
theorem t132:T 132=some code132:=rfl
theorem t133:T 133=some code133:=rfl
theorem t134:T 134=some code134:=rfl
theorem t135:T 135=some code135:=rfl
theorem t136:T 136=some code136:=rfl
theorem t164:T 164=some code164:=rfl
theorem t165:T 165=some code165:=rfl
theorem t166:T 166=some code166:=rfl
theorem t167:T 167=some code167:=rfl
theorem t190:T 190=some code190:=rfl
theorem t193:T 193=some code193:=rfl
theorem t199:T 199=some code199:=rfl
theorem t200:T 200=some code200:=rfl
theorem t217:T 217=some code217:=rfl
theorem f0:T 100074=some code100074:=rfl
theorem t100080:T 100080=some code100080:=rfl
end Go.Abs.AbsFlow

namespace Go.Abs.AbsDesc
variable {os:List AObj} {b w:Nat}
def wordN (n:Nat):Bool:=(decide (97≤n) && decide (n≤122)) || (decide (65≤n) && decide (n≤90)) || (decide (48≤n) && decide (n≤57)) || decide (n=95) || decide (n=36)
end Go.Abs.AbsDesc

namespace Go.Abs.AbsDesc
variable {os:List AObj} {b w:Nat}
def firstIx {α:Type} (p:α→Bool):List α→Nat→Int
 | [],_=>-1
 | x :: l,i=>if p x then i else firstIx p l (i+1)
theorem firstIx_none {α:Type} (p:α→Bool):∀ (l:List α) (i:Nat),(∀ x ∈ l,p x=false)→firstIx p l i = -1
 | [],_,_=>rfl
 | x :: l,i,h=>by
  simp only [firstIx,h x (a0 ..),ba,if_false]
  exact firstIx_none p l (i+1) fun y hy=>h y (az _ hy)
theorem firstIx_at {α:Type} (p:α→Bool):∀ (l:List α) (i j:Nat) (x:α),l[j]? = some x→p x=true→(∀ k,k < j→∀ y,l[k]? = some y→p y=false)→firstIx p l i=(i+j:Nat)
 | [],i,j,x,h,_,_=>by simp at h
 | y :: l,i,0,x,h,hp,_=>by
  simp at h; subst h
  simp [firstIx,hp]
 | y :: l,i,j+1,x,h,hp,hb=>by
  have h0:=hb 0 (by omega) y rfl
  simp only [firstIx,h0,ba,if_false]
  rw [firstIx_at p l (i+1) j x (by simpa using h) hp (fun k hk z hz=>hb (k+1) (by omega) z (by simpa using hz))]
  congr 1; omega
theorem loop_find {T:Nat→Option AFunc} {α:Type} {c:ACode} (p:α→Bool) (L:List α) (st:Nat→St) (out:Nat→St) (e1 e2:AExit) (fin:St)
  (hs:∀ (i:Nat) x,L[i]? = some x→xCode T c (st i)=some (if p x then (e1,out i) else (.normal,st (i+1)))) (h1:e1 ≠ .normal) (h2:e2 ≠ .normal) (hx:xCode T c (st L.length)=some (e2,fin)) :
  (L.any p=false∧xCode T (.loop c) (st 0)=some (e2,fin))∨∃ (j:Nat) (x:α),L[j]? = some x∧p x=true∧(∀ k,k < j→∀ y,L[k]? = some y→p y=false)∧xCode T (.loop c) (st 0)=some (e1,out j):=by
 rcases first_bad (fun x=>p x=false) L with h | ⟨j,x,h3,h4,h5⟩
 ·left
  refine ⟨by rw [List.any_eq_false]; exact fun x hx=>by simp [h x hx],?_⟩
  refine loop_all st L.length (fun i hi=>?_) h2 hx
  obtain ⟨x,hx⟩:∃ x,L[i]? = some x:=⟨_,ag hi⟩
  rw [hs i x hx,h x (aq hx)]
  rfl
 ·right
  simp only [Bool.not_eq_false] at h4
  refine ⟨j,x,h3,h4,h5,?_⟩
  refine loop_all st j (fun i hi=>?_) h1 (by rw [hs j x h3,h4]; rfl)
  obtain ⟨y,hy⟩:∃ y,L[i]? = some y:=⟨_,ag (Nat.lt_trans hi (get_lt h3))⟩
  rw [hs i y hy,h5 i hi y hy]
  rfl
def byteCell (c:UInt8):List AVal:=[.int .u8 c.toNat]
def wordL (s:List UInt8):Bool:=!s.isEmpty && s.all fun c=>wordN c.toNat
end Go.Abs.AbsDesc

namespace Go.Abs.AbsDesc
variable {os:List AObj} {b w:Nat}
def parts (c:UInt8):List UInt8→List (List UInt8)
 | []=>[[]]
 | x :: r=>if x == c then [] :: parts c r else match parts c r with
  | p :: ps=>(x :: p) :: ps
  | []=>[[x]]
def rest (c:UInt8) (s:List UInt8):Nat→List UInt8
 | 0=>s
 | i+1=>(rest c s i).drop ((Lib.indexByte (rest c s i) c).toNat+1)
end Go.Abs.AbsDesc

namespace Go.Abs.AbsDesc
variable {os:List AObj} {b w:Nat}
def mem (L:List (List UInt8)) (i:Nat):List AVal:=(L.take i).map AVal.str++List.replicate (L.length - i) (.str [])
end Go.Abs.AbsDesc

namespace Go.Abs.AbsDesc
variable {os:List AObj} {b w:Nat}
def isClass (s:List UInt8):Bool:=decide (s.length≤64) && (parts 47 s).all wordL
end Go.Abs.AbsDesc

namespace Go.Abs.AbsDesc
end Go.Abs.AbsDesc

namespace Go.Abs.AbsDesc
variable {os:List AObj} {b w:Nat}
end Go.Abs.AbsDesc

namespace Go.Abs.AbsDesc
variable {os:List AObj} {b w:Nat}
end Go.Abs.AbsDesc

namespace Go.Abs.AbsDesc
variable {os:List AObj} {b w:Nat}
end Go.Abs.AbsDesc

namespace Go.Abs.AbsDesc
variable {os:List AObj} {b w:Nat}
end Go.Abs.AbsDesc

namespace Go.Abs.AbsDesc
variable {os:List AObj} {b w:Nat}
def ends (c:UInt8) (s:List UInt8):Bool:=decide (1≤s.length) && decide (s.drop (s.length - 1)=[c])
end Go.Abs.AbsDesc

namespace Go.Abs.AbsDesc
variable {os:List AObj} {b w:Nat}
end Go.Abs.AbsDesc

namespace Go.Abs.AbsDesc
variable {os:List AObj} {b w:Nat}
end Go.Abs.AbsDesc

namespace Go.Abs.AbsDesc
inductive Ty:List UInt8→Prop
 | one (n:Nat) (c:UInt8) (h:n≤8) (hc:c=73∨(c=74∧n=0)∨(c=66∧0 < n)):Ty (List.replicate n 91++[c])
 | obj (n:Nat) (a:List UInt8) (h:n≤8) (ha:isClass a=true):Ty (List.replicate n 91++76 :: (a++[59]))
end Go.Abs.AbsDesc

namespace Go.Abs.AbsDesc
variable {os:List AObj} {b w:Nat} {β:Type}
end Go.Abs.AbsDesc

namespace Go.Abs.AbsDesc
variable {os:List AObj} {b w:Nat} {β:Type}
end Go.Abs.AbsDesc

namespace Go.Abs.AbsDesc
variable {os:List AObj} {b w:Nat} {β:Type}
end Go.Abs.AbsDesc

namespace Go.Abs.AbsDesc
variable {os:List AObj} {b w:Nat} {β:Type}
def Meth0 (b w:Nat) (k:AExit→St→Option β) (x:Option β) (O:List AObj) (a2 a3:Nat):Option (List (List UInt8) × List UInt8)→Prop
 | none=>∃ O',O.length≤O'.length∧x=k .ret ⟨[(2,.val (.slice none 0 (some 0))),(3,.val (.str [])),(4,.val (.int .i64 8))],⟨O',b,w⟩⟩
 | some ([],r)=>x=k (.exit 0) ⟨if a2 < a3 then [(a2,.val (.str r)),(a3,.val (.slice none 0 (some 0)))] else [(a3,.val (.slice none 0 (some 0))),(a2,.val (.str r))],⟨O,b,w⟩⟩
 | some (a :: A,r)=>∃ O',O.length≤O'.length∧x=k (.exit 0) ⟨if a2 < a3 then [(a2,.val (.str r)),(a3,.val (.slice (some (O'.length,0)) (A.length+1) none))] else [(a3,.val (.slice (some (O'.length,0)) (A.length+1) none)),(a2,.val (.str r))],⟨O'++[.cells 1 ((a :: A).map AVal.str)],b,w⟩⟩
end Go.Abs.AbsDesc

namespace Go.Abs.AbsDesc
variable {os:List AObj} {b w:Nat} {β:Type}
end Go.Abs.AbsDesc

namespace Go.Abs.AbsDesc
variable {os:List AObj} {b w:Nat} {β:Type}
end Go.Abs.AbsDesc

namespace Go.Abs
theorem evCall_sub {T T':Nat→Option AFunc} (hs:∀ g f,T g=some f→T' g=some f):∀ n,CallLe (evCall T n) (evCall T' n)
 | 0=>fun _ _ _ r hr=>by simp [evCall] at hr
 | n+1=>fun g args h=>by
  intro r hr
  have ih:=evCall_sub hs n
  simp only [evCall] at hr ⊢
  cases hT:T g with
  | none=>rw [hT] at hr; cases hr
  | some f =>
   rw [hT] at hr
   rw [hs g f hT]
   simp only at hr ⊢
   split at hr
   ·exact evRound_mono ih (aj _) _ _ _ _ r hr
   ·exact hr
   ·exact wrapC_mono (fun args h=>evFunc_mono ih (aj _) f args h) _ _ _ r hr
theorem xCall_sub {T T':Nat→Option AFunc} (hs:∀ g f,T g=some f→T' g=some f) {g:Nat} {args:List AVal} {h:Heap} {r:AVal × Heap} (he:xCall T g args h=some r):xCall T' g args h=some r:=by
 rw [ft] at he ⊢
 obtain ⟨n,hn⟩:=he
 exact ⟨n,evCall_sub hs n _ _ _ _ hn⟩
end Go.Abs

namespace Go.Abs
abbrev Str:=List UInt8
section
variable {κ ν:Type} [DecidableEq κ]
def ents (kf:κ→AVal) (vf:ν→AVal):Nat→List (κ × ν)→List (AVal × AVal × Nat)
 | _,[]=>[]
 | i,x :: r=>(kf x.1,vf x.2,i) :: ents kf vf (i+1) r
def getE:List (κ × ν)→κ→Option ν
 | [],_=>none
 | x :: r,k=>if x.1=k then some x.2 else getE r k
def mObj (kf:κ→AVal) (vf:ν→AVal) (A:List (κ × ν)):AObj:=.map (ents kf vf 0 A) A.length
variable {os:List AObj} {b w r:Nat} {A:List (κ × ν)} {kf:κ→AVal} {vf:ν→AVal}
end
theorem get_k {α:Type} (a c:List α) (k:Nat):(a++c)[a.length+k]? = c[k]?:=by
 rw [ak (by omega)]; congr 1; omega
theorem gd {α:Type} (a c:List α):(a++c)[a.length]? = c[0]?:=get_k a c 0
theorem set_k {α:Type} (a c:List α) (k:Nat) (y:α):(a++c).set (a.length+k) y=a++c.set k y:=by
 rw [List.set_append_right _ _ (by omega)]; congr 2; omega
theorem set_k0 {α:Type} (a c:List α) (y:α):(a++c).set a.length y=a++c.set 0 y:=set_k a c 0 y
theorem finish_keep {h0 h:Heap} {v:AVal} {k:List Nat} (hw:h0.size≤h.wmin) (hv:v.under h0.size=false) (hr:reach h h0.size 1000 v.ids []=k) (hok:∀ i ∈ v.ids++k.flatMap fun i=>((h.get i).map AObj.ids).getD [],i < h0.size∨i ∈ k) :
  finish h0 v h=(v.ren (fun i=>if i < h0.size then i else h0.size+idxIn i k),{ h0 with objs:=h0.objs++k.map fun i=>((h.get i).map (AObj.ren fun i=>if i < h0.size then i else h0.size+idxIn i k)).getD .dead }):=by
 unfold finish
 rw [if_neg (by omega),hv]
 simp only [ba,if_false,hr]
 rw [if_pos]
 rw [al]
 intro i hi
 rcases hok i hi with h1 | h1
 ·rw [decide_eq_true h1]; rfl
 ·simp [h1]
end Go.Abs

namespace Go.Abs
structure FieldU where
 st:Bool
 name:Str
 desc:Str
structure InsU where
 op:Int
 n:Int
 m:Int
 cls:Str
 name:Str
 desc:Str
 text:Str
structure TrapU where
 lo:Int
 hi:Int
 at':Int
 cls:Str
structure MapU where
 at':Int
 locals:List Str
 la:Option (Nat × Nat)
 lc:Option Nat
 stack:List Str
 sa:Option (Nat × Nat)
 sc:Option Nat
structure MethU where
 st:Bool
 name:Str
 desc:Str
 stack:Int
 locals:Int
 code:List InsU
 ca:Option (Nat × Nat)
 cc:Option Nat
 traps:List TrapU
 ta:Option (Nat × Nat)
 tc:Option Nat
 maps:List MapU
 xa:Option (Nat × Nat)
 xc:Option Nat
structure UnitU where
 name:Str
 super:Str
 fields:List FieldU
 fa:Option (Nat × Nat)
 fc:Option Nat
 meths:List MethU
 ma:Option (Nat × Nat)
 mc:Option Nat
def FieldU.cells (f:FieldU):List AVal:=[.bool f.st,.str f.name,.str f.desc]
def InsU.cells (x:InsU):List AVal:=[.int .u8 x.op,.int .i64 x.n,.int .i64 x.m,.str x.cls,.str x.name,.str x.desc,.str x.text]
def TrapU.cells (x:TrapU):List AVal:=[.int .i64 x.lo,.int .i64 x.hi,.int .i64 x.at',.str x.cls]
def MapU.cells (x:MapU):List AVal:=[.int .i64 x.at',.slice x.la x.locals.length x.lc,.slice x.sa x.stack.length x.sc]
def MethU.cells (m:MethU):List AVal:=[.bool m.st,.str m.name,.str m.desc,.int .i64 m.stack,.int .i64 m.locals,.slice m.ca m.code.length m.cc,.slice m.ta m.traps.length m.tc,.slice m.xa m.maps.length m.xc]
def UnitU.cells (u:UnitU):List AVal:=[.str u.name,.str u.super,.slice u.fa u.fields.length u.fc,.slice u.ma u.meths.length u.mc]
def strC (s:Str):List AVal:=[.str s]
abbrev big:Nat:=9223372036854775807
def under (n:Nat) (a:Option (Nat × Nat)):Prop:=∀ i o,a=some (i,o)→i < n
structure MapU.ok (os:List AObj) (x:MapU):Prop where
 l:Row os 1 strC x.locals x.la
 ln:x.locals.length≤big
 lu:under os.length x.la
 s:Row os 1 strC x.stack x.sa
 sn:x.stack.length≤big
 su:under os.length x.sa
 ls:∀ t ∈ x.locals++x.stack,t.length≤big
structure MethU.ok (os:List AObj) (m:MethU):Prop where
 name:m.name.length≤big
 desc:m.desc.length≤big
 c:Row os 7 InsU.cells m.code m.ca
 cn:m.code.length≤big
 cu:under os.length m.ca
 cok:∀ x ∈ m.code,x.cls.length≤big∧x.name.length≤big∧x.desc.length≤big∧x.text.length≤big
 t:Row os 4 TrapU.cells m.traps m.ta
 tn:m.traps.length≤big
 tu:under os.length m.ta
 tok:∀ x ∈ m.traps,x.cls.length≤big
 x:Row os 3 MapU.cells m.maps m.xa
 xn:m.maps.length≤big
 xu:under os.length m.xa
 xok:∀ x ∈ m.maps,x.ok os
structure UnitU.ok (os:List AObj) (u:UnitU):Prop where
 name:u.name.length≤big
 super:u.super.length≤big
 f:Row os 3 FieldU.cells u.fields u.fa
 fn:u.fields.length≤big
 fu:under os.length u.fa
 fok:∀ x ∈ u.fields,x.name.length≤big∧x.desc.length≤big
 m:Row os 8 MethU.cells u.meths u.ma
 mn:u.meths.length≤big
 mu:under os.length u.ma
 mok:∀ x ∈ u.meths,x.ok os
def Pre (os O:List AObj):Prop:=∀ (i:Nat) (o:AObj),os[i]? = some o→O[i]? = some o
theorem Pre.refl (os:List AObj):Pre os os:=fun _ _ h=>h
theorem Pre.trans {A B C:List AObj} (h:Pre A B) (k:Pre B C):Pre A C:=fun i o ho=>k i o (h i o ho)
theorem Pre.app (os X:List AObj):Pre os (os++X):=fun i o h=>by rw [ai (ah h)]; exact h
theorem Pre.set {A B:List AObj} (h:Pre A B) {i:Nat} (o:AObj) (hi:A.length≤i):Pre A (B.set i o):=fun j p hj=>by
 have:=ah hj
 rw [bj (by omega)]; exact h j p hj
theorem Pre.len {A B:List AObj} (h:Pre A B):A.length≤B.length:=by
 rcases am B.length A.length with h1 | h1
 ·have h2:B.length < A.length:=h1
  have:=ah (h B.length A[B.length] (by simp [h2]))
  omega
 ·exact h1
theorem Pre.row {os O:List AObj} {α:Type} {e:Nat} {f:α→List AVal} {L:List α} {a:Option (Nat × Nat)} (hp:Pre os O) (h:Row os e f L a):Row O e f L a :=
 ⟨fun hne=>by
  obtain ⟨b,o,cs,h1,h2,h3⟩:=h.at' hne
  exact ⟨b,o,cs,h1,hp _ _ h2,h3⟩⟩
theorem under.le {n m:Nat} {a:Option (Nat × Nat)} (h:under n a) (hm:n≤m):under m a:=fun i o e=>c7 (h i o e) hm
theorem MapU.ok.pre {os O:List AObj} (hp:Pre os O) {x:MapU} (h:x.ok os):x.ok O:=⟨hp.row h.l,h.ln,h.lu.le hp.len,hp.row h.s,h.sn,h.su.le hp.len,h.ls⟩
theorem MethU.ok.pre {os O:List AObj} (hp:Pre os O) {m:MethU} (h:m.ok os):m.ok O :=
 ⟨h.name,h.desc,hp.row h.c,h.cn,h.cu.le hp.len,h.cok,hp.row h.t,h.tn,h.tu.le hp.len,h.tok,hp.row h.x,h.xn,h.xu.le hp.len,fun x hx=>(h.xok x hx).pre hp⟩
theorem UnitU.ok.pre {os O:List AObj} (hp:Pre os O) {u:UnitU} (h:u.ok os):u.ok O :=
 ⟨h.name,h.super,hp.row h.f,h.fn,h.fu.le hp.len,h.fok,hp.row h.m,h.mn,h.mu.le hp.len,fun x hx=>(h.mok x hx).pre hp⟩
structure UnitU.low (n:Nat) (u:UnitU):Prop where
 f:under n u.fa
 m:under n u.ma
section
variable {os:List AObj} {w:Nat}
def shIns:Sh:=.struct [.int .u8,.int .i64,.int .i64,.str,.str,.str,.str]
def shTrap:Sh:=.struct [.int .i64,.int .i64,.int .i64,.str]
def shMap:Sh:=.struct [.int .i64,.slice .str,.slice .str]
def shMeth:Sh:=.struct [.bool,.str,.str,.int .i64,.int .i64,.slice shIns,.slice shTrap,.slice shMap]
end
end Go.Abs

namespace Go.Abs.AbsHier
open Go.Abs.AbsDesc
variable {os O:List AObj} {b w:Nat}
abbrev Key:=Str × Str × Str
structure Mem where
 cls:Str
 st:Bool
 deriving DecidableEq
def keyF (k:Key):AVal:=.agg [.str k.1,.str k.2.1,.str k.2.2]
def memF (m:Mem):AVal:=.agg [.str m.cls,.bool m.st]
structure World (O:List AObj) (N:Nat) (S:List (Str × Str)) (F M:List (Key × Mem)) (V:List (Key × Bool)):Prop where
 w0:O[N]? = some (.cells 4 [.map (some (N+1)),.map (some (N+2)),.map (some (N+3)),.map (some (N+4))])
 m1:O[N+1]? = some (mObj .str .str S)
 m2:O[N+2]? = some (mObj keyF memF F)
 m3:O[N+3]? = some (mObj keyF memF M)
 m4:O[N+4]? = some (mObj keyF .bool V)
variable {N:Nat} {S:List (Str × Str)} {F M:List (Key × Mem)} {V:List (Key × Bool)}
end Go.Abs.AbsHier

namespace Go.Abs.AbsHier
open Go.Abs.AbsDesc
variable {os O:List AObj} {b w:Nat} {N:Nat} {S:List (Str × Str)} {F M:List (Key × Mem)} {V:List (Key × Bool)}
def lineS (S:List (Str × Str)):Nat→Str→List Str
 | 0,_=>[]
 | k+1,c=>match getE S c with
  | some d=>c :: lineS S k d
  | none=>[]
structure LineB {σ:Type} (B:σ→Str→AObj→List AObj) (N n i g lo:Nat) (sl:List (Nat × AVal)) (S:List (Str × Str)) (step:σ→Str→σ × Option AExit) (b:Nat):Prop where
 bn:b≤n
 lon:lo≤n
 c0:∀ x c o,(B x c o)[n]? = some (.cells 1 [.ptr (some (N,0))])
 c1:∀ x c o,(B x c o)[n+1]? = some (.cells 1 [.str c])
 set:∀ x c d o,(B x c o).set (n+1) (.cells 1 [.str d])=B x d o
 loop:∀ x c o,(B x c o)[i]? = some o
 w0:∀ x c o,∃ r,(B x c o)[N]? = some (.cells 4 (.map (some (N+1)) :: r))
 m1:∀ x c o,(B x c o)[N+1]? = some (mObj .str .str S)
 body:∀ x c w,lo≤w→∃ w',lo≤w'∧w'≤i∧xCall T g [.ptr (some (i,0)),.str c] ⟨B x c (.loop g .ready none sl),b,w⟩ =
  some (.bool (step x c).2.isNone,⟨B (step x c).1 c (match (step x c).2 with | none=>.loop g .ready none sl | some e=>.loop g .done (some e) sl),b,w'⟩)
section
variable {σ:Type} {B:σ→Str→AObj→List AObj} {n i g lo:Nat} {sl:List (Nat × AVal)} {step:σ→Str→σ × Option AExit}
end
end Go.Abs.AbsHier

namespace Go.Abs.AbsHier
open Go.Abs.AbsDesc
variable {os O:List AObj} {b w:Nat} {N:Nat} {S:List (Str × Str)} {F M:List (Key × Mem)} {V:List (Key × Bool)}
def objectT:Str:=[79,98,106,101,99,116]
end Go.Abs.AbsHier

namespace Go.Abs
theorem row_flat {α:Type} {e:Nat} {f:α→List AVal} {cs:List AVal}:∀ (L:List α) (o:Nat),(∀ (j:Nat) (x:α),L[j]? = some x→o+j*e+e≤cs.length∧(cs.drop (o+j*e)).take e=f x)→(cs.drop o).take (L.length*e)=L.flatMap f
 | [],o,_=>by simp
 | x :: L,o,h=>by
  have h0:=(h 0 x rfl).2
  rw [Nat.zero_mul,Nat.add_zero] at h0
  have ih:=row_flat L (o+e) fun j y hy=>by
   have:=h (j+1) y hy
   rw [de,Nat.one_mul,Nat.add_comm (j*e) e,← dy] at this
   exact this
  rw [bk,de,Nat.one_mul,Nat.add_comm,List.take_add,ei,h0,fg,ih]
theorem rowOf_row {α:Type} {e:Nat} {f:α→List AVal} {h:Heap} {L:List α} {a:Option (Nat × Nat)} {c:Option Nat} (hR:Row h.objs e f L a):rowOf e h (.slice a L.length c)=some (L.flatMap f):=by
 by_cases hL:L=[]
 ·subst hL
  cases a with
  | none=>rfl
  | some p=>rfl
 ·obtain ⟨b,o,cs,h1,h2,h3⟩:=hR.at' hL
  subst h1
  have hl:L.length≠0:=fun e=>hL (a9 e)
  have hg:h.get b=some (.cells e cs):=h2
  unfold rowOf
  simp only
  rw [if_neg hl,hg]
  simp only
  obtain ⟨x,hx⟩:∃ x,L[L.length - 1]? = some x:=⟨_,ag (by omega)⟩
  have hb:=(h3 _ _ hx).1
  have he:(L.length - 1)*e+e=L.length*e:=by
   rw [← Nat.succ_mul]; congr 1; omega
  have h2:True∧o+L.length*e≤cs.length:=⟨trivial,by omega⟩
  rw [if_pos h2,row_flat L o h3]
theorem rowOf0 {e:Nat} {h:Heap} {a:Option (Nat × Nat)} {c:Option Nat}:rowOf e h (.slice a 0 c)=some []:=by
 cases a with
 | none=>rfl
 | some p=>rfl
theorem rowOfC {e n:Nat} {h:Heap} {i:Nat} {cs:List AVal} {c:Option Nat} (hg:h.objs[i]? = some (.cells e cs)) (hn:cs.length=n*e):rowOf e h (.slice (some (i,0)) n c)=some cs:=by
 unfold rowOf
 simp only
 split
 ·rename_i h0
  subst h0
  rw [Nat.zero_mul] at hn
  rw [a9 hn]
 ·have hg':h.get i=some (.cells e cs):=hg
  rw [hg']
  simp only
  have h2:True∧0+n*e≤cs.length:=⟨trivial,by omega⟩
  rw [if_pos h2,List.drop_zero,← hn,List.take_length]
theorem sgetN (t:Nat):sget [] t=none:=by simp
theorem sgetH (t:Nat) (x:Slot) (r:Slots):sget ((t,x) :: r) t=some x:=by simp
theorem sgetT (u t:Nat) (x:Slot) (r:Slots) (h:u≠t):sget ((u,x) :: r) t=sget r t:=by simp [h]
end Go.Abs

namespace Go.Abs.AbsHier
open Go.Abs.AbsDesc
variable {os O:List AObj} {b w:Nat} {N:Nat} {S:List (Str × Str)} {F M:List (Key × Mem)} {V:List (Key × Bool)}
def isS (S:List (Str × Str)) (c d:Str):Bool:=(lineS S S.length c).any fun x=>decide (x=d)
end Go.Abs.AbsHier

namespace Go.Abs.AbsHier
open Go.Abs.AbsDesc
variable {os O:List AObj} {b w:Nat} {N:Nat} {S:List (Str × Str)} {F M:List (Key × Mem)} {V:List (Key × Bool)}
end Go.Abs.AbsHier

namespace Go.Abs.AbsHier
open Go.Abs.AbsDesc
variable {os O:List AObj} {b w:Nat} {N:Nat} {S:List (Str × Str)} {F M:List (Key × Mem)} {V:List (Key × Bool)}
theorem row_at {α:Type} {e:Nat} {f:α→List AVal} {L:List α} {a:Option (Nat × Nat)} (h:Row os e f L a) {i:Nat} {x:α} (hx:L[i]? = some x) :
  ∃ p o cs,a=some (p,o)∧os[p]? = some (.cells e cs)∧p < os.length∧o+i*e+e≤cs.length∧(cs.drop (o+i*e)).take e=f x:=by
 obtain ⟨p,o,cs,h1,h2,h3⟩:=h.at' (ne_of_get hx)
 exact ⟨p,o,cs,h1,h2,ah h2,h3 i x hx⟩
end Go.Abs.AbsHier

namespace Go.Abs.AbsHier
open Go.Abs.AbsDesc
variable {os O:List AObj} {b w:Nat} {N:Nat} {S:List (Str × Str)} {F M:List (Key × Mem)} {V:List (Key × Bool)}
end Go.Abs.AbsHier

namespace Go.Abs.AbsHier
open Go.Abs.AbsDesc
variable {os O:List AObj} {b w:Nat} {N:Nat} {S:List (Str × Str)} {F M:List (Key × Mem)} {V:List (Key × Bool)}
end Go.Abs.AbsHier

namespace Go.Abs.AbsHier
open Go.Abs.AbsDesc
variable {os O:List AObj} {b w:Nat} {N:Nat} {S:List (Str × Str)} {F M:List (Key × Mem)} {V:List (Key × Bool)}
end Go.Abs.AbsHier

namespace Go.Abs.AbsHier
open Go.Abs.AbsDesc
variable {os O:List AObj} {b w:Nat} {N:Nat}
def sysT:Str:=[115,121,115]
def throwT:Str:=[84,104,114,111,119,97,98,108,101]
def natL:List (Str × Str):=[([112,114,105,110,116],[40,73,41,86]),([112,114,105,110,116,76,111,110,103],[40,74,41,86]),([112,114,105,110,116,84,101,120,116],[40,91,66,41,86]),([97,100,100],[40,91,66,41,73]),
 ([103,101,116],[40,73,41,91,66]),([115,101,116],[40,73,91,66,41,86]),([100,101,108],[40,73,41,86]),([99,111,117,110,116],[40,41,73])]
def builtV:List (Key × Bool):=natL.map fun x=>((sysT,x.1,x.2),true)
def wO (os:List AObj) (S:List (Str × Str)) (F M:List (Key × Mem)) (V:List (Key × Bool)):List AObj :=
 os++[.cells 4 [.map (some (os.length+1)),.map (some (os.length+2)),.map (some (os.length+3)),.map (some (os.length+4))],mObj .str .str S,mObj keyF memF F,mObj keyF memF M,mObj keyF .bool V]
end Go.Abs.AbsHier

namespace Go.Abs.AbsHier
open Go.Abs.AbsDesc
variable {os O:List AObj} {b w:Nat} {N:Nat} {S:List (Str × Str)} {F M:List (Key × Mem)} {V:List (Key × Bool)}
end Go.Abs.AbsHier

namespace Go.Abs.AbsHier
open Go.Abs.AbsDesc
variable {os O:List AObj} {b w:Nat} {N:Nat} {S:List (Str × Str)} {F M:List (Key × Mem)} {V:List (Key × Bool)}
def newV (N:Nat):Option (List (Str × Str) × List (Key × Mem) × List (Key × Mem))→AVal
 | none=>.tuple [.ptr none,.int .i64 15]
 | some _=>.tuple [.ptr (some (N,0)),.int .i64 0]
def newO (os:List AObj):Option (List (Str × Str) × List (Key × Mem) × List (Key × Mem))→List AObj
 | none=>os
 | some q=>wO os q.1 q.2.1 q.2.2 builtV
end Go.Abs.AbsHier

namespace Go.Abs
def FieldU.fits (x:FieldU):Prop:=x.name.length≤reachB∧x.desc.length≤reachB
def InsU.fits (x:InsU):Prop:=x.cls.length≤reachB∧x.name.length≤reachB∧x.desc.length≤reachB∧x.text.length≤reachB
def TrapU.fits (x:TrapU):Prop:=x.cls.length≤reachB
structure MapU.fits (x:MapU):Prop where
 l:x.locals.length≤reachB
 s:x.stack.length≤reachB
 ls:∀ t ∈ x.locals,t.length≤reachB
 ss:∀ t ∈ x.stack,t.length≤reachB
structure MethU.fits (m:MethU):Prop where
 name:m.name.length≤reachB
 desc:m.desc.length≤reachB
 c:m.code.length≤reachB
 cs:∀ x ∈ m.code,x.fits
 t:m.traps.length≤reachB
 ts:∀ x ∈ m.traps,x.fits
 x:m.maps.length≤reachB
 xs:∀ x ∈ m.maps,x.fits
structure UnitU.cap (u:UnitU):Prop where
 f:∀ k,u.fc=some k→u.fields.length≤k
 m:∀ k,u.mc=some k→u.meths.length≤k
structure UnitU.fits (u:UnitU):Prop where
 name:u.name.length≤reachB
 super:u.super.length≤reachB
 f:u.fields.length≤reachB
 fs:∀ x ∈ u.fields,x.fits
 m:u.meths.length≤reachB
 ms:∀ x ∈ u.meths,x.fits
 cap:u.cap
section
variable {os:List AObj} {b w:Nat} {d:Dat} {cs:List AVal}
theorem has_strC (h:Has ⟨os,b,w⟩ .str d cs):∃ x:Str,cs=strC x∧x.length≤reachB:=by
 obtain ⟨s,_,rfl,hs⟩:=h.str
 exact ⟨s,rfl,hs⟩
theorem has_trap (h:Has ⟨os,b,w⟩ shTrap d cs):∃ x:TrapU,cs=x.cells∧x.fits:=by
 obtain ⟨l,rfl,h⟩:=h.struct
 obtain ⟨_,_,_,_,rfl,rfl,h1,h⟩:=h.cons
 obtain ⟨_,_,_,_,rfl,rfl,h2,h⟩:=h.cons
 obtain ⟨_,_,_,_,rfl,rfl,h3,h⟩:=h.cons
 obtain ⟨_,_,_,_,rfl,rfl,h4,h⟩:=h.cons
 obtain ⟨rfl,rfl⟩:=h.nil
 obtain ⟨p,_,rfl,_⟩:=h1.int
 obtain ⟨q,_,rfl,_⟩:=h2.int
 obtain ⟨r,_,rfl,_⟩:=h3.int
 obtain ⟨c,_,rfl,hc⟩:=h4.str
 exact ⟨⟨p,q,r,c⟩,rfl,hc⟩
theorem gt {n:Nat} (h:n≤reachB):n≤big:=by
 have:n≤140737488351232:=h
 show n≤9223372036854775807
 omega
theorem under_of {n m:Nat} {a:Option (Nat × Nat)} (h:∀ i o,a=some (i,o)→i < n) (hm:n≤m):under m a:=fun i o e=>c7 (h i o e) hm
theorem has_map (hb:b≤os.length) (h:Has ⟨os,b,w⟩ shMap d cs):∃ x:MapU,cs=x.cells∧x.ok os∧x.fits:=by
 obtain ⟨l,rfl,h⟩:=h.struct
 obtain ⟨_,_,_,_,rfl,rfl,h1,h⟩:=h.cons
 obtain ⟨_,_,_,_,rfl,rfl,h2,h⟩:=h.cons
 obtain ⟨_,_,_,_,rfl,rfl,h3,h⟩:=h.cons
 obtain ⟨rfl,rfl⟩:=h.nil
 obtain ⟨p,_,rfl,_⟩:=h1.int
 obtain ⟨la,L,lc,rfl,hL,hLn,hLs,hLu,_⟩:=h2.row fun d c h=>has_strC h
 obtain ⟨sa,S,sc,rfl,hS,hSn,hSs,hSu,_⟩:=h3.row fun d c h=>has_strC h
 exact ⟨⟨p,L,la,lc,S,sa,sc⟩,rfl,⟨hL,gt hLn,under_of hLu hb,hS,gt hSn,under_of hSu hb,fun t ht=>by
  rcases bd.1 ht with ht | ht
  ·exact gt (hLs t ht)
  ·exact gt (hSs t ht)⟩,⟨hLn,hSn,hLs,hSs⟩⟩
end
end Go.Abs

namespace Go.Abs.AbsMake
open Go.Abs.AbsDesc Go.Abs.AbsHier
variable {os O B:List AObj} {b w:Nat}
def tapeO (tv:AVal) (p:Nat):AObj:=.cells 2 [tv,.int .i64 p]
structure Tape (O:List AObj) (tN:Nat) (tb:List UInt8) (tv:AVal) (p:Nat):Prop where
 at':O[tN]? = some (tapeO tv p)
 le:p≤tb.length
 small:tb.length≤1000
structure TapeV (O:List AObj) (tN:Nat) (tb:List UInt8) (tv:AVal):Prop where
 row:∃ a c,tv = .slice a tb.length c∧Row O 1 byteCell tb a∧∀ i o,a=some (i,o)→i≠tN
structure Own {α:Type} (O:List AObj) (N e:Nat) (f:α→List AVal) (L:List α) (p:Option (Nat × Nat)) (c:Option Nat):Prop where
 some:∀ i o,p=some (i,o)→o=0∧c=Option.none∧N < i∧O[i]? = some (.cells e (L.flatMap f))
 none:p=Option.none→L=[]∧c=Option.some 0
def classesT:List Str:=[[],throwT,[77,97,116,104,70,97,117,108,116],[79,111,112,115],[78,117,108,108,70,97,117,108,116]]
structure InsU.short (x:InsU):Prop where
 cls:x.cls.length≤100
 name:x.name.length≤100
 desc:x.desc.length≤100
 text:x.text.length≤100
structure Leaf (O:List AObj) (N:Nat) (pc pt px:Option (Nat × Nat)) (L:List Str) (a:Option (Nat × Nat)):Prop where
 row:Row O 1 strC L a
 len:L.length≤100
 short:∀ t ∈ L,t.length≤100
 at':∀ i o,a=some (i,o)→N < i∧i < O.length∧(∀ o',pc≠some (i,o'))∧(∀ o',pt≠some (i,o'))∧(∀ o',px≠some (i,o'))
def wrO (tN:Nat) (pc pt px:Option (Nat × Nat)) (cc ct cx:Option Nat) (n nt nx:Nat) (dep bud:Int):AObj :=
 .cells 6 [.ptr (some (tN,0)),.slice pc n cc,.slice pt nt ct,.slice px nx cx,.int .i64 dep,.int .i64 bud]
structure Wr (tN:Nat) (tb:List UInt8) (tv:AVal) (B O:List AObj) (pc pt px:Option (Nat × Nat)) (cc ct cx:Option Nat) (C:List InsU) (S:List TrapU) (M:List MapU) (dep bud:Int):Prop where
 keep:∀ i,i < B.length→i≠tN→O[i]? = B[i]?
 tape:∃ p,Tape O tN tb tv p
 tv:TapeV B tN tb tv
 lt:tN < B.length
 wr:O[B.length]? = some (wrO tN pc pt px cc ct cx C.length S.length M.length dep bud)
 c:Own O B.length 7 InsU.cells C pc cc
 s:Own O B.length 4 TrapU.cells S pt ct
 m:Own O B.length 3 MapU.cells M px cx
 cs:∀ i o o',pc=some (i,o)→pt≠some (i,o')
 cm:∀ i o o',pc=some (i,o)→px≠some (i,o')
 sm:∀ i o o',pt=some (i,o)→px≠some (i,o')
 cok:∀ x ∈ C,InsU.short x
 sok:∀ x ∈ S,x.cls ∈ classesT
 mok:∀ x ∈ M,Leaf O B.length pc pt px x.locals x.la∧Leaf O B.length pc pt px x.stack x.sa
structure Ws (tN:Nat) (tb:List UInt8) (tv:AVal) (B O:List AObj) (n k:Nat) (dep:Int):Prop where
 ex:∃ pc pt px cc ct cx C S M bud,Wr tN tb tv B O pc pt px cc ct cx C S M dep bud∧C.length=n∧n≤k∧S.length≤k∧M.length≤k
section
variable {tN:Nat} {tb:List UInt8} {tv:AVal} {pc pt px:Option (Nat × Nat)} {cc ct cx:Option Nat} {C:List InsU} {S:List TrapU} {M:List MapU} {dep bud:Int}
def killO:Option (Nat × Nat)→List AObj→List AObj
 | none,O=>O
 | some (i,_),O=>O.set i .dead
def killW:Option (Nat × Nat)→Nat→Nat
 | none,w=>w
 | some (i,_),w=>min w i
@[simp] theorem killO_len (p:Option (Nat × Nat)) (O:List AObj):(killO p O).length=O.length:=by
 cases p with
 | none=>rfl
 | some q=>obtain ⟨i,o⟩:=q; simp [killO]
end
end Go.Abs.AbsMake

namespace Go.Abs.AbsMake
open Go.Abs.AbsDesc Go.Abs.AbsHier
variable {os O B:List AObj} {b w:Nat} {tN:Nat} {tb:List UInt8} {tv:AVal} {pc pt px:Option (Nat × Nat)} {cc ct cx:Option Nat} {C:List InsU} {S:List TrapU} {M:List MapU} {dep bud:Int}
section
variable {α:Type} {N e:Nat} {f:α→List AVal} {L:List α} {p:Option (Nat × Nat)} {c:Option Nat}
end
end Go.Abs.AbsMake

namespace Go.Abs.AbsMake
open Go.Abs.AbsDesc Go.Abs.AbsHier
variable {os O B:List AObj} {b w:Nat} {tN:Nat} {tb:List UInt8} {tv:AVal} {n k:Nat} {dep:Int}
def Did (tN:Nat) (tb:List UInt8) (tv:AVal) (B:List AObj) (b:Nat) (g:Nat) (args:List AVal) (v:AVal) (O:List AObj) (P:List AObj→Prop):Prop :=
 ∃ O' m,P O'∧tN≤m∧m≤B.length∧∀ w,xCall T g args ⟨O,b,w⟩=some (v,⟨O',b,min w m⟩)
def KK:Nat→Nat
 | 0=>2
 | d+1=>2*KK d+1
def Expr (tN:Nat) (tb:List UInt8) (tv:AVal) (B:List AObj) (b:Nat) (dep:Int) (g:Nat) (x:Int) (j:Nat):Prop :=
 ∀ (O:List AObj) (n k:Nat),Ws tN tb tv B O n k dep→k+j≤100000→Did tN tb tv B b g [.ptr (some (B.length,0)),.int .i64 x] (.tuple []) O fun O'=>∃ n',n≤n'∧Ws tN tb tv B O' n' (k+j) dep
def acts151:List Int:=[96,100,104,108,126,130,120,112,128,124]
end Go.Abs.AbsMake

namespace Go.Abs.AbsMake
open Go.Abs.AbsDesc Go.Abs.AbsHier
variable {os O B:List AObj} {b w:Nat} {tN:Nat} {tb:List UInt8} {tv:AVal} {pc pt px:Option (Nat × Nat)} {cc ct cx:Option Nat} {C:List InsU} {S:List TrapU} {M:List MapU} {dep bud:Int} {n k:Nat}
end Go.Abs.AbsMake

namespace Go.Abs.AbsMake
open Go.Abs.AbsDesc Go.Abs.AbsHier
variable {os O B:List AObj} {b w:Nat} {tN:Nat} {tb:List UInt8} {tv:AVal} {pc pt px:Option (Nat × Nat)} {cc ct cx:Option Nat} {C:List InsU} {S:List TrapU} {M:List MapU} {dep bud:Int} {n k:Nat}
def localsL:List Str:=[[73],[73],[73],[74],[76,65,59],[91,73],[91,66]]
end Go.Abs.AbsMake

namespace Go.Abs.AbsMake
open Go.Abs.AbsDesc Go.Abs.AbsHier
variable {os O B:List AObj} {b w:Nat} {tN:Nat} {tb:List UInt8} {tv:AVal} {pc pt px:Option (Nat × Nat)} {cc ct cx:Option Nat} {C:List InsU} {S:List TrapU} {M:List MapU} {dep bud:Int} {n k:Nat}
theorem take_get {cs L:List AVal} {m e k:Nat} (h:List.take e (List.drop m cs)=L) (hk:k < e):cs[m+k]? = L[k]?:=by
 rw [← h,b0 hk,cf]
inductive StackOf (O:List AObj) (N:Nat):Option (Nat × Nat)→Option Nat→List Str→Prop
 | nil:StackOf O N none (some 0) []
 | one (q:Nat) (s:Str):N < q→s.length≤100→O[q]? = some (.cells 1 [.str s])→StackOf O N (some (q,0)) (some 1) [s]
theorem ids_slice {n m:Nat} {a:Option (Nat × Nat)} {c:Option Nat} (h:under n a):∀ i ∈ (AVal.slice a m c).ids,i < n:=by
 cases a with
 | none=>simp [AVal.ids]
 | some p=>obtain ⟨j,o⟩:=p; simp only [AVal.ids,bt]; rintro i rfl; exact h _ _ rfl
end Go.Abs.AbsMake

namespace Go.Abs.AbsMake
open Go.Abs.AbsDesc Go.Abs.AbsHier
variable {os O B:List AObj} {b w:Nat} {tN:Nat} {tb:List UInt8} {tv:AVal} {n k:Nat} {dep:Int}
end Go.Abs.AbsMake

namespace Go.Abs.AbsMake
open Go.Abs.AbsDesc Go.Abs.AbsHier
variable {os O B:List AObj} {b w:Nat} {tN:Nat} {tb:List UInt8} {tv:AVal} {n k:Nat} {dep:Int}
def acts183:List Int:=[97,101,105,109,127,131,113,129]
def acts183b:List Int:=[121,123,125]
end Go.Abs.AbsMake

namespace Go.Abs.AbsMake
open Go.Abs.AbsDesc Go.Abs.AbsHier
variable {os O B:List AObj} {b w:Nat} {tN:Nat} {tb:List UInt8} {tv:AVal} {dep:Int} {n k:Nat}
def Act (tN:Nat) (tb:List UInt8) (tv:AVal) (B:List AObj) (b:Nat) (dep:Int) (g:Nat) (args:List AVal) (j:Nat):Prop :=
 ∀ (O:List AObj) (n k:Nat),Ws tN tb tv B O n k dep→k+j≤100000→Did tN tb tv B b g args (.tuple []) O fun O'=>∃ n',n≤n'∧Ws tN tb tv B O' n' (k+j) dep
end Go.Abs.AbsMake

namespace Go.Abs.AbsMake
open Go.Abs.AbsDesc Go.Abs.AbsHier
variable {os O B:List AObj} {b w:Nat} {tN:Nat} {tb:List UInt8} {tv:AVal} {dep:Int} {n k:Nat}
end Go.Abs.AbsMake

namespace Go.Abs.AbsMake
open Go.Abs.AbsDesc Go.Abs.AbsHier
variable {os O B:List AObj} {b w:Nat} {tN:Nat} {tb:List UInt8} {tv:AVal} {dep:Int} {n k:Nat}
end Go.Abs.AbsMake

namespace Go.Abs.AbsMake
open Go.Abs.AbsDesc Go.Abs.AbsHier
variable {os O B:List AObj} {b w:Nat} {tN:Nat} {tb:List UInt8} {tv:AVal} {dep:Int} {n k:Nat}
def acts185:List Int:=[153,154,155,156,157,158]
end Go.Abs.AbsMake

namespace Go.Abs.AbsMake
open Go.Abs.AbsDesc Go.Abs.AbsHier
variable {os O B:List AObj} {b w:Nat} {tN:Nat} {tb:List UInt8} {tv:AVal} {dep:Int} {n k:Nat}
def clsR:List AVal:=[.str [],.str [84,104,114,111,119,97,98,108,101],.str [77,97,116,104,70,97,117,108,116],.str [79,111,112,115],.str [78,117,108,108,70,97,117,108,116]]
end Go.Abs.AbsMake

namespace Go.Abs.AbsMake
open Go.Abs.AbsDesc Go.Abs.AbsHier
variable {os O B:List AObj} {b w:Nat} {tN:Nat} {tb:List UInt8} {tv:AVal} {dep:Int} {n k:Nat}
end Go.Abs.AbsMake

namespace Go.Abs.AbsMake
open Go.Abs.AbsDesc Go.Abs.AbsHier
variable {os O B:List AObj} {b w:Nat} {tN:Nat} {tb:List UInt8} {tv:AVal} {n k:Nat} {dep:Int}
end Go.Abs.AbsMake

namespace Go.Abs.AbsMake
open Go.Abs.AbsDesc Go.Abs.AbsHier
variable {os O B:List AObj} {b w:Nat} {tN:Nat} {tb:List UInt8} {tv:AVal} {dep:Int} {n k:Nat}
def JJ:Nat→Nat
 | 0=>13
 | r+1=>6*JJ r+13
end Go.Abs.AbsMake

namespace Go.Abs
def renA (f:Nat→Nat):Option (Nat × Nat)→Option (Nat × Nat)
 | none=>none
 | some (i,o)=>some (f i,o)
theorem renL_map (f:Nat→Nat):∀ l:List AVal,AVal.renL f l=l.map (AVal.ren f)
 | []=>rfl
 | a :: l=>by simp only [AVal.renL,dx,renL_map f l]
theorem idsL_flat:∀ l:List AVal,AVal.idsL l=l.flatMap AVal.ids
 | []=>rfl
 | a :: l=>by simp only [AVal.idsL,ei,idsL_flat l]
structure Moves (f:Nat→Nat) (I:Nat→Prop) (n:Nat) (O O':List AObj):Prop where
 at':∀ i obj,I i→O[i]? = some obj→O'[f i]? = some (obj.ren f)
 cl:∀ i obj,I i→O[i]? = some obj→∀ j ∈ obj.ids,n≤j→I j
 up:∀ i,n≤i→n≤f i
section
variable {f:Nat→Nat} {I:Nat→Prop} {n:Nat} {O O':List AObj}
def over (n:Nat) (a:Option (Nat × Nat)):Prop:=∀ i o,a=some (i,o)→n≤i
def inI (I:Nat→Prop) (a:Option (Nat × Nat)):Prop:=∀ i o,a=some (i,o)→I i
def MapU.ren (f:Nat→Nat) (x:MapU):MapU:={ x with la:=renA f x.la,sa:=renA f x.sa }
def MethU.ren (f:Nat→Nat) (m:MethU):MethU:={ m with ca:=renA f m.ca,ta:=renA f m.ta,maps:=m.maps.map (MapU.ren f),xa:=renA f m.xa }
def UnitU.ren (f:Nat→Nat) (u:UnitU):UnitU:={ u with fa:=renA f u.fa,meths:=u.meths.map (MethU.ren f),ma:=renA f u.ma }
structure MapU.over (n:Nat) (x:MapU):Prop where
 l:Go.Abs.over n x.la
 s:Go.Abs.over n x.sa
structure MethU.over (n:Nat) (m:MethU):Prop where
 c:Go.Abs.over n m.ca
 t:Go.Abs.over n m.ta
 x:Go.Abs.over n m.xa
 xs:∀ x ∈ m.maps,x.over n
structure UnitU.over (n:Nat) (u:UnitU):Prop where
 f:Go.Abs.over n u.fa
 m:Go.Abs.over n u.ma
 ms:∀ m ∈ u.meths,m.over n
end
end Go.Abs

namespace Go.Abs.AbsMake
open Go.Abs.AbsDesc Go.Abs.AbsHier
variable {os O B:List AObj} {b w:Nat} {tN:Nat} {tb:List UInt8} {tv:AVal} {dep:Int} {n k:Nat}
def Keep1 (O O':List AObj):Prop:=∀ (q:Nat) (cs:List AVal),O[q]? = some (.cells 1 cs)→O'[q]? = some (.cells 1 cs)
def rowT:List AVal:=[.int .i64 1,.int .i64 2]
end Go.Abs.AbsMake

namespace Go.Abs.AbsMake
open Go.Abs.AbsDesc Go.Abs.AbsHier
variable {os O B:List AObj} {b w:Nat} {tN:Nat} {tb:List UInt8} {tv:AVal} {dep:Int} {n k:Nat} {pc pt px:Option (Nat × Nat)} {cc ct cx:Option Nat} {C:List InsU} {S:List TrapU} {M:List MapU} {bud:Int}
def descII:Str:=[40,73,41,73]
structure Made (O:List AObj) (tN:Nat) (tb:List UInt8) (tv:AVal) (st:Bool) (nm:Str) (O':List AObj) (m:MethU):Prop where
 st:m.st=st
 name:m.name=nm
 desc:m.desc=descII
 ok:m.ok O'
 over:m.over O.length
 fits:m.fits
 keep:∀ i,i < O.length→i≠tN→O'[i]? = O[i]?
 tape:∃ p,Tape O' tN tb tv p
 traps:∀ x ∈ m.traps,x.cls ∈ classesT
end Go.Abs.AbsMake

namespace Go.Abs.AbsMake
open Go.Abs.AbsDesc Go.Abs.AbsHier
variable {os O B:List AObj} {b w:Nat} {tN:Nat} {tb:List UInt8} {tv:AVal} {dep:Int} {n k:Nat}
def acts101:List Int:=[96,104,130]
def zeroM:List AVal:=[.bool false,.str [],.str [],.int .i64 0,.int .i64 0,.slice none 0 (some 0),.slice none 0 (some 0),.slice none 0 (some 0)]
end Go.Abs.AbsMake

namespace Go.Abs.AbsMake
open Go.Abs.AbsDesc Go.Abs.AbsHier
variable {os O B:List AObj} {b w:Nat} {tN:Nat} {tb:List UInt8} {tv:AVal} {dep:Int} {n k:Nat}
end Go.Abs.AbsMake

namespace Go.Abs.AbsMake
open Go.Abs.AbsDesc Go.Abs.AbsHier
variable {os O P Q B:List AObj} {b w:Nat} {tN:Nat} {tb:List UInt8} {tv:AVal} {n:Nat}
structure KeepX (t:Nat) (P Q:List AObj):Prop where
 at':∀ i o,i≠t→P[i]? = some o→Q[i]? = some o
 len:P.length≤Q.length
structure MOk (n:Nat) (P:List AObj) (st:Bool) (nm:Str) (m:MethU):Prop where
 st:m.st=st
 name:m.name=nm
 desc:m.desc=descII
 ok:m.ok P
 over:m.over n
 fits:m.fits
 traps:∀ x ∈ m.traps,x.cls ∈ classesT
structure Good (P:List AObj) (tN:Nat) (tb:List UInt8) (tv:AVal):Prop where
 tape:∃ p,Tape P tN tb tv p
 tv:TapeV P tN tb tv
end Go.Abs.AbsMake

namespace Go.Abs.AbsMake
open Go.Abs.AbsDesc Go.Abs.AbsHier
variable {os O P Q B:List AObj} {b w:Nat} {tN:Nat} {tb:List UInt8} {tv:AVal} {n:Nat}
def mainT:Str:=[77,97,105,110]
def fieldsM:List FieldU:=[⟨true,[115],[73]⟩,⟨true,[111],[76,65,59]⟩]
def fieldsA:List FieldU:=[⟨false,[102],[73]⟩,⟨false,[108],[74]⟩,⟨false,[110,101,120,116],[76,65,59]⟩]
def fieldsB:List FieldU:=[⟨false,[103],[73]⟩]
def sk (m:MethU):Bool × Str × Str:=(m.st,m.name,m.desc)
structure Skel (L:List UnitU):Prop where
 traps:∀ u ∈ L,∀ m ∈ u.meths,∀ t ∈ m.traps,t.cls ∈ classesT
 ex:∃ u1 u2 u3 u4,L=[u1,u2,u3,u4] ∧
  (u1.name=mainT∧u1.super=objectT∧u1.fields=fieldsM∧u1.meths.map sk=[(true,[109,97,105,110],descII),(true,[104,101,108,112],descII)]) ∧
  (u2.name=[65]∧u2.super=objectT∧u2.fields=fieldsA∧u2.meths.map sk=[(false,[118],descII)]) ∧
  (u3.name=[66]∧u3.super=[65]∧u3.fields=fieldsB∧(u3.meths.map sk=[]∨u3.meths.map sk=[(false,[118],descII)])) ∧
  (u4.name=[79,111,112,115]∧u4.super=[84,104,114,111,119,97,98,108,101]∧u4.fields=[]∧u4.meths.map sk=[])
end Go.Abs.AbsMake

namespace Go.Abs.AbsMake
open Go.Abs.AbsDesc Go.Abs.AbsHier
variable {os O P Q B:List AObj} {b w:Nat} {tN:Nat} {tb:List UInt8} {tv:AVal} {n:Nat}
end Go.Abs.AbsMake

namespace Go.Abs.AbsMake
open Go.Abs.AbsDesc Go.Abs.AbsHier
variable {os O P Q B:List AObj} {b w:Nat} {tN:Nat} {tb:List UInt8} {tv:AVal} {n:Nat}
def RowIs {α:Type} (Q:List AObj) (n e:Nat) (f:α→List AVal) (L:List α) (a:Option (Nat × Nat)):Prop:=L=[]∧a=none∨∃ q,a=some (q,0)∧n≤q∧Q[q]? = some (.cells e (L.flatMap f))
end Go.Abs.AbsMake

namespace Go.Abs.AbsMake
open Go.Abs.AbsDesc Go.Abs.AbsHier
variable {os O P Q B:List AObj} {b w:Nat} {tN:Nat} {tb:List UInt8} {tv:AVal} {n:Nat}
end Go.Abs.AbsMake

namespace Go.Abs.AbsMake
open Go.Abs.AbsDesc Go.Abs.AbsHier
end Go.Abs.AbsMake

namespace Go.Abs.AbsMake
open Go.Abs.AbsDesc Go.Abs.AbsHier
section
variable {S:List (Str × Str)}
end
end Go.Abs.AbsMake

namespace Go.Abs.AbsOrd
open Go.Abs.AbsDesc Go.Abs.AbsHier
open Go.Abs.AbsMake hiding T sub
variable {os O:List AObj} {b w:Nat}
theorem subH:∀ g f,AbsHier.T g=some f→AbsOrd.T g=some f:=fun g f h=>AbsOrd.sub g f (AbsMake.sub g f h)
end Go.Abs.AbsOrd

namespace Go.Abs.AbsHier
open Go.Abs.AbsDesc
variable {os O:List AObj} {b w:Nat}
end Go.Abs.AbsHier

namespace Go.Abs.AbsHier
open Go.Abs.AbsDesc
variable {os O:List AObj} {b w:Nat}
theorem ids_slice {n m:Nat} {a:Option (Nat × Nat)} {c:Option Nat} (h:under n a):∀ i ∈ (AVal.slice a m c).ids,i < n:=by
 cases a with
 | none=>simp [AVal.ids]
 | some p=>obtain ⟨j,o⟩:=p; simp only [AVal.ids,bt]; rintro i rfl; exact h _ _ rfl
end Go.Abs.AbsHier

namespace Go.Abs.AbsHier
open Go.Abs.AbsDesc
variable {os O H:List AObj} {b w:Nat}
theorem gk {α:Type} {L:List α} {i:Nat} {x:α} (h:L[i]? = some x):L.drop i=x :: L.drop (i+1):=by
 have:=ah h
 rw [ag this] at h
 rw [List.drop_eq_getElem_cons this,cq h]
def fieldAt (L:List FieldU) (n d:Str):Option FieldU:=L.find? fun x=>decide (x.name=n) && decide (x.desc=d)
end Go.Abs.AbsHier

namespace Go.Abs.AbsHier
open Go.Abs.AbsDesc
variable {os O H:List AObj} {b w:Nat}
structure Units (O:List AObj) (W:List UnitU) (a:Option (Nat × Nat)):Prop where
 r:Row O 4 UnitU.cells W a
 n:W.length≤200
 ok:∀ u ∈ W,u.ok O
end Go.Abs.AbsHier

namespace Go.Abs.AbsHier
open Go.Abs.AbsDesc
variable {os O H:List AObj} {b w:Nat}
end Go.Abs.AbsHier

namespace Go.Abs.AbsHier
open Go.Abs.AbsDesc
variable {os O H:List AObj} {b w:Nat}
end Go.Abs.AbsHier

namespace Go.Abs.AbsHier
open Go.Abs.AbsDesc
variable {os O H:List AObj} {b w:Nat}
end Go.Abs.AbsHier

namespace Go.Abs.AbsHier
open Go.Abs.AbsDesc
variable {os O H:List AObj} {b w:Nat}
end Go.Abs.AbsHier

namespace Go.Abs.AbsHier
open Go.Abs.AbsDesc
variable {os O H:List AObj} {b w:Nat}
end Go.Abs.AbsHier

namespace Go.Abs
variable {α:Type} {e:Nat} {f:α→List AVal} {O P:List AObj} {A:List α} {v:AVal} {b:Nat}
structure Acc (e:Nat) (f:α→List AVal) (O:List AObj) (A:List α) (P:List AObj) (v:AVal):Prop where
 pre:Pre O P
 val:(A=[]∧v = .slice none 0 (some 0))∨(A≠[]∧∃ i,O.length≤i∧v = .slice (some (i,0)) A.length none∧P[i]? = some (.cells e (A.flatMap f)))
theorem Acc.nil:Acc e f O [] O (.slice none 0 (some 0)):=⟨Pre.refl _,.inl ⟨rfl,rfl⟩⟩
def newV (n:Nat) (A:List α):AVal:=if A=[] then .slice none 0 (some 0) else .slice (some (n,0)) A.length none
def newO (e:Nat) (f:α→List AVal) (O:List AObj) (A:List α):List AObj:=if A=[] then O else O++[.cells e (A.flatMap f)]
theorem newO_pre:Pre O (newO e f O A):=by
 unfold newO
 split
 ·exact Pre.refl _
 ·exact Pre.app _ _
def newA (n:Nat) (A:List α):Option (Nat × Nat):=if A=[] then none else some (n,0)
def newC (A:List α):Option Nat:=if A=[] then some 0 else none
theorem newV_eq (n:Nat) (A:List α):newV n A = .slice (newA n A) A.length (newC A):=by
 unfold newV newA newC
 split
 ·rename_i h; rw [h]; rfl
 ·rfl
theorem new_row (hf:∀ y,(f y).length=e):Row (newO e f O A) e f A (newA O.length A):=by
 unfold newO newA
 split
 ·rename_i h; subst h; exact ⟨fun h=>absurd rfl h⟩
 ·exact Row.mk0 hf (by rw [gd]; rfl)
def Keeps (P P':List AObj) (n:Nat) (v:AVal):Prop:=∀ (k:Nat) (o:AObj),P[k]? = some o→v ≠ .slice (some (k,0)) n none→P'[k]? = some o
theorem Acc.add (h:Acc e f O A P v) (hf:∀ y,(f y).length=e) (hb:b≤O.length) {by':Nat} (hl:(A.length+1)*by'≤140737488355328) (hl2:A.length≤1000000000) (x:α) :
  ∃ P' v',∃ nx:Nat→Nat,Acc e f O (A++[x]) P' v'∧(∀ w,O.length≤w→O.length≤nx w)∧((∀ w,nx w≤w∧(A≠[]→nx w < P.length))∧Keeps P P' A.length v∧v' = .slice (some (P.length+1,0)) (A.length+1) none)∧∀ w,aAppend e by' ⟨P++[.cells e (f x)],b,w⟩ v (.slice (some (P.length,0)) 1 (some 1))=some (v',⟨P',b,nx w⟩):=by
 have hz:∀ w,rowOf e ⟨P++[.cells e (f x)],b,w⟩ (.slice (some (P.length,0)) 1 (some 1))=some (f x):=fun w =>
  rowOfC (by show (P++[AObj.cells e (f x)])[P.length]? = _; rw [gd]; rfl) (by rw [hf,Nat.one_mul])
 have hs:(P++[AObj.cells e (f x)]).length=P.length+1:=by simp
 have he:(A++[x]).flatMap f=A.flatMap f++f x:=by simp
 have hlen:(A++[x]).length=A.length+1:=by simp
 have hne:A++[x]≠[]:=by simp
 have hpl:=h.pre.len
 rcases h.val with ⟨rfl,rfl⟩ | ⟨h1,i,h2,rfl,h4⟩
 ·refine ⟨P++[.cells e (f x),.cells e (f x)],.slice (some (P.length+1,0)) 1 none,id,⟨h.pre.trans (Pre.app _ _),.inr ⟨hne,P.length+1,by omega,by rw [hlen]; rfl,by rw [get_k]; simp⟩⟩,fun w hw=>hw,⟨fun w=>⟨aj w,fun h=>absurd rfl h⟩,fun k o hk _=>by rw [ai (ah hk)]; exact hk,by simp⟩,fun w=>?_⟩
  unfold aAppend
  simp only [hz,rowOf0,aApp,alen]
  have q1:¬ (1:Nat)=0:=by decide
  have q2:(0+1)*by'≤140737488355328∧0+1≤9223372036854775807:=⟨by simpa using hl,by decide⟩
  simp only [eq_false q1,eq_true q2,if_false,if_true]
  simp [Heap.push,Heap.size]
 ·have hi:=ah h4
  have h5:(P++[AObj.cells e (f x)])[i]? = some (.cells e (A.flatMap f)):=by rw [ai hi]; exact h4
  have hfl:(A.flatMap f).length=A.length*e:=flat_len f e hf A
  have hz1:∀ w,rowOf e ⟨P++[.cells e (f x)],b,w⟩ (.slice (some (i,0)) A.length none)=some (A.flatMap f):=fun w=>rowOfC h5 hfl
  have hr:∀ w,rowIs ⟨P++[.cells e (f x)],b,w⟩ i e=true:=fun w=>by
   unfold rowIs Heap.get
   simp only [h5]
   simp
  refine ⟨P.set i .dead++[.cells e (f x),.cells e ((A++[x]).flatMap f)],.slice (some (P.length+1,0)) (A++[x]).length none,fun w=>min w i,⟨?_,.inr ⟨hne,P.length+1,by omega,rfl,?_⟩⟩,fun w hw=>by show O.length≤min w i; omega,⟨fun w=>⟨by show min w i≤w; omega,fun _=>by show min w i < P.length; omega⟩,fun k o hk hne=>by
   rw [ai (by rw [e8]; exact ah hk),bj (fun e=>hne (by rw [e]))]; exact hk,by rw [hlen]⟩,fun w=>?_⟩
  ·exact (h.pre.set .dead h2).trans (Pre.app _ _)
  ·rw [ak (by simp)]
   simp
  ·unfold aAppend
   simp only [hz,hz1,aApp,alen]
   have q1:¬ (1:Nat)=0:=by decide
   have q2:(A.length+1)*by'≤140737488355328∧A.length+1≤9223372036854775807:=⟨hl,by omega⟩
   have q3:¬ (none:Option Nat)=some A.length:=by simp
   have q4:(⟨P++[AObj.cells e (f x)],b,w⟩:Heap).base≤i∧rowIs ⟨P++[AObj.cells e (f x)],b,w⟩ i e=true:=⟨by show b≤i; omega,hr w⟩
   simp only [eq_false q1,eq_true q2,eq_false q3,eq_true q4,if_false,if_true]
   simp only [Heap.push,Heap.put,Heap.size,List.set_append_left _ _ hi,e8,hs,he,hlen,bc,ci,cj]
theorem idsL_none {L:List AVal} (h:∀ x ∈ L,x.ids=[]):AVal.idsL L=[]:=by
 rw [idsL_flat,List.flatMap_eq_nil_iff]; exact h
theorem Acc.fin (h:Acc e f O A P v) (hi:∀ x,AVal.idsL (f x)=[]) (hr:∀ g x,AVal.renL g (f x)=f x) {w0 W:Nat} (hW:O.length≤W):finish ⟨O,b,w0⟩ v ⟨P,b,W⟩=(newV O.length A,⟨newO e f O A,b,w0⟩):=by
 have hia:AVal.idsL (A.flatMap f)=[]:=by
  refine idsL_none fun y hy=>?_
  obtain ⟨x,hx,hy⟩:=da.1 hy
  have:=hi x
  rw [idsL_flat,List.flatMap_eq_nil_iff] at this
  exact this y hy
 have hra:∀ g,AVal.renL g (A.flatMap f)=A.flatMap f:=fun g=>by
  have:∀ L:List α,AVal.renL g (L.flatMap f)=L.flatMap f:=fun L=>by
   induction L with
   | nil=>rfl
   | cons x L ih=>rw [ei,renL_app,hr,ih]
  exact this A
 have hw2:(⟨O,b,w0⟩:Heap).size≤(⟨P,b,W⟩:Heap).wmin:=hW
 rcases h.val with ⟨rfl,rfl⟩ | ⟨h1,i,h2,rfl,h4⟩
 ·have hw3:¬ W < O.length:=by omega
  simp [finish,newV,newO,Heap.size,hw3,AVal.under]
 ·have hv:AVal.under (⟨O,b,w0⟩:Heap).size (.slice (some (i,0)) A.length none)=false:=by
   have:¬ i < O.length:=by omega
   simp [AVal.under,Heap.size,this]
  have hg:(⟨P,b,W⟩:Heap).get i=some (.cells e (A.flatMap f)):=h4
  have hreach:reach ⟨P,b,W⟩ (⟨O,b,w0⟩:Heap).size 1000 (AVal.slice (some (i,0)) A.length none).ids []=[i]:=by
   simp only [AVal.ids]
   rw [reach,if_neg (by show ¬ i < O.length; omega),if_neg (by simp),hg]
   simp only [bu,dl,AObj.ids,hia,cj]
   rfl
  refine (finish_keep hw2 hv hreach fun j hj=>?_).trans ?_
  ·simp only [AVal.ids,ei,List.flatMap_nil,hg,bu,dl,AObj.ids,hia,List.append_nil,ce,List.not_mem_nil,or_false] at hj
   subst hj
   exact .inr (cw _)
  ·have key:∀ g:Nat→Nat,g i=O.length→((AVal.slice (some (i,0)) A.length none).ren g,(⟨O++[AObj.cells e (A.flatMap f)],b,w0⟩:Heap))=(newV O.length A,⟨newO e f O A,b,w0⟩):=fun g hg'=>by
    unfold newV newO
    rw [if_neg h1,if_neg h1]
    simp only [AVal.ren,hg']
   simp only [Heap.size,dx,List.map_nil,hg,bu,dl,AObj.ren,hra]
   exact key _ ((if_neg (show ¬ i < O.length by omega)).trans (by simp [idxIn]))
theorem Acc.new (hp:Pre O P):Acc e f O A (newO e f P A) (newV P.length A):=by
 refine ⟨hp.trans newO_pre,?_⟩
 unfold newO newV
 by_cases h:A=[]
 ·exact .inl ⟨h,by rw [if_pos h]⟩
 ·exact .inr ⟨h,P.length,hp.len,by rw [if_neg h],by rw [if_neg h,gd]; rfl⟩
theorem Acc.row (h:Acc e f O A P v) (hf:∀ y,(f y).length=e):∃ p c,v = .slice p A.length c∧Row P e f A p:=by
 rcases h.val with ⟨rfl,rfl⟩ | ⟨_,i,_,rfl,hi⟩
 ·exact ⟨_,_,rfl,⟨fun h=>absurd rfl h⟩⟩
 ·exact ⟨_,_,rfl,Row.mk0 hf hi⟩
end Go.Abs

namespace Go.Abs.AbsFlow
open Go.Abs.AbsDesc Go.Abs.AbsHier
open Go.Abs.AbsOrd hiding T sub
variable {os O:List AObj} {b w:Nat}
theorem subT:∀ g f,AbsHier.T g=some f→AbsFlow.T g=some f:=fun g f h=>AbsFlow.sub g f (AbsOrd.subH g f h)
def endsC (c:Int):Bool:=decide (c=167) || (decide (c=191) || (decide (c=172) || (decide (c=173) || (decide (c=176) || decide (c=177)))))
section
attribute [-simp] getElem?_pos getElem?_neg List.all_eq_true
attribute [local simp] gz gs nltT nltF iltT iltF ileT nleT eu
theorem s73 {c:Int} {h:Heap}:xCall T 73 [.int .u8 c] h=some (.bool (endsC c),h):=by
 obtain ⟨os,b,w⟩:=h
 unfold endsC
 by_cases c1:c=167
 ·subst c1; simp (disch:=omega) [bf t73,code73]
 ·by_cases c2:c=191
  ·subst c2; simp (disch:=omega) [bf t73,code73]
  ·by_cases c3:c=172
   ·subst c3; simp (disch:=omega) [bf t73,code73]
   ·by_cases c4:c=173
    ·subst c4; simp (disch:=omega) [bf t73,code73]
    ·by_cases c5:c=176
     ·subst c5; simp (disch:=omega) [bf t73,code73]
     ·by_cases c6:c=177
      ·subst c6; simp (disch:=omega) [bf t73,code73]
      ·simp (disch:=omega) [bf t73,code73,c1,c2,c3,c4,c5,c6]
end
def inI (a lo hi:Int):Bool:=decide (lo≤a) && decide (a≤hi)
section
attribute [-simp] getElem?_pos getElem?_neg List.all_eq_true
attribute [local simp] gz gs nltT nltF iltT iltF ileT nleT eu
theorem s164 {a lo hi:Int} {h:Heap}:xCall T 164 [.int .i64 a,.int .i64 lo,.int .i64 hi] h=some (.bool (inI a lo hi),h):=by
 obtain ⟨os,b,w⟩:=h
 unfold inI
 by_cases c1:lo≤a
 ·by_cases c2:a≤hi <;> simp (disch:=omega) [bf t164,code164,c1,c2]
 ·simp (disch:=omega) [bf t164,code164,c1]
theorem s131 {m:MethU} {i:Int} {h:Heap} (hn:m.code.length≤reachB):xCall T 131 [.agg m.cells,.int .i64 i] h=some (.bool (inI i 0 (m.code.length - 1)),h):=by
 have hrb:reachB=140737488351232:=rfl
 have hcm:m.cells=[.bool m.st,.str m.name,.str m.desc,.int .i64 m.stack,.int .i64 m.locals,.slice m.ca m.code.length m.cc,.slice m.ta m.traps.length m.tc,.slice m.xa m.maps.length m.xc]:=rfl
 obtain ⟨os,b,w⟩:=h
 have h164:=fun a lo hi h=>s164 (a:=a) (lo:=lo) (hi:=hi) (h:=h)
 simp (disch:=omega) [bf t131,code131,hcm,h164]
theorem s132 {x:MapU} {k:Nat} {i:Int} (hk:O[k]? = some (.cells 1 [.int .i64 i])) (w:Nat):xCall T 132 [.agg x.cells,.ptr (some (k,0))] ⟨O,b,w⟩=some (.bool (decide (x.at'=i)),⟨O,b,w⟩):=by
 have hcx:x.cells=[.int .i64 x.at',.slice x.la x.locals.length x.lc,.slice x.sa x.stack.length x.sc]:=rfl
 simp (disch:=omega) [bf t132,code132,hcx,hk]
end
theorem s133 {L:List MapU} {a:Option (Nat × Nat)} {c:Option Nat} {k:Nat} {i:Int} (hR:Row O 3 MapU.cells L a) (hn:L.length≤reachB) (hk:O[k]? = some (.cells 1 [.int .i64 i])) :
  xCall T 133 [.slice a L.length c,.func 132 [] [.ptr (some (k,0))]] ⟨O,b,w⟩=some (.int .i64 (firstIx (fun x=>decide (x.at'=i)) L 0),⟨O,b,w⟩):=by
 have hrb:reachB=140737488351232:=rfl
 have hl:=loop_find (T:=T) (c:=code133L0) (fun x:MapU=>decide (x.at'=i)) L (fun j=>⟨[(0,.val (.slice a L.length c)),(1,.val (.func 132 [] [.ptr (some (k,0))])),(7,.val (.int .i64 L.length)),(8,.val (.int .i64 j))],⟨O,b,O.length⟩⟩)
  (fun j=>⟨[(4,.val (.int .i64 j))],⟨O,b,O.length⟩⟩) .ret (.exit 0) ⟨[],⟨O,b,O.length⟩⟩ ?_ (by simp) (by simp) (by simp [code133L0])
 ·rcases hl with ⟨h1,h2⟩ | ⟨j,x,h1,h2,h3,h4⟩
  ·rw [List.any_eq_false] at h1
   rw [firstIx_none _ L 0 fun x hx=>by simpa using h1 x hx]
   simp only [b7] at h2
   simp [xCall_eq T t133,code133,h2]
  ·rw [firstIx_at _ L 0 j x h1 h2 h3]
   simp only [b7] at h4
   simp [xCall_eq T t133,code133,h4]
 ·intro j x hx
  obtain ⟨bb,o,cs,rfl,hrow,hpart⟩:=hR.at' (ne_of_get hx)
  obtain ⟨p1,p2⟩:=hpart j x hx
  have hw:=wrap_next (get_lt hx) (by omega)
  have hi':(j:Int) < (L.length:Int):=by have:=get_lt hx; omega
  have hge:(0:Int)≤j:=by omega
  have hgx:=fun w=>s132 (b:=b) (x:=x) hk w
  by_cases hp:x.at'=i
  ·rw [decide_eq_true hp] at hgx
   simp [code133L0,hi',hge,hrow,p2,hgx,hp,p1]
  ·rw [decide_eq_false hp] at hgx
   simp [code133L0,hi',hge,hrow,p2,hgx,hp,hw,p1]
theorem firstIx_get {α:Type} (p:α→Bool):∀ (l:List α) (i:Nat),l.any p=true→∃ (j:Nat) (x:α),l[j]? = some x∧p x=true∧firstIx p l i=((i+j:Nat):Int)
 | [],_,h=>by simp at h
 | x :: l,i,h=>by
  by_cases hp:p x=true
  ·exact ⟨0,x,rfl,hp,by simp [firstIx,hp]⟩
  ·have hp:p x=false:=by simpa using hp
   rw [List.any_cons,hp,Bool.false_or] at h
   obtain ⟨j,y,h1,h2,h3⟩:=firstIx_get p l (i+1) h
   refine ⟨j+1,y,by simpa using h1,h2,?_⟩
   simp only [firstIx,hp,ba,if_false,h3]
   omega
theorem underV {n:Nat} {a:Option (Nat × Nat)} {l:Nat} {c:Option Nat} (h:under n a):(AVal.slice a l c).under n=true:=by
 cases a with
 | none=>rfl
 | some p =>
  obtain ⟨i,o⟩:=p
  have:=h i o rfl
  simp [AVal.under,this]
def formTab:List Int:=[1,1,1,1,1,1,1,1,1,1,1,0,0,0,0,0,3,4,5,0,6,2,2,0,0,2,0,0,0,0,0,0,0,0,0,0,0,0,0,0,0,0,0,0,0,0,1,0,0,0,1,1,0,0,2,2,0,0,2,0,0,0,0,0,0,0,0,0,0,0,0,0,0,0,0,0,0,0,0,1,0,0,0,1,1,0,0,1,0,1,0,0,0,0,0,1,1,1,0,0,1,1,0,0,1,1,0,0,1,1,0,0,1,1,0,0,1,1,0,0,1,1,1,1,1,1,1,1,1,1,1,1,8,1,0,0,1,0,0,0,0,0,0,0,0,1,0,0,1,0,0,0,0,7,7,7,7,7,7,7,7,7,7,7,7,7,7,7,0,0,0,0,1,1,0,0,1,1,6,6,6,6,6,0,6,0,0,6,9,6,1,1,6,6,0,0,0,0,7,7,0,0,0,0,0,0,0,0,0,0,0,0,0,0,0,0,0,0,0,0,0,0,0,0,0,0,0,0,0,0,0,0,0,0,0,0,0,0,0,0,0,0,0,0,0,0,0,0,0,0,0,0,0,0,0,0]
def formN (c:Int):Int:=formTab.getD c.toNat 0
theorem s165 {h:Heap}:xCall T 165 [] h=some (.agg (formTab.map (AVal.int .u8)),h) :=
 closed_run (f:=code165) t165 rfl 60 rfl (by decide +kernel) (h':=⟨[],0,0⟩) (by kernel_rfl) h
theorem s130 {c:Int} {h:Heap} (h0:0≤c) (h1:c < 256):xCall T 130 [.int .u8 c] h=some (.int .i64 (formN c),h):=by
 obtain ⟨os,b,w⟩:=h
 obtain ⟨k,rfl⟩:=dc h0
 have hl:formTab.length=256:=by decide +kernel
 have hk:k < formTab.length:=by omega
 have hx:formTab[k]? = some (formN (k:Nat)):=by
  unfold formN
  rw [Int.toNat_natCast,dm,ag hk]; rfl
 have hr:∀ x ∈ formTab,0≤x∧x < 256:=by decide +kernel
 have hn:=hr _ (aq hx)
 have h165:=fun h=>s165 (h:=h)
 generalize formN (k:Nat)=v at *
 have hm:(formTab.map (AVal.int .u8))[k]? = some (.int .u8 v):=by rw [bz,hx]; rfl
 generalize formTab.map (AVal.int .u8)=X at *
 have hk2:(k:Int) < 256:=by omega
 simp (disch:=omega) [-getElem?_pos,-getElem?_neg,-List.all_eq_true,gz,gs,nltT,nltF,iltT,iltF,ileT,nleT,eu,bf t130,code130,h165,hm,hk2]
end Go.Abs.AbsFlow

namespace Go.Abs.AbsFlow
open Go.Abs.AbsDesc Go.Abs.AbsHier
open Go.Abs.AbsOrd hiding T sub
variable {os O:List AObj} {b w:Nat}
def intC (n:Int):List AVal:=[.int .i64 n]
theorem ea (n:Int):(intC n).length=1:=rfl
theorem idsI (n:Int):AVal.idsL (intC n)=[]:=rfl
theorem renI (g:Nat→Nat) (n:Int):AVal.renL g (intC n)=intC n:=rfl
end Go.Abs.AbsFlow

namespace Go.Abs.AbsFlow
open Go.Abs.AbsDesc Go.Abs.AbsHier
open Go.Abs.AbsOrd hiding T sub
variable {os O:List AObj} {b w:Nat}
theorem int_at {L:List Int} {a:Option (Nat × Nat)} {i:Nat} {x:Int} (h:Row O 1 intC L a) (hx:L[i]? = some x):∃ p o cs,a=some (p,o)∧O[p]? = some (.cells 1 cs)∧cs[o+i]? = some (.int .i64 x):=by
 obtain ⟨p,o,cs,h1,h2,h3,h4,h5⟩:=row_at h hx
 have h6:=Go.Abs.AbsMake.take_get (k:=0) h5 (by decide)
 refine ⟨p,o,cs,h1,h2,?_⟩
 rw [Nat.mul_one,Nat.add_zero] at h6
 rw [h6]; rfl
def inM (m:MethU) (i:Int):Bool:=inI i 0 (m.code.length - 1)
end Go.Abs.AbsFlow

namespace Go.Abs.AbsFlow
open Go.Abs.AbsDesc Go.Abs.AbsHier
open Go.Abs.AbsOrd hiding T sub
variable {os O:List AObj} {b w:Nat}
end Go.Abs.AbsFlow

namespace Go.Abs.AbsFlow
open Go.Abs.AbsDesc Go.Abs.AbsHier
open Go.Abs.AbsOrd hiding T sub
variable {os O:List AObj} {b w:Nat}
end Go.Abs.AbsFlow

namespace Go.Abs.AbsFlow
open Go.Abs.AbsDesc Go.Abs.AbsHier
open Go.Abs.AbsOrd hiding T sub
variable {os O:List AObj} {b w:Nat}
section
attribute [-simp] getElem?_pos getElem?_neg List.all_eq_true
attribute [local simp] gz gs nltT nltF iltT iltF ileT nleT eu
theorem s217 {x:Int} {h:Heap}:xCall T 217 [.int .i64 x] h=some (.bool false,h):=by
 obtain ⟨os,b,w⟩:=h
 simp (disch:=omega) [bf t217,code217]
theorem s193 {x y:Int} {h:Heap}:xCall T 193 [.int .i64 x,.int .i64 y] h=some (.bool (decide (x < y)),h):=by
 obtain ⟨os,b,w⟩:=h
 have h217:=fun x h=>s217 (x:=x) (h:=h)
 by_cases c:x < y
 ·simp (disch:=omega) [bf t193,code193,h217,c]
 ·simp (disch:=omega) [bf t193,code193,h217,c]
theorem s166 {n:Int} (hn:n=0∨n=1∨n=2) {h:Heap}:∃ k:Int,xCall T 166 [.int .u64 n] h=some (.int .i64 k,h):=by
 obtain ⟨os,b,w⟩:=h
 have q0:IntKind.u8.wrap 0=0:=by decide
 have q1:IntKind.u8.wrap 1=1:=by decide
 have q2:IntKind.u8.wrap 2=2:=by decide
 rcases hn with rfl | rfl | rfl
 ·refine ⟨0,?_⟩; simp (disch:=omega) [bf t166,code166,bf t200,code200,q0,q1,q2]
 ·refine ⟨1,?_⟩; simp (disch:=omega) [bf t166,code166,bf t200,code200,q0,q1,q2]
 ·refine ⟨2,?_⟩; simp (disch:=omega) [bf t166,code166,bf t200,code200,q0,q1,q2]
theorem l199_0 {P:List AObj} {a:Option (Nat × Nat)} {c:Option Nat} {n:Nat} (hn:n≤1) (w:Nat) (k:AExit→St→Option (AVal × Heap)) :
  xK T (.loop code199L1) ⟨[(0,.val (.slice a n c)),(1,.val (.int .i64 0)),(2,.val (.int .i64 n)),(6,.val (.int .i64 1))],⟨P,b,w⟩⟩ (k:=⟨k⟩)=k (.exit 0) ⟨[],⟨P,b,w⟩⟩:=by
 have h1:¬ (1:Int) < n:=by omega
 rw [bp]
 simp (disch:=omega) [code199L1,h1]
end
section
attribute [-simp] getElem?_pos getElem?_neg List.all_eq_true sget
attribute [local simp] gz gs nltT nltF iltT iltF ileT nleT eu sgetN sgetH sgetT
theorem s199_2 {P:List AObj} {c:Option Nat} {q:Nat} {x y:Int} (hq:P[q]? = some (.cells 1 [.int .i64 x,.int .i64 y])) (hb:b≤q) (w:Nat) :
  xCall T 199 [.slice (some (q,0)) 2 c,.int .i64 0,.int .i64 2] ⟨P,b,w⟩=some (.tuple [],if y < x then ⟨P.set q (.cells 1 [.int .i64 y,.int .i64 x]),b,min w q⟩ else ⟨P,b,w⟩):=by
 have hl:=ah hq
 have h193:=fun x y h=>s193 (x:=x) (y:=y) (h:=h)
 by_cases c1:y < x
 ·simp (disch:=omega) [d0,benign,again,AVal.eqb,bf t199,code199,bp,code199L1,code199L0,h193,hq,c1,hl]
 ·simp (disch:=omega) [bf t199,code199,bp,code199L1,code199L0,h193,hq,c1,hl]
end
end Go.Abs.AbsFlow

namespace Go.Abs.AbsFlow
open Go.Abs.AbsDesc Go.Abs.AbsHier
open Go.Abs.AbsOrd hiding T sub
variable {os O:List AObj} {b w:Nat}
section
attribute [-simp] getElem?_pos getElem?_neg List.all_eq_true
attribute [local simp] gz gs nltT nltF iltT iltF ileT nleT eu
theorem s199_0 {P:List AObj} {a:Option (Nat × Nat)} {c:Option Nat} {n:Nat} (hn:n≤1) (w:Nat):xCall T 199 [.slice a n c,.int .i64 0,.int .i64 n] ⟨P,b,w⟩=some (.tuple [],⟨P,b,w⟩):=by
 have h:=fun w k=>l199_0 (P:=P) (a:=a) (b:=b) (c:=c) hn w k
 simp (disch:=omega) [bf t199,code199,h]
theorem s167_0 {P:List AObj} {a:Option (Nat × Nat)} {c:Option Nat} {n:Nat} {l:Int} (hn:n≤1) (w:Nat):xCall T 167 [.slice a n c,.int .i64 0,.int .i64 n,.int .i64 l] ⟨P,b,w⟩=some (.tuple [],⟨P,b,w⟩):=by
 have h:=fun w=>s199_0 (P:=P) (a:=a) (b:=b) (c:=c) hn w
 have hn':(n:Int)≤12:=by omega
 simp (disch:=omega) [bf t167,code167,bp,code167L0,h,hn']
theorem s167_2 {P:List AObj} {c:Option Nat} {q:Nat} {x y l:Int} (hq:P[q]? = some (.cells 1 [.int .i64 x,.int .i64 y])) (hb:b≤q) (w:Nat) :
  xCall T 167 [.slice (some (q,0)) 2 c,.int .i64 0,.int .i64 2,.int .i64 l] ⟨P,b,w⟩=some (.tuple [],if y < x then ⟨P.set q (.cells 1 [.int .i64 y,.int .i64 x]),b,min w q⟩ else ⟨P,b,w⟩):=by
 have hl:=ah hq
 have h:=fun w=>s199_2 (b:=b) (c:=c) hq hb w
 by_cases c1:y < x
 ·simp only [c1,if_true] at h
  simp (disch:=omega) [bf t167,code167,bp,code167L0,h,c1,hl]
 ·simp only [c1,if_false] at h
  simp (disch:=omega) [bf t167,code167,bp,code167L0,h,c1,hl]
theorem s129_0 {P:List AObj} {a:Option (Nat × Nat)} {c:Option Nat} {n:Nat} (hn:n≤1) (w:Nat):xCall T 129 [.slice a n c] ⟨P,b,w⟩=some (.tuple [],⟨P,b,w⟩):=by
 have h:=fun l w=>s167_0 (P:=P) (a:=a) (b:=b) (c:=c) (l:=l) hn w
 have q0:IntKind.u64.wrap (n:Int)=n:=by
  have:n=0∨n=1:=by omega
  rcases this with rfl | rfl <;> decide
 obtain ⟨k,hk⟩:=s166 (n:=(n:Int)) (h:=⟨P,b,P.length⟩) (by omega)
 simp (disch:=omega) [bf t129,code129,h,q0,hk]
theorem s129_2 {P:List AObj} {c:Option Nat} {q:Nat} {x y:Int} (hq:P[q]? = some (.cells 1 [.int .i64 x,.int .i64 y])) (hb:b≤q) (w:Nat) :
  xCall T 129 [.slice (some (q,0)) 2 c] ⟨P,b,w⟩=some (.tuple [],if y < x then ⟨P.set q (.cells 1 [.int .i64 y,.int .i64 x]),b,min w q⟩ else ⟨P,b,w⟩):=by
 have hl:=ah hq
 have h:=fun l w=>s167_2 (b:=b) (c:=c) (l:=l) hq hb w
 have q0:IntKind.u64.wrap 2=2:=by decide
 obtain ⟨k,hk⟩:=s166 (n:=2) (h:=⟨P,b,P.length⟩) (by omega)
 by_cases c1:y < x
 ·simp only [c1,if_true] at h
  simp (disch:=omega) [bf t129,code129,h,q0,hk,c1,hl]
 ·simp only [c1,if_false] at h
  simp (disch:=omega) [bf t129,code129,h,q0,hk,c1,hl]
theorem s128_0 {P:List AObj} {a:Option (Nat × Nat)} {c:Option Nat} {n:Nat} (hn:n≤1) (hu:a=none∨∃ q,a=some (q,0)∧q < P.length) (w:Nat):xCall T 128 [.slice a n c] ⟨P,b,w⟩=some (.slice a n c,⟨P,b,w⟩):=by
 have hn':(n:Int) < 2:=by omega
 rcases hu with rfl | ⟨q,rfl,hq⟩
 ·simp (disch:=omega) [bf t128,code128,hn',AVal.under]
 ·simp (disch:=omega) [bf t128,code128,hn',hq,AVal.under]
end
section
attribute [-simp] getElem?_pos getElem?_neg List.all_eq_true sget
attribute [local simp] gz gs nltT nltF iltT iltF ileT nleT eu sgetN sgetH sgetT
theorem s128_2 {P:List AObj} {q:Nat} {x y:Int} (hq:P[q]? = some (.cells 1 [.int .i64 x,.int .i64 y])) (hb:b≤q) (w:Nat) :
  xCall T 128 [.slice (some (q,0)) 2 none] ⟨P,b,w⟩=some (if y=x then (.slice (some (q,0)) 1 none,⟨P.set q (.cells 1 [.int .i64 x,.int .i64 0]),b,min w q⟩) else (.slice (some (q,0)) 2 none,⟨P,b,w⟩)):=by
 have hl:=ah hq
 by_cases c1:y=x
 ·subst c1
  simp (disch:=omega) [bf t128,code128,bp,code128L1,code128L0,hq,hl]
 ·simp (disch:=omega) [bf t128,code128,bp,code128L1,code128L0,hq,hl,c1,AVal.under]
end
end Go.Abs.AbsFlow

namespace Go.Abs.AbsFlow
open Go.Abs.AbsDesc Go.Abs.AbsHier
open Go.Abs.AbsOrd hiding T sub
variable {os O:List AObj} {b w:Nat}
theorem finish_one {P:List AObj} {e q n:Nat} {cs:List AVal} {c:Option Nat} {W:Nat} (hq:P[q]? = some (.cells e cs)) (hI:AVal.idsL cs=[]) (hR:∀ g,AVal.renL g cs=cs) (h1:O.length≤q) (hW:O.length≤W) :
  finish ⟨O,b,w⟩ (.slice (some (q,0)) n c) ⟨P,b,W⟩=(.slice (some (O.length,0)) n c,⟨O++[.cells e cs],b,w⟩):=by
 have hv:AVal.under (⟨O,b,w⟩:Heap).size (.slice (some (q,0)) n c)=false:=by
  have:¬ q < O.length:=by omega
  simp [AVal.under,Heap.size,this]
 have hg:(⟨P,b,W⟩:Heap).get q=some (.cells e cs):=hq
 have hreach:reach ⟨P,b,W⟩ (⟨O,b,w⟩:Heap).size 1000 (AVal.slice (some (q,0)) n c).ids []=[q]:=by
  simp only [AVal.ids]
  rw [reach,if_neg (by show ¬ q < O.length; omega),if_neg (by simp),hg]
  simp only [bu,dl,AObj.ids,hI,cj]
  rfl
 refine (finish_keep (show (⟨O,b,w⟩:Heap).size≤(⟨P,b,W⟩:Heap).wmin from hW) hv hreach fun j hj=>?_).trans ?_
 ·simp only [AVal.ids,ei,List.flatMap_nil,hg,bu,dl,AObj.ids,hI,List.append_nil,ce,List.not_mem_nil,or_false] at hj
  subst hj
  exact .inr (cw _)
 ·have key:∀ g:Nat→Nat,g q=O.length→((AVal.slice (some (q,0)) n c).ren g,(⟨O++[AObj.cells e cs],b,w⟩:Heap))=(.slice (some (O.length,0)) n c,⟨O++[.cells e cs],b,w⟩):=fun g hg'=>by
   simp only [AVal.ren,hg']
  simp only [Heap.size,dx,List.map_nil,hg,bu,dl,AObj.ren,hR]
  exact key _ ((if_neg (show ¬ q < O.length by omega)).trans (by simp [idxIn]))
theorem row_here {α:Type} {P:List AObj} {e q:Nat} {f:α→List AVal} {L:List α} {cs:List AVal} (hq:P[q]? = some (.cells e cs)) (h:Row P e f L (some (q,0))) (X:List AObj):Row (X++[.cells e cs]) e f L (some (X.length,0)) :=
 ⟨fun hne=>by
  obtain ⟨p,o,cs',h1,h2,h3⟩:=h.at' hne
  injection h1 with h1; injection h1 with h1 h1'; subst h1 h1'
  rw [hq] at h2; injection h2 with h2; injection h2 with _ h2; subst h2
  exact ⟨X.length,0,cs,rfl,by rw [gd]; rfl,h3⟩⟩
theorem f6 {P:List AObj} {L:List Int} {q:Nat} {cs:List AVal} {c:Option Nat} {W:Nat} (hq:P[q]? = some (.cells 1 cs)) (hI:AVal.idsL cs=[]) (hR:∀ g,AVal.renL g cs=cs) (h1:Row P 1 intC L (some (q,0))) (h2:O.length≤q) (hW:O.length≤W) :
  finish ⟨O,b,w⟩ (.slice (some (q,0)) L.length c) ⟨P,b,W⟩=(.slice (some (O.length,0)) L.length c,⟨O++[.cells 1 cs],b,w⟩)∧Row (O++[.cells 1 cs]) 1 intC L (some (O.length,0)) :=
 ⟨finish_one hq hI hR h2 hW,row_here hq h1 O⟩
def One (O P:List AObj) (a:Option (Nat × Nat)):Prop:=(P=O∧a=none)∨∃ cs,P=O++[.cells 1 cs]∧a=some (O.length,0)∧AVal.idsL cs=[]
theorem One.over {P:List AObj} {a:Option (Nat × Nat)} (h:One O P a):over O.length a:=by
 rcases h with ⟨_,rfl⟩ | ⟨cs,_,rfl,_⟩
 ·exact fun _ _ e=>by cases e
 ·exact fun _ _ e=>by cases e; exact aj _
def outB (m:MethU) (x:InsU):List Int:=if formN x.op=7∧inM m x.n=true then [x.n] else []
def outE (n i:Nat) (x:InsU):List Int:=if endsC x.op=false∧i+1 < n then [((i+1:Nat):Int)] else []
def srt2:List Int→List Int
 | [x,y]=>if y < x then [y,x] else if y=x then [x] else [x,y]
 | l=>l
def nextsL (m:MethU) (i:Nat) (x:InsU):List Int:=srt2 (outE m.code.length i x++outB m x)
theorem row_head {P:List AObj} {q:Nat} {x y:Int} (h:P[q]? = some (.cells 1 [.int .i64 x,.int .i64 y])):Row P 1 intC [x] (some (q,0)) :=
 ⟨fun _=>⟨q,0,_,rfl,h,fun j z hz=>by
  cases j with
  | zero=>simp at hz; subst hz; exact ⟨by simp,rfl⟩
  | succ j=>simp at hz⟩⟩
theorem acc_one {A:List Int} {P:List AObj} {v:AVal} (h:Acc 1 intC O A P v) (hA:A≠[]):∃ q,O.length≤q∧v = .slice (some (q,0)) A.length none∧P[q]? = some (.cells 1 (A.flatMap intC)):=by
 rcases h.val with ⟨h1,_⟩ | ⟨_,i,h2,h3,h4⟩
 ·exact absurd h1 hA
 ·exact ⟨i,h2,h3,h4⟩
section
attribute [-simp] getElem?_pos getElem?_neg List.all_eq_true
attribute [local simp] gz gs nltT nltF iltT iltF ileT nleT eu
set_option maxHeartbeats 2000000 in
theorem s74 {m:MethU} {i:Nat} {x:InsU} {n0:Nat} (hm:m.ok O) (ho:∀ x ∈ m.code,0≤x.op∧x.op < 256) (hb:b≤O.length) (hn:m.code.length≤1000) (hx:m.code[i]? = some x) (h0:n0≤O.length) (hw:n0≤w) :
  ∃ P' a c,∃ w':Nat,xCall T 100074 [.agg m.cells,.int .i64 i] ⟨O,b,w⟩=some (.slice a (nextsL m i x).length c,⟨P',b,w'⟩)∧Pre O P'∧n0≤w'∧Row P' 1 intC (nextsL m i x) a∧One O P' a∧w'=w:=by
 have hrb:reachB=140737488351232:=rfl
 have hcm:m.cells=[.bool m.st,.str m.name,.str m.desc,.int .i64 m.stack,.int .i64 m.locals,.slice m.ca m.code.length m.cc,.slice m.ta m.traps.length m.tc,.slice m.xa m.maps.length m.xc]:=rfl
 have hil:=ah hx
 have hil':(i:Int) < m.code.length:=by omega
 obtain ⟨p,o,cs,ha,hp,hpl,hcs,hv⟩:=row_at hm.c hx
 have hcx:x.cells=[.int .u8 x.op,.int .i64 x.n,.int .i64 x.m,.str x.cls,.str x.name,.str x.desc,.str x.text]:=rfl
 rw [hcx] at hv
 have h131i:=fun h=>s131 (m:=m) (i:=(i:Int)) (h:=h) (by omega)
 have hin:inI (i:Int) 0 (m.code.length - 1)=true:=by
  unfold inI
  rw [decide_eq_true (by omega),decide_eq_true (by omega)]; rfl
 rw [hin] at h131i
 have h131n:=fun h=>s131 (m:=m) (i:=x.n) (h:=h) (by omega)
 have hnn:inI x.n 0 (m.code.length - 1)=inM m x.n:=rfl
 rw [hnn] at h131n
 obtain ⟨o1,o2⟩:=ho x (aq hx)
 have h130:=fun h=>s130 (h:=h) o1 o2
 have h73:=fun h=>s73 (c:=x.op) (h:=h)
 have e2:((i+1:Nat):Int)=(i:Int)+1:=by omega
 rw [ha] at hcm
 rw [hcm] at h131i h131n
 cases c1:endsC x.op with
 | true =>
  rw [c1] at h73
  have hE:outE m.code.length i x=[]:=by unfold outE; rw [if_neg fun q=>by rw [c1] at q; cases q.1]
  by_cases c3:formN x.op=7
  ·rw [c3] at h130
   cases c4:inM m x.n with
   | true =>
    rw [c4] at h131n
    have hB:outB m x=[x.n]:=by unfold outB; rw [if_pos ⟨c3,c4⟩]
    obtain ⟨P2,v2,n2,h2,hn2,_,e3⟩:=(Acc.nil (e:=1) (f:=intC) (O:=O)).add (b:=b) ea hb (by':=8) (by simp) (by simp) x.n
    have w2:=hn2 _ (aj O.length)
    have hs2:intC x.n=[.int .i64 x.n]:=rfl
    rw [hs2] at e3
    obtain ⟨q,q1,q2,q3⟩:=acc_one h2 (by simp)
    have q2:v2 = .slice (some (q,0)) 1 none:=q2
    subst q2
    have q3:P2[q]? = some (.cells 1 [.int .i64 (x.n)]):=by rw [q3]; rfl
    have hql:=ah q3
    have h129:=fun w=>s129_0 (P:=P2) (b:=b) (a:=some (q,0)) (c:=none) (n:=1) (by omega) w
    have h128:=fun w=>s128_0 (P:=P2) (b:=b) (a:=some (q,0)) (c:=none) (n:=1) (by omega) (.inr ⟨q,rfl,hql⟩) w
    have hN:nextsL m i x=[x.n]:=by unfold nextsL; rw [hE,hB]; simp [srt2]
    rw [hN]
    obtain ⟨hf,k3⟩:=f6 (O:=O) (b:=b) (w:=w) (L:=[x.n]) (c:=none) (W:=n2 O.length) q3 (by simp [AVal.idsL,AVal.ids]) (fun g=>by simp [AVal.renL,AVal.ren]) (Row.mk0 ea q3) q1 w2
    refine ⟨_,some (O.length,0),none,w,?_,Pre.app _ _,hw,k3,.inr ⟨_,rfl,rfl,by simp [AVal.idsL,AVal.ids]⟩,rfl⟩
    simp only [bk,bq,bg,Nat.reduceAdd] at hf
    simp (disch:=omega) [-aAppend,-finish,bf f0,code100074,hcm,h131i,h131n,hil',hp,hv,h73,h130,e3,h129,h128,hf]
   | false =>
    rw [c4] at h131n
    have hB:outB m x=[]:=by unfold outB; rw [if_neg fun q=>by rw [c4] at q; cases q.2]
    have h129:=fun w=>s129_0 (P:=O) (b:=b) (a:=none) (c:=some 0) (n:=0) (by omega) w
    have h128:=fun w=>s128_0 (P:=O) (b:=b) (a:=none) (c:=some 0) (n:=0) (by omega) (.inl rfl) w
    have hN:nextsL m i x=[]:=by unfold nextsL; rw [hE,hB]; rfl
    rw [hN]
    refine ⟨O,none,some 0,w,?_,Pre.refl _,hw,⟨fun h=>absurd rfl h⟩,.inl ⟨rfl,rfl⟩,rfl⟩
    simp (disch:=omega) [-aAppend,bf f0,code100074,hcm,h131i,h131n,hil',hp,hv,h73,h130,h129,h128]
  ·have hB:outB m x=[]:=by unfold outB; rw [if_neg fun q=>c3 q.1]
   have h129:=fun w=>s129_0 (P:=O) (b:=b) (a:=none) (c:=some 0) (n:=0) (by omega) w
   have h128:=fun w=>s128_0 (P:=O) (b:=b) (a:=none) (c:=some 0) (n:=0) (by omega) (.inl rfl) w
   have hN:nextsL m i x=[]:=by unfold nextsL; rw [hE,hB]; rfl
   rw [hN]
   refine ⟨O,none,some 0,w,?_,Pre.refl _,hw,⟨fun h=>absurd rfl h⟩,.inl ⟨rfl,rfl⟩,rfl⟩
   simp (disch:=omega) [-aAppend,bf f0,code100074,hcm,h131i,h131n,hil',hp,hv,h73,h130,c3,h129,h128]
 | false =>
  rw [c1] at h73
  by_cases c2:i+1 < m.code.length
  ·have c2':(i:Int)+1 < m.code.length:=by omega
   have hE:outE m.code.length i x=[((i+1:Nat):Int)]:=by unfold outE; rw [if_pos ⟨c1,c2⟩]
   by_cases c3:formN x.op=7
   ·rw [c3] at h130
    cases c4:inM m x.n with
    | true =>
     rw [c4] at h131n
     have hB:outB m x=[x.n]:=by unfold outB; rw [if_pos ⟨c3,c4⟩]
     obtain ⟨P1,v1,n1,h1,hn1,_,e1⟩:=(Acc.nil (e:=1) (f:=intC) (O:=O)).add (b:=b) ea hb (by':=8) (by simp) (by simp) ((i+1:Nat):Int)
     have hs1:intC ((i+1:Nat):Int)=[.int .i64 ((i:Int)+1)]:=by rw [e2]; rfl
     rw [hs1] at e1
     have w1:=hn1 _ (aj O.length)
     obtain ⟨P2,v2,n2,h2,hn2,_,e3⟩:=h1.add (b:=b) ea hb (by':=8) (by simp) (by simp) x.n
     have w2:=hn2 _ w1
     have hs2:intC x.n=[.int .i64 x.n]:=rfl
     rw [hs2] at e3
     obtain ⟨q,q1,q2,q3⟩:=acc_one h2 (by simp)
     have q2:v2 = .slice (some (q,0)) 2 none:=q2
     subst q2
     have q3:P2[q]? = some (.cells 1 [.int .i64 ((i:Int)+1),.int .i64 x.n]):=by rw [q3,← e2]; rfl
     have hql:=ah q3
     have h129:=fun w=>s129_2 (b:=b) (c:=none) q3 (by omega) w
     by_cases d1:x.n < (i:Int)+1
     ·simp only [d1,if_true] at h129
      have q4:(P2.set q (.cells 1 [.int .i64 x.n,.int .i64 ((i:Int)+1)]))[q]? = some (.cells 1 [.int .i64 x.n,.int .i64 ((i:Int)+1)]):=ed hql
      have h128:=fun w=>s128_2 (b:=b) q4 (by omega) w
      have d2:¬ (i:Int)+1=x.n:=by omega
      simp only [d2,if_false] at h128
      have hN:nextsL m i x=[x.n,(i:Int)+1]:=by unfold nextsL; rw [hE,hB,e2]; simp [srt2,d1]
      rw [hN]
      obtain ⟨hf,k3⟩:=f6 (O:=O) (b:=b) (w:=w) (L:=[x.n,(i:Int)+1]) (c:=none) (W:=min (n2 (n1 O.length)) q) q4 (by simp [AVal.idsL,AVal.ids]) (fun g=>by simp [AVal.renL,AVal.ren]) (Row.mk0 ea q4) q1 (by omega)
      refine ⟨_,some (O.length,0),none,w,?_,Pre.app _ _,hw,k3,.inr ⟨_,rfl,rfl,by simp [AVal.idsL,AVal.ids]⟩,rfl⟩
      simp only [bk,bq,bg,Nat.reduceAdd] at hf
      simp (disch:=omega) [-aAppend,-finish,bf f0,code100074,hcm,h131i,h131n,hil',hp,hv,h73,h130,c2',e1,e3,h129,h128,hf]
     ·simp only [d1,if_false] at h129
      have h128:=fun w=>s128_2 (b:=b) q3 (by omega) w
      by_cases d2:x.n=(i:Int)+1
      ·simp only [d2,if_true] at h128
       have q4:(P2.set q (.cells 1 [.int .i64 ((i:Int)+1),.int .i64 0]))[q]? = some (.cells 1 [.int .i64 ((i:Int)+1),.int .i64 0]):=ed hql
       have hN:nextsL m i x=[(i:Int)+1]:=by unfold nextsL; rw [hE,hB,e2]; simp [srt2,d2]
       rw [hN]
       obtain ⟨hf,k3⟩:=f6 (O:=O) (b:=b) (w:=w) (L:=[(i:Int)+1]) (c:=none) (W:=min (n2 (n1 O.length)) q) q4 (by simp [AVal.idsL,AVal.ids]) (fun g=>by simp [AVal.renL,AVal.ren]) (row_head q4) q1 (by omega)
       refine ⟨_,some (O.length,0),none,w,?_,Pre.app _ _,hw,k3,.inr ⟨_,rfl,rfl,by simp [AVal.idsL,AVal.ids]⟩,rfl⟩
       simp only [bk,bq,bg,Nat.reduceAdd] at hf
       simp (disch:=omega) [-aAppend,-finish,bf f0,code100074,hcm,h131i,h131n,hil',hp,hv,h73,h130,c2',e1,e3,h129,h128,hf]
      ·simp only [d2,if_false] at h128
       have hN:nextsL m i x=[(i:Int)+1,x.n]:=by unfold nextsL; rw [hE,hB,e2]; simp [srt2,d1,d2]
       rw [hN]
       obtain ⟨hf,k3⟩:=f6 (O:=O) (b:=b) (w:=w) (L:=[(i:Int)+1,x.n]) (c:=none) (W:=n2 (n1 O.length)) q3 (by simp [AVal.idsL,AVal.ids]) (fun g=>by simp [AVal.renL,AVal.ren]) (Row.mk0 ea q3) q1 w2
       refine ⟨_,some (O.length,0),none,w,?_,Pre.app _ _,hw,k3,.inr ⟨_,rfl,rfl,by simp [AVal.idsL,AVal.ids]⟩,rfl⟩
       simp only [bk,bq,bg,Nat.reduceAdd] at hf
       simp (disch:=omega) [-aAppend,-finish,bf f0,code100074,hcm,h131i,h131n,hil',hp,hv,h73,h130,c2',e1,e3,h129,h128,hf]
    | false =>
     rw [c4] at h131n
     have hB:outB m x=[]:=by unfold outB; rw [if_neg fun q=>by rw [c4] at q; cases q.2]
     obtain ⟨P1,v1,n1,h1,hn1,_,e1⟩:=(Acc.nil (e:=1) (f:=intC) (O:=O)).add (b:=b) ea hb (by':=8) (by simp) (by simp) ((i+1:Nat):Int)
     have hs1:intC ((i+1:Nat):Int)=[.int .i64 ((i:Int)+1)]:=by rw [e2]; rfl
     rw [hs1] at e1
     have w1:=hn1 _ (aj O.length)
     obtain ⟨q,q1,q2,q3⟩:=acc_one h1 (by simp)
     have q2:v1 = .slice (some (q,0)) 1 none:=q2
     subst q2
     have q3:P1[q]? = some (.cells 1 [.int .i64 ((i:Int)+1)]):=by rw [q3,← e2]; rfl
     have hql:=ah q3
     have h129:=fun w=>s129_0 (P:=P1) (b:=b) (a:=some (q,0)) (c:=none) (n:=1) (by omega) w
     have h128:=fun w=>s128_0 (P:=P1) (b:=b) (a:=some (q,0)) (c:=none) (n:=1) (by omega) (.inr ⟨q,rfl,hql⟩) w
     have hN:nextsL m i x=[(i:Int)+1]:=by unfold nextsL; rw [hE,hB,e2]; simp [srt2]
     rw [hN]
     obtain ⟨hf,k3⟩:=f6 (O:=O) (b:=b) (w:=w) (L:=[(i:Int)+1]) (c:=none) (W:=n1 O.length) q3 (by simp [AVal.idsL,AVal.ids]) (fun g=>by simp [AVal.renL,AVal.ren]) (Row.mk0 ea q3) q1 w1
     refine ⟨_,some (O.length,0),none,w,?_,Pre.app _ _,hw,k3,.inr ⟨_,rfl,rfl,by simp [AVal.idsL,AVal.ids]⟩,rfl⟩
     simp only [bk,bq,bg,Nat.reduceAdd] at hf
     simp (disch:=omega) [-aAppend,-finish,bf f0,code100074,hcm,h131i,h131n,hil',hp,hv,h73,h130,c2',e1,h129,h128,hf]
   ·have hB:outB m x=[]:=by unfold outB; rw [if_neg fun q=>c3 q.1]
    obtain ⟨P1,v1,n1,h1,hn1,_,e1⟩:=(Acc.nil (e:=1) (f:=intC) (O:=O)).add (b:=b) ea hb (by':=8) (by simp) (by simp) ((i+1:Nat):Int)
    have hs1:intC ((i+1:Nat):Int)=[.int .i64 ((i:Int)+1)]:=by rw [e2]; rfl
    rw [hs1] at e1
    have w1:=hn1 _ (aj O.length)
    obtain ⟨q,q1,q2,q3⟩:=acc_one h1 (by simp)
    have q2:v1 = .slice (some (q,0)) 1 none:=q2
    subst q2
    have q3:P1[q]? = some (.cells 1 [.int .i64 ((i:Int)+1)]):=by rw [q3,← e2]; rfl
    have hql:=ah q3
    have h129:=fun w=>s129_0 (P:=P1) (b:=b) (a:=some (q,0)) (c:=none) (n:=1) (by omega) w
    have h128:=fun w=>s128_0 (P:=P1) (b:=b) (a:=some (q,0)) (c:=none) (n:=1) (by omega) (.inr ⟨q,rfl,hql⟩) w
    have hN:nextsL m i x=[(i:Int)+1]:=by unfold nextsL; rw [hE,hB,e2]; simp [srt2]
    rw [hN]
    obtain ⟨hf,k3⟩:=f6 (O:=O) (b:=b) (w:=w) (L:=[(i:Int)+1]) (c:=none) (W:=n1 O.length) q3 (by simp [AVal.idsL,AVal.ids]) (fun g=>by simp [AVal.renL,AVal.ren]) (Row.mk0 ea q3) q1 w1
    refine ⟨_,some (O.length,0),none,w,?_,Pre.app _ _,hw,k3,.inr ⟨_,rfl,rfl,by simp [AVal.idsL,AVal.ids]⟩,rfl⟩
    simp only [bk,bq,bg,Nat.reduceAdd] at hf
    simp (disch:=omega) [-aAppend,-finish,bf f0,code100074,hcm,h131i,h131n,hil',hp,hv,h73,h130,c2',c3,e1,h129,h128,hf]
  ·have c2':¬ (i:Int)+1 < m.code.length:=by omega
   have hE:outE m.code.length i x=[]:=by unfold outE; rw [if_neg fun q=>c2 q.2]
   by_cases c3:formN x.op=7
   ·rw [c3] at h130
    cases c4:inM m x.n with
    | true =>
     rw [c4] at h131n
     have hB:outB m x=[x.n]:=by unfold outB; rw [if_pos ⟨c3,c4⟩]
     obtain ⟨P2,v2,n2,h2,hn2,_,e3⟩:=(Acc.nil (e:=1) (f:=intC) (O:=O)).add (b:=b) ea hb (by':=8) (by simp) (by simp) x.n
     have w2:=hn2 _ (aj O.length)
     have hs2:intC x.n=[.int .i64 x.n]:=rfl
     rw [hs2] at e3
     obtain ⟨q,q1,q2,q3⟩:=acc_one h2 (by simp)
     have q2:v2 = .slice (some (q,0)) 1 none:=q2
     subst q2
     have q3:P2[q]? = some (.cells 1 [.int .i64 (x.n)]):=by rw [q3]; rfl
     have hql:=ah q3
     have h129:=fun w=>s129_0 (P:=P2) (b:=b) (a:=some (q,0)) (c:=none) (n:=1) (by omega) w
     have h128:=fun w=>s128_0 (P:=P2) (b:=b) (a:=some (q,0)) (c:=none) (n:=1) (by omega) (.inr ⟨q,rfl,hql⟩) w
     have hN:nextsL m i x=[x.n]:=by unfold nextsL; rw [hE,hB]; simp [srt2]
     rw [hN]
     obtain ⟨hf,k3⟩:=f6 (O:=O) (b:=b) (w:=w) (L:=[x.n]) (c:=none) (W:=n2 O.length) q3 (by simp [AVal.idsL,AVal.ids]) (fun g=>by simp [AVal.renL,AVal.ren]) (Row.mk0 ea q3) q1 w2
     refine ⟨_,some (O.length,0),none,w,?_,Pre.app _ _,hw,k3,.inr ⟨_,rfl,rfl,by simp [AVal.idsL,AVal.ids]⟩,rfl⟩
     simp only [bk,bq,bg,Nat.reduceAdd] at hf
     simp (disch:=omega) [-aAppend,-finish,bf f0,code100074,hcm,h131i,h131n,hil',hp,hv,h73,h130,c2',e3,h129,h128,hf]
    | false =>
     rw [c4] at h131n
     have hB:outB m x=[]:=by unfold outB; rw [if_neg fun q=>by rw [c4] at q; cases q.2]
     have h129:=fun w=>s129_0 (P:=O) (b:=b) (a:=none) (c:=some 0) (n:=0) (by omega) w
     have h128:=fun w=>s128_0 (P:=O) (b:=b) (a:=none) (c:=some 0) (n:=0) (by omega) (.inl rfl) w
     have hN:nextsL m i x=[]:=by unfold nextsL; rw [hE,hB]; rfl
     rw [hN]
     refine ⟨O,none,some 0,w,?_,Pre.refl _,hw,⟨fun h=>absurd rfl h⟩,.inl ⟨rfl,rfl⟩,rfl⟩
     simp (disch:=omega) [-aAppend,bf f0,code100074,hcm,h131i,h131n,hil',hp,hv,h73,h130,c2',h129,h128]
   ·have hB:outB m x=[]:=by unfold outB; rw [if_neg fun q=>c3 q.1]
    have h129:=fun w=>s129_0 (P:=O) (b:=b) (a:=none) (c:=some 0) (n:=0) (by omega) w
    have h128:=fun w=>s128_0 (P:=O) (b:=b) (a:=none) (c:=some 0) (n:=0) (by omega) (.inl rfl) w
    have hN:nextsL m i x=[]:=by unfold nextsL; rw [hE,hB]; rfl
    rw [hN]
    refine ⟨O,none,some 0,w,?_,Pre.refl _,hw,⟨fun h=>absurd rfl h⟩,.inl ⟨rfl,rfl⟩,rfl⟩
    simp (disch:=omega) [-aAppend,bf f0,code100074,hcm,h131i,h131n,hil',hp,hv,h73,h130,c2',c3,h129,h128]
end
end Go.Abs.AbsFlow

namespace Go.Abs.AbsHier
open Go.Abs.AbsDesc
variable {os O H:List AObj} {b w:Nat}
structure Left (j:Nat) (r:Int):Prop where
 hi:r≤600
 lo:-1152921504606846976+j*562949953404928≤r
structure Went (j:Nat) (r r':Int):Prop where
 hi:r'≤600
 lo:r - j*562949953404928≤r'
theorem Left.zero {r:Int} (h:Left 0 r):Went 0 r r:=⟨h.hi,by omega⟩
theorem Left.next {j:Nat} {r q:Int} (h:Left (j+1) r) (h0:0≤q) (h1:q≤562949953404928):Left j (r - q):=⟨by have:=h.hi; omega,by have:=h.lo; omega⟩
theorem Went.next {j:Nat} {r q r':Int} (h:Went j (r - q) r') (h0:0≤q) (h1:q≤562949953404928):Went (j+1) r r':=⟨h.hi,by have:=h.lo; omega⟩
theorem Left.wrap {j:Nat} {r q:Int} (h:Left (j+1) r) (h0:0≤q) (h1:q≤562949953404928):IntKind.i64.wrap (r - q)=r - q:=eu ⟨by have:=h.lo; omega,by have:=h.hi; omega⟩
theorem tdiv_le {n:Nat} {d:Int} (hd:0 < d) (hn:n≤reachB*4):∃ q:Int,(n:Int).tdiv d=q∧0≤q∧q≤562949953404928:=by
 have hn':n≤562949953404928:=hn
 refine ⟨_,rfl,?_,?_⟩
 ·exact Int.tdiv_nonneg (by omega) (by omega)
 ·rw [Int.tdiv_eq_ediv_of_nonneg (by omega)]
  have:=Int.ediv_le_self (b:=d) (a:=(n:Int)) (by omega)
  omega
section
attribute [-simp] getElem?_pos getElem?_neg List.all_eq_true
attribute [local simp] gz gs nltT nltF iltT iltF ileT nleT eu
theorem l104a {A:List Str} {aa:Option (Nat × Nat)} {cc:Option Nat} {x56 x57 x58 x124 x125 x126:AVal} (hR:Row H 1 strC A aa) (hA:A.length≤600) (hs:∀ t ∈ A,t.length≤reachB) :
  ∀ (j i:Nat) (r:Int) (w:Nat),i+j=A.length→Left j r →
  ∃ r',Went j r r'∧∀ (k:AExit→St→Option (AVal × Heap)),
  xK T (.loop code104L0) ⟨[(3,.val (.int .i64 r)),(56,.val x56),(57,.val x57),(58,.val x58),(124,.val x124),(125,.val x125),(126,.val x126),(148,.val (.slice aa A.length cc)),(149,.val (.int .i64 A.length)),(150,.val (.int .i64 i))],⟨H,b,w⟩⟩ (k:=⟨k⟩) =
   k (.exit 10) ⟨[(3,.val (.int .i64 r')),(56,.val x56),(57,.val x57),(58,.val x58),(124,.val x124),(125,.val x125),(126,.val x126)],⟨H,b,w⟩⟩
 | 0,i,r,w,hi,hr=>by
  refine ⟨r,hr.zero,fun k=>?_⟩
  rw [bp]
  simp (disch:=omega) [code104L0]
 | j+1,i,r,w,hi,hr=>by
  obtain ⟨t,hx⟩:∃ t,A[i]? = some t:=⟨_,ag (by omega)⟩
  obtain ⟨p,o,cs,ha,hp,hpl,hcs,hv⟩:=row_at hR hx
  have ht:=hs t (aq hx)
  obtain ⟨q,hq,hq0,hq1⟩:=tdiv_le (n:=t.length) (d:=100) (by decide) (by omega)
  have hql:(t.length:Int)≤9223372036854775807:=by have:t.length≤140737488351232:=ht; omega
  obtain ⟨r',h1,ih⟩:=l104a (x56:=x56) (x57:=x57) (x58:=x58) (x124:=x124) (x125:=x125) (x126:=x126) (cc:=cc) hR hA hs j (i+1) (r - q) w (by omega) (hr.next hq0 hq1)
  refine ⟨r',h1.next hq0 hq1,fun k=>?_⟩
  have hwr:=hr.wrap hq0 hq1
  have ih:=ih k
  have e2:((i+1:Nat):Int)=(i:Int)+1:=by omega
  rw [e2,ha] at ih
  rw [bp,ha]
  have hv':(List.drop (o+i*1) cs).take 1=[.str t]:=hv
  have hv2:cs[o+i]? = some (.str t):=by
   have:=congrArg (fun z=>z[0]?) hv'
   simpa [List.getElem?_take,cf] using this
  generalize ACode.loop code104L0=L' at ih ⊢
  simp (disch:=omega) [code104L0,hp,hv2,hq,hwr,ih]
theorem l104t {L:List TrapU} {aa:Option (Nat × Nat)} {cc:Option Nat} {x7:List AVal} {x56 x57 x58:AVal} (hR:Row H 4 TrapU.cells L aa) (hA:L.length≤600) (hs:∀ t ∈ L,t.fits) :
  ∀ (j i:Nat) (r:Int) (w:Nat),i+j=L.length→Left j r →
  ∃ r',Went j r r'∧∀ (k:AExit→St→Option (AVal × Heap)),
  xK T (.loop code104L2) ⟨[(3,.val (.int .i64 r)),(7,.var x7),(56,.val x56),(57,.val x57),(58,.val x58),(110,.val (.slice aa L.length cc)),(111,.val (.int .i64 L.length)),(112,.val (.int .i64 i))],⟨H,b,w⟩⟩ (k:=⟨k⟩) =
   k (.exit 6) ⟨[(3,.val (.int .i64 r')),(7,.var x7),(56,.val x56),(57,.val x57),(58,.val x58)],⟨H,b,w⟩⟩
 | 0,i,r,w,hi,hr=>by
  refine ⟨r,hr.zero,fun k=>?_⟩
  rw [bp]
  simp (disch:=omega) [code104L2]
 | j+1,i,r,w,hi,hr=>by
  obtain ⟨t,hx⟩:∃ t,L[i]? = some t:=⟨_,ag (by omega)⟩
  obtain ⟨p,o,cs,ha,hp,hpl,hcs,hv⟩:=row_at hR hx
  have ht:t.cls.length≤reachB:=hs t (aq hx)
  obtain ⟨q,hq,hq0,hq1⟩:=tdiv_le (n:=t.cls.length) (d:=100) (by decide) (by omega)
  have hql:(t.cls.length:Int)≤9223372036854775807:=by have:t.cls.length≤140737488351232:=ht; omega
  obtain ⟨r',h1,ih⟩:=l104t (x7:=x7) (x56:=x56) (x57:=x57) (x58:=x58) (cc:=cc) hR hA hs j (i+1) (r - q) w (by omega) (hr.next hq0 hq1)
  refine ⟨r',h1.next hq0 hq1,fun k=>?_⟩
  have hwr:=hr.wrap hq0 hq1
  have ih:=ih k
  have e2:((i+1:Nat):Int)=(i:Int)+1:=by omega
  rw [e2,ha] at ih
  rw [bp,ha]
  unfold TrapU.cells at hv
  generalize ACode.loop code104L2=L' at ih ⊢
  simp (disch:=omega) [code104L2,hp,hv,hq,hwr,ih]
theorem l104c {L:List InsU} {aa:Option (Nat × Nat)} {cc:Option Nat} {x7:List AVal} {x56 x57 x58:AVal} (hR:Row H 7 InsU.cells L aa) (hA:L.length≤600) (hs:∀ t ∈ L,t.fits) :
  ∀ (j i:Nat) (r:Int) (w:Nat),i+j=L.length→Left j r →
  ∃ r',Went j r r'∧∀ (k:AExit→St→Option (AVal × Heap)),
  xK T (.loop code104L3) ⟨[(3,.val (.int .i64 r)),(7,.var x7),(56,.val x56),(57,.val x57),(58,.val x58),(84,.val (.slice aa L.length cc)),(85,.val (.int .i64 L.length)),(86,.val (.int .i64 i))],⟨H,b,w⟩⟩ (k:=⟨k⟩) =
   k (.exit 4) ⟨[(3,.val (.int .i64 r')),(7,.var x7),(56,.val x56),(57,.val x57),(58,.val x58)],⟨H,b,w⟩⟩
 | 0,i,r,w,hi,hr=>by
  refine ⟨r,hr.zero,fun k=>?_⟩
  rw [bp]
  simp (disch:=omega) [code104L3]
 | j+1,i,r,w,hi,hr=>by
  obtain ⟨t,hx⟩:∃ t,L[i]? = some t:=⟨_,ag (by omega)⟩
  obtain ⟨p,o,cs,ha,hp,hpl,hcs,hv⟩:=row_at hR hx
  obtain ⟨f1,f2,f3,f4⟩:=hs t (aq hx)
  obtain ⟨q,hq,hq0,hq1⟩:=tdiv_le (n:=t.cls.length+t.name.length+t.desc.length+t.text.length) (d:=100) (by decide) (by omega)
  simp only [Int.natCast_add] at hq
  have hb:reachB=140737488351232:=rfl
  obtain ⟨r',h1,ih⟩:=l104c (x7:=x7) (x56:=x56) (x57:=x57) (x58:=x58) (cc:=cc) hR hA hs j (i+1) (r - q) w (by omega) (hr.next hq0 hq1)
  refine ⟨r',h1.next hq0 hq1,fun k=>?_⟩
  have hwr:=hr.wrap hq0 hq1
  have ih:=ih k
  have e2:((i+1:Nat):Int)=(i:Int)+1:=by omega
  rw [e2,ha] at ih
  rw [bp,ha]
  unfold InsU.cells at hv
  generalize ACode.loop code104L3=L' at ih ⊢
  simp (disch:=omega) [code104L3,hp,hv,hq,hwr,ih]
end
theorem ids_strC:∀ L:List Str,AVal.idsL (L.flatMap strC)=[]
 | []=>rfl
 | t :: L=>by
  rw [ei,idsL_app,ids_strC L]; rfl
theorem okId_low {n0 m i:Nat} {ds:List Did} (h:i < n0):okId n0 m ds i=true:=by
 unfold okId; simp [h]
theorem dz {n0 m n:Nat} {ds:List Did} {a:Option (Nat × Nat)} {c:Option Nat} (h:under n0 a):(AVal.slice a n c).ids.all (okId n0 m ds)=true:=by
 rw [al]; exact fun i hi=>okId_low (ids_slice h i hi)
section
attribute [-simp] getElem?_pos getElem?_neg List.all_eq_true
attribute [local simp] gz gs nltT nltF iltT iltF ileT nleT eu
set_option maxHeartbeats 2000000 in
theorem l104m {L:List MapU} {aa:Option (Nat × Nat)} {cc:Option Nat} {x56 x57 x58:AVal} (hR:Row os 3 MapU.cells L aa) (hL:L.length≤reachB) (hok:∀ x ∈ L,x.ok os) (hf:∀ x ∈ L,x.fits) (hb:b≤os.length) :
  ∀ (j i:Nat) (r:Int) (O:List AObj) (w:Nat),i+j=L.length→Left 1000 r→os.length≤w→Pre os O →
  ∃ e s' O' w',os.length≤w'∧Pre os O'∧((e = .ret∧s'=[(2,.val (.bool false))])∨(e = .exit 8∧∃ r',Left 1000 r'∧s'=[(3,.val (.int .i64 r')),(56,.val x56),(57,.val x57),(58,.val x58)]))∧∀ (k:AExit→St→Option (AVal × Heap)),
  xK T (.loop code104L1) ⟨[(3,.val (.int .i64 r)),(56,.val x56),(57,.val x57),(58,.val x58),(124,.val (.slice aa L.length cc)),(125,.val (.int .i64 L.length)),(126,.val (.int .i64 i))],⟨O,b,w⟩⟩ (k:=⟨k⟩) =
   k e ⟨s',⟨O',b,w'⟩⟩
 | 0,i,r,O,w,hi,hr,hw,hO=>by
  refine ⟨.exit 8,_,O,w,hw,hO,.inr ⟨rfl,r,hr,rfl⟩,fun k=>?_⟩
  rw [bp]
  simp (disch:=omega) [code104L1]
 | j+1,i,r,O,w,hi,hr,hw,hO=>by
  obtain ⟨x,hx⟩:∃ x,L[i]? = some x:=⟨_,ag (by omega)⟩
  obtain ⟨p,o,cs,ha,hp,hpl,hcs,hv⟩:=row_at (hO.row hR) hx
  have hxm:=aq hx
  have hxo:=(hok x hxm).pre hO
  obtain ⟨fl,fs,fls,fss⟩:=hf x hxm
  have hrb:reachB=140737488351232:=rfl
  have hOl:=hO.len
  have hb':b≤O.length:=by omega
  have r1:=hr.hi
  have r2:=hr.lo
  have e2:((i+1:Nat):Int)=(i:Int)+1:=by omega
  unfold MapU.cells at hv
  by_cases c0:r - 1 - x.locals.length - x.stack.length < 0
  ·refine ⟨.ret,_,O,w,hw,hO,.inl ⟨rfl,rfl⟩,fun k=>?_⟩
   rw [bp,ha]
   simp (disch:=omega) [code104L1,hp,hv,c0]
  ·have hl1:=fun b w=>rowOf_row (f:=strC) (e:=1) (h:=⟨O++[.cells 1 []],b,w⟩) (c:=x.lc) ((Pre.app O _).row hxo.l)
   have hs1:=fun b w=>rowOf_row (f:=strC) (e:=1) (h:=⟨O++[.cells 1 []],b,w⟩) (c:=x.sc) ((Pre.app O _).row hxo.s)
   have hl2:=fun b w=>rowOf_row (f:=strC) (e:=1) (h:=⟨O++[.cells 1 [],.cells 1 (x.locals.flatMap strC)],b,w⟩) (c:=x.sc) ((Pre.app O _).row hxo.s)
   have flatL:(x.locals.flatMap strC).length=x.locals.length*1:=flat_len strC 1 (fun _=>rfl) _
   have hla:(x.locals++x.stack).length=x.locals.length+x.stack.length:=a8
   by_cases c1:x.locals.length=0
   ·by_cases c2:x.stack.length=0
    ·have hin:=fun w=>l104a (b:=b) (A:=[]) (aa:=some (O.length,0)) (cc:=some 0) (H:=O++[.cells 1 []]) (x56:=x56) (x57:=x57) (x58:=x58) (x124:=.slice (some (p,o)) L.length cc) (x125:=.int .i64 L.length) (x126:=.int .i64 i) ⟨fun h=>absurd rfl h⟩ (by simp) (by simp) 0 0 (r - 1 - x.locals.length - x.stack.length) w (by simp) ⟨by omega,by omega⟩
     simp only [bq,b7] at hin
     obtain ⟨r',g1,hin⟩:=hin w
     obtain ⟨e,s',O',w',q1,q2,q3,ih⟩:=l104m (x56:=x56) (x57:=x57) (x58:=x58) (cc:=cc) hR hL hok hf hb j (i+1) r' (O++[.cells 1 []]) w (by omega) ⟨g1.hi,by have:=g1.lo; omega⟩ hw (hO.trans (Pre.app _ _))
     refine ⟨e,s',O',w',q1,q2,q3,fun k=>?_⟩
     have ih:=ih k
     rw [e2,ha] at ih
     rw [bp,ha]
     generalize ACode.loop code104L1=L' at ih ⊢
     simp only [c1,c2,b7,Int.sub_zero] at hv hin ⊢
     simp (disch:=omega) [-sget,sgetN,sgetH,sgetT,code104L1,hp,hv,c0,d0,dy,get_k,gd,set_k,set_k0,-rowOf,rowOf0,dz hxo.lu,dz hxo.su,hin,ih,ids_strC]
    ·have hrow:Row (O++[.cells 1 [],.cells 1 (x.stack.flatMap strC)]) 1 strC x.stack (some (O.length+1,0)):=Row.mk0 (fun _=>rfl) (by rw [get_k]; rfl)
     obtain ⟨r',g1,hin⟩:=l104a (b:=b) (cc:=none) (x56:=x56) (x57:=x57) (x58:=x58) (x124:=.slice (some (p,o)) L.length cc) (x125:=.int .i64 L.length) (x126:=.int .i64 i) hrow (by omega) fss x.stack.length 0 (r - 1 - x.locals.length - x.stack.length) w (by simp) ⟨by omega,by omega⟩
     simp only [b7] at hin
     obtain ⟨e,s',O',w',q1,q2,q3,ih⟩:=l104m (x56:=x56) (x57:=x57) (x58:=x58) (cc:=cc) hR hL hok hf hb j (i+1) r' (O++[.cells 1 [],.cells 1 (x.stack.flatMap strC)]) w (by omega) ⟨g1.hi,by have:=g1.lo; omega⟩ hw (hO.trans (Pre.app _ _))
     refine ⟨e,s',O',w',q1,q2,q3,fun k=>?_⟩
     have ih:=ih k
     rw [e2,ha] at ih
     rw [bp,ha]
     generalize ACode.loop code104L1=L' at ih ⊢
     simp only [c1,b7,Int.sub_zero] at hv hin ⊢
     simp (disch:=omega) [-sget,sgetN,sgetH,sgetT,-rowOf,rowOf0,code104L1,hp,hv,c0,c2,hs1,d0,dy,get_k,gd,set_k,set_k0,dz hxo.lu,dz hxo.su,hin,ih,ids_strC]
   ·by_cases c2:x.stack.length=0
    ·have hrow:Row (O++[.cells 1 [],.cells 1 (x.locals.flatMap strC)]) 1 strC x.locals (some (O.length+1,0)):=Row.mk0 (fun _=>rfl) (by rw [get_k]; rfl)
     obtain ⟨r',g1,hin⟩:=l104a (b:=b) (cc:=none) (x56:=x56) (x57:=x57) (x58:=x58) (x124:=.slice (some (p,o)) L.length cc) (x125:=.int .i64 L.length) (x126:=.int .i64 i) hrow (by omega) fls x.locals.length 0 (r - 1 - x.locals.length - x.stack.length) w (by simp) ⟨by omega,by omega⟩
     simp only [b7] at hin
     obtain ⟨e,s',O',w',q1,q2,q3,ih⟩:=l104m (x56:=x56) (x57:=x57) (x58:=x58) (cc:=cc) hR hL hok hf hb j (i+1) r' (O++[.cells 1 [],.cells 1 (x.locals.flatMap strC)]) w (by omega) ⟨g1.hi,by have:=g1.lo; omega⟩ hw (hO.trans (Pre.app _ _))
     refine ⟨e,s',O',w',q1,q2,q3,fun k=>?_⟩
     have ih:=ih k
     rw [e2,ha] at ih
     rw [bp,ha]
     generalize ACode.loop code104L1=L' at ih ⊢
     have hz:=fun w=>rowOfC (e:=1) (n:=x.locals.length) (h:=⟨O++[.cells 1 [],.cells 1 (x.locals.flatMap strC)],b,w⟩) (i:=O.length+1) (c:=none) (by rw [get_k]; rfl) flatL
     simp only [c2,b7,Int.sub_zero] at hv hin ⊢
     simp (disch:=omega) [-sget,sgetN,sgetH,sgetT,-rowOf,rowOf0,hz,code104L1,hp,hv,c0,c1,hl1,d0,dy,get_k,gd,set_k,set_k0,dz hxo.lu,dz hxo.su,hin,ih,ids_strC]
    ·have hrow:Row (O++[.cells 1 [],.dead,.cells 1 ((x.locals++x.stack).flatMap strC)]) 1 strC (x.locals++x.stack) (some (O.length+2,0)):=Row.mk0 (fun _=>rfl) (by rw [get_k]; rfl)
     obtain ⟨r',g1,hin⟩:=l104a (b:=b) (cc:=none) (x56:=x56) (x57:=x57) (x58:=x58) (x124:=.slice (some (p,o)) L.length cc) (x125:=.int .i64 L.length) (x126:=.int .i64 i) hrow (by simp; omega) (fun t ht=>by
      rcases bd.1 ht with ht | ht
      ·exact fls t ht
      ·exact fss t ht) (x.locals++x.stack).length 0 (r - 1 - x.locals.length - x.stack.length) (min w (O.length+1)) (by simp) ⟨by omega,by omega⟩
     simp only [b7] at hin
     obtain ⟨e,s',O',w',q1,q2,q3,ih⟩:=l104m (x56:=x56) (x57:=x57) (x58:=x58) (cc:=cc) hR hL hok hf hb j (i+1) r' (O++[.cells 1 [],.dead,.cells 1 ((x.locals++x.stack).flatMap strC)]) (min w (O.length+1)) (by omega) ⟨g1.hi,by have:=g1.lo; omega⟩ (by omega) (hO.trans (Pre.app _ _))
     refine ⟨e,s',O',w',q1,q2,q3,fun k=>?_⟩
     have ih:=ih k
     rw [e2,ha] at ih
     rw [bp,ha]
     generalize ACode.loop code104L1=L' at ih ⊢
     have hz:=fun w=>rowOfC (e:=1) (n:=x.locals.length) (h:=⟨O++[.cells 1 [],.cells 1 (x.locals.flatMap strC)],b,w⟩) (i:=O.length+1) (c:=none) (by rw [get_k]; rfl) flatL
     rw [List.flatMap_append] at hin ih
     rw [a8,Int.natCast_add] at hin
     simp (disch:=omega) [-sget,sgetN,sgetH,sgetT,-rowOf,rowOf0,hz,hl2,code104L1,hp,hv,c0,c1,c2,hl1,d0,dy,get_k,gd,set_k,set_k0,dz hxo.lu,dz hxo.su,hin,ih,ids_strC]
end
end Go.Abs.AbsHier

namespace Go.Abs.AbsHier
open Go.Abs.AbsDesc
variable {os O H:List AObj} {b w:Nat}
theorem tdiv_50 {n:Nat} (hn:n≤reachB*4):∃ q:Int,(n:Int).tdiv 50=q∧0≤q∧q≤281474976702464:=by
 have hn':n≤562949953404928:=hn
 refine ⟨_,rfl,?_,?_⟩
 ·exact Int.tdiv_nonneg (by omega) (by omega)
 ·rw [Int.tdiv_eq_ediv_of_nonneg (by omega)]
  omega
section
attribute [-simp] getElem?_pos getElem?_neg List.all_eq_true
attribute [local simp] gz gs nltT nltF iltT iltF ileT nleT eu
theorem l104f {L:List FieldU} {aa:Option (Nat × Nat)} {cc:Option Nat} {x1:List AVal} (hR:Row H 3 FieldU.cells L aa) (hL:L.length≤reachB) (hs:∀ t ∈ L,t.fits) :
  ∀ (j i:Nat) (r:Int) (w:Nat),i+j=L.length→Left j r →
  ∃ r',Went j r r'∧∀ (k:AExit→St→Option (AVal × Heap)),
  xK T (.loop code104L5) ⟨[(1,.var x1),(3,.val (.int .i64 r)),(37,.val (.slice aa L.length cc)),(38,.val (.int .i64 L.length)),(39,.val (.int .i64 i))],⟨H,b,w⟩⟩ (k:=⟨k⟩) =
   k (.exit 0) ⟨[(1,.var x1),(3,.val (.int .i64 r'))],⟨H,b,w⟩⟩
 | 0,i,r,w,hi,hr=>by
  refine ⟨r,hr.zero,fun k=>?_⟩
  rw [bp]
  simp (disch:=omega) [code104L5]
 | j+1,i,r,w,hi,hr=>by
  obtain ⟨t,hx⟩:∃ t,L[i]? = some t:=⟨_,ag (by omega)⟩
  obtain ⟨p,o,cs,ha,hp,hpl,hcs,hv⟩:=row_at hR hx
  obtain ⟨f1,f2⟩:=hs t (aq hx)
  obtain ⟨q,hq,hq0,hq1⟩:=tdiv_50 (n:=t.name.length+t.desc.length) (by omega)
  simp only [Int.natCast_add] at hq
  have hb:reachB=140737488351232:=rfl
  have g0:0≤1+q:=by omega
  have g1:1+q≤562949953404928:=by omega
  obtain ⟨r',h1,ih⟩:=l104f (x1:=x1) (cc:=cc) hR hL hs j (i+1) (r - (1+q)) w (by omega) (hr.next g0 g1)
  refine ⟨r',h1.next g0 g1,fun k=>?_⟩
  have r1:=hr.hi
  have r2:=hr.lo
  have ih:=ih k
  have e2:((i+1:Nat):Int)=(i:Int)+1:=by omega
  have e3:r - (1+q)=r - 1 - q:=by omega
  rw [e2,e3,ha] at ih
  rw [bp,ha]
  unfold FieldU.cells at hv
  generalize ACode.loop code104L5=L' at ih ⊢
  simp (disch:=omega) [code104L5,hp,hv,hq,ih]
theorem l104M {L:List MethU} {aa:Option (Nat × Nat)} {cc:Option Nat} (hR:Row os 8 MethU.cells L aa) (hL:L.length≤reachB) (hok:∀ x ∈ L,x.ok os) (hf:∀ x ∈ L,x.fits) (hb:b≤os.length) :
  ∀ (j i:Nat) (r:Int) (O:List AObj) (w:Nat),i+j=L.length→Left 1000 r→os.length≤w→Pre os O →
  ∃ e s' O' w',os.length≤w'∧Pre os O'∧((e = .ret∧s'=[(2,.val (.bool false))])∨(e = .exit 2∧∃ r',s'=[(3,.val (.int .i64 r'))]))∧∀ (k:AExit→St→Option (AVal × Heap)),
  xK T (.loop code104L4) ⟨[(3,.val (.int .i64 r)),(56,.val (.slice aa L.length cc)),(57,.val (.int .i64 L.length)),(58,.val (.int .i64 i))],⟨O,b,w⟩⟩ (k:=⟨k⟩) =
   k e ⟨s',⟨O',b,w'⟩⟩
 | 0,i,r,O,w,hi,hr,hw,hO=>by
  refine ⟨.exit 2,_,O,w,hw,hO,.inr ⟨rfl,r,rfl⟩,fun k=>?_⟩
  rw [bp]
  simp (disch:=omega) [code104L4]
 | j+1,i,r,O,w,hi,hr,hw,hO=>by
  obtain ⟨x,hx⟩:∃ x,L[i]? = some x:=⟨_,ag (by omega)⟩
  obtain ⟨p,o,cs,ha,hp,hpl,hcs,hv⟩:=row_at (hO.row hR) hx
  have hxm:=aq hx
  have hxo:=(hok x hxm).pre hO
  have hxf:=hf x hxm
  have hrb:reachB=140737488351232:=rfl
  have hOl:=hO.len
  have r1:=hr.hi
  have r2:=hr.lo
  have e2:((i+1:Nat):Int)=(i:Int)+1:=by omega
  have f1:=hxf.name
  have f2:=hxf.desc
  have f3:=hxf.c
  have f4:=hxf.t
  have f5:=hxf.x
  obtain ⟨q,hq,hq0,hq1⟩:=tdiv_50 (n:=x.name.length+x.desc.length) (by omega)
  simp only [Int.natCast_add] at hq
  unfold MethU.cells at hv
  by_cases c0:r - 1 - x.code.length - x.traps.length - q < 0
  ·refine ⟨.ret,_,O,w,hw,hO,.inl ⟨rfl,rfl⟩,fun k=>?_⟩
   rw [bp,ha]
   simp (disch:=omega) [code104L4,hp,hv,hq,c0]
  ·obtain ⟨ra,ga,ha1⟩:=l104c (b:=b) (cc:=x.cc) (x7:=x.cells) (x56:=.slice (some (p,o)) L.length cc) (x57:=.int .i64 L.length) (x58:=.int .i64 i) hxo.c (by omega) hxf.cs x.code.length 0 (r - 1 - x.code.length - x.traps.length - q) w (by simp) ⟨by omega,by omega⟩
   have ga1:=ga.lo
   have ga2:=ga.hi
   obtain ⟨rb,gb,hb1⟩:=l104t (b:=b) (cc:=x.tc) (x7:=x.cells) (x56:=.slice (some (p,o)) L.length cc) (x57:=.int .i64 L.length) (x58:=.int .i64 i) hxo.t (by omega) hxf.ts x.traps.length 0 ra w (by simp) ⟨by omega,by omega⟩
   have gb1:=gb.lo
   have gb2:=gb.hi
   obtain ⟨e,s',O1,w1,q1,q2,q3,hc1⟩:=l104m (cc:=x.xc) (x56:=.slice (some (p,o)) L.length cc) (x57:=.int .i64 L.length) (x58:=.int .i64 i) (hok x hxm).x f5 (hok x hxm).xok hxf.xs hb x.maps.length 0 rb O w (by simp) ⟨by omega,by omega⟩ hw hO
   simp only [b7,MethU.cells] at ha1 hb1 hc1
   rcases q3 with ⟨rfl,rfl⟩ | ⟨rfl,rc,gc,rfl⟩
   ·refine ⟨.ret,_,O1,w1,q1,q2,.inl ⟨rfl,rfl⟩,fun k=>?_⟩
    rw [bp,ha]
    simp (disch:=omega) [code104L4,hp,hv,hq,c0,ha1,hb1,hc1]
   ·by_cases c1:rc < 0
    ·refine ⟨.ret,_,O1,w1,q1,q2,.inl ⟨rfl,rfl⟩,fun k=>?_⟩
     rw [bp,ha]
     simp (disch:=omega) [code104L4,hp,hv,hq,c0,ha1,hb1,hc1,c1]
    ·obtain ⟨e,s',O2,w2,p1,p2,p3,ih⟩:=l104M (cc:=cc) hR hL hok hf hb j (i+1) rc O1 w1 (by omega) gc q1 q2
     refine ⟨e,s',O2,w2,p1,p2,p3,fun k=>?_⟩
     have ih:=ih k
     rw [e2,ha] at ih
     rw [bp,ha]
     generalize ACode.loop code104L4=L' at ih ⊢
     simp (disch:=omega) [code104L4,hp,hv,hq,c0,ha1,hb1,hc1,c1,ih]
theorem s104 {u:UnitU} (hu:u.ok O) (hf:u.fits) (hb:b≤O.length):∃ r:Bool,xCall T 104 [.agg u.cells] ⟨O,b,w⟩=some (.bool r,⟨O,b,w⟩):=by
 have hcu:u.cells=[.str u.name,.str u.super,.slice u.fa u.fields.length u.fc,.slice u.ma u.meths.length u.mc]:=rfl
 have hrb:reachB=140737488351232:=rfl
 have f1:=hf.name
 have f2:=hf.super
 have f3:=hf.f
 have f4:=hf.m
 by_cases c1:(70:Int) < u.fields.length
 ·refine ⟨false,?_⟩
  rw [hcu]
  simp (disch:=omega) [bf t104,code104,c1]
 ·by_cases c2:(40:Int) < u.meths.length
  ·refine ⟨false,?_⟩
   rw [hcu]
   simp (disch:=omega) [bf t104,code104,c1,c2]
  ·by_cases c3:(300:Int) < u.name.length+u.super.length
   ·refine ⟨false,?_⟩
    rw [hcu]
    simp (disch:=omega) [bf t104,code104,c1,c2,c3]
   ·obtain ⟨ra,ga,ha⟩:=l104f (b:=b) (cc:=u.fc) (x1:=u.cells) hu.f f3 hf.fs u.fields.length 0 600 O.length (by simp) ⟨by omega,by omega⟩
    have g1:=ga.lo
    have g2:=ga.hi
    obtain ⟨e,s',O1,w1,q1,q2,q3,hm⟩:=l104M (b:=b) (cc:=u.mc) hu.m f4 hu.mok hf.ms hb u.meths.length 0 ra O O.length (by simp) ⟨by omega,by omega⟩ (aj _) (Pre.refl _)
    simp only [b7] at ha hm
    rw [hcu] at ha ⊢
    rcases q3 with ⟨rfl,rfl⟩ | ⟨rfl,rc,rfl⟩
    ·refine ⟨false,?_⟩
     simp (disch:=omega) [bf t104,code104,c1,c2,c3,ha,hm]
    ·refine ⟨decide (0≤rc),?_⟩
     simp (disch:=omega) [bf t104,code104,c1,c2,c3,ha,hm]
end
end Go.Abs.AbsHier

namespace Go.Abs.AbsFlow
open Go.Abs.AbsDesc Go.Abs.AbsHier
open Go.Abs.AbsOrd hiding T sub
variable {os O:List AObj} {b w:Nat}
section
attribute [-simp] getElem?_pos getElem?_neg List.all_eq_true
attribute [local simp] gz gs nltT nltF iltT iltF ileT nleT eu
theorem s75 {m:MethU} (hm:m.ok O) (hf:m.fits) (hb:b≤O.length) (w:Nat):∃ r:Bool,xCall T 75 [.agg m.cells] ⟨O,b,w⟩=some (.bool r,⟨O,b,w⟩)∧(r=true→m.code.length≤200∧m.traps.length≤30):=by
 have hcm:m.cells=[.bool m.st,.str m.name,.str m.desc,.int .i64 m.stack,.int .i64 m.locals,.slice m.ca m.code.length m.cc,.slice m.ta m.traps.length m.tc,.slice m.xa m.maps.length m.xc]:=rfl
 by_cases c1:m.code.length≤200
 ·have c1':(m.code.length:Int)≤200:=by omega
  by_cases c2:m.traps.length≤30
  ·have c2':(m.traps.length:Int)≤30:=by omega
   have hp:Pre O (O++[.cells 8 m.cells]):=Pre.app _ _
   have hk:(O++[AObj.cells 8 m.cells])[O.length]? = some (.cells 8 m.cells):=by rw [gd]; rfl
   have hm1:=MethU.ok.pre hp hm
   have hu:UnitU.ok (O++[.cells 8 m.cells]) ⟨[],[],[],none,some 0,[m],some (O.length,0),some 1⟩:=by
    refine ⟨by simp,by simp,⟨fun h=>absurd rfl h⟩,by simp,(fun i o e=>by cases e),(fun x hx=>by cases hx),?_,(by show 1≤9223372036854775807; decide),(fun i o e=>by cases e; simp),fun x hx=>?_⟩
    ·exact Row.mk0 (fun _=>rfl) (by rw [hk]; simp)
    ·rw [bt.1 hx]; exact hm1
   have hfu:UnitU.fits ⟨[],[],[],none,some 0,[m],some (O.length,0),some 1⟩:=by
    refine ⟨by simp,by simp,by simp,(fun x hx=>by cases hx),by simp [reachB],(fun x hx=>?_),⟨(fun k e=>by simp),(fun k e=>by cases e; simp)⟩⟩
    rw [bt.1 hx]; exact hf
   obtain ⟨r,hr⟩:=AbsHier.s104 (b:=b) (w:=O.length) hu hfu (by simp; omega)
   have hr:=xCall_sub subT hr
   have hcu:UnitU.cells ⟨[],[],[],none,some 0,[m],some (O.length,0),some 1⟩=[.str [],.str [],.slice none 0 (some 0),.slice (some (O.length,0)) 1 (some 1)]:=rfl
   rw [hcu,hcm] at hr
   refine ⟨r,?_,fun _=>⟨c1,c2⟩⟩
   cases r <;> simp (disch:=omega) [bf t75,code75,hcm,c1',c2',hr]
  ·have c2':¬ (m.traps.length:Int)≤30:=by omega
   exact ⟨false,by simp (disch:=omega) [bf t75,code75,hcm,c1',c2'],fun h=>by cases h⟩
 ·have c1':¬ (m.code.length:Int)≤200:=by omega
  exact ⟨false,by simp (disch:=omega) [bf t75,code75,hcm,c1'],fun h=>by cases h⟩
end
end Go.Abs.AbsFlow

namespace Go.Abs.AbsFlow
open Go.Abs.AbsDesc Go.Abs.AbsHier
open Go.Abs.AbsOrd hiding T sub
variable {os O:List AObj} {b w:Nat}
theorem nexts_few {m:MethU} {i:Nat} {x:InsU}:(nextsL m i x).length≤2:=by
 have h1:(outE m.code.length i x).length≤1:=by unfold outE; split <;> simp
 have h2:(outB m x).length≤1:=by unfold outB; split <;> simp
 have h3:(outE m.code.length i x++outB m x).length≤2:=by rw [a8]; omega
 unfold nextsL
 generalize outE m.code.length i x++outB m x=l at h3
 unfold srt2
 split
 ·split
  ·simp
  ·split <;> simp
 ·exact h3
theorem s77 {h:Heap}:xCall T 77 [] h=some (.bool true,h):=closed_run (f:=code77) t77 rfl 60 rfl rfl (h':=⟨[],0,0⟩) (by kernel_rfl) h
end Go.Abs.AbsFlow

namespace Go.Abs
variable {os:List AObj} {b w:Nat} {d:Dat} {cs:List AVal}
theorem has_ins2 (h:Has ⟨os,b,w⟩ shIns d cs):∃ x:InsU,cs=x.cells∧x.fits∧0≤x.op∧x.op < 256:=by
 obtain ⟨l,rfl,h⟩:=h.struct
 obtain ⟨_,_,_,_,rfl,rfl,h1,h⟩:=h.cons
 obtain ⟨_,_,_,_,rfl,rfl,h2,h⟩:=h.cons
 obtain ⟨_,_,_,_,rfl,rfl,h3,h⟩:=h.cons
 obtain ⟨_,_,_,_,rfl,rfl,h4,h⟩:=h.cons
 obtain ⟨_,_,_,_,rfl,rfl,h5,h⟩:=h.cons
 obtain ⟨_,_,_,_,rfl,rfl,h6,h⟩:=h.cons
 obtain ⟨_,_,_,_,rfl,rfl,h7,h⟩:=h.cons
 obtain ⟨rfl,rfl⟩:=h.nil
 obtain ⟨op,_,rfl,ho⟩:=h1.int
 obtain ⟨n,_,rfl,_⟩:=h2.int
 obtain ⟨m,_,rfl,_⟩:=h3.int
 obtain ⟨c,_,rfl,hc⟩:=h4.str
 obtain ⟨nm,_,rfl,hn⟩:=h5.str
 obtain ⟨e,_,rfl,he⟩:=h6.str
 obtain ⟨t,_,rfl,ht⟩:=h7.str
 have h0:(0:Int)≤op:=ho.1
 have h1:op≤255:=ho.2
 exact ⟨⟨op,n,m,c,nm,e,t⟩,rfl,⟨hc,hn,he,ht⟩,h0,by show op < 256; omega⟩
theorem has_meth2 (hb:b≤os.length) (h:Has ⟨os,b,w⟩ shMeth d cs):∃ x:MethU,cs=x.cells∧x.ok os∧x.fits∧∀ y ∈ x.code,0≤y.op∧y.op < 256:=by
 obtain ⟨l,rfl,h⟩:=h.struct
 obtain ⟨_,_,_,_,rfl,rfl,h1,h⟩:=h.cons
 obtain ⟨_,_,_,_,rfl,rfl,h2,h⟩:=h.cons
 obtain ⟨_,_,_,_,rfl,rfl,h3,h⟩:=h.cons
 obtain ⟨_,_,_,_,rfl,rfl,h4,h⟩:=h.cons
 obtain ⟨_,_,_,_,rfl,rfl,h5,h⟩:=h.cons
 obtain ⟨_,_,_,_,rfl,rfl,h6,h⟩:=h.cons
 obtain ⟨_,_,_,_,rfl,rfl,h7,h⟩:=h.cons
 obtain ⟨_,_,_,_,rfl,rfl,h8,h⟩:=h.cons
 obtain ⟨rfl,rfl⟩:=h.nil
 obtain ⟨st,_,rfl⟩:=h1.bool
 obtain ⟨n,_,rfl,hn⟩:=h2.str
 obtain ⟨e,_,rfl,he⟩:=h3.str
 obtain ⟨p,_,rfl,_⟩:=h4.int
 obtain ⟨q,_,rfl,_⟩:=h5.int
 obtain ⟨ca,C,cc,rfl,hC,hCn,hCs,hCu,_⟩:=h6.row (ok:=fun x:InsU=>x.fits∧0≤x.op∧x.op < 256) fun d c h=>has_ins2 h
 obtain ⟨ta,T,tc,rfl,hT,hTn,hTs,hTu,_⟩:=h7.row fun d c h=>has_trap h
 obtain ⟨xa,X,xc,rfl,hX,hXn,hXs,hXu,_⟩:=h8.row (ok:=fun x:MapU=>x.ok os∧x.fits) fun d c h=>has_map hb h
 have hCs':∀ x ∈ C,x.fits:=fun x hx=>(hCs x hx).1
 exact ⟨⟨st,n,e,p,q,C,ca,cc,T,ta,tc,X,xa,xc⟩,rfl,
  ⟨gt hn,gt he,hC,gt hCn,under_of hCu hb,fun x hx=>⟨gt (hCs' x hx).1,gt (hCs' x hx).2.1,gt (hCs' x hx).2.2.1,gt (hCs' x hx).2.2.2⟩,hT,gt hTn,under_of hTu hb,fun x hx=>gt (hTs x hx),hX,gt hXn,under_of hXu hb,fun x hx=>(hXs x hx).1⟩,
  ⟨hn,he,hCn,hCs',hTn,hTs,hXn,fun x hx=>(hXs x hx).2⟩,fun y hy=>(hCs y hy).2⟩
end Go.Abs

namespace Go.Abs.AbsFlow
open Go.Abs.AbsDesc Go.Abs.AbsHier
open Go.Abs.AbsOrd hiding T sub
open Go.Abs.Short
variable {os O:List AObj} {b w:Nat}
section
attribute [-simp] getElem?_pos getElem?_neg List.all_eq_true
attribute [local simp] gz gs nltT nltF iltT iltF ileT nleT eu
theorem s83 {c:Int} {h:Heap}:xCall T 83 [.int .u8 c] h=some (.bool (endsC c),h):=by
 obtain ⟨os,b,w⟩:=h
 unfold endsC
 by_cases c1:c=167
 ·subst c1; simp (disch:=omega) [bf t83,code83]
 ·by_cases c2:c=191
  ·subst c2; simp (disch:=omega) [bf t83,code83]
  ·by_cases c3:c=172
   ·subst c3; simp (disch:=omega) [bf t83,code83]
   ·by_cases c4:c=173
    ·subst c4; simp (disch:=omega) [bf t83,code83]
    ·by_cases c5:c=176
     ·subst c5; simp (disch:=omega) [bf t83,code83]
     ·by_cases c6:c=177
      ·subst c6; simp (disch:=omega) [bf t83,code83]
      ·simp (disch:=omega) [bf t83,code83,c1,c2,c3,c4,c5,c6]
theorem s135 {m:MethU} {i:Int} {h:Heap} (hn:m.code.length≤reachB):xCall T 135 [.agg m.cells,.int .i64 i] h=some (.bool (inM m i),h):=by
 have hrb:reachB=140737488351232:=rfl
 have hcm:m.cells=[.bool m.st,.str m.name,.str m.desc,.int .i64 m.stack,.int .i64 m.locals,.slice m.ca m.code.length m.cc,.slice m.ta m.traps.length m.tc,.slice m.xa m.maps.length m.xc]:=rfl
 obtain ⟨os,b,w⟩:=h
 have hi:inM m i=(decide (0≤i) && decide (i < m.code.length)):=by
  unfold inM inI
  congr 1
  rw [decide_eq_decide]; omega
 rw [hi]
 by_cases c1:0≤i
 ·by_cases c2:i < m.code.length <;> simp (disch:=omega) [bf t135,code135,hcm,c1,c2]
 ·simp (disch:=omega) [bf t135,code135,hcm,c1]
end
def findM (m:MethU) (i:Int):Option MapU:=m.maps.find? fun x=>decide (x.at'=i)
theorem find_first {α:Type} (p:α→Bool):∀ (l:List α) (i j:Nat) (x:α),firstIx p l i=((i+j:Nat):Int)→l[j]? = some x→p x=true→l.find? p=some x
 | [],_,_,_,_,h,_=>by simp at h
 | y :: l,i,j,x,h,hx,hp=>by
  by_cases hy:p y=true
  ·simp only [firstIx,hy,if_true] at h
   have:j=0:=by omega
   subst this
   simp only [List.getElem?_cons_zero,Option.some.injEq] at hx
   subst hx
   rw [List.find?_cons_of_pos hy]
  ·rw [List.find?_cons_of_neg hy]
   cases j with
   | zero =>
    simp only [List.getElem?_cons_zero,Option.some.injEq] at hx
    subst hx; exact absurd hp hy
   | succ j =>
    simp only [firstIx,hy,ba,if_false] at h
    exact find_first p l (i+1) j x (by rw [h]; omega) (by simpa using hx) hp
def mapV (o:Option MapU):AVal:=match o with
 | some x=>.tuple [.agg x.cells,.bool true]
 | none=>.tuple [.agg [.int .i64 0,.slice none 0 (some 0),.slice none 0 (some 0)],.bool false]
section
attribute [-simp] getElem?_pos getElem?_neg List.all_eq_true
attribute [local simp] gz gs nltT nltF iltT iltF ileT nleT eu
theorem s71m {m:MethU} {i:Int} (hm:m.ok O) (hf:m.fits) (hb:b≤O.length) (w:Nat):xCall T 71 [.agg m.cells,.int .i64 i] ⟨O,b,w⟩=some (mapV (findM m i),⟨O,b,w⟩):=by
 have hrb:reachB=140737488351232:=rfl
 have hcm:m.cells=[.bool m.st,.str m.name,.str m.desc,.int .i64 m.stack,.int .i64 m.locals,.slice m.ca m.code.length m.cc,.slice m.ta m.traps.length m.tc,.slice m.xa m.maps.length m.xc]:=rfl
 have hka:(O++[AObj.cells 1 [.int .i64 i]])[O.length]? = some (.cells 1 [.int .i64 i]):=by rw [gd]; rfl
 have hr:=(Pre.app O [AObj.cells 1 [.int .i64 i]]).row hm.x
 have h133:=fun w=>s133 (b:=b) (w:=w) (c:=m.xc) hr hf.x hka
 cases e:m.maps.any fun x=>decide (x.at'=i) with
 | false =>
  have hn:findM m i=none:=by
   unfold findM
   rw [List.find?_eq_none]
   rw [List.any_eq_false] at e
   exact e
  rw [hn]
  have h0:firstIx (fun x:MapU=>decide (x.at'=i)) m.maps 0 = -1:=firstIx_none _ _ 0 fun x hx=>by
   rw [List.any_eq_false] at e
   simpa using e x hx
  rw [h0] at h133
  simp (disch:=omega) [bf t71,code71,hcm,h133,mapV]
 | true =>
  rw [List.any_eq_true] at e
  obtain ⟨j,x,hj,hx,hx2⟩:=firstIx_get _ m.maps 0 (by rw [List.any_eq_true]; exact e)
  have hfind:findM m i=some x:=find_first _ _ 0 j x hx2 hj hx
  rw [hfind]
  have hx:x.at'=i:=by simpa using hx
  rw [hx2,bg] at h133
  have hjl:=ah hj
  have hxm:=hm.xok x (aq hj)
  have hfx:=hf.x
  obtain ⟨p,o,cs,ha,hp,hpl,hcs,hv⟩:=row_at hr hj
  rw [ha] at h133 hcm
  have hcx:x.cells=[.int .i64 x.at',.slice x.la x.locals.length x.lc,.slice x.sa x.stack.length x.sc]:=rfl
  have u1:=underV (l:=x.locals.length) (c:=x.lc) hxm.lu
  have u2:=underV (l:=x.stack.length) (c:=x.sc) hxm.su
  rw [hcx] at hv
  simp (disch:=omega) [bf t71,code71,hcm,h133,hp,hv,u1,u2,mapV,hcx]
theorem l82 {m:MethU} {i:Int} (hm:m.ok O) (hf:m.fits) (hb:b≤O.length) {x4:List AVal} (h4:x4.length=3):∀ (j q:Nat) (w:Nat),q+j=m.maps.length→∀ (k:AExit→St→Option (AVal × Heap)),
  xK T (.loop code82L0) ⟨[(1,.val (.int .i64 i)),(4,.var x4),(9,.val (.slice m.xa m.maps.length m.xc)),(10,.val (.int .i64 m.maps.length)),(11,.val (.int .i64 q))],⟨O,b,w⟩⟩ (k:=⟨k⟩) =
   match (m.maps.drop q).find? fun x=>decide (x.at'=i) with
   | some x=>k .ret ⟨[(4,.var x.cells),(5,.val (.bool true))],⟨O,b,w⟩⟩
   | none=>k (.exit 0) ⟨[(4,.var x4)],⟨O,b,w⟩⟩
 | 0,q,w,hq,k=>by
  rw [bp,e6 (by omega)]
  simp (disch:=omega) [code82L0]
 | j+1,q,w,hq,k=>by
  have hrb:reachB=140737488351232:=rfl
  have hfx:=hf.x
  obtain ⟨x,hx⟩:∃ x,m.maps[q]? = some x:=⟨_,ag (by omega)⟩
  obtain ⟨p,o,cs,ha,hp,hpl,hcs,hv⟩:=row_at hm.x hx
  have ih:=l82 (i:=i) hm hf hb h4 j (q+1) w (by omega) k
  have e2:((q+1:Nat):Int)=(q:Int)+1:=by omega
  rw [e2] at ih
  have hcx:x.cells=[.int .i64 x.at',.slice x.la x.locals.length x.lc,.slice x.sa x.stack.length x.sc]:=rfl
  rw [gk hx,List.find?_cons]
  rw [ha] at ih ⊢
  rw [hcx] at hv
  obtain ⟨y1,y2,y3,rfl⟩:∃ y1 y2 y3,x4=[y1,y2,y3]:=by
   match x4,h4 with
   | [y1,y2,y3],_=>exact ⟨_,_,_,rfl⟩
  rw [bp]
  generalize ACode.loop code82L0=LL at ih ⊢
  by_cases c:x.at'=i
  ·simp only [c,decide_true]
   have hv':List.take 3 (List.drop (o+q*3) cs)=[.int .i64 i,.slice x.la x.locals.length x.lc,.slice x.sa x.stack.length x.sc]:=by rw [← c]; exact hv
   have hcx':x.cells=[.int .i64 i,.slice x.la x.locals.length x.lc,.slice x.sa x.stack.length x.sc]:=by rw [← c]; exact hcx
   simp (disch:=omega) [code82L0,hp,hv',hcx']
  ·simp only [c,decide_false]
   simp (disch:=omega) [code82L0,hp,hv,c,ih]
theorem s82 {m:MethU} {i:Int} (hm:m.ok O) (hf:m.fits) (hb:b≤O.length) (w:Nat):xCall T 82 [.agg m.cells,.int .i64 i] ⟨O,b,w⟩=some (mapV (findM m i),⟨O,b,w⟩):=by
 have hcm:m.cells=[.bool m.st,.str m.name,.str m.desc,.int .i64 m.stack,.int .i64 m.locals,.slice m.ca m.code.length m.cc,.slice m.ta m.traps.length m.tc,.slice m.xa m.maps.length m.xc]:=rfl
 have hl:=fun k=>l82 (b:=b) (i:=i) (x4:=[.int .i64 0,.slice none 0 (some 0),.slice none 0 (some 0)]) hm hf hb rfl m.maps.length 0 O.length (by omega) k
 simp only [List.drop_zero,b7] at hl
 have hF:(m.maps.find? fun x=>decide (x.at'=i))=findM m i:=rfl
 rw [hF] at hl
 cases e:findM m i with
 | none =>
  rw [e] at hl
  simp (disch:=omega) [bf t82,code82,hcm,hl,mapV]
 | some x =>
  rw [e] at hl
  have hxm:=hm.xok x (List.mem_of_find?_eq_some e)
  have hcx:x.cells=[.int .i64 x.at',.slice x.la x.locals.length x.lc,.slice x.sa x.stack.length x.sc]:=rfl
  have u1:=underV (l:=x.locals.length) (c:=x.lc) hxm.lu
  have u2:=underV (l:=x.stack.length) (c:=x.sc) hxm.su
  simp only [hcx] at hl
  simp (disch:=omega) [bf t82,code82,hcm,hl,mapV,hcx,u1,u2]
end
end Go.Abs.AbsFlow
