/-
  Texts joined.
-/
import Derived.Test.YtnpknimahijmfaaGreatDoorQ0
import Derived.Test.YtnpknimahijmfaaGreatDoorQ8
set_option linter.unusedVariables false
set_option linter.unusedSimpArgs false
set_option maxRecDepth 100000
namespace Go.Abs.AbsDesc
open Go.Abs.Short
def code25:AFunc:=⟨false,false,1,12,[.tmp 2],
 .seq (R [0] [o 2 (.val F)])
 (.seq (R [2] [v 3 0,o 4 (.len .str (t 3)),o 5 (.bin .leq (t 4) (n 64)),v 6 5,g 7 6 true (.val (t 0)),g 8 6 true (.callg 90 [t 7,.const (.str [47])]),g 9 6 true (.callg 91 [t 8,.const (.func 92 [] [])]),g 10 6 true (.un .not (t 9)),o 11 (.pick (t 6) (t 10) F),v 2 11])
 (.live [2] (.ret))),none⟩
def code26L0:ACode :=
 .live [0,3,4] (.seq (.seq (R [0,3,4,10] [v 7 4,v 8 0,o 9 (.len .str (t 8)),o 10 (.bin .lss (t 7) (t 9))])
 (.after (.cond (t 10) (.skip) (.live [0,3] (.exit 0))) [0,3,4]))
 (.seq (.after (.block 1 (.seq (R [0,3,4,5] [v 13 0,v 14 4,o 15 (.index (t 13) (t 14)),v 5 15])
 (.seq (R [0,3,4,5,6] [v 16 5,o 17 (.bin .geq (t 16) (.const (.int .u8 97))),v 18 17,g 19 18 true (.val (t 5)),g 20 18 true (.bin .leq (t 19) (.const (.int .u8 122))),o 21 (.pick (t 18) (t 20) F),v 22 21,g 23 22 false (.val (t 5)),g 24 22 false (.bin .geq (t 23) (.const (.int .u8 65))),g 25 22 false (.val (t 24)),g 26 25 true (.val (t 5)),g 27 25 true (.bin .leq (t 26) (.const (.int .u8 90))),g 28 22 false (.pick (t 25) (t 27) F),o 29 (.pick (t 22) Y (t 28)),v 30 29,g 31 30 false (.val (t 5)),g 32 30 false (.bin .geq (t 31) (.const (.int .u8 48))),g 33 30 false (.val (t 32)),g 34 33 true (.val (t 5)),g 35 33 true (.bin .leq (t 34) (.const (.int .u8 57))),g 36 30 false (.pick (t 33) (t 35) F),o 37 (.pick (t 30) Y (t 36)),v 38 37,g 39 38 false (.val (t 5)),g 40 38 false (.bin .eql (t 39) (.const (.int .u8 95))),o 41 (.pick (t 38) Y (t 40)),v 42 41,g 43 42 false (.val (t 5)),g 44 42 false (.bin .eql (t 43) (.const (.int .u8 36))),o 45 (.pick (t 42) Y (t 44)),v 6 45])
 (.seq (.seq (R [0,4,5,55] [v 46 6,o 47 (.un .not (t 46)),v 48 47,g 49 48 true (.val (t 5)),g 50 48 true (.bin .neq (t 49) (.const (.int .u8 47))),g 51 48 true (.val (t 50)),g 52 51 false (.val (t 3)),g 53 51 false (.bin .eql (t 52) (.const (.int .u8 47))),g 54 48 true (.pick (t 51) Y (t 53)),o 55 (.pick (t 48) (t 54) F)])
 (.after (.cond (t 55) (.seq (R [2] [o 2 (.val F)])
 (.live [2] (.ret))) (.skip)) [0,4,5]))
 (R [0,3,4] [v 56 5,v 3 56]))))) [0,3,4])
 (R [0,3,4] [v 11 4,o 12 (.bin .add (t 11) (n 1)),v 4 12])))
def code26:AFunc:=⟨false,false,1,64,[.tmp 2],
 .seq (R [0] [o 2 (.val F)])
 (.seq (R [0,3] [o 3 (.val (.const (.int .u8 47)))])
 (.seq (.seq (R [0,3,4] [o 4 (.val (n 0))])
 (.after (.block 0 (.loop code26L0)) [0,3]))
 (.seq (R [2] [v 57 0,o 58 (.len .str (t 57)),o 59 (.bin .leq (t 58) (n 64)),v 60 59,g 61 60 true (.val (t 3)),g 62 60 true (.bin .neq (t 61) (.const (.int .u8 47))),o 63 (.pick (t 60) (t 62) F),v 2 63])
 (.live [2] (.ret))))),none⟩
def code27:AFunc:=⟨false,false,1,11,[.tmp 2],
 .seq (R [0] [o 2 (.val F)])
 (.seq (R [2] [v 3 0,o 4 (.bin .neq (t 3) (.const (.str []))),v 5 4,g 6 5 true (.val (t 0)),g 7 5 true (.callg 86 [t 6]),g 8 5 true (.val (t 0)),g 9 5 true (.bin .eql (t 7) (t 8)),o 10 (.pick (t 5) (t 9) F),v 2 10])
 (.live [2] (.ret))),none⟩
def code28L0:ACode :=
 .live [0,3] (.seq (.seq (R [0,3,14] [v 5 3,v 6 0,o 7 (.len .str (t 6)),o 8 (.bin .lss (t 5) (t 7)),v 9 8,g 10 9 true (.val (t 0)),g 11 9 true (.val (t 3)),g 12 9 true (.index (t 10) (t 11)),g 13 9 true (.bin .eql (t 12) (.const (.int .u8 91))),o 14 (.pick (t 9) (t 13) F)])
 (.after (.cond (t 14) (.skip) (.live [0,3] (.exit 0))) [0,3]))
 (.after (.block 1 (R [0,3] [v 15 3,o 16 (.bin .add (t 15) (n 1)),v 3 16])) [0,3]))
def code28:AFunc:=⟨false,false,1,42,[.tmp 2],
 .seq (R [0] [o 2 (.val F)])
 (.seq (R [0,3] [o 3 (.val (n 0))])
 (.seq (.after (.block 0 (.loop code28L0)) [0,3])
 (.seq (R [3,4] [v 17 0,v 18 3,o 19 (.slice .str (t 17) (some (t 18)) none none),v 4 19])
 (.seq (.seq (R [3,4,21] [v 20 3,o 21 (.bin .gtr (t 20) (n 8))])
 (.after (.cond (t 21) (.seq (R [2] [o 2 (.val F)])
 (.live [2] (.ret))) (.skip)) [3,4]))
 (.seq (.seq (R [3,4,27] [v 22 3,o 23 (.bin .gtr (t 22) (n 0)),v 24 23,g 25 24 true (.val (t 4)),g 26 24 true (.bin .eql (t 25) (.const (.str [66]))),o 27 (.pick (t 24) (t 26) F)])
 (.after (.cond (t 27) (.seq (R [2] [o 2 (.val Y)])
 (.live [2] (.ret))) (.skip)) [3,4]))
 (.seq (R [2] [v 28 4,o 29 (.bin .eql (t 28) (.const (.str [73]))),v 30 29,g 31 30 false (.val (t 3)),g 32 30 false (.bin .eql (t 31) (n 0)),g 33 30 false (.val (t 32)),g 34 33 true (.val (t 4)),g 35 33 true (.bin .eql (t 34) (.const (.str [74]))),g 36 30 false (.pick (t 33) (t 35) F),o 37 (.pick (t 30) Y (t 36)),v 38 37,g 39 38 false (.val (t 4)),g 40 38 false (.callg 93 [t 39]),o 41 (.pick (t 38) Y (t 40)),v 2 41])
 (.live [2] (.ret)))))))),none⟩
def code30:AFunc:=⟨false,false,1,9,[.tmp 2],
 .seq (R [0] [o 2 (.val F)])
 (.seq (R [2] [v 3 0,o 4 (.callg 88 [t 3,.const (.str [76])]),v 5 4,g 6 5 false (.val (t 0)),g 7 5 false (.callg 88 [t 6,.const (.str [91])]),o 8 (.pick (t 5) Y (t 7)),v 2 8])
 (.live [2] (.ret))),none⟩
def code33:AFunc:=⟨false,false,1,25,[.tmp 2,.tmp 3],
 .seq (R [0] [o 2 (.val (.const (.str []))),o 3 (.val F)])
 (.seq (.seq (R [0,19] [v 4 0,o 5 (.len .str (t 4)),o 6 (.bin .lss (t 5) (n 2)),v 7 6,g 8 7 false (.val (t 0)),g 9 7 false (.index (t 8) (n 0)),g 10 7 false (.bin .neq (t 9) (.const (.int .u8 76))),o 11 (.pick (t 7) Y (t 10)),v 12 11,g 13 12 false (.val (t 0)),g 14 12 false (.val (t 0)),g 15 12 false (.len .str (t 14)),g 16 12 false (.bin .sub (t 15) (n 1)),g 17 12 false (.index (t 13) (t 16)),g 18 12 false (.bin .neq (t 17) (.const (.int .u8 59))),o 19 (.pick (t 12) Y (t 18))])
 (.after (.cond (t 19) (.seq (R [2,3] [o 2 (.val (.const (.str []))),o 3 (.val F)])
 (.live [2,3] (.ret))) (.skip)) [0]))
 (.seq (R [2,3] [v 20 0,v 21 0,o 22 (.len .str (t 21)),o 23 (.bin .sub (t 22) (n 1)),o 24 (.slice .str (t 20) (some (n 1)) (some (t 23)) none),v 2 24,o 3 (.val Y)])
 (.live [2,3] (.ret)))),none⟩
def code34:AFunc:=⟨false,false,1,22,[.tmp 2,.tmp 3],
 .seq (R [0] [o 2 (.val (.const (.str []))),o 3 (.val F)])
 (.seq (.seq (R [0,16] [v 4 0,o 5 (.len .str (t 4)),o 6 (.bin .lss (t 5) (n 2)),v 7 6,g 8 7 false (.val (t 0)),g 9 7 false (.callg 88 [t 8,.const (.str [76])]),g 10 7 false (.un .not (t 9)),o 11 (.pick (t 7) Y (t 10)),v 12 11,g 13 12 false (.val (t 0)),g 14 12 false (.callg 89 [t 13,.const (.str [59])]),g 15 12 false (.un .not (t 14)),o 16 (.pick (t 12) Y (t 15))])
 (.after (.cond (t 16) (.seq (R [2,3] [o 2 (.val (.const (.str []))),o 3 (.val F)])
 (.live [2,3] (.ret))) (.skip)) [0]))
 (.seq (R [2,3] [v 17 0,v 18 0,o 19 (.len .str (t 18)),o 20 (.bin .sub (t 19) (n 1)),o 21 (.slice .str (t 17) (some (n 1)) (some (t 20)) none),v 2 21,o 3 (.val Y)])
 (.live [2,3] (.ret)))),none⟩
def code36:AFunc:=⟨false,false,1,14,[.tmp 2,.tmp 3],
 .seq (R [0] [o 2 (.val (.const (.str []))),o 3 (.val F)])
 (.seq (R [4,5] [v 7 0,o 8 (.callg 85 [t 7,.const (.str [91])]),v 6 8,o 9 (.extract (t 6) 0),o 10 (.extract (t 6) 1),v 4 9,v 5 10])
 (.seq (.seq (R [4,12] [v 11 5,o 12 (.un .not (t 11))])
 (.after (.cond (t 12) (.seq (R [2,3] [o 2 (.val (.const (.str []))),o 3 (.val F)])
 (.live [2,3] (.ret))) (.skip)) [4]))
 (.seq (R [2,3] [v 13 4,v 2 13,o 3 (.val Y)])
 (.live [2,3] (.ret))))),none⟩
def code37L0:ACode :=
 .live [5,6] (.seq (.seq (R [5,6,23] [v 17 6,o 18 (.bin .neq (t 17) (.const (.str []))),v 19 18,g 20 19 true (.val (t 6)),g 21 19 true (.index (t 20) (n 0)),g 22 19 true (.bin .neq (t 21) (.const (.int .u8 41))),o 23 (.pick (t 19) (t 22) F)])
 (.after (.cond (t 23) (.skip) (.live [5,6] (.exit 0))) [5,6]))
 (.after (.block 1 (.seq (R [5,6,7] [v 24 6,o 25 (.callg 87 [t 24]),v 7 25])
 (.seq (.seq (R [5,6,7,32] [v 26 7,o 27 (.bin .eql (t 26) (.const (.str []))),v 28 27,g 29 28 false (.val (t 5)),g 30 28 false (.len .sl (t 29)),g 31 28 false (.bin .eql (t 30) (n 16)),o 32 (.pick (t 28) Y (t 31))])
 (.after (.cond (t 32) (.seq (R [2,3,4] [o 2 (.val (.const (.slice none 0 (some 0)))),o 3 (.val (.const (.str []))),o 4 (.val (n 8))])
 (.live [2,3,4] (.ret))) (.skip)) [5,6,7]))
 (.seq (R [5,6,7] [v 33 5,v 34 7,o 35 (.mkslice 1 1 [.str []] [(0,1,t 34)]),o 36 (.append 1 16 (t 33) (t 35)),v 5 36])
 (R [5,6] [v 37 6,v 38 7,o 39 (.len .str (t 38)),o 40 (.slice .str (t 37) (some (t 39)) none none),v 6 40]))))) [5,6]))
def code37:AFunc:=⟨false,false,1,57,[.tmp 2,.tmp 3,.tmp 4],
 .seq (R [0] [o 2 (.val (.const (.slice none 0 (some 0)))),o 3 (.val (.const (.str []))),o 4 (.val (n 0))])
 (.seq (.seq (R [0,14] [v 8 0,o 9 (.bin .eql (t 8) (.const (.str []))),v 10 9,g 11 10 false (.val (t 0)),g 12 10 false (.index (t 11) (n 0)),g 13 10 false (.bin .neq (t 12) (.const (.int .u8 40))),o 14 (.pick (t 10) Y (t 13))])
 (.after (.cond (t 14) (.seq (R [2,3,4] [o 2 (.val (.const (.slice none 0 (some 0)))),o 3 (.val (.const (.str []))),o 4 (.val (n 8))])
 (.live [2,3,4] (.ret))) (.skip)) [0]))
 (.seq (R [0,5] [o 5 (.val (.const (.slice none 0 (some 0))))])
 (.seq (R [5,6] [v 15 0,o 16 (.slice .str (t 15) (some (n 1)) none none),v 6 16])
 (.seq (.after (.block 0 (.loop code37L0)) [5,6])
 (.seq (.seq (R [5,6,53] [v 41 6,o 42 (.bin .eql (t 41) (.const (.str []))),v 43 42,g 44 43 false (.val (t 6)),g 45 43 false (.slice .str (t 44) (some (n 1)) none none),g 46 43 false (.callg 28 [t 45]),g 47 43 false (.un .not (t 46)),g 48 43 false (.val (t 47)),g 49 48 true (.val (t 6)),g 50 48 true (.slice .str (t 49) (some (n 1)) none none),g 51 48 true (.bin .neq (t 50) (.const (.str [86]))),g 52 43 false (.pick (t 48) (t 51) F),o 53 (.pick (t 43) Y (t 52))])
 (.after (.cond (t 53) (.seq (R [2,3,4] [o 2 (.val (.const (.slice none 0 (some 0)))),o 3 (.val (.const (.str []))),o 4 (.val (n 8))])
 (.live [2,3,4] (.ret))) (.skip)) [5,6]))
 (.seq (.after (.region [⟨true,[],[v 54 5,v 55 6,o 56 (.slice .str (t 55) (some (n 1)) none none),v 2 54]⟩,⟨false,[],[v 3 56,o 4 (.val (n 0))]⟩]) [2,3,4])
 (.live [2,3,4] (.ret)))))))),none⟩
def code38L0:ACode :=
 .live [5,7] (.seq (.seq (R [5,7,23] [v 17 5,o 18 (.bin .neq (t 17) (.const (.str []))),v 19 18,g 20 19 true (.val (t 5)),g 21 19 true (.index (t 20) (n 0)),g 22 19 true (.bin .neq (t 21) (.const (.int .u8 41))),o 23 (.pick (t 19) (t 22) F)])
 (.after (.cond (t 23) (.skip) (.live [5,7] (.exit 0))) [5,7]))
 (.after (.block 1 (.seq (R [5,7,8] [v 24 5,o 25 (.callg 86 [t 24]),v 8 25])
 (.seq (.seq (R [5,7,8,32] [v 26 8,o 27 (.bin .eql (t 26) (.const (.str []))),v 28 27,g 29 28 false (.val (t 7)),g 30 28 false (.len .sl (t 29)),g 31 28 false (.bin .eql (t 30) (n 16)),o 32 (.pick (t 28) Y (t 31))])
 (.after (.cond (t 32) (.seq (R [2,3,4] [o 2 (.val (.const (.slice none 0 (some 0)))),o 3 (.val (.const (.str []))),o 4 (.val (n 8))])
 (.live [2,3,4] (.ret))) (.skip)) [5,7,8]))
 (.after (.region [⟨true,[0,0,2,7,0,0,32,112,15],[v 33 7,v 34 8,o 35 (.mkslice 1 1 [.str []] [(0,1,t 34)]),o 36 (.append 1 16 (t 33) (t 35)),v 37 5,v 38 8,o 39 (.len .str (t 38)),o 40 (.slice .str (t 37) (some (t 39)) none none),v 7 36]⟩,⟨false,[],[v 5 40]⟩]) [5,7])))) [5,7]))
def code38:AFunc:=⟨false,false,1,59,[.tmp 2,.tmp 3,.tmp 4],
 .seq (R [0] [o 2 (.val (.const (.slice none 0 (some 0)))),o 3 (.val (.const (.str []))),o 4 (.val (n 0))])
 (.seq (R [5,6] [v 11 0,o 12 (.callg 85 [t 11,.const (.str [40])]),v 10 12,o 13 (.extract (t 10) 0),o 14 (.extract (t 10) 1),v 5 13,v 6 14])
 (.seq (.seq (R [5,16] [v 15 6,o 16 (.un .not (t 15))])
 (.after (.cond (t 16) (.seq (R [2,3,4] [o 2 (.val (.const (.slice none 0 (some 0)))),o 3 (.val (.const (.str []))),o 4 (.val (n 8))])
 (.live [2,3,4] (.ret))) (.skip)) [5]))
 (.seq (R [5,7] [o 7 (.val (.const (.slice none 0 (some 0))))])
 (.seq (.after (.block 0 (.loop code38L0)) [5,7])
 (.seq (R [6,7,9] [v 42 5,o 43 (.callg 85 [t 42,.const (.str [41])]),v 41 43,o 44 (.extract (t 41) 0),o 45 (.extract (t 41) 1),v 9 44,v 6 45])
 (.seq (.seq (R [7,9,56] [v 46 6,o 47 (.un .not (t 46)),v 48 47,g 49 48 false (.val (t 9)),g 50 48 false (.bin .neq (t 49) (.const (.str [86]))),g 51 48 false (.val (t 50)),g 52 51 true (.val (t 9)),g 53 51 true (.callg 27 [t 52]),g 54 51 true (.un .not (t 53)),g 55 48 false (.pick (t 51) (t 54) F),o 56 (.pick (t 48) Y (t 55))])
 (.after (.cond (t 56) (.seq (R [2,3,4] [o 2 (.val (.const (.slice none 0 (some 0)))),o 3 (.val (.const (.str []))),o 4 (.val (n 8))])
 (.live [2,3,4] (.ret))) (.skip)) [7,9]))
 (.seq (R [2,3,4] [v 57 7,v 58 9,v 2 57,v 3 58,o 4 (.val (n 0))])
 (.live [2,3,4] (.ret))))))))),none⟩
def code85:AFunc:=⟨false,false,2,11,[.tmp 4,.tmp 5],
 .seq (R [0,1] [o 4 (.val (.const (.str []))),o 5 (.val F)])
 (.seq (R [4,5] [v 6 0,v 7 1,o 8 (.callg 137 [t 6,t 7]),o 9 (.extract (t 8) 0),o 10 (.extract (t 8) 1),v 4 9,v 5 10])
 (.live [4,5] (.ret))),none⟩
def code86:AFunc:=⟨false,false,1,65,[.tmp 2],
 .seq (R [0] [o 2 (.val (.const (.str [])))])
 (.seq (R [0,3] [v 9 0,o 10 (.callg 139 [t 9,.const (.str [91])]),v 3 10])
 (.seq (R [0,3,4] [v 11 0,o 12 (.len .str (t 11)),v 13 3,o 14 (.len .str (t 13)),o 15 (.bin .sub (t 12) (t 14)),v 4 15])
 (.seq (.seq (R [0,3,4,21] [v 16 3,o 17 (.bin .eql (t 16) (.const (.str []))),v 18 17,g 19 18 false (.val (t 4)),g 20 18 false (.bin .gtr (t 19) (n 8)),o 21 (.pick (t 18) Y (t 20))])
 (.after (.cond (t 21) (.seq (R [2] [o 2 (.val (.const (.str [])))])
 (.live [2] (.ret))) (.skip)) [0,3,4]))
 (.seq (.seq (R [0,3,4,5] [v 22 3,o 23 (.index (t 22) (n 0)),v 5 23])
 (.after (.block 0 (.seq (.seq (R [0,3,4,5,24] [v 25 5,o 26 (.bin .eql (t 25) (.const (.int .u8 73))),v 24 26])
 (.after (.cond (t 24) (.skip) (.seq (R [0,3,4,5,24] [v 27 5,o 28 (.bin .eql (t 27) (.const (.int .u8 74))),v 29 28,g 30 29 true (.val (t 4)),g 31 29 true (.bin .eql (t 30) (n 0)),o 32 (.pick (t 29) (t 31) F),v 24 32])
 (.after (.cond (t 24) (.skip) (R [0,3,4,5,24] [v 33 5,o 34 (.bin .eql (t 33) (.const (.int .u8 66))),v 35 34,g 36 35 true (.val (t 4)),g 37 35 true (.bin .gtr (t 36) (n 0)),o 38 (.pick (t 35) (t 37) F),v 24 38])) [0,3,4,5,24]))) [0,3,4,5,24]))
 (.after (.cond (t 24) (.seq (R [2] [v 39 0,v 40 4,o 41 (.bin .add (t 40) (n 1)),o 42 (.slice .str (t 39) none (some (t 41)) none),v 2 42])
 (.live [2] (.ret))) (.seq (R [0,3,4,43] [v 44 5,o 45 (.bin .eql (t 44) (.const (.int .u8 76))),v 43 45])
 (.after (.cond (t 43) (.seq (R [0,4,6,8] [v 47 3,o 48 (.slice .str (t 47) (some (n 1)) none none),o 49 (.callg 138 [t 48,.const (.str [59])]),v 46 49,o 50 (.extract (t 46) 0),o 51 (.extract (t 46) 1),o 52 (.extract (t 46) 2),v 6 50,v 7 51,v 8 52])
 (.seq (R [0,4,6,57] [v 53 8,v 54 53,g 55 54 true (.val (t 6)),g 56 54 true (.callg 25 [t 55]),o 57 (.pick (t 54) (t 56) F)])
 (.after (.cond (t 57) (.seq (R [2] [v 58 0,v 59 4,v 60 6,o 61 (.len .str (t 60)),o 62 (.bin .add (t 59) (t 61)),o 63 (.bin .add (t 62) (n 2)),o 64 (.slice .str (t 58) none (some (t 63)) none),v 2 64])
 (.live [2] (.ret))) (.skip)) []))) (.skip)) []))) []))) []))
 (.seq (R [2] [o 2 (.val (.const (.str [])))])
 (.live [2] (.ret))))))),none⟩
def code87L0:ACode :=
 .live [0,3] (.seq (.seq (R [0,3,7] [v 4 3,v 5 0,o 6 (.len .str (t 5)),o 7 (.bin .leq (t 4) (t 6))])
 (.after (.cond (t 7) (.skip) (.live [] (.exit 0))) [0,3]))
 (.seq (.after (.block 1 (.seq (R [0,3,13] [v 10 0,v 11 3,o 12 (.slice .str (t 10) none (some (t 11)) none),o 13 (.callg 28 [t 12])])
 (.after (.cond (t 13) (.seq (R [2] [v 14 0,v 15 3,o 16 (.slice .str (t 14) none (some (t 15)) none),v 2 16])
 (.live [2] (.ret))) (.skip)) [0,3]))) [0,3])
 (R [0,3] [v 8 3,o 9 (.bin .add (t 8) (n 1)),v 3 9])))
def code87:AFunc:=⟨false,false,1,17,[.tmp 2],
 .seq (R [0] [o 2 (.val (.const (.str [])))])
 (.seq (.seq (R [0,3] [o 3 (.val (n 1))])
 (.after (.block 0 (.loop code87L0)) []))
 (.seq (R [2] [o 2 (.val (.const (.str [])))])
 (.live [2] (.ret)))),none⟩
def code88:AFunc:=⟨false,false,2,8,[.tmp 4],
 .seq (R [0,1] [o 4 (.val F)])
 (.seq (R [4] [v 5 0,v 6 1,o 7 (.callg 140 [t 5,t 6]),v 4 7])
 (.live [4] (.ret))),none⟩
def code89:AFunc:=⟨false,false,2,8,[.tmp 4],
 .seq (R [0,1] [o 4 (.val F)])
 (.seq (R [4] [v 5 0,v 6 1,o 7 (.callg 141 [t 5,t 6]),v 4 7])
 (.live [4] (.ret))),none⟩
def code90:AFunc:=⟨false,false,2,8,[.tmp 4],
 .seq (R [0,1] [o 4 (.val (.const (.slice none 0 (some 0))))])
 (.seq (R [4] [v 5 0,v 6 1,o 7 (.callg 143 [t 5,t 6,n 0,.const (.int .i64 (-1))]),v 4 7])
 (.live [4] (.ret))),none⟩
def code91:AFunc:=⟨false,false,2,9,[.tmp 4],
 .seq (R [0,1] [o 4 (.val F)])
 (.seq (R [4] [v 5 0,v 6 1,o 7 (.callg 142 [t 5,t 6]),o 8 (.bin .geq (t 7) (n 0)),v 4 8])
 (.live [4] (.ret))),none⟩
def code92:AFunc:=⟨false,false,1,6,[.tmp 2],
 .seq (R [0] [o 2 (.val F)])
 (.seq (R [2] [v 3 0,o 4 (.callg 144 [t 3]),o 5 (.un .not (t 4)),v 2 5])
 (.live [2] (.ret))),none⟩
def code93:AFunc:=⟨false,false,1,27,[.tmp 2],
 .seq (R [0] [o 2 (.val F)])
 (.seq (R [2] [v 3 0,o 4 (.len .str (t 3)),o 5 (.bin .geq (t 4) (n 3)),v 6 5,g 7 6 true (.val (t 0)),g 8 6 true (.index (t 7) (n 0)),g 9 6 true (.bin .eql (t 8) (.const (.int .u8 76))),o 10 (.pick (t 6) (t 9) F),v 11 10,g 12 11 true (.val (t 0)),g 13 11 true (.val (t 0)),g 14 11 true (.len .str (t 13)),g 15 11 true (.bin .sub (t 14) (n 1)),g 16 11 true (.index (t 12) (t 15)),g 17 11 true (.bin .eql (t 16) (.const (.int .u8 59))),o 18 (.pick (t 11) (t 17) F),v 19 18,g 20 19 true (.val (t 0)),g 21 19 true (.val (t 0)),g 22 19 true (.len .str (t 21)),g 23 19 true (.bin .sub (t 22) (n 1)),g 24 19 true (.slice .str (t 20) (some (n 1)) (some (t 23)) none),g 25 19 true (.callg 26 [t 24]),o 26 (.pick (t 19) (t 25) F),v 2 26])
 (.live [2] (.ret))),none⟩
def code137:AFunc:=⟨false,false,2,15,[.tmp 4,.tmp 5],
 .seq (R [0,1] [o 4 (.val (.const (.str []))),o 5 (.val F)])
 (.seq (.seq (R [0,1,9] [v 6 0,v 7 1,o 8 (.callg 140 [t 6,t 7]),o 9 (.un .not (t 8))])
 (.after (.cond (t 9) (.seq (R [4,5] [v 10 0,v 4 10,o 5 (.val F)])
 (.live [4,5] (.ret))) (.skip)) [0,1]))
 (.seq (R [4,5] [v 11 0,v 12 1,o 13 (.len .str (t 12)),o 14 (.slice .str (t 11) (some (t 13)) none none),v 4 14,o 5 (.val Y)])
 (.live [4,5] (.ret)))),none⟩
def code138:AFunc:=⟨false,false,2,13,[.tmp 4,.tmp 5,.tmp 6],
 .seq (R [0,1] [o 4 (.val (.const (.str []))),o 5 (.val (.const (.str []))),o 6 (.val F)])
 (.seq (R [4,5,6] [v 7 0,v 8 1,o 9 (.callg 172 [t 7,t 8]),o 10 (.extract (t 9) 0),o 11 (.extract (t 9) 1),o 12 (.extract (t 9) 2),v 4 10,v 5 11,v 6 12])
 (.live [4,5,6] (.ret))),none⟩
def code139:AFunc:=⟨false,false,2,37,[.tmp 4],
 .seq (R [0,1] [o 4 (.val (.const (.str [])))])
 (.seq (.seq (R [0,1,12] [v 7 0,o 8 (.bin .eql (t 7) (.const (.str []))),v 9 8,g 10 9 false (.val (t 1)),g 11 9 false (.bin .eql (t 10) (.const (.str []))),o 12 (.pick (t 9) Y (t 11))])
 (.after (.cond (t 12) (.seq (R [4] [v 13 0,v 4 13])
 (.live [4] (.ret))) (.skip)) [0,1]))
 (.seq (.seq (R [0,1,21] [v 14 1,o 15 (.len .str (t 14)),o 16 (.bin .eql (t 15) (n 1)),v 17 16,g 18 17 true (.val (t 1)),g 19 17 true (.index (t 18) (n 0)),g 20 17 true (.bin .lss (t 19) (.const (.int .u8 128))),o 21 (.pick (t 17) (t 20) F)])
 (.after (.cond (t 21) (.seq (R [4] [v 22 0,v 23 1,o 24 (.index (t 23) (n 0)),o 25 (.callg 171 [t 22,t 24]),v 4 25])
 (.live [4] (.ret))) (.skip)) [0,1]))
 (.seq (.seq (R [0,1,5,6] [v 27 1,o 28 (.nextStr F),v 26 28,o 29 (.extract (t 26) 0),o 30 (.extract (t 26) 1),o 5 (.alloc 1 [.bool false,.bool false,.bool false,.bool false,.bool false,.bool false,.bool false,.bool false,.bool false,.bool false,.bool false,.bool false,.bool false,.bool false,.bool false,.bool false,.bool false,.bool false,.bool false,.bool false,.bool false,.bool false,.bool false,.bool false,.bool false,.bool false,.bool false,.bool false,.bool false,.bool false,.bool false,.bool false,.bool false,.bool false,.bool false,.bool false,.bool false,.bool false,.bool false,.bool false,.bool false,.bool false,.bool false,.bool false,.bool false,.bool false,.bool false,.bool false,.bool false,.bool false,.bool false,.bool false,.bool false,.bool false,.bool false,.bool false,.bool false,.bool false,.bool false,.bool false,.bool false,.bool false,.bool false,.bool false,.bool false,.bool false,.bool false,.bool false,.bool false,.bool false,.bool false,.bool false,.bool false,.bool false,.bool false,.bool false,.bool false,.bool false,.bool false,.bool false,.bool false,.bool false,.bool false,.bool false,.bool false,.bool false,.bool false,.bool false,.bool false,.bool false,.bool false,.bool false,.bool false,.bool false,.bool false,.bool false,.bool false,.bool false,.bool false,.bool false,.bool false,.bool false,.bool false,.bool false,.bool false,.bool false,.bool false,.bool false,.bool false,.bool false,.bool false,.bool false,.bool false,.bool false,.bool false,.bool false,.bool false,.bool false,.bool false,.bool false,.bool false,.bool false,.bool false,.bool false,.bool false,.bool false,.bool false,.bool false,.bool false,.bool false,.bool false,.bool false,.bool false,.bool false,.bool false,.bool false,.bool false,.bool false,.bool false,.bool false,.bool false,.bool false,.bool false,.bool false,.bool false,.bool false,.bool false,.bool false,.bool false,.bool false,.bool false,.bool false,.bool false,.bool false,.bool false,.bool false,.bool false,.bool false,.bool false,.bool false,.bool false,.bool false,.bool false,.bool false,.bool false,.bool false,.bool false,.bool false,.bool false,.bool false,.bool false,.bool false,.bool false,.bool false,.bool false,.bool false,.bool false,.bool false,.bool false,.bool false,.bool false,.bool false,.bool false,.bool false,.bool false,.bool false,.bool false,.bool false,.bool false,.bool false,.bool false,.bool false,.bool false,.bool false,.bool false,.bool false,.bool false,.bool false,.bool false,.bool false,.bool false,.bool false,.bool false,.bool false,.bool false,.bool false,.bool false,.bool false,.bool false,.bool false,.bool false,.bool false,.bool false,.bool false,.bool false,.bool false,.bool false,.bool false,.bool false,.bool false,.bool false,.bool false,.bool false,.bool false,.bool false,.bool false,.bool false,.bool false,.bool false,.bool false,.bool false,.bool false,.bool false,.bool false,.bool false,.bool false,.bool false,.bool false,.bool false,.bool false,.bool false,.bool false,.bool false,.bool false,.bool false,.bool false,.bool false,.bool false,.bool false,.bool false,.bool false,.bool false,.bool false,.bool false,.bool false,.bool false]),u (.store 256 (t 5) (t 29)),v 6 30])
 (.seq (R [0,1,5,31] [v 31 6])
 (.after (.cond (t 31) (.seq (R [4] [v 32 0,o 33 (.nextStr F),v 4 33])
 (.live [4] (.ret))) (.skip)) [0,1])))
 (.seq (R [4] [v 34 0,v 35 1,o 36 (.nextStr F),v 4 36])
 (.live [4] (.ret)))))),none⟩
def code140:AFunc:=⟨false,false,2,18,[.tmp 4],
 .seq (R [0,1] [o 4 (.val F)])
 (.seq (R [4] [v 5 0,o 6 (.len .str (t 5)),v 7 1,o 8 (.len .str (t 7)),o 9 (.bin .geq (t 6) (t 8)),v 10 9,g 11 10 true (.val (t 0)),g 12 10 true (.val (t 1)),g 13 10 true (.len .str (t 12)),g 14 10 true (.slice .str (t 11) none (some (t 13)) none),g 15 10 true (.val (t 1)),g 16 10 true (.bin .eql (t 14) (t 15)),o 17 (.pick (t 10) (t 16) F),v 4 17])
 (.live [4] (.ret))),none⟩
def code141:AFunc:=⟨false,false,2,21,[.tmp 4],
 .seq (R [0,1] [o 4 (.val F)])
 (.seq (R [4] [v 5 0,o 6 (.len .str (t 5)),v 7 1,o 8 (.len .str (t 7)),o 9 (.bin .geq (t 6) (t 8)),v 10 9,g 11 10 true (.val (t 0)),g 12 10 true (.val (t 0)),g 13 10 true (.len .str (t 12)),g 14 10 true (.val (t 1)),g 15 10 true (.len .str (t 14)),g 16 10 true (.bin .sub (t 13) (t 15)),g 17 10 true (.slice .str (t 11) (some (t 16)) none none),g 18 10 true (.val (t 1)),g 19 10 true (.bin .eql (t 17) (t 18)),o 20 (.pick (t 10) (t 19) F),v 4 20])
 (.live [4] (.ret))),none⟩
def code142L0:ACode :=
 .live [0,1,7,8] (.seq (R [0,1,7,8,9] [o 9 (.bin .lss (t 8) (t 7))])
 (.seq (.after (.cond (t 9) (.skip) (.live [] (.exit 0))) [0,1,7,8])
 (.seq (.after (.block 1 (.seq (R [0,1,5,7,8] [v 10 8,v 5 10])
 (.seq (R [0,1,5,7,8,16] [v 11 1,v 12 0,v 13 5,o 14 (.iaddr 1 (t 12) (t 13)),o 15 (.load none (t 14)),o 16 (.call (t 11) [t 15])])
 (.after (.cond (t 16) (.seq (R [4] [v 17 5,v 4 17])
 (.live [4] (.ret))) (.skip)) [0,1,7,8])))) [0,1,7,8])
 (R [0,1,7,8] [o 18 (.bin .add (t 8) (n 1)),v 8 18]))))
def code142:AFunc:=⟨false,false,2,19,[.tmp 4],
 .seq (R [0,1] [o 4 (.val (n 0))])
 (.seq (.seq (R [0,1,7,8] [v 6 0,o 7 (.len .sl (t 6)),o 8 (.val (n 0))])
 (.after (.block 0 (.loop code142L0)) []))
 (.seq (R [4] [o 4 (.val (.const (.int .i64 (-1))))])
 (.live [4] (.ret)))),none⟩
def code143L0:ACode :=
 .live [0,1,2,3,9,10] (.seq (.seq (R [0,1,2,3,9,10,36] [v 34 10,v 35 3,o 36 (.bin .lss (t 34) (t 35))])
 (.after (.cond (t 36) (.skip) (.live [0,9,10] (.exit 0))) [0,1,2,3,9,10]))
 (.after (.block 1 (.seq (R [0,1,2,3,9,10,11] [v 37 0,v 38 1,o 39 (.callg 173 [t 37,t 38]),v 11 39])
 (.seq (.seq (R [0,1,2,3,9,10,11,41] [v 40 11,o 41 (.bin .lss (t 40) (n 0))])
 (.after (.cond (t 41) (.live [0,9,10] (.exit 0)) (.skip)) [0,1,2,3,9,10,11]))
 (.seq (R [0,1,2,3,9,10,11] [v 42 9,v 43 10,v 44 0,v 45 11,v 46 2,o 47 (.bin .add (t 45) (t 46)),o 48 (.slice .str (t 44) none (some (t 47)) none),o 49 (.iaddr 1 (t 42) (t 43)),u (.store 1 (t 49) (t 48))])
 (.seq (R [0,1,2,3,9,10] [v 50 0,v 51 11,v 52 1,o 53 (.len .str (t 52)),o 54 (.bin .add (t 51) (t 53)),o 55 (.slice .str (t 50) (some (t 54)) none none),v 0 55])
 (R [0,1,2,3,9,10] [v 56 10,o 57 (.bin .add (t 56) (n 1)),v 10 57])))))) [0,1,2,3,9,10]))
def code143:AFunc:=⟨false,false,4,66,[.tmp 8],
 .seq (R [0,1,2,3] [o 8 (.val (.const (.slice none 0 (some 0))))])
 (.seq (.seq (R [0,1,2,3,13] [v 12 3,o 13 (.bin .eql (t 12) (n 0))])
 (.after (.cond (t 13) (.seq (R [8] [o 8 (.val (.const (.slice none 0 (some 0))))])
 (.live [8] (.ret))) (.skip)) [0,1,2,3]))
 (.seq (.seq (R [0,1,2,3,15] [v 14 1,o 15 (.bin .eql (t 14) (.const (.str [])))])
 (.after (.cond (t 15) (.seq (R [8] [v 16 0,v 17 3,o 18 (.nextStr F),v 8 18])
 (.live [8] (.ret))) (.skip)) [0,1,2,3]))
 (.seq (.seq (R [0,1,2,3,20] [v 19 3,o 20 (.bin .lss (t 19) (n 0))])
 (.after (.cond (t 20) (R [0,1,2,3] [v 21 0,v 22 1,o 23 (.callg 174 [t 21,t 22]),o 24 (.bin .add (t 23) (n 1)),v 3 24]) (.skip)) [0,1,2,3]))
 (.seq (R [0,1,2,3] [v 25 3,v 26 0,o 27 (.len .str (t 26)),o 28 (.bin .add (t 27) (n 1)),o 29 (.minmax false [t 25,t 28]),v 3 29])
 (.seq (R [0,1,2,3,9] [v 30 3,o 31 (.make 1 16 [.str []] (t 30) (t 30)),v 9 31])
 (.seq (R [0,1,2,3,9] [v 32 3,o 33 (.bin .sub (t 32) (n 1)),v 3 33])
 (.seq (R [0,1,2,3,9,10] [o 10 (.val (n 0))])
 (.seq (.after (.block 0 (.loop code143L0)) [0,9,10])
 (.seq (R [9,10] [v 58 9,v 59 10,v 60 0,o 61 (.iaddr 1 (t 58) (t 59)),u (.store 1 (t 61) (t 60))])
 (.seq (R [8] [v 62 9,v 63 10,o 64 (.bin .add (t 63) (n 1)),o 65 (.slice (.sl 1) (t 62) none (some (t 64)) none),v 8 65])
 (.live [8] (.ret)))))))))))),none⟩
def code144:AFunc:=⟨false,false,1,13,[.tmp 2],
 .seq (R [0] [o 2 (.val F)])
 (.seq (R [0,3] [o 3 (.val (.const (.func 146 [] [])))])
 (.seq (R [2] [v 4 0,o 5 (.bin .neq (t 4) (.const (.str []))),v 6 5,g 7 6 true (.val (t 0)),g 8 6 true (.conv .bytes (t 7)),g 9 6 true (.val (t 3)),g 10 6 true (.callg 145 [t 8,t 9]),g 11 6 true (.un .not (t 10)),o 12 (.pick (t 6) (t 11) F),v 2 12])
 (.live [2] (.ret)))),none⟩
def code145:AFunc:=⟨false,false,2,9,[.tmp 4],
 .seq (R [0,1] [o 4 (.val F)])
 (.seq (R [4] [v 5 0,v 6 1,o 7 (.callg 176 [t 5,t 6]),o 8 (.bin .geq (t 7) (n 0)),v 4 8])
 (.live [4] (.ret))),none⟩
def code146:AFunc:=⟨false,false,1,26,[.tmp 2],
 .seq (R [0] [o 2 (.val F)])
 (.seq (.after (.block 0 (.seq (.seq (R [0,3] [v 4 0,o 5 (.bin .geq (t 4) (.const (.int .u8 97))),v 6 5,g 7 6 true (.val (t 0)),g 8 6 true (.bin .leq (t 7) (.const (.int .u8 122))),o 9 (.pick (t 6) (t 8) F),v 3 9])
 (.after (.cond (t 3) (.skip) (.seq (R [0,3] [v 10 0,o 11 (.bin .geq (t 10) (.const (.int .u8 65))),v 12 11,g 13 12 true (.val (t 0)),g 14 12 true (.bin .leq (t 13) (.const (.int .u8 90))),o 15 (.pick (t 12) (t 14) F),v 3 15])
 (.after (.cond (t 3) (.skip) (.seq (R [0,3] [v 16 0,o 17 (.bin .geq (t 16) (.const (.int .u8 48))),v 18 17,g 19 18 true (.val (t 0)),g 20 18 true (.bin .leq (t 19) (.const (.int .u8 57))),o 21 (.pick (t 18) (t 20) F),v 3 21])
 (.after (.cond (t 3) (.skip) (.seq (R [0,3] [v 22 0,o 23 (.bin .eql (t 22) (.const (.int .u8 95))),v 3 23])
 (.after (.cond (t 3) (.skip) (R [3] [v 24 0,o 25 (.bin .eql (t 24) (.const (.int .u8 36))),v 3 25])) [3]))) [3]))) [3]))) [3]))
 (.after (.cond (t 3) (.seq (R [2] [o 2 (.val F)])
 (.live [2] (.ret))) (.skip)) []))) [])
 (.seq (R [2] [o 2 (.val Y)])
 (.live [2] (.ret)))),none⟩
def code171L0:ACode :=
 .live [0,1] (.seq (.seq (R [0,1,13] [v 5 0,o 6 (.len .str (t 5)),o 7 (.bin .gtr (t 6) (n 0)),v 8 7,g 9 8 true (.val (t 0)),g 10 8 true (.index (t 9) (n 0)),g 11 8 true (.val (t 1)),g 12 8 true (.bin .eql (t 10) (t 11)),o 13 (.pick (t 8) (t 12) F)])
 (.after (.cond (t 13) (.skip) (.live [0] (.exit 0))) [0,1]))
 (.after (.block 1 (R [0,1] [v 14 0,o 15 (.slice .str (t 14) (some (n 1)) none none),v 0 15])) [0,1]))
def code171:AFunc:=⟨false,false,2,17,[.tmp 4],
 .seq (R [0,1] [o 4 (.val (.const (.str [])))])
 (.seq (.after (.block 0 (.loop code171L0)) [0])
 (.seq (R [4] [v 16 0,v 4 16])
 (.live [4] (.ret)))),none⟩
def code172:AFunc:=⟨false,false,2,23,[.tmp 4,.tmp 5,.tmp 6],
 .seq (R [0,1] [o 4 (.val (.const (.str []))),o 5 (.val (.const (.str []))),o 6 (.val F)])
 (.seq (.seq (R [0,1,7] [v 8 0,v 9 1,o 10 (.callg 205 [t 8,t 9]),v 7 10])
 (.seq (R [0,1,7,12] [v 11 7,o 12 (.bin .geq (t 11) (n 0))])
 (.after (.cond (t 12) (.seq (.after (.region [⟨true,[],[v 13 0,v 14 7,o 15 (.slice .str (t 13) none (some (t 14)) none),v 16 0,v 17 7,v 18 1,o 19 (.len .str (t 18)),o 20 (.bin .add (t 17) (t 19)),o 21 (.slice .str (t 16) (some (t 20)) none none),v 4 15]⟩,⟨false,[],[v 5 21,o 6 (.val Y)]⟩]) [4,5,6])
 (.live [4,5,6] (.ret))) (.skip)) [0])))
 (.seq (R [4,5,6] [v 22 0,v 4 22,o 5 (.val (.const (.str []))),o 6 (.val F)])
 (.live [4,5,6] (.ret)))),none⟩
def code173:AFunc:=⟨false,false,2,8,[.tmp 4],
 .seq (R [0,1] [o 4 (.val (n 0))])
 (.seq (R [4] [v 5 0,v 6 1,o 7 (.callg 205 [t 5,t 6]),v 4 7])
 (.live [4] (.ret))),none⟩
def code174L0:ACode :=
 .live [0,1,5] (.after (.block 1 (.seq (R [0,1,5,6] [v 20 0,v 21 1,o 22 (.callg 173 [t 20,t 21]),v 6 22])
 (.seq (.seq (R [0,1,5,6,24] [v 23 6,o 24 (.bin .eql (t 23) (.const (.int .i64 (-1))))])
 (.after (.cond (t 24) (.seq (R [4] [v 25 5,v 4 25])
 (.live [4] (.ret))) (.skip)) [0,1,5,6]))
 (.seq (R [0,1,5,6] [v 26 5,o 27 (.bin .add (t 26) (n 1)),v 5 27])
 (R [0,1,5] [v 28 0,v 29 6,v 30 1,o 31 (.len .str (t 30)),o 32 (.bin .add (t 29) (t 31)),o 33 (.slice .str (t 28) (some (t 32)) none none),v 0 33]))))) [0,1,5])
def code174:AFunc:=⟨false,false,2,34,[.tmp 4],
 .seq (R [0,1] [o 4 (.val (n 0))])
 (.seq (.seq (R [0,1,9] [v 7 1,o 8 (.len .str (t 7)),o 9 (.bin .eql (t 8) (n 0))])
 (.after (.cond (t 9) (.seq (R [4] [v 10 0,o 11 (.nextStr F),o 12 (.bin .add (t 11) (n 1)),v 4 12])
 (.live [4] (.ret))) (.skip)) [0,1]))
 (.seq (.seq (R [0,1,15] [v 13 1,o 14 (.len .str (t 13)),o 15 (.bin .eql (t 14) (n 1))])
 (.after (.cond (t 15) (.seq (R [4] [v 16 0,v 17 1,o 18 (.index (t 17) (n 0)),o 19 (.ext (.pure (.prim .countByte)) [t 16,t 18]),v 4 19])
 (.live [4] (.ret))) (.skip)) [0,1]))
 (.seq (R [0,1,5] [o 5 (.val (n 0))])
 (.after (.block 0 (.loop code174L0)) [4])))),none⟩
def code176L0:ACode :=
 .live [0,1,7,8] (.seq (R [0,1,7,8,9] [o 9 (.bin .lss (t 8) (t 7))])
 (.seq (.after (.cond (t 9) (.skip) (.live [] (.exit 0))) [0,1,7,8])
 (.seq (.after (.block 1 (.seq (R [0,1,5,7,8] [v 10 8,v 5 10])
 (.seq (R [0,1,5,7,8,16] [v 11 1,v 12 0,v 13 5,o 14 (.iaddr 1 (t 12) (t 13)),o 15 (.load none (t 14)),o 16 (.call (t 11) [t 15])])
 (.after (.cond (t 16) (.seq (R [4] [v 17 5,v 4 17])
 (.live [4] (.ret))) (.skip)) [0,1,7,8])))) [0,1,7,8])
 (R [0,1,7,8] [o 18 (.bin .add (t 8) (n 1)),v 8 18]))))
def code176:AFunc:=⟨false,false,2,19,[.tmp 4],
 .seq (R [0,1] [o 4 (.val (n 0))])
 (.seq (.seq (R [0,1,7,8] [v 6 0,o 7 (.len .sl (t 6)),o 8 (.val (n 0))])
 (.after (.block 0 (.loop code176L0)) []))
 (.seq (R [4] [o 4 (.val (.const (.int .i64 (-1))))])
 (.live [4] (.ret)))),none⟩
def code180:AFunc:=⟨false,false,2,9,[.tmp 4],
 .seq (R [0,1] [o 4 (.val F)])
 (.seq (R [4] [v 5 0,v 6 1,o 7 (.callg 173 [t 5,t 6]),o 8 (.bin .geq (t 7) (n 0)),v 4 8])
 (.live [4] (.ret))),none⟩
def code205L0:ACode :=
 .live [0,1,5,6,7,8,9,10] (.seq (.seq (R [0,1,5,6,7,8,9,10,59] [v 57 8,v 58 9,o 59 (.bin .lss (t 57) (t 58))])
 (.after (.cond (t 59) (.skip) (.live [] (.exit 1))) [0,1,5,6,7,8,9,10]))
 (.after (.block 2 (.seq (.seq (R [0,1,5,6,7,8,9,10,64] [v 60 0,v 61 8,o 62 (.index (t 60) (t 61)),v 63 6,o 64 (.bin .neq (t 62) (t 63))])
 (.after (.cond (t 64) (.seq (R [0,1,5,6,7,8,9,10,11] [v 65 0,v 66 8,o 67 (.bin .add (t 66) (n 1)),v 68 9,o 69 (.slice .str (t 65) (some (t 67)) (some (t 68)) none),v 70 6,o 71 (.callg 226 [t 69,t 70]),v 11 71])
 (.seq (.seq (R [0,1,5,6,7,8,9,10,11,73] [v 72 11,o 73 (.bin .lss (t 72) (n 0))])
 (.after (.cond (t 73) (.seq (R [4] [o 4 (.val (.const (.int .i64 (-1))))])
 (.live [4] (.ret))) (.skip)) [0,1,5,6,7,8,9,10,11]))
 (R [0,1,5,6,7,8,9,10] [v 74 8,v 75 11,o 76 (.bin .add (t 75) (n 1)),o 77 (.bin .add (t 74) (t 76)),v 8 77]))) (.skip)) [0,1,5,6,7,8,9,10]))
 (.seq (.seq (R [0,1,5,6,7,8,9,10,93] [v 78 0,v 79 8,o 80 (.bin .add (t 79) (n 1)),o 81 (.index (t 78) (t 80)),v 82 7,o 83 (.bin .eql (t 81) (t 82)),v 84 83,g 85 84 true (.val (t 0)),g 86 84 true (.val (t 8)),g 87 84 true (.val (t 8)),g 88 84 true (.val (t 5)),g 89 84 true (.bin .add (t 87) (t 88)),g 90 84 true (.slice .str (t 85) (some (t 86)) (some (t 89)) none),g 91 84 true (.val (t 1)),g 92 84 true (.bin .eql (t 90) (t 91)),o 93 (.pick (t 84) (t 92) F)])
 (.after (.cond (t 93) (.seq (R [4] [v 94 8,v 4 94])
 (.live [4] (.ret))) (.skip)) [0,1,5,6,7,8,9,10]))
 (.seq (R [0,1,5,6,7,8,9,10] [v 95 8,o 96 (.bin .add (t 95) (n 1)),v 8 96])
 (.seq (R [0,1,5,6,7,8,9,10] [v 97 10,o 98 (.bin .add (t 97) (n 1)),v 10 98])
 (.seq (R [0,1,5,6,7,8,9,10,107] [v 99 5,o 100 (.nextStr F),o 101 (.bin .leq (t 99) (t 100)),v 102 101,g 103 102 true (.val (t 10)),g 104 102 true (.val (t 8)),g 105 102 true (.nextStr F),g 106 102 true (.bin .gtr (t 103) (t 105)),o 107 (.pick (t 102) (t 106) F)])
 (.after (.cond (t 107) (.seq (R [8,12] [v 108 0,v 109 8,o 110 (.slice .str (t 108) (some (t 109)) none none),v 111 1,o 112 (.nextStr F),v 12 112])
 (.seq (.seq (R [8,12,114] [v 113 12,o 114 (.bin .geq (t 113) (n 0))])
 (.after (.cond (t 114) (.seq (R [4] [v 115 12,v 116 8,o 117 (.bin .add (t 115) (t 116)),v 4 117])
 (.live [4] (.ret))) (.skip)) []))
 (.seq (R [4] [o 4 (.val (.const (.int .i64 (-1))))])
 (.live [4] (.ret))))) (.seq (R [0,1,5,6,7,8,9,10,132] [v 118 5,o 119 (.nextStr F),o 120 (.bin .gtr (t 118) (t 119)),v 121 120,g 122 121 true (.val (t 10)),g 123 121 true (.val (t 8)),g 124 121 true (.bin .shr (t 123) (.const (.int .u64 4))),g 125 121 true (.bin .add (n 4) (t 124)),g 126 121 true (.bin .geq (t 122) (t 125)),o 127 (.pick (t 121) (t 126) F),v 128 127,g 129 128 true (.val (t 8)),g 130 128 true (.val (t 9)),g 131 128 true (.bin .lss (t 129) (t 130)),o 132 (.pick (t 128) (t 131) F)])
 (.after (.cond (t 132) (.seq (R [8,13] [v 133 0,v 134 8,o 135 (.slice .str (t 133) (some (t 134)) none none),v 136 1,o 137 (.nextStr F),v 13 137])
 (.seq (.seq (R [8,13,139] [v 138 13,o 139 (.bin .lss (t 138) (n 0))])
 (.after (.cond (t 139) (.seq (R [4] [o 4 (.val (.const (.int .i64 (-1))))])
 (.live [4] (.ret))) (.skip)) [8,13]))
 (.seq (R [4] [v 140 8,v 141 13,o 142 (.bin .add (t 140) (t 141)),v 4 142])
 (.live [4] (.ret))))) (.skip)) [0,1,5,6,7,8,9,10]))) [0,1,5,6,7,8,9,10]))))))) [0,1,5,6,7,8,9,10]))
def code205:AFunc:=⟨false,false,2,143,[.tmp 4],
 .seq (R [0,1] [o 4 (.val (n 0))])
 (.seq (R [0,1,5] [v 14 1,o 15 (.len .str (t 14)),v 5 15])
 (.seq (.after (.block 0 (.seq (R [0,1,5,16] [v 17 5,o 18 (.bin .eql (t 17) (n 0)),v 19 18,g 20 19 false (.val (t 1)),g 21 19 false (.val (t 0)),g 22 19 false (.bin .eql (t 20) (t 21)),o 23 (.pick (t 19) Y (t 22)),v 16 23])
 (.after (.cond (t 16) (.seq (R [4] [o 4 (.val (n 0))])
 (.live [4] (.ret))) (.seq (R [0,1,5,24] [v 25 5,o 26 (.bin .eql (t 25) (n 1)),v 24 26])
 (.after (.cond (t 24) (.seq (R [4] [v 27 0,v 28 1,o 29 (.index (t 28) (n 0)),o 30 (.callg 226 [t 27,t 29]),v 4 30])
 (.live [4] (.ret))) (.seq (R [0,1,5,31] [v 32 5,v 33 0,o 34 (.len .str (t 33)),o 35 (.bin .geq (t 32) (t 34)),v 31 35])
 (.after (.cond (t 31) (.seq (R [4] [o 4 (.val (.const (.int .i64 (-1))))])
 (.live [4] (.ret))) (.seq (R [0,1,5,36] [v 37 5,o 38 (.nextStr F),o 39 (.bin .leq (t 37) (t 38)),v 40 39,g 41 40 true (.val (t 0)),g 42 40 true (.len .str (t 41)),g 43 40 true (.bin .leq (t 42) (n 64)),o 44 (.pick (t 40) (t 43) F),v 36 44])
 (.after (.cond (t 36) (.seq (R [4] [v 45 0,v 46 1,o 47 (.nextStr F),v 4 47])
 (.live [4] (.ret))) (.skip)) [0,1,5]))) [0,1,5]))) [0,1,5]))) [0,1,5]))) [0,1,5])
 (.seq (R [0,1,5,6] [v 48 1,o 49 (.index (t 48) (n 0)),v 6 49])
 (.seq (R [0,1,5,6,7] [v 50 1,o 51 (.index (t 50) (n 1)),v 7 51])
 (.seq (R [0,1,5,6,7,8] [o 8 (.val (n 0))])
 (.seq (R [0,1,5,6,7,8,9] [v 52 0,o 53 (.len .str (t 52)),v 54 5,o 55 (.bin .sub (t 53) (t 54)),o 56 (.bin .add (t 55) (n 1)),v 9 56])
 (.seq (R [0,1,5,6,7,8,9,10] [o 10 (.val (n 0))])
 (.seq (.after (.block 1 (.loop code205L0)) [])
 (.seq (R [4] [o 4 (.val (.const (.int .i64 (-1))))])
 (.live [4] (.ret))))))))))),none⟩
def code226:AFunc:=⟨false,false,2,8,[.tmp 4],
 .seq (R [0,1] [o 4 (.val (n 0))])
 (.seq (R [4] [v 5 0,v 6 1,o 7 (.ext (.pure (.prim .indexByte)) [t 5,t 6]),v 4 7])
 (.live [4] (.ret))),none⟩
def T:Nat→Option AFunc:=fun g=>List.lookup g [(25,code25),(26,code26),(27,code27),(28,code28),(30,code30),(33,code33),(34,code34),(36,code36),(37,code37),(38,code38),(85,code85),(86,code86),(87,code87),(88,code88),(89,code89),(90,code90),(91,code91),(92,code92),(93,code93),(137,code137),(138,code138),(139,code139),(140,code140),(141,code141),(142,code142),(143,code143),(144,code144),(145,code145),(146,code146),(171,code171),(172,code172),(173,code173),(174,code174),(176,code176),(180,code180),(205,code205),(226,code226)]
theorem t25:T 25=some code25:=rfl
theorem t26:T 26=some code26:=rfl
theorem t27:T 27=some code27:=rfl
theorem t28:T 28=some code28:=rfl
theorem t30:T 30=some code30:=rfl
theorem t33:T 33=some code33:=rfl
theorem t34:T 34=some code34:=rfl
theorem t36:T 36=some code36:=rfl
theorem t37:T 37=some code37:=rfl
theorem t38:T 38=some code38:=rfl
theorem t85:T 85=some code85:=rfl
theorem t86:T 86=some code86:=rfl
theorem t87:T 87=some code87:=rfl
theorem t88:T 88=some code88:=rfl
theorem t89:T 89=some code89:=rfl
theorem t90:T 90=some code90:=rfl
theorem t91:T 91=some code91:=rfl
theorem t92:T 92=some code92:=rfl
theorem t93:T 93=some code93:=rfl
theorem t137:T 137=some code137:=rfl
theorem t138:T 138=some code138:=rfl
theorem t139:T 139=some code139:=rfl
theorem t140:T 140=some code140:=rfl
theorem t141:T 141=some code141:=rfl
theorem t142:T 142=some code142:=rfl
theorem t143:T 143=some code143:=rfl
theorem t144:T 144=some code144:=rfl
theorem t145:T 145=some code145:=rfl
theorem t146:T 146=some code146:=rfl
theorem t171:T 171=some code171:=rfl
theorem t172:T 172=some code172:=rfl
theorem t173:T 173=some code173:=rfl
theorem t174:T 174=some code174:=rfl
theorem t176:T 176=some code176:=rfl
theorem t180:T 180=some code180:=rfl
theorem t205:T 205=some code205:=rfl
theorem t226:T 226=some code226:=rfl
end Go.Abs.AbsDesc

namespace Go.Abs.AbsHier
open Go.Abs.Short
-- base: AbsDesc
def code47:AFunc:=⟨false,false,3,92,[.tmp 6],
 .seq (R [0,1,2] [o 6 (.val F)])
 (.seq (.seq (R [0,1,2,28] [v 15 0,o 16 (.eqnil .ptr false (t 15) (.const (.ptr none))),v 17 16,g 18 17 false (.val (t 0)),g 19 17 false (.val (t 1)),g 20 17 false (.callg 103 [t 18,t 19]),g 21 17 false (.un .not (t 20)),o 22 (.pick (t 17) Y (t 21)),v 23 22,g 24 23 false (.val (t 0)),g 25 23 false (.val (t 2)),g 26 23 false (.callg 103 [t 24,t 25]),g 27 23 false (.un .not (t 26)),o 28 (.pick (t 23) Y (t 27))])
 (.after (.cond (t 28) (.seq (R [6] [o 6 (.val F)])
 (.live [6] (.ret))) (.skip)) [0,1,2]))
 (.seq (R [0,1,2,7,8] [v 30 1,o 31 (.callg 34 [t 30]),v 29 31,o 32 (.extract (t 29) 0),o 33 (.extract (t 29) 1),v 7 32,v 8 33])
 (.seq (R [0,1,2,7,8,9,10] [v 35 2,o 36 (.callg 34 [t 35]),v 34 36,o 37 (.extract (t 34) 0),o 38 (.extract (t 34) 1),v 9 37,v 10 38])
 (.seq (R [0,1,2,7,8,9,10,11,12] [v 40 1,o 41 (.callg 36 [t 40]),v 39 41,o 42 (.extract (t 39) 0),o 43 (.extract (t 39) 1),v 11 42,v 12 43])
 (.seq (R [0,1,2,7,8,9,10,11,12,13,14] [v 45 2,o 46 (.callg 36 [t 45]),v 44 46,o 47 (.extract (t 44) 0),o 48 (.extract (t 44) 1),v 13 47,v 14 48])
 (.seq (.after (.block 0 (.seq (R [0,1,2,7,8,9,10,11,12,13,14,49] [v 50 1,v 51 2,o 52 (.bin .eql (t 50) (t 51)),v 49 52])
 (.after (.cond (t 49) (.seq (R [6] [o 6 (.val Y)])
 (.live [6] (.ret))) (.seq (R [0,2,7,8,9,10,11,12,13,14,53] [v 54 1,o 55 (.bin .eql (t 54) (.const (.str [78]))),v 53 55])
 (.after (.cond (t 53) (.seq (R [6] [v 56 2,o 57 (.callg 30 [t 56]),v 6 57])
 (.live [6] (.ret))) (.seq (R [0,7,9,10,11,12,13,14,58] [v 59 8,v 60 59,g 61 60 true (.val (t 10)),o 62 (.pick (t 60) (t 61) F),v 58 62])
 (.after (.cond (t 58) (.seq (R [6] [v 63 0,v 64 7,v 65 9,o 66 (.callg 52 [t 63,t 64,t 65]),v 6 66])
 (.live [6] (.ret))) (.seq (R [0,9,11,12,13,14,67] [v 68 12,v 69 68,g 70 69 true (.val (t 10)),o 71 (.pick (t 69) (t 70) F),v 67 71])
 (.after (.cond (t 67) (.seq (R [6] [v 72 9,o 73 (.bin .eql (t 72) (.const (.str [79,98,106,101,99,116]))),v 6 73])
 (.live [6] (.ret))) (.skip)) [0,11,12,13,14]))) [0,11,12,13,14]))) [0,11,12,13,14]))) [0,11,12,13,14]))) [0,11,12,13,14])
 (.seq (R [6] [v 74 12,v 75 74,g 76 75 true (.val (t 14)),o 77 (.pick (t 75) (t 76) F),v 78 77,g 79 78 true (.val (t 11)),g 80 78 true (.callg 30 [t 79]),o 81 (.pick (t 78) (t 80) F),v 82 81,g 83 82 true (.val (t 13)),g 84 82 true (.callg 30 [t 83]),o 85 (.pick (t 82) (t 84) F),v 86 85,g 87 86 true (.val (t 0)),g 88 86 true (.val (t 11)),g 89 86 true (.val (t 13)),g 90 86 true (.callg 47 [t 87,t 88,t 89]),o 91 (.pick (t 86) (t 90) F),v 6 91])
 (.live [6] (.ret))))))))),none⟩
def code49L0:ACode :=
 .live [4,69,70,71] (.seq (R [4,69,70,71,72] [o 72 (.bin .lss (t 71) (t 70))])
 (.seq (.after (.cond (t 72) (.skip) (.live [4] (.exit 4))) [4,69,70,71])
 (.seq (.after (.block 5 (.seq (R [4,10,69,70,71] [o 73 (.iaddr 4 (t 69) (t 71)),o 74 (.load (some 4) (t 73)),o 10 (.lalloc [.str [],.str [],.slice none 0 (some 0),.slice none 0 (some 0)]),u (.store 4 (t 10) (t 74))])
 (.seq (R [4,69,70,71,78] [v 75 4,o 76 (.load (some 4) (t 10)),o 77 (.callg 97 [t 75,t 76]),o 78 (.un .not (t 77))])
 (.after (.cond (t 78) (.seq (R [2,3] [o 2 (.val (.const (.ptr none))),o 3 (.val (n 15))])
 (.live [2,3] (.ret))) (.skip)) [4,69,70,71])))) [4,69,70,71])
 (R [4,69,70,71] [o 79 (.bin .add (t 71) (n 1)),v 71 79]))))
def code49L1:ACode :=
 .live [0,4,45,46,47] (.seq (R [0,4,45,46,47,48] [o 48 (.bin .lss (t 47) (t 46))])
 (.seq (.after (.cond (t 48) (.skip) (.live [0,4] (.exit 2))) [0,4,45,46,47])
 (.seq (.after (.block 3 (.seq (R [0,4,8,45,46,47] [o 49 (.iaddr 4 (t 45) (t 47)),o 50 (.load (some 4) (t 49)),o 8 (.lalloc [.str [],.str [],.slice none 0 (some 0),.slice none 0 (some 0)]),u (.store 4 (t 8) (t 50))])
 (.seq (R [0,4,45,46,47,67] [v 51 4,o 52 (.faddr (t 8) 0),o 53 (.load none (t 52)),o 54 (.callg 98 [t 51,t 53]),o 55 (.un .not (t 54)),v 56 55,g 57 56 false (.val (t 4)),g 58 56 false (.load (some 4) (t 8)),g 59 56 false (.callg 99 [t 57,t 58]),g 60 56 false (.un .not (t 59)),o 61 (.pick (t 56) Y (t 60)),v 62 61,g 63 62 false (.val (t 4)),g 64 62 false (.load (some 4) (t 8)),g 65 62 false (.callg 100 [t 63,t 64]),g 66 62 false (.un .not (t 65)),o 67 (.pick (t 62) Y (t 66))])
 (.after (.cond (t 67) (.seq (R [2,3] [o 2 (.val (.const (.ptr none))),o 3 (.val (n 15))])
 (.live [2,3] (.ret))) (.skip)) [0,4,45,46,47])))) [0,4,45,46,47])
 (R [0,4,45,46,47] [o 68 (.bin .add (t 47) (n 1)),v 47 68]))))
def code49L2:ACode :=
 .live [0,4,15,16,17] (.seq (R [0,4,15,16,17,18] [o 18 (.bin .lss (t 17) (t 16))])
 (.seq (.after (.cond (t 18) (.skip) (.live [0,4] (.exit 0))) [0,4,15,16,17])
 (.seq (.after (.block 1 (.seq (R [0,4,6,15,16,17] [o 19 (.iaddr 4 (t 15) (t 17)),o 20 (.load (some 4) (t 19)),o 6 (.lalloc [.str [],.str [],.slice none 0 (some 0),.slice none 0 (some 0)]),u (.store 4 (t 6) (t 20))])
 (.seq (.seq (R [0,4,6,15,16,17,35] [v 21 4,o 22 (.faddr (t 6) 0),o 23 (.load none (t 22)),o 24 (.callg 54 [t 21,t 23]),v 25 24,g 26 25 false (.faddr (t 6) 0),g 27 25 false (.load none (t 26)),g 28 25 false (.callg 25 [t 27]),g 29 25 false (.un .not (t 28)),o 30 (.pick (t 25) Y (t 29)),v 31 30,g 32 31 false (.faddr (t 6) 1),g 33 31 false (.load none (t 32)),g 34 31 false (.bin .eql (t 33) (.const (.str [115,121,115]))),o 35 (.pick (t 31) Y (t 34))])
 (.after (.cond (t 35) (.seq (R [2,3] [o 2 (.val (.const (.ptr none))),o 3 (.val (n 15))])
 (.live [2,3] (.ret))) (.skip)) [0,4,6,15,16,17]))
 (.after (.region [⟨true,[],[v 36 4,o 37 (.nilcheck (t 36)),o 38 (.faddr (t 37) 0),o 39 (.load none (t 38)),o 40 (.faddr (t 6) 0),o 41 (.load none (t 40)),o 42 (.faddr (t 6) 1),o 43 (.load none (t 42))]⟩,⟨false,[],[u (.ext (.mapupd (.one .s)) [t 39,t 41,t 43])]⟩]) [0,4,15,16,17])))) [0,4,15,16,17])
 (R [0,4,15,16,17] [o 44 (.bin .add (t 17) (n 1)),v 17 44]))))
def code49:AFunc:=⟨false,false,1,81,[.tmp 2,.tmp 3],
 .seq (R [0] [o 2 (.val (.const (.ptr none))),o 3 (.val (n 0))])
 (.seq (R [0,4] [o 11 (.callg 284 []),v 4 11])
 (.seq (.seq (R [0,4,14] [v 12 0,o 13 (.len .sl (t 12)),o 14 (.bin .gtr (t 13) (n 32))])
 (.after (.cond (t 14) (.seq (R [2,3] [o 2 (.val (.const (.ptr none))),o 3 (.val (n 15))])
 (.live [2,3] (.ret))) (.skip)) [0,4]))
 (.seq (.seq (R [0,4,15,16,17] [v 15 0,o 16 (.len .sl (t 15)),o 17 (.val (n 0))])
 (.after (.block 0 (.loop code49L2)) [0,4]))
 (.seq (.seq (R [0,4,45,46,47] [v 45 0,o 46 (.len .sl (t 45)),o 47 (.val (n 0))])
 (.after (.block 2 (.loop code49L1)) [0,4]))
 (.seq (.seq (R [4,69,70,71] [v 69 0,o 70 (.len .sl (t 69)),o 71 (.val (n 0))])
 (.after (.block 4 (.loop code49L0)) [4]))
 (.seq (R [2,3] [v 80 4,v 2 80,o 3 (.val (n 0))])
 (.live [2,3] (.ret)))))))),none⟩
def rcode320a:ACode :=
 R [5,6,7] [v 7 13]
def rcode320b:ACode :=
 .after (.block 1 (.seq (R [6,16] [v 14 7,o 15 (.load none (t 5)),o 16 (.bin .eql (t 14) (t 15))])
 (.after (.cond (t 16) (.seq (R [] [u (.store 1 (t 6) Y)])
 (.live [] (.ret))) (.skip)) []))) []
def round320:ARound:=⟨[13],rcode320a,rcode320b⟩
def code320:AFunc:=⟨false,false,0,0,[],.skip,some (.round round320)⟩
def code52:AFunc:=⟨false,false,3,17,[.cell 6 none],
 .seq (R [0,1,5,6] [o 5 (.box (t 2)),o 6 (.alloc 1 [.bool false])])
 (.seq (.seq (R [0,1,5,6,9] [v 8 0,o 9 (.eqnil .ptr false (t 8) (.const (.ptr none)))])
 (.after (.cond (t 9) (.seq (R [6] [u (.store 1 (t 6) F)])
 (.live [6] (.ret))) (.skip)) [0,1,5,6]))
 (.seq (.seq (R [5,6,12] [v 10 0,v 11 1,o 12 (.callg 156 [t 10,t 11])])
 (.after (.block 0 (.after (.rangeFunc (t 12) 320 [5,6] [13] rcode320a rcode320b) [6])) [6]))
 (.seq (R [6] [u (.store 1 (t 6) F)])
 (.live [6] (.ret))))),none⟩
def code54:AFunc:=⟨false,false,2,14,[.tmp 4],
 .seq (R [0,1] [o 4 (.val F)])
 (.seq (R [6] [v 8 0,v 9 1,o 10 (.callg 96 [t 8,t 9]),v 7 10,o 11 (.extract (t 7) 0),o 12 (.extract (t 7) 1),v 5 11,v 6 12])
 (.seq (R [4] [v 13 6,v 4 13])
 (.live [4] (.ret)))),none⟩
def code96:AFunc:=⟨false,false,2,21,[.tmp 4,.tmp 5],
 .seq (R [0,1] [o 4 (.val (.const (.str []))),o 5 (.val F)])
 (.seq (.seq (R [0,1,9] [v 8 0,o 9 (.eqnil .ptr false (t 8) (.const (.ptr none)))])
 (.after (.cond (t 9) (.seq (R [4,5] [o 4 (.val (.const (.str []))),o 5 (.val F)])
 (.live [4,5] (.ret))) (.skip)) [0,1]))
 (.seq (R [6,7] [v 11 0,o 12 (.nilcheck (t 11)),o 13 (.faddr (t 12) 0),o 14 (.load none (t 13)),v 15 1,o 16 (.ext (.lookup (.one .s) (.str []) true) [t 14,t 15]),v 10 16,o 17 (.extract (t 10) 0),o 18 (.extract (t 10) 1),v 6 17,v 7 18])
 (.seq (R [4,5] [v 19 6,v 20 7,v 4 19,v 5 20])
 (.live [4,5] (.ret))))),none⟩
def rcode322a:ACode :=
 R [2,4,6,7] [v 7 21]
def rcode322b:ACode :=
 .after (.block 3 (.seq (.after (.region [⟨true,[],[o 23 (.load none (t 2)),o 24 (.nilcheck (t 23)),o 25 (.faddr (t 24) 2),o 26 (.load none (t 25)),v 27 7,o 28 (.faddr (t 6) 1),o 29 (.load none (t 28)),o 30 (.faddr (t 6) 2),o 31 (.load none (t 30)),o 32 (.build [.str [],.str [],.str []] [(0,1,t 27),(1,1,t 29),(2,1,t 31)]),o 33 (.ext (.lookup (.agg [.s,.s,.s]) (.agg [.str [],.bool false]) true) [t 26,t 32]),v 22 33,o 34 (.extract (t 22) 0),o 35 (.extract (t 22) 1),o 8 (.lalloc [.str [],.bool false]),u (.store 2 (t 8) (t 34))]⟩,⟨false,[],[v 9 35]⟩]) [4,6,8,9])
 (.seq (R [4,43] [v 36 9,v 37 36,g 38 37 true (.faddr (t 8) 1),g 39 37 true (.load none (t 38)),g 40 37 true (.faddr (t 6) 0),g 41 37 true (.load none (t 40)),g 42 37 true (.beq true (t 39) (t 41)),o 43 (.pick (t 37) (t 42) F)])
 (.after (.cond (t 43) (.seq (R [] [u (.store 1 (t 4) F)])
 (.live [] (.ret))) (.skip)) [])))) []
def round322:ARound:=⟨[21],rcode322a,rcode322b⟩
def code322:AFunc:=⟨false,false,0,0,[],.skip,some (.round round322)⟩
def code97L1:ACode :=
 .live [2,3,4,11,12,13] (.seq (R [2,3,4,11,12,13,14] [o 14 (.bin .lss (t 13) (t 12))])
 (.seq (.after (.cond (t 14) (.skip) (.live [4] (.exit 0))) [2,3,4,11,12,13])
 (.seq (.after (.block 1 (.seq (R [2,3,4,6,11,12,13] [o 15 (.iaddr 8 (t 11) (t 13)),o 16 (.load (some 8) (t 15)),o 6 (.alloc 8 [.bool false,.str [],.str [],.int .i64 0,.int .i64 0,.slice none 0 (some 0),.slice none 0 (some 0),.slice none 0 (some 0)]),u (.store 8 (t 6) (t 16))])
 (.seq (R [2,3,4,6,11,12,13,20] [o 17 (.load none (t 2)),o 18 (.faddr (t 3) 0),o 19 (.load none (t 18)),o 20 (.callg 156 [t 17,t 19])])
 (.after (.block 2 (.after (.rangeFunc (t 20) 322 [2,4,6] [21] rcode322a rcode322b) [2,3,4,11,12,13])) [2,3,4,11,12,13])))) [2,3,4,11,12,13])
 (R [2,3,4,11,12,13] [o 44 (.bin .add (t 13) (n 1)),v 13 44]))))
def code97:AFunc:=⟨false,false,2,45,[.cell 4 none],
 .seq (R [2,3,4] [o 2 (.box (t 0)),o 3 (.lbox (t 1)),o 4 (.alloc 1 [.bool false])])
 (.seq (.seq (R [2,3,4,11,12,13] [o 10 (.faddr (t 3) 3),o 11 (.load none (t 10)),o 12 (.len .sl (t 11)),o 13 (.val (n 0))])
 (.after (.block 0 (.loop code97L1)) [4]))
 (.seq (R [4] [u (.store 1 (t 4) Y)])
 (.live [4] (.ret)))),none⟩
def rcode321a:ACode :=
 R [5,6,7] [v 7 11]
def rcode321b:ACode :=
 .after (.block 1 (.after (.region [⟨true,[0,0,2,1],[v 12 7,o 13 (.load none (t 6)),o 14 (.bin .add (t 13) (n 1)),u (.ext (.hstore 1) [t 5,t 12])]⟩,⟨false,[],[u (.store 1 (t 6) (t 14))]⟩]) [])) []
def round321:ARound:=⟨[11],rcode321a,rcode321b⟩
def code321:AFunc:=⟨false,false,0,0,[],.skip,some (.round round321)⟩
def code98:AFunc:=⟨false,false,2,21,[.tmp 4],
 .seq (R [0,1] [o 4 (.val F)])
 (.seq (R [0,1,5,6] [o 5 (.alloc 1 [.str []]),o 6 (.alloc 1 [.int .i64 0]),u (.store 1 (t 5) (.const (.str []))),u (.store 1 (t 6) (n 0))])
 (.seq (.seq (R [5,6,10] [v 8 0,v 9 1,o 10 (.callg 156 [t 8,t 9])])
 (.after (.block 0 (.after (.rangeFunc (t 10) 321 [5,6] [11] rcode321a rcode321b) [5,6])) [5,6]))
 (.seq (R [4] [o 15 (.load none (t 5)),o 16 (.bin .eql (t 15) (.const (.str [79,98,106,101,99,116]))),v 17 16,g 18 17 true (.load none (t 6)),g 19 17 true (.bin .gtr (t 18) (n 1)),o 20 (.pick (t 17) (t 19) F),v 4 20])
 (.live [4] (.ret))))),none⟩
def code99L0:ACode :=
 .live [0,3,5,10,11,12] (.seq (R [0,3,5,10,11,12,13] [o 13 (.bin .lss (t 12) (t 11))])
 (.seq (.after (.cond (t 13) (.skip) (.live [] (.exit 0))) [0,3,5,10,11,12])
 (.seq (.after (.block 1 (.seq (R [0,3,5,7,10,11,12] [o 14 (.iaddr 3 (t 10) (t 12)),o 15 (.load (some 3) (t 14)),o 7 (.lalloc [.bool false,.str [],.str []]),u (.store 3 (t 7) (t 15))])
 (.seq (.seq (R [0,3,5,7,10,11,12,38] [o 16 (.faddr (t 7) 1),o 17 (.load none (t 16)),o 18 (.callg 181 [t 17]),o 19 (.un .not (t 18)),v 20 19,g 21 20 false (.faddr (t 7) 2),g 22 20 false (.load none (t 21)),g 23 20 false (.callg 27 [t 22]),g 24 20 false (.un .not (t 23)),o 25 (.pick (t 20) Y (t 24)),v 26 25,g 27 26 false (.val (t 0)),g 28 26 false (.faddr (t 7) 2),g 29 26 false (.load none (t 28)),g 30 26 false (.callg 103 [t 27,t 29]),g 31 26 false (.un .not (t 30)),o 32 (.pick (t 26) Y (t 31)),v 33 32,g 34 33 false (.val (t 5)),g 35 33 false (.faddr (t 7) 1),g 36 33 false (.load none (t 35)),g 37 33 false (.ext (.lookup (.one .s) (.bool false) false) [t 34,t 36]),o 38 (.pick (t 33) Y (t 37))])
 (.after (.cond (t 38) (.seq (R [4] [o 4 (.val F)])
 (.live [4] (.ret))) (.skip)) [0,3,5,7,10,11,12]))
 (.seq (R [0,3,5,7,10,11,12] [v 39 5,o 40 (.faddr (t 7) 1),o 41 (.load none (t 40)),u (.ext (.mapupd (.one .s)) [t 39,t 41,.const (.bool true)])])
 (.after (.region [⟨true,[],[v 42 0,o 43 (.nilcheck (t 42)),o 44 (.faddr (t 43) 1),o 45 (.load none (t 44)),o 46 (.faddr (t 3) 0),o 47 (.load none (t 46)),o 48 (.faddr (t 7) 1),o 49 (.load none (t 48)),o 50 (.faddr (t 7) 2),o 51 (.load none (t 50)),o 52 (.build [.str [],.str [],.str []] [(0,1,t 47),(1,1,t 49),(2,1,t 51)]),o 53 (.faddr (t 3) 0),o 54 (.load none (t 53)),o 55 (.faddr (t 7) 0),o 56 (.load none (t 55)),o 57 (.build [.str [],.bool false] [(0,1,t 54),(1,1,t 56)])]⟩,⟨false,[],[u (.ext (.mapupd (.agg [.s,.s,.s])) [t 45,t 52,t 57])]⟩]) [0,3,5,10,11,12]))))) [0,3,5,10,11,12])
 (R [0,3,5,10,11,12] [o 58 (.bin .add (t 12) (n 1)),v 12 58]))))
def code99:AFunc:=⟨false,false,2,59,[.tmp 4],
 .seq (R [0,3] [o 3 (.lbox (t 1)),o 4 (.val F)])
 (.seq (R [0,3,5] [o 8 (.ext .mkmap []),v 5 8])
 (.seq (.seq (R [0,3,5,10,11,12] [o 9 (.faddr (t 3) 2),o 10 (.load none (t 9)),o 11 (.len .sl (t 10)),o 12 (.val (n 0))])
 (.after (.block 0 (.loop code99L0)) []))
 (.seq (R [4] [o 4 (.val Y)])
 (.live [4] (.ret))))),none⟩
def code100L0:ACode :=
 .live [0,3,11,12,13] (.seq (R [0,3,11,12,13,14] [o 14 (.bin .lss (t 13) (t 12))])
 (.seq (.after (.cond (t 14) (.skip) (.live [] (.exit 0))) [0,3,11,12,13])
 (.seq (.after (.block 1 (.seq (R [0,3,6,11,12,13] [o 15 (.iaddr 8 (t 11) (t 13)),o 16 (.load (some 8) (t 15)),o 6 (.lalloc [.bool false,.str [],.str [],.int .i64 0,.int .i64 0,.slice none 0 (some 0),.slice none 0 (some 0),.slice none 0 (some 0)]),u (.store 8 (t 6) (t 16))])
 (.seq (R [0,3,6,7,11,12,13] [o 17 (.faddr (t 3) 0),o 18 (.load none (t 17)),o 19 (.faddr (t 6) 1),o 20 (.load none (t 19)),o 21 (.faddr (t 6) 2),o 22 (.load none (t 21)),o 23 (.build [.str [],.str [],.str []] [(0,1,t 18),(1,1,t 20),(2,1,t 22)]),o 7 (.lalloc [.str [],.str [],.str []]),u (.store 3 (t 7) (t 23))])
 (.seq (.seq (.after (.region [⟨true,[],[v 25 0,o 26 (.nilcheck (t 25)),o 27 (.faddr (t 26) 2),o 28 (.load none (t 27)),o 29 (.load (some 3) (t 7)),o 30 (.ext (.lookup (.agg [.s,.s,.s]) (.agg [.str [],.bool false]) true) [t 28,t 29]),v 24 30,o 31 (.extract (t 24) 0),o 32 (.extract (t 24) 1),o 8 (.lalloc [.str [],.bool false]),u (.store 2 (t 8) (t 31))]⟩,⟨false,[],[v 9 32]⟩]) [0,3,6,7,9,11,12,13])
 (.seq (R [0,3,6,7,11,12,13,39] [v 33 9,v 34 33,g 35 34 false (.val (t 0)),g 36 34 false (.load (some 8) (t 6)),g 37 34 false (.callg 182 [t 35,t 36]),g 38 34 false (.un .not (t 37)),o 39 (.pick (t 34) Y (t 38))])
 (.after (.cond (t 39) (.seq (R [4] [o 4 (.val F)])
 (.live [4] (.ret))) (.skip)) [0,3,6,7,11,12,13])))
 (.after (.region [⟨true,[],[v 40 0,o 41 (.nilcheck (t 40)),o 42 (.faddr (t 41) 2),o 43 (.load none (t 42)),o 44 (.load (some 3) (t 7)),o 45 (.faddr (t 3) 0),o 46 (.load none (t 45)),o 47 (.faddr (t 6) 0),o 48 (.load none (t 47)),o 49 (.build [.str [],.bool false] [(0,1,t 46),(1,1,t 48)])]⟩,⟨false,[],[u (.ext (.mapupd (.agg [.s,.s,.s])) [t 43,t 44,t 49])]⟩]) [0,3,11,12,13]))))) [0,3,11,12,13])
 (R [0,3,11,12,13] [o 50 (.bin .add (t 13) (n 1)),v 13 50]))))
def code100:AFunc:=⟨false,false,2,51,[.tmp 4],
 .seq (R [0,3] [o 3 (.lbox (t 1)),o 4 (.val F)])
 (.seq (.seq (R [0,3,11,12,13] [o 10 (.faddr (t 3) 3),o 11 (.load none (t 10)),o 12 (.len .sl (t 11)),o 13 (.val (n 0))])
 (.after (.block 0 (.loop code100L0)) []))
 (.seq (R [4] [o 4 (.val Y)])
 (.live [4] (.ret)))),none⟩
def code103:AFunc:=⟨false,false,2,20,[.tmp 4],
 .seq (R [0,1] [o 4 (.val F)])
 (.seq (R [0,5,6] [v 8 1,o 9 (.callg 139 [t 8,.const (.str [91])]),o 10 (.callg 34 [t 9]),v 7 10,o 11 (.extract (t 7) 0),o 12 (.extract (t 7) 1),v 5 11,v 6 12])
 (.seq (R [4] [v 13 6,o 14 (.un .not (t 13)),v 15 14,g 16 15 false (.val (t 0)),g 17 15 false (.val (t 5)),g 18 15 false (.callg 54 [t 16,t 17]),o 19 (.pick (t 15) Y (t 18)),v 4 19])
 (.live [4] (.ret)))),none⟩
def code106L0:ACode :=
 .live [0,3,11,91,92,93,106,107,108] (.seq (R [0,3,11,91,92,93,106,107,108,109] [o 109 (.bin .lss (t 108) (t 107))])
 (.seq (.after (.cond (t 109) (.skip) (.live [0,3,91,92,93] (.exit 6))) [0,3,11,91,92,93,106,107,108])
 (.seq (.after (.block 7 (.seq (R [0,3,11,13,91,92,93,106,107,108] [o 110 (.iaddr 8 (t 106) (t 108)),o 111 (.load (some 8) (t 110)),o 13 (.lalloc [.bool false,.str [],.str [],.int .i64 0,.int .i64 0,.slice none 0 (some 0),.slice none 0 (some 0),.slice none 0 (some 0)]),u (.store 8 (t 13) (t 111))])
 (.seq (R [0,3,11,91,92,93,106,107,108,123] [o 112 (.faddr (t 11) 1),o 113 (.load none (t 112)),o 114 (.faddr (t 13) 1),o 115 (.load none (t 114)),o 116 (.bin .eql (t 113) (t 115)),v 117 116,g 118 117 true (.faddr (t 11) 2),g 119 117 true (.load none (t 118)),g 120 117 true (.faddr (t 13) 2),g 121 117 true (.load none (t 120)),g 122 117 true (.bin .eql (t 119) (t 121)),o 123 (.pick (t 117) (t 122) F)])
 (.after (.cond (t 123) (.seq (R [4] [o 4 (.val F)])
 (.live [4] (.ret))) (.skip)) [0,3,11,91,92,93,106,107,108])))) [0,3,11,91,92,93,106,107,108])
 (R [0,3,11,91,92,93,106,107,108] [o 124 (.bin .add (t 108) (n 1)),v 108 124]))))
def code106L1:ACode :=
 .live [0,3,91,92,93] (.seq (R [0,3,91,92,93,94] [o 94 (.bin .lss (t 93) (t 92))])
 (.seq (.after (.cond (t 94) (.skip) (.live [] (.exit 4))) [0,3,91,92,93])
 (.seq (.after (.block 5 (.seq (R [0,3,10,11,91,92,93] [v 95 93,o 96 (.iaddr 8 (t 91) (t 93)),o 97 (.load (some 8) (t 96)),o 11 (.lalloc [.bool false,.str [],.str [],.int .i64 0,.int .i64 0,.slice none 0 (some 0),.slice none 0 (some 0),.slice none 0 (some 0)]),v 10 95,u (.store 8 (t 11) (t 97))])
 (.seq (.seq (R [0,3,10,11,91,92,93,102] [v 98 0,o 99 (.load (some 4) (t 3)),o 100 (.load (some 8) (t 11)),o 101 (.callg 157 [t 98,t 99,t 100]),o 102 (.un .not (t 101))])
 (.after (.cond (t 102) (.seq (R [4] [o 4 (.val F)])
 (.live [4] (.ret))) (.skip)) [0,3,10,11,91,92,93]))
 (.seq (R [0,3,11,91,92,93,106,107,108] [o 103 (.faddr (t 3) 3),o 104 (.load none (t 103)),v 105 10,o 106 (.slice (.sl 8) (t 104) none (some (t 105)) none),o 107 (.len .sl (t 106)),o 108 (.val (n 0))])
 (.after (.block 6 (.loop code106L0)) [0,3,91,92,93]))))) [0,3,91,92,93])
 (R [0,3,91,92,93] [o 125 (.bin .add (t 93) (n 1)),v 93 125]))))
def code106L2:ACode :=
 .live [0,3,7,50,51,52,77,78,79] (.seq (R [0,3,7,50,51,52,77,78,79,80] [o 80 (.bin .lss (t 79) (t 78))])
 (.seq (.after (.cond (t 80) (.skip) (.live [0,3,50,51,52] (.exit 2))) [0,3,7,50,51,52,77,78,79])
 (.seq (.after (.block 3 (.seq (R [0,3,7,9,50,51,52,77,78,79] [o 81 (.iaddr 3 (t 77) (t 79)),o 82 (.load (some 3) (t 81)),o 9 (.lalloc [.bool false,.str [],.str []]),u (.store 3 (t 9) (t 82))])
 (.seq (R [0,3,7,50,51,52,77,78,79,87] [o 83 (.faddr (t 7) 1),o 84 (.load none (t 83)),o 85 (.faddr (t 9) 1),o 86 (.load none (t 85)),o 87 (.bin .eql (t 84) (t 86))])
 (.after (.cond (t 87) (.seq (R [4] [o 4 (.val F)])
 (.live [4] (.ret))) (.skip)) [0,3,7,50,51,52,77,78,79])))) [0,3,7,50,51,52,77,78,79])
 (R [0,3,7,50,51,52,77,78,79] [o 88 (.bin .add (t 79) (n 1)),v 79 88]))))
def code106L3:ACode :=
 .live [0,3,50,51,52] (.seq (R [0,3,50,51,52,53] [o 53 (.bin .lss (t 52) (t 51))])
 (.seq (.after (.cond (t 53) (.skip) (.live [0,3] (.exit 0))) [0,3,50,51,52])
 (.seq (.after (.block 1 (.seq (R [0,3,6,7,50,51,52] [v 54 52,o 55 (.iaddr 3 (t 50) (t 52)),o 56 (.load (some 3) (t 55)),o 7 (.lalloc [.bool false,.str [],.str []]),v 6 54,u (.store 3 (t 7) (t 56))])
 (.seq (.seq (R [0,3,6,7,50,51,52,73] [o 57 (.faddr (t 7) 1),o 58 (.load none (t 57)),o 59 (.callg 158 [t 58]),o 60 (.un .not (t 59)),v 61 60,g 62 61 false (.faddr (t 7) 2),g 63 61 false (.load none (t 62)),g 64 61 false (.callg 28 [t 63]),g 65 61 false (.un .not (t 64)),o 66 (.pick (t 61) Y (t 65)),v 67 66,g 68 67 false (.val (t 0)),g 69 67 false (.faddr (t 7) 2),g 70 67 false (.load none (t 69)),g 71 67 false (.callg 159 [t 68,t 70]),g 72 67 false (.un .not (t 71)),o 73 (.pick (t 67) Y (t 72))])
 (.after (.cond (t 73) (.seq (R [4] [o 4 (.val F)])
 (.live [4] (.ret))) (.skip)) [0,3,6,7,50,51,52]))
 (.seq (R [0,3,7,50,51,52,77,78,79] [o 74 (.faddr (t 3) 2),o 75 (.load none (t 74)),v 76 6,o 77 (.slice (.sl 3) (t 75) none (some (t 76)) none),o 78 (.len .sl (t 77)),o 79 (.val (n 0))])
 (.after (.block 2 (.loop code106L2)) [0,3,50,51,52]))))) [0,3,50,51,52])
 (R [0,3,50,51,52] [o 89 (.bin .add (t 52) (n 1)),v 52 89]))))
def code106:AFunc:=⟨false,false,2,126,[.tmp 4],
 .seq (R [0,3] [o 3 (.lbox (t 1)),o 4 (.val F)])
 (.seq (R [0,3,5] [v 14 0,o 15 (.faddr (t 3) 0),o 16 (.load none (t 15)),o 17 (.callg 112 [t 14,t 16]),v 5 17])
 (.seq (.seq (R [0,3,48] [o 18 (.faddr (t 3) 0),o 19 (.load none (t 18)),o 20 (.callg 26 [t 19]),o 21 (.un .not (t 20)),v 22 21,g 23 22 false (.faddr (t 3) 1),g 24 22 false (.load none (t 23)),g 25 22 false (.bin .eql (t 24) (.const (.str [115,121,115]))),o 26 (.pick (t 22) Y (t 25)),v 27 26,g 28 27 false (.val (t 5)),g 29 27 false (.len .sl (t 28)),g 30 27 false (.bin .lss (t 29) (n 2)),o 31 (.pick (t 27) Y (t 30)),v 32 31,g 33 32 false (.val (t 5)),g 34 32 false (.len .sl (t 33)),g 35 32 false (.val (t 0)),g 36 32 false (.len .sl (t 35)),g 37 32 false (.bin .gtr (t 34) (t 36)),o 38 (.pick (t 32) Y (t 37)),v 39 38,g 40 39 false (.val (t 5)),g 41 39 false (.val (t 5)),g 42 39 false (.len .sl (t 41)),g 43 39 false (.bin .sub (t 42) (n 1)),g 44 39 false (.iaddr 4 (t 40) (t 43)),g 45 39 false (.faddr (t 44) 0),g 46 39 false (.load none (t 45)),g 47 39 false (.bin .neq (t 46) (.const (.str [79,98,106,101,99,116]))),o 48 (.pick (t 39) Y (t 47))])
 (.after (.cond (t 48) (.seq (R [4] [o 4 (.val F)])
 (.live [4] (.ret))) (.skip)) [0,3]))
 (.seq (.seq (R [0,3,50,51,52] [o 49 (.faddr (t 3) 2),o 50 (.load none (t 49)),o 51 (.len .sl (t 50)),o 52 (.val (n 0))])
 (.after (.block 0 (.loop code106L3)) [0,3]))
 (.seq (.seq (R [0,3,91,92,93] [o 90 (.faddr (t 3) 3),o 91 (.load none (t 90)),o 92 (.len .sl (t 91)),o 93 (.val (n 0))])
 (.after (.block 4 (.loop code106L1)) []))
 (.seq (R [4] [o 4 (.val Y)])
 (.live [4] (.ret))))))),none⟩
def code107L0:ACode :=
 .live [4,39,40,41] (.seq (R [4,39,40,41,42] [o 42 (.bin .lss (t 41) (t 40))])
 (.seq (.after (.cond (t 42) (.skip) (.live [4] (.exit 4))) [4,39,40,41])
 (.seq (.after (.block 5 (.seq (R [4,10,39,40,41] [o 43 (.iaddr 4 (t 39) (t 41)),o 44 (.load (some 4) (t 43)),o 10 (.lalloc [.str [],.str [],.slice none 0 (some 0),.slice none 0 (some 0)]),u (.store 4 (t 10) (t 44))])
 (.seq (R [4,39,40,41,48] [v 45 4,o 46 (.load (some 4) (t 10)),o 47 (.callg 106 [t 45,t 46]),o 48 (.un .not (t 47))])
 (.after (.cond (t 48) (.seq (R [2,3] [o 2 (.val (.const (.slice none 0 (some 0)))),o 3 (.val F)])
 (.live [2,3] (.ret))) (.skip)) [4,39,40,41])))) [4,39,40,41])
 (R [4,39,40,41] [o 49 (.bin .add (t 41) (n 1)),v 41 49]))))
def code107L1:ACode :=
 .live [0,4,6,17,18,19,26,27,28] (.seq (R [0,4,6,17,18,19,26,27,28,29] [o 29 (.bin .lss (t 28) (t 27))])
 (.seq (.after (.cond (t 29) (.skip) (.live [0,4,17,18,19] (.exit 2))) [0,4,6,17,18,19,26,27,28])
 (.seq (.after (.block 3 (.seq (R [0,4,6,8,17,18,19,26,27,28] [o 30 (.iaddr 4 (t 26) (t 28)),o 31 (.load (some 4) (t 30)),o 8 (.lalloc [.str [],.str [],.slice none 0 (some 0),.slice none 0 (some 0)]),u (.store 4 (t 8) (t 31))])
 (.seq (R [0,4,6,17,18,19,26,27,28,36] [o 32 (.faddr (t 6) 0),o 33 (.load none (t 32)),o 34 (.faddr (t 8) 0),o 35 (.load none (t 34)),o 36 (.bin .eql (t 33) (t 35))])
 (.after (.cond (t 36) (.seq (R [2,3] [o 2 (.val (.const (.slice none 0 (some 0)))),o 3 (.val F)])
 (.live [2,3] (.ret))) (.skip)) [0,4,6,17,18,19,26,27,28])))) [0,4,6,17,18,19,26,27,28])
 (R [0,4,6,17,18,19,26,27,28] [o 37 (.bin .add (t 28) (n 1)),v 28 37]))))
def code107L2:ACode :=
 .live [0,4,17,18,19] (.seq (R [0,4,17,18,19,20] [o 20 (.bin .lss (t 19) (t 18))])
 (.seq (.after (.cond (t 20) (.skip) (.live [0,4] (.exit 0))) [0,4,17,18,19])
 (.seq (.after (.block 1 (.seq (R [0,4,5,6,17,18,19] [v 21 19,o 22 (.iaddr 4 (t 17) (t 19)),o 23 (.load (some 4) (t 22)),o 6 (.lalloc [.str [],.str [],.slice none 0 (some 0),.slice none 0 (some 0)]),v 5 21,u (.store 4 (t 6) (t 23))])
 (.seq (R [0,4,6,17,18,19,26,27,28] [v 24 4,v 25 5,o 26 (.slice (.sl 4) (t 24) none (some (t 25)) none),o 27 (.len .sl (t 26)),o 28 (.val (n 0))])
 (.after (.block 2 (.loop code107L1)) [0,4,17,18,19])))) [0,4,17,18,19])
 (R [0,4,17,18,19] [o 38 (.bin .add (t 19) (n 1)),v 19 38]))))
def code107:AFunc:=⟨false,false,1,51,[.tmp 2,.tmp 3],
 .seq (R [0] [o 2 (.val (.const (.slice none 0 (some 0)))),o 3 (.val F)])
 (.seq (R [0,4] [o 11 (.callg 108 []),v 12 0,o 13 (.append 4 80 (t 11) (t 12)),v 4 13])
 (.seq (.seq (R [0,4,16] [v 14 0,o 15 (.len .sl (t 14)),o 16 (.bin .gtr (t 15) (n 32))])
 (.after (.cond (t 16) (.seq (R [2,3] [o 2 (.val (.const (.slice none 0 (some 0)))),o 3 (.val F)])
 (.live [2,3] (.ret))) (.skip)) [0,4]))
 (.seq (.seq (R [0,4,17,18,19] [v 17 4,o 18 (.len .sl (t 17)),o 19 (.val (n 0))])
 (.after (.block 0 (.loop code107L2)) [0,4]))
 (.seq (.seq (R [4,39,40,41] [v 39 0,o 40 (.len .sl (t 39)),o 41 (.val (n 0))])
 (.after (.block 4 (.loop code107L0)) [4]))
 (.seq (R [2,3] [v 50 4,v 2 50,o 3 (.val Y)])
 (.live [2,3] (.ret))))))),none⟩
def code108L0:ACode :=
 .live [2,19,20,21] (.seq (R [2,19,20,21,22] [o 22 (.bin .lss (t 21) (t 20))])
 (.seq (.after (.cond (t 22) (.skip) (.live [2] (.exit 0))) [2,19,20,21])
 (.seq (.after (.block 1 (.seq (R [2,4,19,20,21] [o 23 (.iaddr 1 (t 19) (t 21)),o 24 (.load none (t 23)),v 4 24])
 (R [2,19,20,21] [v 25 2,v 26 4,o 27 (.build [.str [],.str [],.slice none 0 (some 0),.slice none 0 (some 0)] [(0,1,t 26),(1,1,.const (.str [84,104,114,111,119,97,98,108,101]))]),o 28 (.mkslice 4 1 [.str [],.str [],.slice none 0 (some 0),.slice none 0 (some 0)] [(0,4,t 27)]),o 29 (.append 4 80 (t 25) (t 28)),v 2 29]))) [2,19,20,21])
 (R [2,19,20,21] [o 30 (.bin .add (t 21) (n 1)),v 21 30]))))
def code108:AFunc:=⟨false,false,0,32,[.tmp 0],
 .seq (R [] [o 0 (.val (.const (.slice none 0 (some 0))))])
 (.seq (R [1] [o 5 (.callg 115 [.const (.str [112,114,105,110,116]),.const (.str [40,73,41,86])]),o 6 (.callg 115 [.const (.str [112,114,105,110,116,76,111,110,103]),.const (.str [40,74,41,86])]),o 7 (.callg 115 [.const (.str [112,114,105,110,116,84,101,120,116]),.const (.str [40,91,66,41,86])]),o 8 (.callg 115 [.const (.str [97,100,100]),.const (.str [40,91,66,41,73])]),o 9 (.callg 115 [.const (.str [103,101,116]),.const (.str [40,73,41,91,66])]),o 10 (.callg 115 [.const (.str [115,101,116]),.const (.str [40,73,91,66,41,86])]),o 11 (.callg 115 [.const (.str [100,101,108]),.const (.str [40,73,41,86])]),o 12 (.callg 115 [.const (.str [99,111,117,110,116]),.const (.str [40,41,73])]),o 13 (.mkslice 8 8 [.bool false,.str [],.str [],.int .i64 0,.int .i64 0,.slice none 0 (some 0),.slice none 0 (some 0),.slice none 0 (some 0),.bool false,.str [],.str [],.int .i64 0,.int .i64 0,.slice none 0 (some 0),.slice none 0 (some 0),.slice none 0 (some 0),.bool false,.str [],.str [],.int .i64 0,.int .i64 0,.slice none 0 (some 0),.slice none 0 (some 0),.slice none 0 (some 0),.bool false,.str [],.str [],.int .i64 0,.int .i64 0,.slice none 0 (some 0),.slice none 0 (some 0),.slice none 0 (some 0),.bool false,.str [],.str [],.int .i64 0,.int .i64 0,.slice none 0 (some 0),.slice none 0 (some 0),.slice none 0 (some 0),.bool false,.str [],.str [],.int .i64 0,.int .i64 0,.slice none 0 (some 0),.slice none 0 (some 0),.slice none 0 (some 0),.bool false,.str [],.str [],.int .i64 0,.int .i64 0,.slice none 0 (some 0),.slice none 0 (some 0),.slice none 0 (some 0),.bool false,.str [],.str [],.int .i64 0,.int .i64 0,.slice none 0 (some 0),.slice none 0 (some 0),.slice none 0 (some 0)] [(0,8,t 5),(8,8,t 6),(16,8,t 7),(24,8,t 8),(32,8,t 9),(40,8,t 10),(48,8,t 11),(56,8,t 12)]),o 14 (.build [.str [],.str [],.slice none 0 (some 0),.slice none 0 (some 0)] [(0,1,.const (.str [115,121,115])),(1,1,.const (.str [79,98,106,101,99,116])),(3,1,t 13)]),o 1 (.lalloc [.str [],.str [],.slice none 0 (some 0),.slice none 0 (some 0)]),u (.store 4 (t 1) (t 14))])
 (.seq (R [2] [o 15 (.build [.str [],.str [],.slice none 0 (some 0),.slice none 0 (some 0)] [(0,1,.const (.str [79,98,106,101,99,116]))]),o 16 (.build [.str [],.str [],.slice none 0 (some 0),.slice none 0 (some 0)] [(0,1,.const (.str [84,104,114,111,119,97,98,108,101])),(1,1,.const (.str [79,98,106,101,99,116]))]),o 17 (.load (some 4) (t 1)),o 18 (.mkslice 4 3 [.str [],.str [],.slice none 0 (some 0),.slice none 0 (some 0),.str [],.str [],.slice none 0 (some 0),.slice none 0 (some 0),.str [],.str [],.slice none 0 (some 0),.slice none 0 (some 0)] [(0,4,t 15),(4,4,t 16),(8,4,t 17)]),v 2 18])
 (.seq (.seq (R [2,19,20,21] [o 19 (.mkslice 1 6 [.str [],.str [],.str [],.str [],.str [],.str []] [(0,1,.const (.str [78,117,108,108,70,97,117,108,116])),(1,1,.const (.str [66,111,117,110,100,115,70,97,117,108,116])),(2,1,.const (.str [77,97,116,104,70,97,117,108,116])),(3,1,.const (.str [67,97,115,116,70,97,117,108,116])),(4,1,.const (.str [83,105,122,101,70,97,117,108,116])),(5,1,.const (.str [83,116,111,114,101,70,97,117,108,116]))]),o 20 (.len .sl (t 19)),o 21 (.val (n 0))])
 (.after (.block 0 (.loop code108L0)) [2]))
 (.seq (R [0] [v 31 2,v 0 31])
 (.live [0] (.ret)))))),none⟩
def code112L0:ACode :=
 .live [0,5,6,7] (.seq (.seq (R [0,5,6,21] [v 14 7,v 15 14,g 16 15 true (.val (t 5)),g 17 15 true (.len .sl (t 16)),g 18 15 true (.val (t 0)),g 19 15 true (.len .sl (t 18)),g 20 15 true (.bin .leq (t 17) (t 19)),o 21 (.pick (t 15) (t 20) F)])
 (.after (.cond (t 21) (.skip) (.live [5] (.exit 0))) [0,5,6]))
 (.seq (.after (.block 1 (R [0,5,6] [v 29 5,o 30 (.load (some 4) (t 6)),o 31 (.mkslice 4 1 [.str [],.str [],.slice none 0 (some 0),.slice none 0 (some 0)] [(0,4,t 30)]),o 32 (.append 4 80 (t 29) (t 31)),v 5 32])) [0,5,6])
 (.seq (.seq (R [0,5,33] [o 33 (.load (some 4) (t 6))])
 (R [0,5,6] [o 6 (.lalloc [.str [],.str [],.slice none 0 (some 0),.slice none 0 (some 0)]),u (.store 4 (t 6) (t 33))]))
 (R [0,5,6,7] [v 23 0,o 24 (.faddr (t 6) 1),o 25 (.load none (t 24)),o 26 (.callg 160 [t 23,t 25]),v 22 26,o 27 (.extract (t 22) 0),o 28 (.extract (t 22) 1),u (.store 4 (t 6) (t 27)),v 7 28]))))
def code112:AFunc:=⟨false,false,2,35,[.tmp 4],
 .seq (R [0,1] [o 4 (.val (.const (.slice none 0 (some 0))))])
 (.seq (R [0,1,5] [o 5 (.val (.const (.slice none 0 (some 0))))])
 (.seq (.seq (R [0,5,6,7] [v 9 0,v 10 1,o 11 (.callg 160 [t 9,t 10]),v 8 11,o 12 (.extract (t 8) 0),o 13 (.extract (t 8) 1),o 6 (.lalloc [.str [],.str [],.slice none 0 (some 0),.slice none 0 (some 0)]),u (.store 4 (t 6) (t 12)),v 7 13])
 (.after (.block 0 (.loop code112L0)) [5]))
 (.seq (R [4] [v 34 5,v 4 34])
 (.live [4] (.ret))))),none⟩
def code115:AFunc:=⟨false,false,2,8,[.cell 4 (some 8)],
 .seq (R [0,1,4] [o 4 (.lalloc [.bool false,.str [],.str [],.int .i64 0,.int .i64 0,.slice none 0 (some 0),.slice none 0 (some 0),.slice none 0 (some 0)])])
 (.seq (R [4] [v 5 0,v 6 1,o 7 (.build [.bool false,.str [],.str [],.int .i64 0,.int .i64 0,.slice none 0 (some 0),.slice none 0 (some 0),.slice none 0 (some 0)] [(0,1,.const (.bool true)),(1,1,t 5),(2,1,t 6)]),u (.store 8 (t 4) (t 7))])
 (.live [4] (.ret))),none⟩
def code155L0:ACode :=
 .live [0,1,2,10,11] (.seq (R [0,1,2,10,11,12] [o 12 (.bin .lss (t 11) (t 10))])
 (.seq (.after (.cond (t 12) (.skip) (.live [] (.exit 0))) [0,1,2,10,11])
 (.seq (.after (.block 1 (.seq (.after (.region [⟨true,[],[o 14 (.load none (t 1)),o 15 (.nilcheck (t 14)),o 16 (.faddr (t 15) 0),o 17 (.load none (t 16)),o 18 (.load none (t 2))]⟩,⟨false,[],[o 19 (.ext (.lookup (.one .s) (.str []) true) [t 17,t 18]),v 13 19]⟩,⟨true,[],[o 20 (.extract (t 13) 0),o 21 (.extract (t 13) 1),v 4 20]⟩,⟨false,[],[v 5 21]⟩]) [0,1,2,4,5,10,11])
 (.seq (.seq (R [0,1,2,4,10,11,29] [v 22 5,o 23 (.un .not (t 22)),v 24 23,g 25 24 false (.val (t 0)),g 26 24 false (.load none (t 2)),g 27 24 false (.call (t 25) [t 26]),g 28 24 false (.un .not (t 27)),o 29 (.pick (t 24) Y (t 28))])
 (.after (.cond (t 29) (.live [] (.ret)) (.skip)) [0,1,2,4,10,11]))
 (R [0,1,2,10,11] [v 30 4,u (.store 1 (t 2) (t 30))])))) [0,1,2,10,11])
 (R [0,1,2,10,11] [o 31 (.bin .add (t 11) (n 1)),v 11 31]))))
def code155:AFunc:=⟨false,false,3,32,[],
 .seq (R [0,1,2,10,11] [o 6 (.load none (t 1)),o 7 (.nilcheck (t 6)),o 8 (.faddr (t 7) 0),o 9 (.load none (t 8)),o 10 (.len .map (t 9)),o 11 (.val (n 0))])
 (.after (.block 0 (.loop code155L0)) []),none⟩
def code156:AFunc:=⟨false,false,2,6,[.tmp 4],
 .seq (R [2,3] [o 2 (.box (t 0)),o 3 (.box (t 1)),o 4 (.val (.const (.nilFunc)))])
 (.seq (R [4] [o 5 (.mkfunc 155 [] [t 2,t 3]),v 4 5])
 (.live [4] (.ret))),none⟩
def code157L0:ACode :=
 .live [5,77,78,79,84,85,86] (.seq (R [5,77,78,79,84,85,86,87] [o 87 (.bin .lss (t 86) (t 85))])
 (.seq (.after (.cond (t 87) (.skip) (.live [5,77,78,79] (.exit 6))) [5,77,78,79,84,85,86])
 (.seq (.after (.block 7 (.seq (R [5,19,77,78,79,84,85,86] [o 88 (.iaddr 8 (t 84) (t 86)),o 89 (.load (some 8) (t 88)),o 19 (.lalloc [.bool false,.str [],.str [],.int .i64 0,.int .i64 0,.slice none 0 (some 0),.slice none 0 (some 0),.slice none 0 (some 0)]),u (.store 8 (t 19) (t 89))])
 (.seq (R [5,77,78,79,84,85,86,108] [o 90 (.faddr (t 19) 1),o 91 (.load none (t 90)),o 92 (.faddr (t 5) 1),o 93 (.load none (t 92)),o 94 (.bin .eql (t 91) (t 93)),v 95 94,g 96 95 true (.faddr (t 19) 2),g 97 95 true (.load none (t 96)),g 98 95 true (.faddr (t 5) 2),g 99 95 true (.load none (t 98)),g 100 95 true (.bin .eql (t 97) (t 99)),o 101 (.pick (t 95) (t 100) F),v 102 101,g 103 102 true (.faddr (t 19) 0),g 104 102 true (.load none (t 103)),g 105 102 true (.faddr (t 5) 0),g 106 102 true (.load none (t 105)),g 107 102 true (.beq true (t 104) (t 106)),o 108 (.pick (t 102) (t 107) F)])
 (.after (.cond (t 108) (.seq (R [6] [o 6 (.val F)])
 (.live [6] (.ret))) (.skip)) [5,77,78,79,84,85,86])))) [5,77,78,79,84,85,86])
 (R [5,77,78,79,84,85,86] [o 109 (.bin .add (t 86) (n 1)),v 86 109]))))
def code157L1:ACode :=
 .live [5,77,78,79] (.seq (R [5,77,78,79,80] [o 80 (.bin .lss (t 79) (t 78))])
 (.seq (.after (.cond (t 80) (.skip) (.live [] (.exit 4))) [5,77,78,79])
 (.seq (.after (.block 5 (.seq (R [5,17,77,78,79] [o 81 (.iaddr 4 (t 77) (t 79)),o 82 (.load (some 4) (t 81)),o 17 (.lalloc [.str [],.str [],.slice none 0 (some 0),.slice none 0 (some 0)]),u (.store 4 (t 17) (t 82))])
 (.seq (R [5,77,78,79,84,85,86] [o 83 (.faddr (t 17) 3),o 84 (.load none (t 83)),o 85 (.len .sl (t 84)),o 86 (.val (n 0))])
 (.after (.block 6 (.loop code157L0)) [5,77,78,79])))) [5,77,78,79])
 (R [5,77,78,79] [o 110 (.bin .add (t 79) (n 1)),v 79 110]))))
def code157L2:ACode :=
 .live [0,4,5,53,54,55] (.seq (R [0,4,5,53,54,55,56] [o 56 (.bin .lss (t 55) (t 54))])
 (.seq (.after (.cond (t 56) (.skip) (.live [0,4,5] (.exit 2))) [0,4,5,53,54,55])
 (.seq (.after (.block 3 (.seq (R [0,4,5,13,53,54,55] [o 57 (.iaddr 4 (t 53) (t 55)),o 58 (.load (some 4) (t 57)),o 13 (.lalloc [.int .i64 0,.int .i64 0,.int .i64 0,.str []]),u (.store 4 (t 13) (t 58))])
 (.seq (R [0,4,5,13,15,53,54,55] [v 60 0,o 61 (.faddr (t 13) 3),o 62 (.load none (t 61)),o 63 (.callg 160 [t 60,t 62]),v 59 63,o 64 (.extract (t 59) 0),o 65 (.extract (t 59) 1),o 14 (.lalloc [.str [],.str [],.slice none 0 (some 0),.slice none 0 (some 0)]),u (.store 4 (t 14) (t 64)),v 15 65])
 (.seq (R [0,4,5,53,54,55,72] [o 66 (.faddr (t 13) 3),o 67 (.load none (t 66)),o 68 (.bin .neq (t 67) (.const (.str []))),v 69 68,g 70 69 true (.val (t 15)),g 71 69 true (.un .not (t 70)),o 72 (.pick (t 69) (t 71) F)])
 (.after (.cond (t 72) (.seq (R [6] [o 6 (.val F)])
 (.live [6] (.ret))) (.skip)) [0,4,5,53,54,55]))))) [0,4,5,53,54,55])
 (R [0,4,5,53,54,55] [o 73 (.bin .add (t 55) (n 1)),v 55 73]))))
def code157L3:ACode :=
 .live [0,4,5,41,42,43] (.seq (R [0,4,5,41,42,43,44] [o 44 (.bin .lss (t 43) (t 42))])
 (.seq (.after (.cond (t 44) (.skip) (.live [0,4,5] (.exit 0))) [0,4,5,41,42,43])
 (.seq (.after (.block 1 (.seq (R [0,4,5,11,41,42,43] [o 45 (.iaddr 1 (t 41) (t 43)),o 46 (.load none (t 45)),v 11 46])
 (.seq (R [0,4,5,41,42,43,50] [v 47 0,v 48 11,o 49 (.callg 159 [t 47,t 48]),o 50 (.un .not (t 49))])
 (.after (.cond (t 50) (.seq (R [6] [o 6 (.val F)])
 (.live [6] (.ret))) (.skip)) [0,4,5,41,42,43])))) [0,4,5,41,42,43])
 (R [0,4,5,41,42,43] [o 51 (.bin .add (t 43) (n 1)),v 43 51]))))
def code157:AFunc:=⟨false,false,3,111,[.tmp 6],
 .seq (R [0,4,5] [o 4 (.lbox (t 1)),o 5 (.lbox (t 2)),o 6 (.val F)])
 (.seq (R [0,4,5,7,8,9] [o 21 (.faddr (t 5) 2),o 22 (.load none (t 21)),o 23 (.callg 37 [t 22]),v 20 23,o 24 (.extract (t 20) 0),o 25 (.extract (t 20) 1),o 26 (.extract (t 20) 2),v 7 24,v 8 25,v 9 26])
 (.seq (.seq (R [0,4,5,7,40] [o 27 (.faddr (t 5) 1),o 28 (.load none (t 27)),o 29 (.callg 158 [t 28]),o 30 (.un .not (t 29)),v 31 30,g 32 31 false (.val (t 9)),g 33 31 false (.bin .neq (t 32) (n 0)),o 34 (.pick (t 31) Y (t 33)),v 35 34,g 36 35 false (.val (t 0)),g 37 35 false (.val (t 8)),g 38 35 false (.callg 159 [t 36,t 37]),g 39 35 false (.un .not (t 38)),o 40 (.pick (t 35) Y (t 39))])
 (.after (.cond (t 40) (.seq (R [6] [o 6 (.val F)])
 (.live [6] (.ret))) (.skip)) [0,4,5,7]))
 (.seq (.seq (R [0,4,5,41,42,43] [v 41 7,o 42 (.len .sl (t 41)),o 43 (.val (n 0))])
 (.after (.block 0 (.loop code157L3)) [0,4,5]))
 (.seq (.seq (R [0,4,5,53,54,55] [o 52 (.faddr (t 5) 6),o 53 (.load none (t 52)),o 54 (.len .sl (t 53)),o 55 (.val (n 0))])
 (.after (.block 2 (.loop code157L2)) [0,4,5]))
 (.seq (.seq (R [5,77,78,79] [v 74 0,o 75 (.faddr (t 4) 0),o 76 (.load none (t 75)),o 77 (.callg 112 [t 74,t 76]),o 78 (.len .sl (t 77)),o 79 (.val (n 0))])
 (.after (.block 4 (.loop code157L1)) []))
 (.seq (R [6] [o 6 (.val Y)])
 (.live [6] (.ret)))))))),none⟩
def code158L0:ACode :=
 .live [0,3] (.seq (.seq (R [0,3,7] [v 4 3,v 5 0,o 6 (.len .str (t 5)),o 7 (.bin .lss (t 4) (t 6))])
 (.after (.cond (t 7) (.skip) (.live [0] (.exit 0))) [0,3]))
 (.seq (.after (.block 1 (.seq (R [0,3,13] [v 10 0,v 11 3,o 12 (.index (t 10) (t 11)),o 13 (.bin .eql (t 12) (.const (.int .u8 47)))])
 (.after (.cond (t 13) (.seq (R [2] [o 2 (.val F)])
 (.live [2] (.ret))) (.skip)) [0,3]))) [0,3])
 (R [0,3] [v 8 3,o 9 (.bin .add (t 8) (n 1)),v 3 9])))
def code158:AFunc:=⟨false,false,1,16,[.tmp 2],
 .seq (R [0] [o 2 (.val F)])
 (.seq (.seq (R [0,3] [o 3 (.val (n 0))])
 (.after (.block 0 (.loop code158L0)) [0]))
 (.seq (R [2] [v 14 0,o 15 (.callg 26 [t 14]),v 2 15])
 (.live [2] (.ret)))),none⟩
def code159L0:ACode :=
 .live [0,1] (.seq (.seq (R [0,1,15] [v 9 1,o 10 (.bin .neq (t 9) (.const (.str []))),v 11 10,g 12 11 true (.val (t 1)),g 13 11 true (.index (t 12) (n 0)),g 14 11 true (.bin .eql (t 13) (.const (.int .u8 91))),o 15 (.pick (t 11) (t 14) F)])
 (.after (.cond (t 15) (.skip) (.live [0,1] (.exit 0))) [0,1]))
 (.after (.block 1 (R [0,1] [v 16 1,o 17 (.slice .str (t 16) (some (n 1)) none none),v 1 17])) [0,1]))
def code159:AFunc:=⟨false,false,2,34,[.tmp 4],
 .seq (R [0,1] [o 4 (.val F)])
 (.seq (.after (.block 0 (.loop code159L0)) [0,1])
 (.seq (R [0,5,6] [v 19 1,o 20 (.callg 33 [t 19]),v 18 20,o 21 (.extract (t 18) 0),o 22 (.extract (t 18) 1),v 5 21,v 6 22])
 (.seq (R [6,8] [v 24 0,v 25 5,o 26 (.callg 160 [t 24,t 25]),v 23 26,o 27 (.extract (t 23) 0),o 28 (.extract (t 23) 1),o 7 (.lalloc [.str [],.str [],.slice none 0 (some 0),.slice none 0 (some 0)]),u (.store 4 (t 7) (t 27)),v 8 28])
 (.seq (R [4] [v 29 6,o 30 (.un .not (t 29)),v 31 30,g 32 31 false (.val (t 8)),o 33 (.pick (t 31) Y (t 32)),v 4 33])
 (.live [4] (.ret)))))),none⟩
def code160L0:ACode :=
 .live [1,4,8,9,10] (.seq (R [1,4,8,9,10,11] [o 11 (.bin .lss (t 10) (t 9))])
 (.seq (.after (.cond (t 11) (.skip) (.live [4] (.exit 0))) [1,4,8,9,10])
 (.seq (.after (.block 1 (.seq (R [1,4,7,8,9,10] [o 12 (.iaddr 4 (t 8) (t 10)),o 13 (.load (some 4) (t 12)),o 7 (.lalloc [.str [],.str [],.slice none 0 (some 0),.slice none 0 (some 0)]),u (.store 4 (t 7) (t 13))])
 (.seq (R [1,4,7,8,9,10,17] [o 14 (.faddr (t 7) 0),o 15 (.load none (t 14)),v 16 1,o 17 (.bin .eql (t 15) (t 16))])
 (.after (.cond (t 17) (.seq (R [4,5] [o 18 (.load (some 4) (t 7)),u (.store 4 (t 4) (t 18)),o 5 (.val Y)])
 (.live [4,5] (.ret))) (.skip)) [1,4,8,9,10])))) [1,4,8,9,10])
 (R [1,4,8,9,10] [o 19 (.bin .add (t 10) (n 1)),v 10 19]))))
def code160:AFunc:=⟨false,false,2,21,[.cell 4 (some 4),.tmp 5],
 .seq (R [0,1,4] [o 4 (.lalloc [.str [],.str [],.slice none 0 (some 0),.slice none 0 (some 0)]),o 5 (.val F)])
 (.seq (.seq (R [1,4,8,9,10] [v 8 0,o 9 (.len .sl (t 8)),o 10 (.val (n 0))])
 (.after (.block 0 (.loop code160L0)) [4]))
 (.seq (R [4,5] [o 20 (.build [.str [],.str [],.slice none 0 (some 0),.slice none 0 (some 0)] []),u (.store 4 (t 4) (t 20)),o 5 (.val F)])
 (.live [4,5] (.ret)))),none⟩
def code179:AFunc:=⟨false,false,0,10,[.cell 0 (some 16)],
 .seq (R [0] [o 0 (.lalloc [.str [],.str [],.str [],.str [],.str [],.str [],.str [],.str [],.str [],.str [],.str [],.str [],.str [],.str [],.str [],.str []])])
 (.seq (R [0] [o 1 (.build [.str [],.str []] [(0,1,.const (.str [112,114,105,110,116])),(1,1,.const (.str [40,73,41,86]))]),o 2 (.build [.str [],.str []] [(0,1,.const (.str [112,114,105,110,116,76,111,110,103])),(1,1,.const (.str [40,74,41,86]))]),o 3 (.build [.str [],.str []] [(0,1,.const (.str [112,114,105,110,116,84,101,120,116])),(1,1,.const (.str [40,91,66,41,86]))]),o 4 (.build [.str [],.str []] [(0,1,.const (.str [97,100,100])),(1,1,.const (.str [40,91,66,41,73]))]),o 5 (.build [.str [],.str []] [(0,1,.const (.str [103,101,116])),(1,1,.const (.str [40,73,41,91,66]))]),o 6 (.build [.str [],.str []] [(0,1,.const (.str [115,101,116])),(1,1,.const (.str [40,73,91,66,41,86]))]),o 7 (.build [.str [],.str []] [(0,1,.const (.str [100,101,108])),(1,1,.const (.str [40,73,41,86]))]),o 8 (.build [.str [],.str []] [(0,1,.const (.str [99,111,117,110,116])),(1,1,.const (.str [40,41,73]))]),o 9 (.build [.str [],.str [],.str [],.str [],.str [],.str [],.str [],.str [],.str [],.str [],.str [],.str [],.str [],.str [],.str [],.str []] [(0,2,t 1),(2,2,t 2),(4,2,t 3),(6,2,t 4),(8,2,t 5),(10,2,t 6),(12,2,t 7),(14,2,t 8)]),u (.store 16 (t 0) (t 9))])
 (.live [0] (.ret))),none⟩
def code181:AFunc:=⟨false,false,1,10,[.tmp 2],
 .seq (R [0] [o 2 (.val F)])
 (.seq (R [2] [v 3 0,o 4 (.callg 180 [t 3,.const (.str [47])]),o 5 (.un .not (t 4)),v 6 5,g 7 6 true (.val (t 0)),g 8 6 true (.callg 25 [t 7]),o 9 (.pick (t 6) (t 8) F),v 2 9])
 (.live [2] (.ret))),none⟩
def code182L0:ACode :=
 .live [0,42,43,44] (.seq (R [0,42,43,44,45] [o 45 (.bin .lss (t 44) (t 43))])
 (.seq (.after (.cond (t 45) (.skip) (.live [] (.exit 2))) [0,42,43,44])
 (.seq (.after (.block 3 (.seq (R [0,11,42,43,44] [o 46 (.iaddr 4 (t 42) (t 44)),o 47 (.load (some 4) (t 46)),o 11 (.lalloc [.int .i64 0,.int .i64 0,.int .i64 0,.str []]),u (.store 4 (t 11) (t 47))])
 (.seq (R [0,42,43,44,57] [o 48 (.faddr (t 11) 3),o 49 (.load none (t 48)),o 50 (.bin .neq (t 49) (.const (.str []))),v 51 50,g 52 51 true (.val (t 0)),g 53 51 true (.faddr (t 11) 3),g 54 51 true (.load none (t 53)),g 55 51 true (.callg 54 [t 52,t 54]),g 56 51 true (.un .not (t 55)),o 57 (.pick (t 51) (t 56) F)])
 (.after (.cond (t 57) (.seq (R [4] [o 4 (.val F)])
 (.live [4] (.ret))) (.skip)) [0,42,43,44])))) [0,42,43,44])
 (R [0,42,43,44] [o 58 (.bin .add (t 44) (n 1)),v 44 58]))))
def code182L1:ACode :=
 .live [0,3,30,31,32] (.seq (R [0,3,30,31,32,33] [o 33 (.bin .lss (t 32) (t 31))])
 (.seq (.after (.cond (t 33) (.skip) (.live [0,3] (.exit 0))) [0,3,30,31,32])
 (.seq (.after (.block 1 (.seq (R [0,3,9,30,31,32] [o 34 (.iaddr 1 (t 30) (t 32)),o 35 (.load none (t 34)),v 9 35])
 (.seq (R [0,3,30,31,32,39] [v 36 0,v 37 9,o 38 (.callg 103 [t 36,t 37]),o 39 (.un .not (t 38))])
 (.after (.cond (t 39) (.seq (R [4] [o 4 (.val F)])
 (.live [4] (.ret))) (.skip)) [0,3,30,31,32])))) [0,3,30,31,32])
 (R [0,3,30,31,32] [o 40 (.bin .add (t 32) (n 1)),v 32 40]))))
def code182:AFunc:=⟨false,false,2,59,[.tmp 4],
 .seq (R [0,3] [o 3 (.lbox (t 1)),o 4 (.val F)])
 (.seq (R [0,3,5,6,7] [o 13 (.faddr (t 3) 2),o 14 (.load none (t 13)),o 15 (.callg 38 [t 14]),v 12 15,o 16 (.extract (t 12) 0),o 17 (.extract (t 12) 1),o 18 (.extract (t 12) 2),v 5 16,v 6 17,v 7 18])
 (.seq (.seq (R [0,3,5,6,26] [v 19 7,o 20 (.bin .neq (t 19) (n 0)),v 21 20,g 22 21 false (.faddr (t 3) 1),g 23 21 false (.load none (t 22)),g 24 21 false (.callg 181 [t 23]),g 25 21 false (.un .not (t 24)),o 26 (.pick (t 21) Y (t 25))])
 (.after (.cond (t 26) (.seq (R [4] [o 4 (.val F)])
 (.live [4] (.ret))) (.skip)) [0,3,5,6]))
 (.seq (.seq (R [0,3,30,31,32] [v 27 5,v 28 6,o 29 (.mkslice 1 1 [.str []] [(0,1,t 28)]),o 30 (.append 1 16 (t 27) (t 29)),o 31 (.len .sl (t 30)),o 32 (.val (n 0))])
 (.after (.block 0 (.loop code182L1)) [0,3]))
 (.seq (.seq (R [0,42,43,44] [o 41 (.faddr (t 3) 6),o 42 (.load none (t 41)),o 43 (.len .sl (t 42)),o 44 (.val (n 0))])
 (.after (.block 2 (.loop code182L0)) []))
 (.seq (R [4] [o 4 (.val Y)])
 (.live [4] (.ret))))))),none⟩
def code284L0:ACode :=
 .live [1,24,25] (.seq (R [1,24,25,26] [o 26 (.bin .lss (t 25) (n 8))])
 (.seq (.after (.cond (t 26) (.skip) (.live [1] (.exit 2))) [1,24,25])
 (.seq (.after (.block 3 (.seq (R [1,5,24,25] [o 27 (.aindex 8 2 (some 2) (t 24) (t 25)),o 5 (.lalloc [.str [],.str []]),u (.store 2 (t 5) (t 27))])
 (.seq (R [1,6,24,25] [o 28 (.aaddr 2 1 (t 5) (n 0)),o 29 (.load none (t 28)),o 30 (.aaddr 2 1 (t 5) (n 1)),o 31 (.load none (t 30)),o 32 (.build [.str [],.str [],.str []] [(0,1,.const (.str [115,121,115])),(1,1,t 29),(2,1,t 31)]),o 6 (.lalloc [.str [],.str [],.str []]),u (.store 3 (t 6) (t 32))])
 (.seq (.after (.region [⟨true,[],[v 33 1,o 34 (.nilcheck (t 33)),o 35 (.faddr (t 34) 2),o 36 (.load none (t 35)),o 37 (.load (some 3) (t 6)),o 38 (.build [.str [],.bool false] [(0,1,.const (.str [115,121,115])),(1,1,.const (.bool true))])]⟩,⟨false,[],[u (.ext (.mapupd (.agg [.s,.s,.s])) [t 36,t 37,t 38])]⟩]) [1,6,24,25])
 (.after (.region [⟨true,[],[v 39 1,o 40 (.nilcheck (t 39)),o 41 (.faddr (t 40) 3),o 42 (.load none (t 41)),o 43 (.load (some 3) (t 6))]⟩,⟨false,[],[u (.ext (.mapupd (.agg [.s,.s,.s])) [t 42,t 43,.const (.bool true)])]⟩]) [1,24,25]))))) [1,24,25])
 (R [1,24,25] [o 44 (.bin .add (t 25) (n 1)),v 25 44]))))
def code284L1:ACode :=
 .live [1,14,15] (.seq (R [1,14,15,16] [o 16 (.bin .lss (t 15) (n 6))])
 (.seq (.after (.cond (t 16) (.skip) (.live [1] (.exit 0))) [1,14,15])
 (.seq (.after (.block 1 (.seq (R [1,3,14,15] [o 17 (.aindex 6 1 none (t 14) (t 15)),v 3 17])
 (R [1,14,15] [v 18 1,o 19 (.nilcheck (t 18)),o 20 (.faddr (t 19) 0),o 21 (.load none (t 20)),v 22 3,u (.ext (.mapupd (.one .s)) [t 21,t 22,.const (.str [84,104,114,111,119,97,98,108,101])])]))) [1,14,15])
 (R [1,14,15] [o 23 (.bin .add (t 15) (n 1)),v 15 23]))))
def code284:AFunc:=⟨false,false,0,46,[.tmp 0],
 .seq (R [] [o 0 (.val (.const (.ptr none)))])
 (.seq (R [1] [o 7 (.ext .mkmap []),u (.ext (.mapupd (.one .s)) [t 7,.const (.str [79,98,106,101,99,116]),.const (.str [])]),u (.ext (.mapupd (.one .s)) [t 7,.const (.str [84,104,114,111,119,97,98,108,101]),.const (.str [79,98,106,101,99,116])]),u (.ext (.mapupd (.one .s)) [t 7,.const (.str [115,121,115]),.const (.str [79,98,106,101,99,116])]),v 8 7,o 9 (.ext .mkmap []),o 10 (.ext .mkmap []),o 11 (.ext .mkmap []),o 12 (.build [.map none,.map none,.map none,.map none] [(0,1,t 8),(1,1,t 9),(2,1,t 10),(3,1,t 11)]),o 13 (.box (t 12)),v 1 13])
 (.seq (.seq (R [1,14,15] [o 14 (.build [.str [],.str [],.str [],.str [],.str [],.str []] [(0,1,.const (.str [78,117,108,108,70,97,117,108,116])),(1,1,.const (.str [66,111,117,110,100,115,70,97,117,108,116])),(2,1,.const (.str [77,97,116,104,70,97,117,108,116])),(3,1,.const (.str [67,97,115,116,70,97,117,108,116])),(4,1,.const (.str [83,105,122,101,70,97,117,108,116])),(5,1,.const (.str [83,116,111,114,101,70,97,117,108,116]))]),o 15 (.val (n 0))])
 (.after (.block 0 (.loop code284L1)) [1]))
 (.seq (.seq (R [1,24,25] [o 24 (.callg 179 []),o 25 (.val (n 0))])
 (.after (.block 2 (.loop code284L0)) [1]))
 (.seq (R [0] [v 45 1,v 0 45])
 (.live [0] (.ret)))))),none⟩
def T:Nat→Option AFunc:=fun g=>match AbsDesc.T g with
 | some f=>some f
 | none=>List.lookup g [(47,code47),(49,code49),(320,code320),(52,code52),(54,code54),(96,code96),(322,code322),(97,code97),(321,code321),(98,code98),(99,code99),(100,code100),(103,code103),(106,code106),(107,code107),(108,code108),(112,code112),(115,code115),(155,code155),(156,code156),(157,code157),(158,code158),(159,code159),(160,code160),(179,code179),(181,code181),(182,code182),(284,code284)]
theorem sub:∀ g f,AbsDesc.T g=some f→T g=some f:=fun g f h=>by unfold T; rw [h]
theorem t47:T 47=some code47:=rfl
theorem t49:T 49=some code49:=rfl
theorem t320:T 320=some code320:=rfl
theorem t52:T 52=some code52:=rfl
theorem t54:T 54=some code54:=rfl
theorem t96:T 96=some code96:=rfl
theorem t322:T 322=some code322:=rfl
theorem t97:T 97=some code97:=rfl
theorem t321:T 321=some code321:=rfl
theorem t98:T 98=some code98:=rfl
theorem t99:T 99=some code99:=rfl
theorem t100:T 100=some code100:=rfl
theorem t103:T 103=some code103:=rfl
theorem t106:T 106=some code106:=rfl
theorem t107:T 107=some code107:=rfl
theorem t108:T 108=some code108:=rfl
theorem t112:T 112=some code112:=rfl
theorem t115:T 115=some code115:=rfl
theorem t155:T 155=some code155:=rfl
theorem t156:T 156=some code156:=rfl
theorem t157:T 157=some code157:=rfl
theorem t158:T 158=some code158:=rfl
theorem t159:T 159=some code159:=rfl
theorem t160:T 160=some code160:=rfl
theorem t179:T 179=some code179:=rfl
theorem t181:T 181=some code181:=rfl
theorem t182:T 182=some code182:=rfl
theorem t284:T 284=some code284:=rfl
end Go.Abs.AbsHier
