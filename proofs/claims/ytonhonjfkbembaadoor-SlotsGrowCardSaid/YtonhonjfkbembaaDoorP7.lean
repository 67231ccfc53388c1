/-
  Texts joined.
-/
import Derived.Test.YtonhonjfkbembaaDoorP0
import Derived.Test.YtonhonjfkbembaaDoorP6
set_option linter.unusedVariables false
set_option linter.unusedSimpArgs false
set_option maxRecDepth 100000
namespace Go.Abs.AbsDesc
open Go.Abs.Short
def code25:AFunc:=⟨false,false,1,12,[.tmp 2],
 .seq (R [0] [o 2 (.val F)])
 (.seq (R [2] [v 3 0,o 4 (.len .str (t 3)),o 5 (.bin .leq (t 4) (n 64)),v 6 5,g 7 6 true (.val (t 0)),g 8 6 true (.callg 90 [t 7,.const (.str [47])]),g 9 6 true (.callg 91 [t 8,.const (.func 92 [] [])]),g 10 6 true (.un .not (t 9)),o 11 (.pick (t 6) (t 10) F),v 2 11])
 (.live [2] (.ret))),none⟩
def code27:AFunc:=⟨false,false,1,11,[.tmp 2],
 .seq (R [0] [o 2 (.val F)])
 (.seq (R [2] [v 3 0,o 4 (.bin .neq (t 3) (.const (.str []))),v 5 4,g 6 5 true (.val (t 0)),g 7 5 true (.callg 86 [t 6]),g 8 5 true (.val (t 0)),g 9 5 true (.bin .eql (t 7) (t 8)),o 10 (.pick (t 5) (t 9) F),v 2 10])
 (.live [2] (.ret))),none⟩
def code30:AFunc:=⟨false,false,1,9,[.tmp 2],
 .seq (R [0] [o 2 (.val F)])
 (.seq (R [2] [v 3 0,o 4 (.callg 88 [t 3,.const (.str [76])]),v 5 4,g 6 5 false (.val (t 0)),g 7 5 false (.callg 88 [t 6,.const (.str [91])]),o 8 (.pick (t 5) Y (t 7)),v 2 8])
 (.live [2] (.ret))),none⟩
def code34:AFunc:=⟨false,false,1,22,[.tmp 2,.tmp 3],
 .seq (R [0] [o 2 (.val (.const (.str []))),o 3 (.val F)])
 (.seq (.seq (R [0,16] [v 4 0,o 5 (.len .str (t 4)),o 6 (.bin .lss (t 5) (n 2)),v 7 6,g 8 7 false (.val (t 0)),g 9 7 false (.callg 88 [t 8,.const (.str [76])]),g 10 7 false (.un .not (t 9)),o 11 (.pick (t 7) Y (t 10)),v 12 11,g 13 12 false (.val (t 0)),g 14 12 false (.callg 89 [t 13,.const (.str [59])]),g 15 12 false (.un .not (t 14)),o 16 (.pick (t 12) Y (t 15))])
 (.after (.cond (t 16) (.seq (R [2,3] [o 2 (.val (.const (.str []))),o 3 (.val F)])
 (.live [2,3] (.ret))) (.skip)) [0]))
 (.seq (R [2,3] [v 17 0,v 18 0,o 19 (.len .str (t 18)),o 20 (.bin .sub (t 19) (n 1)),o 21 (.slice .str (t 17) (some (n 1)) (some (t 20)) none),v 2 21,o 3 (.val Y)])
 (.live [2,3] (.ret)))),none⟩
def code38L0:ACode :=
 .live [5,7] (.seq (.seq (R [5,7,23] [v 17 5,o 18 (.bin .neq (t 17) (.const (.str []))),v 19 18,g 20 19 true (.val (t 5)),g 21 19 true (.index (t 20) (n 0)),g 22 19 true (.bin .neq (t 21) (.const (.int .u8 41))),o 23 (.pick (t 19) (t 22) F)])
 (.after (.cond (t 23) (.skip) (.live [5,7] (.exit 0))) [5,7]))
 (.after (.block 1 (.seq (R [5,7,8] [v 24 5,o 25 (.callg 86 [t 24]),v 8 25])
 (.seq (.seq (R [5,7,8,32] [v 26 8,o 27 (.bin .eql (t 26) (.const (.str []))),v 28 27,g 29 28 false (.val (t 7)),g 30 28 false (.len .sl (t 29)),g 31 28 false (.bin .eql (t 30) (n 16)),o 32 (.pick (t 28) Y (t 31))])
 (.after (.cond (t 32) (.seq (R [2,3,4] [o 2 (.val (.const (.slice none 0 (some 0)))),o 3 (.val (.const (.str []))),o 4 (.val (n 8))])
 (.live [2,3,4] (.ret))) (.skip)) [5,7,8]))
 (.after (.region [⟨true,[0,0,2,7,0,0,32,112,15],[v 33 7,v 34 8,o 35 (.mkslice 1 1 [.str []] [(0,1,t 34)]),o 36 (.append 1 16 (t 33) (t 35)),v 37 5,v 38 8,o 39 (.len .str (t 38)),o 40 (.slice .str (t 37) (some (t 39)) none none),v 7 36]⟩,⟨false,[],[v 5 40]⟩]) [5,7])))) [5,7]))
def code38:AFunc:=⟨false,false,1,59,[.tmp 2,.tmp 3,.tmp 4],
 .seq (R [0] [o 2 (.val (.const (.slice none 0 (some 0)))),o 3 (.val (.const (.str []))),o 4 (.val (n 0))])
 (.seq (R [5,6] [v 11 0,o 12 (.callg 85 [t 11,.const (.str [40])]),v 10 12,o 13 (.extract (t 10) 0),o 14 (.extract (t 10) 1),v 5 13,v 6 14])
 (.seq (.seq (R [5,16] [v 15 6,o 16 (.un .not (t 15))])
 (.after (.cond (t 16) (.seq (R [2,3,4] [o 2 (.val (.const (.slice none 0 (some 0)))),o 3 (.val (.const (.str []))),o 4 (.val (n 8))])
 (.live [2,3,4] (.ret))) (.skip)) [5]))
 (.seq (R [5,7] [o 7 (.val (.const (.slice none 0 (some 0))))])
 (.seq (.after (.block 0 (.loop code38L0)) [5,7])
 (.seq (R [6,7,9] [v 42 5,o 43 (.callg 85 [t 42,.const (.str [41])]),v 41 43,o 44 (.extract (t 41) 0),o 45 (.extract (t 41) 1),v 9 44,v 6 45])
 (.seq (.seq (R [7,9,56] [v 46 6,o 47 (.un .not (t 46)),v 48 47,g 49 48 false (.val (t 9)),g 50 48 false (.bin .neq (t 49) (.const (.str [86]))),g 51 48 false (.val (t 50)),g 52 51 true (.val (t 9)),g 53 51 true (.callg 27 [t 52]),g 54 51 true (.un .not (t 53)),g 55 48 false (.pick (t 51) (t 54) F),o 56 (.pick (t 48) Y (t 55))])
 (.after (.cond (t 56) (.seq (R [2,3,4] [o 2 (.val (.const (.slice none 0 (some 0)))),o 3 (.val (.const (.str []))),o 4 (.val (n 8))])
 (.live [2,3,4] (.ret))) (.skip)) [7,9]))
 (.seq (R [2,3,4] [v 57 7,v 58 9,v 2 57,v 3 58,o 4 (.val (n 0))])
 (.live [2,3,4] (.ret))))))))),none⟩
def code85:AFunc:=⟨false,false,2,11,[.tmp 4,.tmp 5],
 .seq (R [0,1] [o 4 (.val (.const (.str []))),o 5 (.val F)])
 (.seq (R [4,5] [v 6 0,v 7 1,o 8 (.callg 137 [t 6,t 7]),o 9 (.extract (t 8) 0),o 10 (.extract (t 8) 1),v 4 9,v 5 10])
 (.live [4,5] (.ret))),none⟩
def code86:AFunc:=⟨false,false,1,65,[.tmp 2],
 .seq (R [0] [o 2 (.val (.const (.str [])))])
 (.seq (R [0,3] [v 9 0,o 10 (.callg 139 [t 9,.const (.str [91])]),v 3 10])
 (.seq (R [0,3,4] [v 11 0,o 12 (.len .str (t 11)),v 13 3,o 14 (.len .str (t 13)),o 15 (.bin .sub (t 12) (t 14)),v 4 15])
 (.seq (.seq (R [0,3,4,21] [v 16 3,o 17 (.bin .eql (t 16) (.const (.str []))),v 18 17,g 19 18 false (.val (t 4)),g 20 18 false (.bin .gtr (t 19) (n 8)),o 21 (.pick (t 18) Y (t 20))])
 (.after (.cond (t 21) (.seq (R [2] [o 2 (.val (.const (.str [])))])
 (.live [2] (.ret))) (.skip)) [0,3,4]))
 (.seq (.seq (R [0,3,4,5] [v 22 3,o 23 (.index (t 22) (n 0)),v 5 23])
 (.after (.block 0 (.seq (.seq (R [0,3,4,5,24] [v 25 5,o 26 (.bin .eql (t 25) (.const (.int .u8 73))),v 24 26])
 (.after (.cond (t 24) (.skip) (.seq (R [0,3,4,5,24] [v 27 5,o 28 (.bin .eql (t 27) (.const (.int .u8 74))),v 29 28,g 30 29 true (.val (t 4)),g 31 29 true (.bin .eql (t 30) (n 0)),o 32 (.pick (t 29) (t 31) F),v 24 32])
 (.after (.cond (t 24) (.skip) (R [0,3,4,5,24] [v 33 5,o 34 (.bin .eql (t 33) (.const (.int .u8 66))),v 35 34,g 36 35 true (.val (t 4)),g 37 35 true (.bin .gtr (t 36) (n 0)),o 38 (.pick (t 35) (t 37) F),v 24 38])) [0,3,4,5,24]))) [0,3,4,5,24]))
 (.after (.cond (t 24) (.seq (R [2] [v 39 0,v 40 4,o 41 (.bin .add (t 40) (n 1)),o 42 (.slice .str (t 39) none (some (t 41)) none),v 2 42])
 (.live [2] (.ret))) (.seq (R [0,3,4,43] [v 44 5,o 45 (.bin .eql (t 44) (.const (.int .u8 76))),v 43 45])
 (.after (.cond (t 43) (.seq (R [0,4,6,8] [v 47 3,o 48 (.slice .str (t 47) (some (n 1)) none none),o 49 (.callg 138 [t 48,.const (.str [59])]),v 46 49,o 50 (.extract (t 46) 0),o 51 (.extract (t 46) 1),o 52 (.extract (t 46) 2),v 6 50,v 7 51,v 8 52])
 (.seq (R [0,4,6,57] [v 53 8,v 54 53,g 55 54 true (.val (t 6)),g 56 54 true (.callg 25 [t 55]),o 57 (.pick (t 54) (t 56) F)])
 (.after (.cond (t 57) (.seq (R [2] [v 58 0,v 59 4,v 60 6,o 61 (.len .str (t 60)),o 62 (.bin .add (t 59) (t 61)),o 63 (.bin .add (t 62) (n 2)),o 64 (.slice .str (t 58) none (some (t 63)) none),v 2 64])
 (.live [2] (.ret))) (.skip)) []))) (.skip)) []))) []))) []))
 (.seq (R [2] [o 2 (.val (.const (.str [])))])
 (.live [2] (.ret))))))),none⟩
def code88:AFunc:=⟨false,false,2,8,[.tmp 4],
 .seq (R [0,1] [o 4 (.val F)])
 (.seq (R [4] [v 5 0,v 6 1,o 7 (.callg 140 [t 5,t 6]),v 4 7])
 (.live [4] (.ret))),none⟩
def code89:AFunc:=⟨false,false,2,8,[.tmp 4],
 .seq (R [0,1] [o 4 (.val F)])
 (.seq (R [4] [v 5 0,v 6 1,o 7 (.callg 141 [t 5,t 6]),v 4 7])
 (.live [4] (.ret))),none⟩
def code90:AFunc:=⟨false,false,2,8,[.tmp 4],
 .seq (R [0,1] [o 4 (.val (.const (.slice none 0 (some 0))))])
 (.seq (R [4] [v 5 0,v 6 1,o 7 (.callg 143 [t 5,t 6,n 0,.const (.int .i64 (-1))]),v 4 7])
 (.live [4] (.ret))),none⟩
def code91:AFunc:=⟨false,false,2,9,[.tmp 4],
 .seq (R [0,1] [o 4 (.val F)])
 (.seq (R [4] [v 5 0,v 6 1,o 7 (.callg 142 [t 5,t 6]),o 8 (.bin .geq (t 7) (n 0)),v 4 8])
 (.live [4] (.ret))),none⟩
def code92:AFunc:=⟨false,false,1,6,[.tmp 2],
 .seq (R [0] [o 2 (.val F)])
 (.seq (R [2] [v 3 0,o 4 (.callg 144 [t 3]),o 5 (.un .not (t 4)),v 2 5])
 (.live [2] (.ret))),none⟩
def code137:AFunc:=⟨false,false,2,15,[.tmp 4,.tmp 5],
 .seq (R [0,1] [o 4 (.val (.const (.str []))),o 5 (.val F)])
 (.seq (.seq (R [0,1,9] [v 6 0,v 7 1,o 8 (.callg 140 [t 6,t 7]),o 9 (.un .not (t 8))])
 (.after (.cond (t 9) (.seq (R [4,5] [v 10 0,v 4 10,o 5 (.val F)])
 (.live [4,5] (.ret))) (.skip)) [0,1]))
 (.seq (R [4,5] [v 11 0,v 12 1,o 13 (.len .str (t 12)),o 14 (.slice .str (t 11) (some (t 13)) none none),v 4 14,o 5 (.val Y)])
 (.live [4,5] (.ret)))),none⟩
def code138:AFunc:=⟨false,false,2,13,[.tmp 4,.tmp 5,.tmp 6],
 .seq (R [0,1] [o 4 (.val (.const (.str []))),o 5 (.val (.const (.str []))),o 6 (.val F)])
 (.seq (R [4,5,6] [v 7 0,v 8 1,o 9 (.callg 172 [t 7,t 8]),o 10 (.extract (t 9) 0),o 11 (.extract (t 9) 1),o 12 (.extract (t 9) 2),v 4 10,v 5 11,v 6 12])
 (.live [4,5,6] (.ret))),none⟩
def code139:AFunc:=⟨false,false,2,37,[.tmp 4],
 .seq (R [0,1] [o 4 (.val (.const (.str [])))])
 (.seq (.seq (R [0,1,12] [v 7 0,o 8 (.bin .eql (t 7) (.const (.str []))),v 9 8,g 10 9 false (.val (t 1)),g 11 9 false (.bin .eql (t 10) (.const (.str []))),o 12 (.pick (t 9) Y (t 11))])
 (.after (.cond (t 12) (.seq (R [4] [v 13 0,v 4 13])
 (.live [4] (.ret))) (.skip)) [0,1]))
 (.seq (.seq (R [0,1,21] [v 14 1,o 15 (.len .str (t 14)),o 16 (.bin .eql (t 15) (n 1)),v 17 16,g 18 17 true (.val (t 1)),g 19 17 true (.index (t 18) (n 0)),g 20 17 true (.bin .lss (t 19) (.const (.int .u8 128))),o 21 (.pick (t 17) (t 20) F)])
 (.after (.cond (t 21) (.seq (R [4] [v 22 0,v 23 1,o 24 (.index (t 23) (n 0)),o 25 (.callg 171 [t 22,t 24]),v 4 25])
 (.live [4] (.ret))) (.skip)) [0,1]))
 (.seq (.seq (R [0,1,5,6] [v 27 1,o 28 (.nextStr F),v 26 28,o 29 (.extract (t 26) 0),o 30 (.extract (t 26) 1),o 5 (.alloc 1 [.bool false,.bool false,.bool false,.bool false,.bool false,.bool false,.bool false,.bool false,.bool false,.bool false,.bool false,.bool false,.bool false,.bool false,.bool false,.bool false,.bool false,.bool false,.bool false,.bool false,.bool false,.bool false,.bool false,.bool false,.bool false,.bool false,.bool false,.bool false,.bool false,.bool false,.bool false,.bool false,.bool false,.bool false,.bool false,.bool false,.bool false,.bool false,.bool false,.bool false,.bool false,.bool false,.bool false,.bool false,.bool false,.bool false,.bool false,.bool false,.bool false,.bool false,.bool false,.bool false,.bool false,.bool false,.bool false,.bool false,.bool false,.bool false,.bool false,.bool false,.bool false,.bool false,.bool false,.bool false,.bool false,.bool false,.bool false,.bool false,.bool false,.bool false,.bool false,.bool false,.bool false,.bool false,.bool false,.bool false,.bool false,.bool false,.bool false,.bool false,.bool false,.bool false,.bool false,.bool false,.bool false,.bool false,.bool false,.bool false,.bool false,.bool false,.bool false,.bool false,.bool false,.bool false,.bool false,.bool false,.bool false,.bool false,.bool false,.bool false,.bool false,.bool false,.bool false,.bool false,.bool false,.bool false,.bool false,.bool false,.bool false,.bool false,.bool false,.bool false,.bool false,.bool false,.bool false,.bool false,.bool false,.bool false,.bool false,.bool false,.bool false,.bool false,.bool false,.bool false,.bool false,.bool false,.bool false,.bool false,.bool false,.bool false,.bool false,.bool false,.bool false,.bool false,.bool false,.bool false,.bool false,.bool false,.bool false,.bool false,.bool false,.bool false,.bool false,.bool false,.bool false,.bool false,.bool false,.bool false,.bool false,.bool false,.bool false,.bool false,.bool false,.bool false,.bool false,.bool false,.bool false,.bool false,.bool false,.bool false,.bool false,.bool false,.bool false,.bool false,.bool false,.bool false,.bool false,.bool false,.bool false,.bool false,.bool false,.bool false,.bool false,.bool false,.bool false,.bool false,.bool false,.bool false,.bool false,.bool false,.bool false,.bool false,.bool false,.bool false,.bool false,.bool false,.bool false,.bool false,.bool false,.bool false,.bool false,.bool false,.bool false,.bool false,.bool false,.bool false,.bool false,.bool false,.bool false,.bool false,.bool false,.bool false,.bool false,.bool false,.bool false,.bool false,.bool false,.bool false,.bool false,.bool false,.bool false,.bool false,.bool false,.bool false,.bool false,.bool false,.bool false,.bool false,.bool false,.bool false,.bool false,.bool false,.bool false,.bool false,.bool false,.bool false,.bool false,.bool false,.bool false,.bool false,.bool false,.bool false,.bool false,.bool false,.bool false,.bool false,.bool false,.bool false,.bool false,.bool false,.bool false,.bool false,.bool false,.bool false,.bool false,.bool false,.bool false,.bool false,.bool false,.bool false,.bool false,.bool false,.bool false,.bool false,.bool false,.bool false]),u (.store 256 (t 5) (t 29)),v 6 30])
 (.seq (R [0,1,5,31] [v 31 6])
 (.after (.cond (t 31) (.seq (R [4] [v 32 0,o 33 (.nextStr F),v 4 33])
 (.live [4] (.ret))) (.skip)) [0,1])))
 (.seq (R [4] [v 34 0,v 35 1,o 36 (.nextStr F),v 4 36])
 (.live [4] (.ret)))))),none⟩
def code140:AFunc:=⟨false,false,2,18,[.tmp 4],
 .seq (R [0,1] [o 4 (.val F)])
 (.seq (R [4] [v 5 0,o 6 (.len .str (t 5)),v 7 1,o 8 (.len .str (t 7)),o 9 (.bin .geq (t 6) (t 8)),v 10 9,g 11 10 true (.val (t 0)),g 12 10 true (.val (t 1)),g 13 10 true (.len .str (t 12)),g 14 10 true (.slice .str (t 11) none (some (t 13)) none),g 15 10 true (.val (t 1)),g 16 10 true (.bin .eql (t 14) (t 15)),o 17 (.pick (t 10) (t 16) F),v 4 17])
 (.live [4] (.ret))),none⟩
def code141:AFunc:=⟨false,false,2,21,[.tmp 4],
 .seq (R [0,1] [o 4 (.val F)])
 (.seq (R [4] [v 5 0,o 6 (.len .str (t 5)),v 7 1,o 8 (.len .str (t 7)),o 9 (.bin .geq (t 6) (t 8)),v 10 9,g 11 10 true (.val (t 0)),g 12 10 true (.val (t 0)),g 13 10 true (.len .str (t 12)),g 14 10 true (.val (t 1)),g 15 10 true (.len .str (t 14)),g 16 10 true (.bin .sub (t 13) (t 15)),g 17 10 true (.slice .str (t 11) (some (t 16)) none none),g 18 10 true (.val (t 1)),g 19 10 true (.bin .eql (t 17) (t 18)),o 20 (.pick (t 10) (t 19) F),v 4 20])
 (.live [4] (.ret))),none⟩
def code142L0:ACode :=
 .live [0,1,7,8] (.seq (R [0,1,7,8,9] [o 9 (.bin .lss (t 8) (t 7))])
 (.seq (.after (.cond (t 9) (.skip) (.live [] (.exit 0))) [0,1,7,8])
 (.seq (.after (.block 1 (.seq (R [0,1,5,7,8] [v 10 8,v 5 10])
 (.seq (R [0,1,5,7,8,16] [v 11 1,v 12 0,v 13 5,o 14 (.iaddr 1 (t 12) (t 13)),o 15 (.load none (t 14)),o 16 (.call (t 11) [t 15])])
 (.after (.cond (t 16) (.seq (R [4] [v 17 5,v 4 17])
 (.live [4] (.ret))) (.skip)) [0,1,7,8])))) [0,1,7,8])
 (R [0,1,7,8] [o 18 (.bin .add (t 8) (n 1)),v 8 18]))))
def code142:AFunc:=⟨false,false,2,19,[.tmp 4],
 .seq (R [0,1] [o 4 (.val (n 0))])
 (.seq (.seq (R [0,1,7,8] [v 6 0,o 7 (.len .sl (t 6)),o 8 (.val (n 0))])
 (.after (.block 0 (.loop code142L0)) []))
 (.seq (R [4] [o 4 (.val (.const (.int .i64 (-1))))])
 (.live [4] (.ret)))),none⟩
def code143L0:ACode :=
 .live [0,1,2,3,9,10] (.seq (.seq (R [0,1,2,3,9,10,36] [v 34 10,v 35 3,o 36 (.bin .lss (t 34) (t 35))])
 (.after (.cond (t 36) (.skip) (.live [0,9,10] (.exit 0))) [0,1,2,3,9,10]))
 (.after (.block 1 (.seq (R [0,1,2,3,9,10,11] [v 37 0,v 38 1,o 39 (.callg 173 [t 37,t 38]),v 11 39])
 (.seq (.seq (R [0,1,2,3,9,10,11,41] [v 40 11,o 41 (.bin .lss (t 40) (n 0))])
 (.after (.cond (t 41) (.live [0,9,10] (.exit 0)) (.skip)) [0,1,2,3,9,10,11]))
 (.seq (R [0,1,2,3,9,10,11] [v 42 9,v 43 10,v 44 0,v 45 11,v 46 2,o 47 (.bin .add (t 45) (t 46)),o 48 (.slice .str (t 44) none (some (t 47)) none),o 49 (.iaddr 1 (t 42) (t 43)),u (.store 1 (t 49) (t 48))])
 (.seq (R [0,1,2,3,9,10] [v 50 0,v 51 11,v 52 1,o 53 (.len .str (t 52)),o 54 (.bin .add (t 51) (t 53)),o 55 (.slice .str (t 50) (some (t 54)) none none),v 0 55])
 (R [0,1,2,3,9,10] [v 56 10,o 57 (.bin .add (t 56) (n 1)),v 10 57])))))) [0,1,2,3,9,10]))
def code143:AFunc:=⟨false,false,4,66,[.tmp 8],
 .seq (R [0,1,2,3] [o 8 (.val (.const (.slice none 0 (some 0))))])
 (.seq (.seq (R [0,1,2,3,13] [v 12 3,o 13 (.bin .eql (t 12) (n 0))])
 (.after (.cond (t 13) (.seq (R [8] [o 8 (.val (.const (.slice none 0 (some 0))))])
 (.live [8] (.ret))) (.skip)) [0,1,2,3]))
 (.seq (.seq (R [0,1,2,3,15] [v 14 1,o 15 (.bin .eql (t 14) (.const (.str [])))])
 (.after (.cond (t 15) (.seq (R [8] [v 16 0,v 17 3,o 18 (.nextStr F),v 8 18])
 (.live [8] (.ret))) (.skip)) [0,1,2,3]))
 (.seq (.seq (R [0,1,2,3,20] [v 19 3,o 20 (.bin .lss (t 19) (n 0))])
 (.after (.cond (t 20) (R [0,1,2,3] [v 21 0,v 22 1,o 23 (.callg 174 [t 21,t 22]),o 24 (.bin .add (t 23) (n 1)),v 3 24]) (.skip)) [0,1,2,3]))
 (.seq (R [0,1,2,3] [v 25 3,v 26 0,o 27 (.len .str (t 26)),o 28 (.bin .add (t 27) (n 1)),o 29 (.minmax false [t 25,t 28]),v 3 29])
 (.seq (R [0,1,2,3,9] [v 30 3,o 31 (.make 1 16 [.str []] (t 30) (t 30)),v 9 31])
 (.seq (R [0,1,2,3,9] [v 32 3,o 33 (.bin .sub (t 32) (n 1)),v 3 33])
 (.seq (R [0,1,2,3,9,10] [o 10 (.val (n 0))])
 (.seq (.after (.block 0 (.loop code143L0)) [0,9,10])
 (.seq (R [9,10] [v 58 9,v 59 10,v 60 0,o 61 (.iaddr 1 (t 58) (t 59)),u (.store 1 (t 61) (t 60))])
 (.seq (R [8] [v 62 9,v 63 10,o 64 (.bin .add (t 63) (n 1)),o 65 (.slice (.sl 1) (t 62) none (some (t 64)) none),v 8 65])
 (.live [8] (.ret)))))))))))),none⟩
def code144:AFunc:=⟨false,false,1,13,[.tmp 2],
 .seq (R [0] [o 2 (.val F)])
 (.seq (R [0,3] [o 3 (.val (.const (.func 146 [] [])))])
 (.seq (R [2] [v 4 0,o 5 (.bin .neq (t 4) (.const (.str []))),v 6 5,g 7 6 true (.val (t 0)),g 8 6 true (.conv .bytes (t 7)),g 9 6 true (.val (t 3)),g 10 6 true (.callg 145 [t 8,t 9]),g 11 6 true (.un .not (t 10)),o 12 (.pick (t 6) (t 11) F),v 2 12])
 (.live [2] (.ret)))),none⟩
def code145:AFunc:=⟨false,false,2,9,[.tmp 4],
 .seq (R [0,1] [o 4 (.val F)])
 (.seq (R [4] [v 5 0,v 6 1,o 7 (.callg 176 [t 5,t 6]),o 8 (.bin .geq (t 7) (n 0)),v 4 8])
 (.live [4] (.ret))),none⟩
def code146:AFunc:=⟨false,false,1,26,[.tmp 2],
 .seq (R [0] [o 2 (.val F)])
 (.seq (.after (.block 0 (.seq (.seq (R [0,3] [v 4 0,o 5 (.bin .geq (t 4) (.const (.int .u8 97))),v 6 5,g 7 6 true (.val (t 0)),g 8 6 true (.bin .leq (t 7) (.const (.int .u8 122))),o 9 (.pick (t 6) (t 8) F),v 3 9])
 (.after (.cond (t 3) (.skip) (.seq (R [0,3] [v 10 0,o 11 (.bin .geq (t 10) (.const (.int .u8 65))),v 12 11,g 13 12 true (.val (t 0)),g 14 12 true (.bin .leq (t 13) (.const (.int .u8 90))),o 15 (.pick (t 12) (t 14) F),v 3 15])
 (.after (.cond (t 3) (.skip) (.seq (R [0,3] [v 16 0,o 17 (.bin .geq (t 16) (.const (.int .u8 48))),v 18 17,g 19 18 true (.val (t 0)),g 20 18 true (.bin .leq (t 19) (.const (.int .u8 57))),o 21 (.pick (t 18) (t 20) F),v 3 21])
 (.after (.cond (t 3) (.skip) (.seq (R [0,3] [v 22 0,o 23 (.bin .eql (t 22) (.const (.int .u8 95))),v 3 23])
 (.after (.cond (t 3) (.skip) (R [3] [v 24 0,o 25 (.bin .eql (t 24) (.const (.int .u8 36))),v 3 25])) [3]))) [3]))) [3]))) [3]))
 (.after (.cond (t 3) (.seq (R [2] [o 2 (.val F)])
 (.live [2] (.ret))) (.skip)) []))) [])
 (.seq (R [2] [o 2 (.val Y)])
 (.live [2] (.ret)))),none⟩
def code171L0:ACode :=
 .live [0,1] (.seq (.seq (R [0,1,13] [v 5 0,o 6 (.len .str (t 5)),o 7 (.bin .gtr (t 6) (n 0)),v 8 7,g 9 8 true (.val (t 0)),g 10 8 true (.index (t 9) (n 0)),g 11 8 true (.val (t 1)),g 12 8 true (.bin .eql (t 10) (t 11)),o 13 (.pick (t 8) (t 12) F)])
 (.after (.cond (t 13) (.skip) (.live [0] (.exit 0))) [0,1]))
 (.after (.block 1 (R [0,1] [v 14 0,o 15 (.slice .str (t 14) (some (n 1)) none none),v 0 15])) [0,1]))
def code171:AFunc:=⟨false,false,2,17,[.tmp 4],
 .seq (R [0,1] [o 4 (.val (.const (.str [])))])
 (.seq (.after (.block 0 (.loop code171L0)) [0])
 (.seq (R [4] [v 16 0,v 4 16])
 (.live [4] (.ret)))),none⟩
def code172:AFunc:=⟨false,false,2,23,[.tmp 4,.tmp 5,.tmp 6],
 .seq (R [0,1] [o 4 (.val (.const (.str []))),o 5 (.val (.const (.str []))),o 6 (.val F)])
 (.seq (.seq (R [0,1,7] [v 8 0,v 9 1,o 10 (.callg 205 [t 8,t 9]),v 7 10])
 (.seq (R [0,1,7,12] [v 11 7,o 12 (.bin .geq (t 11) (n 0))])
 (.after (.cond (t 12) (.seq (.after (.region [⟨true,[],[v 13 0,v 14 7,o 15 (.slice .str (t 13) none (some (t 14)) none),v 16 0,v 17 7,v 18 1,o 19 (.len .str (t 18)),o 20 (.bin .add (t 17) (t 19)),o 21 (.slice .str (t 16) (some (t 20)) none none),v 4 15]⟩,⟨false,[],[v 5 21,o 6 (.val Y)]⟩]) [4,5,6])
 (.live [4,5,6] (.ret))) (.skip)) [0])))
 (.seq (R [4,5,6] [v 22 0,v 4 22,o 5 (.val (.const (.str []))),o 6 (.val F)])
 (.live [4,5,6] (.ret)))),none⟩
def code173:AFunc:=⟨false,false,2,8,[.tmp 4],
 .seq (R [0,1] [o 4 (.val (n 0))])
 (.seq (R [4] [v 5 0,v 6 1,o 7 (.callg 205 [t 5,t 6]),v 4 7])
 (.live [4] (.ret))),none⟩
def code174L0:ACode :=
 .live [0,1,5] (.after (.block 1 (.seq (R [0,1,5,6] [v 20 0,v 21 1,o 22 (.callg 173 [t 20,t 21]),v 6 22])
 (.seq (.seq (R [0,1,5,6,24] [v 23 6,o 24 (.bin .eql (t 23) (.const (.int .i64 (-1))))])
 (.after (.cond (t 24) (.seq (R [4] [v 25 5,v 4 25])
 (.live [4] (.ret))) (.skip)) [0,1,5,6]))
 (.seq (R [0,1,5,6] [v 26 5,o 27 (.bin .add (t 26) (n 1)),v 5 27])
 (R [0,1,5] [v 28 0,v 29 6,v 30 1,o 31 (.len .str (t 30)),o 32 (.bin .add (t 29) (t 31)),o 33 (.slice .str (t 28) (some (t 32)) none none),v 0 33]))))) [0,1,5])
def code174:AFunc:=⟨false,false,2,34,[.tmp 4],
 .seq (R [0,1] [o 4 (.val (n 0))])
 (.seq (.seq (R [0,1,9] [v 7 1,o 8 (.len .str (t 7)),o 9 (.bin .eql (t 8) (n 0))])
 (.after (.cond (t 9) (.seq (R [4] [v 10 0,o 11 (.nextStr F),o 12 (.bin .add (t 11) (n 1)),v 4 12])
 (.live [4] (.ret))) (.skip)) [0,1]))
 (.seq (.seq (R [0,1,15] [v 13 1,o 14 (.len .str (t 13)),o 15 (.bin .eql (t 14) (n 1))])
 (.after (.cond (t 15) (.seq (R [4] [v 16 0,v 17 1,o 18 (.index (t 17) (n 0)),o 19 (.ext (.pure (.prim .countByte)) [t 16,t 18]),v 4 19])
 (.live [4] (.ret))) (.skip)) [0,1]))
 (.seq (R [0,1,5] [o 5 (.val (n 0))])
 (.after (.block 0 (.loop code174L0)) [4])))),none⟩
def code176L0:ACode :=
 .live [0,1,7,8] (.seq (R [0,1,7,8,9] [o 9 (.bin .lss (t 8) (t 7))])
 (.seq (.after (.cond (t 9) (.skip) (.live [] (.exit 0))) [0,1,7,8])
 (.seq (.after (.block 1 (.seq (R [0,1,5,7,8] [v 10 8,v 5 10])
 (.seq (R [0,1,5,7,8,16] [v 11 1,v 12 0,v 13 5,o 14 (.iaddr 1 (t 12) (t 13)),o 15 (.load none (t 14)),o 16 (.call (t 11) [t 15])])
 (.after (.cond (t 16) (.seq (R [4] [v 17 5,v 4 17])
 (.live [4] (.ret))) (.skip)) [0,1,7,8])))) [0,1,7,8])
 (R [0,1,7,8] [o 18 (.bin .add (t 8) (n 1)),v 8 18]))))
def code176:AFunc:=⟨false,false,2,19,[.tmp 4],
 .seq (R [0,1] [o 4 (.val (n 0))])
 (.seq (.seq (R [0,1,7,8] [v 6 0,o 7 (.len .sl (t 6)),o 8 (.val (n 0))])
 (.after (.block 0 (.loop code176L0)) []))
 (.seq (R [4] [o 4 (.val (.const (.int .i64 (-1))))])
 (.live [4] (.ret)))),none⟩
def code180:AFunc:=⟨false,false,2,9,[.tmp 4],
 .seq (R [0,1] [o 4 (.val F)])
 (.seq (R [4] [v 5 0,v 6 1,o 7 (.callg 173 [t 5,t 6]),o 8 (.bin .geq (t 7) (n 0)),v 4 8])
 (.live [4] (.ret))),none⟩
def code205L0:ACode :=
 .live [0,1,5,6,7,8,9,10] (.seq (.seq (R [0,1,5,6,7,8,9,10,59] [v 57 8,v 58 9,o 59 (.bin .lss (t 57) (t 58))])
 (.after (.cond (t 59) (.skip) (.live [] (.exit 1))) [0,1,5,6,7,8,9,10]))
 (.after (.block 2 (.seq (.seq (R [0,1,5,6,7,8,9,10,64] [v 60 0,v 61 8,o 62 (.index (t 60) (t 61)),v 63 6,o 64 (.bin .neq (t 62) (t 63))])
 (.after (.cond (t 64) (.seq (R [0,1,5,6,7,8,9,10,11] [v 65 0,v 66 8,o 67 (.bin .add (t 66) (n 1)),v 68 9,o 69 (.slice .str (t 65) (some (t 67)) (some (t 68)) none),v 70 6,o 71 (.callg 226 [t 69,t 70]),v 11 71])
 (.seq (.seq (R [0,1,5,6,7,8,9,10,11,73] [v 72 11,o 73 (.bin .lss (t 72) (n 0))])
 (.after (.cond (t 73) (.seq (R [4] [o 4 (.val (.const (.int .i64 (-1))))])
 (.live [4] (.ret))) (.skip)) [0,1,5,6,7,8,9,10,11]))
 (R [0,1,5,6,7,8,9,10] [v 74 8,v 75 11,o 76 (.bin .add (t 75) (n 1)),o 77 (.bin .add (t 74) (t 76)),v 8 77]))) (.skip)) [0,1,5,6,7,8,9,10]))
 (.seq (.seq (R [0,1,5,6,7,8,9,10,93] [v 78 0,v 79 8,o 80 (.bin .add (t 79) (n 1)),o 81 (.index (t 78) (t 80)),v 82 7,o 83 (.bin .eql (t 81) (t 82)),v 84 83,g 85 84 true (.val (t 0)),g 86 84 true (.val (t 8)),g 87 84 true (.val (t 8)),g 88 84 true (.val (t 5)),g 89 84 true (.bin .add (t 87) (t 88)),g 90 84 true (.slice .str (t 85) (some (t 86)) (some (t 89)) none),g 91 84 true (.val (t 1)),g 92 84 true (.bin .eql (t 90) (t 91)),o 93 (.pick (t 84) (t 92) F)])
 (.after (.cond (t 93) (.seq (R [4] [v 94 8,v 4 94])
 (.live [4] (.ret))) (.skip)) [0,1,5,6,7,8,9,10]))
 (.seq (R [0,1,5,6,7,8,9,10] [v 95 8,o 96 (.bin .add (t 95) (n 1)),v 8 96])
 (.seq (R [0,1,5,6,7,8,9,10] [v 97 10,o 98 (.bin .add (t 97) (n 1)),v 10 98])
 (.seq (R [0,1,5,6,7,8,9,10,107] [v 99 5,o 100 (.nextStr F),o 101 (.bin .leq (t 99) (t 100)),v 102 101,g 103 102 true (.val (t 10)),g 104 102 true (.val (t 8)),g 105 102 true (.nextStr F),g 106 102 true (.bin .gtr (t 103) (t 105)),o 107 (.pick (t 102) (t 106) F)])
 (.after (.cond (t 107) (.seq (R [8,12] [v 108 0,v 109 8,o 110 (.slice .str (t 108) (some (t 109)) none none),v 111 1,o 112 (.nextStr F),v 12 112])
 (.seq (.seq (R [8,12,114] [v 113 12,o 114 (.bin .geq (t 113) (n 0))])
 (.after (.cond (t 114) (.seq (R [4] [v 115 12,v 116 8,o 117 (.bin .add (t 115) (t 116)),v 4 117])
 (.live [4] (.ret))) (.skip)) []))
 (.seq (R [4] [o 4 (.val (.const (.int .i64 (-1))))])
 (.live [4] (.ret))))) (.seq (R [0,1,5,6,7,8,9,10,132] [v 118 5,o 119 (.nextStr F),o 120 (.bin .gtr (t 118) (t 119)),v 121 120,g 122 121 true (.val (t 10)),g 123 121 true (.val (t 8)),g 124 121 true (.bin .shr (t 123) (.const (.int .u64 4))),g 125 121 true (.bin .add (n 4) (t 124)),g 126 121 true (.bin .geq (t 122) (t 125)),o 127 (.pick (t 121) (t 126) F),v 128 127,g 129 128 true (.val (t 8)),g 130 128 true (.val (t 9)),g 131 128 true (.bin .lss (t 129) (t 130)),o 132 (.pick (t 128) (t 131) F)])
 (.after (.cond (t 132) (.seq (R [8,13] [v 133 0,v 134 8,o 135 (.slice .str (t 133) (some (t 134)) none none),v 136 1,o 137 (.nextStr F),v 13 137])
 (.seq (.seq (R [8,13,139] [v 138 13,o 139 (.bin .lss (t 138) (n 0))])
 (.after (.cond (t 139) (.seq (R [4] [o 4 (.val (.const (.int .i64 (-1))))])
 (.live [4] (.ret))) (.skip)) [8,13]))
 (.seq (R [4] [v 140 8,v 141 13,o 142 (.bin .add (t 140) (t 141)),v 4 142])
 (.live [4] (.ret))))) (.skip)) [0,1,5,6,7,8,9,10]))) [0,1,5,6,7,8,9,10]))))))) [0,1,5,6,7,8,9,10]))
def code205:AFunc:=⟨false,false,2,143,[.tmp 4],
 .seq (R [0,1] [o 4 (.val (n 0))])
 (.seq (R [0,1,5] [v 14 1,o 15 (.len .str (t 14)),v 5 15])
 (.seq (.after (.block 0 (.seq (R [0,1,5,16] [v 17 5,o 18 (.bin .eql (t 17) (n 0)),v 19 18,g 20 19 false (.val (t 1)),g 21 19 false (.val (t 0)),g 22 19 false (.bin .eql (t 20) (t 21)),o 23 (.pick (t 19) Y (t 22)),v 16 23])
 (.after (.cond (t 16) (.seq (R [4] [o 4 (.val (n 0))])
 (.live [4] (.ret))) (.seq (R [0,1,5,24] [v 25 5,o 26 (.bin .eql (t 25) (n 1)),v 24 26])
 (.after (.cond (t 24) (.seq (R [4] [v 27 0,v 28 1,o 29 (.index (t 28) (n 0)),o 30 (.callg 226 [t 27,t 29]),v 4 30])
 (.live [4] (.ret))) (.seq (R [0,1,5,31] [v 32 5,v 33 0,o 34 (.len .str (t 33)),o 35 (.bin .geq (t 32) (t 34)),v 31 35])
 (.after (.cond (t 31) (.seq (R [4] [o 4 (.val (.const (.int .i64 (-1))))])
 (.live [4] (.ret))) (.seq (R [0,1,5,36] [v 37 5,o 38 (.nextStr F),o 39 (.bin .leq (t 37) (t 38)),v 40 39,g 41 40 true (.val (t 0)),g 42 40 true (.len .str (t 41)),g 43 40 true (.bin .leq (t 42) (n 64)),o 44 (.pick (t 40) (t 43) F),v 36 44])
 (.after (.cond (t 36) (.seq (R [4] [v 45 0,v 46 1,o 47 (.nextStr F),v 4 47])
 (.live [4] (.ret))) (.skip)) [0,1,5]))) [0,1,5]))) [0,1,5]))) [0,1,5]))) [0,1,5])
 (.seq (R [0,1,5,6] [v 48 1,o 49 (.index (t 48) (n 0)),v 6 49])
 (.seq (R [0,1,5,6,7] [v 50 1,o 51 (.index (t 50) (n 1)),v 7 51])
 (.seq (R [0,1,5,6,7,8] [o 8 (.val (n 0))])
 (.seq (R [0,1,5,6,7,8,9] [v 52 0,o 53 (.len .str (t 52)),v 54 5,o 55 (.bin .sub (t 53) (t 54)),o 56 (.bin .add (t 55) (n 1)),v 9 56])
 (.seq (R [0,1,5,6,7,8,9,10] [o 10 (.val (n 0))])
 (.seq (.after (.block 1 (.loop code205L0)) [])
 (.seq (R [4] [o 4 (.val (.const (.int .i64 (-1))))])
 (.live [4] (.ret))))))))))),none⟩
def code226:AFunc:=⟨false,false,2,8,[.tmp 4],
 .seq (R [0,1] [o 4 (.val (n 0))])
 (.seq (R [4] [v 5 0,v 6 1,o 7 (.ext (.pure (.prim .indexByte)) [t 5,t 6]),v 4 7])
 (.live [4] (.ret))),none⟩
def T:Nat→Option AFunc:=fun g=>List.lookup g [(25,code25),(27,code27),(30,code30),(34,code34),(38,code38),(85,code85),(86,code86),(88,code88),(89,code89),(90,code90),(91,code91),(92,code92),(137,code137),(138,code138),(139,code139),(140,code140),(141,code141),(142,code142),(143,code143),(144,code144),(145,code145),(146,code146),(171,code171),(172,code172),(173,code173),(174,code174),(176,code176),(180,code180),(205,code205),(226,code226)]
theorem t25:T 25=some code25:=rfl
theorem t27:T 27=some code27:=rfl
theorem t30:T 30=some code30:=rfl
theorem t34:T 34=some code34:=rfl
theorem t38:T 38=some code38:=rfl
theorem t85:T 85=some code85:=rfl
theorem t86:T 86=some code86:=rfl
theorem t88:T 88=some code88:=rfl
theorem t89:T 89=some code89:=rfl
theorem t90:T 90=some code90:=rfl
theorem t91:T 91=some code91:=rfl
theorem t92:T 92=some code92:=rfl
theorem t137:T 137=some code137:=rfl
theorem t138:T 138=some code138:=rfl
theorem t139:T 139=some code139:=rfl
theorem t140:T 140=some code140:=rfl
theorem t141:T 141=some code141:=rfl
theorem t142:T 142=some code142:=rfl
theorem t143:T 143=some code143:=rfl
theorem t144:T 144=some code144:=rfl
theorem t145:T 145=some code145:=rfl
theorem t146:T 146=some code146:=rfl
theorem t171:T 171=some code171:=rfl
theorem t172:T 172=some code172:=rfl
theorem t173:T 173=some code173:=rfl
theorem t174:T 174=some code174:=rfl
theorem t176:T 176=some code176:=rfl
theorem t180:T 180=some code180:=rfl
theorem t205:T 205=some code205:=rfl
theorem t226:T 226=some code226:=rfl
end Go.Abs.AbsDesc

namespace Go.Abs.AbsDesc
variable {os:List AObj} {b w:Nat}
def wordN (n:Nat):Bool:=(decide (97≤n) && decide (n≤122)) || (decide (65≤n) && decide (n≤90)) || (decide (48≤n) && decide (n≤57)) || decide (n=95) || decide (n=36)
theorem s226 {s:List UInt8} {c:Int} {h:Heap}:xCall T 226 [.str s,.int .u8 c] h=some (.int .i64 (Lib.indexByte s c.toNat.toUInt8),h):=by
 obtain ⟨os,b,w⟩:=h
 simp [d9 T t226,code226,evPrim]
theorem s205 {s:List UInt8} {c:UInt8} {h:Heap}:xCall T 205 [.str s,.str [c]] h=some (.int .i64 (Lib.indexByte s c),h):=by
 obtain ⟨os,b,w⟩:=h
 by_cases e:[c]=s
 ·subst e
  simp [d9 T t205,code205,s226,inBounds,Lib.indexByte]
 ·simp [d9 T t205,code205,s226,inBounds,e]
theorem s173 {s:List UInt8} {c:UInt8} {h:Heap}:xCall T 173 [.str s,.str [c]] h=some (.int .i64 (Lib.indexByte s c),h):=by
 obtain ⟨os,b,w⟩:=h
 simp [d9 T t173,code173,s205]
theorem s174 {s:List UInt8} {c:UInt8} {h:Heap}:xCall T 174 [.str s,.str [c]] h=some (.int .i64 (Lib.countByte s c),h):=by
 obtain ⟨os,b,w⟩:=h
 simp [d9 T t174,code174,evPrim,inBounds]
theorem s146 {n:Nat} {h:Heap}:xCall T 146 [.int .u8 n] h=some (.bool (!wordN n),h):=by
 obtain ⟨os,b,w⟩:=h
 by_cases c1:97≤n <;> by_cases c2:n≤122
 ·have d1:(97:Int)≤n:=by omega
  have d2:(n:Int)≤122:=by omega
  simp [d9 T t146,code146,wordN,c1,c2,d1,d2]
 all_goals
  by_cases c3:65≤n <;> by_cases c4:n≤90 <;> by_cases c5:48≤n <;> by_cases c6:n≤57 <;> (try (exfalso; omega)) <;> by_cases c7:n=95 <;> (try (exfalso; omega)) <;> by_cases c8:n=36 <;> (try (exfalso; omega))
  all_goals
   have e1:((97:Int)≤n)=(97≤n):=by apply propext; omega
   have e2:((n:Int)≤122)=(n≤122):=by apply propext; omega
   have e3:((65:Int)≤n)=(65≤n):=by apply propext; omega
   have e4:((n:Int)≤90)=(n≤90):=by apply propext; omega
   have e5:((48:Int)≤n)=(48≤n):=by apply propext; omega
   have e6:((n:Int)≤57)=(n≤57):=by apply propext; omega
   have e7:((n:Int)=95)=(n=95):=by apply propext; omega
   have e8:((n:Int)=36)=(n=36):=by apply propext; omega
   simp [d9 T t146,code146,wordN,e1,e2,e3,e4,e5,e6,e7,e8,c1,c2,c3,c4,c5,c6,c7,c8]
end Go.Abs.AbsDesc

namespace Go.Abs.AbsDesc
variable {os:List AObj} {b w:Nat}
def firstIx {α:Type} (p:α→Bool):List α→Nat→Int
 | [],_=>-1
 | x :: l,i=>if p x then i else firstIx p l (i+1)
theorem firstIx_ge {α:Type} (p:α→Bool):∀ (l:List α) (i:Nat),(decide (0≤firstIx p l i))=l.any p
 | [],i=>by simp [firstIx]
 | x :: l,i=>by
  simp only [firstIx,List.any_cons]
  by_cases h:p x=true
  ·simp [h]
  ·simp only [Bool.not_eq_true] at h
   simp [h,firstIx_ge p l (i+1)]
theorem firstIx_none {α:Type} (p:α→Bool):∀ (l:List α) (i:Nat),(∀ x ∈ l,p x=false)→firstIx p l i = -1
 | [],_,_=>rfl
 | x :: l,i,h=>by
  simp only [firstIx,h x (a8 ..),av,if_false]
  exact firstIx_none p l (i+1) fun y hy=>h y (bh _ hy)
theorem firstIx_at {α:Type} (p:α→Bool):∀ (l:List α) (i j:Nat) (x:α),l[j]? = some x→p x=true→(∀ k,k < j→∀ y,l[k]? = some y→p y=false)→firstIx p l i=(i+j:Nat)
 | [],i,j,x,h,_,_=>by simp at h
 | y :: l,i,0,x,h,hp,_=>by
  simp at h; subst h
  simp [firstIx,hp]
 | y :: l,i,j+1,x,h,hp,hb=>by
  have h0:=hb 0 (by omega) y rfl
  simp only [firstIx,h0,av,if_false]
  rw [firstIx_at p l (i+1) j x (by simpa using h) hp (fun k hk z hz=>hb (k+1) (by omega) z (by simpa using hz))]
  congr 1; omega
theorem loop_find {T:Nat→Option AFunc} {α:Type} {c:ACode} (p:α→Bool) (L:List α) (st:Nat→St) (out:Nat→St) (e1 e2:AExit) (fin:St)
  (hs:∀ (i:Nat) x,L[i]? = some x→xCode T c (st i)=some (if p x then (e1,out i) else (.normal,st (i+1)))) (h1:e1 ≠ .normal) (h2:e2 ≠ .normal) (hx:xCode T c (st L.length)=some (e2,fin)) :
  (L.any p=false∧xCode T (.loop c) (st 0)=some (e2,fin))∨∃ (j:Nat) (x:α),L[j]? = some x∧p x=true∧(∀ k,k < j→∀ y,L[k]? = some y→p y=false)∧xCode T (.loop c) (st 0)=some (e1,out j):=by
 rcases first_bad (fun x=>p x=false) L with h | ⟨j,x,h3,h4,h5⟩
 ·left
  refine ⟨by rw [List.any_eq_false]; exact fun x hx=>by simp [h x hx],?_⟩
  refine loop_all st L.length (fun i hi=>?_) h2 hx
  obtain ⟨x,hx⟩:∃ x,L[i]? = some x:=⟨_,ag hi⟩
  rw [hs i x hx,h x (au hx)]
  rfl
 ·right
  simp only [Bool.not_eq_false] at h4
  refine ⟨j,x,h3,h4,h5,?_⟩
  refine loop_all st j (fun i hi=>?_) h1 (by rw [hs j x h3,h4]; rfl)
  obtain ⟨y,hy⟩:∃ y,L[i]? = some y:=⟨_,ag (Nat.lt_trans hi (get_lt h3))⟩
  rw [hs i y hy,h5 i hi y hy]
  rfl
def byteCell (c:UInt8):List AVal:=[.int .u8 c.toNat]
def strCell (s:List UInt8):List AVal:=[.str s]
theorem s176 {L:List UInt8} {a:Option (Nat × Nat)} {c:Option Nat} {g:Nat} {p:UInt8→Bool} (hR:Row os 1 byteCell L a) (hn:L.length≤9223372036854775807)
  (hg:∀ (x:UInt8) (w:Nat),xCall T g [.int .u8 x.toNat] ⟨os,b,w⟩=some (.bool (p x),⟨os,b,w⟩)) :
  xCall T 176 [.slice a L.length c,.func g [] []] ⟨os,b,w⟩=some (.int .i64 (firstIx p L 0),⟨os,b,w⟩):=by
 have hl:=loop_find (T:=T) (c:=code176L0) p L (fun i=>⟨[(0,.val (.slice a L.length c)),(1,.val (.func g [] [])),(7,.val (.int .i64 L.length)),(8,.val (.int .i64 i))],⟨os,b,os.length⟩⟩)
  (fun i=>⟨[(4,.val (.int .i64 i))],⟨os,b,os.length⟩⟩) .ret (.exit 0) ⟨[],⟨os,b,os.length⟩⟩ ?_ (by simp) (by simp) (by simp [code176L0])
 ·rcases hl with ⟨h1,h2⟩ | ⟨j,x,h1,h2,h3,h4⟩
  ·rw [List.any_eq_false] at h1
   rw [firstIx_none p L 0 fun x hx=>by simpa using h1 x hx]
   simp only [bf] at h2
   simp [d9 T t176,code176,h2]
  ·rw [firstIx_at p L 0 j x h1 h2 h3]
   simp only [bf] at h4
   simp [d9 T t176,code176,h4]
 ·intro i x hx
  obtain ⟨bb,o,cs,rfl,hrow,hpart⟩:=hR.at' (ne_of_get hx)
  obtain ⟨p1,p2⟩:=hpart i x hx
  have hw:=wrap_next (get_lt hx) hn
  have hi':(i:Int) < (L.length:Int):=by have:=get_lt hx; omega
  have hge:(0:Int)≤i:=by omega
  have q3:(List.take 1 (List.drop (o+i*1) cs))[0]? = some (.int .u8 x.toNat):=by rw [p2]; rfl
  have q4:cs[o+i]? = some (.int .u8 x.toNat):=by simpa using q3
  by_cases hp:p x=true
  ·simp [code176L0,hi',hge,hrow,q4,hg,hp]
  ·simp [code176L0,hi',hge,hrow,q4,hg,hp,hw]
theorem s142 {L:List (List UInt8)} {a:Option (Nat × Nat)} {c:Option Nat} {g:Nat} {p:List UInt8→Bool} (hR:Row os 1 strCell L a) (hn:L.length≤9223372036854775807)
  (hg:∀ x ∈ L,∀ (w:Nat),xCall T g [.str x] ⟨os,b,w⟩=some (.bool (p x),⟨os,b,w⟩)) :
  xCall T 142 [.slice a L.length c,.func g [] []] ⟨os,b,w⟩=some (.int .i64 (firstIx p L 0),⟨os,b,w⟩):=by
 have hl:=loop_find (T:=T) (c:=code142L0) p L (fun i=>⟨[(0,.val (.slice a L.length c)),(1,.val (.func g [] [])),(7,.val (.int .i64 L.length)),(8,.val (.int .i64 i))],⟨os,b,os.length⟩⟩)
  (fun i=>⟨[(4,.val (.int .i64 i))],⟨os,b,os.length⟩⟩) .ret (.exit 0) ⟨[],⟨os,b,os.length⟩⟩ ?_ (by simp) (by simp) (by simp [code142L0])
 ·rcases hl with ⟨h1,h2⟩ | ⟨j,x,h1,h2,h3,h4⟩
  ·rw [List.any_eq_false] at h1
   rw [firstIx_none p L 0 fun x hx=>by simpa using h1 x hx]
   simp only [bf] at h2
   simp [d9 T t142,code142,h2]
  ·rw [firstIx_at p L 0 j x h1 h2 h3]
   simp only [bf] at h4
   simp [d9 T t142,code142,h4]
 ·intro i x hx
  obtain ⟨bb,o,cs,rfl,hrow,hpart⟩:=hR.at' (ne_of_get hx)
  obtain ⟨p1,p2⟩:=hpart i x hx
  have hw:=wrap_next (get_lt hx) hn
  have hi':(i:Int) < (L.length:Int):=by have:=get_lt hx; omega
  have hge:(0:Int)≤i:=by omega
  have q3:(List.take 1 (List.drop (o+i*1) cs))[0]? = some (.str x):=by rw [p2]; rfl
  have q4:cs[o+i]? = some (.str x):=by simpa using q3
  have hgx:=hg x (au hx)
  by_cases hp:p x=true
  ·simp [code142L0,hi',hge,hrow,q4,hgx,hp]
  ·simp [code142L0,hi',hge,hrow,q4,hgx,hp,hw]
theorem s145 {L:List UInt8} {a:Option (Nat × Nat)} {c:Option Nat} {g:Nat} {p:UInt8→Bool} (hR:Row os 1 byteCell L a) (hn:L.length≤9223372036854775807)
  (hg:∀ (x:UInt8) (w:Nat),xCall T g [.int .u8 x.toNat] ⟨os,b,w⟩=some (.bool (p x),⟨os,b,w⟩)) :
  xCall T 145 [.slice a L.length c,.func g [] []] ⟨os,b,w⟩=some (.bool (L.any p),⟨os,b,w⟩):=by
 have h:=s176 (w:=os.length) (c:=c) hR hn hg
 have h2:=firstIx_ge p L 0
 simp [d9 T t145,code145,h,h2]
theorem s91 {L:List (List UInt8)} {a:Option (Nat × Nat)} {c:Option Nat} {g:Nat} {p:List UInt8→Bool} (hR:Row os 1 strCell L a) (hn:L.length≤9223372036854775807)
  (hg:∀ x ∈ L,∀ (w:Nat),xCall T g [.str x] ⟨os,b,w⟩=some (.bool (p x),⟨os,b,w⟩)) :
  xCall T 91 [.slice a L.length c,.func g [] []] ⟨os,b,w⟩=some (.bool (L.any p),⟨os,b,w⟩):=by
 have h:=s142 (w:=os.length) (c:=c) hR hn hg
 have h2:=firstIx_ge p L 0
 simp [d9 T t91,code91,h,h2]
theorem flat_bytes:∀ s:List UInt8,(s.map fun c=>AVal.int .u8 c.toNat)=s.flatMap byteCell
 | []=>rfl
 | c :: s=>by
  rw [bo,bu,flat_bytes s]
  rfl
def wordL (s:List UInt8):Bool:=!s.isEmpty && s.all fun c=>wordN c.toNat
theorem any_not {α:Type} (p:α→Bool):∀ l:List α,(l.any fun x=>!p x) = !l.all p
 | []=>rfl
 | x :: l=>by rw [List.any_cons,eo,any_not p l,Bool.not_and]
theorem s144 {s:List UInt8} (hn:s.length≤9223372036854775807):xCall T 144 [.str s] ⟨os,b,w⟩=some (.bool (wordL s),⟨os,b,w⟩):=by
 have h:=fun w=>s145 (os:=os++[.cells 1 (s.map fun c=>AVal.int .u8 c.toNat)]) (b:=b) (w:=w) (L:=s) (a:=some (os.length,0)) (c:=none) (g:=146) (p:=fun x=>!wordN x.toNat)
  (Row.mk0 (fun _=>rfl) (by rw [← flat_bytes]; simp)) hn (fun x w=>s146)
 by_cases e:s=[]
 ·subst e
  simp [d9 T t144,code144,wordL]
 ·have he:s.isEmpty=false:=by cases s <;> simp_all
  simp [d9 T t144,code144,wordL,h,e,he,any_not,hn]
theorem s92 {s:List UInt8} (hn:s.length≤9223372036854775807):xCall T 92 [.str s] ⟨os,b,w⟩=some (.bool (!wordL s),⟨os,b,w⟩):=by
 have h:=fun w=>s144 (os:=os) (b:=b) (w:=w) hn
 simp [d9 T t92,code92,h]
end Go.Abs.AbsDesc

namespace Go.Abs.AbsDesc
variable {os:List AObj} {b w:Nat}
def parts (c:UInt8):List UInt8→List (List UInt8)
 | []=>[[]]
 | x :: r=>if x == c then [] :: parts c r else match parts c r with
  | p :: ps=>(x :: p) :: ps
  | []=>[[x]]
theorem parts_ne (c:UInt8):∀ s,parts c s≠[]
 | []=>by simp [parts]
 | x :: r=>by
  simp only [parts]
  split
  ·simp
  ·split <;> simp
theorem parts_length (c:UInt8):∀ s,(parts c s).length=Lib.countByte s c+1
 | []=>rfl
 | x :: r=>by
  have ih:=parts_length c r
  simp only [parts,Lib.countByte,List.count_cons] at ih ⊢
  split
  ·rw [az,ih]
  ·split
   ·rename_i p ps hp
    rw [hp] at ih
    simpa using ih
   ·rename_i hp
    exact absurd hp (parts_ne c r)
theorem parts_none {c:UInt8}:∀ {s:List UInt8},Lib.indexByte s c < 0→parts c s=[s]
 | [],_=>rfl
 | x :: r,h=>by
  unfold Lib.indexByte at h
  simp only [parts]
  split at h
  ·omega
  ·rename_i hx
   rw [if_neg hx]
   have:Lib.indexByte r c < 0:=by
    split at h
    ·rename_i e; simp at e; omega
    ·have:=Lib.indexByte_ge r c; rename_i e; simp at e; omega
   rw [parts_none this]
theorem parts_some {c:UInt8}:∀ {s:List UInt8} {k:Nat},Lib.indexByte s c=k→k < s.length∧parts c s=s.take k :: parts c (s.drop (k+1))
 | [],k,h=>by simp [Lib.indexByte] at h
 | x :: r,k,h=>by
  unfold Lib.indexByte at h
  simp only [parts]
  split at h
  ·rename_i hx
   have:k=0:=by omega
   subst this
   rw [if_pos hx]
   simp
  ·rename_i hx
   rw [if_neg hx]
   have hge:=Lib.indexByte_ge r c
   split at h
   ·omega
   ·cases k with
    | zero=>rename_i e; simp at e; omega
    | succ k =>
     obtain ⟨h1,h2⟩:=parts_some (s:=r) (k:=k) (c:=c) (by omega)
     rw [h2]
     simp [h1]
def rest (c:UInt8) (s:List UInt8):Nat→List UInt8
 | 0=>s
 | i+1=>(rest c s i).drop ((Lib.indexByte (rest c s i) c).toNat+1)
theorem rest_parts {c:UInt8} {s:List UInt8}:∀ i,i < (parts c s).length→parts c (rest c s i)=(parts c s).drop i∧(rest c s i).length≤s.length
 | 0,_=>⟨rfl,ak _⟩
 | i+1,hi=>by
  obtain ⟨h1,h2⟩:=rest_parts (c:=c) (s:=s) i (by omega)
  rcases (show Lib.indexByte (rest c s i) c < 0∨0≤Lib.indexByte (rest c s i) c by omega) with h | h
  ·rw [parts_none h] at h1
   have:=congrArg List.length h1
   simp at this
   omega
  ·obtain ⟨k,hk⟩:=gu h
   obtain ⟨h3,h4⟩:=parts_some hk
   rw [h4] at h1
   have h5:=congrArg List.tail h1
   simp only [List.tail_cons,List.tail_drop] at h5
   refine ⟨?_,?_⟩
   ·simp only [rest,hk,Int.toNat_natCast]
    exact h5
   ·simp only [rest,kj]; omega
theorem rest_next {c:UInt8} {s:List UInt8} {i:Nat} (hi:i+1 < (parts c s).length):∃ k:Nat,Lib.indexByte (rest c s i) c=k∧k < (rest c s i).length∧(parts c s)[i]? = some ((rest c s i).take k)∧rest c s (i+1)=(rest c s i).drop (k+1):=by
 obtain ⟨h1,h2⟩:=rest_parts (c:=c) (s:=s) i (by omega)
 rcases (show Lib.indexByte (rest c s i) c < 0∨0≤Lib.indexByte (rest c s i) c by omega) with h | h
 ·rw [parts_none h] at h1
  have:=congrArg List.length h1
  simp at this
  omega
 ·obtain ⟨k,hk⟩:=gu h
  obtain ⟨h3,h4⟩:=parts_some hk
  rw [h4] at h1
  refine ⟨k,hk,h3,?_,by simp [rest,hk]⟩
  have:=congrArg (fun l=>l[0]?) h1
  simp only [bp,dz,ef] at this
  exact this.symm
theorem rest_last {c:UInt8} {s:List UInt8} {i:Nat} (hi:i+1=(parts c s).length):(parts c s)[i]? = some (rest c s i):=by
 obtain ⟨h1,h2⟩:=rest_parts (c:=c) (s:=s) i (by omega)
 rcases (show Lib.indexByte (rest c s i) c < 0∨0≤Lib.indexByte (rest c s i) c by omega) with h | h
 ·rw [parts_none h] at h1
  have:=congrArg (fun l=>l[0]?) h1
  simp only [bp,dz,ef] at this
  exact this.symm
 ·obtain ⟨k,hk⟩:=gu h
  obtain ⟨h3,h4⟩:=parts_some hk
  rw [h4] at h1
  have hlen:=congrArg List.length h1
  have hpos:0 < (parts c ((rest c s i).drop (k+1))).length:=List.length_pos_iff.2 (parts_ne c _)
  simp only [az,kj] at hlen
  omega
end Go.Abs.AbsDesc

namespace Go.Abs.AbsDesc
variable {os:List AObj} {b w:Nat}
def mem (L:List (List UInt8)) (i:Nat):List AVal:=(L.take i).map AVal.str++List.replicate (L.length - i) (.str [])
theorem mem_len {L:List (List UInt8)} {i:Nat} (h:i≤L.length):(mem L i).length=L.length:=by
 simp [mem]; omega
theorem mem_set {L:List (List UInt8)} {i:Nat} {x:List UInt8} (h:L[i]? = some x):splice (mem L i) i [.str x]=mem L (i+1):=by
 have hi:=aj h
 have h1:((L.take i).map AVal.str).length=i:=by simp; omega
 have h2:L.length - i=(L.length - (i+1))+1:=by omega
 unfold splice mem
 rw [List.take_left' h1,h2,j8,List.drop_append,h1]
 rw [bq (by rw [h1]; simp),List.take_add_one,h]
 simp
theorem mem_all (L:List (List UInt8)):mem L L.length=L.map AVal.str:=by simp [mem]
theorem mem_zero (n:Nat) (L:List (List UInt8)) (h:L.length=n):rep n [.str []]=mem L 0:=by
 subst h
 have:∀ n:Nat,(List.replicate n [AVal.str []]).flatten=List.replicate n (.str []):=by
  intro n
  induction n with
  | zero=>rfl
  | succ n ih=>rw [j8,jx,ih]; rfl
 unfold rep mem
 rw [this]
 simp
theorem count_le (c:UInt8) (s:List UInt8):Lib.countByte s c≤s.length:=List.count_le_length
theorem split_loop {s:List UInt8} {c:UInt8} (hn:s.length≤1000000) (hb:b≤os.length) :
  xCode T (.loop code143L0) ⟨[(0,.val (.str s)),(1,.val (.str [c])),(2,.val (.int .i64 0)),(3,.val (.int .i64 (Lib.countByte s c))),(9,.val (.slice (some (os.length,0)) (Lib.countByte s c+1) (some (Lib.countByte s c+1)))),(10,.val (.int .i64 (0:Nat)))],⟨os++[.cells 1 (mem (parts c s) 0)],b,os.length⟩⟩ =
   some (.exit 0,⟨[(0,.val (.str (rest c s (Lib.countByte s c)))),(9,.val (.slice (some (os.length,0)) (Lib.countByte s c+1) (some (Lib.countByte s c+1)))),(10,.val (.int .i64 (Lib.countByte s c)))],⟨os++[.cells 1 (mem (parts c s) (Lib.countByte s c))],b,os.length⟩⟩):=by
 have hlen:=parts_length c s
 have hcnt:=count_le c s
 refine loop_all (e:=.exit 0) (fun i=>⟨[(0,.val (.str (rest c s i))),(1,.val (.str [c])),(2,.val (.int .i64 0)),(3,.val (.int .i64 (Lib.countByte s c))),(9,.val (.slice (some (os.length,0)) (Lib.countByte s c+1) (some (Lib.countByte s c+1)))),(10,.val (.int .i64 i))],⟨os++[.cells 1 (mem (parts c s) i)],b,os.length⟩⟩) (Lib.countByte s c) ?_ (by simp) ?_
 ·intro i hi
  obtain ⟨k,h1,h2,h3,h4⟩:=rest_next (c:=c) (s:=s) (i:=i) (by omega)
  have hrl:=(rest_parts (c:=c) (s:=s) i (by omega)).2
  have hm:=mem_set h3
  have hml:=mem_len (L:=parts c s) (i:=i) (by omega)
  have hi':(i:Int) < (Lib.countByte s c:Int):=by omega
  have hge:(0:Int)≤i:=by omega
  have hk0:¬ ((k:Int) < 0):=by omega
  have hk1:(k:Int)≤((rest c s i).length:Int):=by omega
  have hk2:IntKind.i64.wrap ((k:Int)+0)=(k:Int):=by rw [wrap64 (by omega) (by omega)]; omega
  have hk3:IntKind.i64.wrap ((k:Int)+1)=((k+1:Nat):Int):=by rw [wrap64 (by omega) (by omega)]; omega
  have hk3':IntKind.i64.wrap ((k:Int))=(k:Int):=by rw [wrap64 (by omega) (by omega)]
  have hw:=wrap_next (i:=i) (n:=Lib.countByte s c) hi (by omega)
  have hi1:(i:Int) < (Lib.countByte s c:Int)+1:=by omega
  have hil:i+1≤(parts c s).length:=by omega
  have hk4:(k:Int)+1≤((rest c s i).length:Int):=by omega
  have hk5:(0:Int)≤(k:Int)+1:=by omega
  have htk:List.take ((rest c s i).length - (k+1)) (List.drop (k+1) (rest c s i))=List.drop (k+1) (rest c s i):=dx (by simp)
  have hm':List.take i (mem (parts c s) i)++AVal.str (List.take k (rest c s i)) :: List.drop (i+1) (mem (parts c s) i)=mem (parts c s) (i+1):=by simpa [splice] using hm
  simp only [h4]
  simp [code143L0,hi',hge,s173,h1,hk0,hk1,hk2,hk3,hk3',hw,hi1,hb,hil,hml,hm',hk4,hk5,htk]
  done
 ·simp [code143L0]
end Go.Abs.AbsDesc

namespace Go.Abs.AbsDesc
variable {os:List AObj} {b w:Nat}
theorem ids_strs:∀ L:List (List UInt8),AVal.idsL (L.map AVal.str)=[]
 | []=>rfl
 | x :: L=>by
  rw [bo]
  simp only [AVal.idsL,AVal.ids,ids_strs L]
  rfl
theorem ren_strs (f:Nat→Nat):∀ L:List (List UInt8),AVal.renL f (L.map AVal.str)=L.map AVal.str
 | []=>rfl
 | x :: L=>by
  rw [bo]
  simp only [AVal.renL,AVal.ren,ren_strs f L]
theorem s143 {s:List UInt8} {c:UInt8} (hn:s.length≤1000000) (hb:b≤os.length) :
  xCall T 143 [.str s,.str [c],.int .i64 0,.int .i64 (-1)] ⟨os,b,w⟩ =
   some (.slice (some (os.length,0)) (parts c s).length (some (parts c s).length),⟨os++[.cells 1 ((parts c s).map AVal.str)],b,w⟩):=by
 have hlen:=parts_length c s
 have hcnt:=count_le c s
 have hl:=split_loop (os:=os) (c:=c) hn hb
 have hz:=mem_zero (Lib.countByte s c+1) (parts c s) hlen
 have hlast:=mem_set (rest_last (c:=c) (s:=s) (i:=Lib.countByte s c) hlen.symm)
 rw [← hlen,mem_all] at hlast
 have hml:=mem_len (L:=parts c s) (i:=Lib.countByte s c) (by omega)
 have hlast':List.take (Lib.countByte s c) (mem (parts c s) (Lib.countByte s c))++AVal.str (rest c s (Lib.countByte s c)) :: List.drop (Lib.countByte s c+1) (mem (parts c s) (Lib.countByte s c))=(parts c s).map AVal.str:=by simpa [splice] using hlast
 have h174:=fun h=>s174 (s:=s) (c:=c) (h:=h)
 rw [hlen]
 generalize Lib.countByte s c=n at *
 have hw1:IntKind.i64.wrap ((n:Int)+1)=((n+1:Nat):Int):=by rw [wrap64 (by omega) (by omega)]; omega
 have hw2:IntKind.i64.wrap ((s.length:Int)+1)=((s.length+1:Nat):Int):=by rw [wrap64 (by omega) (by omega)]; omega
 have hw3:IntKind.i64.wrap (((n:Int)+1) - 1)=(n:Int):=by rw [wrap64 (by omega) (by omega)]; omega
 have hw4:IntKind.i64.wrap (n:Int)=(n:Int):=by rw [wrap64 (by omega) (by omega)]
 have hle:(n:Int)+1≤(s.length:Int)+1:=by omega
 have hnlt:¬ ((s.length:Int)+1 < (n:Int)+1):=by omega
 have g1:(0:Int)≤(n:Int)+1:=by omega
 have g2:((n:Int)+1)*16≤140737488355328:=by omega
 have g3:(n:Int)+1≤9223372036854775807:=by omega
 have g4:((n:Int)+1).toNat=n+1:=by omega
 have g5:(n:Int) < (n:Int)+1:=by omega
 have g6:n+1≤(parts c s).length:=by omega
 have hz':List.replicate (n+1) (AVal.str [])=mem (parts c s) 0:=by simpa [rep] using hz
 simp only [bf] at hl
 simp [d9 T t143,code143,h174,hw1,hw2,hw3,hw4,hle,hnlt,g1,g2,g3,g4,g5,g6,hz',hl,hml,hlast',hb,jr,reach_done,ids_strs,ren_strs]
 done
theorem s90 {s:List UInt8} {c:UInt8} (hn:s.length≤1000000) (hb:b≤os.length) :
  xCall T 90 [.str s,.str [c]] ⟨os,b,w⟩=some (.slice (some (os.length,0)) (parts c s).length (some (parts c s).length),⟨os++[.cells 1 ((parts c s).map AVal.str)],b,w⟩):=by
 have h:=s143 (w:=os.length) (c:=c) hn hb
 simp [d9 T t90,code90,h,jr,reach_done,ids_strs,ren_strs]
theorem parts_le {c:UInt8}:∀ {s:List UInt8},∀ x ∈ parts c s,x.length≤s.length
 | [],x,h=>by simp [parts] at h; simp [h]
 | y :: r,x,h=>by
  have ih:=fun z hz=>parts_le (c:=c) (s:=r) z hz
  simp only [parts] at h
  split at h
  ·rcases cr.1 h with rfl | h
   ·simp
   ·have:=ih x h; simp; omega
  ·split at h
   ·rename_i p ps hp
    rw [hp] at ih
    rcases cr.1 h with rfl | h
    ·have:=ih p (a8 ..); simp; exact this
    ·have:=ih x (bh _ h); simp; omega
   ·simp at h; simp [h]
def isClass (s:List UInt8):Bool:=decide (s.length≤64) && (parts 47 s).all wordL
theorem flat_strs:∀ L:List (List UInt8),L.map AVal.str=L.flatMap strCell
 | []=>rfl
 | c :: s=>by
  rw [bo,bu,flat_strs s]
  rfl
theorem s25 {s:List UInt8} (hb:b≤os.length):xCall T 25 [.str s] ⟨os,b,w⟩=some (.bool (isClass s),⟨os,b,w⟩):=by
 by_cases h64:s.length≤64
 ·have h1:=s90 (os:=os) (b:=b) (w:=os.length) (s:=s) (c:=47) (by omega) hb
  have hlen:=parts_length 47 s
  have hcnt:=count_le 47 s
  have hall:=fun x hx=>parts_le (c:=47) (s:=s) x hx
  have h2:=s91 (os:=os++[.cells 1 ((parts 47 s).map AVal.str)]) (b:=b) (w:=os.length) (L:=parts 47 s) (a:=some (os.length,0)) (c:=some (parts 47 s).length) (g:=92) (p:=fun x=>!wordL x)
   (Row.mk0 (fun _=>rfl) (by rw [← flat_strs]; simp)) (by omega) (fun x hx w=>s92 (by have:=hall x hx; omega))
  have h64':(s.length:Int)≤64:=by omega
  simp [d9 T t25,code25,isClass,h64,h64',h1,h2,any_not]
 ·have h64':¬ ((s.length:Int)≤64):=by omega
  simp [d9 T t25,code25,isClass,h64,h64']
end Go.Abs.AbsDesc

namespace Go.Abs.AbsDesc
end Go.Abs.AbsDesc

namespace Go.Abs.AbsDesc
variable {os:List AObj} {b w:Nat}
end Go.Abs.AbsDesc

namespace Go.Abs.AbsDesc
variable {os:List AObj} {b w:Nat}
def begins (c:UInt8):List UInt8→Bool
 | []=>false
 | x :: _=>decide (x=c)
theorem s140 {s:List UInt8} {c:UInt8}:xCall T 140 [.str s,.str [c]] ⟨os,b,w⟩=some (.bool (begins c s),⟨os,b,w⟩):=by
 cases s with
 | nil=>simp [d9 T t140,code140,begins]
 | cons x r =>
  have h1:(1:Int)≤(r.length:Int)+1:=by omega
  simp [d9 T t140,code140,begins,h1]
theorem s88 {s:List UInt8} {c:UInt8}:xCall T 88 [.str s,.str [c]] ⟨os,b,w⟩=some (.bool (begins c s),⟨os,b,w⟩):=by
 have h:=s140 (os:=os) (b:=b) (w:=os.length) (s:=s) (c:=c)
 simp [d9 T t88,code88,h]
theorem s137 {s:List UInt8} {c:UInt8} (hn:s.length≤9223372036854775807):xCall T 137 [.str s,.str [c]] ⟨os,b,w⟩=some (.tuple [.str (if begins c s then s.tail else s),.bool (begins c s)],⟨os,b,w⟩):=by
 have h:=s140 (os:=os) (b:=b) (w:=os.length) (s:=s) (c:=c)
 cases s with
 | nil=>simp [d9 T t137,code137,begins] at h ⊢; simp [h]
 | cons x r =>
  by_cases e:x=c
  ·have h1:(1:Int)≤(r.length:Int)+1:=by omega
   simp [d9 T t137,code137,begins,e,h1] at h ⊢
   simp [h,h1]
  ·simp [d9 T t137,code137,begins,e] at h ⊢
   simp [h]
theorem s85 {s:List UInt8} {c:UInt8} (hn:s.length≤9223372036854775807):xCall T 85 [.str s,.str [c]] ⟨os,b,w⟩=some (.tuple [.str (if begins c s then s.tail else s),.bool (begins c s)],⟨os,b,w⟩):=by
 have h:=s137 (os:=os) (b:=b) (w:=os.length) (c:=c) hn
 simp [d9 T t85,code85,h]
end Go.Abs.AbsDesc

namespace Go.Abs.AbsDesc
variable {os:List AObj} {b w:Nat}
end Go.Abs.AbsDesc

namespace Go.Abs.AbsDesc
variable {os:List AObj} {b w:Nat}
theorem u8_eq (x:UInt8) (n:Nat) (hn:n < 256):((x.toNat:Int)=(n:Int))=(x=UInt8.ofNat n):=by
 apply propext
 constructor
 ·intro h
  apply UInt8.toNat_inj.1
  have e:(UInt8.ofNat n).toNat=n:=by simp; omega
  omega
 ·intro h
  subst h
  have e:(UInt8.ofNat n).toNat=n:=by simp; omega
  omega
def isRef (s:List UInt8):Bool:=begins 76 s || begins 91 s
theorem s30 {s:List UInt8}:xCall T 30 [.str s] ⟨os,b,w⟩=some (.bool (isRef s),⟨os,b,w⟩):=by
 have h1:=s88 (os:=os) (b:=b) (w:=os.length) (s:=s) (c:=76)
 have h2:=s88 (os:=os) (b:=b) (w:=os.length) (s:=s) (c:=91)
 by_cases e:begins 76 s=true
 ·simp [d9 T t30,code30,h1,h2,isRef,e]
 ·simp [d9 T t30,code30,h1,h2,isRef,e]
end Go.Abs.AbsDesc

namespace Go.Abs.AbsDesc
variable {os:List AObj} {b w:Nat}
def ends (c:UInt8) (s:List UInt8):Bool:=decide (1≤s.length) && decide (s.drop (s.length - 1)=[c])
theorem s141 {s:List UInt8} {c:UInt8} (hn:s.length≤9223372036854775807):xCall T 141 [.str s,.str [c]] ⟨os,b,w⟩=some (.bool (ends c s),⟨os,b,w⟩):=by
 by_cases h:1≤s.length
 ·have h1:(1:Int)≤(s.length:Int):=by omega
  have h2:IntKind.i64.wrap ((s.length:Int) - 1)=((s.length - 1:Nat):Int):=by rw [wrap64 (by omega) (by omega)]; omega
  have h3:((s.length - 1:Nat):Int)≤(s.length:Int):=by omega
  have h4:List.take (s.length - (s.length - 1)) (s.drop (s.length - 1))=s.drop (s.length - 1):=dx (by simp)
  simp [d9 T t141,code141,ends,h,h1,h2,h3,h4]
 ·have h1:¬ ((1:Int)≤(s.length:Int)):=by omega
  simp [d9 T t141,code141,ends,h,h1]
theorem s89 {s:List UInt8} {c:UInt8} (hn:s.length≤9223372036854775807):xCall T 89 [.str s,.str [c]] ⟨os,b,w⟩=some (.bool (ends c s),⟨os,b,w⟩):=by
 have h:=s141 (os:=os) (b:=b) (w:=os.length) (c:=c) hn
 simp [d9 T t89,code89,h]
end Go.Abs.AbsDesc

namespace Go.Abs.AbsDesc
variable {os:List AObj} {b w:Nat}
def isObj (s:List UInt8):Bool:=decide (2≤s.length) && begins 76 s && ends 59 s
def classV (s:List UInt8):AVal:=if isObj s then .tuple [.str ((s.drop 1).take (s.length - 2)),.bool true] else .tuple [.str [],.bool false]
theorem s34 {s:List UInt8} (hn:s.length≤9223372036854775807):xCall T 34 [.str s] ⟨os,b,w⟩=some (classV s,⟨os,b,w⟩):=by
 have h1:=s88 (os:=os) (b:=b) (w:=os.length) (s:=s) (c:=76)
 have h2:=s89 (os:=os) (b:=b) (w:=os.length) (c:=59) hn
 by_cases h:2≤s.length
 ·have c1:¬ ((s.length:Int) < 2):=by omega
  have c2:IntKind.i64.wrap ((s.length:Int) - 1)=((s.length - 1:Nat):Int):=by rw [wrap64 (by omega) (by omega)]; omega
  have c3:((s.length - 1:Nat):Int)≤(s.length:Int):=by omega
  have c4:(1:Int)≤((s.length - 1:Nat):Int):=by omega
  have c5:s.length - 1 - 1=s.length - 2:=by omega
  by_cases e1:begins 76 s=true <;> by_cases e2:ends 59 s=true
  all_goals simp [d9 T t34,code34,classV,isObj,h,c1,c2,c3,c4,c5,h1,h2,e1,e2]
 ·have c1:(s.length:Int) < 2:=by omega
  simp [d9 T t34,code34,classV,isObj,h,c1]
end Go.Abs.AbsDesc

namespace Go.Abs.AbsDesc
variable {os:List AObj} {b w:Nat}
end Go.Abs.AbsDesc

namespace Go.Abs.AbsDesc
def bare (s:List UInt8):List UInt8:=s.dropWhile (· == 91)
def dims (s:List UInt8):Nat:=s.length - (bare s).length
theorem bare_len (s:List UInt8):(bare s).length≤s.length:=by
 unfold bare
 induction s with
 | nil=>simp
 | cons x r ih =>
  rw [List.dropWhile_cons]
  split
  ·simp; omega
  ·simp
theorem bare_split:∀ s:List UInt8,s=List.replicate (dims s) 91++bare s
 | []=>rfl
 | x :: r=>by
  have ih:=bare_split r
  have hl:=bare_len r
  unfold dims bare at *
  rw [List.dropWhile_cons]
  split
  ·rename_i h
   have:x=91:=by simpa using h
   subst this
   have e:(91 :: r).length - (List.dropWhile (· == 91) r).length=(r.length - (List.dropWhile (· == 91) r).length)+1:=by simp only [az]; omega
   rw [e,j8,db,← ih]
  ·simp
def nameL (r:List UInt8):Option Nat:=if 0≤Lib.indexByte r 59 then (if isClass (r.take (Lib.indexByte r 59).toNat) then some (Lib.indexByte r 59).toNat else none) else none
def cutN (s:List UInt8):Nat:=match bare s with
 | []=>0
 | c :: r=>if 8 < dims s then 0
  else if c=73∨(c=74∧dims s=0)∨(c=66∧0 < dims s) then dims s+1
  else if c=76 then (match nameL r with | some k=>dims s+k+2 | none=>0) else 0
theorem ib_take {c:UInt8}:∀ {r:List UInt8} {k:Nat},Lib.indexByte r c=k→k < r.length∧r.take k++c :: r.drop (k+1)=r∧c ∉ r.take k
 | [],k,h=>by simp [Lib.indexByte] at h
 | x :: r,k,h=>by
  unfold Lib.indexByte at h
  split at h
  ·rename_i hx
   have hx:x=c:=by simpa using hx
   have:k=0:=by omega
   subst this; subst hx
   simp
  ·rename_i hx
   have hx:¬ x=c:=by simpa using hx
   have hge:=Lib.indexByte_ge r c
   split at h
   ·omega
   ·cases k with
    | zero=>rename_i e; simp at e; omega
    | succ k =>
     obtain ⟨h1,h2,h3⟩:=ib_take (r:=r) (k:=k) (c:=c) (by omega)
     refine ⟨by simp; omega,by simpa using h2,?_⟩
     simp only [List.take_succ_cons,cr,not_or]
     exact ⟨fun e=>hx e.symm,h3⟩
theorem nameL_some {r:List UInt8} {k:Nat} (h:nameL r=some k):k < r.length∧r=r.take k++59 :: r.drop (k+1)∧isClass (r.take k)=true:=by
 unfold nameL at h
 split at h
 ·rename_i h0
  obtain ⟨j,hj⟩:=gu h0
  rw [hj] at h
  simp only [Int.toNat_natCast] at h
  split at h
  ·rename_i hc
   cases h
   obtain ⟨h1,h2,_⟩:=ib_take hj
   exact ⟨h1,h2.symm,hc⟩
  ·cases h
 ·cases h
theorem cutN_le (s:List UInt8):cutN s≤s.length:=by
 have hb:=bare_split s
 have hl:=congrArg List.length hb
 simp only [bc,List.length_replicate] at hl
 unfold cutN
 cases hbs:bare s with
 | nil=>simp
 | cons c r =>
  rw [hbs] at hl
  simp only [az] at hl
  simp only
  split
  ·omega
  ·split
   ·omega
   ·split
    ·cases hn:nameL r with
     | none=>simp
     | some k=>have:=(nameL_some hn).1; simp only; omega
    ·omega
inductive Ty:List UInt8→Prop
 | one (n:Nat) (c:UInt8) (h:n≤8) (hc:c=73∨(c=74∧n=0)∨(c=66∧0 < n)):Ty (List.replicate n 91++[c])
 | obj (n:Nat) (a:List UInt8) (h:n≤8) (ha:isClass a=true):Ty (List.replicate n 91++76 :: (a++[59]))
def isTy (s:List UInt8):Bool:=decide (s≠[]) && decide (cutN s=s.length)
end Go.Abs.AbsDesc

namespace Go.Abs.AbsDesc
variable {os:List AObj} {b w:Nat} {β:Type}
section
attribute [-simp] getElem?_pos getElem?_neg
theorem l171 {h:Heap} (k:AExit→St→Option β):∀ s:List UInt8,xK T (.loop code171L0) ⟨[(0,.val (.str s)),(1,.val (.int .u8 91))],h⟩ (k:=⟨k⟩)=k (.exit 0) ⟨[(0,.val (.str (bare s)))],h⟩
 | []=>by
  rw [bl]
  simp [code171L0,bare]
 | x :: r=>by
  have ih:=l171 (h:=h) k r
  have e:((x.toNat:Int)=91)=(x=91):=u8_eq x 91 (by omega)
  rw [bl]
  generalize ACode.loop code171L0=L at ih ⊢
  by_cases c:x=91
  ·simp (disch:=omega) [code171L0,iltT,ileT,nltT,e,c,ih,bare,List.dropWhile_cons,bp]
  ·simp (disch:=omega) [code171L0,iltT,ileT,nltT,e,c,bare,List.dropWhile_cons,bp]
end
theorem s171 {s:List UInt8}:xCall T 171 [.str s,.int .u8 91] ⟨os,b,w⟩=some (.str (bare s),⟨os,b,w⟩):=by
 simp [cd t171,code171,l171]
theorem s139 {s:List UInt8}:xCall T 139 [.str s,.str [91]] ⟨os,b,w⟩=some (.str (bare s),⟨os,b,w⟩):=by
 by_cases h:s=[]
 ·subst h
  simp [cd t139,code139,bare]
 ·simp [cd t139,code139,h,s171]
def cutV (c:UInt8) (s:List UInt8):AVal:=if 0≤Lib.indexByte s c then .tuple [.str (s.take (Lib.indexByte s c).toNat),.str (s.drop ((Lib.indexByte s c).toNat+1)),.bool true] else .tuple [.str s,.str [],.bool false]
theorem s172 {s:List UInt8} {c:UInt8} (hn:s.length≤9223372036854775807):xCall T 172 [.str s,.str [c]] ⟨os,b,w⟩=some (cutV c s,⟨os,b,w⟩):=by
 have h5:=fun h=>s205 (s:=s) (c:=c) (h:=h)
 by_cases h:0≤Lib.indexByte s c
 ·obtain ⟨k,hk⟩:=gu h
  obtain ⟨k1,_⟩:=ib_take hk
  have e3:((k:Int)+1).toNat=k+1:=by omega
  have hv:cutV c s = .tuple [.str (s.take k),.str (s.drop (k+1)),.bool true]:=by
   unfold cutV; rw [hk,if_pos (by omega)]; rfl
  rw [hv]
  simp (disch:=omega) [-getElem?_pos,-getElem?_neg,cd t172,code172,h5,hk,iltT,ileT,nltT,nleT,dh,e3]
 ·have hv:cutV c s = .tuple [.str s,.str [],.bool false]:=by
   unfold cutV; rw [if_neg h]
  rw [hv]
  simp (disch:=omega) [cd t172,code172,h5,h]
theorem s138 {s:List UInt8} {c:UInt8} (hn:s.length≤9223372036854775807):xCall T 138 [.str s,.str [c]] ⟨os,b,w⟩=some (cutV c s,⟨os,b,w⟩):=by
 have h:=fun w=>s172 (os:=os) (b:=b) (w:=w) (c:=c) hn
 unfold cutV at h ⊢
 by_cases h0:0≤Lib.indexByte s c
 ·simp only [if_pos h0] at h ⊢
  simp [cd t138,code138,h]
 ·simp only [if_neg h0] at h ⊢
  simp [cd t138,code138,h]
theorem dims_eq {s r:List UInt8} {c:UInt8} (h:bare s=c :: r):s.length=dims s+(r.length+1):=by
 have:=congrArg List.length (bare_split s)
 simpa [h] using this
section
attribute [-simp] getElem?_pos getElem?_neg
theorem s86 {s:List UInt8} (hn:s.length≤9223372036854775807) (hb:b≤os.length):xCall T 86 [.str s] ⟨os,b,w⟩=some (.str (s.take (cutN s)),⟨os,b,w⟩):=by
 have h139:=fun w=>s139 (os:=os) (b:=b) (w:=w) (s:=s)
 have hl:=bare_len s
 have hd:((s.length:Int) - (bare s).length)=(dims s:Nat):=by unfold dims; omega
 have hle:dims s≤s.length:=by unfold dims; omega
 cases hbs:bare s with
 | nil =>
  simp only [hbs] at h139
  simp [cd t86,code86,bp,h139,cutN,hbs]
 | cons c r =>
  simp only [hbs] at h139
  clear hd
  have hlen:=dims_eq hbs
  have hcut:cutN s=if 8 < dims s then 0 else if c=73∨(c=74∧dims s=0)∨(c=66∧0 < dims s) then dims s+1 else if c=76 then (match nameL r with | some k=>dims s+k+2 | none=>0) else 0:=by
   unfold cutN; rw [hbs] <;> rfl
  rw [hcut]
  clear hl hcut
  generalize dims s=d at hlen hle ⊢
  have hd:(s.length:Int) - ((r.length:Int)+1)=d:=by omega
  have e73:((c.toNat:Int)=73)=(c=73):=u8_eq c 73 (by omega)
  have e74:((c.toNat:Int)=74)=(c=74):=u8_eq c 74 (by omega)
  have e66:((c.toNat:Int)=66)=(c=66):=u8_eq c 66 (by omega)
  have e76:((c.toNat:Int)=76)=(c=76):=u8_eq c 76 (by omega)
  have ht1:((d:Int)+1).toNat=d+1:=by omega
  by_cases h8:8 < d
  ·simp (disch:=omega) [cd t86,code86,bp,h139,hd,dh,iltT,h8]
  ·by_cases c73:c=73
   ·simp (disch:=omega) [cd t86,code86,bp,h139,hd,dh,iltT,iltF,ileT,nltT,nleT,h8,e73,c73,ht1]
   ·by_cases c74:c=74
    ·subst c74
     by_cases d0:d=0
     ·simp (disch:=omega) [cd t86,code86,bp,h139,hd,dh,iltT,iltF,ileT,nltT,nleT,h8,d0,ht1]
     ·simp (disch:=omega) [cd t86,code86,bp,h139,hd,dh,iltT,iltF,ileT,nltT,nleT,h8,d0,ieqF,ht1]
    ·by_cases c66:c=66
     ·subst c66
      by_cases d0:0 < d
      ·simp (disch:=omega) [cd t86,code86,bp,h139,hd,dh,iltT,iltF,ileT,nltT,nleT,h8,d0,ht1]
      ·simp (disch:=omega) [cd t86,code86,bp,h139,hd,dh,iltT,iltF,ileT,nltT,nleT,h8,d0,ht1]
     ·by_cases c76:c=76
      ·subst c76
       have h138:=fun w=>s138 (os:=os) (b:=b) (w:=w) (s:=r) (c:=59) (by omega)
       have htr:List.take (r.length+1 - 1) r=r:=by simp
       by_cases hi:0≤Lib.indexByte r 59
       ·obtain ⟨k,hk⟩:=gu hi
        obtain ⟨k1,_⟩:=ib_take hk
        have h25:=fun w=>s25 (w:=w) (s:=r.take k) hb
        have hmin:min k r.length=k:=by omega
        simp only [cutV,hk,Int.natCast_nonneg,if_true,Int.toNat_natCast] at h138
        have ht2:((d:Int)+k+2).toNat=d+k+2:=by omega
        have hnm:nameL r=if isClass (r.take k)=true then some k else none:=by
         unfold nameL; rw [hk,if_pos (by omega)]; rfl
        by_cases hc:isClass (r.take k)=true
        ·simp (disch:=omega) [cd t86,code86,bp,h139,hd,dh,iltT,iltF,ileT,nltT,nleT,h8,h138,h25,hc,hnm,hmin,ht2]
        ·simp (disch:=omega) [cd t86,code86,bp,h139,hd,dh,iltT,iltF,ileT,nltT,nleT,h8,h138,h25,hc,hnm]
       ·have hnm:nameL r=none:=by unfold nameL; rw [if_neg hi]
        simp only [cutV,if_neg hi] at h138
        simp (disch:=omega) [cd t86,code86,bp,h139,hd,dh,iltT,iltF,ileT,nltT,nleT,h8,h138,hnm]
      ·simp (disch:=omega) [cd t86,code86,bp,h139,hd,dh,iltT,iltF,ileT,nltT,nleT,h8,e73,e74,e66,e76,c73,c74,c66,c76]
end
theorem s27 {s:List UInt8} (hn:s.length≤9223372036854775807) (hb:b≤os.length):xCall T 27 [.str s] ⟨os,b,w⟩=some (.bool (isTy s),⟨os,b,w⟩):=by
 have h:=fun w=>s86 (w:=w) hn hb
 have hc:=cutN_le s
 have e:(s.take (cutN s)=s)=(cutN s=s.length):=by
  apply propext
  constructor
  ·intro e
   have:=congrArg List.length e
   simp at this; omega
  ·intro e; rw [e,List.take_length]
 by_cases h0:s=[]
 ·simp [cd t27,code27,isTy,h0]
 ·simp [cd t27,code27,isTy,h0,h,e]
end Go.Abs.AbsDesc

namespace Go.Abs.AbsDesc
variable {os:List AObj} {b w:Nat} {β:Type}
end Go.Abs.AbsDesc

namespace Go.Abs.AbsDesc
variable {os:List AObj} {b w:Nat} {β:Type}
def methA:Nat→List UInt8→Option (List (List UInt8) × List UInt8)
 | m,s=>if s=[]∨begins 41 s=true then some ([],s) else if cutN s=0 then none else match m with
  | 0=>none
  | m+1=>(methA m (s.drop (cutN s))).map fun p=>(s.take (cutN s) :: p.1,p.2)
theorem methA_len:∀ {m:Nat} {s:List UInt8} {A:List (List UInt8)} {r:List UInt8},methA m s=some (A,r)→A.length≤m∧r.length≤s.length∧∀ t ∈ A,t.length≤s.length
 | m,s,A,r,h=>by
  unfold methA at h
  split at h
  ·cases h; simp
  ·split at h
   ·cases h
   ·cases m with
    | zero=>cases h
    | succ m =>
     simp only at h
     rw [ae] at h
     obtain ⟨p,h1,h2⟩:=h
     obtain ⟨rfl,rfl⟩:=Prod.mk.inj h2
     obtain ⟨k1,k2,k3⟩:=methA_len (A:=p.1) (r:=p.2) h1
     simp only [kj] at k2 k3
     refine ⟨by simp; omega,by omega,fun t ht=>?_⟩
     rcases cr.1 ht with rfl | ht
     ·simp; omega
     ·have:=k3 t ht; omega
def Meth38 (b w:Nat) (k:AExit→St→Option β) (x:Option β) (O:List AObj) (L:List (List UInt8)) (a2 a3:Nat):Option (List (List UInt8) × List UInt8)→Prop
 | none=>∃ O',O.length≤O'.length∧x=k .ret ⟨[(2,.val (.slice none 0 (some 0))),(3,.val (.str [])),(4,.val (.int .i64 8))],⟨O',b,w⟩⟩
 | some (A,r)=>∃ O',O.length≤O'.length∧x=k (.exit 0) ⟨if a2 < a3 then [(a2,.val (.str r)),(a3,.val (.slice (some (O'.length,0)) (L.length+A.length) none))] else [(a3,.val (.slice (some (O'.length,0)) (L.length+A.length) none)),(a2,.val (.str r))],⟨O'++[.cells 1 ((L++A).map AVal.str)],b,w⟩⟩
section
attribute [-simp] getElem?_pos getElem?_neg
set_option maxHeartbeats 1000000 in
theorem l38 (k:AExit→St→Option β):∀ (m:Nat) (s:List UInt8) (O:List AObj) (L:List (List UInt8)),s.length≤9223372036854775807→L.length+m=16→L≠[]→b≤O.length→w≤O.length →
  Meth38 b w k (xK T (.loop code38L0) ⟨[(5,.val (.str s)),(7,.val (.slice (some (O.length,0)) L.length none))],⟨O++[.cells 1 (L.map AVal.str)],b,w⟩⟩ (k:=⟨k⟩)) O L 5 7 (methA m s):=by
 intro m
 induction m with
 | zero =>
  intro s O L hn hL hne hb hw
  unfold methA
  rw [bl]
  cases s with
  | nil =>
   simp only [true_or,if_true]
   refine ⟨O,ak _,?_⟩
   simp [code38L0]
  | cons x r =>
   have e:((x.toNat:Int)=41)=(x=41):=u8_eq x 41 (by omega)
   by_cases hx:x=41
   ·simp only [begins,hx,decide_true,or_true,if_true]
    refine ⟨O,ak _,?_⟩
    simp (disch:=omega) [code38L0,e,hx,bp,iltT]
   ·have h86:=fun w=>s86 (os:=O++[.cells 1 (L.map AVal.str)]) (b:=b) (w:=w) hn (by simp; omega)
    have hL16:(L.length:Int)=16:=by omega
    have h0:∀ n:Nat,n≠0→List.take n (x :: r)≠[]:=fun n hn=>by cases n <;> simp_all
    by_cases hc:cutN (x :: r)=0
    ·simp only [begins,hx,decide_false,reduceCtorEq,av,or_self,if_false,hc,if_true]
     refine ⟨O++[.cells 1 (L.map AVal.str)],by simp,?_⟩
     simp (disch:=omega) [code38L0,e,hx,bp,iltT,h86,hc]
    ·simp only [begins,hx,decide_false,reduceCtorEq,av,or_self,if_false,hc]
     refine ⟨O++[.cells 1 (L.map AVal.str)],by simp,?_⟩
     simp (disch:=omega) [code38L0,e,hx,bp,iltT,h86,h0 _ hc,hL16]
 | succ m ih =>
  intro s O L hn hL hne hb hw
  unfold methA
  rw [bl]
  cases s with
  | nil =>
   simp only [true_or,if_true]
   refine ⟨O,ak _,?_⟩
   simp [code38L0]
  | cons x r =>
   have e:((x.toNat:Int)=41)=(x=41):=u8_eq x 41 (by omega)
   by_cases hx:x=41
   ·simp only [begins,hx,decide_true,or_true,if_true]
    refine ⟨O,ak _,?_⟩
    simp (disch:=omega) [code38L0,e,hx,bp,iltT]
   ·have h86:=fun w=>s86 (os:=O++[.cells 1 (L.map AVal.str)]) (b:=b) (w:=w) hn (by simp; omega)
    have hL16:¬ (L.length:Int)=16:=by omega
    have h0:∀ n:Nat,n≠0→List.take n (x :: r)≠[]:=fun n hn=>by cases n <;> simp_all
    by_cases hc:cutN (x :: r)=0
    ·simp only [begins,hx,decide_false,reduceCtorEq,av,or_self,if_false,hc,if_true]
     refine ⟨O++[.cells 1 (L.map AVal.str)],by simp,?_⟩
     simp (disch:=omega) [code38L0,e,hx,bp,iltT,h86,hc]
    ·simp only [begins,hx,decide_false,reduceCtorEq,av,or_self,if_false,hc]
     have hle:=cutN_le (x :: r)
     have h0':=h0 _ hc
     have hlt:(List.take (cutN (x :: r)) (x :: r)).length=cutN (x :: r):=by simp at hle ⊢; omega
     generalize ht:List.take (cutN (x :: r)) (x :: r)=t at *
     have hdr:List.take ((x :: r).length - cutN (x :: r)) (List.drop (cutN (x :: r)) (x :: r))=List.drop (cutN (x :: r)) (x :: r):=take_drop_len ..
     have hle2:(List.drop (cutN (x :: r)) (x :: r)).length≤9223372036854775807:=by simp only [kj]; omega
     have ih:=ih (List.drop (cutN (x :: r)) (x :: r)) (O++[.dead,.cells 1 [.str t]]) (L++[t]) hle2 (by simp; omega) (by simp) (by simp; omega) (by simp; omega)
     simp only [bc,az,co,ba,db,c9,fj,bo,gq] at ih
     generalize cutN (x :: r)=n at *
     generalize ACode.loop code38L0=LL at ih ⊢
     have hle':n≤r.length+1:=by simpa using hle
     have hdr':List.take (r.length+1 - n) (List.drop n (x :: r))=List.drop n (x :: r):=by simpa using hdr
     have key:Meth38 b w k (xK T code38L0 ⟨[(5,.val (.str (x :: r))),(7,.val (.slice (some (O.length,0)) L.length none))],⟨O++[.cells 1 (L.map AVal.str)],b,w⟩⟩ (k:=⟨fun e st=>nxK e st (f:=⟨fun st=>xK T LL st (k:=⟨k⟩)⟩) (k:=⟨k⟩)⟩)) (O++[.dead,.cells 1 [.str t]]) (L++[t]) 5 7 (methA m (List.drop n (x :: r))):=by
      simp (maxSteps:=2000000) (disch:=omega) [code38L0,e,hx,bp,iltT,h86,h0',hL16,hne,ce,hlt,Nat.min_eq_left,ileT,nleT,nltT,hdr',ht]
      simpa using ih
     cases hm:methA m (List.drop n (x :: r)) with
     | none =>
      rw [hm] at key
      obtain ⟨O',h1,h2⟩:=key
      exact ⟨O',by simp at h1; omega,h2⟩
     | some p =>
      obtain ⟨A,q⟩:=p
      rw [hm] at key
      obtain ⟨O',h1,h2⟩:=key
      refine ⟨O',by simp at h1; omega,h2.trans ?_⟩
      simp [Nat.add_comm 1,cf]
end
end Go.Abs.AbsDesc

namespace Go.Abs.AbsDesc
variable {os:List AObj} {b w:Nat} {β:Type}
def Meth0 (b w:Nat) (k:AExit→St→Option β) (x:Option β) (O:List AObj) (a2 a3:Nat):Option (List (List UInt8) × List UInt8)→Prop
 | none=>∃ O',O.length≤O'.length∧x=k .ret ⟨[(2,.val (.slice none 0 (some 0))),(3,.val (.str [])),(4,.val (.int .i64 8))],⟨O',b,w⟩⟩
 | some ([],r)=>x=k (.exit 0) ⟨if a2 < a3 then [(a2,.val (.str r)),(a3,.val (.slice none 0 (some 0)))] else [(a3,.val (.slice none 0 (some 0))),(a2,.val (.str r))],⟨O,b,w⟩⟩
 | some (a :: A,r)=>∃ O',O.length≤O'.length∧x=k (.exit 0) ⟨if a2 < a3 then [(a2,.val (.str r)),(a3,.val (.slice (some (O'.length,0)) (A.length+1) none))] else [(a3,.val (.slice (some (O'.length,0)) (A.length+1) none)),(a2,.val (.str r))],⟨O'++[.cells 1 ((a :: A).map AVal.str)],b,w⟩⟩
section
attribute [-simp] getElem?_pos getElem?_neg
set_option maxHeartbeats 1000000 in
theorem l38z (k:AExit→St→Option β) (s:List UInt8) (O:List AObj) (hn:s.length≤9223372036854775807) (hb:b≤O.length) (hw:w≤O.length) :
  Meth0 b w k (xK T (.loop code38L0) ⟨[(5,.val (.str s)),(7,.val (.slice none 0 (some 0)))],⟨O,b,w⟩⟩ (k:=⟨k⟩)) O 5 7 (methA 16 s):=by
 unfold methA
 rw [bl]
 cases s with
 | nil =>
  simp only [true_or,if_true]
  simp [Meth0,code38L0]
 | cons x r =>
  have e:((x.toNat:Int)=41)=(x=41):=u8_eq x 41 (by omega)
  by_cases hx:x=41
  ·simp only [begins,hx,decide_true,or_true,if_true]
   simp (disch:=omega) [Meth0,code38L0,e,hx,bp,iltT]
  ·have h86:=fun w=>s86 (os:=O) (b:=b) (w:=w) hn hb
   have h0:∀ n:Nat,n≠0→List.take n (x :: r)≠[]:=fun n hn=>by cases n <;> simp_all
   by_cases hc:cutN (x :: r)=0
   ·simp only [begins,hx,decide_false,reduceCtorEq,av,or_self,if_false,hc,if_true]
    refine ⟨O,ak _,?_⟩
    simp (disch:=omega) [code38L0,e,hx,bp,iltT,h86,hc]
   ·simp only [begins,hx,decide_false,reduceCtorEq,av,or_self,if_false,hc]
    have hle:=cutN_le (x :: r)
    have h0':=h0 _ hc
    have hlt:(List.take (cutN (x :: r)) (x :: r)).length=cutN (x :: r):=by simp at hle ⊢; omega
    generalize ht:List.take (cutN (x :: r)) (x :: r)=t at *
    have hle2:(List.drop (cutN (x :: r)) (x :: r)).length≤9223372036854775807:=by simp only [kj]; omega
    have hdr:List.take ((x :: r).length - cutN (x :: r)) (List.drop (cutN (x :: r)) (x :: r))=List.drop (cutN (x :: r)) (x :: r):=take_drop_len ..
    have ih:=l38 (b:=b) (w:=w) k 15 (List.drop (cutN (x :: r)) (x :: r)) (O++[.cells 1 [.str t]]) [t] hle2 rfl (by simp) (by simp; omega) (by simp; omega)
    generalize cutN (x :: r)=n at *
    generalize ACode.loop code38L0=LL at ih ⊢
    have hle':n≤r.length+1:=by simpa using hle
    have hdr':List.take (r.length+1 - n) (List.drop n (x :: r))=List.drop n (x :: r):=by simpa using hdr
    have key:Meth38 b w k (xK T code38L0 ⟨[(5,.val (.str (x :: r))),(7,.val (.slice none 0 (some 0)))],⟨O,b,w⟩⟩ (k:=⟨fun e st=>nxK e st (f:=⟨fun st=>xK T LL st (k:=⟨k⟩)⟩) (k:=⟨k⟩)⟩)) (O++[.cells 1 [.str t]]) [t] 5 7 (methA 15 (List.drop n (x :: r))):=by
     simp (maxSteps:=2000000) (disch:=omega) [code38L0,e,hx,bp,iltT,h86,h0',ce,hlt,Nat.min_eq_left,ileT,nleT,nltT,hdr',ht]
     simpa using ih
    cases hm:methA 15 (List.drop n (x :: r)) with
    | none =>
     rw [hm] at key
     obtain ⟨O',h1,h2⟩:=key
     exact ⟨O',by simp at h1; omega,h2⟩
    | some p =>
     obtain ⟨A,q⟩:=p
     rw [hm] at key
     obtain ⟨O',h1,h2⟩:=key
     refine ⟨O',by simp at h1; omega,h2.trans ?_⟩
     simp [Nat.add_comm 1,cf]
end
end Go.Abs.AbsDesc

namespace Go.Abs.AbsDesc
variable {os:List AObj} {b w:Nat} {β:Type}
theorem Meth0.elim {k:AExit→St→Option β} {x y:Option β} {O:List AObj} {a2 a3:Nat} {m:Option (List (List UInt8) × List UInt8)} (h:Meth0 b w k x O a2 a3 m)
  (h1:∀ O',m=none→O.length≤O'.length→k .ret ⟨[(2,.val (.slice none 0 (some 0))),(3,.val (.str [])),(4,.val (.int .i64 8))],⟨O',b,w⟩⟩=y)
  (h2:∀ r,m=some ([],r)→k (.exit 0) ⟨if a2 < a3 then [(a2,.val (.str r)),(a3,.val (.slice none 0 (some 0)))] else [(a3,.val (.slice none 0 (some 0))),(a2,.val (.str r))],⟨O,b,w⟩⟩=y)
  (h3:∀ O' a A r,m=some (a :: A,r)→O.length≤O'.length→k (.exit 0) ⟨if a2 < a3 then [(a2,.val (.str r)),(a3,.val (.slice (some (O'.length,0)) (A.length+1) none))] else [(a3,.val (.slice (some (O'.length,0)) (A.length+1) none)),(a2,.val (.str r))],⟨O'++[.cells 1 ((a :: A).map AVal.str)],b,w⟩⟩=y):x=y:=by
 cases m with
 | none =>
  obtain ⟨O',e1,e2⟩:=h
  exact e2.trans (h1 O' rfl e1)
 | some p =>
  obtain ⟨A,r⟩:=p
  cases A with
  | nil=>exact (show x=_ from h).trans (h2 r rfl)
  | cons a A =>
   obtain ⟨O',e1,e2⟩:=h
   exact e2.trans (h3 O' a A r rfl e1)
def methL (s:List UInt8):Option (List (List UInt8) × List UInt8) :=
 if begins 40 s then (match methA 16 s.tail with
  | some (A,r)=>if begins 41 r && (decide (r.tail=[86]) || isTy r.tail) then some (A,r.tail) else none
  | none=>none)
 else none
def methV (n:Nat):Option (List (List UInt8) × List UInt8)→AVal
 | none=>.tuple [.slice none 0 (some 0),.str [],.int .i64 8]
 | some ([],r)=>.tuple [.slice none 0 (some 0),.str r,.int .i64 0]
 | some (a :: A,r)=>.tuple [.slice (some (n,0)) (A.length+1) none,.str r,.int .i64 0]
def methO (os:List AObj):Option (List (List UInt8) × List UInt8)→List AObj
 | some (a :: A,_)=>os++[.cells 1 ((a :: A).map AVal.str)]
 | _=>os
section
attribute [-simp] getElem?_pos getElem?_neg
attribute [local simp] gz gs
theorem s38 {s:List UInt8} (hn:s.length≤9223372036854775807) (hb:b≤os.length):xCall T 38 [.str s] ⟨os,b,w⟩=some (methV os.length (methL s),⟨methO os (methL s),b,w⟩):=by
 have h85:=fun w=>s85 (os:=os) (b:=b) (w:=w) (s:=s) (c:=40) (by omega)
 by_cases h:begins 40 s=true
 ·cases s with
  | nil=>simp [begins] at h
  | cons x q =>
   simp only [h,if_true,List.tail_cons] at h85
   simp only [az] at hn
   have hm:methL (x :: q)=(match methA 16 q with
     | some (A,r)=>if begins 41 r && (decide (r.tail=[86]) || isTy r.tail) then some (A,r.tail) else none
     | none=>none):=by
    unfold methL; rw [if_pos h]; rfl
   rw [hm]
   simp (disch:=omega) [cd t38,code38,h85]
   refine Meth0.elim (l38z _ q os (by omega) hb (ak _)) ?_ ?_ ?_
   ·intro O' h1 h2
    simp (disch:=omega) [code38,h1,methV,methO]
   ·intro r h1
    have hr:=(methA_len h1).2.1
    have h2:=fun w=>s85 (os:=os) (b:=b) (w:=w) (s:=r) (c:=41) (by omega)
    have h3:=fun w=>s27 (b:=b) (w:=w) (s:=r.tail) (by simp; omega) hb
    by_cases c1:begins 41 r=true <;> by_cases c2:r.tail=[86] <;> by_cases c3:isTy r.tail=true
    all_goals simp (disch:=omega) [code38,h1,h2,h3,c1,c2,c3,methV,methO]
   ·intro O' a A r h1 h2
    have hr:=(methA_len h1).2.1
    have hb':b≤(O'++[AObj.cells 1 ((a :: A).map AVal.str)]).length:=by simp; omega
    have h4:=fun w=>s85 (os:=O'++[.cells 1 ((a :: A).map AVal.str)]) (b:=b) (w:=w) (s:=r) (c:=41) (by omega)
    have h3:=fun w=>s27 (os:=O'++[.cells 1 ((a :: A).map AVal.str)]) (b:=b) (w:=w) (s:=r.tail) (by simp; omega) hb'
    simp only [bo] at h4 h3
    by_cases c1:begins 41 r=true <;> by_cases c2:r.tail=[86] <;> by_cases c3:isTy r.tail=true
    all_goals simp (disch:=omega) [code38,h1,h4,h3,c1,c2,c3,methV,methO,nltF,jr,reach_done]
 ·have hm:methL s=none:=by unfold methL; rw [if_neg h]
  rw [hm]
  simp only [Bool.not_eq_true] at h
  simp only [h,av,if_false] at h85
  simp (disch:=omega) [cd t38,code38,h85,methV,methO]
end
end Go.Abs.AbsDesc

namespace Go.Abs.AbsDesc
variable {os:List AObj} {b w:Nat} {β:Type}
end Go.Abs.AbsDesc

namespace Go.Abs
theorem evCall_sub {T T':Nat→Option AFunc} (hs:∀ g f,T g=some f→T' g=some f):∀ n,CallLe (evCall T n) (evCall T' n)
 | 0=>fun _ _ _ r hr=>by simp [evCall] at hr
 | n+1=>fun g args h=>by
  intro r hr
  have ih:=evCall_sub hs n
  simp only [evCall] at hr ⊢
  cases hT:T g with
  | none=>rw [hT] at hr; cases hr
  | some f =>
   rw [hT] at hr
   rw [hs g f hT]
   simp only at hr ⊢
   split at hr
   ·exact evRound_mono ih (ak _) _ _ _ _ r hr
   ·exact hr
   ·exact wrapC_mono (fun args h=>evFunc_mono ih (ak _) f args h) _ _ _ r hr
theorem jd {T T':Nat→Option AFunc} (hs:∀ g f,T g=some f→T' g=some f) {g:Nat} {args:List AVal} {h:Heap} {r:AVal × Heap} (he:xCall T g args h=some r):xCall T' g args h=some r:=by
 rw [jy] at he ⊢
 obtain ⟨n,hn⟩:=he
 exact ⟨n,evCall_sub hs n _ _ _ _ hn⟩
end Go.Abs

namespace Go.Abs
abbrev Str:=List UInt8
section
variable {κ ν:Type} [DecidableEq κ]
def ents (kf:κ→AVal) (vf:ν→AVal):Nat→List (κ × ν)→List (AVal × AVal × Nat)
 | _,[]=>[]
 | i,x :: r=>(kf x.1,vf x.2,i) :: ents kf vf (i+1) r
def getE:List (κ × ν)→κ→Option ν
 | [],_=>none
 | x :: r,k=>if x.1=k then some x.2 else getE r k
def KeyF (kf:κ→AVal):Prop:=∀ a b,akey (kf a) (kf b)=some (decide (a=b))
theorem keyStr:KeyF (AVal.str:Str→AVal):=fun _ _=>rfl
omit [DecidableEq κ] in
theorem ents_app (kf:κ→AVal) (vf:ν→AVal):∀ (A B:List (κ × ν)) (i:Nat),ents kf vf i (A++B)=ents kf vf i A++ents kf vf (i+A.length) B
 | [],B,i=>by simp [ents]
 | x :: A,B,i=>by
  have e:i+1+A.length=i+(A.length+1):=by omega
  simp [ents,ents_app kf vf A B (i+1),e]
omit [DecidableEq κ] in
theorem jw (kf:κ→AVal) (vf:ν→AVal):∀ (A:List (κ × ν)) (i:Nat),(ents kf vf i A).length=A.length
 | [],_=>rfl
 | x :: A,i=>by simp [ents,jw kf vf A (i+1)]
theorem jl (A B:List (κ × ν)) (k:κ):getE (A++B) k=(getE A k).or (getE B k):=by
 induction A with
 | nil=>rfl
 | cons x A ih =>
  rw [db]
  simp only [getE]
  split
  ·rfl
  ·exact ih
theorem getE_none {A:List (κ × ν)} {k:κ}:getE A k=none ↔ ∀ x ∈ A,x.1≠k:=by
 induction A with
 | nil=>simp [getE]
 | cons x A ih =>
  simp only [getE]
  split
  ·rename_i h; simp [h]
  ·rename_i h; rw [ih]; simp [h]
theorem getE_mem {A:List (κ × ν)} {k:κ} {v:ν} (h:getE A k=some v):(k,v) ∈ A:=by
 induction A with
 | nil=>cases h
 | cons x A ih =>
  simp only [getE] at h
  split at h
  ·rename_i e; cases h; subst e; exact a8 ..
  ·exact bh _ (ih h)
theorem findA_none {kf:κ→AVal} {vf:ν→AVal} (hk:KeyF kf) {k:κ}:∀ (A:List (κ × ν)) (i:Nat),getE A k=none→findA (kf k) (ents kf vf i A)=some none
 | [],_,_=>rfl
 | x :: A,i,h=>by
  simp only [getE] at h
  split at h
  ·cases h
  ·rename_i e
   simp only [ents,findA,hk k x.1,decide_eq_false (show ¬ k=x.1 from fun e'=>e e'.symm)]
   rw [findA_none hk A (i+1) h]
   rfl
theorem findA_some {kf:κ→AVal} {vf:ν→AVal} (hk:KeyF kf) {k:κ} {v:ν}:∀ (A:List (κ × ν)) (i:Nat),getE A k=some v→∃ j,findA (kf k) (ents kf vf i A)=some (some (j,vf v))
 | [],_,h=>by cases h
 | x :: A,i,h=>by
  simp only [getE] at h
  split at h
  ·rename_i e
   cases h
   exact ⟨0,by simp only [ents,findA,hk k x.1,decide_eq_true (show k=x.1 from e.symm)]⟩
  ·rename_i e
   obtain ⟨j,hj⟩:=findA_some (vf:=vf) hk A (i+1) h
   exact ⟨j+1,by simp only [ents,findA,hk k x.1,decide_eq_false (show ¬ k=x.1 from fun e'=>e e'.symm),hj]; rfl⟩
def mObj (kf:κ→AVal) (vf:ν→AVal) (A:List (κ × ν)):AObj:=.map (ents kf vf 0 A) A.length
variable {os:List AObj} {b w r:Nat} {A:List (κ × ν)} {kf:κ→AVal} {vf:ν→AVal}
theorem lookup_ok (hk:KeyF kf) (h:os[r]? = some (mObj kf vf A)) {kn:KeyT} {zero:AVal} {k:κ} (hi:isKey kn (kf k)=true) :
  evExt (.lookup kn zero true) [.map (some r),kf k] ⟨os,b,w⟩=some (.tuple [((getE A k).map vf).getD zero,.bool (getE A k).isSome],⟨os,b,w⟩):=by
 simp only [evExt,hi,entriesOf,Heap.get,h,mObj,if_true]
 cases hg:getE A k with
 | none=>simp only [findA_none hk A 0 hg]; rfl
 | some v =>
  obtain ⟨j,hj⟩:=findA_some (vf:=vf) hk A 0 hg
  simp only [hj]; rfl
theorem lookup_v (hk:KeyF kf) (h:os[r]? = some (mObj kf vf A)) {kn:KeyT} {zero:AVal} {k:κ} (hi:isKey kn (kf k)=true) :
  evExt (.lookup kn zero false) [.map (some r),kf k] ⟨os,b,w⟩=some (((getE A k).map vf).getD zero,⟨os,b,w⟩):=by
 simp only [evExt,hi,entriesOf,Heap.get,h,mObj,if_true]
 cases hg:getE A k with
 | none=>simp only [findA_none hk A 0 hg]; rfl
 | some v =>
  obtain ⟨j,hj⟩:=findA_some (vf:=vf) hk A 0 hg
  simp only [hj]; rfl
theorem upd_new (hk:KeyF kf) (h:os[r]? = some (mObj kf vf A)) {kn:KeyT} {k:κ} (v:ν) (hi:isKey kn (kf k)=true) (hb:b≤r) (hg:getE A k=none) :
  evExt (.mapupd kn) [.map (some r),kf k,vf v] ⟨os,b,w⟩=some (.tuple [],⟨os.set r (mObj kf vf (A++[(k,v)])),b,min w r⟩):=by
 simp only [evExt,hi,Heap.get,h,mObj,hb,and_self,if_true]
 simp only [findA_none hk A 0 hg,Heap.put]
 rw [ents_app,bt,bc]
 rfl
omit [DecidableEq κ] in
theorem len_map (h:os[r]? = some (mObj kf vf A)):evLen .map (.map (some r)) ⟨os,b,w⟩=some (.int .i64 A.length):=by
 simp only [evLen,Heap.get,h,mObj,jw]
end
theorem eb {α:Type} (a c:List α) (k:Nat):(a++c)[a.length+k]? = c[k]?:=by
 rw [aq (by omega)]; congr 1; omega
theorem fk {α:Type} (a c:List α):(a++c)[a.length]? = c[0]?:=eb a c 0
theorem ie {α:Type} (a c:List α) (k:Nat) (y:α):(a++c).set (a.length+k) y=a++c.set k y:=by
 rw [List.set_append_right _ _ (by omega)]; congr 2; omega
theorem gp {α:Type} (a c:List α) (y:α):(a++c).set a.length y=a++c.set 0 y:=ie a c 0 y
theorem xRoundK {T:Nat→Option AFunc} {g:Nat} {f:AFunc} {rd:ARound} (hT:T g=some f) (hr:f.round=some (.round rd)) (i j:Nat) (a_s:List AVal) (h:Heap) :
  xCall T g (.ptr (some (i,j)) :: a_s) h=mustK (a_s.length=rd.params.length∧h.base≤i) (f:=⟨fun _=>andThen (roundSlots i rd.params a_s h) (f:=⟨fun s=>xK T rd.assign ⟨s,{ h with wmin:=h.size }⟩
   (k:=⟨fun e st=>andThen (roundIn g i (some (e,st))) (f:=⟨fun st=>xK T rd.body st (k:=⟨fun e st=>roundOut h g i (some (e,st))⟩)⟩)⟩)⟩)⟩):=by
 rw [xRound_eq T hT hr]
 unfold xRound mustK
 simp only
 split
 ·cases roundSlots i rd.params a_s h with
  | none=>rfl
  | some s =>
   simp only [cg]
   unfold xK
   cases xCode T rd.assign ⟨s,{ h with wmin:=h.size }⟩ with
   | none=>rfl
   | some x =>
    obtain ⟨e,st⟩:=x
    simp only [cg]
    cases roundIn g i (some (e,st)) with
    | none=>rfl
    | some st =>
     simp only [cg]
     cases xCode T rd.body st with
     | none=>rfl
     | some y=>rfl
 ·rfl
theorem finish_keep {h0 h:Heap} {v:AVal} {k:List Nat} (hw:h0.size≤h.wmin) (hv:v.under h0.size=false) (hr:reach h h0.size 1000 v.ids []=k) (hok:∀ i ∈ v.ids++k.flatMap fun i=>((h.get i).map AObj.ids).getD [],i < h0.size∨i ∈ k) :
  finish h0 v h=(v.ren (fun i=>if i < h0.size then i else h0.size+idxIn i k),{ h0 with objs:=h0.objs++k.map fun i=>((h.get i).map (AObj.ren fun i=>if i < h0.size then i else h0.size+idxIn i k)).getD .dead }):=by
 unfold finish
 rw [if_neg (by omega),hv]
 simp only [av,if_false,hr]
 rw [if_pos]
 rw [al]
 intro i hi
 rcases hok i hi with h1 | h1
 ·rw [decide_eq_true h1]; rfl
 ·simp [h1]
end Go.Abs

namespace Go.Abs
structure FieldU where
 st:Bool
 name:Str
 desc:Str
structure InsU where
 op:Int
 n:Int
 m:Int
 cls:Str
 name:Str
 desc:Str
 text:Str
structure TrapU where
 lo:Int
 hi:Int
 at':Int
 cls:Str
structure MapU where
 at':Int
 locals:List Str
 la:Option (Nat × Nat)
 lc:Option Nat
 stack:List Str
 sa:Option (Nat × Nat)
 sc:Option Nat
structure MethU where
 st:Bool
 name:Str
 desc:Str
 stack:Int
 locals:Int
 code:List InsU
 ca:Option (Nat × Nat)
 cc:Option Nat
 traps:List TrapU
 ta:Option (Nat × Nat)
 tc:Option Nat
 maps:List MapU
 xa:Option (Nat × Nat)
 xc:Option Nat
structure UnitU where
 name:Str
 super:Str
 fields:List FieldU
 fa:Option (Nat × Nat)
 fc:Option Nat
 meths:List MethU
 ma:Option (Nat × Nat)
 mc:Option Nat
def FieldU.cells (f:FieldU):List AVal:=[.bool f.st,.str f.name,.str f.desc]
def InsU.cells (x:InsU):List AVal:=[.int .u8 x.op,.int .i64 x.n,.int .i64 x.m,.str x.cls,.str x.name,.str x.desc,.str x.text]
def TrapU.cells (x:TrapU):List AVal:=[.int .i64 x.lo,.int .i64 x.hi,.int .i64 x.at',.str x.cls]
def MapU.cells (x:MapU):List AVal:=[.int .i64 x.at',.slice x.la x.locals.length x.lc,.slice x.sa x.stack.length x.sc]
def MethU.cells (m:MethU):List AVal:=[.bool m.st,.str m.name,.str m.desc,.int .i64 m.stack,.int .i64 m.locals,.slice m.ca m.code.length m.cc,.slice m.ta m.traps.length m.tc,.slice m.xa m.maps.length m.xc]
def UnitU.cells (u:UnitU):List AVal:=[.str u.name,.str u.super,.slice u.fa u.fields.length u.fc,.slice u.ma u.meths.length u.mc]
def strC (s:Str):List AVal:=[.str s]
abbrev big:Nat:=9223372036854775807
def under (n:Nat) (a:Option (Nat × Nat)):Prop:=∀ i o,a=some (i,o)→i < n
structure MapU.ok (os:List AObj) (x:MapU):Prop where
 l:Row os 1 strC x.locals x.la
 ln:x.locals.length≤big
 lu:under os.length x.la
 s:Row os 1 strC x.stack x.sa
 sn:x.stack.length≤big
 su:under os.length x.sa
 ls:∀ t ∈ x.locals++x.stack,t.length≤big
structure MethU.ok (os:List AObj) (m:MethU):Prop where
 name:m.name.length≤big
 desc:m.desc.length≤big
 c:Row os 7 InsU.cells m.code m.ca
 cn:m.code.length≤big
 cu:under os.length m.ca
 cok:∀ x ∈ m.code,x.cls.length≤big∧x.name.length≤big∧x.desc.length≤big∧x.text.length≤big
 t:Row os 4 TrapU.cells m.traps m.ta
 tn:m.traps.length≤big
 tu:under os.length m.ta
 tok:∀ x ∈ m.traps,x.cls.length≤big
 x:Row os 3 MapU.cells m.maps m.xa
 xn:m.maps.length≤big
 xu:under os.length m.xa
 xok:∀ x ∈ m.maps,x.ok os
structure UnitU.ok (os:List AObj) (u:UnitU):Prop where
 name:u.name.length≤big
 super:u.super.length≤big
 f:Row os 3 FieldU.cells u.fields u.fa
 fn:u.fields.length≤big
 fu:under os.length u.fa
 fok:∀ x ∈ u.fields,x.name.length≤big∧x.desc.length≤big
 m:Row os 8 MethU.cells u.meths u.ma
 mn:u.meths.length≤big
 mu:under os.length u.ma
 mok:∀ x ∈ u.meths,x.ok os
def Pre (os O:List AObj):Prop:=∀ (i:Nat) (o:AObj),os[i]? = some o→O[i]? = some o
theorem Pre.refl (os:List AObj):Pre os os:=fun _ _ h=>h
theorem Pre.trans {A B C:List AObj} (h:Pre A B) (k:Pre B C):Pre A C:=fun i o ho=>k i o (h i o ho)
theorem Pre.app (os X:List AObj):Pre os (os++X):=fun i o h=>by rw [ah (aj h)]; exact h
theorem Pre.set {A B:List AObj} (h:Pre A B) {i:Nat} (o:AObj) (hi:A.length≤i):Pre A (B.set i o):=fun j p hj=>by
 have:=aj hj
 rw [ai (by omega)]; exact h j p hj
theorem Pre.len {A B:List AObj} (h:Pre A B):A.length≤B.length:=by
 rcases a9 B.length A.length with h1 | h1
 ·have h2:B.length < A.length:=h1
  have:=aj (h B.length A[B.length] (by simp [h2]))
  omega
 ·exact h1
theorem Pre.row {os O:List AObj} {α:Type} {e:Nat} {f:α→List AVal} {L:List α} {a:Option (Nat × Nat)} (hp:Pre os O) (h:Row os e f L a):Row O e f L a :=
 ⟨fun hne=>by
  obtain ⟨b,o,cs,h1,h2,h3⟩:=h.at' hne
  exact ⟨b,o,cs,h1,hp _ _ h2,h3⟩⟩
theorem under.le {n m:Nat} {a:Option (Nat × Nat)} (h:under n a) (hm:n≤m):under m a:=fun i o e=>e9 (h i o e) hm
theorem MapU.ok.pre {os O:List AObj} (hp:Pre os O) {x:MapU} (h:x.ok os):x.ok O:=⟨hp.row h.l,h.ln,h.lu.le hp.len,hp.row h.s,h.sn,h.su.le hp.len,h.ls⟩
theorem MethU.ok.pre {os O:List AObj} (hp:Pre os O) {m:MethU} (h:m.ok os):m.ok O :=
 ⟨h.name,h.desc,hp.row h.c,h.cn,h.cu.le hp.len,h.cok,hp.row h.t,h.tn,h.tu.le hp.len,h.tok,hp.row h.x,h.xn,h.xu.le hp.len,fun x hx=>(h.xok x hx).pre hp⟩
theorem UnitU.ok.pre {os O:List AObj} (hp:Pre os O) {u:UnitU} (h:u.ok os):u.ok O :=
 ⟨h.name,h.super,hp.row h.f,h.fn,h.fu.le hp.len,h.fok,hp.row h.m,h.mn,h.mu.le hp.len,fun x hx=>(h.mok x hx).pre hp⟩
structure UnitU.low (n:Nat) (u:UnitU):Prop where
 f:under n u.fa
 m:under n u.ma
section
variable {os:List AObj} {w:Nat}
def shIns:Sh:=.struct [.int .u8,.int .i64,.int .i64,.str,.str,.str,.str]
def shTrap:Sh:=.struct [.int .i64,.int .i64,.int .i64,.str]
def shMap:Sh:=.struct [.int .i64,.slice .str,.slice .str]
def shMeth:Sh:=.struct [.bool,.str,.str,.int .i64,.int .i64,.slice shIns,.slice shTrap,.slice shMap]
def shField:Sh:=.struct [.bool,.str,.str]
def shUnit:Sh:=.struct [.str,.str,.slice shField,.slice shMeth]
end
end Go.Abs

namespace Go.Abs.AbsHier
open Go.Abs.Short
-- base: AbsDesc
def code49L0:ACode :=
 .live [4,69,70,71] (.seq (R [4,69,70,71,72] [o 72 (.bin .lss (t 71) (t 70))])
 (.seq (.after (.cond (t 72) (.skip) (.live [4] (.exit 4))) [4,69,70,71])
 (.seq (.after (.block 5 (.seq (R [4,10,69,70,71] [o 73 (.iaddr 4 (t 69) (t 71)),o 74 (.load (some 4) (t 73)),o 10 (.lalloc [.str [],.str [],.slice none 0 (some 0),.slice none 0 (some 0)]),u (.store 4 (t 10) (t 74))])
 (.seq (R [4,69,70,71,78] [v 75 4,o 76 (.load (some 4) (t 10)),o 77 (.callg 97 [t 75,t 76]),o 78 (.un .not (t 77))])
 (.after (.cond (t 78) (.seq (R [2,3] [o 2 (.val (.const (.ptr none))),o 3 (.val (n 15))])
 (.live [2,3] (.ret))) (.skip)) [4,69,70,71])))) [4,69,70,71])
 (R [4,69,70,71] [o 79 (.bin .add (t 71) (n 1)),v 71 79]))))
def code49L1:ACode :=
 .live [0,4,45,46,47] (.seq (R [0,4,45,46,47,48] [o 48 (.bin .lss (t 47) (t 46))])
 (.seq (.after (.cond (t 48) (.skip) (.live [0,4] (.exit 2))) [0,4,45,46,47])
 (.seq (.after (.block 3 (.seq (R [0,4,8,45,46,47] [o 49 (.iaddr 4 (t 45) (t 47)),o 50 (.load (some 4) (t 49)),o 8 (.lalloc [.str [],.str [],.slice none 0 (some 0),.slice none 0 (some 0)]),u (.store 4 (t 8) (t 50))])
 (.seq (R [0,4,45,46,47,67] [v 51 4,o 52 (.faddr (t 8) 0),o 53 (.load none (t 52)),o 54 (.callg 98 [t 51,t 53]),o 55 (.un .not (t 54)),v 56 55,g 57 56 false (.val (t 4)),g 58 56 false (.load (some 4) (t 8)),g 59 56 false (.callg 99 [t 57,t 58]),g 60 56 false (.un .not (t 59)),o 61 (.pick (t 56) Y (t 60)),v 62 61,g 63 62 false (.val (t 4)),g 64 62 false (.load (some 4) (t 8)),g 65 62 false (.callg 100 [t 63,t 64]),g 66 62 false (.un .not (t 65)),o 67 (.pick (t 62) Y (t 66))])
 (.after (.cond (t 67) (.seq (R [2,3] [o 2 (.val (.const (.ptr none))),o 3 (.val (n 15))])
 (.live [2,3] (.ret))) (.skip)) [0,4,45,46,47])))) [0,4,45,46,47])
 (R [0,4,45,46,47] [o 68 (.bin .add (t 47) (n 1)),v 47 68]))))
def code49L2:ACode :=
 .live [0,4,15,16,17] (.seq (R [0,4,15,16,17,18] [o 18 (.bin .lss (t 17) (t 16))])
 (.seq (.after (.cond (t 18) (.skip) (.live [0,4] (.exit 0))) [0,4,15,16,17])
 (.seq (.after (.block 1 (.seq (R [0,4,6,15,16,17] [o 19 (.iaddr 4 (t 15) (t 17)),o 20 (.load (some 4) (t 19)),o 6 (.lalloc [.str [],.str [],.slice none 0 (some 0),.slice none 0 (some 0)]),u (.store 4 (t 6) (t 20))])
 (.seq (.seq (R [0,4,6,15,16,17,35] [v 21 4,o 22 (.faddr (t 6) 0),o 23 (.load none (t 22)),o 24 (.callg 54 [t 21,t 23]),v 25 24,g 26 25 false (.faddr (t 6) 0),g 27 25 false (.load none (t 26)),g 28 25 false (.callg 25 [t 27]),g 29 25 false (.un .not (t 28)),o 30 (.pick (t 25) Y (t 29)),v 31 30,g 32 31 false (.faddr (t 6) 1),g 33 31 false (.load none (t 32)),g 34 31 false (.bin .eql (t 33) (.const (.str [115,121,115]))),o 35 (.pick (t 31) Y (t 34))])
 (.after (.cond (t 35) (.seq (R [2,3] [o 2 (.val (.const (.ptr none))),o 3 (.val (n 15))])
 (.live [2,3] (.ret))) (.skip)) [0,4,6,15,16,17]))
 (.after (.region [⟨true,[],[v 36 4,o 37 (.nilcheck (t 36)),o 38 (.faddr (t 37) 0),o 39 (.load none (t 38)),o 40 (.faddr (t 6) 0),o 41 (.load none (t 40)),o 42 (.faddr (t 6) 1),o 43 (.load none (t 42))]⟩,⟨false,[],[u (.ext (.mapupd (.one .s)) [t 39,t 41,t 43])]⟩]) [0,4,15,16,17])))) [0,4,15,16,17])
 (R [0,4,15,16,17] [o 44 (.bin .add (t 17) (n 1)),v 17 44]))))
def code49:AFunc:=⟨false,false,1,81,[.tmp 2,.tmp 3],
 .seq (R [0] [o 2 (.val (.const (.ptr none))),o 3 (.val (n 0))])
 (.seq (R [0,4] [o 11 (.callg 284 []),v 4 11])
 (.seq (.seq (R [0,4,14] [v 12 0,o 13 (.len .sl (t 12)),o 14 (.bin .gtr (t 13) (n 32))])
 (.after (.cond (t 14) (.seq (R [2,3] [o 2 (.val (.const (.ptr none))),o 3 (.val (n 15))])
 (.live [2,3] (.ret))) (.skip)) [0,4]))
 (.seq (.seq (R [0,4,15,16,17] [v 15 0,o 16 (.len .sl (t 15)),o 17 (.val (n 0))])
 (.after (.block 0 (.loop code49L2)) [0,4]))
 (.seq (.seq (R [0,4,45,46,47] [v 45 0,o 46 (.len .sl (t 45)),o 47 (.val (n 0))])
 (.after (.block 2 (.loop code49L1)) [0,4]))
 (.seq (.seq (R [4,69,70,71] [v 69 0,o 70 (.len .sl (t 69)),o 71 (.val (n 0))])
 (.after (.block 4 (.loop code49L0)) [4]))
 (.seq (R [2,3] [v 80 4,v 2 80,o 3 (.val (n 0))])
 (.live [2,3] (.ret)))))))),none⟩
def code54:AFunc:=⟨false,false,2,14,[.tmp 4],
 .seq (R [0,1] [o 4 (.val F)])
 (.seq (R [6] [v 8 0,v 9 1,o 10 (.callg 96 [t 8,t 9]),v 7 10,o 11 (.extract (t 7) 0),o 12 (.extract (t 7) 1),v 5 11,v 6 12])
 (.seq (R [4] [v 13 6,v 4 13])
 (.live [4] (.ret)))),none⟩
def code96:AFunc:=⟨false,false,2,21,[.tmp 4,.tmp 5],
 .seq (R [0,1] [o 4 (.val (.const (.str []))),o 5 (.val F)])
 (.seq (.seq (R [0,1,9] [v 8 0,o 9 (.eqnil .ptr false (t 8) (.const (.ptr none)))])
 (.after (.cond (t 9) (.seq (R [4,5] [o 4 (.val (.const (.str []))),o 5 (.val F)])
 (.live [4,5] (.ret))) (.skip)) [0,1]))
 (.seq (R [6,7] [v 11 0,o 12 (.nilcheck (t 11)),o 13 (.faddr (t 12) 0),o 14 (.load none (t 13)),v 15 1,o 16 (.ext (.lookup (.one .s) (.str []) true) [t 14,t 15]),v 10 16,o 17 (.extract (t 10) 0),o 18 (.extract (t 10) 1),v 6 17,v 7 18])
 (.seq (R [4,5] [v 19 6,v 20 7,v 4 19,v 5 20])
 (.live [4,5] (.ret))))),none⟩
def rcode322a:ACode :=
 R [2,4,6,7] [v 7 21]
def rcode322b:ACode :=
 .after (.block 3 (.seq (.after (.region [⟨true,[],[o 23 (.load none (t 2)),o 24 (.nilcheck (t 23)),o 25 (.faddr (t 24) 2),o 26 (.load none (t 25)),v 27 7,o 28 (.faddr (t 6) 1),o 29 (.load none (t 28)),o 30 (.faddr (t 6) 2),o 31 (.load none (t 30)),o 32 (.build [.str [],.str [],.str []] [(0,1,t 27),(1,1,t 29),(2,1,t 31)]),o 33 (.ext (.lookup (.agg [.s,.s,.s]) (.agg [.str [],.bool false]) true) [t 26,t 32]),v 22 33,o 34 (.extract (t 22) 0),o 35 (.extract (t 22) 1),o 8 (.lalloc [.str [],.bool false]),u (.store 2 (t 8) (t 34))]⟩,⟨false,[],[v 9 35]⟩]) [4,6,8,9])
 (.seq (R [4,43] [v 36 9,v 37 36,g 38 37 true (.faddr (t 8) 1),g 39 37 true (.load none (t 38)),g 40 37 true (.faddr (t 6) 0),g 41 37 true (.load none (t 40)),g 42 37 true (.beq true (t 39) (t 41)),o 43 (.pick (t 37) (t 42) F)])
 (.after (.cond (t 43) (.seq (R [] [u (.store 1 (t 4) F)])
 (.live [] (.ret))) (.skip)) [])))) []
def round322:ARound:=⟨[21],rcode322a,rcode322b⟩
def code322:AFunc:=⟨false,false,0,0,[],.skip,some (.round round322)⟩
def code97L1:ACode :=
 .live [2,3,4,11,12,13] (.seq (R [2,3,4,11,12,13,14] [o 14 (.bin .lss (t 13) (t 12))])
 (.seq (.after (.cond (t 14) (.skip) (.live [4] (.exit 0))) [2,3,4,11,12,13])
 (.seq (.after (.block 1 (.seq (R [2,3,4,6,11,12,13] [o 15 (.iaddr 8 (t 11) (t 13)),o 16 (.load (some 8) (t 15)),o 6 (.alloc 8 [.bool false,.str [],.str [],.int .i64 0,.int .i64 0,.slice none 0 (some 0),.slice none 0 (some 0),.slice none 0 (some 0)]),u (.store 8 (t 6) (t 16))])
 (.seq (R [2,3,4,6,11,12,13,20] [o 17 (.load none (t 2)),o 18 (.faddr (t 3) 0),o 19 (.load none (t 18)),o 20 (.callg 156 [t 17,t 19])])
 (.after (.block 2 (.after (.rangeFunc (t 20) 322 [2,4,6] [21] rcode322a rcode322b) [2,3,4,11,12,13])) [2,3,4,11,12,13])))) [2,3,4,11,12,13])
 (R [2,3,4,11,12,13] [o 44 (.bin .add (t 13) (n 1)),v 13 44]))))
def code97:AFunc:=⟨false,false,2,45,[.cell 4 none],
 .seq (R [2,3,4] [o 2 (.box (t 0)),o 3 (.lbox (t 1)),o 4 (.alloc 1 [.bool false])])
 (.seq (.seq (R [2,3,4,11,12,13] [o 10 (.faddr (t 3) 3),o 11 (.load none (t 10)),o 12 (.len .sl (t 11)),o 13 (.val (n 0))])
 (.after (.block 0 (.loop code97L1)) [4]))
 (.seq (R [4] [u (.store 1 (t 4) Y)])
 (.live [4] (.ret)))),none⟩
def rcode321a:ACode :=
 R [5,6,7] [v 7 11]
def rcode321b:ACode :=
 .after (.block 1 (.after (.region [⟨true,[0,0,2,1],[v 12 7,o 13 (.load none (t 6)),o 14 (.bin .add (t 13) (n 1)),u (.ext (.hstore 1) [t 5,t 12])]⟩,⟨false,[],[u (.store 1 (t 6) (t 14))]⟩]) [])) []
def round321:ARound:=⟨[11],rcode321a,rcode321b⟩
def code321:AFunc:=⟨false,false,0,0,[],.skip,some (.round round321)⟩
def code98:AFunc:=⟨false,false,2,21,[.tmp 4],
 .seq (R [0,1] [o 4 (.val F)])
 (.seq (R [0,1,5,6] [o 5 (.alloc 1 [.str []]),o 6 (.alloc 1 [.int .i64 0]),u (.store 1 (t 5) (.const (.str []))),u (.store 1 (t 6) (n 0))])
 (.seq (.seq (R [5,6,10] [v 8 0,v 9 1,o 10 (.callg 156 [t 8,t 9])])
 (.after (.block 0 (.after (.rangeFunc (t 10) 321 [5,6] [11] rcode321a rcode321b) [5,6])) [5,6]))
 (.seq (R [4] [o 15 (.load none (t 5)),o 16 (.bin .eql (t 15) (.const (.str [79,98,106,101,99,116]))),v 17 16,g 18 17 true (.load none (t 6)),g 19 17 true (.bin .gtr (t 18) (n 1)),o 20 (.pick (t 17) (t 19) F),v 4 20])
 (.live [4] (.ret))))),none⟩
def code99L0:ACode :=
 .live [0,3,5,10,11,12] (.seq (R [0,3,5,10,11,12,13] [o 13 (.bin .lss (t 12) (t 11))])
 (.seq (.after (.cond (t 13) (.skip) (.live [] (.exit 0))) [0,3,5,10,11,12])
 (.seq (.after (.block 1 (.seq (R [0,3,5,7,10,11,12] [o 14 (.iaddr 3 (t 10) (t 12)),o 15 (.load (some 3) (t 14)),o 7 (.lalloc [.bool false,.str [],.str []]),u (.store 3 (t 7) (t 15))])
 (.seq (.seq (R [0,3,5,7,10,11,12,38] [o 16 (.faddr (t 7) 1),o 17 (.load none (t 16)),o 18 (.callg 181 [t 17]),o 19 (.un .not (t 18)),v 20 19,g 21 20 false (.faddr (t 7) 2),g 22 20 false (.load none (t 21)),g 23 20 false (.callg 27 [t 22]),g 24 20 false (.un .not (t 23)),o 25 (.pick (t 20) Y (t 24)),v 26 25,g 27 26 false (.val (t 0)),g 28 26 false (.faddr (t 7) 2),g 29 26 false (.load none (t 28)),g 30 26 false (.callg 103 [t 27,t 29]),g 31 26 false (.un .not (t 30)),o 32 (.pick (t 26) Y (t 31)),v 33 32,g 34 33 false (.val (t 5)),g 35 33 false (.faddr (t 7) 1),g 36 33 false (.load none (t 35)),g 37 33 false (.ext (.lookup (.one .s) (.bool false) false) [t 34,t 36]),o 38 (.pick (t 33) Y (t 37))])
 (.after (.cond (t 38) (.seq (R [4] [o 4 (.val F)])
 (.live [4] (.ret))) (.skip)) [0,3,5,7,10,11,12]))
 (.seq (R [0,3,5,7,10,11,12] [v 39 5,o 40 (.faddr (t 7) 1),o 41 (.load none (t 40)),u (.ext (.mapupd (.one .s)) [t 39,t 41,.const (.bool true)])])
 (.after (.region [⟨true,[],[v 42 0,o 43 (.nilcheck (t 42)),o 44 (.faddr (t 43) 1),o 45 (.load none (t 44)),o 46 (.faddr (t 3) 0),o 47 (.load none (t 46)),o 48 (.faddr (t 7) 1),o 49 (.load none (t 48)),o 50 (.faddr (t 7) 2),o 51 (.load none (t 50)),o 52 (.build [.str [],.str [],.str []] [(0,1,t 47),(1,1,t 49),(2,1,t 51)]),o 53 (.faddr (t 3) 0),o 54 (.load none (t 53)),o 55 (.faddr (t 7) 0),o 56 (.load none (t 55)),o 57 (.build [.str [],.bool false] [(0,1,t 54),(1,1,t 56)])]⟩,⟨false,[],[u (.ext (.mapupd (.agg [.s,.s,.s])) [t 45,t 52,t 57])]⟩]) [0,3,5,10,11,12]))))) [0,3,5,10,11,12])
 (R [0,3,5,10,11,12] [o 58 (.bin .add (t 12) (n 1)),v 12 58]))))
def code99:AFunc:=⟨false,false,2,59,[.tmp 4],
 .seq (R [0,3] [o 3 (.lbox (t 1)),o 4 (.val F)])
 (.seq (R [0,3,5] [o 8 (.ext .mkmap []),v 5 8])
 (.seq (.seq (R [0,3,5,10,11,12] [o 9 (.faddr (t 3) 2),o 10 (.load none (t 9)),o 11 (.len .sl (t 10)),o 12 (.val (n 0))])
 (.after (.block 0 (.loop code99L0)) []))
 (.seq (R [4] [o 4 (.val Y)])
 (.live [4] (.ret))))),none⟩
def code100L0:ACode :=
 .live [0,3,11,12,13] (.seq (R [0,3,11,12,13,14] [o 14 (.bin .lss (t 13) (t 12))])
 (.seq (.after (.cond (t 14) (.skip) (.live [] (.exit 0))) [0,3,11,12,13])
 (.seq (.after (.block 1 (.seq (R [0,3,6,11,12,13] [o 15 (.iaddr 8 (t 11) (t 13)),o 16 (.load (some 8) (t 15)),o 6 (.lalloc [.bool false,.str [],.str [],.int .i64 0,.int .i64 0,.slice none 0 (some 0),.slice none 0 (some 0),.slice none 0 (some 0)]),u (.store 8 (t 6) (t 16))])
 (.seq (R [0,3,6,7,11,12,13] [o 17 (.faddr (t 3) 0),o 18 (.load none (t 17)),o 19 (.faddr (t 6) 1),o 20 (.load none (t 19)),o 21 (.faddr (t 6) 2),o 22 (.load none (t 21)),o 23 (.build [.str [],.str [],.str []] [(0,1,t 18),(1,1,t 20),(2,1,t 22)]),o 7 (.lalloc [.str [],.str [],.str []]),u (.store 3 (t 7) (t 23))])
 (.seq (.seq (.after (.region [⟨true,[],[v 25 0,o 26 (.nilcheck (t 25)),o 27 (.faddr (t 26) 2),o 28 (.load none (t 27)),o 29 (.load (some 3) (t 7)),o 30 (.ext (.lookup (.agg [.s,.s,.s]) (.agg [.str [],.bool false]) true) [t 28,t 29]),v 24 30,o 31 (.extract (t 24) 0),o 32 (.extract (t 24) 1),o 8 (.lalloc [.str [],.bool false]),u (.store 2 (t 8) (t 31))]⟩,⟨false,[],[v 9 32]⟩]) [0,3,6,7,9,11,12,13])
 (.seq (R [0,3,6,7,11,12,13,39] [v 33 9,v 34 33,g 35 34 false (.val (t 0)),g 36 34 false (.load (some 8) (t 6)),g 37 34 false (.callg 182 [t 35,t 36]),g 38 34 false (.un .not (t 37)),o 39 (.pick (t 34) Y (t 38))])
 (.after (.cond (t 39) (.seq (R [4] [o 4 (.val F)])
 (.live [4] (.ret))) (.skip)) [0,3,6,7,11,12,13])))
 (.after (.region [⟨true,[],[v 40 0,o 41 (.nilcheck (t 40)),o 42 (.faddr (t 41) 2),o 43 (.load none (t 42)),o 44 (.load (some 3) (t 7)),o 45 (.faddr (t 3) 0),o 46 (.load none (t 45)),o 47 (.faddr (t 6) 0),o 48 (.load none (t 47)),o 49 (.build [.str [],.bool false] [(0,1,t 46),(1,1,t 48)])]⟩,⟨false,[],[u (.ext (.mapupd (.agg [.s,.s,.s])) [t 43,t 44,t 49])]⟩]) [0,3,11,12,13]))))) [0,3,11,12,13])
 (R [0,3,11,12,13] [o 50 (.bin .add (t 13) (n 1)),v 13 50]))))
def code100:AFunc:=⟨false,false,2,51,[.tmp 4],
 .seq (R [0,3] [o 3 (.lbox (t 1)),o 4 (.val F)])
 (.seq (.seq (R [0,3,11,12,13] [o 10 (.faddr (t 3) 3),o 11 (.load none (t 10)),o 12 (.len .sl (t 11)),o 13 (.val (n 0))])
 (.after (.block 0 (.loop code100L0)) []))
 (.seq (R [4] [o 4 (.val Y)])
 (.live [4] (.ret)))),none⟩
def code103:AFunc:=⟨false,false,2,20,[.tmp 4],
 .seq (R [0,1] [o 4 (.val F)])
 (.seq (R [0,5,6] [v 8 1,o 9 (.callg 139 [t 8,.const (.str [91])]),o 10 (.callg 34 [t 9]),v 7 10,o 11 (.extract (t 7) 0),o 12 (.extract (t 7) 1),v 5 11,v 6 12])
 (.seq (R [4] [v 13 6,o 14 (.un .not (t 13)),v 15 14,g 16 15 false (.val (t 0)),g 17 15 false (.val (t 5)),g 18 15 false (.callg 54 [t 16,t 17]),o 19 (.pick (t 15) Y (t 18)),v 4 19])
 (.live [4] (.ret)))),none⟩
def code104L0:ACode :=
 .live [3,56,57,58,124,125,126,148,149,150] (.seq (R [3,56,57,58,124,125,126,148,149,150,151] [o 151 (.bin .lss (t 150) (t 149))])
 (.seq (.after (.cond (t 151) (.skip) (.live [3,56,57,58,124,125,126] (.exit 10))) [3,56,57,58,124,125,126,148,149,150])
 (.seq (.after (.block 11 (.seq (R [3,15,56,57,58,124,125,126,148,149,150] [o 152 (.iaddr 1 (t 148) (t 150)),o 153 (.load none (t 152)),v 15 153])
 (R [3,56,57,58,124,125,126,148,149,150] [v 154 3,v 155 15,o 156 (.len .str (t 155)),o 157 (.bin .quo (t 156) (n 100)),o 158 (.bin .sub (t 154) (t 157)),v 3 158]))) [3,56,57,58,124,125,126,148,149,150])
 (R [3,56,57,58,124,125,126,148,149,150] [o 159 (.bin .add (t 150) (n 1)),v 150 159]))))
def code104L1:ACode :=
 .live [3,56,57,58,124,125,126] (.seq (R [3,56,57,58,124,125,126,127] [o 127 (.bin .lss (t 126) (t 125))])
 (.seq (.after (.cond (t 127) (.skip) (.live [3,56,57,58] (.exit 8))) [3,56,57,58,124,125,126])
 (.seq (.after (.block 9 (.seq (R [3,13,56,57,58,124,125,126] [o 128 (.iaddr 3 (t 124) (t 126)),o 129 (.load (some 3) (t 128)),o 13 (.lalloc [.int .i64 0,.slice none 0 (some 0),.slice none 0 (some 0)]),u (.store 3 (t 13) (t 129))])
 (.seq (R [3,13,56,57,58,124,125,126] [v 130 3,o 131 (.bin .sub (t 130) (n 1)),o 132 (.faddr (t 13) 1),o 133 (.load none (t 132)),o 134 (.len .sl (t 133)),o 135 (.bin .sub (t 131) (t 134)),o 136 (.faddr (t 13) 2),o 137 (.load none (t 136)),o 138 (.len .sl (t 137)),o 139 (.bin .sub (t 135) (t 138)),v 3 139])
 (.seq (.seq (R [3,13,56,57,58,124,125,126,141] [v 140 3,o 141 (.bin .lss (t 140) (n 0))])
 (.after (.cond (t 141) (.seq (R [2] [o 2 (.val F)])
 (.live [2] (.ret))) (.skip)) [3,13,56,57,58,124,125,126]))
 (.seq (.after (.region [⟨true,[0,0,2,7,0,16,63,127,0],[o 142 (.mkslice 1 0 [] []),o 143 (.faddr (t 13) 1),o 144 (.load none (t 143)),o 145 (.append 1 16 (t 142) (t 144)),o 146 (.faddr (t 13) 2),o 147 (.load none (t 146)),o 148 (.append 1 16 (t 145) (t 147)),o 149 (.len .sl (t 148)),o 150 (.val (n 0))]⟩]) [3,56,57,58,124,125,126,148,149,150])
 (.after (.block 10 (.loop code104L0)) [3,56,57,58,124,125,126])))))) [3,56,57,58,124,125,126])
 (R [3,56,57,58,124,125,126] [o 160 (.bin .add (t 126) (n 1)),v 126 160]))))
def code104L2:ACode :=
 .live [3,7,56,57,58,110,111,112] (.seq (R [3,7,56,57,58,110,111,112,113] [o 113 (.bin .lss (t 112) (t 111))])
 (.seq (.after (.cond (t 113) (.skip) (.live [3,7,56,57,58] (.exit 6))) [3,7,56,57,58,110,111,112])
 (.seq (.after (.block 7 (.seq (R [3,7,11,56,57,58,110,111,112] [o 114 (.iaddr 4 (t 110) (t 112)),o 115 (.load (some 4) (t 114)),o 11 (.lalloc [.int .i64 0,.int .i64 0,.int .i64 0,.str []]),u (.store 4 (t 11) (t 115))])
 (R [3,7,56,57,58,110,111,112] [v 116 3,o 117 (.faddr (t 11) 3),o 118 (.load none (t 117)),o 119 (.len .str (t 118)),o 120 (.bin .quo (t 119) (n 100)),o 121 (.bin .sub (t 116) (t 120)),v 3 121]))) [3,7,56,57,58,110,111,112])
 (R [3,7,56,57,58,110,111,112] [o 122 (.bin .add (t 112) (n 1)),v 112 122]))))
def code104L3:ACode :=
 .live [3,7,56,57,58,84,85,86] (.seq (R [3,7,56,57,58,84,85,86,87] [o 87 (.bin .lss (t 86) (t 85))])
 (.seq (.after (.cond (t 87) (.skip) (.live [3,7,56,57,58] (.exit 4))) [3,7,56,57,58,84,85,86])
 (.seq (.after (.block 5 (.seq (R [3,7,9,56,57,58,84,85,86] [o 88 (.iaddr 7 (t 84) (t 86)),o 89 (.load (some 7) (t 88)),o 9 (.lalloc [.int .u8 0,.int .i64 0,.int .i64 0,.str [],.str [],.str [],.str []]),u (.store 7 (t 9) (t 89))])
 (R [3,7,56,57,58,84,85,86] [v 90 3,o 91 (.faddr (t 9) 3),o 92 (.load none (t 91)),o 93 (.len .str (t 92)),o 94 (.faddr (t 9) 4),o 95 (.load none (t 94)),o 96 (.len .str (t 95)),o 97 (.bin .add (t 93) (t 96)),o 98 (.faddr (t 9) 5),o 99 (.load none (t 98)),o 100 (.len .str (t 99)),o 101 (.bin .add (t 97) (t 100)),o 102 (.faddr (t 9) 6),o 103 (.load none (t 102)),o 104 (.len .str (t 103)),o 105 (.bin .add (t 101) (t 104)),o 106 (.bin .quo (t 105) (n 100)),o 107 (.bin .sub (t 90) (t 106)),v 3 107]))) [3,7,56,57,58,84,85,86])
 (R [3,7,56,57,58,84,85,86] [o 108 (.bin .add (t 86) (n 1)),v 86 108]))))
def code104L4:ACode :=
 .live [3,56,57,58] (.seq (R [3,56,57,58,59] [o 59 (.bin .lss (t 58) (t 57))])
 (.seq (.after (.cond (t 59) (.skip) (.live [3] (.exit 2))) [3,56,57,58])
 (.seq (.after (.block 3 (.seq (R [3,7,56,57,58] [o 60 (.iaddr 8 (t 56) (t 58)),o 61 (.load (some 8) (t 60)),o 7 (.lalloc [.bool false,.str [],.str [],.int .i64 0,.int .i64 0,.slice none 0 (some 0),.slice none 0 (some 0),.slice none 0 (some 0)]),u (.store 8 (t 7) (t 61))])
 (.seq (R [3,7,56,57,58] [v 62 3,o 63 (.bin .sub (t 62) (n 1)),o 64 (.faddr (t 7) 5),o 65 (.load none (t 64)),o 66 (.len .sl (t 65)),o 67 (.bin .sub (t 63) (t 66)),o 68 (.faddr (t 7) 6),o 69 (.load none (t 68)),o 70 (.len .sl (t 69)),o 71 (.bin .sub (t 67) (t 70)),o 72 (.faddr (t 7) 1),o 73 (.load none (t 72)),o 74 (.len .str (t 73)),o 75 (.faddr (t 7) 2),o 76 (.load none (t 75)),o 77 (.len .str (t 76)),o 78 (.bin .add (t 74) (t 77)),o 79 (.bin .quo (t 78) (n 50)),o 80 (.bin .sub (t 71) (t 79)),v 3 80])
 (.seq (.seq (R [3,7,56,57,58,82] [v 81 3,o 82 (.bin .lss (t 81) (n 0))])
 (.after (.cond (t 82) (.seq (R [2] [o 2 (.val F)])
 (.live [2] (.ret))) (.skip)) [3,7,56,57,58]))
 (.seq (.seq (R [3,7,56,57,58,84,85,86] [o 83 (.faddr (t 7) 5),o 84 (.load none (t 83)),o 85 (.len .sl (t 84)),o 86 (.val (n 0))])
 (.after (.block 4 (.loop code104L3)) [3,7,56,57,58]))
 (.seq (.seq (R [3,7,56,57,58,110,111,112] [o 109 (.faddr (t 7) 6),o 110 (.load none (t 109)),o 111 (.len .sl (t 110)),o 112 (.val (n 0))])
 (.after (.block 6 (.loop code104L2)) [3,7,56,57,58]))
 (.seq (.seq (R [3,56,57,58,124,125,126] [o 123 (.faddr (t 7) 7),o 124 (.load none (t 123)),o 125 (.len .sl (t 124)),o 126 (.val (n 0))])
 (.after (.block 8 (.loop code104L1)) [3,56,57,58]))
 (.seq (R [3,56,57,58,162] [v 161 3,o 162 (.bin .lss (t 161) (n 0))])
 (.after (.cond (t 162) (.seq (R [2] [o 2 (.val F)])
 (.live [2] (.ret))) (.skip)) [3,56,57,58]))))))))) [3,56,57,58])
 (R [3,56,57,58] [o 163 (.bin .add (t 58) (n 1)),v 58 163]))))
def code104L5:ACode :=
 .live [1,3,37,38,39] (.seq (R [1,3,37,38,39,40] [o 40 (.bin .lss (t 39) (t 38))])
 (.seq (.after (.cond (t 40) (.skip) (.live [1,3] (.exit 0))) [1,3,37,38,39])
 (.seq (.after (.block 1 (.seq (R [1,3,5,37,38,39] [o 41 (.iaddr 3 (t 37) (t 39)),o 42 (.load (some 3) (t 41)),o 5 (.lalloc [.bool false,.str [],.str []]),u (.store 3 (t 5) (t 42))])
 (R [1,3,37,38,39] [v 43 3,o 44 (.bin .sub (t 43) (n 1)),o 45 (.faddr (t 5) 1),o 46 (.load none (t 45)),o 47 (.len .str (t 46)),o 48 (.faddr (t 5) 2),o 49 (.load none (t 48)),o 50 (.len .str (t 49)),o 51 (.bin .add (t 47) (t 50)),o 52 (.bin .quo (t 51) (n 50)),o 53 (.bin .sub (t 44) (t 52)),v 3 53]))) [1,3,37,38,39])
 (R [1,3,37,38,39] [o 54 (.bin .add (t 39) (n 1)),v 39 54]))))
def code104:AFunc:=⟨false,false,1,166,[.tmp 2],
 .seq (R [1] [o 1 (.lbox (t 0)),o 2 (.val F)])
 (.seq (.seq (R [1,35] [o 16 (.faddr (t 1) 2),o 17 (.load none (t 16)),o 18 (.len .sl (t 17)),o 19 (.bin .gtr (t 18) (n 70)),v 20 19,g 21 20 false (.faddr (t 1) 3),g 22 20 false (.load none (t 21)),g 23 20 false (.len .sl (t 22)),g 24 20 false (.bin .gtr (t 23) (n 40)),o 25 (.pick (t 20) Y (t 24)),v 26 25,g 27 26 false (.faddr (t 1) 0),g 28 26 false (.load none (t 27)),g 29 26 false (.len .str (t 28)),g 30 26 false (.faddr (t 1) 1),g 31 26 false (.load none (t 30)),g 32 26 false (.len .str (t 31)),g 33 26 false (.bin .add (t 29) (t 32)),g 34 26 false (.bin .gtr (t 33) (n 300)),o 35 (.pick (t 26) Y (t 34))])
 (.after (.cond (t 35) (.seq (R [2] [o 2 (.val F)])
 (.live [2] (.ret))) (.skip)) [1]))
 (.seq (R [1,3] [o 3 (.val (n 600))])
 (.seq (.seq (R [1,3,37,38,39] [o 36 (.faddr (t 1) 2),o 37 (.load none (t 36)),o 38 (.len .sl (t 37)),o 39 (.val (n 0))])
 (.after (.block 0 (.loop code104L5)) [1,3]))
 (.seq (.seq (R [3,56,57,58] [o 55 (.faddr (t 1) 3),o 56 (.load none (t 55)),o 57 (.len .sl (t 56)),o 58 (.val (n 0))])
 (.after (.block 2 (.loop code104L4)) [3]))
 (.seq (R [2] [v 164 3,o 165 (.bin .geq (t 164) (n 0)),v 2 165])
 (.live [2] (.ret))))))),none⟩
def code155L0:ACode :=
 .live [0,1,2,10,11] (.seq (R [0,1,2,10,11,12] [o 12 (.bin .lss (t 11) (t 10))])
 (.seq (.after (.cond (t 12) (.skip) (.live [] (.exit 0))) [0,1,2,10,11])
 (.seq (.after (.block 1 (.seq (.after (.region [⟨true,[],[o 14 (.load none (t 1)),o 15 (.nilcheck (t 14)),o 16 (.faddr (t 15) 0),o 17 (.load none (t 16)),o 18 (.load none (t 2))]⟩,⟨false,[],[o 19 (.ext (.lookup (.one .s) (.str []) true) [t 17,t 18]),v 13 19]⟩,⟨true,[],[o 20 (.extract (t 13) 0),o 21 (.extract (t 13) 1),v 4 20]⟩,⟨false,[],[v 5 21]⟩]) [0,1,2,4,5,10,11])
 (.seq (.seq (R [0,1,2,4,10,11,29] [v 22 5,o 23 (.un .not (t 22)),v 24 23,g 25 24 false (.val (t 0)),g 26 24 false (.load none (t 2)),g 27 24 false (.call (t 25) [t 26]),g 28 24 false (.un .not (t 27)),o 29 (.pick (t 24) Y (t 28))])
 (.after (.cond (t 29) (.live [] (.ret)) (.skip)) [0,1,2,4,10,11]))
 (R [0,1,2,10,11] [v 30 4,u (.store 1 (t 2) (t 30))])))) [0,1,2,10,11])
 (R [0,1,2,10,11] [o 31 (.bin .add (t 11) (n 1)),v 11 31]))))
def code155:AFunc:=⟨false,false,3,32,[],
 .seq (R [0,1,2,10,11] [o 6 (.load none (t 1)),o 7 (.nilcheck (t 6)),o 8 (.faddr (t 7) 0),o 9 (.load none (t 8)),o 10 (.len .map (t 9)),o 11 (.val (n 0))])
 (.after (.block 0 (.loop code155L0)) []),none⟩
def code156:AFunc:=⟨false,false,2,6,[.tmp 4],
 .seq (R [2,3] [o 2 (.box (t 0)),o 3 (.box (t 1)),o 4 (.val (.const (.nilFunc)))])
 (.seq (R [4] [o 5 (.mkfunc 155 [] [t 2,t 3]),v 4 5])
 (.live [4] (.ret))),none⟩
def code179:AFunc:=⟨false,false,0,10,[.cell 0 (some 16)],
 .seq (R [0] [o 0 (.lalloc [.str [],.str [],.str [],.str [],.str [],.str [],.str [],.str [],.str [],.str [],.str [],.str [],.str [],.str [],.str [],.str []])])
 (.seq (R [0] [o 1 (.build [.str [],.str []] [(0,1,.const (.str [112,114,105,110,116])),(1,1,.const (.str [40,73,41,86]))]),o 2 (.build [.str [],.str []] [(0,1,.const (.str [112,114,105,110,116,76,111,110,103])),(1,1,.const (.str [40,74,41,86]))]),o 3 (.build [.str [],.str []] [(0,1,.const (.str [112,114,105,110,116,84,101,120,116])),(1,1,.const (.str [40,91,66,41,86]))]),o 4 (.build [.str [],.str []] [(0,1,.const (.str [97,100,100])),(1,1,.const (.str [40,91,66,41,73]))]),o 5 (.build [.str [],.str []] [(0,1,.const (.str [103,101,116])),(1,1,.const (.str [40,73,41,91,66]))]),o 6 (.build [.str [],.str []] [(0,1,.const (.str [115,101,116])),(1,1,.const (.str [40,73,91,66,41,86]))]),o 7 (.build [.str [],.str []] [(0,1,.const (.str [100,101,108])),(1,1,.const (.str [40,73,41,86]))]),o 8 (.build [.str [],.str []] [(0,1,.const (.str [99,111,117,110,116])),(1,1,.const (.str [40,41,73]))]),o 9 (.build [.str [],.str [],.str [],.str [],.str [],.str [],.str [],.str [],.str [],.str [],.str [],.str [],.str [],.str [],.str [],.str []] [(0,2,t 1),(2,2,t 2),(4,2,t 3),(6,2,t 4),(8,2,t 5),(10,2,t 6),(12,2,t 7),(14,2,t 8)]),u (.store 16 (t 0) (t 9))])
 (.live [0] (.ret))),none⟩
def code181:AFunc:=⟨false,false,1,10,[.tmp 2],
 .seq (R [0] [o 2 (.val F)])
 (.seq (R [2] [v 3 0,o 4 (.callg 180 [t 3,.const (.str [47])]),o 5 (.un .not (t 4)),v 6 5,g 7 6 true (.val (t 0)),g 8 6 true (.callg 25 [t 7]),o 9 (.pick (t 6) (t 8) F),v 2 9])
 (.live [2] (.ret))),none⟩
def code182L0:ACode :=
 .live [0,42,43,44] (.seq (R [0,42,43,44,45] [o 45 (.bin .lss (t 44) (t 43))])
 (.seq (.after (.cond (t 45) (.skip) (.live [] (.exit 2))) [0,42,43,44])
 (.seq (.after (.block 3 (.seq (R [0,11,42,43,44] [o 46 (.iaddr 4 (t 42) (t 44)),o 47 (.load (some 4) (t 46)),o 11 (.lalloc [.int .i64 0,.int .i64 0,.int .i64 0,.str []]),u (.store 4 (t 11) (t 47))])
 (.seq (R [0,42,43,44,57] [o 48 (.faddr (t 11) 3),o 49 (.load none (t 48)),o 50 (.bin .neq (t 49) (.const (.str []))),v 51 50,g 52 51 true (.val (t 0)),g 53 51 true (.faddr (t 11) 3),g 54 51 true (.load none (t 53)),g 55 51 true (.callg 54 [t 52,t 54]),g 56 51 true (.un .not (t 55)),o 57 (.pick (t 51) (t 56) F)])
 (.after (.cond (t 57) (.seq (R [4] [o 4 (.val F)])
 (.live [4] (.ret))) (.skip)) [0,42,43,44])))) [0,42,43,44])
 (R [0,42,43,44] [o 58 (.bin .add (t 44) (n 1)),v 44 58]))))
def code182L1:ACode :=
 .live [0,3,30,31,32] (.seq (R [0,3,30,31,32,33] [o 33 (.bin .lss (t 32) (t 31))])
 (.seq (.after (.cond (t 33) (.skip) (.live [0,3] (.exit 0))) [0,3,30,31,32])
 (.seq (.after (.block 1 (.seq (R [0,3,9,30,31,32] [o 34 (.iaddr 1 (t 30) (t 32)),o 35 (.load none (t 34)),v 9 35])
 (.seq (R [0,3,30,31,32,39] [v 36 0,v 37 9,o 38 (.callg 103 [t 36,t 37]),o 39 (.un .not (t 38))])
 (.after (.cond (t 39) (.seq (R [4] [o 4 (.val F)])
 (.live [4] (.ret))) (.skip)) [0,3,30,31,32])))) [0,3,30,31,32])
 (R [0,3,30,31,32] [o 40 (.bin .add (t 32) (n 1)),v 32 40]))))
def code182:AFunc:=⟨false,false,2,59,[.tmp 4],
 .seq (R [0,3] [o 3 (.lbox (t 1)),o 4 (.val F)])
 (.seq (R [0,3,5,6,7] [o 13 (.faddr (t 3) 2),o 14 (.load none (t 13)),o 15 (.callg 38 [t 14]),v 12 15,o 16 (.extract (t 12) 0),o 17 (.extract (t 12) 1),o 18 (.extract (t 12) 2),v 5 16,v 6 17,v 7 18])
 (.seq (.seq (R [0,3,5,6,26] [v 19 7,o 20 (.bin .neq (t 19) (n 0)),v 21 20,g 22 21 false (.faddr (t 3) 1),g 23 21 false (.load none (t 22)),g 24 21 false (.callg 181 [t 23]),g 25 21 false (.un .not (t 24)),o 26 (.pick (t 21) Y (t 25))])
 (.after (.cond (t 26) (.seq (R [4] [o 4 (.val F)])
 (.live [4] (.ret))) (.skip)) [0,3,5,6]))
 (.seq (.seq (R [0,3,30,31,32] [v 27 5,v 28 6,o 29 (.mkslice 1 1 [.str []] [(0,1,t 28)]),o 30 (.append 1 16 (t 27) (t 29)),o 31 (.len .sl (t 30)),o 32 (.val (n 0))])
 (.after (.block 0 (.loop code182L1)) [0,3]))
 (.seq (.seq (R [0,42,43,44] [o 41 (.faddr (t 3) 6),o 42 (.load none (t 41)),o 43 (.len .sl (t 42)),o 44 (.val (n 0))])
 (.after (.block 2 (.loop code182L0)) []))
 (.seq (R [4] [o 4 (.val Y)])
 (.live [4] (.ret))))))),none⟩
def code284L0:ACode :=
 .live [1,24,25] (.seq (R [1,24,25,26] [o 26 (.bin .lss (t 25) (n 8))])
 (.seq (.after (.cond (t 26) (.skip) (.live [1] (.exit 2))) [1,24,25])
 (.seq (.after (.block 3 (.seq (R [1,5,24,25] [o 27 (.aindex 8 2 (some 2) (t 24) (t 25)),o 5 (.lalloc [.str [],.str []]),u (.store 2 (t 5) (t 27))])
 (.seq (R [1,6,24,25] [o 28 (.aaddr 2 1 (t 5) (n 0)),o 29 (.load none (t 28)),o 30 (.aaddr 2 1 (t 5) (n 1)),o 31 (.load none (t 30)),o 32 (.build [.str [],.str [],.str []] [(0,1,.const (.str [115,121,115])),(1,1,t 29),(2,1,t 31)]),o 6 (.lalloc [.str [],.str [],.str []]),u (.store 3 (t 6) (t 32))])
 (.seq (.after (.region [⟨true,[],[v 33 1,o 34 (.nilcheck (t 33)),o 35 (.faddr (t 34) 2),o 36 (.load none (t 35)),o 37 (.load (some 3) (t 6)),o 38 (.build [.str [],.bool false] [(0,1,.const (.str [115,121,115])),(1,1,.const (.bool true))])]⟩,⟨false,[],[u (.ext (.mapupd (.agg [.s,.s,.s])) [t 36,t 37,t 38])]⟩]) [1,6,24,25])
 (.after (.region [⟨true,[],[v 39 1,o 40 (.nilcheck (t 39)),o 41 (.faddr (t 40) 3),o 42 (.load none (t 41)),o 43 (.load (some 3) (t 6))]⟩,⟨false,[],[u (.ext (.mapupd (.agg [.s,.s,.s])) [t 42,t 43,.const (.bool true)])]⟩]) [1,24,25]))))) [1,24,25])
 (R [1,24,25] [o 44 (.bin .add (t 25) (n 1)),v 25 44]))))
def code284L1:ACode :=
 .live [1,14,15] (.seq (R [1,14,15,16] [o 16 (.bin .lss (t 15) (n 6))])
 (.seq (.after (.cond (t 16) (.skip) (.live [1] (.exit 0))) [1,14,15])
 (.seq (.after (.block 1 (.seq (R [1,3,14,15] [o 17 (.aindex 6 1 none (t 14) (t 15)),v 3 17])
 (R [1,14,15] [v 18 1,o 19 (.nilcheck (t 18)),o 20 (.faddr (t 19) 0),o 21 (.load none (t 20)),v 22 3,u (.ext (.mapupd (.one .s)) [t 21,t 22,.const (.str [84,104,114,111,119,97,98,108,101])])]))) [1,14,15])
 (R [1,14,15] [o 23 (.bin .add (t 15) (n 1)),v 15 23]))))
def code284:AFunc:=⟨false,false,0,46,[.tmp 0],
 .seq (R [] [o 0 (.val (.const (.ptr none)))])
 (.seq (R [1] [o 7 (.ext .mkmap []),u (.ext (.mapupd (.one .s)) [t 7,.const (.str [79,98,106,101,99,116]),.const (.str [])]),u (.ext (.mapupd (.one .s)) [t 7,.const (.str [84,104,114,111,119,97,98,108,101]),.const (.str [79,98,106,101,99,116])]),u (.ext (.mapupd (.one .s)) [t 7,.const (.str [115,121,115]),.const (.str [79,98,106,101,99,116])]),v 8 7,o 9 (.ext .mkmap []),o 10 (.ext .mkmap []),o 11 (.ext .mkmap []),o 12 (.build [.map none,.map none,.map none,.map none] [(0,1,t 8),(1,1,t 9),(2,1,t 10),(3,1,t 11)]),o 13 (.box (t 12)),v 1 13])
 (.seq (.seq (R [1,14,15] [o 14 (.build [.str [],.str [],.str [],.str [],.str [],.str []] [(0,1,.const (.str [78,117,108,108,70,97,117,108,116])),(1,1,.const (.str [66,111,117,110,100,115,70,97,117,108,116])),(2,1,.const (.str [77,97,116,104,70,97,117,108,116])),(3,1,.const (.str [67,97,115,116,70,97,117,108,116])),(4,1,.const (.str [83,105,122,101,70,97,117,108,116])),(5,1,.const (.str [83,116,111,114,101,70,97,117,108,116]))]),o 15 (.val (n 0))])
 (.after (.block 0 (.loop code284L1)) [1]))
 (.seq (.seq (R [1,24,25] [o 24 (.callg 179 []),o 25 (.val (n 0))])
 (.after (.block 2 (.loop code284L0)) [1]))
 (.seq (R [0] [v 45 1,v 0 45])
 (.live [0] (.ret)))))),none⟩
def T:Nat→Option AFunc:=fun g=>match AbsDesc.T g with
 | some f=>some f
 | none=>List.lookup g [(49,code49),(54,code54),(96,code96),(322,code322),(97,code97),(321,code321),(98,code98),(99,code99),(100,code100),(103,code103),(104,code104),(155,code155),(156,code156),(179,code179),(181,code181),(182,code182),(284,code284)]
theorem sub:∀ g f,AbsDesc.T g=some f→T g=some f:=fun g f h=>by unfold T; rw [h]
theorem t49:T 49=some code49:=rfl
theorem t54:T 54=some code54:=rfl
theorem t96:T 96=some code96:=rfl
theorem t322:T 322=some code322:=rfl
theorem t97:T 97=some code97:=rfl
theorem t321:T 321=some code321:=rfl
theorem t98:T 98=some code98:=rfl
theorem t99:T 99=some code99:=rfl
theorem t100:T 100=some code100:=rfl
theorem t103:T 103=some code103:=rfl
theorem t104:T 104=some code104:=rfl
theorem t155:T 155=some code155:=rfl
theorem t156:T 156=some code156:=rfl
theorem t179:T 179=some code179:=rfl
theorem t181:T 181=some code181:=rfl
theorem t182:T 182=some code182:=rfl
theorem t284:T 284=some code284:=rfl
end Go.Abs.AbsHier

namespace Go.Abs.AbsHier
open Go.Abs.AbsDesc
variable {os O:List AObj} {b w:Nat}
theorem s27 {s:Str} (hn:s.length≤9223372036854775807) (hb:b≤os.length):xCall T 27 [.str s] ⟨os,b,w⟩=some (.bool (isTy s),⟨os,b,w⟩):=jd sub (AbsDesc.s27 hn hb)
theorem s25 {s:Str} (hb:b≤os.length):xCall T 25 [.str s] ⟨os,b,w⟩=some (.bool (isClass s),⟨os,b,w⟩):=jd sub (AbsDesc.s25 hb)
theorem s34 {s:Str} (hn:s.length≤9223372036854775807):xCall T 34 [.str s] ⟨os,b,w⟩=some (classV s,⟨os,b,w⟩):=jd sub (AbsDesc.s34 hn)
theorem s38 {s:Str} (hn:s.length≤9223372036854775807) (hb:b≤os.length):xCall T 38 [.str s] ⟨os,b,w⟩=some (methV os.length (methL s),⟨methO os (methL s),b,w⟩):=jd sub (AbsDesc.s38 hn hb)
theorem s139 {s:Str}:xCall T 139 [.str s,.str [91]] ⟨os,b,w⟩=some (.str (bare s),⟨os,b,w⟩):=jd sub AbsDesc.s139
theorem s173 {s:Str} {c:UInt8} {h:Heap}:xCall T 173 [.str s,.str [c]] h=some (.int .i64 (Lib.indexByte s c),h):=jd sub AbsDesc.s173
theorem d180 {s:Str} {c:UInt8}:xCall AbsDesc.T 180 [.str s,.str [c]] ⟨os,b,w⟩=some (.bool (decide (0≤Lib.indexByte s c)),⟨os,b,w⟩):=by
 simp [cd AbsDesc.t180,code180,AbsDesc.s173]
theorem s180 {s:Str} {c:UInt8}:xCall T 180 [.str s,.str [c]] ⟨os,b,w⟩=some (.bool (decide (0≤Lib.indexByte s c)),⟨os,b,w⟩):=jd sub d180
abbrev Key:=Str × Str × Str
structure Mem where
 cls:Str
 st:Bool
 deriving DecidableEq
def keyF (k:Key):AVal:=.agg [.str k.1,.str k.2.1,.str k.2.2]
def memF (m:Mem):AVal:=.agg [.str m.cls,.bool m.st]
theorem keyKey:KeyF keyF:=fun a c=>by
 obtain ⟨a1,a2,a3⟩:=a
 obtain ⟨c1,c2,c3⟩:=c
 simp only [keyF,akey,az,co,if_true,akeyL,akey1]
 by_cases h1:a1=c1
 ·by_cases h2:a2=c2
  ·by_cases h3:a3=c3 <;> simp [h1,h2,h3]
  ·simp [h1,h2]
 ·simp [h1]
structure World (O:List AObj) (N:Nat) (S:List (Str × Str)) (F M:List (Key × Mem)) (V:List (Key × Bool)):Prop where
 w0:O[N]? = some (.cells 4 [.map (some (N+1)),.map (some (N+2)),.map (some (N+3)),.map (some (N+4))])
 m1:O[N+1]? = some (mObj .str .str S)
 m2:O[N+2]? = some (mObj keyF memF F)
 m3:O[N+3]? = some (mObj keyF memF M)
 m4:O[N+4]? = some (mObj keyF .bool V)
variable {N:Nat} {S:List (Str × Str)} {F M:List (Key × Mem)} {V:List (Key × Bool)}
theorem World.lt (h:World O N S F M V):N+4 < O.length:=aj h.m4
theorem World.app (h:World O N S F M V) (X:List AObj):World (O++X) N S F M V:=by
 have:=h.lt
 constructor <;> (rw [ah (by omega)])
 ·exact h.w0
 ·exact h.m1
 ·exact h.m2
 ·exact h.m3
 ·exact h.m4
theorem s96 (h:World O N S F M V) {c:Str}:xCall T 96 [.ptr (some (N,0)),.str c] ⟨O,b,w⟩=some (.tuple [.str ((getE S c).getD []),.bool (getE S c).isSome],⟨O,b,w⟩):=by
 have hl:=fun w=>lookup_ok (b:=b) (w:=w) (kn:=.one .s) (zero:=.str []) keyStr h.m1 (k:=c) rfl
 have e:((getE S c).map AVal.str).getD (.str []) = .str ((getE S c).getD []):=by cases getE S c <;> rfl
 rw [e] at hl
 simp [-evExt,cd t96,code96,h.w0,hl]
theorem s54 (h:World O N S F M V) {c:Str}:xCall T 54 [.ptr (some (N,0)),.str c] ⟨O,b,w⟩=some (.bool (getE S c).isSome,⟨O,b,w⟩):=by
 have hl:=fun w=>s96 (b:=b) (w:=w) h (c:=c)
 simp [cd t54,code54,hl]
def classOf (s:Str):Option Str:=if isObj s then some ((s.drop 1).take (s.length - 2)) else none
theorem classV_eq (s:Str):classV s = .tuple [.str ((classOf s).getD []),.bool (classOf s).isSome]:=by
 unfold classV classOf
 cases isObj s <;> rfl
def thereS (S:List (Str × Str)) (t:Str):Bool:=match classOf (bare t) with
 | some c=>(getE S c).isSome
 | none=>true
theorem s103 (h:World O N S F M V) {t:Str} (hn:t.length≤9223372036854775807):xCall T 103 [.ptr (some (N,0)),.str t] ⟨O,b,w⟩=some (.bool (thereS S t),⟨O,b,w⟩):=by
 have h1:=fun w=>s139 (os:=O) (b:=b) (w:=w) (s:=t)
 have hb:=bare_len t
 have h2:=fun w=>s34 (os:=O) (b:=b) (w:=w) (s:=bare t) (by omega)
 have h3:=fun w c=>s54 (b:=b) (w:=w) h (c:=c)
 rw [classV_eq] at h2
 unfold thereS
 cases hc:classOf (bare t) with
 | none=>rw [hc] at h2; simp [cd t103,code103,h1,h2,h3]
 | some c=>rw [hc] at h2; simp [cd t103,code103,h1,h2,h3]
def isName (s:Str):Bool:=!decide (0≤Lib.indexByte s 47) && isClass s
theorem s181 {s:Str} (hb:b≤O.length):xCall T 181 [.str s] ⟨O,b,w⟩=some (.bool (isName s),⟨O,b,w⟩):=by
 have h1:=fun w=>s180 (os:=O) (b:=b) (w:=w) (s:=s) (c:=47)
 have h2:=fun w=>s25 (os:=O) (b:=b) (w:=w) (s:=s) hb
 unfold isName
 by_cases c:0≤Lib.indexByte s 47
 ·simp [cd t181,code181,h1,h2,c]
 ·simp [cd t181,code181,h1,h2,c]
end Go.Abs.AbsHier

namespace Go.Abs.AbsHier
open Go.Abs.AbsDesc
variable {os O:List AObj} {b w:Nat} {N:Nat} {S:List (Str × Str)} {F M:List (Key × Mem)} {V:List (Key × Bool)}
def lineS (S:List (Str × Str)):Nat→Str→List Str
 | 0,_=>[]
 | k+1,c=>match getE S c with
  | some d=>c :: lineS S k d
  | none=>[]
def runL {σ:Type} (step:σ→Str→σ × Option AExit):σ→List Str→σ × Option AExit
 | x,[]=>(x,none)
 | x,c :: r=>match step x c with
  | (y,none)=>runL step y r
  | (y,some e)=>(y,some e)
theorem s156 {c:Str} (hN:N < O.length):xCall T 156 [.ptr (some (N,0)),.str c] ⟨O,b,w⟩ =
  some (.func 155 [] [.ptr (some (O.length,0)),.ptr (some (O.length+1,0))],⟨O++[.cells 1 [.ptr (some (N,0))],.cells 1 [.str c]],b,w⟩):=by
 simp (disch:=omega) [cd t156,code156,jr,reach_done,nltT,nltF,hN]
structure LineB {σ:Type} (B:σ→Str→AObj→List AObj) (N n i g lo:Nat) (sl:List (Nat × AVal)) (S:List (Str × Str)) (step:σ→Str→σ × Option AExit) (b:Nat):Prop where
 bn:b≤n
 lon:lo≤n
 c0:∀ x c o,(B x c o)[n]? = some (.cells 1 [.ptr (some (N,0))])
 c1:∀ x c o,(B x c o)[n+1]? = some (.cells 1 [.str c])
 set:∀ x c d o,(B x c o).set (n+1) (.cells 1 [.str d])=B x d o
 loop:∀ x c o,(B x c o)[i]? = some o
 w0:∀ x c o,∃ r,(B x c o)[N]? = some (.cells 4 (.map (some (N+1)) :: r))
 m1:∀ x c o,(B x c o)[N+1]? = some (mObj .str .str S)
 body:∀ x c w,lo≤w→∃ w',lo≤w'∧w'≤i∧xCall T g [.ptr (some (i,0)),.str c] ⟨B x c (.loop g .ready none sl),b,w⟩ =
  some (.bool (step x c).2.isNone,⟨B (step x c).1 c (match (step x c).2 with | none=>.loop g .ready none sl | some e=>.loop g .done (some e) sl),b,w'⟩)
def endO (g:Nat) (sl:List (Nat × AVal)):Option AExit→AObj
 | none=>.loop g .ready none sl
 | some e=>.loop g .done (some e) sl
section
variable {σ:Type} {B:σ→Str→AObj→List AObj} {n i g lo:Nat} {sl:List (Nat × AVal)} {step:σ→Str→σ × Option AExit}
section
attribute [-simp] getElem?_pos getElem?_neg
theorem l155 (h:LineB B N n i g lo sl S step b) (hS:S.length≤9223372036854775807):∀ (j q:Nat) (x:σ) (c:Str) (w:Nat),q+j=S.length→lo≤w →
  ∃ c' w' e,lo≤w'∧(w'≤i∨(lineS S j c=[]∧c'=c∧w'=w))∧(e = .ret∨e = .exit 0)∧∀ (k:AExit→St→Option (AVal × Heap)),xK T (.loop code155L0) ⟨[(0,.val (.yield i)),(1,.val (.ptr (some (n,0)))),(2,.val (.ptr (some (n+1,0)))),(10,.val (.int .i64 S.length)),(11,.val (.int .i64 q))],⟨B x c (.loop g .ready none sl),b,w⟩⟩ (k:=⟨k⟩) =
   k e ⟨[],⟨B (runL step x (lineS S j c)).1 c' (endO g sl (runL step x (lineS S j c)).2),b,w'⟩⟩
 | 0,q,x,c,w,hq,hw=>by
  refine ⟨c,w,.exit 0,hw,.inr ⟨rfl,rfl,rfl⟩,.inr rfl,fun k=>?_⟩
  rw [bl]
  simp (disch:=omega) [code155L0,iltF,lineS,runL,endO]
 | j+1,q,x,c,w,hq,hw=>by
  obtain ⟨r,hr⟩:=h.w0 x c (.loop g .ready none sl)
  have h0:=h.c0 x c (.loop g .ready none sl)
  have h1:=h.c1 x c (.loop g .ready none sl)
  have hl:=h.loop x c (.loop g .ready none sl)
  have hlk:=lookup_ok (b:=b) (w:=(B x c (.loop g .ready none sl)).length) (kn:=.one .s) (zero:=.str []) keyStr (h.m1 x c (.loop g .ready none sl)) (k:=c) rfl
  have hlk2:=lookup_ok (b:=b) (w:=w) (kn:=.one .s) (zero:=.str []) keyStr (h.m1 x c (.loop g .ready none sl)) (k:=c) rfl
  have e:((getE S c).map AVal.str).getD (.str []) = .str ((getE S c).getD []):=by cases getE S c <;> rfl
  rw [e] at hlk hlk2
  cases hg:getE S c with
  | none =>
   refine ⟨c,w,.ret,hw,.inr ⟨by simp only [lineS,hg],rfl,rfl⟩,.inl rfl,fun k=>?_⟩
   rw [hg] at hlk hlk2
   simp only [ki,jm,da,kw] at hlk hlk2
   rw [bl]
   simp (disch:=omega) [-evExt,gz,gs,code155L0,iltT,h0,h1,hr,hlk,hlk2,lineS,runL,endO,hg]
  | some d =>
   rw [hg] at hlk hlk2
   simp only [ki,jm,da,kw] at hlk hlk2
   obtain ⟨w1,hw1,hwi,hb⟩:=h.body x c w hw
   have hbn:=h.bn
   have hlon:=h.lon
   cases hst:step x c with
   | mk y e =>
    rw [hst] at hb
    simp only at hb
    cases e with
    | some e =>
     refine ⟨c,w1,.ret,hw1,.inl hwi,.inl rfl,fun k=>?_⟩
     rw [bl]
     simp (disch:=omega) [-evExt,gz,gs,code155L0,iltT,h0,h1,hr,hl,hlk,hlk2,hb,lineS,runL,endO,hg,hst]
    | none =>
     obtain ⟨c',w',e',hw',hwj,he',ih⟩:=l155 h hS j (q+1) y d (min w1 (n+1)) (by omega) (by omega)
     refine ⟨c',w',e',hw',?_,he',fun k=>?_⟩
     ·rcases hwj with h2 | ⟨_,_,h2⟩
      ·exact .inl h2
      ·exact .inl (by omega)
     have ih:=ih k
     have e2:((q+1:Nat):Int)=(q:Int)+1:=by omega
     rw [e2] at ih
     have h1':=h.c1 y c (.loop g .ready none sl)
     have hs:=h.set y c d (.loop g .ready none sl)
     rw [bl]
     generalize ACode.loop code155L0=L at ih ⊢
     simp (disch:=omega) [-evExt,gz,gs,code155L0,iltT,nleT,dh,h0,h1,h1',hr,hl,hlk,hlk2,hb,hs,lineS,runL,hg,hst,ih]
end
theorem s155 (h:LineB B N n i g lo sl S step b) (hS:S.length≤9223372036854775807) (x:σ) (c:Str) (w:Nat) (hw:lo≤w) (hlo:lo≤(B x c (.loop g .ready none sl)).length) :
  ∃ c' w',lo≤w'∧xCall T 155 [.yield i,.ptr (some (n,0)),.ptr (some (n+1,0))] ⟨B x c (.loop g .ready none sl),b,w⟩ =
   some (.tuple [],⟨B (runL step x (lineS S S.length c)).1 c' (endO g sl (runL step x (lineS S S.length c)).2),b,w'⟩):=by
 have h0:=h.c0 x c (.loop g .ready none sl)
 obtain ⟨r,hr⟩:=h.w0 x c (.loop g .ready none sl)
 have hlen:=fun w=>len_map (b:=b) (w:=w) (h.m1 x c (.loop g .ready none sl))
 obtain ⟨c',w',e,hw',hwi,he,hl⟩:=l155 h hS S.length 0 x c (B x c (.loop g .ready none sl)).length (by omega) hlo
 simp only [bf] at hl
 have hil:=aj (h.loop x c (.loop g .ready none sl))
 refine ⟨c',if w' < (B x c (.loop g .ready none sl)).length then min w w' else w,by split <;> omega,?_⟩
 rcases he with rfl | rfl
 all_goals
  simp (disch:=omega) [-getElem?_pos,-getElem?_neg,-evLen,gz,gs,cd t155,code155,h0,hr,hlen,hl]
  rcases hwi with hwi | ⟨h1,h2,_⟩
  ·rw [if_pos (by omega),if_pos (by omega)]
  ·subst h2
   rw [h1]
   split <;> simp [runL,endO]
end
end Go.Abs.AbsHier

namespace Go.Abs.AbsHier
open Go.Abs.AbsDesc
variable {os O:List AObj} {b w:Nat} {N:Nat} {S:List (Str × Str)} {F M:List (Key × Mem)} {V:List (Key × Bool)}
def objectT:Str:=[79,98,106,101,99,116]
def lineEndB (O:List AObj) (N:Nat) (x:Str × Int) (c:Str) (o:AObj):List AObj :=
 O++[.cells 1 [.str x.1],.cells 1 [.int .i64 x.2],.cells 1 [.ptr (some (N,0))],.cells 1 [.str c],o]
def lineEndStep (x:Str × Int) (c:Str):(Str × Int) × Option AExit:=((c,IntKind.i64.wrap (x.2+1)),none)
theorem lineEnd_at (h:World O N S F M V) (hb:b≤O.length):LineB (lineEndB O N) N (O.length+2) (O.length+4) 321 O.length [(5,.ptr (some (O.length,0))),(6,.ptr (some (O.length+1,0)))] S lineEndStep b where
 bn:=by omega
 lon:=by omega
 c0:=fun x c o=>by unfold lineEndB; rw [eb]; rfl
 c1:=fun x c o=>by unfold lineEndB; rw [cf,eb]; rfl
 set:=fun x c d o=>by unfold lineEndB; rw [cf,ie]; rfl
 loop:=fun x c o=>by unfold lineEndB; rw [eb]; rfl
 w0:=fun x c o=>⟨_,by unfold lineEndB; rw [ah (by have:=h.lt; omega)]; exact h.w0⟩
 m1:=fun x c o=>by unfold lineEndB; rw [ah (by have:=h.lt; omega)]; exact h.m1
 body:=fun x c w hw=>by
  have hb1:b≤O.length+1:=by omega
  have hb4:b≤O.length+4:=by omega
  refine ⟨O.length,ak _,by omega,?_⟩
  simp (disch:=omega) [-getElem?_pos,-getElem?_neg,gz,gs,xRoundK t321 rfl,round321,rcode321a,rcode321b,roundSlots,roundIn,roundOut,setArgs,ofCaps,lineEndB,lineEndStep,nltT,nltF,eb,fk,ie,gp,hb,hb1,hb4]
theorem lineS_len (S:List (Str × Str)):∀ (k:Nat) (c:Str),(lineS S k c).length≤k
 | 0,_=>ak _
 | k+1,c=>by
  simp only [lineS]
  split
  ·rename_i d _
   have:=lineS_len S k d
   simp only [az]; omega
  ·simp
theorem lineEnd_run:∀ (L:List Str) (l:Str) (k:Nat),k+L.length≤9223372036854775807→runL lineEndStep (l,(k:Int)) L=((L.getLastD l,((k+L.length:Nat):Int)),none)
 | [],l,k,_=>rfl
 | c :: L,l,k,h=>by
  simp only [az] at h
  simp only [runL,lineEndStep]
  rw [wrap_next (n:=k+1) (by omega) (by omega),lineEnd_run L c (k+1) (by omega)]
  simp only [List.getLastD_cons,az]
  congr 3
  omega
def endsS (S:List (Str × Str)) (c:Str):Bool:=decide ((lineS S S.length c).getLastD []=objectT) && decide (1 < (lineS S S.length c).length)
theorem s98 (h:World O N S F M V) (hb:b≤O.length) (hS:S.length≤9223372036854775807) {c:Str}:xCall T 98 [.ptr (some (N,0)),.str c] ⟨O,b,w⟩=some (.bool (endsS S c),⟨O,b,w⟩):=by
 have hN:=h.lt
 have hN2:N < O.length+2:=by omega
 have hb1:b≤O.length+1:=by omega
 have hb4:b≤O.length+4:=by omega
 have h1:=fun w=>s156 (O:=O++[.cells 1 [.str []],.cells 1 [.int .i64 0]]) (b:=b) (w:=w) (N:=N) (c:=c) (by simp; omega)
 simp only [bc,az,co,bt,ba,db,c9,Nat.reduceAdd,cf] at h1
 obtain ⟨c',w',hw',h2⟩:=s155 (lineEnd_at h hb) hS ([],0) c O.length (ak _) (by simp [lineEndB])
 have hrun:=lineEnd_run (lineS S S.length c) [] 0 (by have:=lineS_len S S.length c; omega)
 simp only [bf,bt] at hrun
 rw [hrun] at h2
 simp only [lineEndB,endO,cf,Nat.reduceAdd] at h2
 unfold endsS objectT
 generalize (lineS S S.length c).getLastD []=l at h2 ⊢
 by_cases e:l=[79,98,106,101,99,116]
 ·simp (disch:=omega) [-getElem?_pos,-getElem?_neg,gz,gs,cd t98,code98,capsOf,callVal,h1,h2,loopEnd,nltT,nltF,eb,fk,ie,gp,hb,hb1,hb4,e]
  omega
 ·simp (disch:=omega) [-getElem?_pos,-getElem?_neg,gz,gs,cd t98,code98,capsOf,callVal,h1,h2,loopEnd,nltT,nltF,eb,fk,ie,gp,hb,hb1,hb4,e]
end Go.Abs.AbsHier

namespace Go.Abs.AbsHier
open Go.Abs.AbsDesc
variable {os O:List AObj} {b w:Nat} {N:Nat} {S:List (Str × Str)} {F M:List (Key × Mem)} {V:List (Key × Bool)}
end Go.Abs.AbsHier

namespace Go.Abs.AbsHier
open Go.Abs.AbsDesc
variable {os O:List AObj} {b w:Nat} {N:Nat} {S:List (Str × Str)} {F M:List (Key × Mem)} {V:List (Key × Bool)}
def overB (O G:List AObj) (N:Nat) (m:MethU) (x:Bool) (c:Str) (o:AObj):List AObj :=
 O ++ .cells 1 [.ptr (some (N,0))] :: .cells 1 [.bool x] :: (G++[.cells 8 m.cells,.cells 1 [.ptr (some (N,0))],.cells 1 [.str c],o])
def overOk (M:List (Key × Mem)) (m:MethU) (c:Str):Bool:=match getE M (c,m.name,m.desc) with
 | some y=>y.st == m.st
 | none=>true
def overStep (M:List (Key × Mem)) (m:MethU) (x:Bool) (c:Str):Bool × Option AExit:=if overOk M m c then (x,none) else (false,some .ret)
section
attribute [-simp] getElem?_pos getElem?_neg
attribute [local simp] gz gs
theorem over_at {G:List AObj} {m:MethU} (h:World O N S F M V) (hb:b≤O.length) :
  LineB (overB O G N m) N (O.length+(G.length+3)) (O.length+(G.length+5)) 322 O.length [(2,.ptr (some (O.length,0))),(4,.ptr (some (O.length+1,0))),(6,.ptr (some (O.length+(G.length+2),0)))] S (overStep M m) b where
 bn:=by omega
 lon:=by omega
 c0:=fun x c o=>by unfold overB; rw [eb]; simp only [fp,eb]; rfl
 c1:=fun x c o=>by unfold overB; rw [cf,eb]; simp only [fp,cf,eb]; rfl
 set:=fun x c d o=>by unfold overB; rw [cf,ie]; simp only [List.set_cons_succ,cf,ie]; rfl
 loop:=fun x c o=>by unfold overB; rw [eb]; simp only [fp,eb]; rfl
 w0:=fun x c o=>⟨_,by unfold overB; rw [ah (by have:=h.lt; omega)]; exact h.w0⟩
 m1:=fun x c o=>by unfold overB; rw [ah (by have:=h.lt; omega)]; exact h.m1
 body:=fun x c w hw=>by
  have hl:=h.lt
  have hw0:∀ X,(O++X)[N]? = _:=fun X=>(ah (l₂:=X) (show N < O.length by omega)).trans h.w0
  have hb1:b≤O.length+1:=by omega
  have hb5:b≤O.length+(G.length+5):=by omega
  have hlk:=fun X w=>lookup_ok (os:=O++X) (b:=b) (w:=w) (r:=N+3) (A:=M) (vf:=memF) (kn:=.agg [.s,.s,.s]) (zero:=.agg [.str [],.bool false]) keyKey (by rw [ah (by omega)]; exact h.m3) (k:=(c,m.name,m.desc)) rfl
  simp only [keyF] at hlk
  cases hg:getE M (c,m.name,m.desc) with
  | none =>
   rw [hg] at hlk
   simp only [Option.map_none,ki,jm] at hlk
   refine ⟨min w (O.length+(G.length+5)),by omega,by omega,?_⟩
   simp (config:={ maxSteps:=1000000 }) (disch:=omega) [-evExt,xRoundK t322 rfl,round322,rcode322a,rcode322b,roundSlots,roundIn,roundOut,setArgs,ofCaps,overB,overStep,overOk,nltT,nltF,eb,fk,ie,gp,hb,hb1,hb5,hlk,hg,hw0,MethU.cells]
  | some y =>
   rw [hg] at hlk
   simp only [bi,da,kw,memF] at hlk
   by_cases e:y.st=m.st
   ·refine ⟨min w (O.length+(G.length+5)),by omega,by omega,?_⟩
    simp (config:={ maxSteps:=1000000 }) (disch:=omega) [-evExt,xRoundK t322 rfl,round322,rcode322a,rcode322b,roundSlots,roundIn,roundOut,setArgs,ofCaps,overB,overStep,overOk,nltT,nltF,eb,fk,ie,gp,hb,hb1,hb5,hlk,hg,hw0,MethU.cells,e]
   ·refine ⟨min w (O.length+1),by omega,by omega,?_⟩
    simp (config:={ maxSteps:=1000000 }) (disch:=omega) [-evExt,xRoundK t322 rfl,round322,rcode322a,rcode322b,roundSlots,roundIn,roundOut,setArgs,ofCaps,overB,overStep,overOk,nltT,nltF,eb,fk,ie,gp,hb,hb1,hb5,hlk,hg,hw0,MethU.cells,e]
end
def overM (S:List (Str × Str)) (M:List (Key × Mem)) (c:Str) (m:MethU):Bool:=(lineS S S.length c).all (overOk M m)
theorem over_run (M:List (Key × Mem)) (m:MethU):∀ L:List Str,runL (overStep M m) false L=(false,if L.all (overOk M m) then none else some .ret)
 | []=>rfl
 | c :: L=>by
  simp only [runL,overStep,eo]
  by_cases e:overOk M m c=true
  ·simp only [e,if_true,gn]; exact over_run M m L
  ·simp [e]
theorem g7 {α:Type} {e:Nat} {f:α→List AVal} {L:List α} {a:Option (Nat × Nat)} (h:Row os e f L a) {i:Nat} {x:α} (hx:L[i]? = some x) :
  ∃ p o cs,a=some (p,o)∧os[p]? = some (.cells e cs)∧p < os.length∧o+i*e+e≤cs.length∧(cs.drop (o+i*e)).take e=f x:=by
 obtain ⟨p,o,cs,h1,h2,h3⟩:=h.at' (ne_of_get hx)
 exact ⟨p,o,cs,h1,h2,aj h2,h3 i x hx⟩
section
attribute [-simp] getElem?_pos getElem?_neg
theorem l97 {u:UnitU} (hu:u.ok O) (h:World O N S F M V) (hb:b≤O.length) (hS:S.length≤9223372036854775807):∀ (j i:Nat) (G:List AObj) (w:Nat),i+j=u.meths.length→O.length≤w →
  ∃ G' w' s',O.length≤w'∧sget s' 4=some (.val (.ptr (some (O.length+1,0))))∧∀ (k:AExit→St→Option (AVal × Heap)),
   xK T (.loop code97L1) ⟨[(2,.val (.ptr (some (O.length,0)))),(3,.var u.cells),(4,.val (.ptr (some (O.length+1,0)))),(11,.val (.slice u.ma u.meths.length u.mc)),(12,.val (.int .i64 u.meths.length)),(13,.val (.int .i64 i))],
    ⟨O ++ .cells 1 [.ptr (some (N,0))] :: .cells 1 [.bool false] :: G,b,w⟩⟩ (k:=⟨k⟩) =
   if (u.meths.drop i).all (overM S M u.name) then k (.exit 0) ⟨[(4,.val (.ptr (some (O.length+1,0))))],⟨O ++ .cells 1 [.ptr (some (N,0))] :: .cells 1 [.bool false] :: G',b,w'⟩⟩
   else k .ret ⟨s',⟨O ++ .cells 1 [.ptr (some (N,0))] :: .cells 1 [.bool false] :: G',b,w'⟩⟩
 | 0,i,G,w,hi,hw=>by
  refine ⟨G,w,[(4,.val (.ptr (some (O.length+1,0))))],hw,rfl,fun k=>?_⟩
  rw [bl,bq (by omega)]
  simp (disch:=omega) [code97L1,iltF]
 | j+1,i,G,w,hi,hw=>by
  obtain ⟨m,hm⟩:∃ m,u.meths[i]? = some m:=⟨_,ag (by omega)⟩
  obtain ⟨p,o,cs,ha,hp,hpl,hcs,ht⟩:=g7 hu.m hm
  have hmn:u.meths.length≤9223372036854775807:=hu.mn
  have hml:m.cells.length=8:=rfl
  have hd:u.meths.drop i=m :: u.meths.drop (i+1):=by
   have:=aj hm
   rw [ag this] at hm
   rw [dq this,b9 hm]
  have hb2:b≤O.length+(G.length+2):=by omega
  have hb5:b≤O.length+(G.length+5):=by omega
  have hp':∀ X,(O++X)[p]? = _:=fun X=>(ah (l₂:=X) hpl).trans hp
  have hl:=h.lt
  have h1:=fun w=>s156 (O:=O ++ .cells 1 [.ptr (some (N,0))] :: .cells 1 [.bool false] :: (G++[.cells 8 m.cells])) (b:=b) (w:=w) (N:=N) (c:=u.name) (by simp; omega)
  simp only [bc,az,co,bt,ba,db,c9,Nat.reduceAdd,cf] at h1
  obtain ⟨c',w',hw',h2⟩:=s155 (over_at (G:=G) (m:=m) h hb) hS false u.name (min w (O.length+(G.length+2))) (by omega) (by simp [overB])
  rw [over_run] at h2
  have hov:overM S M u.name m=(lineS S S.length u.name).all (overOk M m):=rfl
  rw [← hov] at h2
  by_cases e:overM S M u.name m=true
  ·rw [if_pos e] at h2
   simp only [overB,endO,cf,Nat.reduceAdd] at h2
   obtain ⟨G',w2,s',k1,k2,ih⟩:=l97 hu h hb hS j (i+1) (G++[.cells 8 m.cells,.cells 1 [.ptr (some (N,0))],.cells 1 [.str c'],.dead]) (min w' (O.length+(G.length+5))) (by omega) (by omega)
   refine ⟨G',w2,s',k1,k2,fun k=>?_⟩
   have ih:=ih k
   have e2:((i+1:Nat):Int)=(i:Int)+1:=by omega
   rw [e2] at ih
   rw [bl,hd]
   simp only [eo,e,gn]
   rw [← ih]
   generalize ACode.loop code97L1=L
   simp (disch:=omega) [gz,gs,code97L1,capsOf,callVal,h1,h2,loopEnd,nltT,nltF,iltT,ileT,nleT,dh,eb,fk,ie,gp,hb,hb2,hb5,hp',ht,ha,hml,UnitU.cells,cf]
  ·rw [if_neg e] at h2
   simp only [overB,endO,cf,Nat.reduceAdd] at h2
   refine ⟨G++[.cells 8 m.cells,.cells 1 [.ptr (some (N,0))],.cells 1 [.str c'],.dead],min w' (O.length+(G.length+5)),?_,by omega,?_,fun k=>?_⟩
   rotate_left 2
   ·rw [bl,hd]
    simp only [eo,e,Bool.false_and,av,if_false]
    generalize ACode.loop code97L1=L
    simp (disch:=omega) [gz,gs,code97L1,capsOf,callVal,h1,h2,loopEnd,nltT,nltF,iltT,ileT,nleT,dh,eb,fk,ie,gp,hb,hb2,hb5,hp',ht,ha,hml,UnitU.cells,cf]
    rfl
   ·rfl
end
def overS (S:List (Str × Str)) (M:List (Key × Mem)) (u:UnitU):Bool:=u.meths.all (overM S M u.name)
theorem s97 {u:UnitU} (hu:u.ok O) (h:World O N S F M V) (hb:b≤O.length) (hS:S.length≤9223372036854775807):xCall T 97 [.ptr (some (N,0)),.agg u.cells] ⟨O,b,w⟩=some (.bool (overS S M u),⟨O,b,w⟩):=by
 have hl:=h.lt
 have hb1:b≤O.length+1:=by omega
 obtain ⟨G',w',s',k1,k2,hk⟩:=l97 hu h hb hS u.meths.length 0 [] O.length (by omega) (ak _)
 simp only [bf,d8] at hk
 unfold overS
 by_cases e:u.meths.all (overM S M u.name)=true
 ·simp only [e,if_true] at hk ⊢
  unfold UnitU.cells at hk ⊢
  simp (disch:=omega) [-getElem?_pos,-getElem?_neg,gz,gs,cd t97,code97,hk,nltT,nltF,eb,fk,ie,gp,hb,hb1]
 ·simp only [e,if_false] at hk ⊢
  unfold UnitU.cells at hk ⊢
  simp (disch:=omega) [-getElem?_pos,-getElem?_neg,gz,gs,cd t97,code97,hk,k2,nltT,nltF,eb,fk,ie,gp,hb,hb1]
end Go.Abs.AbsHier
