/-
  Texts joined.
-/
import Derived.Test.YtnpknimahijmfaaGreatDoorR0
import Derived.Test.YtnpknimahijmfaaGreatDoorR6
set_option linter.unusedVariables false
set_option linter.unusedSimpArgs false
set_option maxRecDepth 100000
namespace Go.Abs.Zh
open Go.Abs.Short
-- base: Zd
def code47:AFunc:=⟨false,false,3,92,[.tmp 6],
 S (R [0,1,2] [o 6 (.val F)])
 (S (S (R [0,1,2,28] [v 15 0,o 16 (.eqnil .ptr false (t 15) (.const (.ptr none))),v 17 16,g 18 17 false (Vl 0),g 19 17 false (Vl 1),g 20 17 false (.callg 103 [t 18,t 19]),g 21 17 false (.un .not (t 20)),o 22 (.pick (t 17) Y (t 21)),v 23 22,g 24 23 false (Vl 0),g 25 23 false (Vl 2),g 26 23 false (.callg 103 [t 24,t 25]),g 27 23 false (.un .not (t 26)),o 28 (.pick (t 23) Y (t 27))])
 (.after (.cond (t 28) (S (R [6] [o 6 (.val F)])
 (Z [6])) (.skip)) [0,1,2]))
 (S (R [0,1,2,7,8] [v 30 1,o 31 (.callg 34 [t 30]),v 29 31,o 32 (Xt 29 0),o 33 (Xt 29 1),v 7 32,v 8 33])
 (S (R [0,1,2,7,8,9,10] [v 35 2,o 36 (.callg 34 [t 35]),v 34 36,o 37 (Xt 34 0),o 38 (Xt 34 1),v 9 37,v 10 38])
 (S (R [0,1,2,7,8,9,10,11,12] [v 40 1,o 41 (.callg 36 [t 40]),v 39 41,o 42 (Xt 39 0),o 43 (Xt 39 1),v 11 42,v 12 43])
 (S (R [0,1,2,7,8,9,10,11,12,13,14] [v 45 2,o 46 (.callg 36 [t 45]),v 44 46,o 47 (Xt 44 0),o 48 (Xt 44 1),v 13 47,v 14 48])
 (S (.after (.block 0 (S (R [0,1,2,7,8,9,10,11,12,13,14,49] [v 50 1,v 51 2,o 52 (Bt .eql 50 51),v 49 52])
 (.after (.cond (t 49) (S (R [6] [o 6 (.val Y)])
 (Z [6])) (S (R [0,2,7,8,9,10,11,12,13,14,53] [v 54 1,o 55 (.bin .eql (t 54) (Ks [78])),v 53 55])
 (.after (.cond (t 53) (S (R [6] [v 56 2,o 57 (.callg 30 [t 56]),v 6 57])
 (Z [6])) (S (R [0,7,9,10,11,12,13,14,58] [v 59 8,v 60 59,g 61 60 true (Vl 10),o 62 (.pick (t 60) (t 61) F),v 58 62])
 (.after (.cond (t 58) (S (R [6] [v 63 0,v 64 7,v 65 9,o 66 (.callg 52 [t 63,t 64,t 65]),v 6 66])
 (Z [6])) (S (R [0,9,11,12,13,14,67] [v 68 12,v 69 68,g 70 69 true (Vl 10),o 71 (.pick (t 69) (t 70) F),v 67 71])
 (.after (.cond (t 67) (S (R [6] [v 72 9,o 73 (.bin .eql (t 72) (Ks [79,98,106,101,99,116])),v 6 73])
 (Z [6])) (.skip)) [0,11,12,13,14]))) [0,11,12,13,14]))) [0,11,12,13,14]))) [0,11,12,13,14]))) [0,11,12,13,14])
 (S (R [6] [v 74 12,v 75 74,g 76 75 true (Vl 14),o 77 (.pick (t 75) (t 76) F),v 78 77,g 79 78 true (Vl 11),g 80 78 true (.callg 30 [t 79]),o 81 (.pick (t 78) (t 80) F),v 82 81,g 83 82 true (Vl 13),g 84 82 true (.callg 30 [t 83]),o 85 (.pick (t 82) (t 84) F),v 86 85,g 87 86 true (Vl 0),g 88 86 true (Vl 11),g 89 86 true (Vl 13),g 90 86 true (.callg 47 [t 87,t 88,t 89]),o 91 (.pick (t 86) (t 90) F),v 6 91])
 (Z [6])))))))),none⟩
def code49L0:ACode :=
 .live [4,69,70,71] (S (R [4,69,70,71,72] [o 72 (Bt .lss 71 70)])
 (S (.after (.cond (t 72) (.skip) (.live [4] (.exit 4))) [4,69,70,71])
 (S (.after (.block 5 (S (R [4,10,69,70,71] [o 73 (.iaddr 4 (t 69) (t 71)),o 74 (.load (some 4) (t 73)),o 10 (.lalloc [.str [],.str [],.slice none 0 (some 0),.slice none 0 (some 0)]),u (.store 4 (t 10) (t 74))])
 (S (R [4,69,70,71,78] [v 75 4,o 76 (.load (some 4) (t 10)),o 77 (.callg 97 [t 75,t 76]),o 78 (.un .not (t 77))])
 (.after (.cond (t 78) (S (R [2,3] [o 2 (.val (.const (.ptr none))),o 3 (.val (n 15))])
 (Z [2,3])) (.skip)) [4,69,70,71])))) [4,69,70,71])
 (R [4,69,70,71] [o 79 (Bn .add 71 1),v 71 79]))))
def code49L1:ACode :=
 .live [0,4,45,46,47] (S (R [0,4,45,46,47,48] [o 48 (Bt .lss 47 46)])
 (S (.after (.cond (t 48) (.skip) (.live [0,4] (.exit 2))) [0,4,45,46,47])
 (S (.after (.block 3 (S (R [0,4,8,45,46,47] [o 49 (.iaddr 4 (t 45) (t 47)),o 50 (.load (some 4) (t 49)),o 8 (.lalloc [.str [],.str [],.slice none 0 (some 0),.slice none 0 (some 0)]),u (.store 4 (t 8) (t 50))])
 (S (R [0,4,45,46,47,67] [v 51 4,o 52 (Fa 8 0),o 53 (Lq 52),o 54 (.callg 98 [t 51,t 53]),o 55 (.un .not (t 54)),v 56 55,g 57 56 false (Vl 4),g 58 56 false (.load (some 4) (t 8)),g 59 56 false (.callg 99 [t 57,t 58]),g 60 56 false (.un .not (t 59)),o 61 (.pick (t 56) Y (t 60)),v 62 61,g 63 62 false (Vl 4),g 64 62 false (.load (some 4) (t 8)),g 65 62 false (.callg 100 [t 63,t 64]),g 66 62 false (.un .not (t 65)),o 67 (.pick (t 62) Y (t 66))])
 (.after (.cond (t 67) (S (R [2,3] [o 2 (.val (.const (.ptr none))),o 3 (.val (n 15))])
 (Z [2,3])) (.skip)) [0,4,45,46,47])))) [0,4,45,46,47])
 (R [0,4,45,46,47] [o 68 (Bn .add 47 1),v 47 68]))))
def code49L2:ACode :=
 .live [0,4,15,16,17] (S (R [0,4,15,16,17,18] [o 18 (Bt .lss 17 16)])
 (S (.after (.cond (t 18) (.skip) (.live [0,4] (.exit 0))) [0,4,15,16,17])
 (S (.after (.block 1 (S (R [0,4,6,15,16,17] [o 19 (.iaddr 4 (t 15) (t 17)),o 20 (.load (some 4) (t 19)),o 6 (.lalloc [.str [],.str [],.slice none 0 (some 0),.slice none 0 (some 0)]),u (.store 4 (t 6) (t 20))])
 (S (S (R [0,4,6,15,16,17,35] [v 21 4,o 22 (Fa 6 0),o 23 (Lq 22),o 24 (.callg 54 [t 21,t 23]),v 25 24,g 26 25 false (Fa 6 0),g 27 25 false (Lq 26),g 28 25 false (.callg 25 [t 27]),g 29 25 false (.un .not (t 28)),o 30 (.pick (t 25) Y (t 29)),v 31 30,g 32 31 false (Fa 6 1),g 33 31 false (Lq 32),g 34 31 false (.bin .eql (t 33) (Ks [115,121,115])),o 35 (.pick (t 31) Y (t 34))])
 (.after (.cond (t 35) (S (R [2,3] [o 2 (.val (.const (.ptr none))),o 3 (.val (n 15))])
 (Z [2,3])) (.skip)) [0,4,6,15,16,17]))
 (.after (.region [⟨true,[],[v 36 4,o 37 (.nilcheck (t 36)),o 38 (Fa 37 0),o 39 (Lq 38),o 40 (Fa 6 0),o 41 (Lq 40),o 42 (Fa 6 1),o 43 (Lq 42)]⟩,⟨false,[],[u (.ext (.mapupd (.one .s)) [t 39,t 41,t 43])]⟩]) [0,4,15,16,17])))) [0,4,15,16,17])
 (R [0,4,15,16,17] [o 44 (Bn .add 17 1),v 17 44]))))
def code49:AFunc:=⟨false,false,1,81,[.tmp 2,.tmp 3],
 S (R [0] [o 2 (.val (.const (.ptr none))),o 3 (.val (n 0))])
 (S (R [0,4] [o 11 (.callg 284 []),v 4 11])
 (S (S (R [0,4,14] [v 12 0,o 13 (Sl 12),o 14 (Bn .gtr 13 32)])
 (.after (.cond (t 14) (S (R [2,3] [o 2 (.val (.const (.ptr none))),o 3 (.val (n 15))])
 (Z [2,3])) (.skip)) [0,4]))
 (S (S (R [0,4,15,16,17] [v 15 0,o 16 (Sl 15),o 17 (.val (n 0))])
 (.after (.block 0 (.loop code49L2)) [0,4]))
 (S (S (R [0,4,45,46,47] [v 45 0,o 46 (Sl 45),o 47 (.val (n 0))])
 (.after (.block 2 (.loop code49L1)) [0,4]))
 (S (S (R [4,69,70,71] [v 69 0,o 70 (Sl 69),o 71 (.val (n 0))])
 (.after (.block 4 (.loop code49L0)) [4]))
 (S (R [2,3] [v 80 4,v 2 80,o 3 (.val (n 0))])
 (Z [2,3]))))))),none⟩
def rcode320a:ACode :=
 R [5,6,7] [v 7 13]
def rcode320b:ACode :=
 .after (.block 1 (S (R [6,16] [v 14 7,o 15 (Lq 5),o 16 (Bt .eql 14 15)])
 (.after (.cond (t 16) (S (R [] [u (.store 1 (t 6) Y)])
 (Z [])) (.skip)) []))) []
def round320:ARound:=⟨[13],rcode320a,rcode320b⟩
def code320:AFunc:=⟨false,false,0,0,[],.skip,some (.round round320)⟩
def code52:AFunc:=⟨false,false,3,17,[.cell 6 none],
 S (R [0,1,5,6] [o 5 (.box (t 2)),o 6 (.alloc 1 [.bool false])])
 (S (S (R [0,1,5,6,9] [v 8 0,o 9 (.eqnil .ptr false (t 8) (.const (.ptr none)))])
 (.after (.cond (t 9) (S (R [6] [u (.store 1 (t 6) F)])
 (Z [6])) (.skip)) [0,1,5,6]))
 (S (S (R [5,6,12] [v 10 0,v 11 1,o 12 (.callg 156 [t 10,t 11])])
 (.after (.block 0 (.after (.rangeFunc (t 12) 320 [5,6] [13] rcode320a rcode320b) [6])) [6]))
 (S (R [6] [u (.store 1 (t 6) F)])
 (Z [6])))),none⟩
def code54:AFunc:=⟨false,false,2,14,[.tmp 4],
 S (R [0,1] [o 4 (.val F)])
 (S (R [6] [v 8 0,v 9 1,o 10 (.callg 96 [t 8,t 9]),v 7 10,o 11 (Xt 7 0),o 12 (Xt 7 1),v 5 11,v 6 12])
 (S (R [4] [v 13 6,v 4 13])
 (Z [4]))),none⟩
def code96:AFunc:=⟨false,false,2,21,[.tmp 4,.tmp 5],
 S (R [0,1] [o 4 (.val (Ks [])),o 5 (.val F)])
 (S (S (R [0,1,9] [v 8 0,o 9 (.eqnil .ptr false (t 8) (.const (.ptr none)))])
 (.after (.cond (t 9) (S (R [4,5] [o 4 (.val (Ks [])),o 5 (.val F)])
 (Z [4,5])) (.skip)) [0,1]))
 (S (R [6,7] [v 11 0,o 12 (.nilcheck (t 11)),o 13 (Fa 12 0),o 14 (Lq 13),v 15 1,o 16 (.ext (.lookup (.one .s) (.str []) true) [t 14,t 15]),v 10 16,o 17 (Xt 10 0),o 18 (Xt 10 1),v 6 17,v 7 18])
 (S (R [4,5] [v 19 6,v 20 7,v 4 19,v 5 20])
 (Z [4,5])))),none⟩
def rcode322a:ACode :=
 R [2,4,6,7] [v 7 21]
def rcode322b:ACode :=
 .after (.block 3 (S (.after (.region [⟨true,[],[o 23 (Lq 2),o 24 (.nilcheck (t 23)),o 25 (Fa 24 2),o 26 (Lq 25),v 27 7,o 28 (Fa 6 1),o 29 (Lq 28),o 30 (Fa 6 2),o 31 (Lq 30),o 32 (.build [.str [],.str [],.str []] [(0,1,t 27),(1,1,t 29),(2,1,t 31)]),o 33 (.ext (.lookup (.agg [.s,.s,.s]) (.agg [.str [],.bool false]) true) [t 26,t 32]),v 22 33,o 34 (Xt 22 0),o 35 (Xt 22 1),o 8 (.lalloc [.str [],.bool false]),u (.store 2 (t 8) (t 34))]⟩,⟨false,[],[v 9 35]⟩]) [4,6,8,9])
 (S (R [4,43] [v 36 9,v 37 36,g 38 37 true (Fa 8 1),g 39 37 true (Lq 38),g 40 37 true (Fa 6 0),g 41 37 true (Lq 40),g 42 37 true (.beq true (t 39) (t 41)),o 43 (.pick (t 37) (t 42) F)])
 (.after (.cond (t 43) (S (R [] [u (.store 1 (t 4) F)])
 (Z [])) (.skip)) [])))) []
def round322:ARound:=⟨[21],rcode322a,rcode322b⟩
def code322:AFunc:=⟨false,false,0,0,[],.skip,some (.round round322)⟩
def code97L1:ACode :=
 .live [2,3,4,11,12,13] (S (R [2,3,4,11,12,13,14] [o 14 (Bt .lss 13 12)])
 (S (.after (.cond (t 14) (.skip) (.live [4] (.exit 0))) [2,3,4,11,12,13])
 (S (.after (.block 1 (S (R [2,3,4,6,11,12,13] [o 15 (.iaddr 8 (t 11) (t 13)),o 16 (.load (some 8) (t 15)),o 6 (.alloc 8 [.bool false,.str [],.str [],.int .i64 0,.int .i64 0,.slice none 0 (some 0),.slice none 0 (some 0),.slice none 0 (some 0)]),u (.store 8 (t 6) (t 16))])
 (S (R [2,3,4,6,11,12,13,20] [o 17 (Lq 2),o 18 (Fa 3 0),o 19 (Lq 18),o 20 (.callg 156 [t 17,t 19])])
 (.after (.block 2 (.after (.rangeFunc (t 20) 322 [2,4,6] [21] rcode322a rcode322b) [2,3,4,11,12,13])) [2,3,4,11,12,13])))) [2,3,4,11,12,13])
 (R [2,3,4,11,12,13] [o 44 (Bn .add 13 1),v 13 44]))))
def code97:AFunc:=⟨false,false,2,45,[.cell 4 none],
 S (R [2,3,4] [o 2 (.box (t 0)),o 3 (.lbox (t 1)),o 4 (.alloc 1 [.bool false])])
 (S (S (R [2,3,4,11,12,13] [o 10 (Fa 3 3),o 11 (Lq 10),o 12 (Sl 11),o 13 (.val (n 0))])
 (.after (.block 0 (.loop code97L1)) [4]))
 (S (R [4] [u (.store 1 (t 4) Y)])
 (Z [4]))),none⟩
def rcode321a:ACode :=
 R [5,6,7] [v 7 11]
def rcode321b:ACode :=
 .after (.block 1 (.after (.region [⟨true,[0,0,2,1],[v 12 7,o 13 (Lq 6),o 14 (Bn .add 13 1),u (.ext (.hstore 1) [t 5,t 12])]⟩,⟨false,[],[u (.store 1 (t 6) (t 14))]⟩]) [])) []
def round321:ARound:=⟨[11],rcode321a,rcode321b⟩
def code321:AFunc:=⟨false,false,0,0,[],.skip,some (.round round321)⟩
def code98:AFunc:=⟨false,false,2,21,[.tmp 4],
 S (R [0,1] [o 4 (.val F)])
 (S (R [0,1,5,6] [o 5 (.alloc 1 [.str []]),o 6 (.alloc 1 [.int .i64 0]),u (.store 1 (t 5) (Ks [])),u (.store 1 (t 6) (n 0))])
 (S (S (R [5,6,10] [v 8 0,v 9 1,o 10 (.callg 156 [t 8,t 9])])
 (.after (.block 0 (.after (.rangeFunc (t 10) 321 [5,6] [11] rcode321a rcode321b) [5,6])) [5,6]))
 (S (R [4] [o 15 (Lq 5),o 16 (.bin .eql (t 15) (Ks [79,98,106,101,99,116])),v 17 16,g 18 17 true (Lq 6),g 19 17 true (Bn .gtr 18 1),o 20 (.pick (t 17) (t 19) F),v 4 20])
 (Z [4])))),none⟩
def code99L0:ACode :=
 .live [0,3,5,10,11,12] (S (R [0,3,5,10,11,12,13] [o 13 (Bt .lss 12 11)])
 (S (.after (.cond (t 13) (.skip) (.live [] (.exit 0))) [0,3,5,10,11,12])
 (S (.after (.block 1 (S (R [0,3,5,7,10,11,12] [o 14 (.iaddr 3 (t 10) (t 12)),o 15 (.load (some 3) (t 14)),o 7 (.lalloc [.bool false,.str [],.str []]),u (.store 3 (t 7) (t 15))])
 (S (S (R [0,3,5,7,10,11,12,38] [o 16 (Fa 7 1),o 17 (Lq 16),o 18 (.callg 181 [t 17]),o 19 (.un .not (t 18)),v 20 19,g 21 20 false (Fa 7 2),g 22 20 false (Lq 21),g 23 20 false (.callg 27 [t 22]),g 24 20 false (.un .not (t 23)),o 25 (.pick (t 20) Y (t 24)),v 26 25,g 27 26 false (Vl 0),g 28 26 false (Fa 7 2),g 29 26 false (Lq 28),g 30 26 false (.callg 103 [t 27,t 29]),g 31 26 false (.un .not (t 30)),o 32 (.pick (t 26) Y (t 31)),v 33 32,g 34 33 false (Vl 5),g 35 33 false (Fa 7 1),g 36 33 false (Lq 35),g 37 33 false (.ext (.lookup (.one .s) (.bool false) false) [t 34,t 36]),o 38 (.pick (t 33) Y (t 37))])
 (.after (.cond (t 38) (S (R [4] [o 4 (.val F)])
 (Z [4])) (.skip)) [0,3,5,7,10,11,12]))
 (S (R [0,3,5,7,10,11,12] [v 39 5,o 40 (Fa 7 1),o 41 (Lq 40),u (.ext (.mapupd (.one .s)) [t 39,t 41,.const (.bool true)])])
 (.after (.region [⟨true,[],[v 42 0,o 43 (.nilcheck (t 42)),o 44 (Fa 43 1),o 45 (Lq 44),o 46 (Fa 3 0),o 47 (Lq 46),o 48 (Fa 7 1),o 49 (Lq 48),o 50 (Fa 7 2),o 51 (Lq 50),o 52 (.build [.str [],.str [],.str []] [(0,1,t 47),(1,1,t 49),(2,1,t 51)]),o 53 (Fa 3 0),o 54 (Lq 53),o 55 (Fa 7 0),o 56 (Lq 55),o 57 (.build [.str [],.bool false] [(0,1,t 54),(1,1,t 56)])]⟩,⟨false,[],[u (.ext (.mapupd (.agg [.s,.s,.s])) [t 45,t 52,t 57])]⟩]) [0,3,5,10,11,12]))))) [0,3,5,10,11,12])
 (R [0,3,5,10,11,12] [o 58 (Bn .add 12 1),v 12 58]))))
def code99:AFunc:=⟨false,false,2,59,[.tmp 4],
 S (R [0,3] [o 3 (.lbox (t 1)),o 4 (.val F)])
 (S (R [0,3,5] [o 8 (.ext .mkmap []),v 5 8])
 (S (S (R [0,3,5,10,11,12] [o 9 (Fa 3 2),o 10 (Lq 9),o 11 (Sl 10),o 12 (.val (n 0))])
 (.after (.block 0 (.loop code99L0)) []))
 (S (R [4] [o 4 (.val Y)])
 (Z [4])))),none⟩
def code100L0:ACode :=
 .live [0,3,11,12,13] (S (R [0,3,11,12,13,14] [o 14 (Bt .lss 13 12)])
 (S (.after (.cond (t 14) (.skip) (.live [] (.exit 0))) [0,3,11,12,13])
 (S (.after (.block 1 (S (R [0,3,6,11,12,13] [o 15 (.iaddr 8 (t 11) (t 13)),o 16 (.load (some 8) (t 15)),o 6 (.lalloc [.bool false,.str [],.str [],.int .i64 0,.int .i64 0,.slice none 0 (some 0),.slice none 0 (some 0),.slice none 0 (some 0)]),u (.store 8 (t 6) (t 16))])
 (S (R [0,3,6,7,11,12,13] [o 17 (Fa 3 0),o 18 (Lq 17),o 19 (Fa 6 1),o 20 (Lq 19),o 21 (Fa 6 2),o 22 (Lq 21),o 23 (.build [.str [],.str [],.str []] [(0,1,t 18),(1,1,t 20),(2,1,t 22)]),o 7 (.lalloc [.str [],.str [],.str []]),u (.store 3 (t 7) (t 23))])
 (S (S (.after (.region [⟨true,[],[v 25 0,o 26 (.nilcheck (t 25)),o 27 (Fa 26 2),o 28 (Lq 27),o 29 (.load (some 3) (t 7)),o 30 (.ext (.lookup (.agg [.s,.s,.s]) (.agg [.str [],.bool false]) true) [t 28,t 29]),v 24 30,o 31 (Xt 24 0),o 32 (Xt 24 1),o 8 (.lalloc [.str [],.bool false]),u (.store 2 (t 8) (t 31))]⟩,⟨false,[],[v 9 32]⟩]) [0,3,6,7,9,11,12,13])
 (S (R [0,3,6,7,11,12,13,39] [v 33 9,v 34 33,g 35 34 false (Vl 0),g 36 34 false (.load (some 8) (t 6)),g 37 34 false (.callg 182 [t 35,t 36]),g 38 34 false (.un .not (t 37)),o 39 (.pick (t 34) Y (t 38))])
 (.after (.cond (t 39) (S (R [4] [o 4 (.val F)])
 (Z [4])) (.skip)) [0,3,6,7,11,12,13])))
 (.after (.region [⟨true,[],[v 40 0,o 41 (.nilcheck (t 40)),o 42 (Fa 41 2),o 43 (Lq 42),o 44 (.load (some 3) (t 7)),o 45 (Fa 3 0),o 46 (Lq 45),o 47 (Fa 6 0),o 48 (Lq 47),o 49 (.build [.str [],.bool false] [(0,1,t 46),(1,1,t 48)])]⟩,⟨false,[],[u (.ext (.mapupd (.agg [.s,.s,.s])) [t 43,t 44,t 49])]⟩]) [0,3,11,12,13]))))) [0,3,11,12,13])
 (R [0,3,11,12,13] [o 50 (Bn .add 13 1),v 13 50]))))
def code100:AFunc:=⟨false,false,2,51,[.tmp 4],
 S (R [0,3] [o 3 (.lbox (t 1)),o 4 (.val F)])
 (S (S (R [0,3,11,12,13] [o 10 (Fa 3 3),o 11 (Lq 10),o 12 (Sl 11),o 13 (.val (n 0))])
 (.after (.block 0 (.loop code100L0)) []))
 (S (R [4] [o 4 (.val Y)])
 (Z [4]))),none⟩
def code103:AFunc:=⟨false,false,2,20,[.tmp 4],
 S (R [0,1] [o 4 (.val F)])
 (S (R [0,5,6] [v 8 1,o 9 (.callg 139 [t 8,Ks [91]]),o 10 (.callg 34 [t 9]),v 7 10,o 11 (Xt 7 0),o 12 (Xt 7 1),v 5 11,v 6 12])
 (S (R [4] [v 13 6,o 14 (.un .not (t 13)),v 15 14,g 16 15 false (Vl 0),g 17 15 false (Vl 5),g 18 15 false (.callg 54 [t 16,t 17]),o 19 (.pick (t 15) Y (t 18)),v 4 19])
 (Z [4]))),none⟩
def code106L0:ACode :=
 .live [0,3,11,91,92,93,106,107,108] (S (R [0,3,11,91,92,93,106,107,108,109] [o 109 (Bt .lss 108 107)])
 (S (.after (.cond (t 109) (.skip) (.live [0,3,91,92,93] (.exit 6))) [0,3,11,91,92,93,106,107,108])
 (S (.after (.block 7 (S (R [0,3,11,13,91,92,93,106,107,108] [o 110 (.iaddr 8 (t 106) (t 108)),o 111 (.load (some 8) (t 110)),o 13 (.lalloc [.bool false,.str [],.str [],.int .i64 0,.int .i64 0,.slice none 0 (some 0),.slice none 0 (some 0),.slice none 0 (some 0)]),u (.store 8 (t 13) (t 111))])
 (S (R [0,3,11,91,92,93,106,107,108,123] [o 112 (Fa 11 1),o 113 (Lq 112),o 114 (Fa 13 1),o 115 (Lq 114),o 116 (Bt .eql 113 115),v 117 116,g 118 117 true (Fa 11 2),g 119 117 true (Lq 118),g 120 117 true (Fa 13 2),g 121 117 true (Lq 120),g 122 117 true (Bt .eql 119 121),o 123 (.pick (t 117) (t 122) F)])
 (.after (.cond (t 123) (S (R [4] [o 4 (.val F)])
 (Z [4])) (.skip)) [0,3,11,91,92,93,106,107,108])))) [0,3,11,91,92,93,106,107,108])
 (R [0,3,11,91,92,93,106,107,108] [o 124 (Bn .add 108 1),v 108 124]))))
def code106L1:ACode :=
 .live [0,3,91,92,93] (S (R [0,3,91,92,93,94] [o 94 (Bt .lss 93 92)])
 (S (.after (.cond (t 94) (.skip) (.live [] (.exit 4))) [0,3,91,92,93])
 (S (.after (.block 5 (S (R [0,3,10,11,91,92,93] [v 95 93,o 96 (.iaddr 8 (t 91) (t 93)),o 97 (.load (some 8) (t 96)),o 11 (.lalloc [.bool false,.str [],.str [],.int .i64 0,.int .i64 0,.slice none 0 (some 0),.slice none 0 (some 0),.slice none 0 (some 0)]),v 10 95,u (.store 8 (t 11) (t 97))])
 (S (S (R [0,3,10,11,91,92,93,102] [v 98 0,o 99 (.load (some 4) (t 3)),o 100 (.load (some 8) (t 11)),o 101 (.callg 157 [t 98,t 99,t 100]),o 102 (.un .not (t 101))])
 (.after (.cond (t 102) (S (R [4] [o 4 (.val F)])
 (Z [4])) (.skip)) [0,3,10,11,91,92,93]))
 (S (R [0,3,11,91,92,93,106,107,108] [o 103 (Fa 3 3),o 104 (Lq 103),v 105 10,o 106 (.slice (.sl 8) (t 104) none (some (t 105)) none),o 107 (Sl 106),o 108 (.val (n 0))])
 (.after (.block 6 (.loop code106L0)) [0,3,91,92,93]))))) [0,3,91,92,93])
 (R [0,3,91,92,93] [o 125 (Bn .add 93 1),v 93 125]))))
def code106L2:ACode :=
 .live [0,3,7,50,51,52,77,78,79] (S (R [0,3,7,50,51,52,77,78,79,80] [o 80 (Bt .lss 79 78)])
 (S (.after (.cond (t 80) (.skip) (.live [0,3,50,51,52] (.exit 2))) [0,3,7,50,51,52,77,78,79])
 (S (.after (.block 3 (S (R [0,3,7,9,50,51,52,77,78,79] [o 81 (.iaddr 3 (t 77) (t 79)),o 82 (.load (some 3) (t 81)),o 9 (.lalloc [.bool false,.str [],.str []]),u (.store 3 (t 9) (t 82))])
 (S (R [0,3,7,50,51,52,77,78,79,87] [o 83 (Fa 7 1),o 84 (Lq 83),o 85 (Fa 9 1),o 86 (Lq 85),o 87 (Bt .eql 84 86)])
 (.after (.cond (t 87) (S (R [4] [o 4 (.val F)])
 (Z [4])) (.skip)) [0,3,7,50,51,52,77,78,79])))) [0,3,7,50,51,52,77,78,79])
 (R [0,3,7,50,51,52,77,78,79] [o 88 (Bn .add 79 1),v 79 88]))))
def code106L3:ACode :=
 .live [0,3,50,51,52] (S (R [0,3,50,51,52,53] [o 53 (Bt .lss 52 51)])
 (S (.after (.cond (t 53) (.skip) (.live [0,3] (.exit 0))) [0,3,50,51,52])
 (S (.after (.block 1 (S (R [0,3,6,7,50,51,52] [v 54 52,o 55 (.iaddr 3 (t 50) (t 52)),o 56 (.load (some 3) (t 55)),o 7 (.lalloc [.bool false,.str [],.str []]),v 6 54,u (.store 3 (t 7) (t 56))])
 (S (S (R [0,3,6,7,50,51,52,73] [o 57 (Fa 7 1),o 58 (Lq 57),o 59 (.callg 158 [t 58]),o 60 (.un .not (t 59)),v 61 60,g 62 61 false (Fa 7 2),g 63 61 false (Lq 62),g 64 61 false (.callg 28 [t 63]),g 65 61 false (.un .not (t 64)),o 66 (.pick (t 61) Y (t 65)),v 67 66,g 68 67 false (Vl 0),g 69 67 false (Fa 7 2),g 70 67 false (Lq 69),g 71 67 false (.callg 159 [t 68,t 70]),g 72 67 false (.un .not (t 71)),o 73 (.pick (t 67) Y (t 72))])
 (.after (.cond (t 73) (S (R [4] [o 4 (.val F)])
 (Z [4])) (.skip)) [0,3,6,7,50,51,52]))
 (S (R [0,3,7,50,51,52,77,78,79] [o 74 (Fa 3 2),o 75 (Lq 74),v 76 6,o 77 (.slice (.sl 3) (t 75) none (some (t 76)) none),o 78 (Sl 77),o 79 (.val (n 0))])
 (.after (.block 2 (.loop code106L2)) [0,3,50,51,52]))))) [0,3,50,51,52])
 (R [0,3,50,51,52] [o 89 (Bn .add 52 1),v 52 89]))))
def code106:AFunc:=⟨false,false,2,126,[.tmp 4],
 S (R [0,3] [o 3 (.lbox (t 1)),o 4 (.val F)])
 (S (R [0,3,5] [v 14 0,o 15 (Fa 3 0),o 16 (Lq 15),o 17 (.callg 112 [t 14,t 16]),v 5 17])
 (S (S (R [0,3,48] [o 18 (Fa 3 0),o 19 (Lq 18),o 20 (.callg 26 [t 19]),o 21 (.un .not (t 20)),v 22 21,g 23 22 false (Fa 3 1),g 24 22 false (Lq 23),g 25 22 false (.bin .eql (t 24) (Ks [115,121,115])),o 26 (.pick (t 22) Y (t 25)),v 27 26,g 28 27 false (Vl 5),g 29 27 false (Sl 28),g 30 27 false (Bn .lss 29 2),o 31 (.pick (t 27) Y (t 30)),v 32 31,g 33 32 false (Vl 5),g 34 32 false (Sl 33),g 35 32 false (Vl 0),g 36 32 false (Sl 35),g 37 32 false (Bt .gtr 34 36),o 38 (.pick (t 32) Y (t 37)),v 39 38,g 40 39 false (Vl 5),g 41 39 false (Vl 5),g 42 39 false (Sl 41),g 43 39 false (Bn .sub 42 1),g 44 39 false (.iaddr 4 (t 40) (t 43)),g 45 39 false (Fa 44 0),g 46 39 false (Lq 45),g 47 39 false (.bin .neq (t 46) (Ks [79,98,106,101,99,116])),o 48 (.pick (t 39) Y (t 47))])
 (.after (.cond (t 48) (S (R [4] [o 4 (.val F)])
 (Z [4])) (.skip)) [0,3]))
 (S (S (R [0,3,50,51,52] [o 49 (Fa 3 2),o 50 (Lq 49),o 51 (Sl 50),o 52 (.val (n 0))])
 (.after (.block 0 (.loop code106L3)) [0,3]))
 (S (S (R [0,3,91,92,93] [o 90 (Fa 3 3),o 91 (Lq 90),o 92 (Sl 91),o 93 (.val (n 0))])
 (.after (.block 4 (.loop code106L1)) []))
 (S (R [4] [o 4 (.val Y)])
 (Z [4])))))),none⟩
def code107L0:ACode :=
 .live [4,39,40,41] (S (R [4,39,40,41,42] [o 42 (Bt .lss 41 40)])
 (S (.after (.cond (t 42) (.skip) (.live [4] (.exit 4))) [4,39,40,41])
 (S (.after (.block 5 (S (R [4,10,39,40,41] [o 43 (.iaddr 4 (t 39) (t 41)),o 44 (.load (some 4) (t 43)),o 10 (.lalloc [.str [],.str [],.slice none 0 (some 0),.slice none 0 (some 0)]),u (.store 4 (t 10) (t 44))])
 (S (R [4,39,40,41,48] [v 45 4,o 46 (.load (some 4) (t 10)),o 47 (.callg 106 [t 45,t 46]),o 48 (.un .not (t 47))])
 (.after (.cond (t 48) (S (R [2,3] [o 2 (.val (.const (.slice none 0 (some 0)))),o 3 (.val F)])
 (Z [2,3])) (.skip)) [4,39,40,41])))) [4,39,40,41])
 (R [4,39,40,41] [o 49 (Bn .add 41 1),v 41 49]))))
def code107L1:ACode :=
 .live [0,4,6,17,18,19,26,27,28] (S (R [0,4,6,17,18,19,26,27,28,29] [o 29 (Bt .lss 28 27)])
 (S (.after (.cond (t 29) (.skip) (.live [0,4,17,18,19] (.exit 2))) [0,4,6,17,18,19,26,27,28])
 (S (.after (.block 3 (S (R [0,4,6,8,17,18,19,26,27,28] [o 30 (.iaddr 4 (t 26) (t 28)),o 31 (.load (some 4) (t 30)),o 8 (.lalloc [.str [],.str [],.slice none 0 (some 0),.slice none 0 (some 0)]),u (.store 4 (t 8) (t 31))])
 (S (R [0,4,6,17,18,19,26,27,28,36] [o 32 (Fa 6 0),o 33 (Lq 32),o 34 (Fa 8 0),o 35 (Lq 34),o 36 (Bt .eql 33 35)])
 (.after (.cond (t 36) (S (R [2,3] [o 2 (.val (.const (.slice none 0 (some 0)))),o 3 (.val F)])
 (Z [2,3])) (.skip)) [0,4,6,17,18,19,26,27,28])))) [0,4,6,17,18,19,26,27,28])
 (R [0,4,6,17,18,19,26,27,28] [o 37 (Bn .add 28 1),v 28 37]))))
def code107L2:ACode :=
 .live [0,4,17,18,19] (S (R [0,4,17,18,19,20] [o 20 (Bt .lss 19 18)])
 (S (.after (.cond (t 20) (.skip) (.live [0,4] (.exit 0))) [0,4,17,18,19])
 (S (.after (.block 1 (S (R [0,4,5,6,17,18,19] [v 21 19,o 22 (.iaddr 4 (t 17) (t 19)),o 23 (.load (some 4) (t 22)),o 6 (.lalloc [.str [],.str [],.slice none 0 (some 0),.slice none 0 (some 0)]),v 5 21,u (.store 4 (t 6) (t 23))])
 (S (R [0,4,6,17,18,19,26,27,28] [v 24 4,v 25 5,o 26 (.slice (.sl 4) (t 24) none (some (t 25)) none),o 27 (Sl 26),o 28 (.val (n 0))])
 (.after (.block 2 (.loop code107L1)) [0,4,17,18,19])))) [0,4,17,18,19])
 (R [0,4,17,18,19] [o 38 (Bn .add 19 1),v 19 38]))))
def code107:AFunc:=⟨false,false,1,51,[.tmp 2,.tmp 3],
 S (R [0] [o 2 (.val (.const (.slice none 0 (some 0)))),o 3 (.val F)])
 (S (R [0,4] [o 11 (.callg 108 []),v 12 0,o 13 (.append 4 80 (t 11) (t 12)),v 4 13])
 (S (S (R [0,4,16] [v 14 0,o 15 (Sl 14),o 16 (Bn .gtr 15 32)])
 (.after (.cond (t 16) (S (R [2,3] [o 2 (.val (.const (.slice none 0 (some 0)))),o 3 (.val F)])
 (Z [2,3])) (.skip)) [0,4]))
 (S (S (R [0,4,17,18,19] [v 17 4,o 18 (Sl 17),o 19 (.val (n 0))])
 (.after (.block 0 (.loop code107L2)) [0,4]))
 (S (S (R [4,39,40,41] [v 39 0,o 40 (Sl 39),o 41 (.val (n 0))])
 (.after (.block 4 (.loop code107L0)) [4]))
 (S (R [2,3] [v 50 4,v 2 50,o 3 (.val Y)])
 (Z [2,3])))))),none⟩
def code108L0:ACode :=
 .live [2,19,20,21] (S (R [2,19,20,21,22] [o 22 (Bt .lss 21 20)])
 (S (.after (.cond (t 22) (.skip) (.live [2] (.exit 0))) [2,19,20,21])
 (S (.after (.block 1 (S (R [2,4,19,20,21] [o 23 (.iaddr 1 (t 19) (t 21)),o 24 (Lq 23),v 4 24])
 (R [2,19,20,21] [v 25 2,v 26 4,o 27 (.build [.str [],.str [],.slice none 0 (some 0),.slice none 0 (some 0)] [(0,1,t 26),(1,1,Ks [84,104,114,111,119,97,98,108,101])]),o 28 (.mkslice 4 1 [.str [],.str [],.slice none 0 (some 0),.slice none 0 (some 0)] [(0,4,t 27)]),o 29 (.append 4 80 (t 25) (t 28)),v 2 29]))) [2,19,20,21])
 (R [2,19,20,21] [o 30 (Bn .add 21 1),v 21 30]))))
def code108:AFunc:=⟨false,false,0,32,[.tmp 0],
 S (R [] [o 0 (.val (.const (.slice none 0 (some 0))))])
 (S (R [1] [o 5 (.callg 115 [Ks [112,114,105,110,116],Ks [40,73,41,86]]),o 6 (.callg 115 [Ks [112,114,105,110,116,76,111,110,103],Ks [40,74,41,86]]),o 7 (.callg 115 [Ks [112,114,105,110,116,84,101,120,116],Ks [40,91,66,41,86]]),o 8 (.callg 115 [Ks [97,100,100],Ks [40,91,66,41,73]]),o 9 (.callg 115 [Ks [103,101,116],Ks [40,73,41,91,66]]),o 10 (.callg 115 [Ks [115,101,116],Ks [40,73,91,66,41,86]]),o 11 (.callg 115 [Ks [100,101,108],Ks [40,73,41,86]]),o 12 (.callg 115 [Ks [99,111,117,110,116],Ks [40,41,73]]),o 13 (.mkslice 8 8 [.bool false,.str [],.str [],.int .i64 0,.int .i64 0,.slice none 0 (some 0),.slice none 0 (some 0),.slice none 0 (some 0),.bool false,.str [],.str [],.int .i64 0,.int .i64 0,.slice none 0 (some 0),.slice none 0 (some 0),.slice none 0 (some 0),.bool false,.str [],.str [],.int .i64 0,.int .i64 0,.slice none 0 (some 0),.slice none 0 (some 0),.slice none 0 (some 0),.bool false,.str [],.str [],.int .i64 0,.int .i64 0,.slice none 0 (some 0),.slice none 0 (some 0),.slice none 0 (some 0),.bool false,.str [],.str [],.int .i64 0,.int .i64 0,.slice none 0 (some 0),.slice none 0 (some 0),.slice none 0 (some 0),.bool false,.str [],.str [],.int .i64 0,.int .i64 0,.slice none 0 (some 0),.slice none 0 (some 0),.slice none 0 (some 0),.bool false,.str [],.str [],.int .i64 0,.int .i64 0,.slice none 0 (some 0),.slice none 0 (some 0),.slice none 0 (some 0),.bool false,.str [],.str [],.int .i64 0,.int .i64 0,.slice none 0 (some 0),.slice none 0 (some 0),.slice none 0 (some 0)] [(0,8,t 5),(8,8,t 6),(16,8,t 7),(24,8,t 8),(32,8,t 9),(40,8,t 10),(48,8,t 11),(56,8,t 12)]),o 14 (.build [.str [],.str [],.slice none 0 (some 0),.slice none 0 (some 0)] [(0,1,Ks [115,121,115]),(1,1,Ks [79,98,106,101,99,116]),(3,1,t 13)]),o 1 (.lalloc [.str [],.str [],.slice none 0 (some 0),.slice none 0 (some 0)]),u (.store 4 (t 1) (t 14))])
 (S (R [2] [o 15 (.build [.str [],.str [],.slice none 0 (some 0),.slice none 0 (some 0)] [(0,1,Ks [79,98,106,101,99,116])]),o 16 (.build [.str [],.str [],.slice none 0 (some 0),.slice none 0 (some 0)] [(0,1,Ks [84,104,114,111,119,97,98,108,101]),(1,1,Ks [79,98,106,101,99,116])]),o 17 (.load (some 4) (t 1)),o 18 (.mkslice 4 3 [.str [],.str [],.slice none 0 (some 0),.slice none 0 (some 0),.str [],.str [],.slice none 0 (some 0),.slice none 0 (some 0),.str [],.str [],.slice none 0 (some 0),.slice none 0 (some 0)] [(0,4,t 15),(4,4,t 16),(8,4,t 17)]),v 2 18])
 (S (S (R [2,19,20,21] [o 19 (.mkslice 1 6 [.str [],.str [],.str [],.str [],.str [],.str []] [(0,1,Ks [78,117,108,108,70,97,117,108,116]),(1,1,Ks [66,111,117,110,100,115,70,97,117,108,116]),(2,1,Ks [77,97,116,104,70,97,117,108,116]),(3,1,Ks [67,97,115,116,70,97,117,108,116]),(4,1,Ks [83,105,122,101,70,97,117,108,116]),(5,1,Ks [83,116,111,114,101,70,97,117,108,116])]),o 20 (Sl 19),o 21 (.val (n 0))])
 (.after (.block 0 (.loop code108L0)) [2]))
 (S (R [0] [v 31 2,v 0 31])
 (Z [0]))))),none⟩
def code112L0:ACode :=
 .live [0,5,6,7] (S (S (R [0,5,6,21] [v 14 7,v 15 14,g 16 15 true (Vl 5),g 17 15 true (Sl 16),g 18 15 true (Vl 0),g 19 15 true (Sl 18),g 20 15 true (Bt .leq 17 19),o 21 (.pick (t 15) (t 20) F)])
 (.after (.cond (t 21) (.skip) (.live [5] (.exit 0))) [0,5,6]))
 (S (.after (.block 1 (R [0,5,6] [v 29 5,o 30 (.load (some 4) (t 6)),o 31 (.mkslice 4 1 [.str [],.str [],.slice none 0 (some 0),.slice none 0 (some 0)] [(0,4,t 30)]),o 32 (.append 4 80 (t 29) (t 31)),v 5 32])) [0,5,6])
 (S (S (R [0,5,33] [o 33 (.load (some 4) (t 6))])
 (R [0,5,6] [o 6 (.lalloc [.str [],.str [],.slice none 0 (some 0),.slice none 0 (some 0)]),u (.store 4 (t 6) (t 33))]))
 (R [0,5,6,7] [v 23 0,o 24 (Fa 6 1),o 25 (Lq 24),o 26 (.callg 160 [t 23,t 25]),v 22 26,o 27 (Xt 22 0),o 28 (Xt 22 1),u (.store 4 (t 6) (t 27)),v 7 28]))))
def code112:AFunc:=⟨false,false,2,35,[.tmp 4],
 S (R [0,1] [o 4 (.val (.const (.slice none 0 (some 0))))])
 (S (R [0,1,5] [o 5 (.val (.const (.slice none 0 (some 0))))])
 (S (S (R [0,5,6,7] [v 9 0,v 10 1,o 11 (.callg 160 [t 9,t 10]),v 8 11,o 12 (Xt 8 0),o 13 (Xt 8 1),o 6 (.lalloc [.str [],.str [],.slice none 0 (some 0),.slice none 0 (some 0)]),u (.store 4 (t 6) (t 12)),v 7 13])
 (.after (.block 0 (.loop code112L0)) [5]))
 (S (R [4] [v 34 5,v 4 34])
 (Z [4])))),none⟩
def code115:AFunc:=⟨false,false,2,8,[.cell 4 (some 8)],
 S (R [0,1,4] [o 4 (.lalloc [.bool false,.str [],.str [],.int .i64 0,.int .i64 0,.slice none 0 (some 0),.slice none 0 (some 0),.slice none 0 (some 0)])])
 (S (R [4] [v 5 0,v 6 1,o 7 (.build [.bool false,.str [],.str [],.int .i64 0,.int .i64 0,.slice none 0 (some 0),.slice none 0 (some 0),.slice none 0 (some 0)] [(0,1,.const (.bool true)),(1,1,t 5),(2,1,t 6)]),u (.store 8 (t 4) (t 7))])
 (Z [4])),none⟩
def code155L0:ACode :=
 .live [0,1,2,10,11] (S (R [0,1,2,10,11,12] [o 12 (Bt .lss 11 10)])
 (S (.after (.cond (t 12) (.skip) (.live [] (.exit 0))) [0,1,2,10,11])
 (S (.after (.block 1 (S (.after (.region [⟨true,[],[o 14 (Lq 1),o 15 (.nilcheck (t 14)),o 16 (Fa 15 0),o 17 (Lq 16),o 18 (Lq 2)]⟩,⟨false,[],[o 19 (.ext (.lookup (.one .s) (.str []) true) [t 17,t 18]),v 13 19]⟩,⟨true,[],[o 20 (Xt 13 0),o 21 (Xt 13 1),v 4 20]⟩,⟨false,[],[v 5 21]⟩]) [0,1,2,4,5,10,11])
 (S (S (R [0,1,2,4,10,11,29] [v 22 5,o 23 (.un .not (t 22)),v 24 23,g 25 24 false (Vl 0),g 26 24 false (Lq 2),g 27 24 false (.call (t 25) [t 26]),g 28 24 false (.un .not (t 27)),o 29 (.pick (t 24) Y (t 28))])
 (.after (.cond (t 29) (Z []) (.skip)) [0,1,2,4,10,11]))
 (R [0,1,2,10,11] [v 30 4,u (.store 1 (t 2) (t 30))])))) [0,1,2,10,11])
 (R [0,1,2,10,11] [o 31 (Bn .add 11 1),v 11 31]))))
def code155:AFunc:=⟨false,false,3,32,[],
 S (R [0,1,2,10,11] [o 6 (Lq 1),o 7 (.nilcheck (t 6)),o 8 (Fa 7 0),o 9 (Lq 8),o 10 (.len .map (t 9)),o 11 (.val (n 0))])
 (.after (.block 0 (.loop code155L0)) []),none⟩
def code156:AFunc:=⟨false,false,2,6,[.tmp 4],
 S (R [2,3] [o 2 (.box (t 0)),o 3 (.box (t 1)),o 4 (.val (.const (.nilFunc)))])
 (S (R [4] [o 5 (.mkfunc 155 [] [t 2,t 3]),v 4 5])
 (Z [4])),none⟩
def code157L0:ACode :=
 .live [5,77,78,79,84,85,86] (S (R [5,77,78,79,84,85,86,87] [o 87 (Bt .lss 86 85)])
 (S (.after (.cond (t 87) (.skip) (.live [5,77,78,79] (.exit 6))) [5,77,78,79,84,85,86])
 (S (.after (.block 7 (S (R [5,19,77,78,79,84,85,86] [o 88 (.iaddr 8 (t 84) (t 86)),o 89 (.load (some 8) (t 88)),o 19 (.lalloc [.bool false,.str [],.str [],.int .i64 0,.int .i64 0,.slice none 0 (some 0),.slice none 0 (some 0),.slice none 0 (some 0)]),u (.store 8 (t 19) (t 89))])
 (S (R [5,77,78,79,84,85,86,108] [o 90 (Fa 19 1),o 91 (Lq 90),o 92 (Fa 5 1),o 93 (Lq 92),o 94 (Bt .eql 91 93),v 95 94,g 96 95 true (Fa 19 2),g 97 95 true (Lq 96),g 98 95 true (Fa 5 2),g 99 95 true (Lq 98),g 100 95 true (Bt .eql 97 99),o 101 (.pick (t 95) (t 100) F),v 102 101,g 103 102 true (Fa 19 0),g 104 102 true (Lq 103),g 105 102 true (Fa 5 0),g 106 102 true (Lq 105),g 107 102 true (.beq true (t 104) (t 106)),o 108 (.pick (t 102) (t 107) F)])
 (.after (.cond (t 108) (S (R [6] [o 6 (.val F)])
 (Z [6])) (.skip)) [5,77,78,79,84,85,86])))) [5,77,78,79,84,85,86])
 (R [5,77,78,79,84,85,86] [o 109 (Bn .add 86 1),v 86 109]))))
def code157L1:ACode :=
 .live [5,77,78,79] (S (R [5,77,78,79,80] [o 80 (Bt .lss 79 78)])
 (S (.after (.cond (t 80) (.skip) (.live [] (.exit 4))) [5,77,78,79])
 (S (.after (.block 5 (S (R [5,17,77,78,79] [o 81 (.iaddr 4 (t 77) (t 79)),o 82 (.load (some 4) (t 81)),o 17 (.lalloc [.str [],.str [],.slice none 0 (some 0),.slice none 0 (some 0)]),u (.store 4 (t 17) (t 82))])
 (S (R [5,77,78,79,84,85,86] [o 83 (Fa 17 3),o 84 (Lq 83),o 85 (Sl 84),o 86 (.val (n 0))])
 (.after (.block 6 (.loop code157L0)) [5,77,78,79])))) [5,77,78,79])
 (R [5,77,78,79] [o 110 (Bn .add 79 1),v 79 110]))))
def code157L2:ACode :=
 .live [0,4,5,53,54,55] (S (R [0,4,5,53,54,55,56] [o 56 (Bt .lss 55 54)])
 (S (.after (.cond (t 56) (.skip) (.live [0,4,5] (.exit 2))) [0,4,5,53,54,55])
 (S (.after (.block 3 (S (R [0,4,5,13,53,54,55] [o 57 (.iaddr 4 (t 53) (t 55)),o 58 (.load (some 4) (t 57)),o 13 (.lalloc [.int .i64 0,.int .i64 0,.int .i64 0,.str []]),u (.store 4 (t 13) (t 58))])
 (S (R [0,4,5,13,15,53,54,55] [v 60 0,o 61 (Fa 13 3),o 62 (Lq 61),o 63 (.callg 160 [t 60,t 62]),v 59 63,o 64 (Xt 59 0),o 65 (Xt 59 1),o 14 (.lalloc [.str [],.str [],.slice none 0 (some 0),.slice none 0 (some 0)]),u (.store 4 (t 14) (t 64)),v 15 65])
 (S (R [0,4,5,53,54,55,72] [o 66 (Fa 13 3),o 67 (Lq 66),o 68 (.bin .neq (t 67) (Ks [])),v 69 68,g 70 69 true (Vl 15),g 71 69 true (.un .not (t 70)),o 72 (.pick (t 69) (t 71) F)])
 (.after (.cond (t 72) (S (R [6] [o 6 (.val F)])
 (Z [6])) (.skip)) [0,4,5,53,54,55]))))) [0,4,5,53,54,55])
 (R [0,4,5,53,54,55] [o 73 (Bn .add 55 1),v 55 73]))))
def code157L3:ACode :=
 .live [0,4,5,41,42,43] (S (R [0,4,5,41,42,43,44] [o 44 (Bt .lss 43 42)])
 (S (.after (.cond (t 44) (.skip) (.live [0,4,5] (.exit 0))) [0,4,5,41,42,43])
 (S (.after (.block 1 (S (R [0,4,5,11,41,42,43] [o 45 (.iaddr 1 (t 41) (t 43)),o 46 (Lq 45),v 11 46])
 (S (R [0,4,5,41,42,43,50] [v 47 0,v 48 11,o 49 (.callg 159 [t 47,t 48]),o 50 (.un .not (t 49))])
 (.after (.cond (t 50) (S (R [6] [o 6 (.val F)])
 (Z [6])) (.skip)) [0,4,5,41,42,43])))) [0,4,5,41,42,43])
 (R [0,4,5,41,42,43] [o 51 (Bn .add 43 1),v 43 51]))))
def code157:AFunc:=⟨false,false,3,111,[.tmp 6],
 S (R [0,4,5] [o 4 (.lbox (t 1)),o 5 (.lbox (t 2)),o 6 (.val F)])
 (S (R [0,4,5,7,8,9] [o 21 (Fa 5 2),o 22 (Lq 21),o 23 (.callg 37 [t 22]),v 20 23,o 24 (Xt 20 0),o 25 (Xt 20 1),o 26 (Xt 20 2),v 7 24,v 8 25,v 9 26])
 (S (S (R [0,4,5,7,40] [o 27 (Fa 5 1),o 28 (Lq 27),o 29 (.callg 158 [t 28]),o 30 (.un .not (t 29)),v 31 30,g 32 31 false (Vl 9),g 33 31 false (Bn .neq 32 0),o 34 (.pick (t 31) Y (t 33)),v 35 34,g 36 35 false (Vl 0),g 37 35 false (Vl 8),g 38 35 false (.callg 159 [t 36,t 37]),g 39 35 false (.un .not (t 38)),o 40 (.pick (t 35) Y (t 39))])
 (.after (.cond (t 40) (S (R [6] [o 6 (.val F)])
 (Z [6])) (.skip)) [0,4,5,7]))
 (S (S (R [0,4,5,41,42,43] [v 41 7,o 42 (Sl 41),o 43 (.val (n 0))])
 (.after (.block 0 (.loop code157L3)) [0,4,5]))
 (S (S (R [0,4,5,53,54,55] [o 52 (Fa 5 6),o 53 (Lq 52),o 54 (Sl 53),o 55 (.val (n 0))])
 (.after (.block 2 (.loop code157L2)) [0,4,5]))
 (S (S (R [5,77,78,79] [v 74 0,o 75 (Fa 4 0),o 76 (Lq 75),o 77 (.callg 112 [t 74,t 76]),o 78 (Sl 77),o 79 (.val (n 0))])
 (.after (.block 4 (.loop code157L1)) []))
 (S (R [6] [o 6 (.val Y)])
 (Z [6]))))))),none⟩
def code158L0:ACode :=
 .live [0,3] (S (S (R [0,3,7] [v 4 3,v 5 0,o 6 (.len .str (t 5)),o 7 (Bt .lss 4 6)])
 (.after (.cond (t 7) (.skip) (.live [0] (.exit 0))) [0,3]))
 (S (.after (.block 1 (S (R [0,3,13] [v 10 0,v 11 3,o 12 (.index (t 10) (t 11)),o 13 (.bin .eql (t 12) (.const (.int .u8 47)))])
 (.after (.cond (t 13) (S (R [2] [o 2 (.val F)])
 (Z [2])) (.skip)) [0,3]))) [0,3])
 (R [0,3] [v 8 3,o 9 (Bn .add 8 1),v 3 9])))
def code158:AFunc:=⟨false,false,1,16,[.tmp 2],
 S (R [0] [o 2 (.val F)])
 (S (S (R [0,3] [o 3 (.val (n 0))])
 (.after (.block 0 (.loop code158L0)) [0]))
 (S (R [2] [v 14 0,o 15 (.callg 26 [t 14]),v 2 15])
 (Z [2]))),none⟩
def code159L0:ACode :=
 .live [0,1] (S (S (R [0,1,15] [v 9 1,o 10 (.bin .neq (t 9) (Ks [])),v 11 10,g 12 11 true (Vl 1),g 13 11 true (.index (t 12) (n 0)),g 14 11 true (.bin .eql (t 13) (.const (.int .u8 91))),o 15 (.pick (t 11) (t 14) F)])
 (.after (.cond (t 15) (.skip) (.live [0,1] (.exit 0))) [0,1]))
 (.after (.block 1 (R [0,1] [v 16 1,o 17 (.slice .str (t 16) (some (n 1)) none none),v 1 17])) [0,1]))
def code159:AFunc:=⟨false,false,2,34,[.tmp 4],
 S (R [0,1] [o 4 (.val F)])
 (S (.after (.block 0 (.loop code159L0)) [0,1])
 (S (R [0,5,6] [v 19 1,o 20 (.callg 33 [t 19]),v 18 20,o 21 (Xt 18 0),o 22 (Xt 18 1),v 5 21,v 6 22])
 (S (R [6,8] [v 24 0,v 25 5,o 26 (.callg 160 [t 24,t 25]),v 23 26,o 27 (Xt 23 0),o 28 (Xt 23 1),o 7 (.lalloc [.str [],.str [],.slice none 0 (some 0),.slice none 0 (some 0)]),u (.store 4 (t 7) (t 27)),v 8 28])
 (S (R [4] [v 29 6,o 30 (.un .not (t 29)),v 31 30,g 32 31 false (Vl 8),o 33 (.pick (t 31) Y (t 32)),v 4 33])
 (Z [4]))))),none⟩
def code160L0:ACode :=
 .live [1,4,8,9,10] (S (R [1,4,8,9,10,11] [o 11 (Bt .lss 10 9)])
 (S (.after (.cond (t 11) (.skip) (.live [4] (.exit 0))) [1,4,8,9,10])
 (S (.after (.block 1 (S (R [1,4,7,8,9,10] [o 12 (.iaddr 4 (t 8) (t 10)),o 13 (.load (some 4) (t 12)),o 7 (.lalloc [.str [],.str [],.slice none 0 (some 0),.slice none 0 (some 0)]),u (.store 4 (t 7) (t 13))])
 (S (R [1,4,7,8,9,10,17] [o 14 (Fa 7 0),o 15 (Lq 14),v 16 1,o 17 (Bt .eql 15 16)])
 (.after (.cond (t 17) (S (R [4,5] [o 18 (.load (some 4) (t 7)),u (.store 4 (t 4) (t 18)),o 5 (.val Y)])
 (Z [4,5])) (.skip)) [1,4,8,9,10])))) [1,4,8,9,10])
 (R [1,4,8,9,10] [o 19 (Bn .add 10 1),v 10 19]))))
def code160:AFunc:=⟨false,false,2,21,[.cell 4 (some 4),.tmp 5],
 S (R [0,1,4] [o 4 (.lalloc [.str [],.str [],.slice none 0 (some 0),.slice none 0 (some 0)]),o 5 (.val F)])
 (S (S (R [1,4,8,9,10] [v 8 0,o 9 (Sl 8),o 10 (.val (n 0))])
 (.after (.block 0 (.loop code160L0)) [4]))
 (S (R [4,5] [o 20 (.build [.str [],.str [],.slice none 0 (some 0),.slice none 0 (some 0)] []),u (.store 4 (t 4) (t 20)),o 5 (.val F)])
 (Z [4,5]))),none⟩
def code179:AFunc:=⟨false,false,0,10,[.cell 0 (some 16)],
 S (R [0] [o 0 (.lalloc [.str [],.str [],.str [],.str [],.str [],.str [],.str [],.str [],.str [],.str [],.str [],.str [],.str [],.str [],.str [],.str []])])
 (S (R [0] [o 1 (.build [.str [],.str []] [(0,1,Ks [112,114,105,110,116]),(1,1,Ks [40,73,41,86])]),o 2 (.build [.str [],.str []] [(0,1,Ks [112,114,105,110,116,76,111,110,103]),(1,1,Ks [40,74,41,86])]),o 3 (.build [.str [],.str []] [(0,1,Ks [112,114,105,110,116,84,101,120,116]),(1,1,Ks [40,91,66,41,86])]),o 4 (.build [.str [],.str []] [(0,1,Ks [97,100,100]),(1,1,Ks [40,91,66,41,73])]),o 5 (.build [.str [],.str []] [(0,1,Ks [103,101,116]),(1,1,Ks [40,73,41,91,66])]),o 6 (.build [.str [],.str []] [(0,1,Ks [115,101,116]),(1,1,Ks [40,73,91,66,41,86])]),o 7 (.build [.str [],.str []] [(0,1,Ks [100,101,108]),(1,1,Ks [40,73,41,86])]),o 8 (.build [.str [],.str []] [(0,1,Ks [99,111,117,110,116]),(1,1,Ks [40,41,73])]),o 9 (.build [.str [],.str [],.str [],.str [],.str [],.str [],.str [],.str [],.str [],.str [],.str [],.str [],.str [],.str [],.str [],.str []] [(0,2,t 1),(2,2,t 2),(4,2,t 3),(6,2,t 4),(8,2,t 5),(10,2,t 6),(12,2,t 7),(14,2,t 8)]),u (.store 16 (t 0) (t 9))])
 (Z [0])),none⟩
def code181:AFunc:=⟨false,false,1,10,[.tmp 2],
 S (R [0] [o 2 (.val F)])
 (S (R [2] [v 3 0,o 4 (.callg 180 [t 3,Ks [47]]),o 5 (.un .not (t 4)),v 6 5,g 7 6 true (Vl 0),g 8 6 true (.callg 25 [t 7]),o 9 (.pick (t 6) (t 8) F),v 2 9])
 (Z [2])),none⟩
def code182L0:ACode :=
 .live [0,42,43,44] (S (R [0,42,43,44,45] [o 45 (Bt .lss 44 43)])
 (S (.after (.cond (t 45) (.skip) (.live [] (.exit 2))) [0,42,43,44])
 (S (.after (.block 3 (S (R [0,11,42,43,44] [o 46 (.iaddr 4 (t 42) (t 44)),o 47 (.load (some 4) (t 46)),o 11 (.lalloc [.int .i64 0,.int .i64 0,.int .i64 0,.str []]),u (.store 4 (t 11) (t 47))])
 (S (R [0,42,43,44,57] [o 48 (Fa 11 3),o 49 (Lq 48),o 50 (.bin .neq (t 49) (Ks [])),v 51 50,g 52 51 true (Vl 0),g 53 51 true (Fa 11 3),g 54 51 true (Lq 53),g 55 51 true (.callg 54 [t 52,t 54]),g 56 51 true (.un .not (t 55)),o 57 (.pick (t 51) (t 56) F)])
 (.after (.cond (t 57) (S (R [4] [o 4 (.val F)])
 (Z [4])) (.skip)) [0,42,43,44])))) [0,42,43,44])
 (R [0,42,43,44] [o 58 (Bn .add 44 1),v 44 58]))))
def code182L1:ACode :=
 .live [0,3,30,31,32] (S (R [0,3,30,31,32,33] [o 33 (Bt .lss 32 31)])
 (S (.after (.cond (t 33) (.skip) (.live [0,3] (.exit 0))) [0,3,30,31,32])
 (S (.after (.block 1 (S (R [0,3,9,30,31,32] [o 34 (.iaddr 1 (t 30) (t 32)),o 35 (Lq 34),v 9 35])
 (S (R [0,3,30,31,32,39] [v 36 0,v 37 9,o 38 (.callg 103 [t 36,t 37]),o 39 (.un .not (t 38))])
 (.after (.cond (t 39) (S (R [4] [o 4 (.val F)])
 (Z [4])) (.skip)) [0,3,30,31,32])))) [0,3,30,31,32])
 (R [0,3,30,31,32] [o 40 (Bn .add 32 1),v 32 40]))))
def code182:AFunc:=⟨false,false,2,59,[.tmp 4],
 S (R [0,3] [o 3 (.lbox (t 1)),o 4 (.val F)])
 (S (R [0,3,5,6,7] [o 13 (Fa 3 2),o 14 (Lq 13),o 15 (.callg 38 [t 14]),v 12 15,o 16 (Xt 12 0),o 17 (Xt 12 1),o 18 (Xt 12 2),v 5 16,v 6 17,v 7 18])
 (S (S (R [0,3,5,6,26] [v 19 7,o 20 (Bn .neq 19 0),v 21 20,g 22 21 false (Fa 3 1),g 23 21 false (Lq 22),g 24 21 false (.callg 181 [t 23]),g 25 21 false (.un .not (t 24)),o 26 (.pick (t 21) Y (t 25))])
 (.after (.cond (t 26) (S (R [4] [o 4 (.val F)])
 (Z [4])) (.skip)) [0,3,5,6]))
 (S (S (R [0,3,30,31,32] [v 27 5,v 28 6,o 29 (.mkslice 1 1 [.str []] [(0,1,t 28)]),o 30 (.append 1 16 (t 27) (t 29)),o 31 (Sl 30),o 32 (.val (n 0))])
 (.after (.block 0 (.loop code182L1)) [0,3]))
 (S (S (R [0,42,43,44] [o 41 (Fa 3 6),o 42 (Lq 41),o 43 (Sl 42),o 44 (.val (n 0))])
 (.after (.block 2 (.loop code182L0)) []))
 (S (R [4] [o 4 (.val Y)])
 (Z [4])))))),none⟩
def code284L0:ACode :=
 .live [1,24,25] (S (R [1,24,25,26] [o 26 (Bn .lss 25 8)])
 (S (.after (.cond (t 26) (.skip) (.live [1] (.exit 2))) [1,24,25])
 (S (.after (.block 3 (S (R [1,5,24,25] [o 27 (.aindex 8 2 (some 2) (t 24) (t 25)),o 5 (.lalloc [.str [],.str []]),u (.store 2 (t 5) (t 27))])
 (S (R [1,6,24,25] [o 28 (.aaddr 2 1 (t 5) (n 0)),o 29 (Lq 28),o 30 (.aaddr 2 1 (t 5) (n 1)),o 31 (Lq 30),o 32 (.build [.str [],.str [],.str []] [(0,1,Ks [115,121,115]),(1,1,t 29),(2,1,t 31)]),o 6 (.lalloc [.str [],.str [],.str []]),u (.store 3 (t 6) (t 32))])
 (S (.after (.region [⟨true,[],[v 33 1,o 34 (.nilcheck (t 33)),o 35 (Fa 34 2),o 36 (Lq 35),o 37 (.load (some 3) (t 6)),o 38 (.build [.str [],.bool false] [(0,1,Ks [115,121,115]),(1,1,.const (.bool true))])]⟩,⟨false,[],[u (.ext (.mapupd (.agg [.s,.s,.s])) [t 36,t 37,t 38])]⟩]) [1,6,24,25])
 (.after (.region [⟨true,[],[v 39 1,o 40 (.nilcheck (t 39)),o 41 (Fa 40 3),o 42 (Lq 41),o 43 (.load (some 3) (t 6))]⟩,⟨false,[],[u (.ext (.mapupd (.agg [.s,.s,.s])) [t 42,t 43,.const (.bool true)])]⟩]) [1,24,25]))))) [1,24,25])
 (R [1,24,25] [o 44 (Bn .add 25 1),v 25 44]))))
def code284L1:ACode :=
 .live [1,14,15] (S (R [1,14,15,16] [o 16 (Bn .lss 15 6)])
 (S (.after (.cond (t 16) (.skip) (.live [1] (.exit 0))) [1,14,15])
 (S (.after (.block 1 (S (R [1,3,14,15] [o 17 (.aindex 6 1 none (t 14) (t 15)),v 3 17])
 (R [1,14,15] [v 18 1,o 19 (.nilcheck (t 18)),o 20 (Fa 19 0),o 21 (Lq 20),v 22 3,u (.ext (.mapupd (.one .s)) [t 21,t 22,Ks [84,104,114,111,119,97,98,108,101]])]))) [1,14,15])
 (R [1,14,15] [o 23 (Bn .add 15 1),v 15 23]))))
def code284:AFunc:=⟨false,false,0,46,[.tmp 0],
 S (R [] [o 0 (.val (.const (.ptr none)))])
 (S (R [1] [o 7 (.ext .mkmap []),u (.ext (.mapupd (.one .s)) [t 7,Ks [79,98,106,101,99,116],Ks []]),u (.ext (.mapupd (.one .s)) [t 7,Ks [84,104,114,111,119,97,98,108,101],Ks [79,98,106,101,99,116]]),u (.ext (.mapupd (.one .s)) [t 7,Ks [115,121,115],Ks [79,98,106,101,99,116]]),v 8 7,o 9 (.ext .mkmap []),o 10 (.ext .mkmap []),o 11 (.ext .mkmap []),o 12 (.build [.map none,.map none,.map none,.map none] [(0,1,t 8),(1,1,t 9),(2,1,t 10),(3,1,t 11)]),o 13 (.box (t 12)),v 1 13])
 (S (S (R [1,14,15] [o 14 (.build [.str [],.str [],.str [],.str [],.str [],.str []] [(0,1,Ks [78,117,108,108,70,97,117,108,116]),(1,1,Ks [66,111,117,110,100,115,70,97,117,108,116]),(2,1,Ks [77,97,116,104,70,97,117,108,116]),(3,1,Ks [67,97,115,116,70,97,117,108,116]),(4,1,Ks [83,105,122,101,70,97,117,108,116]),(5,1,Ks [83,116,111,114,101,70,97,117,108,116])]),o 15 (.val (n 0))])
 (.after (.block 0 (.loop code284L1)) [1]))
 (S (S (R [1,24,25] [o 24 (.callg 179 []),o 25 (.val (n 0))])
 (.after (.block 2 (.loop code284L0)) [1]))
 (S (R [0] [v 45 1,v 0 45])
 (Z [0]))))),none⟩
def T:Nat→Option AFunc:=fun g=>match Zd.T g with
 | some f=>some f
 | none=>List.lookup g [(47,code47),(49,code49),(320,code320),(52,code52),(54,code54),(96,code96),(322,code322),(97,code97),(321,code321),(98,code98),(99,code99),(100,code100),(103,code103),(106,code106),(107,code107),(108,code108),(112,code112),(115,code115),(155,code155),(156,code156),(157,code157),(158,code158),(159,code159),(160,code160),(179,code179),(181,code181),(182,code182),(284,code284)]
theorem sub:∀ g f,Zd.T g=some f→T g=some f:=fun g f h=>by unfold T; rw [h]
theorem t47:T 47=some code47:=rfl
theorem t49:T 49=some code49:=rfl
theorem t320:T 320=some code320:=rfl
theorem t52:T 52=some code52:=rfl
theorem t54:T 54=some code54:=rfl
theorem t96:T 96=some code96:=rfl
theorem t322:T 322=some code322:=rfl
theorem t97:T 97=some code97:=rfl
theorem t321:T 321=some code321:=rfl
theorem t98:T 98=some code98:=rfl
theorem t99:T 99=some code99:=rfl
theorem t100:T 100=some code100:=rfl
theorem t103:T 103=some code103:=rfl
theorem t106:T 106=some code106:=rfl
theorem t107:T 107=some code107:=rfl
theorem t108:T 108=some code108:=rfl
theorem t112:T 112=some code112:=rfl
theorem t115:T 115=some code115:=rfl
theorem t155:T 155=some code155:=rfl
theorem t156:T 156=some code156:=rfl
theorem t157:T 157=some code157:=rfl
theorem t158:T 158=some code158:=rfl
theorem t159:T 159=some code159:=rfl
theorem t160:T 160=some code160:=rfl
theorem t179:T 179=some code179:=rfl
theorem t181:T 181=some code181:=rfl
theorem t182:T 182=some code182:=rfl
theorem t284:T 284=some code284:=rfl
end Go.Abs.Zh

namespace Go.Abs.Zm
open Go.Abs.Short
-- base: Zh
def code48T0:ACode :=
 S (R [2] [o 47 (.load (some 4) (t 3)),o 48 (.load (some 4) (t 4)),o 49 (.load (some 4) (t 5)),o 50 (.build [.str [],.str [],.slice none 0 (some 0),.slice none 0 (some 0)] [(0,1,Ks [79,111,112,115]),(1,1,Ks [84,104,114,111,119,97,98,108,101])]),o 51 (.mkslice 4 4 [.str [],.str [],.slice none 0 (some 0),.slice none 0 (some 0),.str [],.str [],.slice none 0 (some 0),.slice none 0 (some 0),.str [],.str [],.slice none 0 (some 0),.slice none 0 (some 0),.str [],.str [],.slice none 0 (some 0),.slice none 0 (some 0)] [(0,4,t 47),(4,4,t 48),(8,4,t 49),(12,4,t 50)]),v 2 51])
 (Z [2])
def code48T1:ACode :=
 S (S (R [0,3,4,5,42] [v 40 0,o 41 (.callg 102 [t 40,n 3]),o 42 (Bn .gtr 41 0)])
 (.after (.cond (t 42) (R [3,4,5] [v 43 0,o 44 (.callg 101 [t 43,.const (.bool false),Ks [118],n 0]),o 45 (.mkslice 8 1 [.bool false,.str [],.str [],.int .i64 0,.int .i64 0,.slice none 0 (some 0),.slice none 0 (some 0),.slice none 0 (some 0)] [(0,8,t 44)]),o 46 (Fa 5 3),u (.store 1 (t 46) (t 45))]) (.skip)) [3,4,5]))
 (code48T0)
def code48T2:ACode :=
 S (R [0,3,4,5] [o 37 (.build [.bool false,.str [],.str []] [(1,1,Ks [103]),(2,1,Ks [73])]),o 38 (.mkslice 3 1 [.bool false,.str [],.str []] [(0,3,t 37)]),o 39 (.build [.str [],.str [],.slice none 0 (some 0),.slice none 0 (some 0)] [(0,1,Ks [66]),(1,1,Ks [65]),(2,1,t 38)]),o 5 (.lalloc [.str [],.str [],.slice none 0 (some 0),.slice none 0 (some 0)]),u (.store 4 (t 5) (t 39))])
 (code48T1)
def code48T3:ACode :=
 S (R [0,3,4] [o 29 (.build [.bool false,.str [],.str []] [(1,1,Ks [102]),(2,1,Ks [73])]),o 30 (.build [.bool false,.str [],.str []] [(1,1,Ks [108]),(2,1,Ks [74])]),o 31 (.build [.bool false,.str [],.str []] [(1,1,Ks [110,101,120,116]),(2,1,Ks [76,65,59])]),o 32 (.mkslice 3 3 [.bool false,.str [],.str [],.bool false,.str [],.str [],.bool false,.str [],.str []] [(0,3,t 29),(3,3,t 30),(6,3,t 31)]),v 33 0,o 34 (.callg 101 [t 33,.const (.bool false),Ks [118],n 0]),o 35 (.mkslice 8 1 [.bool false,.str [],.str [],.int .i64 0,.int .i64 0,.slice none 0 (some 0),.slice none 0 (some 0),.slice none 0 (some 0)] [(0,8,t 34)]),o 36 (.build [.str [],.str [],.slice none 0 (some 0),.slice none 0 (some 0)] [(0,1,Ks [65]),(1,1,Ks [79,98,106,101,99,116]),(2,1,t 32),(3,1,t 35)]),o 4 (.lalloc [.str [],.str [],.slice none 0 (some 0),.slice none 0 (some 0)]),u (.store 4 (t 4) (t 36))])
 (code48T2)
def code48T4:ACode :=
 S (R [0,3] [v 10 0,o 11 (.callg 101 [t 10,.const (.bool true),Ks [109,97,105,110],n 6]),o 12 (.build [.int .u8 0,.int .i64 0,.int .i64 0,.str [],.str [],.str [],.str []] [(0,1,.const (.int .u8 21))]),v 13 0,o 14 (.callg 102 [t 13,n 7]),o 15 (.bin .add (n 2) (t 14)),o 16 (.conv (.int .u8) (t 15)),o 17 (.build [.int .u8 0,.int .i64 0,.int .i64 0,.str [],.str [],.str [],.str []] [(0,1,t 16)]),o 18 (.mkslice 1 3 [.int .u8 0,.int .u8 0,.int .u8 0] [(0,1,.const (.int .u8 100)),(1,1,.const (.int .u8 108)),(2,1,.const (.int .u8 112))]),v 19 0,o 20 (.callg 102 [t 19,n 3]),o 21 (.iaddr 1 (t 18) (t 20)),o 22 (Lq 21),o 23 (.build [.int .u8 0,.int .i64 0,.int .i64 0,.str [],.str [],.str [],.str []] [(0,1,t 22)]),o 24 (.build [.int .u8 0,.int .i64 0,.int .i64 0,.str [],.str [],.str [],.str []] [(0,1,.const (.int .u8 172))]),o 25 (.mkslice 7 4 [.int .u8 0,.int .i64 0,.int .i64 0,.str [],.str [],.str [],.str [],.int .u8 0,.int .i64 0,.int .i64 0,.str [],.str [],.str [],.str [],.int .u8 0,.int .i64 0,.int .i64 0,.str [],.str [],.str [],.str [],.int .u8 0,.int .i64 0,.int .i64 0,.str [],.str [],.str [],.str []] [(0,7,t 12),(7,7,t 17),(14,7,t 23),(21,7,t 24)]),o 26 (.build [.bool false,.str [],.str [],.int .i64 0,.int .i64 0,.slice none 0 (some 0),.slice none 0 (some 0),.slice none 0 (some 0)] [(0,1,.const (.bool true)),(1,1,Ks [104,101,108,112]),(2,1,Ks [40,73,41,73]),(3,1,n 4),(4,1,n 1),(5,1,t 25)]),o 27 (.mkslice 8 2 [.bool false,.str [],.str [],.int .i64 0,.int .i64 0,.slice none 0 (some 0),.slice none 0 (some 0),.slice none 0 (some 0),.bool false,.str [],.str [],.int .i64 0,.int .i64 0,.slice none 0 (some 0),.slice none 0 (some 0),.slice none 0 (some 0)] [(0,8,t 11),(8,8,t 26)]),o 28 (Fa 3 3),u (.store 1 (t 28) (t 27))])
 (code48T3)
def code48:AFunc:=⟨false,false,1,52,[.tmp 2],
 S (R [0] [o 2 (.val (.const (.slice none 0 (some 0))))])
 (S (R [0,3] [o 6 (.build [.bool false,.str [],.str []] [(0,1,.const (.bool true)),(1,1,Ks [115]),(2,1,Ks [73])]),o 7 (.build [.bool false,.str [],.str []] [(0,1,.const (.bool true)),(1,1,Ks [111]),(2,1,Ks [76,65,59])]),o 8 (.mkslice 3 2 [.bool false,.str [],.str [],.bool false,.str [],.str []] [(0,3,t 6),(3,3,t 7)]),o 9 (.build [.str [],.str [],.slice none 0 (some 0),.slice none 0 (some 0)] [(0,1,Ks [77,97,105,110]),(1,1,Ks [79,98,106,101,99,116]),(2,1,t 8)]),o 3 (.lalloc [.str [],.str [],.slice none 0 (some 0),.slice none 0 (some 0)]),u (.store 4 (t 3) (t 9))])
 (code48T4)),none⟩
def code101L0:ACode :=
 .live [2,8,9,12] (S (S (R [2,8,9,12,90] [v 89 12,o 90 (Bn .gtr 89 0)])
 (.after (.cond (t 90) (.skip) (.live [2,8,9] (.exit 2))) [2,8,9,12]))
 (S (.after (.block 3 (R [2,8,9,12] [v 93 9,o 94 (.callg 152 [t 93])])) [2,8,9,12])
 (R [2,8,9,12] [v 91 12,o 92 (Bn .sub 91 1),v 12 92])))
def code101L1:ACode :=
 .live [0,2,3,8,9,43,44,45] (S (R [0,2,3,8,9,43,44,45,46] [o 46 (Bt .lss 45 44)])
 (S (.after (.cond (t 46) (.skip) (.live [0,2,3,8,9] (.exit 0))) [0,2,3,8,9,43,44,45])
 (S (.after (.block 1 (S (R [0,2,3,8,9,11,43,44,45] [o 47 (.iaddr 1 (t 43) (t 45)),o 48 (Lq 47),v 11 48])
 (S (R [0,2,3,8,9,11,43,44,45] [v 49 9,v 50 0,o 51 (.callg 102 [t 50,n 4]),o 52 (.callg 153 [t 49,t 51])])
 (R [0,2,3,8,9,43,44,45] [v 53 9,v 54 11,o 55 (.callg 150 [t 53,.const (.int .u8 54),t 54])])))) [0,2,3,8,9,43,44,45])
 (R [0,2,3,8,9,43,44,45] [o 56 (Bn .add 45 1),v 45 56]))))
def code101R0:ACode :=
 .after (.region [⟨true,[],[v 99 2,v 100 9,o 101 (.nilcheck (t 100)),o 102 (Fa 101 1),o 103 (Lq 102),v 104 9,o 105 (.nilcheck (t 104)),o 106 (Fa 105 2),o 107 (Lq 106),v 108 9,o 109 (.nilcheck (t 108)),o 110 (Fa 109 3),o 111 (Lq 110)]⟩,⟨false,[],[o 112 (.build [.bool false,.str [],.str [],.int .i64 0,.int .i64 0,.slice none 0 (some 0),.slice none 0 (some 0),.slice none 0 (some 0)] [(0,1,.const (.bool true)),(1,1,t 99),(2,1,Ks [40,73,41,73]),(3,1,n 40),(4,1,n 8),(5,1,t 103),(6,1,t 107),(7,1,t 111)]),u (.store 8 (t 8) (t 112))]⟩]) [8]
def code101T0:ACode :=
 S (S (R [2,8,9,12] [v 85 0,v 86 3,o 87 (.callg 102 [t 85,t 86]),o 88 (.bin .add (n 1) (t 87)),v 12 88])
 (.after (.block 2 (.loop code101L0)) [2,8,9]))
 (S (R [2,8,9] [v 95 9,o 96 (.callg 151 [t 95,n 1])])
 (S (R [2,8,9] [v 97 9,o 98 (.callg 150 [t 97,.const (.int .u8 172),n 0])])
 (S (code101R0)
 (Z [8]))))
def code101T1:ACode :=
 S (R [0,2,3,8,9] [v 57 9,o 58 (.callg 150 [t 57,.const (.int .u8 10),n 0])])
 (S (R [0,2,3,8,9] [v 59 9,o 60 (.callg 150 [t 59,.const (.int .u8 55),n 3])])
 (S (R [0,2,3,8,9] [v 61 9,v 62 9,o 63 (.nilcheck (t 62)),o 64 (Fa 63 1),o 65 (Lq 64),o 66 (.build [.int .u8 0,.int .i64 0,.int .i64 0,.str [],.str [],.str [],.str []] [(0,1,.const (.int .u8 187)),(3,1,Ks [65])]),o 67 (.mkslice 7 1 [.int .u8 0,.int .i64 0,.int .i64 0,.str [],.str [],.str [],.str []] [(0,7,t 66)]),o 68 (.append 7 88 (t 65) (t 67)),o 69 (.nilcheck (t 61)),o 70 (Fa 69 1),u (.store 1 (t 70) (t 68))])
 (S (R [0,2,3,8,9] [v 71 9,o 72 (.callg 150 [t 71,.const (.int .u8 58),n 5])])
 (S (R [0,2,3,8,9] [v 73 9,v 74 0,o 75 (.callg 102 [t 74,n 5]),o 76 (.callg 153 [t 73,t 75])])
 (S (R [0,2,3,8,9] [v 77 9,o 78 (.callg 150 [t 77,.const (.int .u8 188),n 10])])
 (S (R [0,2,3,8,9] [v 79 9,o 80 (.callg 150 [t 79,.const (.int .u8 58),n 6])])
 (S (R [0,2,3,8,9] [v 81 9,o 82 (.callg 150 [t 81,.const (.int .u8 1),n 0])])
 (S (R [0,2,3,8,9] [v 83 9,o 84 (.callg 150 [t 83,.const (.int .u8 58),n 7])])
 (code101T0)))))))))
def code101:AFunc:=⟨false,false,4,113,[.cell 8 (some 8)],
 S (R [0,1,2,3,8] [o 8 (.lalloc [.bool false,.str [],.str [],.int .i64 0,.int .i64 0,.slice none 0 (some 0),.slice none 0 (some 0),.slice none 0 (some 0)])])
 (S (R [0,1,2,3,8,9] [v 13 0,o 14 (.build [.ptr none,.slice none 0 (some 0),.slice none 0 (some 0),.slice none 0 (some 0),.int .i64 0,.int .i64 0] [(0,1,t 13),(5,1,n 60)]),o 15 (.box (t 14)),v 9 15])
 (S (S (R [0,2,3,8,9,17] [v 16 1,o 17 (.un .not (t 16))])
 (.after (.cond (t 17) (S (R [0,2,8,9] [v 18 9,o 19 (.callg 150 [t 18,.const (.int .u8 21),n 1])])
 (S (R [0,2,8,9] [v 20 9,o 21 (.callg 153 [t 20,n 3])])
 (S (R [0,2,8,9] [v 22 9,o 23 (.callg 150 [t 22,.const (.int .u8 96),n 0])])
 (S (R [0,2,8,9] [v 24 9,o 25 (.callg 150 [t 24,.const (.int .u8 25),n 0])])
 (S (R [0,2,8,9] [v 26 9,o 27 (.callg 154 [t 26,.const (.int .u8 180),Ks [65],Ks [102],Ks [73]])])
 (S (R [2,8,9] [v 28 9,o 29 (.mkslice 1 3 [.int .u8 0,.int .u8 0,.int .u8 0] [(0,1,.const (.int .u8 96)),(1,1,.const (.int .u8 104)),(2,1,.const (.int .u8 130))]),v 30 0,o 31 (.callg 102 [t 30,n 3]),o 32 (.iaddr 1 (t 29) (t 31)),o 33 (Lq 32),o 34 (.callg 150 [t 28,t 33,n 0])])
 (S (R [2,8,9] [v 35 9,o 36 (.callg 150 [t 35,.const (.int .u8 172),n 0])])
 (S (R [8] [v 37 2,v 38 9,o 39 (.nilcheck (t 38)),o 40 (Fa 39 1),o 41 (Lq 40),o 42 (.build [.bool false,.str [],.str [],.int .i64 0,.int .i64 0,.slice none 0 (some 0),.slice none 0 (some 0),.slice none 0 (some 0)] [(1,1,t 37),(2,1,Ks [40,73,41,73]),(3,1,n 8),(4,1,n 2),(5,1,t 41)]),u (.store 8 (t 8) (t 42))])
 (Z [8]))))))))) (.skip)) [0,2,3,8,9]))
 (S (S (R [0,2,3,8,9,43,44,45] [o 43 (.mkslice 1 2 [.int .i64 0,.int .i64 0] [(0,1,n 1),(1,1,n 2)]),o 44 (Sl 43),o 45 (.val (n 0))])
 (.after (.block 0 (.loop code101L1)) [0,2,3,8,9]))
 (code101T1)))),none⟩
def code102:AFunc:=⟨false,false,2,41,[.tmp 4],
 S (R [0,1] [o 4 (.val (n 0))])
 (S (S (.after (.region [⟨false,[],[v 5 1,o 6 (Bn .lss 5 2),v 7 6]⟩,⟨true,[],[g 8 7 false (Vl 0),g 9 7 false (.nilcheck (t 8)),g 10 7 false (Fa 9 1),g 11 7 false (Lq 10),g 12 7 false (Vl 0),g 13 7 false (.nilcheck (t 12)),g 14 7 false (Fa 13 0),g 15 7 false (Lq 14),g 16 7 false (Sl 15)]⟩,⟨false,[],[g 17 7 false (Bt .geq 11 16),o 18 (.pick (t 7) Y (t 17))]⟩]) [0,1,18])
 (.after (.cond (t 18) (S (R [4] [o 4 (.val (n 0))])
 (Z [4])) (.skip)) [0,1]))
 (S (R [0,1] [v 19 0,v 20 0,o 21 (.nilcheck (t 20)),o 22 (Fa 21 1),o 23 (Lq 22),o 24 (Bn .add 23 1),o 25 (.nilcheck (t 19)),o 26 (Fa 25 1),u (.store 1 (t 26) (t 24))])
 (S (.after (.region [⟨true,[],[v 27 0,o 28 (.nilcheck (t 27)),o 29 (Fa 28 0),o 30 (Lq 29),v 31 0,o 32 (.nilcheck (t 31)),o 33 (Fa 32 1),o 34 (Lq 33),o 35 (Bn .sub 34 1),o 36 (.iaddr 1 (t 30) (t 35)),o 37 (Lq 36),o 38 (.conv (.int .i64) (t 37)),v 39 1]⟩,⟨false,[],[o 40 (Bt .rem 38 39),v 4 40]⟩]) [4])
 (Z [4])))),none⟩
def code150:AFunc:=⟨false,false,3,18,[],
 R [] [v 6 0,v 7 0,o 8 (.nilcheck (t 7)),o 9 (Fa 8 1),o 10 (Lq 9),v 11 1,v 12 2,o 13 (.build [.int .u8 0,.int .i64 0,.int .i64 0,.str [],.str [],.str [],.str []] [(0,1,t 11),(1,1,t 12)]),o 14 (.mkslice 7 1 [.int .u8 0,.int .i64 0,.int .i64 0,.str [],.str [],.str [],.str []] [(0,7,t 13)]),o 15 (.append 7 88 (t 10) (t 14)),o 16 (.nilcheck (t 6)),o 17 (Fa 16 1),u (.store 1 (t 17) (t 15))],none⟩
def code151B0:ACode :=
 S (S (R [0,1,29,40] [o 41 (Bn .eql 29 0),v 40 41])
 (.after (.cond (t 40) (.skip) (R [0,1,29,40] [o 42 (Bn .eql 29 1),v 40 42])) [0,1,29,40]))
 (.after (.cond (t 40) (R [] [v 43 0,v 44 0,o 45 (.nilcheck (t 44)),o 46 (Fa 45 0),o 47 (Lq 46),o 48 (.callg 102 [t 47,n 3]),o 49 (.callg 150 [t 43,.const (.int .u8 21),t 48])]) (S (R [0,1,29,50] [o 51 (Bn .eql 29 2),v 50 51])
 (.after (.cond (t 50) (R [] [v 52 0,v 53 0,o 54 (.nilcheck (t 53)),o 55 (Fa 54 0),o 56 (Lq 55),o 57 (.callg 102 [t 56,n 256]),o 58 (Bn .sub 57 100),o 59 (.callg 153 [t 52,t 58])]) (S (R [0,1,29,60] [o 61 (Bn .eql 29 3),v 60 61])
 (.after (.cond (t 60) (R [] [v 62 0,o 63 (.callg 154 [t 62,.const (.int .u8 178),Ks [77,97,105,110],Ks [115],Ks [73]])]) (S (S (R [0,1,29,64] [o 65 (Bn .eql 29 4),v 64 65])
 (.after (.cond (t 64) (.skip) (S (R [0,1,29,64] [o 66 (Bn .eql 29 5),v 64 66])
 (.after (.cond (t 64) (.skip) (S (R [0,1,29,64] [o 67 (Bn .eql 29 6),v 64 67])
 (.after (.cond (t 64) (.skip) (R [0,1,29,64] [o 68 (Bn .eql 29 7),v 64 68])) [0,1,29,64]))) [0,1,29,64]))) [0,1,29,64]))
 (.after (.cond (t 64) (S (R [0,1] [v 69 0,v 70 1,o 71 (Bn .sub 70 1),o 72 (.callg 151 [t 69,t 71])])
 (S (R [0] [v 73 0,v 74 1,o 75 (Bn .sub 74 1),o 76 (.callg 151 [t 73,t 75])])
 (R [] [v 77 0,o 78 (.mkslice 1 10 [.int .u8 0,.int .u8 0,.int .u8 0,.int .u8 0,.int .u8 0,.int .u8 0,.int .u8 0,.int .u8 0,.int .u8 0,.int .u8 0] [(0,1,.const (.int .u8 96)),(1,1,.const (.int .u8 100)),(2,1,.const (.int .u8 104)),(3,1,.const (.int .u8 108)),(4,1,.const (.int .u8 126)),(5,1,.const (.int .u8 130)),(6,1,.const (.int .u8 120)),(7,1,.const (.int .u8 112)),(8,1,.const (.int .u8 128)),(9,1,.const (.int .u8 124))]),v 79 0,o 80 (.nilcheck (t 79)),o 81 (Fa 80 0),o 82 (Lq 81),o 83 (.callg 102 [t 82,n 10]),o 84 (.iaddr 1 (t 78) (t 83)),o 85 (Lq 84),o 86 (.callg 150 [t 77,t 85,n 0])]))) (S (R [0,1,29,87] [o 88 (Bn .eql 29 8),v 87 88])
 (.after (.cond (t 87) (S (R [0] [v 89 0,v 90 1,o 91 (Bn .sub 90 1),o 92 (.callg 183 [t 89,t 91])])
 (R [] [v 93 0,o 94 (.callg 150 [t 93,.const (.int .u8 136),n 0])])) (S (R [0,1,29,95] [o 96 (Bn .eql 29 9),v 95 96])
 (.after (.cond (t 95) (S (R [0,1] [v 97 0,o 98 (.callg 150 [t 97,.const (.int .u8 25),n 6])])
 (S (R [0] [v 99 0,v 100 1,o 101 (Bn .sub 100 1),o 102 (.callg 151 [t 99,t 101])])
 (R [] [v 103 0,o 104 (.callg 150 [t 103,.const (.int .u8 46),n 0])]))) (S (R [0,1,29,105] [o 106 (Bn .eql 29 10),v 105 106])
 (.after (.cond (t 105) (S (R [0] [v 107 0,o 108 (.callg 150 [t 107,.const (.int .u8 25),n 5])])
 (R [] [v 109 0,o 110 (.callg 154 [t 109,.const (.int .u8 180),Ks [65],Ks [102],Ks [73]])])) (S (R [0,1,29,111] [o 112 (Bn .eql 29 11),v 111 112])
 (.after (.cond (t 111) (S (R [0,1] [v 113 0,o 114 (.callg 150 [t 113,.const (.int .u8 25),n 5])])
 (S (R [0] [v 115 0,v 116 1,o 117 (Bn .sub 116 1),o 118 (.callg 151 [t 115,t 117])])
 (R [] [v 119 0,o 120 (.callg 154 [t 119,.const (.int .u8 182),Ks [65],Ks [118],Ks [40,73,41,73]])]))) (S (R [0,1,29,121] [o 122 (Bn .eql 29 12),v 121 122])
 (.after (.cond (t 121) (S (R [0] [v 123 0,v 124 1,o 125 (Bn .sub 124 1),o 126 (.callg 151 [t 123,t 125])])
 (R [] [v 127 0,o 128 (.callg 154 [t 127,.const (.int .u8 184),Ks [77,97,105,110],Ks [104,101,108,112],Ks [40,73,41,73]])])) (S (R [0,1,29,129] [o 130 (Bn .eql 29 13),v 129 130])
 (.after (.cond (t 129) (S (R [0] [v 131 0,v 132 0,o 133 (.nilcheck (t 132)),o 134 (Fa 133 0),o 135 (Lq 134),o 136 (.callg 102 [t 135,n 2]),o 137 (.bin .add (n 6) (t 136)),o 138 (.callg 150 [t 131,.const (.int .u8 25),t 137])])
 (R [] [v 139 0,o 140 (.callg 150 [t 139,.const (.int .u8 190),n 0])])) (S (R [0,1,141] [o 142 (Bn .eql 29 14),v 141 142])
 (.after (.cond (t 141) (S (R [0] [v 143 0,o 144 (.callg 150 [t 143,.const (.int .u8 25),n 5])])
 (R [] [v 145 0,v 146 0,o 147 (.nilcheck (t 146)),o 148 (Fa 147 1),o 149 (Lq 148),o 150 (.build [.int .u8 0,.int .i64 0,.int .i64 0,.str [],.str [],.str [],.str []] [(0,1,.const (.int .u8 193)),(3,1,Ks [66])]),o 151 (.mkslice 7 1 [.int .u8 0,.int .i64 0,.int .i64 0,.str [],.str [],.str [],.str []] [(0,7,t 150)]),o 152 (.append 7 88 (t 149) (t 151)),o 153 (.nilcheck (t 145)),o 154 (Fa 153 1),u (.store 1 (t 154) (t 152))])) (S (R [0,1] [v 30 0,v 31 1,o 32 (Bn .sub 31 1),o 33 (.callg 183 [t 30,t 32])])
 (S (R [0] [v 34 0,v 35 1,o 36 (Bn .sub 35 1),o 37 (.callg 183 [t 34,t 36])])
 (R [] [v 38 0,o 39 (.callg 150 [t 38,.const (.int .u8 148),n 0])])))) []))) []))) []))) []))) []))) []))) []))) []))) []))) []))) [])
def code151:AFunc:=⟨false,false,2,155,[],
 S (R [0,1] [v 5 0,v 6 0,o 7 (.nilcheck (t 6)),o 8 (Fa 7 5),o 9 (Lq 8),o 10 (Bn .sub 9 1),o 11 (.nilcheck (t 5)),o 12 (Fa 11 5),u (.store 1 (t 12) (t 10))])
 (S (R [0,1,4] [v 13 0,o 14 (.nilcheck (t 13)),o 15 (Fa 14 0),o 16 (Lq 15),o 17 (.callg 102 [t 16,n 16]),v 4 17])
 (S (S (R [0,1,4,26] [v 18 1,o 19 (Bn .leq 18 0),v 20 19,g 21 20 false (Vl 0),g 22 20 false (.nilcheck (t 21)),g 23 20 false (Fa 22 5),g 24 20 false (Lq 23),g 25 20 false (Bn .leq 24 0),o 26 (.pick (t 20) Y (t 25))])
 (.after (.cond (t 26) (R [0,1,4] [v 27 4,o 28 (Bn .rem 27 4),v 4 28]) (.skip)) [0,1,4]))
 (S (R [0,1,29] [v 29 4])
 (.after (.block 0 code151B0) [])))),none⟩
def code152R0:ACode :=
 .after (.region [⟨true,[0,0,2,6,14,0,32,96,224,480,0,1024,3072,7168,16352,32736,65504,131040,262142],[v 17 0,v 18 0,o 19 (.nilcheck (t 18)),o 20 (Fa 19 1),o 21 (Lq 20),v 22 0,o 23 (.nilcheck (t 22)),o 24 (Fa 23 0),o 25 (Lq 24),o 26 (.callg 102 [t 25,n 3]),v 27 0,o 28 (.nilcheck (t 27)),o 29 (Fa 28 0),o 30 (Lq 29),o 31 (.callg 102 [t 30,n 9]),o 32 (Bn .sub 31 4),o 33 (.build [.int .u8 0,.int .i64 0,.int .i64 0,.str [],.str [],.str [],.str []] [(0,1,.const (.int .u8 132)),(1,1,t 26),(2,1,t 32)]),o 34 (.mkslice 7 1 [.int .u8 0,.int .i64 0,.int .i64 0,.str [],.str [],.str [],.str []] [(0,7,t 33)]),o 35 (.append 7 88 (t 21) (t 34))]⟩,⟨false,[],[o 36 (.nilcheck (t 17)),o 37 (Fa 36 1),u (.store 1 (t 37) (t 35))]⟩]) []
def ia:ACode :=
 S (R [0,2,38] [v 39 0,o 40 (.nilcheck (t 39)),o 41 (Fa 40 5),o 42 (Lq 41),o 43 (Bn .leq 42 0),v 44 43,g 45 44 false (Vl 2),g 46 44 false (Bn .lss 45 2),o 47 (.pick (t 44) Y (t 46)),v 38 47])
 (.after (.cond (t 38) (S (R [0] [v 48 0,o 49 (.callg 151 [t 48,n 2])])
 (R [] [v 50 0,v 51 0,o 52 (.nilcheck (t 51)),o 53 (Fa 52 0),o 54 (Lq 53),o 55 (.callg 102 [t 54,n 2]),o 56 (.bin .add (n 1) (t 55)),o 57 (.callg 150 [t 50,.const (.int .u8 54),t 56])])) (S (R [0,2,58] [v 59 2,o 60 (Bn .eql 59 2),v 58 60])
 (.after (.cond (t 58) (S (R [0] [v 61 0,o 62 (.callg 151 [t 61,n 2])])
 (R [] [v 63 0,o 64 (.callg 154 [t 63,.const (.int .u8 184),Ks [115,121,115],Ks [112,114,105,110,116],Ks [40,73,41,86]])])) (S (R [0,2,65] [v 66 2,o 67 (Bn .eql 66 3),v 65 67])
 (.after (.cond (t 65) (S (R [0] [v 68 0,o 69 (.callg 183 [t 68,n 2])])
 (R [] [v 70 0,o 71 (.callg 150 [t 70,.const (.int .u8 55),n 3])])) (S (R [0,2,72] [v 73 2,o 74 (Bn .eql 73 4),v 72 74])
 (.after (.cond (t 72) (S (R [0] [v 75 0,o 76 (.callg 184 [t 75])])
 (R [] [v 77 0,o 78 (.callg 150 [t 77,.const (.int .u8 58),n 5])])) (S (R [0,2,79] [v 80 2,o 81 (Bn .eql 80 5),v 79 81])
 (.after (.cond (t 79) (S (R [0] [v 82 0,o 83 (.callg 150 [t 82,.const (.int .u8 25),n 5])])
 (S (R [0] [v 84 0,o 85 (.callg 151 [t 84,n 1])])
 (R [] [v 86 0,o 87 (.callg 154 [t 86,.const (.int .u8 181),Ks [65],Ks [102],Ks [73]])]))) (S (R [0,2,88] [v 89 2,o 90 (Bn .eql 89 6),v 88 90])
 (.after (.cond (t 88) (S (R [0] [v 91 0,o 92 (.callg 151 [t 91,n 1])])
 (R [] [v 93 0,o 94 (.callg 154 [t 93,.const (.int .u8 179),Ks [77,97,105,110],Ks [115],Ks [73]])])) (S (R [0,2,95] [v 96 2,o 97 (Bn .eql 96 7),v 95 97])
 (.after (.cond (t 95) (S (R [0] [v 98 0,o 99 (.callg 151 [t 98,n 1])])
 (S (R [0,3] [v 100 0,o 101 (.nilcheck (t 100)),o 102 (Fa 101 0),o 103 (Lq 102),o 104 (.callg 102 [t 103,n 2]),v 3 104])
 (S (R [0,3] [v 105 0,v 106 3,o 107 (.bin .mul (n 2) (t 106)),o 108 (.bin .sub (n 10) (t 107)),o 109 (.callg 150 [t 105,.const (.int .u8 188),t 108])])
 (R [] [v 110 0,v 111 3,o 112 (.bin .add (n 6) (t 111)),o 113 (.callg 150 [t 110,.const (.int .u8 58),t 112])])))) (S (R [0,2,114] [v 115 2,o 116 (Bn .eql 115 8),v 114 116])
 (.after (.cond (t 114) (S (R [0] [v 117 0,o 118 (.callg 150 [t 117,.const (.int .u8 25),n 6])])
 (S (R [0] [v 119 0,o 120 (.callg 151 [t 119,n 1])])
 (S (R [0] [v 121 0,o 122 (.callg 151 [t 121,n 1])])
 (R [] [v 123 0,o 124 (.callg 150 [t 123,.const (.int .u8 79),n 0])])))) (S (R [0,2,125] [v 126 2,o 127 (Bn .eql 126 9),v 128 127,g 129 128 true (Vl 0),g 130 128 true (.nilcheck (t 129)),g 131 128 true (Fa 130 4),g 132 128 true (Lq 131),g 133 128 true (Bn .lss 132 3),o 134 (.pick (t 128) (t 133) F),v 125 134])
 (.after (.cond (t 125) (R [] [v 135 0,o 136 (.callg 185 [t 135])]) (S (R [0,2,137] [v 138 2,o 139 (Bn .eql 138 10),v 140 139,g 141 140 true (Vl 0),g 142 140 true (.nilcheck (t 141)),g 143 140 true (Fa 142 4),g 144 140 true (Lq 143),g 145 140 true (Bn .lss 144 3),o 146 (.pick (t 140) (t 145) F),v 137 146])
 (.after (.cond (t 137) (R [] [v 147 0,o 148 (.callg 186 [t 147])]) (S (R [0,2,149] [v 150 2,o 151 (Bn .eql 150 11),v 152 151,g 153 152 true (Vl 0),g 154 152 true (.nilcheck (t 153)),g 155 152 true (Fa 154 4),g 156 152 true (Lq 155),g 157 152 true (Bn .lss 156 3),o 158 (.pick (t 152) (t 157) F),v 149 158])
 (.after (.cond (t 149) (R [] [v 159 0,o 160 (.callg 187 [t 159])]) (S (R [0,2,161] [v 162 2,o 163 (Bn .eql 162 12),v 161 163])
 (.after (.cond (t 161) (R [] [v 164 0,o 165 (.callg 188 [t 164])]) (S (R [0,2,166] [v 167 2,o 168 (Bn .eql 167 13),v 166 168])
 (.after (.cond (t 166) (S (R [0] [v 169 0,v 170 0,o 171 (.nilcheck (t 170)),o 172 (Fa 171 1),o 173 (Lq 172),o 174 (.build [.int .u8 0,.int .i64 0,.int .i64 0,.str [],.str [],.str [],.str []] [(0,1,.const (.int .u8 18)),(5,1,Ks [83]),(6,1,Ks [104,105])]),o 175 (.mkslice 7 1 [.int .u8 0,.int .i64 0,.int .i64 0,.str [],.str [],.str [],.str []] [(0,7,t 174)]),o 176 (.append 7 88 (t 173) (t 175)),o 177 (.nilcheck (t 169)),o 178 (Fa 177 1),u (.store 1 (t 178) (t 176))])
 (R [] [v 179 0,o 180 (.callg 150 [t 179,.const (.int .u8 58),n 7])])) (S (R [0,181] [v 182 2,o 183 (Bn .eql 182 14),v 181 183])
 (.after (.cond (t 181) (S (R [0] [v 184 0,o 185 (.callg 150 [t 184,.const (.int .u8 25),n 7])])
 (R [] [v 186 0,o 187 (.callg 154 [t 186,.const (.int .u8 184),Ks [115,121,115],Ks [112,114,105,110,116,84,101,120,116],Ks [40,91,66,41,86]])])) (code152R0)) []))) []))) []))) []))) []))) []))) []))) []))) []))) []))) []))) []))) []))) [])
def code152:AFunc:=⟨false,false,1,188,[],
 S (R [0] [v 4 0,v 5 0,o 6 (.nilcheck (t 5)),o 7 (Fa 6 5),o 8 (Lq 7),o 9 (Bn .sub 8 1),o 10 (.nilcheck (t 4)),o 11 (Fa 10 5),u (.store 1 (t 11) (t 9))])
 (S (R [0,2] [v 12 0,o 13 (.nilcheck (t 12)),o 14 (Fa 13 0),o 15 (Lq 14),o 16 (.callg 102 [t 15,n 16]),v 2 16])
 (.after (.block 0 ia) [])),none⟩
def code153:AFunc:=⟨false,false,2,47,[],
 .after (.block 0 (S (R [0,1,15] [v 16 1,o 17 (.bin .geq (t 16) (.const (.int .i64 (-1)))),v 18 17,g 19 18 true (Vl 1),g 20 18 true (Bn .leq 19 5),o 21 (.pick (t 18) (t 20) F),v 15 21])
 (.after (.cond (t 15) (R [] [v 22 0,v 23 1,o 24 (.bin .add (n 3) (t 23)),o 25 (.conv (.int .u8) (t 24)),o 26 (.callg 150 [t 22,t 25,n 0])]) (S (R [0,1,27] [v 28 1,o 29 (.bin .geq (t 28) (.const (.int .i64 (-128)))),v 30 29,g 31 30 true (Vl 1),g 32 30 true (Bn .lss 31 128),o 33 (.pick (t 30) (t 32) F),v 27 33])
 (.after (.cond (t 27) (R [] [v 34 0,v 35 1,o 36 (.callg 150 [t 34,.const (.int .u8 16),t 35])]) (S (R [0,1,37] [v 38 1,o 39 (.bin .geq (t 38) (.const (.int .i64 (-32768)))),v 40 39,g 41 40 true (Vl 1),g 42 40 true (Bn .lss 41 32768),o 43 (.pick (t 40) (t 42) F),v 37 43])
 (.after (.cond (t 37) (R [] [v 44 0,v 45 1,o 46 (.callg 150 [t 44,.const (.int .u8 17),t 45])]) (R [] [v 4 0,v 5 0,o 6 (.nilcheck (t 5)),o 7 (Fa 6 1),o 8 (Lq 7),v 9 1,o 10 (.build [.int .u8 0,.int .i64 0,.int .i64 0,.str [],.str [],.str [],.str []] [(0,1,.const (.int .u8 18)),(5,1,Ks [73]),(1,1,t 9)]),o 11 (.mkslice 7 1 [.int .u8 0,.int .i64 0,.int .i64 0,.str [],.str [],.str [],.str []] [(0,7,t 10)]),o 12 (.append 7 88 (t 8) (t 11)),o 13 (.nilcheck (t 4)),o 14 (Fa 13 1),u (.store 1 (t 14) (t 12))])) []))) []))) []))) [],none⟩
def code154:AFunc:=⟨false,false,5,24,[],
 R [] [v 10 0,v 11 0,o 12 (.nilcheck (t 11)),o 13 (Fa 12 1),o 14 (Lq 13),v 15 1,v 16 2,v 17 3,v 18 4,o 19 (.build [.int .u8 0,.int .i64 0,.int .i64 0,.str [],.str [],.str [],.str []] [(0,1,t 15),(3,1,t 16),(4,1,t 17),(5,1,t 18)]),o 20 (.mkslice 7 1 [.int .u8 0,.int .i64 0,.int .i64 0,.str [],.str [],.str [],.str []] [(0,7,t 19)]),o 21 (.append 7 88 (t 14) (t 20)),o 22 (.nilcheck (t 10)),o 23 (Fa 22 1),u (.store 1 (t 23) (t 21))],none⟩
def code183B0:ACode :=
 S (R [0,1,4,16] [v 17 1,o 18 (Bn .gtr 17 0),v 19 18,g 20 19 true (Vl 4),g 21 19 true (Bn .lss 20 2),o 22 (.pick (t 19) (t 21) F),v 16 22])
 (.after (.cond (t 16) (S (R [0,1] [v 23 0,v 24 1,o 25 (Bn .sub 24 1),o 26 (.callg 183 [t 23,t 25])])
 (S (R [0] [v 27 0,v 28 1,o 29 (Bn .sub 28 1),o 30 (.callg 183 [t 27,t 29])])
 (R [] [v 31 0,o 32 (.mkslice 1 8 [.int .u8 0,.int .u8 0,.int .u8 0,.int .u8 0,.int .u8 0,.int .u8 0,.int .u8 0,.int .u8 0] [(0,1,.const (.int .u8 97)),(1,1,.const (.int .u8 101)),(2,1,.const (.int .u8 105)),(3,1,.const (.int .u8 109)),(4,1,.const (.int .u8 127)),(5,1,.const (.int .u8 131)),(6,1,.const (.int .u8 113)),(7,1,.const (.int .u8 129))]),v 33 0,o 34 (.nilcheck (t 33)),o 35 (Fa 34 0),o 36 (Lq 35),o 37 (.callg 102 [t 36,n 8]),o 38 (.iaddr 1 (t 32) (t 37)),o 39 (Lq 38),o 40 (.callg 150 [t 31,t 39,n 0])]))) (S (R [0,1,4,41] [v 42 1,o 43 (Bn .gtr 42 0),v 44 43,g 45 44 true (Vl 4),g 46 44 true (Bn .eql 45 2),o 47 (.pick (t 44) (t 46) F),v 41 47])
 (.after (.cond (t 41) (S (R [0,1] [v 48 0,v 49 1,o 50 (Bn .sub 49 1),o 51 (.callg 183 [t 48,t 50])])
 (S (R [0] [v 52 0,v 53 1,o 54 (Bn .sub 53 1),o 55 (.callg 151 [t 52,t 54])])
 (R [] [v 56 0,o 57 (.mkslice 1 3 [.int .u8 0,.int .u8 0,.int .u8 0] [(0,1,.const (.int .u8 121)),(1,1,.const (.int .u8 123)),(2,1,.const (.int .u8 125))]),v 58 0,o 59 (.nilcheck (t 58)),o 60 (Fa 59 0),o 61 (Lq 60),o 62 (.callg 102 [t 61,n 3]),o 63 (.iaddr 1 (t 57) (t 62)),o 64 (Lq 63),o 65 (.callg 150 [t 56,t 64,n 0])]))) (S (R [0,1,4,66] [v 67 4,o 68 (Bn .eql 67 3),v 66 68])
 (.after (.cond (t 66) (R [] [v 69 0,o 70 (.callg 150 [t 69,.const (.int .u8 22),n 3])]) (S (R [0,1,71] [v 72 4,o 73 (Bn .eql 72 4),v 71 73])
 (.after (.cond (t 71) (.after (.region [⟨true,[0,0,2,6,14,0,32,96,224,480,992,2016,4064,8160,16382],[v 74 0,v 75 0,o 76 (.nilcheck (t 75)),o 77 (Fa 76 1),o 78 (Lq 77),v 79 0,o 80 (.nilcheck (t 79)),o 81 (Fa 80 0),o 82 (Lq 81),o 83 (.callg 102 [t 82,n 256]),o 84 (.bin .shl (t 83) (.const (.int .u64 40))),o 85 (Bn .sub 84 5),o 86 (.build [.int .u8 0,.int .i64 0,.int .i64 0,.str [],.str [],.str [],.str []] [(0,1,.const (.int .u8 20)),(5,1,Ks [74]),(1,1,t 85)]),o 87 (.mkslice 7 1 [.int .u8 0,.int .i64 0,.int .i64 0,.str [],.str [],.str [],.str []] [(0,7,t 86)]),o 88 (.append 7 88 (t 78) (t 87))]⟩,⟨false,[],[o 89 (.nilcheck (t 74)),o 90 (Fa 89 1),u (.store 1 (t 90) (t 88))]⟩]) []) (S (R [0] [v 10 0,v 11 1,o 12 (Bn .sub 11 1),o 13 (.callg 151 [t 10,t 12])])
 (R [] [v 14 0,o 15 (.callg 150 [t 14,.const (.int .u8 133),n 0])]))) []))) []))) []))) [])
def code183:AFunc:=⟨false,false,2,91,[],
 S (R [0,1,4] [v 5 0,o 6 (.nilcheck (t 5)),o 7 (Fa 6 0),o 8 (Lq 7),o 9 (.callg 102 [t 8,n 6]),v 4 9])
 (.after (.block 0 code183B0) []),none⟩
def code184B0:ACode :=
 S (R [0,6,17] [o 18 (Bn .eql 6 0),v 17 18])
 (.after (.cond (t 17) (R [] [v 19 0,o 20 (.callg 150 [t 19,.const (.int .u8 1),n 0])]) (S (R [0,6,21] [o 22 (Bn .eql 6 1),v 21 22])
 (.after (.cond (t 21) (R [] [v 23 0,v 24 0,o 25 (.nilcheck (t 24)),o 26 (Fa 25 1),o 27 (Lq 26),o 28 (.build [.int .u8 0,.int .i64 0,.int .i64 0,.str [],.str [],.str [],.str []] [(0,1,.const (.int .u8 187)),(3,1,Ks [66])]),o 29 (.mkslice 7 1 [.int .u8 0,.int .i64 0,.int .i64 0,.str [],.str [],.str [],.str []] [(0,7,t 28)]),o 30 (.append 7 88 (t 27) (t 29)),o 31 (.nilcheck (t 23)),o 32 (Fa 31 1),u (.store 1 (t 32) (t 30))]) (S (R [0,33] [o 34 (Bn .eql 6 2),v 33 34])
 (.after (.cond (t 33) (S (R [0] [v 35 0,o 36 (.callg 150 [t 35,.const (.int .u8 25),n 5])])
 (R [] [v 37 0,v 38 0,o 39 (.nilcheck (t 38)),o 40 (Fa 39 1),o 41 (Lq 40),o 42 (.build [.int .u8 0,.int .i64 0,.int .i64 0,.str [],.str [],.str [],.str []] [(0,1,.const (.int .u8 192)),(3,1,Ks [66])]),o 43 (.mkslice 7 1 [.int .u8 0,.int .i64 0,.int .i64 0,.str [],.str [],.str [],.str []] [(0,7,t 42)]),o 44 (.append 7 88 (t 41) (t 43)),o 45 (.nilcheck (t 37)),o 46 (Fa 45 1),u (.store 1 (t 46) (t 44))])) (R [] [v 7 0,v 8 0,o 9 (.nilcheck (t 8)),o 10 (Fa 9 1),o 11 (Lq 10),o 12 (.build [.int .u8 0,.int .i64 0,.int .i64 0,.str [],.str [],.str [],.str []] [(0,1,.const (.int .u8 187)),(3,1,Ks [65])]),o 13 (.mkslice 7 1 [.int .u8 0,.int .i64 0,.int .i64 0,.str [],.str [],.str [],.str []] [(0,7,t 12)]),o 14 (.append 7 88 (t 11) (t 13)),o 15 (.nilcheck (t 7)),o 16 (Fa 15 1),u (.store 1 (t 16) (t 14))])) []))) []))) [])
def code184:AFunc:=⟨false,false,1,47,[],
 S (R [0,6] [v 2 0,o 3 (.nilcheck (t 2)),o 4 (Fa 3 0),o 5 (Lq 4),o 6 (.callg 102 [t 5,n 5])])
 (.after (.block 0 code184B0) []),none⟩
def code185R0:ACode :=
 .after (.region [⟨true,[0,1,3,7,0,0,32],[v 20 0,o 21 (.nilcheck (t 20)),o 22 (Fa 21 1),o 23 (Lq 22),v 24 2,v 25 0,o 26 (.callg 100208 [t 25,.const (.slice none 0 (some 0))])]⟩,⟨false,[],[o 27 (.iaddr 7 (t 23) (t 24)),o 28 (Fa 27 1),u (.store 1 (t 28) (t 26))]⟩]) [0,3]
def code185R1:ACode :=
 .after (.region [⟨true,[0,1,3,7,0,0,32],[v 31 0,o 32 (.nilcheck (t 31)),o 33 (Fa 32 1),o 34 (Lq 33),v 35 3,v 36 0,o 37 (.callg 100208 [t 36,.const (.slice none 0 (some 0))])]⟩,⟨false,[],[o 38 (.iaddr 7 (t 34) (t 35)),o 39 (Fa 38 1),u (.store 1 (t 39) (t 37))]⟩]) []
def code185:AFunc:=⟨false,false,1,40,[],
 S (R [0] [v 4 0,o 5 (.callg 151 [t 4,n 1])])
 (S (R [0,2] [v 6 0,o 7 (.mkslice 1 6 [.int .u8 0,.int .u8 0,.int .u8 0,.int .u8 0,.int .u8 0,.int .u8 0] [(0,1,.const (.int .u8 153)),(1,1,.const (.int .u8 154)),(2,1,.const (.int .u8 155)),(3,1,.const (.int .u8 156)),(4,1,.const (.int .u8 157)),(5,1,.const (.int .u8 158))]),v 8 0,o 9 (.nilcheck (t 8)),o 10 (Fa 9 0),o 11 (Lq 10),o 12 (.callg 102 [t 11,n 6]),o 13 (.iaddr 1 (t 7) (t 12)),o 14 (Lq 13),o 15 (.callg 210 [t 6,t 14]),v 2 15])
 (S (R [0,2] [v 16 0,o 17 (.callg 209 [t 16])])
 (S (R [0,2,3] [v 18 0,o 19 (.callg 210 [t 18,.const (.int .u8 167)]),v 3 19])
 (S (code185R0)
 (S (R [0,3] [v 29 0,o 30 (.callg 209 [t 29])])
 (code185R1)))))),none⟩
def code186R0:ACode :=
 .after (.region [⟨true,[0,1,3,7,0,0,32],[v 34 0,o 35 (.nilcheck (t 34)),o 36 (Fa 35 1),o 37 (Lq 36),v 38 3,v 39 0,o 40 (.callg 100208 [t 39,.const (.slice none 0 (some 0))])]⟩,⟨false,[],[o 41 (.iaddr 7 (t 37) (t 38)),o 42 (Fa 41 1),u (.store 1 (t 42) (t 40))]⟩]) []
def code186:AFunc:=⟨false,false,1,43,[],
 S (R [0] [v 4 0,v 5 0,o 6 (.nilcheck (t 5)),o 7 (Fa 6 0),o 8 (Lq 7),o 9 (.callg 102 [t 8,n 5]),o 10 (.callg 153 [t 4,t 9])])
 (S (R [0] [v 11 0,o 12 (.callg 150 [t 11,.const (.int .u8 54),n 2])])
 (S (R [0,2] [v 13 0,o 14 (.callg 100208 [t 13,.const (.slice none 0 (some 0))]),v 2 14])
 (S (R [0,2] [v 15 0,o 16 (.callg 150 [t 15,.const (.int .u8 21),n 2])])
 (S (R [0,2,3] [v 17 0,o 18 (.callg 210 [t 17,.const (.int .u8 158)]),v 3 18])
 (S (R [0,2,3] [v 19 0,o 20 (.callg 209 [t 19])])
 (S (R [0,2,3] [v 21 0,v 22 0,o 23 (.nilcheck (t 22)),o 24 (Fa 23 1),o 25 (Lq 24),o 26 (.build [.int .u8 0,.int .i64 0,.int .i64 0,.str [],.str [],.str [],.str []] [(0,1,.const (.int .u8 132)),(1,1,n 2),(2,1,.const (.int .i64 (-1)))]),o 27 (.mkslice 7 1 [.int .u8 0,.int .i64 0,.int .i64 0,.str [],.str [],.str [],.str []] [(0,7,t 26)]),o 28 (.append 7 88 (t 25) (t 27)),o 29 (.nilcheck (t 21)),o 30 (Fa 29 1),u (.store 1 (t 30) (t 28))])
 (S (R [0,3] [v 31 0,v 32 2,o 33 (.callg 150 [t 31,.const (.int .u8 167),t 32])])
 (code186R0)))))))),none⟩
def code187T0:ACode :=
 S (S (R [0,2,3,4,5,7,8,77] [v 76 3,o 77 (Bn .geq 76 0)])
 (.after (.cond (t 77) (R [0,2,4,5,7] [v 78 0,o 79 (.nilcheck (t 78)),o 80 (Fa 79 1),o 81 (Lq 80),v 82 3,v 83 8,o 84 (.iaddr 7 (t 81) (t 82)),o 85 (Fa 84 1),u (.store 1 (t 85) (t 83))]) (.skip)) [0,2,4,5,7]))
 (R [] [v 86 0,v 87 0,o 88 (.nilcheck (t 87)),o 89 (Fa 88 2),o 90 (Lq 89),v 91 2,v 92 4,v 93 7,v 94 5,o 95 (.build [.int .i64 0,.int .i64 0,.int .i64 0,.str []] [(0,1,t 91),(1,1,t 92),(2,1,t 93),(3,1,t 94)]),o 96 (.mkslice 4 1 [.int .i64 0,.int .i64 0,.int .i64 0,.str []] [(0,4,t 95)]),o 97 (.append 4 40 (t 90) (t 96)),o 98 (.nilcheck (t 86)),o 99 (Fa 98 2),u (.store 1 (t 99) (t 97))])
def code187T1:ACode :=
 S (R [0,2,3,4,5] [o 53 (.mkslice 1 5 [.str [],.str [],.str [],.str [],.str []] [(0,1,Ks []),(1,1,Ks [84,104,114,111,119,97,98,108,101]),(2,1,Ks [77,97,116,104,70,97,117,108,116]),(3,1,Ks [79,111,112,115]),(4,1,Ks [78,117,108,108,70,97,117,108,116])]),v 54 0,o 55 (.nilcheck (t 54)),o 56 (Fa 55 0),o 57 (Lq 56),o 58 (.callg 102 [t 57,n 5]),o 59 (.iaddr 1 (t 53) (t 58)),o 60 (Lq 59),v 5 60])
 (S (R [0,2,3,4,5,6] [v 61 5,v 6 61])
 (S (S (R [0,2,3,4,5,6,63] [v 62 6,o 63 (.bin .eql (t 62) (Ks []))])
 (.after (.cond (t 63) (R [0,2,3,4,5,6] [o 6 (.val (Ks [84,104,114,111,119,97,98,108,101]))]) (.skip)) [0,2,3,4,5,6]))
 (S (R [0,2,3,4,5,7] [v 64 0,v 65 6,o 66 (.bin .add (Ks [76]) (t 65)),o 67 (.bin .add (t 66) (Ks [59])),o 68 (.mkslice 1 1 [.str []] [(0,1,t 67)]),o 69 (.callg 100208 [t 64,t 68]),v 7 69])
 (S (R [0,2,3,4,5,7] [v 70 0,o 71 (.callg 150 [t 70,.const (.int .u8 87),n 0])])
 (S (R [0,2,3,4,5,7] [v 72 0,o 73 (.callg 209 [t 72])])
 (S (R [0,2,3,4,5,7,8] [v 74 0,o 75 (.callg 100208 [t 74,.const (.slice none 0 (some 0))]),v 8 75])
 (code187T0)))))))
def code187T2:ACode :=
 S (R [0,2,3,4] [v 36 0,o 37 (.nilcheck (t 36)),o 38 (Fa 37 1),o 39 (Lq 38),o 40 (Sl 39),v 4 40])
 (S (S (R [0,2,3,4,50] [v 41 0,o 42 (.nilcheck (t 41)),o 43 (Fa 42 1),o 44 (Lq 43),v 45 4,o 46 (Bn .sub 45 1),o 47 (.iaddr 7 (t 44) (t 46)),o 48 (Fa 47 0),o 49 (Lq 48),o 50 (.bin .eql (t 49) (.const (.int .u8 0)))])
 (.after (.cond (t 50) (R [0,2,3,4] [v 51 0,o 52 (.callg 210 [t 51,.const (.int .u8 167)]),v 3 52]) (.skip)) [0,2,3,4]))
 (code187T1))
def code187:AFunc:=⟨false,false,1,100,[],
 S (R [0,2] [v 9 0,o 10 (.nilcheck (t 9)),o 11 (Fa 10 1),o 12 (Lq 11),o 13 (Sl 12),v 2 13])
 (S (R [0,2] [v 14 0,o 15 (.callg 209 [t 14])])
 (S (R [0,2,3] [o 3 (.val (.const (.int .i64 (-1))))])
 (S (S (R [0,2,3,21] [v 16 0,o 17 (.nilcheck (t 16)),o 18 (Fa 17 0),o 19 (Lq 18),o 20 (.callg 102 [t 19,n 3]),o 21 (Bn .eql 20 1)])
 (.after (.cond (t 21) (S (R [0,2,3] [v 22 0,v 23 0,o 24 (.nilcheck (t 23)),o 25 (Fa 24 1),o 26 (Lq 25),o 27 (.build [.int .u8 0,.int .i64 0,.int .i64 0,.str [],.str [],.str [],.str []] [(0,1,.const (.int .u8 187)),(3,1,Ks [79,111,112,115])]),o 28 (.mkslice 7 1 [.int .u8 0,.int .i64 0,.int .i64 0,.str [],.str [],.str [],.str []] [(0,7,t 27)]),o 29 (.append 7 88 (t 26) (t 28)),o 30 (.nilcheck (t 22)),o 31 (Fa 30 1),u (.store 1 (t 31) (t 29))])
 (R [0,2,3] [v 32 0,o 33 (.callg 150 [t 32,.const (.int .u8 191),n 0])])) (R [0,2,3] [v 34 0,o 35 (.callg 150 [t 34,.const (.int .u8 0),n 0])])) [0,2,3]))
 (code187T2)))),none⟩
def code188B0:ACode :=
 S (R [0,6,11] [o 12 (Bn .eql 6 0),v 11 12])
 (.after (.cond (t 11) (S (R [0] [v 13 0,o 14 (.callg 150 [t 13,.const (.int .u8 25),n 7])])
 (S (R [0] [v 15 0,o 16 (.callg 154 [t 15,.const (.int .u8 184),Ks [115,121,115],Ks [97,100,100],Ks [40,91,66,41,73]])])
 (R [] [v 17 0,o 18 (.callg 150 [t 17,.const (.int .u8 54),n 1])]))) (S (R [0,6,19] [o 20 (Bn .eql 6 1),v 19 20])
 (.after (.cond (t 19) (S (R [0] [v 21 0,o 22 (.callg 151 [t 21,n 1])])
 (S (R [0] [v 23 0,o 24 (.callg 154 [t 23,.const (.int .u8 184),Ks [115,121,115],Ks [103,101,116],Ks [40,73,41,91,66]])])
 (R [] [v 25 0,o 26 (.callg 150 [t 25,.const (.int .u8 58),n 7])]))) (S (R [0,27] [o 28 (Bn .eql 6 2),v 27 28])
 (.after (.cond (t 27) (S (R [0] [v 29 0,o 30 (.callg 151 [t 29,n 1])])
 (S (R [0] [v 31 0,o 32 (.callg 150 [t 31,.const (.int .u8 25),n 7])])
 (R [] [v 33 0,o 34 (.callg 154 [t 33,.const (.int .u8 184),Ks [115,121,115],Ks [115,101,116],Ks [40,73,91,66,41,86]])]))) (S (R [0] [v 7 0,o 8 (.callg 154 [t 7,.const (.int .u8 184),Ks [115,121,115],Ks [99,111,117,110,116],Ks [40,41,73]])])
 (R [] [v 9 0,o 10 (.callg 150 [t 9,.const (.int .u8 54),n 1])]))) []))) []))) [])
def code188:AFunc:=⟨false,false,1,35,[],
 S (R [0,6] [v 2 0,o 3 (.nilcheck (t 2)),o 4 (Fa 3 0),o 5 (Lq 4),o 6 (.callg 102 [t 5,n 4])])
 (.after (.block 0 code188B0) []),none⟩
def code209L0:ACode :=
 .live [0,2] (S (S (R [0,2,18] [v 17 2,o 18 (Bn .gtr 17 0)])
 (.after (.cond (t 18) (.skip) (.live [0] (.exit 0))) [0,2]))
 (S (.after (.block 1 (R [0,2] [v 21 0,o 22 (.callg 152 [t 21])])) [0,2])
 (R [0,2] [v 19 2,o 20 (Bn .sub 19 1),v 2 20])))
def code209:AFunc:=⟨false,false,1,31,[],
 S (R [0] [v 3 0,v 4 0,o 5 (.nilcheck (t 4)),o 6 (Fa 5 4),o 7 (Lq 6),o 8 (Bn .add 7 1),o 9 (.nilcheck (t 3)),o 10 (Fa 9 4),u (.store 1 (t 10) (t 8))])
 (S (S (R [0,2] [v 11 0,o 12 (.nilcheck (t 11)),o 13 (Fa 12 0),o 14 (Lq 13),o 15 (.callg 102 [t 14,n 3]),o 16 (.bin .add (n 1) (t 15)),v 2 16])
 (.after (.block 0 (.loop code209L0)) [0]))
 (R [] [v 23 0,v 24 0,o 25 (.nilcheck (t 24)),o 26 (Fa 25 4),o 27 (Lq 26),o 28 (Bn .sub 27 1),o 29 (.nilcheck (t 23)),o 30 (Fa 29 4),u (.store 1 (t 30) (t 28))])),none⟩
def code210:AFunc:=⟨false,false,2,14,[.tmp 4],
 S (R [0,1] [o 4 (.val (n 0))])
 (S (R [0] [v 5 0,v 6 1,o 7 (.callg 150 [t 5,t 6,n 0])])
 (S (R [4] [v 8 0,o 9 (.nilcheck (t 8)),o 10 (Fa 9 1),o 11 (Lq 10),o 12 (Sl 11),o 13 (Bn .sub 12 1),v 4 13])
 (Z [4]))),none⟩
def code222:AFunc:=⟨false,false,0,2,[.tmp 0],
 S (R [] [o 0 (.val (.const (.slice none 0 (some 0))))])
 (S (R [0] [o 1 (.mkslice 1 7 [.str [],.str [],.str [],.str [],.str [],.str [],.str []] [(0,1,Ks [73]),(1,1,Ks [73]),(2,1,Ks [73]),(3,1,Ks [74]),(4,1,Ks [76,65,59]),(5,1,Ks [91,73]),(6,1,Ks [91,66])]),v 0 1])
 (Z [0])),none⟩
def code100208:AFunc:=⟨false,false,2,47,[.tmp 4],
 S (R [0,1] [o 4 (.val (n 0))])
 (S (R [0,1,5] [v 7 0,o 8 (.nilcheck (t 7)),o 9 (Fa 8 1),o 10 (Lq 9),o 11 (Sl 10),v 5 11])
 (S (S (R [0,1,5,6] [v 12 0,o 13 (.nilcheck (t 12)),o 14 (Fa 13 3),o 15 (Lq 14),o 16 (Sl 15),v 6 16])
 (S (R [0,1,5,31] [v 17 6,o 18 (Bn .gtr 17 0),v 19 18,g 20 19 true (Vl 0),g 21 19 true (.nilcheck (t 20)),g 22 19 true (Fa 21 3),g 23 19 true (Lq 22),g 24 19 true (Vl 6),g 25 19 true (Bn .sub 24 1),g 26 19 true (.iaddr 3 (t 23) (t 25)),g 27 19 true (Fa 26 0),g 28 19 true (Lq 27),g 29 19 true (Vl 5),g 30 19 true (Bt .eql 28 29),o 31 (.pick (t 19) (t 30) F)])
 (.after (.cond (t 31) (S (R [4] [v 32 5,v 4 32])
 (Z [4])) (.skip)) [0,1,5])))
 (S (.after (.region [⟨true,[0,0,2,6,14,0,0,0,224,480,1022],[v 33 0,v 34 0,o 35 (.nilcheck (t 34)),o 36 (Fa 35 3),o 37 (Lq 36),v 38 5,o 39 (.callg 222 []),v 40 1,o 41 (.build [.int .i64 0,.slice none 0 (some 0),.slice none 0 (some 0)] [(0,1,t 38),(1,1,t 39),(2,1,t 40)]),o 42 (.mkslice 3 1 [.int .i64 0,.slice none 0 (some 0),.slice none 0 (some 0)] [(0,3,t 41)]),o 43 (.append 3 56 (t 37) (t 42))]⟩,⟨false,[],[o 44 (.nilcheck (t 33)),o 45 (Fa 44 3),u (.store 1 (t 45) (t 43))]⟩]) [5])
 (S (R [4] [v 46 5,v 4 46])
 (Z [4]))))),none⟩
def T:Nat→Option AFunc:=fun g=>match Zh.T g with
 | some f=>some f
 | none=>List.lookup g [(48,code48),(101,code101),(102,code102),(150,code150),(151,code151),(152,code152),(153,code153),(154,code154),(183,code183),(184,code184),(185,code185),(186,code186),(187,code187),(188,code188),(209,code209),(210,code210),(222,code222),(100208,code100208)]
theorem sub:∀ g f,Zh.T g=some f→T g=some f:=fun g f h=>by unfold T; rw [h]
theorem t48:T 48=some code48:=rfl
theorem t101:T 101=some code101:=rfl
theorem t102:T 102=some code102:=rfl
theorem t150:T 150=some code150:=rfl
theorem t151:T 151=some code151:=rfl
theorem t152:T 152=some code152:=rfl
theorem t153:T 153=some code153:=rfl
theorem t154:T 154=some code154:=rfl
theorem t183:T 183=some code183:=rfl
theorem t184:T 184=some code184:=rfl
theorem t185:T 185=some code185:=rfl
theorem t186:T 186=some code186:=rfl
theorem t187:T 187=some code187:=rfl
theorem t188:T 188=some code188:=rfl
theorem t209:T 209=some code209:=rfl
theorem t210:T 210=some code210:=rfl
theorem t222:T 222=some code222:=rfl
theorem ru:T 100208=some code100208:=rfl
end Go.Abs.Zm

namespace Go.Abs.Zo
open Go.Abs.Short
-- base: Zm
def T:Nat→Option AFunc:=fun g=>match Zm.T g with
 | some f=>some f
 | none=>List.lookup g []
theorem sub:∀ g f,Zm.T g=some f→T g=some f:=fun g f h=>by unfold T; rw [h]
end Go.Abs.Zo
