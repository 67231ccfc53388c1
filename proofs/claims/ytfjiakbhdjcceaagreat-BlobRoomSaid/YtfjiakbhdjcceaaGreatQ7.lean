/-
  Texts joined.
-/
import Derived.Test.YtfjiakbhdjcceaaGreatQ0
import Derived.Test.YtfjiakbhdjcceaaGreatQ6
set_option linter.unusedVariables false
set_option linter.unusedSimpArgs false
set_option maxRecDepth 100000
namespace Go.Abs.AbsBlb
open Go.Abs.Short
def code0L0:ACode :=
 .live [5,6,11,12,13] (S (R [5,6,11,12,13,14] [o 14 (Bt .lss 13 12)])
 (S (.after (.cond (t 14) (.skip) (.live [5] (.exit 0))) [5,6,11,12,13])
 (S (.after (.block 1 (S (R [5,6,8,11,12,13] [o 15 (.iaddr 3 (t 11) (t 13)),o 16 (.load (some 3) (t 15)),o 8 (.lalloc [.int .i64 0,.int .u32 0,.int .i64 0]),u (.store 3 (t 8) (t 16))])
 (S (R [5,6,11,12,13,19] [v 17 6,o 18 (.load (some 3) (t 8)),o 19 (.call (t 17) [t 18])])
 (.after (.cond (t 19) (R [5,6,11,12,13] [v 20 5,o 21 (Bn .add 20 1),v 5 21]) (.skip)) [5,6,11,12,13])))) [5,6,11,12,13])
 (R [5,6,11,12,13] [o 22 (Bn .add 13 1),v 13 22]))))
def code0:AFunc:=⟨false,false,2,24,[.tmp 4],
 S (R [0,1] [o 4 (.val (n 0))])
 (S (R [0,5,6] [v 9 1,o 10 (.callg 13 [t 9]),o 5 (.val (n 0)),v 6 10])
 (S (S (R [5,6,11,12,13] [v 11 0,o 12 (Sl 11),o 13 (.val (n 0))])
 (.after (.block 0 (.loop code0L0)) [5]))
 (S (R [4] [v 23 5,v 4 23])
 (Z [4])))),none⟩
def code5:AFunc:=⟨false,false,1,8,[.tmp 2,.tmp 3],
 S (R [0] [o 2 (.val (n 0)),o 3 (.val F)])
 (S (R [2,3] [v 4 0,o 5 (.callg 17 [t 4,.const (.func 18 [] []),.const (.func 19 [] [])]),o 6 (Xt 5 0),o 7 (Xt 5 1),v 2 6,v 3 7])
 (Z [2,3])),none⟩
def code7:AFunc:=⟨false,false,2,12,[.tmp 4,.tmp 5],
 S (R [0,1] [o 4 (.val (n 0)),o 5 (.val F)])
 (S (R [4,5] [v 6 0,v 7 1,o 8 (.callg 13 [t 7]),o 9 (.callg 14 [t 6,t 8,.const (.func 15 [] [])]),o 10 (Xt 9 0),o 11 (Xt 9 1),v 4 10,v 5 11])
 (Z [4,5])),none⟩
def code13:AFunc:=⟨false,false,1,4,[.tmp 2],
 S (R [1] [o 1 (.box (t 0)),o 2 (.val (.const (.nilFunc)))])
 (S (R [2] [o 3 (.mkfunc 22 [] [t 1]),v 2 3])
 (Z [2])),none⟩
def code14L0:ACode :=
 .live [0,1,2,8,9,12,13,14] (S (R [0,1,2,8,9,12,13,14,15] [o 15 (Bt .lss 14 13)])
 (S (.after (.cond (t 15) (.skip) (.live [8,9] (.exit 0))) [0,1,2,8,9,12,13,14])
 (S (.after (.block 1 (S (R [0,1,2,8,9,10,11,12,13,14] [v 16 14,o 17 (.iaddr 3 (t 12) (t 14)),o 18 (.load (some 3) (t 17)),o 11 (.lalloc [.int .i64 0,.int .u32 0,.int .i64 0]),v 10 16,u (.store 3 (t 11) (t 18))])
 (S (.after (.region [⟨true,[],[v 19 1,o 20 (.load (some 3) (t 11))]⟩,⟨false,[],[o 21 (.call (t 19) [t 20]),v 22 21,g 23 22 true (Vl 9),g 24 22 true (.un .not (t 23)),g 25 22 true (Vl 24)]⟩,⟨true,[],[g 26 25 false (Vl 2),g 27 25 false (.load (some 3) (t 11)),g 28 25 false (.call (t 26) [t 27]),g 29 25 false (Vl 2),g 30 25 false (Vl 0),g 31 25 false (Vl 8),g 32 25 false (.iaddr 3 (t 30) (t 31)),g 33 25 false (.load (some 3) (t 32))]⟩,⟨false,[],[g 34 25 false (.call (t 29) [t 33]),g 35 25 false (Bt .lss 28 34),g 36 22 true (.pick (t 25) Y (t 35)),o 37 (.pick (t 22) (t 36) F)]⟩]) [0,1,2,8,9,10,12,13,14,37])
 (.after (.cond (t 37) (R [0,1,2,8,9,12,13,14] [v 38 10,v 8 38,o 9 (.val Y)]) (.skip)) [0,1,2,8,9,12,13,14])))) [0,1,2,8,9,12,13,14])
 (R [0,1,2,8,9,12,13,14] [o 39 (Bn .add 14 1),v 14 39]))))
def code14:AFunc:=⟨false,false,3,42,[.tmp 6,.tmp 7],
 S (R [0,1,2] [o 6 (.val (n 0)),o 7 (.val F)])
 (S (R [0,1,2,8,9] [o 8 (.val (n 0)),o 9 (.val F)])
 (S (S (R [0,1,2,8,9,12,13,14] [v 12 0,o 13 (Sl 12),o 14 (.val (n 0))])
 (.after (.block 0 (.loop code14L0)) [8,9]))
 (S (R [6,7] [v 40 8,v 41 9,v 6 40,v 7 41])
 (Z [6,7])))),none⟩
def code15:AFunc:=⟨false,false,1,5,[.tmp 2],
 S (R [1] [o 1 (.lbox (t 0)),o 2 (.val (n 0))])
 (S (R [2] [o 3 (Fa 1 2),o 4 (Lq 3),v 2 4])
 (Z [2])),none⟩
def code17L0:ACode :=
 .live [0,1,2,8,9,12,13,14] (S (R [0,1,2,8,9,12,13,14,15] [o 15 (Bt .lss 14 13)])
 (S (.after (.cond (t 15) (.skip) (.live [8,9] (.exit 0))) [0,1,2,8,9,12,13,14])
 (S (.after (.block 1 (S (R [0,1,2,8,9,10,11,12,13,14] [v 16 14,o 17 (.iaddr 3 (t 12) (t 14)),o 18 (.load (some 3) (t 17)),o 11 (.lalloc [.int .i64 0,.int .u32 0,.int .i64 0]),v 10 16,u (.store 3 (t 11) (t 18))])
 (S (.after (.region [⟨true,[],[v 19 1,o 20 (.load (some 3) (t 11))]⟩,⟨false,[],[o 21 (.call (t 19) [t 20]),v 22 21,g 23 22 true (Vl 9),g 24 22 true (.un .not (t 23)),g 25 22 true (Vl 24)]⟩,⟨true,[],[g 26 25 false (Vl 2),g 27 25 false (.load (some 3) (t 11)),g 28 25 false (.call (t 26) [t 27]),g 29 25 false (Vl 2),g 30 25 false (Vl 0),g 31 25 false (Vl 8),g 32 25 false (.iaddr 3 (t 30) (t 31)),g 33 25 false (.load (some 3) (t 32))]⟩,⟨false,[],[g 34 25 false (.call (t 29) [t 33]),g 35 25 false (Bt .lss 28 34),g 36 22 true (.pick (t 25) Y (t 35)),o 37 (.pick (t 22) (t 36) F)]⟩]) [0,1,2,8,9,10,12,13,14,37])
 (.after (.cond (t 37) (R [0,1,2,8,9,12,13,14] [v 38 10,v 8 38,o 9 (.val Y)]) (.skip)) [0,1,2,8,9,12,13,14])))) [0,1,2,8,9,12,13,14])
 (R [0,1,2,8,9,12,13,14] [o 39 (Bn .add 14 1),v 14 39]))))
def code17:AFunc:=⟨false,false,3,42,[.tmp 6,.tmp 7],
 S (R [0,1,2] [o 6 (.val (n 0)),o 7 (.val F)])
 (S (R [0,1,2,8,9] [o 8 (.val (n 0)),o 9 (.val F)])
 (S (S (R [0,1,2,8,9,12,13,14] [v 12 0,o 13 (Sl 12),o 14 (.val (n 0))])
 (.after (.block 0 (.loop code17L0)) [8,9]))
 (S (R [6,7] [v 40 8,v 41 9,v 6 40,v 7 41])
 (Z [6,7])))),none⟩
def code18:AFunc:=⟨false,false,1,6,[.tmp 2],
 S (R [1] [o 1 (.lbox (t 0)),o 2 (.val F)])
 (S (R [2] [o 3 (Fa 1 0),o 4 (Lq 3),o 5 (Bn .eql 4 2),v 2 5])
 (Z [2])),none⟩
def code19:AFunc:=⟨false,false,1,5,[.tmp 2],
 S (R [1] [o 1 (.lbox (t 0)),o 2 (.val (.const (.int .u32 0)))])
 (S (R [2] [o 3 (Fa 1 1),o 4 (Lq 3),v 2 4])
 (Z [2])),none⟩
def code22:AFunc:=⟨false,false,2,18,[.tmp 3],
 S (R [1,2] [o 2 (.lbox (t 0)),o 3 (.val F)])
 (S (R [3] [o 4 (Fa 2 0),o 5 (Lq 4),o 6 (Bn .eql 5 0),v 7 6,g 8 7 false (Fa 2 0),g 9 7 false (Lq 8),g 10 7 false (Bn .eql 9 1),g 11 7 false (Vl 10),g 12 11 true (Fa 2 2),g 13 11 true (Lq 12),g 14 11 true (Lq 1),g 15 11 true (Bt .lss 13 14),g 16 7 false (.pick (t 11) (t 15) F),o 17 (.pick (t 7) Y (t 16)),v 3 17])
 (Z [3])),none⟩
def code145:AFunc:=⟨false,false,2,9,[.tmp 4],
 S (R [0,1] [o 4 (.val F)])
 (S (R [4] [v 5 0,v 6 1,o 7 (.callg 176 [t 5,t 6]),o 8 (Bn .geq 7 0),v 4 8])
 (Z [4])),none⟩
def code166:AFunc:=⟨false,false,1,8,[.tmp 2],
 S (R [0] [o 2 (.val (n 0))])
 (S (.after (.cond F (S (R [2] [v 3 0,o 4 (.conv (.int .u32) (t 3)),o 5 (.nextStr F),v 2 5])
 (Z [2])) (.skip)) [0])
 (S (R [2] [v 6 0,o 7 (.callg 200 [t 6]),v 2 7])
 (Z [2]))),none⟩
def code176L0:ACode :=
 .live [0,1,7,8] (S (R [0,1,7,8,9] [o 9 (Bt .lss 8 7)])
 (S (.after (.cond (t 9) (.skip) (.live [] (.exit 0))) [0,1,7,8])
 (S (.after (.block 1 (S (R [0,1,5,7,8] [v 10 8,v 5 10])
 (S (R [0,1,5,7,8,16] [v 11 1,v 12 0,v 13 5,o 14 (.iaddr 1 (t 12) (t 13)),o 15 (Lq 14),o 16 (.call (t 11) [t 15])])
 (.after (.cond (t 16) (S (R [4] [v 17 5,v 4 17])
 (Z [4])) (.skip)) [0,1,7,8])))) [0,1,7,8])
 (R [0,1,7,8] [o 18 (Bn .add 8 1),v 8 18]))))
def code176:AFunc:=⟨false,false,2,19,[.tmp 4],
 S (R [0,1] [o 4 (.val (n 0))])
 (S (S (R [0,1,7,8] [v 6 0,o 7 (Sl 6),o 8 (.val (n 0))])
 (.after (.block 0 (.loop code176L0)) []))
 (S (R [4] [o 4 (.val (.const (.int .i64 (-1))))])
 (Z [4]))),none⟩
def code200:AFunc:=⟨false,false,1,25,[.tmp 2],
 S (R [0,2] [o 2 (.val (n 0))])
 (S (S (R [0,2,4] [v 3 0,o 4 (.bin .geq (t 3) (.const (.int .u64 4294967296)))])
 (.after (.cond (t 4) (S (R [0] [v 5 0,o 6 (.bin .shr (t 5) (.const (.int .u64 32))),v 0 6])
 (R [0,2] [o 2 (.val (n 32))])) (.skip)) [0,2]))
 (S (S (R [0,2,8] [v 7 0,o 8 (.bin .geq (t 7) (.const (.int .u64 65536)))])
 (.after (.cond (t 8) (S (R [0,2] [v 9 0,o 10 (.bin .shr (t 9) (.const (.int .u64 16))),v 0 10])
 (R [0,2] [v 11 2,o 12 (Bn .add 11 16),v 2 12])) (.skip)) [0,2]))
 (S (S (R [0,2,14] [v 13 0,o 14 (.bin .geq (t 13) (.const (.int .u64 256)))])
 (.after (.cond (t 14) (S (R [0,2] [v 15 0,o 16 (.bin .shr (t 15) (.const (.int .u64 8))),v 0 16])
 (R [0,2] [v 17 2,o 18 (Bn .add 17 8),v 2 18])) (.skip)) [0,2]))
 (S (R [2] [v 19 2,v 20 0,o 21 (.conv (.int .u8) (t 20)),o 22 (.index (Ks [0,1,2,2,3,3,3,3,4,4,4,4,4,4,4,4,5,5,5,5,5,5,5,5,5,5,5,5,5,5,5,5,6,6,6,6,6,6,6,6,6,6,6,6,6,6,6,6,6,6,6,6,6,6,6,6,6,6,6,6,6,6,6,6,7,7,7,7,7,7,7,7,7,7,7,7,7,7,7,7,7,7,7,7,7,7,7,7,7,7,7,7,7,7,7,7,7,7,7,7,7,7,7,7,7,7,7,7,7,7,7,7,7,7,7,7,7,7,7,7,7,7,7,7,7,7,7,7,8,8,8,8,8,8,8,8,8,8,8,8,8,8,8,8,8,8,8,8,8,8,8,8,8,8,8,8,8,8,8,8,8,8,8,8,8,8,8,8,8,8,8,8,8,8,8,8,8,8,8,8,8,8,8,8,8,8,8,8,8,8,8,8,8,8,8,8,8,8,8,8,8,8,8,8,8,8,8,8,8,8,8,8,8,8,8,8,8,8,8,8,8,8,8,8,8,8,8,8,8,8,8,8,8,8,8,8,8,8,8,8,8,8,8,8,8,8,8,8,8,8,8,8,8,8,8,8]) (t 21)),o 23 (.conv (.int .i64) (t 22)),o 24 (Bt .add 19 23),v 2 24])
 (Z [2]))))),none⟩
def code217:AFunc:=⟨false,false,1,6,[.tmp 2],
 S (R [0] [o 2 (.val F)])
 (S (R [2] [v 3 0,v 4 0,o 5 (Bt .neq 3 4),v 2 5])
 (Z [2])),none⟩
def code411:AFunc:=⟨false,false,1,9,[.tmp 2],
 S (R [0] [o 2 (.val F)])
 (S (R [2] [v 3 0,o 4 (Bn .geq 3 1),v 5 4,g 6 5 true (Vl 0),g 7 5 true (Bn .leq 6 8),o 8 (.pick (t 5) (t 7) F),v 2 8])
 (Z [2])),none⟩
def code454:AFunc:=⟨false,false,2,30,[.tmp 4,.tmp 5],
 S (R [0,1] [o 4 (.val (.const (.int .u64 0))),o 5 (.val (.const (.int .u64 0)))])
 (S (.after (.cond F (S (R [6,7] [v 11 0,o 12 (.conv (.int .u32) (t 11)),v 13 1,o 14 (.conv (.int .u32) (t 13)),o 15 (.callg 467 [t 12,t 14]),v 10 15,o 16 (Xt 10 0),o 17 (Xt 10 1),v 6 16,v 7 17])
 (S (R [4,5] [v 18 6,o 19 (.conv (.int .u64) (t 18)),v 20 7,o 21 (.conv (.int .u64) (t 20)),v 4 19,v 5 21])
 (Z [4,5]))) (.skip)) [0,1])
 (S (R [8,9] [v 23 0,v 24 1,o 25 (.callg 466 [t 23,t 24]),v 22 25,o 26 (Xt 22 0),o 27 (Xt 22 1),v 8 26,v 9 27])
 (S (R [4,5] [v 28 8,v 29 9,v 4 28,v 5 29])
 (Z [4,5])))),none⟩
def code466:AFunc:=⟨false,false,2,51,[.tmp 4,.tmp 5],
 S (R [0,1] [o 4 (.val (.const (.int .u64 0))),o 5 (.val (.const (.int .u64 0)))])
 (S (R [0,1,6] [v 14 0,o 15 (.bin .and (t 14) (.const (.int .u64 4294967295))),v 6 15])
 (S (R [0,1,6,7] [v 16 0,o 17 (.bin .shr (t 16) (.const (.int .u64 32))),v 7 17])
 (S (R [0,1,6,7,8] [v 18 1,o 19 (.bin .and (t 18) (.const (.int .u64 4294967295))),v 8 19])
 (S (R [0,1,6,7,8,9] [v 20 1,o 21 (.bin .shr (t 20) (.const (.int .u64 32))),v 9 21])
 (S (R [0,1,6,7,8,9,10] [v 22 6,v 23 8,o 24 (Bt .mul 22 23),v 10 24])
 (S (R [0,1,6,7,9,11] [v 25 7,v 26 8,o 27 (Bt .mul 25 26),v 28 10,o 29 (.bin .shr (t 28) (.const (.int .u64 32))),o 30 (Bt .add 27 29),v 11 30])
 (S (R [0,1,6,7,9,11,12] [v 31 11,o 32 (.bin .and (t 31) (.const (.int .u64 4294967295))),v 12 32])
 (S (R [0,1,6,7,9,12,13] [v 33 11,o 34 (.bin .shr (t 33) (.const (.int .u64 32))),v 13 34])
 (S (R [0,1,7,9,12,13] [v 35 12,v 36 6,v 37 9,o 38 (Bt .mul 36 37),o 39 (Bt .add 35 38),v 12 39])
 (S (R [0,1,4] [v 40 7,v 41 9,o 42 (Bt .mul 40 41),v 43 13,o 44 (Bt .add 42 43),v 45 12,o 46 (.bin .shr (t 45) (.const (.int .u64 32))),o 47 (Bt .add 44 46),v 4 47])
 (S (R [4,5] [v 48 0,v 49 1,o 50 (Bt .mul 48 49),v 5 50])
 (Z [4,5])))))))))))),none⟩
def code482:AFunc:=⟨false,false,2,23,[.tmp 4,.tmp 5],
 S (R [0,1] [o 4 (.val (.const (.slice none 0 (some 0)))),o 5 (.val F)])
 (S (S (R [0,1,9] [v 8 0,o 9 (.eqnil .ptr false (t 8) (.const (.ptr none)))])
 (.after (.cond (t 9) (S (R [4,5] [o 4 (.val (.const (.slice none 0 (some 0)))),o 5 (.val F)])
 (Z [4,5])) (.skip)) [0,1]))
 (S (R [6,7] [v 11 0,o 12 (.nilcheck (t 11)),o 13 (Fa 12 5),o 14 (Lq 13),v 15 1,o 16 (.ext (.lookup (.one .s) (.agg [.int .i64 0,.int .i64 0,.str []]) true) [t 14,t 15]),v 10 16,o 17 (Xt 10 0),o 18 (Xt 10 1),o 6 (.lalloc [.int .i64 0,.int .i64 0,.str []]),u (.store 3 (t 6) (t 17)),v 7 18])
 (S (R [4,5] [o 19 (Fa 6 2),o 20 (Lq 19),o 21 (.conv .bytes (t 20)),v 22 7,v 4 21,v 5 22])
 (Z [4,5])))),none⟩
def code500L0:ACode :=
 .live [8,36,37,38] (S (R [8,36,37,38,39] [o 39 (Bt .lss 38 37)])
 (S (.after (.cond (t 39) (.skip) (.live [8] (.exit 1))) [8,36,37,38])
 (S (.after (.block 2 (S (R [8,10,36,37,38] [o 40 (.iaddr 1 (t 36) (t 38)),o 41 (Lq 40),v 10 41])
 (R [8,36,37,38] [v 42 8,o 43 (.bin .shl (t 42) (.const (.int .u64 8))),v 44 10,o 45 (.conv (.int .u64) (t 44)),o 46 (Bt .or 43 45),v 8 46]))) [8,36,37,38])
 (R [8,36,37,38] [o 47 (Bn .add 38 1),v 38 47]))))
def code500:AFunc:=⟨false,false,3,49,[.tmp 6,.tmp 7],
 S (R [0,1,2] [o 6 (.val (.const (.int .u64 0))),o 7 (.val (n 0))])
 (S (.after (.block 0 (S (R [0,1,2,11] [v 12 2,o 13 (.callg 411 [t 12]),o 14 (.un .not (t 13)),v 11 14])
 (.after (.cond (t 11) (S (R [6,7] [o 6 (.val (.const (.int .u64 0))),o 7 (.val (n 1))])
 (Z [6,7])) (S (R [0,1,2,15] [v 16 1,o 17 (Bn .lss 16 0),v 18 17,g 19 18 false (Vl 1),g 20 18 false (Vl 0),g 21 18 false (Sl 20),g 22 18 false (Bt .gtr 19 21),o 23 (.pick (t 18) Y (t 22)),v 24 23,g 25 24 false (Vl 0),g 26 24 false (Sl 25),g 27 24 false (Vl 1),g 28 24 false (Bt .sub 26 27),g 29 24 false (Vl 2),g 30 24 false (Bt .lss 28 29),o 31 (.pick (t 24) Y (t 30)),v 15 31])
 (.after (.cond (t 15) (S (R [6,7] [o 6 (.val (.const (.int .u64 0))),o 7 (.val (n 6))])
 (Z [6,7])) (.skip)) [0,1,2]))) [0,1,2]))) [0,1,2])
 (S (R [0,1,2,8] [o 8 (.val (.const (.int .u64 0)))])
 (S (S (R [8,36,37,38] [v 32 0,v 33 1,o 34 (.slice (.sl 1) (t 32) (some (t 33)) none none),v 35 2,o 36 (.slice (.sl 1) (t 34) none (some (t 35)) none),o 37 (Sl 36),o 38 (.val (n 0))])
 (.after (.block 1 (.loop code500L0)) [8]))
 (S (R [6,7] [v 48 8,v 6 48,o 7 (.val (n 0))])
 (Z [6,7]))))),none⟩
def code547L0:ACode :=
 .live [0,1,12,13] (S (R [0,1,12,13,14] [o 14 (Bt .lss 13 12)])
 (S (.after (.cond (t 14) (.skip) (.live [] (.exit 0))) [0,1,12,13])
 (S (.after (.block 1 (S (R [0,1,5,12,13] [v 15 13,v 5 15])
 (S (.after (.region [⟨true,[],[v 16 0,v 17 5,o 18 (.iaddr 2 (t 16) (t 17)),o 19 (.load (some 2) (t 18)),v 20 1,v 21 5,o 22 (.iaddr 2 (t 20) (t 21)),o 23 (.load (some 2) (t 22))]⟩,⟨false,[],[o 24 (.ext (.pure (.eqcells true [.s,.s])) [t 19,t 23])]⟩]) [0,1,12,13,24])
 (.after (.cond (t 24) (S (R [4] [o 4 (.val F)])
 (Z [4])) (.skip)) [0,1,12,13])))) [0,1,12,13])
 (R [0,1,12,13] [o 25 (Bn .add 13 1),v 13 25]))))
def code547:AFunc:=⟨false,false,2,26,[.tmp 4],
 S (R [0,1] [o 4 (.val F)])
 (S (S (R [0,1,10] [v 6 0,o 7 (Sl 6),v 8 1,o 9 (Sl 8),o 10 (Bt .neq 7 9)])
 (.after (.cond (t 10) (S (R [4] [o 4 (.val F)])
 (Z [4])) (.skip)) [0,1]))
 (S (S (R [0,1,12,13] [v 11 0,o 12 (Sl 11),o 13 (.val (n 0))])
 (.after (.block 0 (.loop code547L0)) []))
 (S (R [4] [o 4 (.val Y)])
 (Z [4])))),none⟩
def code548L0:ACode :=
 .live [6,7,8,11,12,13,19,20,21] (S (R [6,7,8,11,12,13,19,20,21,22] [o 22 (Bt .lss 21 20)])
 (S (.after (.cond (t 22) (.skip) (.live [6,7,8,11,12,13] (.exit 2))) [6,7,8,11,12,13,19,20,21])
 (S (.after (.block 3 (S (R [6,7,8,10,11,12,13,19,20,21] [o 23 (.iaddr 2 (t 19) (t 21)),o 24 (.load (some 2) (t 23)),o 10 (.lalloc [.str [],.str []]),u (.store 2 (t 10) (t 24))])
 (S (S (R [6,7,8,10,11,12,13,19,20,21,33] [v 25 8,o 26 (.un .not (t 25)),v 27 26,g 28 27 true (Fa 6 1),g 29 27 true (Lq 28),g 30 27 true (Fa 10 0),g 31 27 true (Lq 30),g 32 27 true (Bt .lss 29 31),o 33 (.pick (t 27) (t 32) F)])
 (.after (.cond (t 33) (S (R [6,7,10,11,12,13,19,20,21] [v 34 7,o 35 (Fa 6 1),o 36 (Lq 35),o 37 (Fa 6 2),o 38 (Lq 37),o 39 (.conv .string (t 38)),o 40 (.build [.str [],.str []] [(0,1,t 36),(1,1,t 39)]),o 41 (.mkslice 2 1 [.str [],.str []] [(0,2,t 40)]),o 42 (.append 2 32 (t 34) (t 41)),v 7 42])
 (R [6,7,8,10,11,12,13,19,20,21] [o 8 (.val Y)])) (.skip)) [6,7,8,10,11,12,13,19,20,21]))
 (S (R [6,7,8,10,11,12,13,19,20,21,47] [o 43 (Fa 10 0),o 44 (Lq 43),o 45 (Fa 6 1),o 46 (Lq 45),o 47 (Bt .neq 44 46)])
 (.after (.cond (t 47) (R [6,7,8,11,12,13,19,20,21] [v 48 7,o 49 (.load (some 2) (t 10)),o 50 (.mkslice 2 1 [.str [],.str []] [(0,2,t 49)]),o 51 (.append 2 32 (t 48) (t 50)),v 7 51]) (.skip)) [6,7,8,11,12,13,19,20,21]))))) [6,7,8,11,12,13,19,20,21])
 (R [6,7,8,11,12,13,19,20,21] [o 52 (Bn .add 21 1),v 21 52]))))
def code548L1:ACode :=
 .live [0,11,12,13] (S (R [0,11,12,13,14] [o 14 (Bt .lss 13 12)])
 (S (.after (.cond (t 14) (.skip) (.live [0] (.exit 0))) [0,11,12,13])
 (S (.after (.block 1 (S (R [0,6,11,12,13] [o 15 (.iaddr 3 (t 11) (t 13)),o 16 (.load (some 3) (t 15)),o 6 (.lalloc [.bool false,.str [],.slice none 0 (some 0)]),u (.store 3 (t 6) (t 16))])
 (S (R [0,6,7,11,12,13] [o 7 (.val (.const (.slice none 0 (some 0))))])
 (S (R [0,6,7,8,11,12,13] [o 17 (Fa 6 0),o 18 (Lq 17),v 8 18])
 (S (S (R [6,7,8,11,12,13,19,20,21] [v 19 0,o 20 (Sl 19),o 21 (.val (n 0))])
 (.after (.block 2 (.loop code548L0)) [6,7,8,11,12,13]))
 (S (S (R [6,7,11,12,13,54] [v 53 8,o 54 (.un .not (t 53))])
 (.after (.cond (t 54) (R [7,11,12,13] [v 55 7,o 56 (Fa 6 1),o 57 (Lq 56),o 58 (Fa 6 2),o 59 (Lq 58),o 60 (.conv .string (t 59)),o 61 (.build [.str [],.str []] [(0,1,t 57),(1,1,t 60)]),o 62 (.mkslice 2 1 [.str [],.str []] [(0,2,t 61)]),o 63 (.append 2 32 (t 55) (t 62)),v 7 63]) (.skip)) [7,11,12,13]))
 (R [0,11,12,13] [v 64 7,v 0 64]))))))) [0,11,12,13])
 (R [0,11,12,13] [o 65 (Bn .add 13 1),v 13 65]))))
def code548:AFunc:=⟨false,false,2,67,[.tmp 4],
 S (R [0,1] [o 4 (.val (.const (.slice none 0 (some 0))))])
 (S (S (R [0,11,12,13] [v 11 1,o 12 (Sl 11),o 13 (.val (n 0))])
 (.after (.block 0 (.loop code548L1)) [0]))
 (S (R [4] [v 66 0,v 4 66])
 (Z [4]))),none⟩
def code550L0:ACode :=
 .live [0,1,8,30,31,32,39,40,41] (S (R [0,1,8,30,31,32,39,40,41,42] [o 42 (Bt .lss 41 40)])
 (S (.after (.cond (t 42) (.skip) (.live [0,1,30,31,32] (.exit 4))) [0,1,8,30,31,32,39,40,41])
 (S (.after (.block 5 (S (R [0,1,8,10,30,31,32,39,40,41] [o 43 (.iaddr 3 (t 39) (t 41)),o 44 (.load (some 3) (t 43)),o 10 (.lalloc [.bool false,.str [],.slice none 0 (some 0)]),u (.store 3 (t 10) (t 44))])
 (S (R [0,1,8,30,31,32,39,40,41,49] [o 45 (Fa 8 1),o 46 (Lq 45),o 47 (Fa 10 1),o 48 (Lq 47),o 49 (Bt .eql 46 48)])
 (.after (.cond (t 49) (S (R [4] [o 4 (.val (n 12))])
 (Z [4])) (.skip)) [0,1,8,30,31,32,39,40,41])))) [0,1,8,30,31,32,39,40,41])
 (R [0,1,8,30,31,32,39,40,41] [o 50 (Bn .add 41 1),v 41 50]))))
def code550L1:ACode :=
 .live [0,1,30,31,32] (S (R [0,1,30,31,32,33] [o 33 (Bt .lss 32 31)])
 (S (.after (.cond (t 33) (.skip) (.live [0,1] (.exit 2))) [0,1,30,31,32])
 (S (.after (.block 3 (S (R [0,1,7,8,30,31,32] [v 34 32,o 35 (.iaddr 3 (t 30) (t 32)),o 36 (.load (some 3) (t 35)),o 8 (.lalloc [.bool false,.str [],.slice none 0 (some 0)]),v 7 34,u (.store 3 (t 8) (t 36))])
 (S (R [0,1,8,30,31,32,39,40,41] [v 37 0,v 38 7,o 39 (.slice (.sl 3) (t 37) none (some (t 38)) none),o 40 (Sl 39),o 41 (.val (n 0))])
 (.after (.block 4 (.loop code550L0)) [0,1,30,31,32])))) [0,1,30,31,32])
 (R [0,1,30,31,32] [o 51 (Bn .add 32 1),v 32 51]))))
def code550L2:ACode :=
 .live [0,1,19,20,21] (S (R [0,1,19,20,21,22] [o 22 (Bt .lss 21 20)])
 (S (.after (.cond (t 22) (.skip) (.live [0,1] (.exit 0))) [0,1,19,20,21])
 (S (.after (.block 1 (S (R [0,1,6,19,20,21] [o 23 (.iaddr 3 (t 19) (t 21)),o 24 (.load (some 3) (t 23)),o 6 (.lalloc [.bool false,.str [],.slice none 0 (some 0)]),u (.store 3 (t 6) (t 24))])
 (S (R [0,1,19,20,21,28] [o 25 (.load (some 3) (t 6)),o 26 (.callg 574 [t 25]),o 27 (.callg 575 [t 26]),o 28 (.un .not (t 27))])
 (.after (.cond (t 28) (S (R [4] [o 4 (.val (n 1))])
 (Z [4])) (.skip)) [0,1,19,20,21])))) [0,1,19,20,21])
 (R [0,1,19,20,21] [o 29 (Bn .add 21 1),v 21 29]))))
def code550:AFunc:=⟨false,false,2,58,[.tmp 4],
 S (R [0,1] [o 4 (.val (n 0))])
 (S (S (R [0,1,18] [v 11 0,o 12 (Sl 11),o 13 (Bn .eql 12 0),v 14 13,g 15 14 false (Vl 0),g 16 14 false (Sl 15),g 17 14 false (Bn .gtr 16 16),o 18 (.pick (t 14) Y (t 17))])
 (.after (.cond (t 18) (S (R [4] [o 4 (.val (n 1))])
 (Z [4])) (.skip)) [0,1]))
 (S (S (R [0,1,19,20,21] [v 19 0,o 20 (Sl 19),o 21 (.val (n 0))])
 (.after (.block 0 (.loop code550L2)) [0,1]))
 (S (S (R [0,1,30,31,32] [v 30 0,o 31 (Sl 30),o 32 (.val (n 0))])
 (.after (.block 2 (.loop code550L1)) [0,1]))
 (S (S (R [57] [v 52 0,o 53 (.callg 552 [t 52]),v 54 1,o 55 (Bn .sub 54 12),o 56 (Bn .quo 55 2),o 57 (Bt .gtr 53 56)])
 (.after (.cond (t 57) (S (R [4] [o 4 (.val (n 9))])
 (Z [4])) (.skip)) []))
 (S (R [4] [o 4 (.val (n 0))])
 (Z [4])))))),none⟩
def code551L0:ACode :=
 .live [3,6,7,8] (S (R [3,6,7,8,9] [o 9 (Bt .lss 8 7)])
 (S (.after (.cond (t 9) (.skip) (.live [3] (.exit 0))) [3,6,7,8])
 (S (.after (.block 1 (S (R [3,5,6,7,8] [o 10 (.iaddr 2 (t 6) (t 8)),o 11 (.load (some 2) (t 10)),o 5 (.lalloc [.str [],.str []]),u (.store 2 (t 5) (t 11))])
 (R [3,6,7,8] [v 12 3,o 13 (Bn .add 12 11),o 14 (Fa 5 0),o 15 (Lq 14),o 16 (.len .str (t 15)),o 17 (Bt .add 13 16),o 18 (Fa 5 1),o 19 (Lq 18),o 20 (.len .str (t 19)),o 21 (Bt .add 17 20),o 22 (Bn .add 21 5),o 23 (Bn .add 22 16),v 3 23]))) [3,6,7,8])
 (R [3,6,7,8] [o 24 (Bn .add 8 1),v 8 24]))))
def code551:AFunc:=⟨false,false,1,26,[.tmp 2],
 S (R [0] [o 2 (.val (n 0))])
 (S (R [0,3] [o 3 (.val (n 0))])
 (S (S (R [3,6,7,8] [v 6 0,o 7 (Sl 6),o 8 (.val (n 0))])
 (.after (.block 0 (.loop code551L0)) [3]))
 (S (R [2] [v 25 3,v 2 25])
 (Z [2])))),none⟩
def code552L0:ACode :=
 .live [3,6,7,8] (S (R [3,6,7,8,9] [o 9 (Bt .lss 8 7)])
 (S (.after (.cond (t 9) (.skip) (.live [3] (.exit 0))) [3,6,7,8])
 (S (.after (.block 1 (S (R [3,5,6,7,8] [o 10 (.iaddr 3 (t 6) (t 8)),o 11 (.load (some 3) (t 10)),o 5 (.lalloc [.bool false,.str [],.slice none 0 (some 0)]),u (.store 3 (t 5) (t 11))])
 (R [3,6,7,8] [v 12 3,o 13 (.load (some 3) (t 5)),o 14 (.callg 574 [t 13]),o 15 (.callg 576 [t 14]),o 16 (Bt .add 12 15),v 3 16]))) [3,6,7,8])
 (R [3,6,7,8] [o 17 (Bn .add 8 1),v 8 17]))))
def code552:AFunc:=⟨false,false,1,19,[.tmp 2],
 S (R [0] [o 2 (.val (n 0))])
 (S (R [0,3] [o 3 (.val (n 16))])
 (S (S (R [3,6,7,8] [v 6 0,o 7 (Sl 6),o 8 (.val (n 0))])
 (.after (.block 0 (.loop code552L0)) [3]))
 (S (R [2] [v 18 3,v 2 18])
 (Z [2])))),none⟩
def code553:AFunc:=⟨false,false,1,12,[.tmp 2],
 S (R [1] [o 1 (.lbox (t 0)),o 2 (.val (n 0))])
 (S (R [2] [o 3 (Fa 1 0),o 4 (Lq 3),o 5 (Bn .sub 4 2),o 6 (Fa 1 1),o 7 (Lq 6),o 8 (Bn .sub 7 12),o 9 (Bt .mul 5 8),o 10 (Bn .quo 9 4),o 11 (.minmax true [t 10,n 0]),v 2 11])
 (Z [2])),none⟩
def code558L0:ACode :=
 .live [0,2,7,24,25,26] (S (R [0,2,7,24,25,26,27] [o 27 (Bt .lss 26 25)])
 (S (.after (.cond (t 27) (.skip) (.live [0,2,7] (.exit 0))) [0,2,7,24,25,26])
 (S (.after (.block 1 (S (R [0,2,7,9,10,24,25,26] [v 28 26,o 29 (.iaddr 1 (t 24) (t 26)),o 30 (Lq 29),v 9 28,v 10 30])
 (S (R [0,2,7,24,25,26,37] [v 31 10,v 32 7,v 33 9,o 34 (.iaddr 1 (t 32) (t 33)),o 35 (Lq 34),o 36 (Bt .andNot 31 35),o 37 (.bin .neq (t 36) (.const (.int .u8 0)))])
 (.after (.cond (t 37) (S (R [6] [o 6 (.val (n 3))])
 (Z [6])) (.skip)) [0,2,7,24,25,26])))) [0,2,7,24,25,26])
 (R [0,2,7,24,25,26] [o 38 (Bn .add 26 1),v 26 38]))))
def code558:AFunc:=⟨false,false,3,74,[.tmp 6],
 S (R [0,1,2] [o 6 (.val (n 0))])
 (S (R [0,2,7,8] [v 14 0,v 15 1,v 16 2,o 17 (Sl 16),o 18 (.callg 583 [t 14,t 15,t 17]),v 13 18,o 19 (Xt 13 0),o 20 (Xt 13 1),v 7 19,v 8 20])
 (S (S (R [0,2,7,8,22] [v 21 8,o 22 (Bn .neq 21 0)])
 (.after (.cond (t 22) (S (R [6] [v 23 8,v 6 23])
 (Z [6])) (.skip)) [0,2,7]))
 (S (S (R [0,2,7,24,25,26] [v 24 2,o 25 (Sl 24),o 26 (.val (n 0))])
 (.after (.block 0 (.loop code558L0)) [0,2,7]))
 (S (R [0,2,7,11,12] [v 40 0,v 41 2,o 42 (Sl 41),o 43 (.callg 582 [t 40,t 42]),v 39 43,o 44 (Xt 39 0),o 45 (Xt 39 1),v 11 44,v 12 45])
 (S (R [0,2,7,11,12] [v 46 7,v 47 2,v 48 11,o 49 (.slice (.sl 1) (t 47) none (some (t 48)) none),o 50 (.ext (.copy 1) [t 46,t 49])])
 (S (S (R [0,2,7,11,52] [v 51 12,o 52 (.un .not (t 51))])
 (.after (.cond (t 52) (S (R [6] [o 6 (.val (n 0))])
 (Z [6])) (.skip)) [0,2,7,11]))
 (S (S (R [0,2,7,11,56] [v 53 11,v 54 2,o 55 (Sl 54),o 56 (Bt .lss 53 55)])
 (.after (.cond (t 56) (.after (.region [⟨true,[],[v 57 7,v 58 11,o 59 (.iaddr 1 (t 57) (t 58)),o 60 (Lq 59),v 61 2,v 62 11,o 63 (.iaddr 1 (t 61) (t 62)),o 64 (Lq 63),o 65 (.un .xor (t 64)),v 66 0,o 67 (.nilcheck (t 66)),o 68 (Fa 67 7),o 69 (Fa 68 1),o 70 (Lq 69),o 71 (Bt .and 65 70)]⟩,⟨false,[],[o 72 (Bt .andNot 60 71),o 73 (.iaddr 1 (t 57) (t 58)),u (.store 1 (t 73) (t 72))]⟩]) []) (.skip)) []))
 (S (R [6] [o 6 (.val (n 5))])
 (Z [6]))))))))),none⟩
def code561:AFunc:=⟨false,false,1,11,[.tmp 2],
 S (R [0] [o 2 (.val F)])
 (S (R [2] [v 3 0,o 4 (.eqnil .ptr false (t 3) (.const (.ptr none))),v 5 4,g 6 5 false (Vl 0),g 7 5 false (.nilcheck (t 6)),g 8 5 false (Fa 7 10),g 9 5 false (Lq 8),o 10 (.pick (t 5) Y (t 9)),v 2 10])
 (Z [2])),none⟩
def code563:AFunc:=⟨false,false,1,20,[.tmp 2],
 S (R [0] [o 2 (.val (n 0))])
 (S (S (R [0,4] [v 3 0,o 4 (.eqnil .ptr false (t 3) (.const (.ptr none)))])
 (.after (.cond (t 4) (S (R [2] [o 2 (.val (n 0))])
 (Z [2])) (.skip)) [0]))
 (S (.after (.region [⟨true,[],[v 5 0,o 6 (.nilcheck (t 5)),o 7 (Fa 6 1),o 8 (Fa 7 0),o 9 (Lq 8),o 10 (Bn .sub 9 2),v 11 0,o 12 (.nilcheck (t 11)),o 13 (Fa 12 1),o 14 (Fa 13 1),o 15 (Lq 14),o 16 (Bn .sub 15 12)]⟩,⟨false,[],[o 17 (Bt .mul 10 16),o 18 (Bn .quo 17 4),o 19 (.minmax true [t 18,n 0]),v 2 19]⟩]) [2])
 (Z [2]))),none⟩
def code564:AFunc:=⟨false,false,2,68,[.cell 4 (some 3),.tmp 5],
 S (R [0,1,4] [o 4 (.alloc 3 [.int .i64 0,.int .u32 0,.int .i64 0]),o 5 (.val (n 0))])
 (S (R [0,1,4,6] [v 11 0,o 12 (.callg 573 [t 11]),o 6 (.lalloc [.int .i64 0,.int .i64 0,.int .i64 0]),u (.store 3 (t 6) (t 12))])
 (S (S (R [0,1,4,6,20] [v 13 1,o 14 (Bn .lss 13 0),v 15 14,g 16 15 false (Vl 1),g 17 15 false (Fa 6 0),g 18 15 false (Lq 17),g 19 15 false (Bt .geq 16 18),o 20 (.pick (t 15) Y (t 19))])
 (.after (.cond (t 20) (S (R [4,5] [o 21 (.build [.int .i64 0,.int .u32 0,.int .i64 0] []),u (.store 3 (t 4) (t 21)),o 5 (.val (n 2))])
 (Z [4,5])) (.skip)) [0,1,4,6]))
 (S (R [0,1,4,7,8] [v 23 0,v 24 1,o 25 (Fa 6 1),o 26 (Lq 25),o 27 (Bt .mul 24 26),o 28 (Fa 6 1),o 29 (Lq 28),o 30 (.callg 588 [t 23,t 27,t 29]),v 22 30,o 31 (Xt 22 0),o 32 (Xt 22 1),v 7 31,v 8 32])
 (S (S (R [0,1,4,7,8,34] [v 33 8,o 34 (Bn .neq 33 0)])
 (.after (.cond (t 34) (S (R [4,5] [o 35 (.build [.int .i64 0,.int .u32 0,.int .i64 0] []),v 36 8,u (.store 3 (t 4) (t 35)),v 5 36])
 (Z [4,5])) (.skip)) [0,1,4,7]))
 (S (R [4,7,9] [v 37 0,v 38 1,o 39 (.callg 587 [t 37,t 38]),o 40 (.build [.int .i64 0,.int .u32 0,.int .i64 0] [(0,1,n 1),(2,1,t 39)]),o 9 (.alloc 3 [.int .i64 0,.int .u32 0,.int .i64 0]),u (.store 3 (t 9) (t 40))])
 (S (R [4,7,8,9,10] [v 42 7,o 43 (.callg 586 [t 42]),v 41 43,o 44 (Xt 41 0),o 45 (Xt 41 1),o 10 (.lalloc [.int .u32 0,.bool false,.bool false]),u (.store 3 (t 10) (t 44)),v 8 45])
 (S (.after (.block 0 (S (R [4,8,9,10,46] [v 47 7,o 48 (.callg 145 [t 47,.const (.func 585 [] [])]),o 49 (.un .not (t 48)),v 46 49])
 (.after (.cond (t 46) (R [4,9] [o 50 (Fa 9 0),u (.store 1 (t 50) (n 0))]) (S (R [4,9,10,51] [v 52 8,o 53 (Bn .eql 52 0),v 54 53,g 55 54 true (Fa 10 1),g 56 54 true (Lq 55),o 57 (.pick (t 54) (t 56) F),v 58 57,g 59 58 true (Fa 10 2),g 60 58 true (Lq 59),g 61 58 true (.un .not (t 60)),o 62 (.pick (t 58) (t 61) F),v 51 62])
 (.after (.cond (t 51) (.after (.region [⟨true,[0,1,0,4],[o 63 (Fa 10 0),o 64 (Lq 63),o 65 (Fa 9 0),u (.ext (.hstore 1) [t 65,n 2])]⟩,⟨false,[],[o 66 (Fa 9 1),u (.store 1 (t 66) (t 64))]⟩]) [4,9]) (.skip)) [4,9]))) [4,9]))) [4,9])
 (S (R [4,5] [o 67 (.load (some 3) (t 9)),u (.store 3 (t 4) (t 67)),o 5 (.val (n 0))])
 (Z [4,5]))))))))),none⟩
def code568:AFunc:=⟨false,false,3,15,[.tmp 6],
 S (R [0,1,2] [o 6 (.val F)])
 (S (R [6] [v 7 0,v 8 1,o 9 (Bt .geq 7 8),v 10 9,g 11 10 true (Vl 0),g 12 10 true (Vl 2),g 13 10 true (Bt .leq 11 12),o 14 (.pick (t 10) (t 13) F),v 6 14])
 (Z [6])),none⟩
def code572:AFunc:=⟨false,false,2,9,[],
 R [] [v 4 0,v 5 0,o 6 (Sl 5),v 7 1,o 8 (.callg 590 [t 4,t 6,t 7])],none⟩
def code573:AFunc:=⟨false,false,1,10,[.cell 2 (some 3)],
 S (R [0,2] [o 2 (.lalloc [.int .i64 0,.int .i64 0,.int .i64 0])])
 (S (S (R [0,2,4] [v 3 0,o 4 (.eqnil .ptr false (t 3) (.const (.ptr none)))])
 (.after (.cond (t 4) (S (R [2] [o 5 (.build [.int .i64 0,.int .i64 0,.int .i64 0] []),u (.store 3 (t 2) (t 5))])
 (Z [2])) (.skip)) [0,2]))
 (S (R [2] [v 6 0,o 7 (.nilcheck (t 6)),o 8 (Fa 7 0),o 9 (.load (some 3) (t 8)),u (.store 3 (t 2) (t 9))])
 (Z [2]))),none⟩
def code574:AFunc:=⟨false,false,1,13,[.cell 2 (some 5)],
 S (R [1,2] [o 1 (.lbox (t 0)),o 2 (.lalloc [.int .i64 0,.int .u32 0,.str [],.slice none 0 (some 0),.int .i64 0])])
 (S (S (R [1,2,4] [o 3 (Fa 1 0),o 4 (Lq 3)])
 (.after (.cond (t 4) (S (R [2] [o 5 (Fa 1 1),o 6 (Lq 5),o 7 (.build [.int .i64 0,.int .u32 0,.str [],.slice none 0 (some 0),.int .i64 0] [(0,1,n 2),(1,1,.const (.int .u32 1)),(2,1,t 6)]),u (.store 5 (t 2) (t 7))])
 (Z [2])) (.skip)) [1,2]))
 (S (R [2] [o 8 (Fa 1 1),o 9 (Lq 8),o 10 (Fa 1 2),o 11 (Lq 10),o 12 (.build [.int .i64 0,.int .u32 0,.str [],.slice none 0 (some 0),.int .i64 0] [(0,1,n 1),(1,1,.const (.int .u32 1)),(2,1,t 9),(3,1,t 11)]),u (.store 5 (t 2) (t 12))])
 (Z [2]))),none⟩
def code575:AFunc:=⟨false,false,1,75,[.tmp 2],
 S (R [1] [o 1 (.lbox (t 0)),o 2 (.val F)])
 (S (S (R [1,5] [o 3 (Fa 1 1),o 4 (Lq 3),o 5 (.bin .lss (t 4) (.const (.int .u32 1)))])
 (.after (.cond (t 5) (S (R [2] [o 2 (.val F)])
 (Z [2])) (.skip)) [1]))
 (S (S (R [1,7] [o 6 (Fa 1 0),o 7 (Lq 6)])
 (.after (.block 0 (S (R [1,7,8] [o 9 (Bn .eql 7 1),v 8 9])
 (.after (.cond (t 8) (S (R [2] [o 10 (Fa 1 2),o 11 (Lq 10),o 12 (.len .str (t 11)),o 13 (Bn .geq 12 1),v 14 13,g 15 14 true (Fa 1 2),g 16 14 true (Lq 15),g 17 14 true (.len .str (t 16)),g 18 14 true (Bn .leq 17 64),o 19 (.pick (t 14) (t 18) F),v 20 19,g 21 20 true (Fa 1 3),g 22 20 true (Lq 21),g 23 20 true (Sl 22),g 24 20 true (Bn .leq 23 4096),o 25 (.pick (t 20) (t 24) F),v 26 25,g 27 26 true (Fa 1 4),g 28 26 true (Lq 27),g 29 26 true (Bn .eql 28 0),o 30 (.pick (t 26) (t 29) F),v 2 30])
 (Z [2])) (S (R [1,7,31] [o 32 (Bn .eql 7 2),v 31 32])
 (.after (.cond (t 31) (S (R [2] [o 33 (Fa 1 2),o 34 (Lq 33),o 35 (.len .str (t 34)),o 36 (Bn .geq 35 1),v 37 36,g 38 37 true (Fa 1 2),g 39 37 true (Lq 38),g 40 37 true (.len .str (t 39)),g 41 37 true (Bn .leq 40 64),o 42 (.pick (t 37) (t 41) F),v 43 42,g 44 43 true (Fa 1 3),g 45 43 true (Lq 44),g 46 43 true (Sl 45),g 47 43 true (Bn .eql 46 0),o 48 (.pick (t 43) (t 47) F),v 49 48,g 50 49 true (Fa 1 4),g 51 49 true (Lq 50),g 52 49 true (Bn .eql 51 0),o 53 (.pick (t 49) (t 52) F),v 2 53])
 (Z [2])) (S (R [1,54] [o 55 (Bn .eql 7 3),v 54 55])
 (.after (.cond (t 54) (S (R [2] [o 56 (Fa 1 2),o 57 (Lq 56),o 58 (.bin .eql (t 57) (Ks [])),v 59 58,g 60 59 true (Fa 1 3),g 61 59 true (Lq 60),g 62 59 true (Sl 61),g 63 59 true (Bn .eql 62 0),o 64 (.pick (t 59) (t 63) F),v 65 64,g 66 65 true (Fa 1 4),g 67 65 true (Lq 66),g 68 65 true (Bn .geq 67 0),o 69 (.pick (t 65) (t 68) F),v 70 69,g 71 70 true (Fa 1 4),g 72 70 true (Lq 71),g 73 70 true (Bn .leq 72 16),o 74 (.pick (t 70) (t 73) F),v 2 74])
 (Z [2])) (.skip)) []))) []))) []))) []))
 (S (R [2] [o 2 (.val F)])
 (Z [2])))),none⟩
def code576:AFunc:=⟨false,false,1,12,[.tmp 2],
 S (R [1] [o 1 (.lbox (t 0)),o 2 (.val (n 0))])
 (S (R [2] [o 3 (Fa 1 2),o 4 (Lq 3),o 5 (.len .str (t 4)),o 6 (.bin .add (n 11) (t 5)),o 7 (Fa 1 3),o 8 (Lq 7),o 9 (Sl 8),o 10 (Bt .add 6 9),o 11 (Bn .add 10 5),v 2 11])
 (Z [2])),none⟩
def code577L0:ACode :=
 .live [0,59,60,61] (S (R [0,59,60,61,62] [o 62 (Bt .lss 61 60)])
 (S (.after (.cond (t 62) (.skip) (.live [] (.exit 2))) [0,59,60,61])
 (S (.after (.block 3 (S (R [0,11,59,60,61] [o 63 (.iaddr 6 (t 59) (t 61)),o 64 (.load (some 6) (t 63)),o 11 (.lalloc [.int .i64 0,.int .i64 0,.int .u32 0,.str [],.slice none 0 (some 0),.int .i64 0]),u (.store 6 (t 11) (t 64))])
 (.after (.region [⟨true,[],[v 65 0,v 66 0,o 67 (.nilcheck (t 66)),o 68 (Fa 67 6),o 69 (Lq 68),o 70 (.load (some 6) (t 11))]⟩,⟨false,[],[o 71 (.callg 600 [t 65,t 69,t 70])]⟩]) [0,59,60,61]))) [0,59,60,61])
 (R [0,59,60,61] [o 72 (Bn .add 61 1),v 61 72]))))
def code577L1:ACode :=
 .live [0,1,5,19,20,21] (S (R [0,1,5,19,20,21,22] [o 22 (Bt .lss 21 20)])
 (S (.after (.cond (t 22) (.skip) (.live [0,1,5] (.exit 0))) [0,1,5,19,20,21])
 (S (.after (.block 1 (S (R [0,1,5,7,19,20,21] [o 23 (.iaddr 5 (t 19) (t 21)),o 24 (.load (some 5) (t 23)),o 7 (.lalloc [.int .i64 0,.int .u32 0,.str [],.slice none 0 (some 0),.int .i64 0]),u (.store 5 (t 7) (t 24))])
 (S (R [0,1,5,7,19,20,21] [v 25 0,o 26 (.nilcheck (t 25)),o 27 (Fa 26 8),o 28 (Lq 27),o 29 (Fa 7 1),u (.store 1 (t 29) (t 28))])
 (S (R [0,1,5,8,9,19,20,21] [v 31 0,o 32 (.load (some 5) (t 7)),o 33 (.callg 601 [t 31,t 32]),v 30 33,o 34 (Xt 30 0),o 35 (Xt 30 1),o 8 (.lalloc [.int .i64 0,.int .i64 0,.int .u32 0,.str [],.slice none 0 (some 0),.int .i64 0]),u (.store 6 (t 8) (t 34)),v 9 35])
 (S (S (R [0,1,5,8,9,19,20,21,37] [v 36 9,o 37 (Bn .neq 36 0)])
 (.after (.cond (t 37) (S (R [4] [v 38 9,v 4 38])
 (Z [4])) (.skip)) [0,1,5,8,19,20,21]))
 (R [0,1,5,19,20,21] [v 39 5,o 40 (.load (some 6) (t 8)),o 41 (.mkslice 6 1 [.int .i64 0,.int .i64 0,.int .u32 0,.str [],.slice none 0 (some 0),.int .i64 0] [(0,6,t 40)]),o 42 (.append 6 72 (t 39) (t 41)),v 5 42])))))) [0,1,5,19,20,21])
 (R [0,1,5,19,20,21] [o 43 (Bn .add 21 1),v 21 43]))))
def code577:AFunc:=⟨false,false,2,73,[.tmp 4],
 S (R [0,1] [o 4 (.val (n 0))])
 (S (R [0,1] [v 12 0,o 13 (.nilcheck (t 12)),o 14 (Fa 13 8),o 15 (Lq 14),o 16 (.bin .add (t 15) (.const (.int .u32 1))),o 17 (.nilcheck (t 12)),o 18 (Fa 17 8),u (.store 1 (t 18) (t 16))])
 (S (R [0,1,5] [o 5 (.val (.const (.slice none 0 (some 0))))])
 (S (S (R [0,1,5,19,20,21] [v 19 1,o 20 (Sl 19),o 21 (.val (n 0))])
 (.after (.block 0 (.loop code577L1)) [0,1,5]))
 (S (S (R [0,4,5] [v 45 0,v 46 0,o 47 (.nilcheck (t 46)),o 48 (Fa 47 8),o 49 (Lq 48),v 50 1,o 51 (Sl 50),o 52 (.build [.int .i64 0,.int .u32 0,.str [],.slice none 0 (some 0),.int .i64 0] [(0,1,n 3),(1,1,t 49),(4,1,t 51)]),o 53 (.callg 601 [t 45,t 52]),v 44 53,o 54 (Xt 44 0),o 55 (Xt 44 1),v 4 55])
 (S (R [0,4,5,57] [v 56 4,o 57 (Bn .neq 56 0)])
 (.after (.cond (t 57) (S (R [4] [v 58 4,v 4 58])
 (Z [4])) (.skip)) [0,5])))
 (S (S (R [0,59,60,61] [v 59 5,o 60 (Sl 59),o 61 (.val (n 0))])
 (.after (.block 2 (.loop code577L0)) []))
 (S (R [4] [o 4 (.val (n 0))])
 (Z [4]))))))),none⟩
def code578:AFunc:=⟨false,false,2,17,[.tmp 4],
 S (R [0,1] [o 4 (.val (n 0))])
 (S (R [1] [v 5 0,v 6 0,o 7 (.nilcheck (t 6)),o 8 (Fa 7 10),o 9 (Lq 8),v 10 9,g 11 10 false (Vl 1),g 12 10 false (Bn .neq 11 0),o 13 (.pick (t 10) Y (t 12)),o 14 (.nilcheck (t 5)),o 15 (Fa 14 10),u (.store 1 (t 15) (t 13))])
 (S (R [4] [v 16 1,v 4 16])
 (Z [4]))),none⟩
def code579L0:ACode :=
 .live [0,3,7,8,9] (S (R [0,3,7,8,9,10] [o 10 (Bt .lss 9 8)])
 (S (.after (.cond (t 10) (.skip) (.live [0,3] (.exit 0))) [0,3,7,8,9])
 (S (.after (.block 1 (S (R [0,3,5,7,8,9] [o 11 (.iaddr 5 (t 7) (t 9)),o 12 (.load (some 5) (t 11)),o 5 (.lalloc [.int .i64 0,.int .u32 0,.str [],.slice none 0 (some 0),.int .i64 0]),u (.store 5 (t 5) (t 12))])
 (R [0,3,7,8,9] [v 13 3,o 14 (.load (some 5) (t 5)),o 15 (.callg 589 [t 14]),o 16 (Bt .add 13 15),v 3 16]))) [0,3,7,8,9])
 (R [0,3,7,8,9] [o 17 (Bn .add 9 1),v 9 17]))))
def code579:AFunc:=⟨false,false,1,29,[.tmp 2],
 S (R [0] [o 2 (.val (n 0))])
 (S (R [0,3] [o 3 (.val (n 0))])
 (S (S (R [0,3,7,8,9] [v 7 0,o 8 (Sl 7),o 9 (.val (n 0))])
 (.after (.block 0 (.loop code579L0)) [0,3]))
 (S (R [3,6] [v 18 0,o 19 (Sl 18),o 20 (Bn .add 19 16),o 21 (Bn .sub 20 1),o 22 (Bn .quo 21 16),v 6 22])
 (S (R [2] [v 23 3,v 24 6,o 25 (.build [.int .i64 0,.int .u32 0,.str [],.slice none 0 (some 0),.int .i64 0] []),o 26 (.callg 589 [t 25]),o 27 (Bt .mul 24 26),o 28 (Bt .add 23 27),v 2 28])
 (Z [2]))))),none⟩
def code581L0:ACode :=
 .live [0,4,5,20,21,22] (S (R [0,4,5,20,21,22,23] [o 23 (Bt .lss 22 21)])
 (S (.after (.cond (t 23) (.skip) (.live [0,4,5] (.exit 0))) [0,4,5,20,21,22])
 (S (.after (.block 1 (S (R [0,4,5,7,20,21,22] [o 24 (.iaddr 3 (t 20) (t 22)),o 25 (.load (some 3) (t 24)),o 7 (.lalloc [.bool false,.str [],.slice none 0 (some 0)]),u (.store 3 (t 7) (t 25))])
 (S (.after (.region [⟨true,[0,1,0,4,12,31,0],[o 26 (Fa 7 1),o 27 (Lq 26),o 28 (Fa 7 2),o 29 (Lq 28),o 30 (.callg 100465 [t 29]),o 31 (.build [.int .i64 0,.int .u32 0,.str [],.slice none 0 (some 0),.int .i64 0] [(0,1,n 1),(1,1,.const (.int .u32 1)),(2,1,t 27),(3,1,t 30)]),o 8 (.alloc 5 [.int .i64 0,.int .u32 0,.str [],.slice none 0 (some 0),.int .i64 0])]⟩,⟨false,[],[u (.store 5 (t 8) (t 31))]⟩]) [0,4,5,7,8,20,21,22])
 (S (S (R [0,4,5,7,8,20,21,22,33] [o 32 (Fa 7 0),o 33 (Lq 32)])
 (.after (.cond (t 33) (R [0,4,5,7,8,20,21,22] [o 34 (Fa 8 0),u (.store 1 (t 34) (n 2)),o 35 (Fa 8 3),u (.store 1 (t 35) (.const (.slice none 0 (some 0))))]) (.skip)) [0,4,5,7,8,20,21,22]))
 (S (S (R [0,4,5,7,8,10,20,21,22] [o 37 (.load (some 5) (t 8)),o 38 (.callg 596 [t 37]),v 36 38,o 39 (Xt 36 0),o 40 (Xt 36 1),v 9 39,v 10 40])
 (S (R [0,4,5,7,8,20,21,22,42] [v 41 10,o 42 (Bn .neq 41 0)])
 (.after (.cond (t 42) (S (R [2,3] [o 2 (.val (.const (.slice none 0 (some 0)))),o 3 (.val (n 1))])
 (Z [2,3])) (.skip)) [0,4,5,7,8,20,21,22])))
 (S (R [0,4,5,8,20,21,22] [v 43 4,o 44 (Fa 7 1),o 45 (Lq 44),u (.ext (.mapupd (.one .s)) [t 43,t 45,.const (.bool true)])])
 (R [0,4,5,20,21,22] [v 46 5,o 47 (.load (some 5) (t 8)),o 48 (.mkslice 5 1 [.int .i64 0,.int .u32 0,.str [],.slice none 0 (some 0),.int .i64 0] [(0,5,t 47)]),o 49 (.append 5 64 (t 46) (t 48)),v 5 49]))))))) [0,4,5,20,21,22])
 (R [0,4,5,20,21,22] [o 50 (Bn .add 22 1),v 22 50]))))
def code581:AFunc:=⟨false,false,1,57,[.tmp 2,.tmp 3],
 S (R [0] [o 2 (.val (.const (.slice none 0 (some 0)))),o 3 (.val (n 0))])
 (S (S (R [0,18] [v 11 0,o 12 (Sl 11),o 13 (Bn .eql 12 0),v 14 13,g 15 14 false (Vl 0),g 16 14 false (Sl 15),g 17 14 false (Bn .gtr 16 16),o 18 (.pick (t 14) Y (t 17))])
 (.after (.cond (t 18) (S (R [2,3] [o 2 (.val (.const (.slice none 0 (some 0)))),o 3 (.val (n 1))])
 (Z [2,3])) (.skip)) [0]))
 (S (R [0,4] [o 19 (.ext .mkmap []),v 4 19])
 (S (R [0,4,5] [o 5 (.val (.const (.slice none 0 (some 0))))])
 (S (S (R [0,4,5,20,21,22] [v 20 0,o 21 (Sl 20),o 22 (.val (n 0))])
 (.after (.block 0 (.loop code581L0)) [0,4,5]))
 (S (S (R [5,55] [v 51 4,o 52 (.len .map (t 51)),v 53 0,o 54 (Sl 53),o 55 (Bt .lss 52 54)])
 (.after (.cond (t 55) (S (R [2,3] [o 2 (.val (.const (.slice none 0 (some 0)))),o 3 (.val (n 12))])
 (Z [2,3])) (.skip)) [5]))
 (S (R [2,3] [v 56 5,v 2 56,o 3 (.val (n 0))])
 (Z [2,3]))))))),none⟩
def code582:AFunc:=⟨false,false,2,36,[.tmp 4,.tmp 5],
 S (R [0,1] [o 4 (.val (n 0)),o 5 (.val F)])
 (S (S (R [0,1,10] [v 6 0,o 7 (.nilcheck (t 6)),o 8 (Fa 7 6),o 9 (Lq 8),o 10 (Bn .neq 9 0)])
 (.after (.cond (t 10) (S (S (R [0,1,15] [v 11 0,o 12 (.nilcheck (t 11)),o 13 (Fa 12 6),o 14 (Lq 13),o 15 (Bn .gtr 14 0)])
 (.after (.cond (t 15) (R [1] [v 16 0,o 17 (.nilcheck (t 16)),o 18 (Fa 17 6),o 19 (Lq 18),o 20 (Bn .sub 19 1),o 21 (.nilcheck (t 16)),o 22 (Fa 21 6),u (.store 1 (t 22) (t 20))]) (.skip)) [1]))
 (S (R [4,5] [v 23 1,v 4 23,o 5 (.val F)])
 (Z [4,5]))) (.skip)) [0,1]))
 (S (R [0,1] [v 24 0,o 25 (.nilcheck (t 24)),o 26 (Fa 25 5),u (.store 1 (t 26) Y)])
 (S (R [4,5] [v 27 0,o 28 (.nilcheck (t 27)),o 29 (Fa 28 7),o 30 (Fa 29 0),o 31 (Lq 30),o 32 (.minmax true [t 31,n 0]),v 33 1,o 34 (Bn .add 33 1),o 35 (Bt .rem 32 34),v 4 35,o 5 (.val Y)])
 (Z [4,5])))),none⟩
def code583:AFunc:=⟨false,false,3,56,[.tmp 6,.tmp 7],
 S (R [0,1,2] [o 6 (.val (.const (.slice none 0 (some 0)))),o 7 (.val (n 0))])
 (S (.after (.block 0 (S (R [0,1,2,8] [v 9 0,o 10 (.eqnil .ptr false (t 9) (.const (.ptr none))),v 11 10,g 12 11 false (Vl 0),g 13 11 false (.nilcheck (t 12)),g 14 11 false (Fa 13 5),g 15 11 false (Lq 14),o 16 (.pick (t 11) Y (t 15)),v 8 16])
 (.after (.cond (t 8) (S (R [6,7] [o 6 (.val (.const (.slice none 0 (some 0)))),o 7 (.val (n 5))])
 (Z [6,7])) (S (R [0,1,2,17] [v 18 1,o 19 (Bn .lss 18 0),v 20 19,g 21 20 false (Vl 2),g 22 20 false (Bn .lss 21 0),o 23 (.pick (t 20) Y (t 22)),v 24 23,g 25 24 false (Vl 1),g 26 24 false (Vl 0),g 27 24 false (.nilcheck (t 26)),g 28 24 false (Fa 27 3),g 29 24 false (Lq 28),g 30 24 false (Sl 29),g 31 24 false (Bt .gtr 25 30),o 32 (.pick (t 24) Y (t 31)),v 33 32,g 34 33 false (Vl 2),g 35 33 false (Vl 0),g 36 33 false (.nilcheck (t 35)),g 37 33 false (Fa 36 3),g 38 33 false (Lq 37),g 39 33 false (Sl 38),g 40 33 false (Vl 1),g 41 33 false (Bt .sub 39 40),g 42 33 false (Bt .gtr 34 41),o 43 (.pick (t 33) Y (t 42)),v 17 43])
 (.after (.cond (t 17) (S (R [6,7] [o 6 (.val (.const (.slice none 0 (some 0)))),o 7 (.val (n 2))])
 (Z [6,7])) (.skip)) [0,1,2]))) [0,1,2]))) [0,1,2])
 (S (R [6,7] [v 44 0,o 45 (.nilcheck (t 44)),o 46 (Fa 45 3),o 47 (Lq 46),v 48 1,v 49 1,v 50 2,o 51 (Bt .add 49 50),v 52 1,v 53 2,o 54 (Bt .add 52 53),o 55 (.slice (.sl 1) (t 47) (some (t 48)) (some (t 51)) (some (t 54))),v 6 55,o 7 (.val (n 0))])
 (Z [6,7]))),none⟩
def code585:AFunc:=⟨false,false,1,5,[.tmp 2],
 S (R [0] [o 2 (.val F)])
 (S (R [2] [v 3 0,o 4 (.bin .neq (t 3) (.const (.int .u8 255))),v 2 4])
 (Z [2])),none⟩
def code586:AFunc:=⟨false,false,1,49,[.cell 2 (some 3),.tmp 3],
 S (R [0,2] [o 2 (.lalloc [.int .u32 0,.bool false,.bool false]),o 3 (.val (n 0))])
 (S (R [0,2,4] [o 9 (.callg 604 []),o 4 (.alloc 1 [.int .u8 0,.int .u8 0]),u (.store 2 (t 4) (t 9))])
 (S (.after (.block 0 (S (R [0,2,4,10] [v 11 0,o 12 (Sl 11),o 13 (Bn .lss 12 12),v 10 13])
 (.after (.cond (t 10) (S (R [2,3] [o 14 (.build [.int .u32 0,.bool false,.bool false] []),u (.store 3 (t 2) (t 14)),o 3 (.val (n 6))])
 (Z [2,3])) (S (R [0,2,15] [v 16 0,o 17 (.slice (.arr 2 1) (t 4) none none none),o 18 (.callg 603 [t 16,t 17]),o 19 (.un .not (t 18)),v 15 19])
 (.after (.cond (t 15) (S (R [2,3] [o 20 (.build [.int .u32 0,.bool false,.bool false] []),u (.store 3 (t 2) (t 20)),o 3 (.val (n 8))])
 (Z [2,3])) (.skip)) [0,2]))) [0,2]))) [0,2])
 (S (R [0,2,5] [v 22 0,o 23 (.callg 500 [t 22,n 6,n 2]),v 21 23,o 24 (Xt 21 0),o 25 (Xt 21 1),v 5 24,v 6 25])
 (S (S (R [0,2,31] [v 26 5,o 27 (.conv (.int .u16) (t 26)),v 28 0,o 29 (.slice (.sl 1) (t 28) none (some (n 6)) none),o 30 (.callg 602 [t 29]),o 31 (Bt .neq 27 30)])
 (.after (.cond (t 31) (S (R [2,3] [o 32 (.build [.int .u32 0,.bool false,.bool false] []),u (.store 3 (t 2) (t 32)),o 3 (.val (n 7))])
 (Z [2,3])) (.skip)) [0,2]))
 (S (R [0,2,7] [v 34 0,o 35 (.callg 500 [t 34,n 2,n 4]),v 33 35,o 36 (Xt 33 0),o 37 (Xt 33 1),v 7 36,v 8 37])
 (S (.after (.region [⟨true,[],[v 38 7,o 39 (.conv (.int .u32) (t 38)),v 40 0,o 41 (.iaddr 1 (t 40) (n 8)),o 42 (Lq 41),o 43 (.bin .eql (t 42) (.const (.int .u8 0))),v 44 0,o 45 (.iaddr 1 (t 44) (n 9)),o 46 (Lq 45),o 47 (.bin .neq (t 46) (.const (.int .u8 255)))]⟩,⟨false,[],[o 48 (.build [.int .u32 0,.bool false,.bool false] [(0,1,t 39),(1,1,t 43),(2,1,t 47)]),u (.store 3 (t 2) (t 48)),o 3 (.val (n 0))]⟩]) [2,3])
 (Z [2,3]))))))),none⟩
def code587:AFunc:=⟨false,false,2,25,[.tmp 4],
 S (R [0,1] [o 4 (.val (n 0))])
 (S (S (R [0,1,17] [v 5 0,o 6 (.eqnil .ptr false (t 5) (.const (.ptr none))),v 7 6,g 8 7 false (Vl 1),g 9 7 false (Vl 0),g 10 7 false (.nilcheck (t 9)),g 11 7 false (Fa 10 0),g 12 7 false (Fa 11 0),g 13 7 false (Lq 12),g 14 7 false (Bn .sub 13 1),g 15 7 false (.callg 568 [t 8,n 0,t 14]),g 16 7 false (.un .not (t 15)),o 17 (.pick (t 7) Y (t 16))])
 (.after (.cond (t 17) (S (R [4] [o 4 (.val (n 0))])
 (Z [4])) (.skip)) [0,1]))
 (S (R [4] [v 18 0,o 19 (.nilcheck (t 18)),o 20 (Fa 19 4),o 21 (Lq 20),v 22 1,o 23 (.iaddr 1 (t 21) (t 22)),o 24 (Lq 23),v 4 24])
 (Z [4]))),none⟩
def code588:AFunc:=⟨false,false,3,20,[.tmp 6,.tmp 7],
 S (R [0,1,2] [o 6 (.val (.const (.slice none 0 (some 0)))),o 7 (.val (n 0))])
 (S (R [8,9] [v 11 0,v 12 1,v 13 2,o 14 (.callg 583 [t 11,t 12,t 13]),v 10 14,o 15 (Xt 10 0),o 16 (Xt 10 1),v 8 15,v 9 16])
 (S (R [6,7] [v 17 8,o 18 (.callg 100465 [t 17]),v 19 9,v 6 18,v 7 19])
 (Z [6,7]))),none⟩
def code589:AFunc:=⟨false,false,1,12,[.tmp 2],
 S (R [1] [o 1 (.lbox (t 0)),o 2 (.val (n 0))])
 (S (R [2] [o 3 (Fa 1 2),o 4 (Lq 3),o 5 (.len .str (t 4)),o 6 (.bin .add (n 11) (t 5)),o 7 (Fa 1 3),o 8 (Lq 7),o 9 (Sl 8),o 10 (Bt .add 6 9),o 11 (Bn .add 10 5),v 2 11])
 (Z [2])),none⟩
def code590L0:ACode :=
 .live [0,1,2,6,7,8] (S (S (R [0,1,2,6,7,8,35] [v 33 8,v 34 1,o 35 (Bt .leq 33 34)])
 (.after (.cond (t 35) (.skip) (.live [0,1,2,6,7] (.exit 4))) [0,1,2,6,7,8]))
 (.after (.block 5 (S (R [0,1,2,6,8] [v 36 0,v 37 7,v 38 7,v 39 6,o 40 (Bt .add 38 39),v 41 8,v 42 2,o 43 (.nextStr F)])
 (S (R [0,1,2,6,7,8] [v 44 8,v 7 44])
 (R [0,1,2,6,7,8] [v 45 8,v 46 6,o 47 (.bin .mul (n 2) (t 46)),o 48 (Bt .add 45 47),v 8 48])))) [0,1,2,6,7,8]))
def code590L1:ACode :=
 .live [0,1,2,6] (S (S (R [0,1,2,6,30] [v 28 6,v 29 1,o 30 (Bt .lss 28 29)])
 (.after (.cond (t 30) (.skip) (.live [] (.exit 2))) [0,1,2,6]))
 (.after (.block 3 (S (R [0,1,2,6,7,8] [v 31 6,o 32 (.bin .mul (n 2) (t 31)),o 7 (.val (n 0)),v 8 32])
 (S (.after (.block 4 (.loop code590L0)) [0,1,2,6,7])
 (S (S (R [0,1,2,6,7,9] [v 49 7,v 50 6,o 51 (Bt .add 49 50),v 9 51])
 (S (R [0,1,2,6,7,9,54] [v 52 9,v 53 1,o 54 (Bt .lss 52 53)])
 (.after (.cond (t 54) (R [0,1,2,6] [v 55 0,v 56 7,v 57 9,v 58 1,v 59 2,o 60 (.nextStr F)]) (.skip)) [0,1,2,6])))
 (R [0,1,2,6] [v 61 6,o 62 (Bn .mul 61 2),v 6 62]))))) [0,1,2,6]))
def code590L2:ACode :=
 .live [0,1,2,6,7,8] (S (S (R [0,1,2,6,7,8,13] [v 11 8,v 12 1,o 13 (Bt .leq 11 12)])
 (.after (.cond (t 13) (.skip) (.live [0,1,2,6,7] (.exit 0))) [0,1,2,6,7,8]))
 (.after (.block 1 (S (R [0,1,2,6,8] [v 14 0,v 15 7,v 16 8,v 17 2,o 18 (.callg 606 [t 14,t 15,t 16,t 17])])
 (S (R [0,1,2,6,7,8] [v 19 8,v 7 19])
 (R [0,1,2,6,7,8] [v 20 8,v 21 6,o 22 (Bt .add 20 21),v 8 22])))) [0,1,2,6,7,8]))
def code590:AFunc:=⟨false,false,3,63,[],
 S (R [0,1,2,6] [o 6 (.val (n 20))])
 (S (R [0,1,2,6,7,8] [v 10 6,o 7 (.val (n 0)),v 8 10])
 (S (.after (.block 0 (.loop code590L2)) [0,1,2,6,7])
 (S (R [0,1,2,6] [v 23 0,v 24 7,v 25 1,v 26 2,o 27 (.callg 606 [t 23,t 24,t 25,t 26])])
 (.after (.block 2 (.loop code590L1)) [])))),none⟩
def code596:AFunc:=⟨false,false,1,56,[.tmp 2,.tmp 3],
 S (R [1] [o 1 (.lbox (t 0)),o 2 (.val (.const (.slice none 0 (some 0)))),o 3 (.val (n 0))])
 (S (S (R [1,13] [o 5 (.load (some 5) (t 1)),o 6 (Fa 1 2),o 7 (Lq 6),o 8 (.len .str (t 7)),o 9 (Fa 1 3),o 10 (Lq 9),o 11 (Sl 10),o 12 (.callg 614 [t 5,t 8,t 11]),o 13 (.un .not (t 12))])
 (.after (.cond (t 13) (S (R [2,3] [o 2 (.val (.const (.slice none 0 (some 0)))),o 3 (.val (n 8))])
 (Z [2,3])) (.skip)) [1]))
 (S (R [1,4] [o 14 (Fa 1 0),o 15 (Lq 14),o 16 (.conv (.int .u8) (t 15)),o 17 (.mkslice 1 1 [.int .u8 0] [(0,1,t 16)]),o 18 (Fa 1 1),o 19 (Lq 18),o 20 (.conv (.int .u64) (t 19)),o 21 (.callg 100385 [t 17,t 20,n 4]),v 4 21])
 (S (R [1,4] [v 22 4,o 23 (Fa 1 2),o 24 (Lq 23),o 25 (.len .str (t 24)),o 26 (.conv (.int .u64) (t 25)),o 27 (.callg 100385 [t 22,t 26,n 1]),v 4 27])
 (S (R [1,4] [v 28 4,o 29 (Fa 1 3),o 30 (Lq 29),o 31 (Sl 30),o 32 (.conv (.int .u64) (t 31)),o 33 (.callg 100385 [t 28,t 32,n 2]),v 4 33])
 (S (R [1,4] [v 34 4,o 35 (Fa 1 4),o 36 (Lq 35),o 37 (.conv (.int .u64) (t 36)),o 38 (.callg 100385 [t 34,t 37,n 1]),v 4 38])
 (S (R [1,4] [v 39 4,v 40 4,o 41 (.callg 602 [t 40]),o 42 (.conv (.int .u64) (t 41)),o 43 (.callg 100385 [t 39,t 42,n 2]),v 4 43])
 (S (.after (.region [⟨true,[0,0,2,7,0,16],[v 44 4,o 45 (Fa 1 2),o 46 (Lq 45),o 47 (.append 1 1 (t 44) (t 46)),o 48 (Fa 1 3),o 49 (Lq 48)]⟩,⟨false,[],[o 50 (.append 1 1 (t 47) (t 49)),v 4 50]⟩]) [4])
 (S (R [2,3] [v 51 4,v 52 4,o 53 (.callg 613 [t 52]),o 54 (.conv (.int .u64) (t 53)),o 55 (.callg 100385 [t 51,t 54,n 4]),v 2 55,o 3 (.val (n 0))])
 (Z [2,3]))))))))),none⟩
def code597:AFunc:=⟨false,false,2,24,[.tmp 4],
 S (R [0,1] [o 4 (.val F)])
 (S (.after (.region [⟨false,[],[v 5 0,o 6 (.nilcheck (t 5)),o 7 (Fa 6 6),o 8 (Lq 7),o 9 (.bin .neq (t 8) (.const (.int .i64 (-1)))),v 10 9]⟩,⟨true,[],[g 11 10 true (Vl 0),g 12 10 true (.nilcheck (t 11)),g 13 10 true (Fa 12 7),g 14 10 true (Lq 13),g 15 10 true (Vl 1),g 16 10 true (Bt .add 14 15),g 17 10 true (Vl 0),g 18 10 true (.nilcheck (t 17)),g 19 10 true (Fa 18 1),g 20 10 true (Fa 19 1),g 21 10 true (Lq 20)]⟩,⟨false,[],[g 22 10 true (Bt .leq 16 21),o 23 (.pick (t 10) (t 22) F),v 4 23]⟩]) [4])
 (Z [4])),none⟩
def code598:AFunc:=⟨false,false,1,78,[.tmp 2],
 S (R [0] [o 2 (.val (n 0))])
 (S (.after (.region [⟨true,[],[v 7 0,o 8 (.nilcheck (t 7)),o 9 (Fa 8 4),o 10 (Lq 9),v 11 0,o 12 (.nilcheck (t 11)),o 13 (Fa 12 1),o 14 (Fa 13 2),o 15 (Lq 14)]⟩,⟨false,[],[o 16 (.callg 7 [t 10,t 15]),v 6 16]⟩,⟨true,[],[o 17 (Xt 6 0),o 18 (Xt 6 1),v 3 17]⟩,⟨false,[],[v 4 18]⟩]) [0,3,4])
 (S (S (R [0,3,27] [v 19 4,o 20 (.un .not (t 19)),v 21 20,g 22 21 false (Vl 0),g 23 21 false (.nilcheck (t 22)),g 24 21 false (Fa 23 9),g 25 21 false (Lq 24),g 26 21 false (.bin .eql (t 25) (.const (.int .u32 4294967295))),o 27 (.pick (t 21) Y (t 26))])
 (.after (.cond (t 27) (S (R [2] [o 2 (.val (n 10))])
 (Z [2])) (.skip)) [0,3]))
 (S (S (.after (.region [⟨true,[],[v 28 0,o 29 (.nilcheck (t 28)),o 30 (Fa 29 0),o 31 (Lq 30),v 32 3,v 33 0,o 34 (.nilcheck (t 33)),o 35 (Fa 34 9),o 36 (Lq 35),o 37 (.bin .add (t 36) (.const (.int .u32 1)))]⟩,⟨false,[],[o 38 (.callg 618 [t 31,t 32,t 37]),v 5 38]⟩]) [0,3,5])
 (S (R [0,3,5,40] [v 39 5,o 40 (Bn .neq 39 0)])
 (.after (.cond (t 40) (S (R [2] [v 41 0,v 42 5,o 43 (.callg 578 [t 41,t 42]),v 2 43])
 (Z [2])) (.skip)) [0,3])))
 (S (R [0,3] [v 44 0,o 45 (.nilcheck (t 44)),o 46 (Fa 45 9),o 47 (Lq 46),o 48 (.bin .add (t 47) (.const (.int .u32 1))),o 49 (.nilcheck (t 44)),o 50 (Fa 49 9),u (.store 1 (t 50) (t 48))])
 (S (.after (.region [⟨true,[],[v 51 0,o 52 (.nilcheck (t 51)),o 53 (Fa 52 4),o 54 (Lq 53),v 55 3,v 56 0,o 57 (.nilcheck (t 56)),o 58 (Fa 57 9),o 59 (Lq 58),v 60 0,o 61 (.nilcheck (t 60)),o 62 (Fa 61 0),o 63 (Lq 62),v 64 3,o 65 (.callg 587 [t 63,t 64]),o 66 (.build [.int .i64 0,.int .u32 0,.int .i64 0] [(0,1,n 2),(1,1,t 59),(2,1,t 65)])]⟩,⟨false,[],[o 67 (.iaddr 3 (t 54) (t 55)),u (.store 3 (t 67) (t 66))]⟩]) [0,3])
 (S (R [] [v 68 0,v 69 0,v 70 0,v 71 3,o 72 (.nilcheck (t 68)),o 73 (Fa 72 6),u (.store 1 (t 73) (t 71)),o 74 (.nilcheck (t 69)),o 75 (Fa 74 7),u (.store 1 (t 75) (n 12)),o 76 (.nilcheck (t 70)),o 77 (Fa 76 8),u (.store 1 (t 77) (.const (.int .u32 0)))])
 (S (R [2] [o 2 (.val (n 0))])
 (Z [2])))))))),none⟩
def code600:AFunc:=⟨false,false,3,32,[],
 S (R [0,1,5] [o 5 (.lbox (t 2))])
 (S (S (R [0,1,5,9] [o 6 (Fa 5 1),o 7 (Fa 6 0),o 8 (Lq 7),o 9 (Bn .eql 8 2)])
 (.after (.cond (t 9) (S (.after (.region [⟨true,[],[v 10 0,o 11 (.nilcheck (t 10)),o 12 (Fa 11 5),o 13 (Lq 12),o 14 (Fa 5 1),o 15 (Fa 14 2),o 16 (Lq 15)]⟩,⟨false,[],[u (.ext (.delete (.one .s)) [t 13,t 16])]⟩]) [])
 (Z [])) (.skip)) [0,1,5]))
 (.after (.region [⟨true,[],[v 17 0,o 18 (.nilcheck (t 17)),o 19 (Fa 18 5),o 20 (Lq 19),o 21 (Fa 5 1),o 22 (Fa 21 2),o 23 (Lq 22),v 24 1,o 25 (Fa 5 0),o 26 (Lq 25),o 27 (Fa 5 1),o 28 (Fa 27 3),o 29 (Lq 28),o 30 (.conv .string (t 29)),o 31 (.build [.int .i64 0,.int .i64 0,.str []] [(0,1,t 24),(1,1,t 26),(2,1,t 30)])]⟩,⟨false,[],[u (.ext (.mapupd (.one .s)) [t 20,t 23,t 31])]⟩]) [])),none⟩
def code601:AFunc:=⟨false,false,2,74,[.cell 4 (some 6),.tmp 5],
 S (R [0,3,4] [o 3 (.lbox (t 1)),o 4 (.lalloc [.int .i64 0,.int .i64 0,.int .u32 0,.str [],.slice none 0 (some 0),.int .i64 0]),o 5 (.val (n 0))])
 (S (R [0,3,4,5,6] [o 9 (.load (some 5) (t 3)),o 10 (.callg 596 [t 9]),v 8 10,o 11 (Xt 8 0),o 12 (Xt 8 1),v 6 11,v 5 12])
 (S (S (R [0,3,4,5,6,14] [v 13 5,o 14 (Bn .neq 13 0)])
 (.after (.cond (t 14) (S (R [4,5] [o 15 (.load (some 6) (t 4)),v 16 5,u (.store 6 (t 4) (t 15)),v 5 16])
 (Z [4,5])) (.skip)) [0,3,4,6]))
 (S (.after (.region [⟨true,[],[v 17 0,o 18 (.nilcheck (t 17)),o 19 (Fa 18 6),o 20 (Lq 19),v 21 0,o 22 (.nilcheck (t 21)),o 23 (Fa 22 1),o 24 (Fa 23 1),o 25 (Lq 24),o 26 (Bt .mul 20 25),v 27 0,o 28 (.nilcheck (t 27)),o 29 (Fa 28 7),o 30 (Lq 29)]⟩,⟨false,[],[o 31 (Bt .add 26 30),v 7 31]⟩]) [0,3,4,6,7])
 (S (S (R [0,3,4,5,6,7] [v 32 0,o 33 (.nilcheck (t 32)),o 34 (Fa 33 0),o 35 (Lq 34),v 36 7,v 37 6,o 38 (.callg 558 [t 35,t 36,t 37]),v 5 38])
 (S (R [0,3,4,5,6,7,40] [v 39 5,o 40 (Bn .neq 39 0)])
 (.after (.cond (t 40) (S (R [4,5] [o 41 (.load (some 6) (t 4)),v 42 5,u (.store 6 (t 4) (t 41)),v 5 42])
 (Z [4,5])) (.skip)) [0,3,4,6,7])))
 (S (S (R [0,3,4,5,6] [v 43 0,o 44 (.nilcheck (t 43)),o 45 (Fa 44 0),o 46 (Lq 45),v 47 7,v 48 6,o 49 (Sl 48),o 50 (Bt .add 47 49),o 51 (.mkslice 1 1 [.int .u8 0] [(0,1,.const (.int .u8 0))]),o 52 (.callg 558 [t 46,t 50,t 51]),v 5 52])
 (S (R [0,3,4,5,6,54] [v 53 5,o 54 (Bn .neq 53 0)])
 (.after (.cond (t 54) (S (R [4,5] [o 55 (.load (some 6) (t 4)),v 56 5,u (.store 6 (t 4) (t 55)),v 5 56])
 (Z [4,5])) (.skip)) [0,3,4,6])))
 (S (.after (.region [⟨true,[],[v 57 0,o 58 (.nilcheck (t 57)),o 59 (Fa 58 7),o 60 (Lq 59),o 61 (.load (some 5) (t 3))]⟩,⟨false,[],[o 62 (.build [.int .i64 0,.int .i64 0,.int .u32 0,.str [],.slice none 0 (some 0),.int .i64 0] [(0,1,t 60),(1,5,t 61)]),u (.store 6 (t 4) (t 62))]⟩]) [0,4,6])
 (S (R [4] [v 63 0,o 64 (.nilcheck (t 63)),o 65 (Fa 64 7),o 66 (Lq 65),v 67 6,o 68 (Sl 67),o 69 (Bn .add 68 1),o 70 (Bt .add 66 69),o 71 (.nilcheck (t 63)),o 72 (Fa 71 7),u (.store 1 (t 72) (t 70))])
 (S (R [4,5] [o 73 (.load (some 6) (t 4)),u (.store 6 (t 4) (t 73)),o 5 (.val (n 0))])
 (Z [4,5]))))))))),none⟩
def code602:AFunc:=⟨false,false,1,5,[.tmp 2],
 S (R [0] [o 2 (.val (.const (.int .u16 0)))])
 (S (R [2] [v 3 0,o 4 (.callg 620 [.const (.int .u16 65535),t 3]),v 2 4])
 (Z [2])),none⟩
def code603:AFunc:=⟨false,false,2,18,[.tmp 4],
 S (R [0,1] [o 4 (.val F)])
 (S (R [4] [v 5 0,o 6 (Sl 5),v 7 1,o 8 (Sl 7),o 9 (Bt .geq 6 8),v 10 9,g 11 10 true (Vl 0),g 12 10 true (Vl 1),g 13 10 true (Sl 12),g 14 10 true (.slice (.sl 1) (t 11) none (some (t 13)) none),g 15 10 true (Vl 1),g 16 10 true (.callg 619 [t 14,t 15]),o 17 (.pick (t 10) (t 16) F),v 4 17])
 (Z [4])),none⟩
def code604:AFunc:=⟨false,false,0,2,[.cell 0 (some 2)],
 S (R [0] [o 0 (.lalloc [.int .u8 0,.int .u8 0])])
 (S (R [0] [o 1 (.build [.int .u8 0,.int .u8 0] [(0,1,.const (.int .u8 67)),(1,1,.const (.int .u8 66))]),u (.store 2 (t 0) (t 1))])
 (Z [0])),none⟩
def code606L0:ACode :=
 .live [0,1,2,3,8,9] (S (S (.after (.region [⟨true,[],[v 18 9,v 19 1]⟩,⟨false,[],[o 20 (Bt .gtr 18 19),v 21 20]⟩,⟨true,[],[g 22 21 true (Vl 3),g 23 21 true (Vl 0),g 24 21 true (Vl 9),g 25 21 true (.iaddr 1 (t 23) (t 24)),g 26 21 true (Lq 25),g 27 21 true (Vl 0),g 28 21 true (Vl 9),g 29 21 true (Bn .sub 28 1),g 30 21 true (.iaddr 1 (t 27) (t 29)),g 31 21 true (Lq 30)]⟩,⟨false,[],[g 32 21 true (.call (t 22) [t 26,t 31]),g 33 21 true (Bn .lss 32 0),o 34 (.pick (t 21) (t 33) F)]⟩]) [0,1,2,3,8,9,34])
 (.after (.cond (t 34) (.skip) (.live [0,1,2,3,8] (.exit 2))) [0,1,2,3,8,9]))
 (S (.after (.block 3 (.after (.region [⟨true,[0,0,0,0,8,0,0,64,224,480,0,0,3072,7168,16355,32739],[v 37 0,v 38 9,v 39 0,v 40 9,o 41 (Bn .sub 40 1),v 42 0,v 43 9,o 44 (Bn .sub 43 1),o 45 (.iaddr 1 (t 42) (t 44)),o 46 (Lq 45),v 47 0,v 48 9,o 49 (.iaddr 1 (t 47) (t 48)),o 50 (Lq 49),o 51 (.iaddr 1 (t 37) (t 38)),u (.ext (.hstore 1) [t 51,t 46])]⟩,⟨false,[],[o 52 (.iaddr 1 (t 39) (t 41)),u (.store 1 (t 52) (t 50))]⟩]) [0,1,2,3,8,9])) [0,1,2,3,8,9])
 (R [0,1,2,3,8,9] [v 35 9,o 36 (Bn .sub 35 1),v 9 36])))
def code606L1:ACode :=
 .live [0,1,2,3,8] (S (S (R [0,1,2,3,8,14] [v 12 8,v 13 2,o 14 (Bt .lss 12 13)])
 (.after (.cond (t 14) (.skip) (.live [] (.exit 0))) [0,1,2,3,8]))
 (S (.after (.block 1 (S (R [0,1,2,3,8,9] [v 17 8,v 9 17])
 (.after (.block 2 (.loop code606L0)) [0,1,2,3,8]))) [0,1,2,3,8])
 (R [0,1,2,3,8] [v 15 8,o 16 (Bn .add 15 1),v 8 16])))
def code606:AFunc:=⟨false,false,4,53,[],
 S (R [0,1,2,3,8] [v 10 1,o 11 (Bn .add 10 1),v 8 11])
 (.after (.block 0 (.loop code606L1)) []),none⟩
def code611L0:ACode :=
 .live [0,5,6,7,79,80] (S (R [0,5,6,7,79,80,81] [o 81 (Bt .lss 80 79)])
 (S (.after (.cond (t 81) (.skip) (.live [0,5,6,7] (.exit 1))) [0,5,6,7,79,80])
 (S (.after (.block 2 (S (R [0,5,6,7,8,79,80] [v 82 80,v 8 82])
 (R [0,5,6,7,79,80] [v 83 5,v 84 8,o 85 (.iaddr 1 (t 83) (t 84)),u (.store 1 (t 85) (.const (.int .u8 255)))]))) [0,5,6,7,79,80])
 (R [0,5,6,7,79,80] [o 86 (Bn .add 80 1),v 80 86]))))
def code611:AFunc:=⟨false,false,2,104,[.tmp 4],
 S (R [0,1] [o 4 (.val (n 0))])
 (S (.after (.block 0 (S (R [0,1,9] [v 10 0,o 11 (.eqnil .ptr false (t 10) (.const (.ptr none))),v 12 11,g 13 12 false (Vl 0),g 14 12 false (.nilcheck (t 13)),g 15 12 false (Fa 14 5),g 16 12 false (Lq 15),o 17 (.pick (t 12) Y (t 16)),v 9 17])
 (.after (.cond (t 9) (S (R [4] [o 4 (.val (n 5))])
 (Z [4])) (S (R [0,1,18] [v 19 1,v 20 0,o 21 (.nilcheck (t 20)),o 22 (Fa 21 0),o 23 (Fa 22 0),o 24 (Lq 23),o 25 (Bn .sub 24 1),o 26 (.callg 568 [t 19,n 0,t 25]),o 27 (.un .not (t 26)),v 18 27])
 (.after (.cond (t 18) (S (R [4] [o 4 (.val (n 2))])
 (Z [4])) (S (.after (.region [⟨true,[],[v 29 0,o 30 (.nilcheck (t 29)),o 31 (Fa 30 4),o 32 (Lq 31),v 33 1,o 34 (.iaddr 1 (t 32) (t 33)),o 35 (Lq 34),v 36 0,o 37 (.nilcheck (t 36)),o 38 (Fa 37 0),o 39 (Fa 38 2),o 40 (Lq 39)]⟩,⟨false,[],[o 41 (Bt .geq 35 40),v 28 41]⟩]) [0,1,28])
 (.after (.cond (t 28) (S (R [4] [o 4 (.val (n 4))])
 (Z [4])) (.skip)) [0,1]))) [0,1]))) [0,1]))) [0,1])
 (S (R [0,1] [v 42 0,o 43 (.nilcheck (t 42)),o 44 (Fa 43 4),o 45 (Lq 44),v 46 1,o 47 (.iaddr 1 (t 45) (t 46)),o 48 (Lq 47),o 49 (Bn .add 48 1),o 50 (.iaddr 1 (t 45) (t 46)),u (.store 1 (t 50) (t 49))])
 (S (.after (.region [⟨true,[],[v 51 0,o 52 (.nilcheck (t 51)),o 53 (Fa 52 3),o 54 (Lq 53),v 55 1,v 56 0,o 57 (.nilcheck (t 56)),o 58 (Fa 57 0),o 59 (Fa 58 1),o 60 (Lq 59),o 61 (Bt .mul 55 60),o 62 (.slice (.sl 1) (t 54) (some (t 61)) none none),v 63 0,o 64 (.nilcheck (t 63)),o 65 (Fa 64 0),o 66 (Fa 65 1),o 67 (Lq 66)]⟩,⟨false,[],[o 68 (.slice (.sl 1) (t 62) none (some (t 67)) none),v 5 68]⟩]) [0,5])
 (S (R [0,5,6,7] [v 70 0,v 71 5,o 72 (Sl 71),o 73 (.callg 582 [t 70,t 72]),v 69 73,o 74 (Xt 69 0),o 75 (Xt 69 1),v 6 74,v 7 75])
 (S (S (R [0,5,6,7,79,80] [v 76 5,v 77 6,o 78 (.slice (.sl 1) (t 76) none (some (t 77)) none),o 79 (Sl 78),o 80 (.val (n 0))])
 (.after (.block 1 (.loop code611L0)) [0,5,6,7]))
 (S (S (R [0,5,6,88] [v 87 7,o 88 (.un .not (t 87))])
 (.after (.cond (t 88) (S (R [4] [o 4 (.val (n 0))])
 (Z [4])) (.skip)) [0,5,6]))
 (S (S (R [0,5,6,92] [v 89 6,v 90 5,o 91 (Sl 90),o 92 (Bt .lss 89 91)])
 (.after (.cond (t 92) (.after (.region [⟨true,[],[v 93 5,v 94 6,o 95 (.iaddr 1 (t 93) (t 94)),o 96 (Lq 95),v 97 0,o 98 (.nilcheck (t 97)),o 99 (Fa 98 7),o 100 (Fa 99 1),o 101 (Lq 100)]⟩,⟨false,[],[o 102 (Bt .or 96 101),o 103 (.iaddr 1 (t 93) (t 94)),u (.store 1 (t 103) (t 102))]⟩]) []) (.skip)) []))
 (S (R [4] [o 4 (.val (n 5))])
 (Z [4]))))))))),none⟩
def code612:AFunc:=⟨false,false,2,24,[.tmp 4],
 S (R [0,1] [o 4 (.val (n 0))])
 (S (R [0,1,5] [v 6 0,o 7 (.callg 573 [t 6]),o 5 (.lalloc [.int .i64 0,.int .i64 0,.int .i64 0]),u (.store 3 (t 5) (t 7))])
 (S (S (R [0,1,5,15] [v 8 1,o 9 (Bn .lss 8 0),v 10 9,g 11 10 false (Vl 1),g 12 10 false (Fa 5 0),g 13 10 false (Lq 12),g 14 10 false (Bt .geq 11 13),o 15 (.pick (t 10) Y (t 14))])
 (.after (.cond (t 15) (S (R [4] [o 4 (.val (n 2))])
 (Z [4])) (.skip)) [0,1,5]))
 (S (R [4] [v 16 0,v 17 1,o 18 (Fa 5 1),o 19 (Lq 18),o 20 (Bt .mul 17 19),o 21 (Bn .add 20 9),o 22 (.mkslice 1 1 [.int .u8 0] [(0,1,.const (.int .u8 0))]),o 23 (.callg 558 [t 16,t 21,t 22]),v 4 23])
 (Z [4])))),none⟩
def code613L0:ACode :=
 .live [3,4,8,9,10] (S (R [3,4,8,9,10,11] [o 11 (Bt .lss 10 9)])
 (S (.after (.cond (t 11) (.skip) (.live [4] (.exit 0))) [3,4,8,9,10])
 (S (.after (.block 1 (S (R [3,4,6,8,9,10] [o 12 (.iaddr 1 (t 8) (t 10)),o 13 (Lq 12),v 6 13])
 (R [3,4,8,9,10] [v 14 4,o 15 (.bin .shr (t 14) (.const (.int .u64 8))),v 16 4,o 17 (.conv (.int .u8) (t 16)),v 18 6,o 19 (Bt .xor 17 18),o 20 (.aaddr 256 1 (t 3) (t 19)),o 21 (Lq 20),o 22 (Bt .xor 15 21),v 4 22]))) [3,4,8,9,10])
 (R [3,4,8,9,10] [o 23 (Bn .add 10 1),v 10 23]))))
def code613:AFunc:=⟨false,false,1,26,[.tmp 2],
 S (R [0] [o 2 (.val (.const (.int .u32 0)))])
 (S (R [0,3,4] [o 7 (.callg 626 []),o 3 (.lalloc (List.replicate 256 (.int .u32 0))),u (.store 256 (t 3) (t 7)),o 4 (.val (.const (.int .u32 4294967295)))])
 (S (S (R [3,4,8,9,10] [v 8 0,o 9 (Sl 8),o 10 (.val (n 0))])
 (.after (.block 0 (.loop code613L0)) [4]))
 (S (R [2] [v 24 4,o 25 (.un .xor (t 24)),v 2 25])
 (Z [2])))),none⟩
def code614:AFunc:=⟨false,false,3,56,[.tmp 6],
 S (R [1,2,3] [o 3 (.lbox (t 0)),o 6 (.val F)])
 (S (S (R [1,2,3,10] [o 8 (Fa 3 1),o 9 (Lq 8),o 10 (.bin .eql (t 9) (.const (.int .u32 0)))])
 (.after (.cond (t 10) (S (R [6] [o 6 (.val F)])
 (Z [6])) (.skip)) [1,2,3]))
 (S (R [1,2,3,7] [v 11 1,o 12 (Bn .geq 11 1),v 13 12,g 14 13 true (Vl 1),g 15 13 true (Bn .leq 14 64),o 16 (.pick (t 13) (t 15) F),v 17 16,g 18 17 true (Fa 3 4),g 19 17 true (Lq 18),g 20 17 true (Bn .eql 19 0),o 21 (.pick (t 17) (t 20) F),v 7 21])
 (S (S (R [1,2,3,7,23] [o 22 (Fa 3 0),o 23 (Lq 22)])
 (.after (.block 0 (S (R [1,2,3,7,23,24] [o 25 (Bn .eql 23 1),v 24 25])
 (.after (.cond (t 24) (S (R [6] [v 26 7,v 27 26,g 28 27 true (Vl 2),g 29 27 true (Bn .leq 28 4096),o 30 (.pick (t 27) (t 29) F),v 6 30])
 (Z [6])) (S (R [1,2,3,7,23,31] [o 32 (Bn .eql 23 2),v 31 32])
 (.after (.cond (t 31) (S (R [6] [v 33 7,v 34 33,g 35 34 true (Vl 2),g 36 34 true (Bn .eql 35 0),o 37 (.pick (t 34) (t 36) F),v 6 37])
 (Z [6])) (S (R [1,2,3,38] [o 39 (Bn .eql 23 3),v 38 39])
 (.after (.cond (t 38) (S (R [6] [v 40 1,o 41 (Bn .eql 40 0),v 42 41,g 43 42 true (Vl 2),g 44 42 true (Bn .eql 43 0),o 45 (.pick (t 42) (t 44) F),v 46 45,g 47 46 true (Fa 3 4),g 48 46 true (Lq 47),g 49 46 true (Bn .geq 48 0),o 50 (.pick (t 46) (t 49) F),v 51 50,g 52 51 true (Fa 3 4),g 53 51 true (Lq 52),g 54 51 true (Bn .leq 53 16),o 55 (.pick (t 51) (t 54) F),v 6 55])
 (Z [6])) (.skip)) []))) []))) []))) []))
 (S (R [6] [o 6 (.val F)])
 (Z [6]))))),none⟩
def code616:AFunc:=⟨false,false,2,9,[.tmp 4],
 S (R [2,3] [o 2 (.box (t 0)),o 3 (.box (t 1)),o 4 (.val (.const (.nilFunc)))])
 (S (S (R [2,3,6] [o 5 (Lq 3),o 6 (Bn .lss 5 1)])
 (.after (.cond (t 6) (R [2,3] [o 7 (.nextStr F),u (.nextStr F)]) (.skip)) [2,3]))
 (S (R [4] [o 8 (.mkfunc 629 [] [t 2,t 3]),v 4 8])
 (Z [4]))),none⟩
def code618:AFunc:=⟨false,false,3,54,[.tmp 6],
 S (R [0,1,2] [o 6 (.val (n 0))])
 (S (R [0,1,2,7,8] [v 13 0,v 14 1,o 15 (.callg 564 [t 13,t 14]),v 12 15,o 16 (Xt 12 0),o 17 (Xt 12 1),o 7 (.lalloc [.int .i64 0,.int .u32 0,.int .i64 0]),u (.store 3 (t 7) (t 16)),v 8 17])
 (S (.after (.block 0 (S (R [0,1,2,7,8,18] [v 19 8,o 20 (Bn .neq 19 0),v 18 20])
 (.after (.cond (t 18) (S (R [6] [v 21 8,v 6 21])
 (Z [6])) (S (R [0,1,2,7,22] [o 23 (Fa 7 0),o 24 (Lq 23),o 25 (Bn .eql 24 2),v 22 25])
 (.after (.cond (t 22) (S (R [6] [o 6 (.val (n 16))])
 (Z [6])) (S (R [0,1,2,26] [o 27 (Fa 7 0),o 28 (Lq 27),o 29 (Bn .eql 28 1),v 26 29])
 (.after (.cond (t 26) (S (R [0,1,2,9] [v 30 0,v 31 1,o 32 (.callg 611 [t 30,t 31]),v 9 32])
 (S (R [0,1,2,9,34] [v 33 9,o 34 (Bn .neq 33 0)])
 (.after (.cond (t 34) (S (R [6] [v 35 9,v 6 35])
 (Z [6])) (.skip)) [0,1,2]))) (.skip)) [0,1,2]))) [0,1,2]))) [0,1,2]))) [0,1,2])
 (S (R [0,2,10] [v 36 1,v 37 0,o 38 (.callg 573 [t 37]),o 39 (.field (t 38) 1 none),o 40 (Bt .mul 36 39),v 10 40])
 (S (S (R [0,10,11] [v 41 0,v 42 10,v 43 2,o 44 (.callg 630 [t 43]),o 45 (.callg 558 [t 41,t 42,t 44]),v 11 45])
 (S (R [0,10,11,47] [v 46 11,o 47 (Bn .neq 46 0)])
 (.after (.cond (t 47) (S (R [6] [v 48 11,v 6 48])
 (Z [6])) (.skip)) [0,10])))
 (S (R [6] [v 49 0,v 50 10,o 51 (Bn .add 50 8),o 52 (.mkslice 1 1 [.int .u8 0] [(0,1,.const (.int .u8 0))]),o 53 (.callg 558 [t 49,t 51,t 52]),v 6 53])
 (Z [6])))))),none⟩
def code619:AFunc:=⟨false,false,2,10,[.tmp 4],
 S (R [0,1] [o 4 (.val F)])
 (S (R [4] [v 5 0,o 6 (.conv .string (t 5)),v 7 1,o 8 (.conv .string (t 7)),o 9 (Bt .eql 6 8),v 4 9])
 (Z [4])),none⟩
def code620L0:ACode :=
 .live [0,5,9,10,11] (S (R [0,5,9,10,11,12] [o 12 (Bt .lss 11 10)])
 (S (.after (.cond (t 12) (.skip) (.live [0] (.exit 0))) [0,5,9,10,11])
 (S (.after (.block 1 (S (R [0,5,7,9,10,11] [o 13 (.iaddr 1 (t 9) (t 11)),o 14 (Lq 13),v 7 14])
 (R [0,5,9,10,11] [v 15 0,o 16 (.bin .shl (t 15) (.const (.int .u64 8))),v 17 0,o 18 (.bin .shr (t 17) (.const (.int .u64 8))),o 19 (.conv (.int .u8) (t 18)),v 20 7,o 21 (Bt .xor 19 20),o 22 (.aaddr 256 1 (t 5) (t 21)),o 23 (Lq 22),o 24 (Bt .xor 16 23),v 0 24]))) [0,5,9,10,11])
 (R [0,5,9,10,11] [o 25 (Bn .add 11 1),v 11 25]))))
def code620:AFunc:=⟨false,false,2,27,[.tmp 4],
 S (R [0,1] [o 4 (.val (.const (.int .u16 0)))])
 (S (R [0,1,5] [o 8 (.callg 631 []),o 5 (.lalloc (List.replicate 256 (.int .u16 0))),u (.store 256 (t 5) (t 8))])
 (S (S (R [0,5,9,10,11] [v 9 1,o 10 (Sl 9),o 11 (.val (n 0))])
 (.after (.block 0 (.loop code620L0)) [0]))
 (S (R [4] [v 26 0,v 4 26])
 (Z [4])))),none⟩
def code626L0:ACode :=
 .live [0,1,2,3,4,9] (S (R [0,1,2,3,4,9,10] [o 10 (Bn .lss 9 8)])
 (S (.after (.cond (t 10) (.skip) (.live [0,1,2,3,4] (.exit 2))) [0,1,2,3,4,9])
 (S (.after (.block 3 (R [0,1,2,3,4,9] [v 11 3,o 12 (.bin .shr (t 11) (.const (.int .u64 1))),v 13 3,o 14 (.bin .and (t 13) (.const (.int .u32 1))),o 15 (.un .neg (t 14)),o 16 (.bin .and (.const (.int .u32 2197175160)) (t 15)),o 17 (Bt .xor 12 16),v 3 17])) [0,1,2,3,4,9])
 (R [0,1,2,3,4,9] [o 18 (Bn .add 9 1),v 9 18]))))
def code626L1:ACode :=
 .live [0,1,4] (S (R [0,1,4,5] [o 5 (Bn .lss 4 256)])
 (S (.after (.cond (t 5) (.skip) (.live [0,1] (.exit 0))) [0,1,4])
 (S (.after (.block 1 (S (R [0,1,2,4] [v 6 4,v 2 6])
 (S (R [0,1,2,3,4] [v 7 2,o 8 (.conv (.int .u32) (t 7)),v 3 8])
 (S (S (R [0,1,2,3,4,9] [o 9 (.val (n 0))])
 (.after (.block 2 (.loop code626L0)) [0,1,2,3,4]))
 (R [0,1,4] [v 19 2,v 20 3,o 21 (.aaddr 256 1 (t 1) (t 19)),u (.store 1 (t 21) (t 20))]))))) [0,1,4])
 (R [0,1,4] [o 22 (Bn .add 4 1),v 4 22]))))
def code626:AFunc:=⟨false,false,0,24,[.cell 0 (some 256)],
 S (R [0] [o 0 (.lalloc (List.replicate 256 (.int .u32 0)))])
 (S (R [0,1] [o 1 (.lalloc (List.replicate 256 (.int .u32 0)))])
 (S (S (R [0,1,4] [o 4 (.val (n 0))])
 (.after (.block 0 (.loop code626L1)) [0,1]))
 (S (R [0] [o 23 (.load (some 256) (t 1)),u (.store 256 (t 0) (t 23))])
 (Z [0])))),none⟩
def code627:AFunc:=⟨false,false,3,21,[.tmp 5],
 S (R [0,1,2] [o 5 (.val (n 0))])
 (S (.after (.region [⟨true,[],[o 6 (Lq 2),o 7 (.nilcheck (t 6)),o 8 (Fa 7 5),o 9 (Lq 8),v 10 0,o 11 (.ext (.lookup (.one .s) (.agg [.int .i64 0,.int .i64 0,.str []]) false) [t 9,t 10]),o 12 (.field (t 11) 1 none),o 13 (Lq 2),o 14 (.nilcheck (t 13)),o 15 (Fa 14 5),o 16 (Lq 15),v 17 1,o 18 (.ext (.lookup (.one .s) (.agg [.int .i64 0,.int .i64 0,.str []]) false) [t 16,t 17]),o 19 (.field (t 18) 1 none)]⟩,⟨false,[],[o 20 (.callg 638 [t 12,t 19]),v 5 20]⟩]) [5])
 (Z [5])),none⟩
def code628:AFunc:=⟨false,false,2,14,[],
 S (R [0,1,4] [v 5 0,o 6 (Sl 5),v 4 6])
 (R [] [v 7 0,v 8 4,v 9 4,o 10 (.conv (.int .u64) (t 9)),o 11 (.callg 166 [t 10]),v 12 1,o 13 (.callg 637 [t 7,n 0,t 8,t 11,t 12])]),none⟩
def code629L0:ACode :=
 .live [0,1,2,4] (S (S (R [0,1,2,4,9] [v 6 4,o 7 (Lq 1),o 8 (Sl 7),o 9 (Bt .lss 6 8)])
 (.after (.cond (t 9) (.skip) (.live [] (.exit 0))) [0,1,2,4]))
 (S (.after (.block 1 (S (.after (.region [⟨true,[],[o 13 (Lq 2),o 14 (Lq 1),v 15 4,o 16 (.slice (.sl 5) (t 14) (some (t 15)) none none),o 17 (Sl 16)]⟩,⟨false,[],[o 18 (.minmax false [t 13,t 17]),v 5 18]⟩]) [0,1,2,4,5])
 (S (R [0,1,2,4,30] [v 19 0,o 20 (Lq 1),v 21 4,v 22 4,v 23 5,o 24 (Bt .add 22 23),v 25 4,v 26 5,o 27 (Bt .add 25 26),o 28 (.slice (.sl 5) (t 20) (some (t 21)) (some (t 24)) (some (t 27))),o 29 (.call (t 19) [t 28]),o 30 (.un .not (t 29))])
 (.after (.cond (t 30) (Z []) (.skip)) [0,1,2,4])))) [0,1,2,4])
 (R [0,1,2,4] [v 10 4,o 11 (Lq 2),o 12 (Bt .add 10 11),v 4 12])))
def code629:AFunc:=⟨false,false,3,31,[],
 S (R [0,1,2,4] [o 4 (.val (n 0))])
 (.after (.block 0 (.loop code629L0)) []),none⟩
def code630:AFunc:=⟨false,false,1,15,[.tmp 2],
 S (R [0] [o 2 (.val (.const (.slice none 0 (some 0))))])
 (S (R [0,3] [o 5 (.callg 604 []),o 3 (.alloc 1 [.int .u8 0,.int .u8 0]),u (.store 2 (t 3) (t 5))])
 (S (R [4] [o 6 (.slice (.arr 2 1) (t 3) none none none),v 7 0,o 8 (.conv (.int .u64) (t 7)),o 9 (.callg 100385 [t 6,t 8,n 4]),v 4 9])
 (S (R [2] [v 10 4,v 11 4,o 12 (.callg 602 [t 11]),o 13 (.conv (.int .u64) (t 12)),o 14 (.callg 100385 [t 10,t 13,n 2]),v 2 14])
 (Z [2])))),none⟩
def code631L0:ACode :=
 .live [0,1,2,3,4,10] (S (R [0,1,2,3,4,10,11] [o 11 (Bn .lss 10 8)])
 (S (.after (.cond (t 11) (.skip) (.live [0,1,2,3,4] (.exit 2))) [0,1,2,3,4,10])
 (S (.after (.block 3 (R [0,1,2,3,4,10] [v 12 3,o 13 (.bin .shl (t 12) (.const (.int .u64 1))),v 14 3,o 15 (.bin .shr (t 14) (.const (.int .u64 15))),o 16 (.un .neg (t 15)),o 17 (.bin .and (.const (.int .u16 4129)) (t 16)),o 18 (Bt .xor 13 17),v 3 18])) [0,1,2,3,4,10])
 (R [0,1,2,3,4,10] [o 19 (Bn .add 10 1),v 10 19]))))
def code631L1:ACode :=
 .live [0,1,4] (S (R [0,1,4,5] [o 5 (Bn .lss 4 256)])
 (S (.after (.cond (t 5) (.skip) (.live [0,1] (.exit 0))) [0,1,4])
 (S (.after (.block 1 (S (R [0,1,2,4] [v 6 4,v 2 6])
 (S (R [0,1,2,3,4] [v 7 2,o 8 (.conv (.int .u16) (t 7)),o 9 (.bin .shl (t 8) (.const (.int .u64 8))),v 3 9])
 (S (S (R [0,1,2,3,4,10] [o 10 (.val (n 0))])
 (.after (.block 2 (.loop code631L0)) [0,1,2,3,4]))
 (R [0,1,4] [v 20 2,v 21 3,o 22 (.aaddr 256 1 (t 1) (t 20)),u (.store 1 (t 22) (t 21))]))))) [0,1,4])
 (R [0,1,4] [o 23 (Bn .add 4 1),v 4 23]))))
def code631:AFunc:=⟨false,false,0,25,[.cell 0 (some 256)],
 S (R [0] [o 0 (.lalloc (List.replicate 256 (.int .u16 0)))])
 (S (R [0,1] [o 1 (.lalloc (List.replicate 256 (.int .u16 0)))])
 (S (S (R [0,1,4] [o 4 (.val (n 0))])
 (.after (.block 0 (.loop code631L1)) [0,1]))
 (S (R [0] [o 24 (.load (some 256) (t 1)),u (.store 256 (t 0) (t 24))])
 (Z [0])))),none⟩
def code637L0:ACode :=
 .live [0,1,2,3,4,10,11] (.after (.block 1 (S (R [0,1,2,3,4,10,11,12] [v 21 2,v 22 1,o 23 (Bt .sub 21 22),v 12 23])
 (S (S (R [0,1,2,3,4,10,11,12,25] [v 24 12,o 25 (Bn .leq 24 12)])
 (.after (.cond (t 25) (S (R [] [v 26 0,v 27 1,v 28 2,v 29 4,o 30 (.callg 646 [t 26,t 27,t 28,t 29])])
 (Z [])) (.skip)) [0,1,2,3,4,10,11,12]))
 (S (S (R [0,1,2,3,4,10,11,12,32] [v 31 3,o 32 (Bn .eql 31 0)])
 (.after (.cond (t 32) (S (R [] [v 33 0,v 34 1,v 35 2,v 36 4,o 37 (.nextStr F)])
 (Z [])) (.skip)) [0,1,2,3,4,10,11,12]))
 (S (S (R [0,1,2,3,4,10,11,12,39] [v 38 10,o 39 (.un .not (t 38))])
 (.after (.cond (t 39) (S (R [0,1,2,3,4,10,11,12] [v 40 0,v 41 1,v 42 2,v 43 4,o 44 (.nextStr F)])
 (R [0,1,2,3,4,10,11,12] [v 45 3,o 46 (Bn .sub 45 1),v 3 46])) (.skip)) [0,1,2,3,4,10,11,12]))
 (S (R [0,1,2,3,4,10,11,12,13,14] [v 48 0,v 49 1,v 50 2,v 51 4,o 52 (.nextStr F),v 47 52,o 53 (Xt 47 0),o 54 (Xt 47 1),v 13 53,v 14 54])
 (S (S (R [0,1,2,3,4,10,11,12,13,14,56] [v 55 14,o 56 (Bn .eql 55 2)])
 (.after (.cond (t 56) (S (R [0,1,2,3,4,10,11,12,13] [v 57 0,v 58 1,v 59 2,v 60 4,o 61 (.nextStr F)])
 (S (R [0,1,2,3,4,10,11,12,13] [v 62 2,o 63 (Bn .sub 62 1),v 64 13,v 65 1,o 66 (Bt .sub 64 65),o 67 (Bt .sub 63 66),v 13 67])
 (R [0,1,2,3,4,10,11,12,13,14] [o 14 (.val (n 1))]))) (.skip)) [0,1,2,3,4,10,11,12,13,14]))
 (S (S (R [0,1,2,3,4,10,11,12,13,75] [v 68 10,v 69 68,g 70 69 true (Vl 11),o 71 (.pick (t 69) (t 70) F),v 72 71,g 73 72 true (Vl 14),g 74 72 true (Bn .eql 73 1),o 75 (.pick (t 72) (t 74) F)])
 (.after (.cond (t 75) (S (R [0,1,2,3,4,10,11,12,13,80] [v 76 0,v 77 1,v 78 2,v 79 4,o 80 (.nextStr F)])
 (.after (.cond (t 80) (Z []) (.skip)) [0,1,2,3,4,10,11,12,13])) (.skip)) [0,1,2,3,4,10,11,12,13]))
 (S (S (.after (.region [⟨false,[],[v 81 1,o 82 (Bn .gtr 81 0),v 83 82]⟩,⟨true,[],[g 84 83 true (Vl 4),g 85 83 true (Vl 0),g 86 83 true (Vl 1),g 87 83 true (Bn .sub 86 1),g 88 83 true (.iaddr 1 (t 85) (t 87)),g 89 83 true (Lq 88),g 90 83 true (Vl 0),g 91 83 true (Vl 13),g 92 83 true (.iaddr 1 (t 90) (t 91)),g 93 83 true (Lq 92)]⟩,⟨false,[],[g 94 83 true (.call (t 84) [t 89,t 93]),g 95 83 true (Bn .lss 94 0),g 96 83 true (.un .not (t 95)),o 97 (.pick (t 83) (t 96) F)]⟩]) [0,1,2,3,4,10,11,12,13,97])
 (.after (.cond (t 97) (S (R [0,2,3,4,10,11,15] [v 98 0,v 99 1,v 100 2,v 101 13,v 102 4,o 103 (.nextStr F),v 15 103])
 (S (R [0,1,2,3,4,10,11] [v 104 15,v 1 104])
 (.live [0,1,2,3,4,10,11] (.exit 1)))) (.skip)) [0,1,2,3,4,12,13]))
 (S (R [0,1,2,3,4,12,16,17] [v 106 0,v 107 1,v 108 2,v 109 13,v 110 4,o 111 (.nextStr F),v 105 111,o 112 (Xt 105 0),o 113 (Xt 105 1),v 16 112,v 17 113])
 (S (R [0,1,2,3,4,11,12,16] [v 114 17,v 11 114])
 (S (R [0,1,2,3,4,11,12,16,18,19] [v 115 16,v 116 1,o 117 (Bt .sub 115 116),v 118 2,v 119 16,o 120 (Bt .sub 118 119),v 18 117,v 19 120])
 (S (R [0,1,2,3,4,11,16,18,19,20] [v 121 12,o 122 (Bn .quo 121 8),v 20 122])
 (S (R [0,1,2,3,4,11,16,18,19,20,125] [v 123 18,v 124 19,o 125 (Bt .lss 123 124)])
 (.after (.cond (t 125) (S (R [0,1,2,3,4,10,11,16] [v 126 18,v 127 20,o 128 (Bt .geq 126 127),v 10 128])
 (S (R [0,2,3,4,10,11,16] [v 129 0,v 130 1,v 131 16,v 132 3,v 133 4,o 134 (.callg 637 [t 129,t 130,t 131,t 132,t 133])])
 (R [0,1,2,3,4,10,11] [v 135 16,o 136 (Bn .add 135 1),v 1 136]))) (S (R [0,1,2,3,4,10,11,16] [v 137 19,v 138 20,o 139 (Bt .geq 137 138),v 10 139])
 (S (R [0,1,3,4,10,11,16] [v 140 0,v 141 16,o 142 (Bn .add 141 1),v 143 2,v 144 3,v 145 4,o 146 (.callg 637 [t 140,t 142,t 143,t 144,t 145])])
 (R [0,1,2,3,4,10,11] [v 147 16,v 2 147])))) [0,1,2,3,4,10,11]))))))))))))))) [0,1,2,3,4,10,11])
def code637:AFunc:=⟨false,false,5,148,[],
 S (R [0,1,2,3,4,10] [o 10 (.val Y)])
 (S (R [0,1,2,3,4,10,11] [o 11 (.val Y)])
 (.after (.block 0 (.loop code637L0)) [])),none⟩
def code638:AFunc:=⟨false,false,2,20,[.tmp 4],
 S (R [0,1] [o 4 (.val (n 0))])
 (S (R [0,1,5] [v 7 0,o 8 (.callg 217 [t 7]),v 5 8])
 (S (R [0,1,5,6] [v 9 1,o 10 (.callg 217 [t 9]),v 6 10])
 (S (S (R [0,1,6,11] [v 11 5])
 (.after (.cond (t 11) (S (S (R [12] [v 12 6])
 (.after (.cond (t 12) (S (R [4] [o 4 (.val (n 0))])
 (Z [4])) (.skip)) []))
 (S (R [4] [o 4 (.val (.const (.int .i64 (-1))))])
 (Z [4]))) (.skip)) [0,1,6]))
 (S (S (R [0,1,13] [v 13 6])
 (.after (.cond (t 13) (S (R [4] [o 4 (.val (n 1))])
 (Z [4])) (.skip)) [0,1]))
 (S (S (R [0,1,16] [v 14 0,v 15 1,o 16 (Bt .lss 14 15)])
 (.after (.cond (t 16) (S (R [4] [o 4 (.val (.const (.int .i64 (-1))))])
 (Z [4])) (.skip)) [0,1]))
 (S (S (R [19] [v 17 0,v 18 1,o 19 (Bt .gtr 17 18)])
 (.after (.cond (t 19) (S (R [4] [o 4 (.val (n 1))])
 (Z [4])) (.skip)) []))
 (S (R [4] [o 4 (.val (n 0))])
 (Z [4])))))))),none⟩
def code646L0:ACode :=
 .live [0,1,2,3,8,9] (S (S (.after (.region [⟨true,[],[v 18 9,v 19 1]⟩,⟨false,[],[o 20 (Bt .gtr 18 19),v 21 20]⟩,⟨true,[],[g 22 21 true (Vl 3),g 23 21 true (Vl 0),g 24 21 true (Vl 9),g 25 21 true (.iaddr 1 (t 23) (t 24)),g 26 21 true (Lq 25),g 27 21 true (Vl 0),g 28 21 true (Vl 9),g 29 21 true (Bn .sub 28 1),g 30 21 true (.iaddr 1 (t 27) (t 29)),g 31 21 true (Lq 30)]⟩,⟨false,[],[g 32 21 true (.call (t 22) [t 26,t 31]),g 33 21 true (Bn .lss 32 0),o 34 (.pick (t 21) (t 33) F)]⟩]) [0,1,2,3,8,9,34])
 (.after (.cond (t 34) (.skip) (.live [0,1,2,3,8] (.exit 2))) [0,1,2,3,8,9]))
 (S (.after (.block 3 (.after (.region [⟨true,[0,0,0,0,8,0,0,64,224,480,0,0,3072,7168,16355,32739],[v 37 0,v 38 9,v 39 0,v 40 9,o 41 (Bn .sub 40 1),v 42 0,v 43 9,o 44 (Bn .sub 43 1),o 45 (.iaddr 1 (t 42) (t 44)),o 46 (Lq 45),v 47 0,v 48 9,o 49 (.iaddr 1 (t 47) (t 48)),o 50 (Lq 49),o 51 (.iaddr 1 (t 37) (t 38)),u (.ext (.hstore 1) [t 51,t 46])]⟩,⟨false,[],[o 52 (.iaddr 1 (t 39) (t 41)),u (.store 1 (t 52) (t 50))]⟩]) [0,1,2,3,8,9])) [0,1,2,3,8,9])
 (R [0,1,2,3,8,9] [v 35 9,o 36 (Bn .sub 35 1),v 9 36])))
def code646L1:ACode :=
 .live [0,1,2,3,8] (S (S (R [0,1,2,3,8,14] [v 12 8,v 13 2,o 14 (Bt .lss 12 13)])
 (.after (.cond (t 14) (.skip) (.live [] (.exit 0))) [0,1,2,3,8]))
 (S (.after (.block 1 (S (R [0,1,2,3,8,9] [v 17 8,v 9 17])
 (.after (.block 2 (.loop code646L0)) [0,1,2,3,8]))) [0,1,2,3,8])
 (R [0,1,2,3,8] [v 15 8,o 16 (Bn .add 15 1),v 8 16])))
def code646:AFunc:=⟨false,false,4,53,[],
 S (R [0,1,2,3,8] [v 10 1,o 11 (Bn .add 10 1),v 8 11])
 (.after (.block 0 (.loop code646L1)) []),none⟩
def code100385L0:ACode :=
 .live [0,1,2,18,19] (S (R [0,1,2,18,19,20] [o 20 (Bt .lss 19 18)])
 (S (.after (.cond (t 20) (.skip) (.live [0] (.exit 0))) [0,1,2,18,19])
 (S (.after (.block 1 (S (R [0,1,2,7,18,19] [v 21 19,v 7 21])
 (R [0,1,2,18,19] [v 22 0,v 23 1,v 24 2,o 25 (Bn .sub 24 1),v 26 7,o 27 (Bt .sub 25 26),o 28 (.conv (.int .u64) (t 27)),o 29 (.bin .mul (.const (.int .u64 8)) (t 28)),o 30 (Bt .shr 23 29),o 31 (.conv (.int .u8) (t 30)),o 32 (.mkslice 1 1 [.int .u8 0] [(0,1,t 31)]),o 33 (.append 1 1 (t 22) (t 32)),v 0 33]))) [0,1,2,18,19])
 (R [0,1,2,18,19] [o 34 (Bn .add 19 1),v 19 34]))))
def code100385:AFunc:=⟨false,false,3,36,[.tmp 6],
 S (R [0,1,2] [o 6 (.val (.const (.slice none 0 (some 0))))])
 (S (R [0,1,2] [v 8 0,v 9 0,o 10 (Sl 9),v 11 0,o 12 (Sl 11),o 13 (.slice (.sl 1) (t 8) none (some (t 10)) (some (t 12))),v 0 13])
 (S (S (R [0,1,2,16] [v 14 2,o 15 (.callg 411 [t 14]),o 16 (.un .not (t 15))])
 (.after (.cond (t 16) (S (R [6] [v 17 0,v 6 17])
 (Z [6])) (.skip)) [0,1,2]))
 (S (S (R [0,1,2,18,19] [v 18 2,o 19 (.val (n 0))])
 (.after (.block 0 (.loop code100385L0)) [0]))
 (S (R [6] [v 35 0,v 6 35])
 (Z [6]))))),none⟩
def code100465:AFunc:=⟨false,false,1,8,[.tmp 2],
 S (R [0] [o 2 (.val (.const (.slice none 0 (some 0))))])
 (S (S (R [0,4] [v 3 0,o 4 (.eqnil .slice false (t 3) (.const (.slice none 0 (some 0))))])
 (.after (.cond (t 4) (S (R [2] [o 2 (.val (.const (.slice none 0 (some 0))))])
 (Z [2])) (.skip)) [0]))
 (S (R [2] [o 5 (.mkslice 1 0 [] []),v 6 0,o 7 (.append 1 1 (t 5) (t 6)),v 2 7])
 (Z [2]))),none⟩
def code100594:AFunc:=⟨false,false,2,54,[.tmp 4],
 S (R [0,1] [o 4 (.val (n 0))])
 (S (S (R [0,1,5] [v 7 0,o 8 (.nilcheck (t 7)),o 9 (Fa 8 0),o 10 (Lq 9),v 11 1,o 12 (.callg 612 [t 10,t 11]),v 5 12])
 (S (R [0,1,5,14] [v 13 5,o 14 (Bn .neq 13 0)])
 (.after (.cond (t 14) (S (R [4] [v 15 5,v 4 15])
 (Z [4])) (.skip)) [0,1])))
 (S (.after (.region [⟨true,[],[v 16 0,o 17 (.nilcheck (t 16)),o 18 (Fa 17 4),o 19 (Lq 18),v 20 1,v 21 0,o 22 (.nilcheck (t 21)),o 23 (Fa 22 0),o 24 (Lq 23),v 25 1,o 26 (.callg 587 [t 24,t 25]),o 27 (.build [.int .i64 0,.int .u32 0,.int .i64 0] [(0,1,n 1),(2,1,t 26)])]⟩,⟨false,[],[o 28 (.iaddr 3 (t 19) (t 20)),u (.store 3 (t 28) (t 27))]⟩]) [0,1])
 (S (S (R [0,1,6] [v 29 0,o 30 (.nilcheck (t 29)),o 31 (Fa 30 0),o 32 (Lq 31),v 33 1,o 34 (.callg 611 [t 32,t 33]),v 6 34])
 (S (R [0,1,6,35] [v 35 6])
 (.after (.block 0 (S (R [0,1,6,35,37] [o 38 (Bn .eql 35 0),v 37 38])
 (.after (.cond (t 37) (.after (.region [⟨true,[],[v 39 0,o 40 (.nilcheck (t 39)),o 41 (Fa 40 4),o 42 (Lq 41),v 43 1,v 44 0,o 45 (.nilcheck (t 44)),o 46 (Fa 45 0),o 47 (Lq 46),v 48 1,o 49 (.callg 587 [t 47,t 48]),o 50 (.build [.int .i64 0,.int .u32 0,.int .i64 0] [(0,1,n 0),(2,1,t 49)])]⟩,⟨false,[],[o 51 (.iaddr 3 (t 42) (t 43)),u (.store 3 (t 51) (t 50))]⟩]) []) (S (R [6,52] [o 53 (Bn .eql 35 4),v 52 53])
 (.after (.cond (t 52) (.skip) (S (R [4] [v 36 6,v 4 36])
 (Z [4]))) []))) []))) [])))
 (S (R [4] [o 4 (.val (n 0))])
 (Z [4]))))),none⟩
def T:Nat→Option AFunc:=fun g=>List.lookup g [(0,code0),(5,code5),(7,code7),(13,code13),(14,code14),(15,code15),(17,code17),(18,code18),(19,code19),(22,code22),(145,code145),(166,code166),(176,code176),(200,code200),(217,code217),(411,code411),(454,code454),(466,code466),(467,noF),(482,code482),(500,code500),(547,code547),(548,code548),(550,code550),(551,code551),(552,code552),(553,code553),(558,code558),(561,code561),(563,code563),(564,code564),(568,code568),(571,noF),(572,code572),(573,code573),(574,code574),(575,code575),(576,code576),(577,code577),(578,code578),(579,code579),(581,code581),(582,code582),(583,code583),(585,code585),(586,code586),(587,code587),(588,code588),(589,code589),(590,code590),(591,noF),(592,noF),(596,code596),(597,code597),(598,code598),(600,code600),(601,code601),(602,code602),(603,code603),(604,code604),(606,code606),(611,code611),(612,code612),(613,code613),(614,code614),(616,code616),(618,code618),(619,code619),(620,code620),(626,code626),(627,code627),(628,code628),(629,code629),(630,code630),(631,code631),(637,code637),(638,code638),(646,code646),(100385,code100385),(100465,code100465),(100594,code100594)]
theorem t0:T 0=some code0:=rfl
theorem t5:T 5=some code5:=rfl
theorem t7:T 7=some code7:=rfl
theorem t13:T 13=some code13:=rfl
theorem t14:T 14=some code14:=rfl
theorem t15:T 15=some code15:=rfl
theorem t17:T 17=some code17:=rfl
theorem t18:T 18=some code18:=rfl
theorem t19:T 19=some code19:=rfl
theorem t22:T 22=some code22:=rfl
theorem t145:T 145=some code145:=rfl
theorem t166:T 166=some code166:=rfl
theorem t176:T 176=some code176:=rfl
theorem t200:T 200=some code200:=rfl
theorem t217:T 217=some code217:=rfl
theorem t411:T 411=some code411:=rfl
theorem t454:T 454=some code454:=rfl
theorem t466:T 466=some code466:=rfl
theorem t482:T 482=some code482:=rfl
theorem t500:T 500=some code500:=rfl
theorem t547:T 547=some code547:=rfl
theorem t548:T 548=some code548:=rfl
theorem t550:T 550=some code550:=rfl
theorem t551:T 551=some code551:=rfl
theorem t552:T 552=some code552:=rfl
theorem t553:T 553=some code553:=rfl
theorem t558:T 558=some code558:=rfl
theorem t561:T 561=some code561:=rfl
theorem t563:T 563=some code563:=rfl
theorem t564:T 564=some code564:=rfl
theorem t568:T 568=some code568:=rfl
theorem t572:T 572=some code572:=rfl
theorem t573:T 573=some code573:=rfl
theorem t574:T 574=some code574:=rfl
theorem t575:T 575=some code575:=rfl
theorem t576:T 576=some code576:=rfl
theorem t577:T 577=some code577:=rfl
theorem t578:T 578=some code578:=rfl
theorem t579:T 579=some code579:=rfl
theorem t581:T 581=some code581:=rfl
theorem t582:T 582=some code582:=rfl
theorem t583:T 583=some code583:=rfl
theorem t585:T 585=some code585:=rfl
theorem t586:T 586=some code586:=rfl
theorem t587:T 587=some code587:=rfl
theorem t588:T 588=some code588:=rfl
theorem t589:T 589=some code589:=rfl
theorem t590:T 590=some code590:=rfl
theorem t596:T 596=some code596:=rfl
theorem t597:T 597=some code597:=rfl
theorem t598:T 598=some code598:=rfl
theorem t600:T 600=some code600:=rfl
theorem t601:T 601=some code601:=rfl
theorem t602:T 602=some code602:=rfl
theorem t603:T 603=some code603:=rfl
theorem t604:T 604=some code604:=rfl
theorem t606:T 606=some code606:=rfl
theorem t611:T 611=some code611:=rfl
theorem t612:T 612=some code612:=rfl
theorem t613:T 613=some code613:=rfl
theorem t614:T 614=some code614:=rfl
theorem t616:T 616=some code616:=rfl
theorem t618:T 618=some code618:=rfl
theorem t619:T 619=some code619:=rfl
theorem t620:T 620=some code620:=rfl
theorem t626:T 626=some code626:=rfl
theorem t627:T 627=some code627:=rfl
theorem t628:T 628=some code628:=rfl
theorem t629:T 629=some code629:=rfl
theorem t630:T 630=some code630:=rfl
theorem t631:T 631=some code631:=rfl
theorem t637:T 637=some code637:=rfl
theorem t638:T 638=some code638:=rfl
theorem t646:T 646=some code646:=rfl
theorem t100385:T 100385=some code100385:=rfl
theorem t100465:T 100465=some code100465:=rfl
theorem t100594:T 100594=some code100594:=rfl
end Go.Abs.AbsBlb

namespace Go.Abs.AbsBlb
open Go.Abs.Short
abbrev Bs:=List UInt8
def u8V (x:UInt8):AVal:=.int .u8 x.toNat
def natV (x:Nat):AVal:=.int .i64 x
theorem ke {A:List AObj} {i:Nat} {x y:AObj} (h:A[i]? = some x):(A.set i y)[i]? = some y:=bj (ah h)
theorem iy {α:Type} {L:List α} {i:Nat} {x:α} (h:L[i]? = some x):L.drop i=x :: L.drop (i+1):=by have j:=ah h;rw [ai j] at h;rw [vh j,ce h]
theorem ml:∀ L:Bs,AVal.idsL (L.map u8V)=[]
 | []=>rfl
 | a :: L=>by simp only [bi,AVal.idsL,u8V,AVal.ids,dw,ml L]
theorem ov (f:Nat→Nat):∀ L:Bs,AVal.renL f (L.map u8V)=L.map u8V
 | []=>rfl
 | a :: L=>by simp only [bi,AVal.renL,u8V,AVal.ren,ov f L]
theorem wj (e:Nat) (cs:List AVal):(AObj.cells e cs).ids=AVal.idsL cs:=rfl
theorem mw {O P:List AObj} {b w e q n:Nat} {cs:List AVal} {c:Option Nat} {W:Nat} (G:P[q]? = some (.cells e cs)) (C:AVal.idsL cs=[]) (J:∀ g,AVal.renL g cs=cs) (h1:O.length≤q) (K:O.length≤W) :
  dj ⟨O,b,w⟩ (.slice (some (q,0)) n c) ⟨P,b,W⟩=(.slice (some (O.length,0)) n c,⟨O++[.cells e cs],b,w⟩):=by
 have L:AVal.under (⟨O,b,w⟩:Heap).size (.slice (some (q,0)) n c)=false:=by
  have:¬ q < O.length:=by omega
  simp [AVal.under,Heap.size,this]
 have y:(⟨P,b,W⟩:Heap).get q=some (.cells e cs):=G
 have p:reach ⟨P,b,W⟩ (⟨O,b,w⟩:Heap).size 1000 (AVal.slice (some (q,0)) n c).ids []=[q]:=by simp only [AVal.ids];rw [reach,if_neg (by show ¬ q < O.length; omega),if_neg (by simp),y];simp only [b8,ed,AObj.ids,C,dw];rfl
 refine (zp (show (⟨O,b,w⟩:Heap).size≤(⟨P,b,W⟩:Heap).wmin from K) L p fun j D=>?_).trans ?_
 ·simp only [AVal.ids,d0,List.flatMap_nil,y,b8,ed,AObj.ids,C,gt,cj,List.not_mem_nil,or_false] at D;subst D;exact .inr (dp _)
 ·have key:∀ g:Nat→Nat,g q=O.length→((AVal.slice (some (q,0)) n c).ren g,(⟨O++[AObj.cells e cs],b,w⟩:Heap))=(.slice (some (O.length,0)) n c,⟨O++[.cells e cs],b,w⟩):=fun g B=>by simp only [AVal.ren,B]
  simp only [Heap.size,bi,List.map_nil,y,b8,ed,AObj.ren,J];exact key _ ((if_neg (show ¬ q < O.length by omega)).trans (by simp [idxIn]))
structure Fl where
 n:Nat
 z:Nat
 lim:Nat
 b:Bs
 w:List Nat
def Fl.cells (F:Fl) (fb fw:Nat) (cb cw:Option Nat):List AVal:=[.int .i64 F.n,.int .i64 F.z,.int .i64 F.lim,.slice (some (fb,0)) F.b.length cb,.slice (some (fw,0)) F.w.length cw,.bool false,.int .i64 (-1),.int .i64 0,.int .u8 0]
structure FI where
 fl:Nat
 fb:Nat
 fw:Nat
 cb:Option Nat
 cw:Option Nat
structure FlA (H:List AObj) (I:FI) (F:Fl):Prop where
 f:H[I.fl]? = some (.cells 9 (F.cells I.fb I.fw I.cb I.cw))
 b:H[I.fb]? = some (.cells 1 (F.b.map u8V))
 w:H[I.fw]? = some (.cells 1 (F.w.map natV))
 bl:F.b.length=F.n*F.z
 wl:F.w.length=F.n
 nb:F.n≤64∧F.z≤65536
 lb:F.lim≤1048576
 wb:∀ x ∈ F.w,x≤1048576
 ne:I.fb≠I.fw
 cbo:∀ c,I.cb=some c→c=F.b.length
 cwo:∀ c,I.cw=some c→c=F.w.length
section
variable {H:List AObj} {b w:Nat} {I:FI} {F:Fl}
theorem FlA.nes (h:FlA H I F):I.fl≠I.fb∧I.fl≠I.fw:=by
 refine ⟨fun e=>?_,fun e=>?_⟩
 ·have:=h.f; rw [e,h.b] at this; cases this
 ·have:=h.f; rw [e,h.w] at this; cases this
theorem FlA.total (h:FlA H I F):F.b.length≤4194304:=by
 rw [h.bl];obtain ⟨h1,h2⟩:=h.nb
 calc F.n*F.z≤64*65536:=Nat.mul_le_mul h1 h2
  _=4194304:=rfl
theorem FlA.keep {H':List AObj} (h:FlA H I F) (j:∀ (i:Nat) (o:AObj),H[i]? = some o→(i=I.fl∨i=I.fb∨i=I.fw)→H'[i]? = some o):FlA H' I F :=
 ⟨j _ _ h.f (.inl rfl),j _ _ h.b (.inr (.inl rfl)),j _ _ h.w (.inr (.inr rfl)),h.bl,h.wl,h.nb,h.lb,h.wb,h.ne,h.cbo,h.cwo⟩
section
attribute [-simp] getElem?_pos getElem?_neg List.all_eq_true
attribute [local simp] qZ qS nltT nltF iltT iltF ileT nleT di
theorem s568 {x lo hi:Int}:xCall T 568 [.int .i64 x,.int .i64 lo,.int .i64 hi] ⟨H,b,w⟩=some (.bool (decide (lo≤x) && decide (x≤hi)),⟨H,b,w⟩):=by
 by_cases h1:lo≤x
 ·by_cases h2:x≤hi
  ·simp (disch:=omega) [bg t568,code568,h1,h2]
  ·simp (disch:=omega) [bg t568,code568,h1,h2]
 ·simp (disch:=omega) [bg t568,code568,h1]
theorem s573 (h:FlA H I F):xCall T 573 [.ptr (some (I.fl,0))] ⟨H,b,w⟩=some (.agg [.int .i64 F.n,.int .i64 F.z,.int .i64 F.lim],⟨H,b,w⟩):=by have j:=h.f;unfold Fl.cells at j;simp (disch:=omega) [bg t573,code573,j]
theorem s587 (h:FlA H I F) {i x:Nat} (hx:F.w[i]? = some x):xCall T 587 [.ptr (some (I.fl,0)),.int .i64 i] ⟨H,b,w⟩=some (.int .i64 x,⟨H,b,w⟩):=by
 have q:=h.f;unfold Fl.cells at q;have hw:=h.w;have C:=ah hx;have j:=h.wl;have J:=h.nb.1;have p:=fun (x lo hi:Int) w=>s568 (H:=H) (b:=b) (w:=w) (x:=x) (lo:=lo) (hi:=hi)
 have y:(F.w.map natV)[i]? = some (.int .i64 x):=by rw [bp,hx]; rfl
 have B:(F.w.map natV).length=F.n:=by rw [a7]; exact j
 have D:((0:Int)≤i):=by omega
 have G:((i:Int)≤(F.n:Int) - 1):=by omega
 generalize F.w.map natV=Y at hw y B;simp (disch:=omega) [bg t587,code587,q,hw,y,B,j,p,D,G]
end
def spanA (fb a n:Nat):AVal:=.slice (some (fb,if n=0 then 0 else a)) n (some n)
section
attribute [-simp] getElem?_pos getElem?_neg List.all_eq_true
attribute [local simp] qZ qS nltT nltF iltT iltF ileT nleT di
theorem s583 (h:FlA H I F) {a n:Nat} (ha:a≤1000000000) (J:n≤1000000000):xCall T 583 [.ptr (some (I.fl,0)),.int .i64 a,.int .i64 n] ⟨H,b,w⟩ =
  some (if a+n≤F.b.length then .tuple [spanA I.fb a n,.int .i64 0] else .tuple [.slice none 0 (some 0),.int .i64 2],⟨H,b,w⟩):=by
 have j:=h.f;unfold Fl.cells at j;have hb:=h.b;have K:=h.total
 have q:∀ w,eszIs ⟨H,b,w⟩ I.fb 1=true:=fun w=>by unfold eszIs Heap.get;simp only [hb]; rfl
 by_cases c:a+n≤F.b.length
 ·have c1:¬ ((F.b.length:Int) < a):=by omega
  have c2:¬ ((F.b.length:Int) - a < n):=by omega
  rw [if_pos c]
  have p:I.cb.getD F.b.length=F.b.length:=by
   cases hc:I.cb with
   | none=>rfl
   | some x=>rw [ed]; exact h.cbo x hc
  have y:(a:Int)+n≤F.b.length:=by omega
  have B:((a:Int)+n).toNat=a+n:=by omega
  have C:a+n - a=n:=by omega
  have D:(a+n=a)=(n=0):=by simp
  have G:=ah hb;simp (disch:=omega) [bg t583,code583,j,c1,c2,spanA,hb,p,y,B,C,D]
 ·rw [if_neg c];by_cases c1:(F.b.length:Int) < a
  ·simp (disch:=omega) [bg t583,code583,j,c1]
  ·have c2:(F.b.length:Int) - a < n:=by omega
   simp (disch:=omega) [bg t583,code583,j,c1,c2]
theorem s100465 {p o n:Nat} {c:Option Nat} {X:List AVal} {L:Bs} (D:H[p]? = some (.cells 1 X)) (G:(X.drop o).take n=L.map u8V) (U:L.length=n) (V:0 < n) (hb:n≤1000000000) :
  xCall T 100465 [.slice (some (p,o)) n c] ⟨H,b,w⟩=some (.slice (some (H.length,0)) n none,⟨H++[.cells 1 (L.map u8V)],b,w⟩):=by
 have y:=ah D
 have B:o+n≤X.length:=by have:=congrArg List.length G;rw [db,gh,a7] at this;omega
 have j:∀ Y w,il 1 ⟨H++Y,b,w⟩ (.slice (some (p,o)) n c)=some (L.map u8V):=fun Y w=>by
  unfold il;simp only [Heap.get];rw [ag y,D];have C:¬ n=0:=by omega
  have q1:(1=1∧o+n*1≤X.length):=⟨rfl,by omega⟩;simp only [C,if_false,Nat.mul_one];rw [if_pos (by simpa using B),G]
 have J:∀ Y w,il 1 ⟨H++Y,b,w⟩ (.slice (some (H.length,0)) 0 (some 0))=some []:=fun Y w=>zb0
 have K:∀ w,d7 1 1 ⟨H++[.cells 1 []],b,w⟩ (.slice (some (H.length,0)) 0 (some 0)) (.slice (some (p,o)) n c)=some (.slice (some (H.length+1,0)) n none,⟨H++[.cells 1 [],.cells 1 (L.map u8V)],b,w⟩):=fun w=>by
  unfold d7;simp only [J,j,aApp,alen];have C:¬ n=0:=by omega
  have N:(0+n)*1≤140737488355328∧0+n≤9223372036854775807:=⟨by omega,by omega⟩;simp only [eq_false C,eq_true N,if_false,if_true];simp [Heap.push,Heap.size]
 have Q:=fun w0=>mw (O:=H) (P:=H++[.cells 1 [],.cells 1 (L.map u8V)]) (b:=b) (w:=w0) (W:=H.length) (q:=H.length+1) (n:=n) (c:=none) (jv H _ 1) (ml L) (fun g=>ov g L) (by omega) (aj _)
 simp (disch:=omega) [bg t100465,code100465,-d7,-dj,K,Q]
theorem s588 (h:FlA H I F) {a n:Nat} (ha:a≤1000000000) (J:0 < n) (C:n≤1000000000) (D:a+n≤F.b.length):xCall T 588 [.ptr (some (I.fl,0)),.int .i64 a,.int .i64 n] ⟨H,b,w⟩ =
  some (.tuple [.slice (some (H.length,0)) n none,.int .i64 0],⟨H++[.cells 1 (((F.b.drop a).take n).map u8V)],b,w⟩):=by
 have p:=fun w=>s583 (b:=b) (w:=w) h ha C
 rw [if_pos D] at p;have G:¬ n=0:=by omega
 unfold spanA at p;rw [if_neg G] at p;have j:=fun w=>s100465 (b:=b) (w:=w) (n:=n) (c:=some n) (L:=(F.b.drop a).take n) h.b (by rw [← List.map_drop,← List.map_take]) (by rw [db,gh]; omega) J C
 have K:=fun w0=>mw (O:=H) (P:=H++[.cells 1 (((F.b.drop a).take n).map u8V)]) (b:=b) (w:=w0) (W:=H.length) (q:=H.length) (n:=n) (c:=none) (gc H _) (ml _) (fun g=>ov g _) (aj _) (aj _)
 have y:AVal.idsL (((F.b.drop a).take n).map u8V)=[]:=ml _;have B:∀ g,AVal.renL g (((F.b.drop a).take n).map u8V)=((F.b.drop a).take n).map u8V:=fun g=>ov g _
 generalize ((F.b.drop a).take n).map u8V=Y at j y B ⊢;simp (disch:=omega) [bg t588,code588,p,j,jz,j9,y,B,wj]
theorem s582 (h:FlA H I F) {n:Nat}:xCall T 582 [.ptr (some (I.fl,0)),.int .i64 n] ⟨H,b,w⟩=some (.tuple [.int .i64 n,.bool false],⟨H,b,w⟩):=by have j:=h.f;unfold Fl.cells at j;simp (disch:=omega) [bg t582,code582,j]
end
theorem ofInt_u8 (x:UInt8):BitVec.ofInt 8 (x.toNat:Int)=x.toBitVec:=by apply BitVec.eq_of_toNat_eq;rw [BitVec.toNat_ofInt];have:=x.toBitVec.isLt;show ((x.toNat:Int) % (2 ^ 8:Nat)).toNat=x.toNat;have h2:x.toNat < 256:=x.toNat_lt;omega
theorem wrap_u8 (x:UInt8):IntKind.u8.wrap (x.toNat:Int)=x.toNat:=by have h2:x.toNat < 256:=x.toNat_lt;unfold IntKind.wrap;show (if (false && _)=true then _ else ((x.toNat:Int) % 2 ^ 8))=_;simp;omega
theorem andNot_u8 (x y:UInt8):aBits .andNot .u8 x.toNat y.toNat=some (.int .u8 (x &&& ~~~y).toNat):=by
 unfold aBits;simp only
 have:(BitVec.ofInt (IntKind.u8).bits (x.toNat:Int) &&& ~~~(BitVec.ofInt (IntKind.u8).bits (y.toNat:Int))).toNat=(x &&& ~~~y).toNat:=by
  show (BitVec.ofInt 8 (x.toNat:Int) &&& ~~~(BitVec.ofInt 8 (y.toNat:Int))).toNat=_
  rw [ofInt_u8,ofInt_u8]; rfl
 rw [this,wrap_u8]
theorem u8_zero (x:UInt8):((x.toNat:Int)=0)=(x=0):=by
 apply propext;constructor
 ·intro h;have h1:x.toNat=0:=by omega
  exact UInt8.toNat_inj.1 h1
 ·rintro rfl; rfl
def bitsOk (l own:Bs):Bool:=(l.zip own).all fun p=>decide (p.1 &&& ~~~p.2=0)
section
attribute [-simp] getElem?_pos getElem?_neg List.all_eq_true
attribute [local simp] qZ qS nltT nltF iltT iltF ileT nleT di
theorem l558 (h:FlA H I F) {p o n a:Nat} {c:Option Nat} {X:List AVal} {l:Bs} (K:H[p]? = some (.cells 1 X)) (hX:(X.drop o).take n=l.map u8V) (hl:l.length=n) (hn:0 < n) (hb:n≤1000000000) (L:a+n≤F.b.length):∀ (j i w:Nat),i+j=n→∀ {β:Type} (k:AExit→St→Option β),
  xK T (.loop code558L0) ⟨[(0,.val (.ptr (some (I.fl,0)))),(2,.val (.slice (some (p,o)) n c)),(7,.val (spanA I.fb a n)),(24,.val (.slice (some (p,o)) n c)),(25,.val (.int .i64 n)),(26,.val (.int .i64 i))],⟨H,b,w⟩⟩ (k:=⟨k⟩) =
   if bitsOk (l.drop i) ((F.b.drop a).drop i) then k (.exit 0) ⟨[(0,.val (.ptr (some (I.fl,0)))),(2,.val (.slice (some (p,o)) n c)),(7,.val (spanA I.fb a n))],⟨H,b,w⟩⟩ else k .ret ⟨[(6,.val (.int .i64 3))],⟨H,b,w⟩⟩
 | 0,i,w,hi,β,k=>by have hd:l.drop i=[]:=dk (by omega);rw [hd,b9];simp only [bitsOk,List.zip_nil_left,List.all_nil,if_true];simp (disch:=omega) [code558L0]
 | j+1,i,w,hi,β,k=>by
  have q:=h.b;obtain ⟨x,hx⟩:∃ x,l[i]? = some x:=⟨_,ai (by omega)⟩;obtain ⟨y,hy⟩:∃ y,F.b[a+i]? = some y:=⟨_,ai (by omega)⟩
  have N:X[o+i]? = some (.int .u8 x.toNat):=by
   have h1:((X.drop o).take n)[i]? = some (u8V x):=by rw [hX,bp,hx]; rfl
   rw [eo,if_pos (by omega),dt] at h1;exact h1
  have Q:(F.b.map u8V)[a+i]? = some (.int .u8 y.toNat):=by rw [bp,hy]; rfl
  have B:=ah N;have C:=ah Q;have e2:((i+1:Nat):Int)=(i:Int)+1:=by omega
  have D:=l558 (c:=c) h K hX hl hn hb L j (i+1) w (by omega) k;rw [e2] at D;have U:(F.b.drop a)[i]? = some y:=by rw [dt]; exact hy
  have V:bitsOk (l.drop i) ((F.b.drop a).drop i)=(decide (x &&& ~~~y=0) && bitsOk (l.drop (i+1)) ((F.b.drop a).drop (i+1))):=by rw [iy hx,iy U]; rfl
  rw [V,b9];have W:¬ n=0:=by omega
  unfold spanA at D ⊢;rw [if_neg W] at D ⊢;generalize ACode.loop code558L0=LL at D ⊢;generalize F.b.map u8V=Y at *;have hz:=u8_zero (x &&& ~~~y);by_cases hc:x &&& ~~~y=0
  ·rw [hc] at hz;have J:aBits .andNot .u8 x.toNat y.toNat=some (.int .u8 0):=by rw [andNot_u8,hc]; rfl
   simp only [hc,decide_true,wc];rw [← D];simp (disch:=omega) [code558L0,q,K,N,Q,B,C,J]
  ·have J:¬ (((x &&& ~~~y).toNat:Int)=0):=by rw [hz]; exact hc
   have G:=andNot_u8 x y;generalize ((x &&& ~~~y).toNat:Int)=zz at J G;simp only [hc,decide_false,Bool.false_and];simp (disch:=omega) [code558L0,q,K,N,Q,B,C,G,J]
end
end
end Go.Abs.AbsBlb

namespace Go.Abs.AbsBlb
open Go.Abs.Short
def spliceB (b:Bs) (a:Nat) (l:Bs):Bs:=b.take a++l++b.drop (a+l.length)
theorem tk (b:Bs) (a:Nat) (l:Bs):(spliceB b a l).map u8V=(b.map u8V).take a++l.map u8V++(b.map u8V).drop (a+l.length):=by unfold spliceB;rw [ku,ku,List.map_take,List.map_drop]
section
variable {H:List AObj} {b w:Nat} {I:FI} {F:Fl}
section
attribute [-simp] getElem?_pos getElem?_neg List.all_eq_true
attribute [local simp] qZ qS nltT nltF iltT iltF ileT nleT di
theorem s558 (h:FlA H I F) {p o n a:Nat} {c:Option Nat} {X:List AVal} {l:Bs} (J:H[p]? = some (.cells 1 X)) (K:(X.drop o).take n=l.map u8V) (N:l.length=n) (Q:0 < n) (hb:n≤1000000000) (ha:a≤1000000000) (U:b≤I.fb) (hc:n≤c.getD n) :
  xCall T 558 [.ptr (some (I.fl,0)),.int .i64 a,.slice (some (p,o)) n c] ⟨H,b,w⟩ =
   some (if a+n≤F.b.length then if bitsOk l (F.b.drop a) then (.int .i64 0,⟨H.set I.fb (.cells 1 ((spliceB F.b a l).map u8V)),b,min w I.fb⟩) else (.int .i64 3,⟨H,b,w⟩) else (.int .i64 2,⟨H,b,w⟩)):=by
 have j:=fun w=>s583 (b:=b) (w:=w) h ha hb
 by_cases y:a+n≤F.b.length
 ·rw [if_pos y] at j ⊢;have q:=fun {β:Type} w (k:AExit→St→Option β)=>l558 (b:=b) (c:=c) h J K N Q hb y n 0 w (by omega) k
  simp only [bf,ff] at q;have C:=fun w=>s582 (b:=b) (w:=w) (n:=n) h
  by_cases D:bitsOk l (F.b.drop a)=true
  ·simp only [eq_true D,if_true] at q ⊢;have G:=h.b;have V:=ah J;have W:=ah G;have B:¬ n=0:=by omega
   have L:rowK 1 ⟨H,b,H.length⟩ n (.slice (some (p,o)) n c)=some (l.map u8V):=by
    unfold rowK il;simp only [Heap.get,J,B,if_false,Nat.mul_one,aj,if_true]
    have:o+n≤X.length:=by have:=congrArg List.length K;rw [db,gh,a7] at this;omega
    simp [this,K]
   unfold spanA at q j;rw [if_neg B] at q j;simp (disch:=omega) [bg t558,code558,j,q,C,J,hc,L,G,B,N,tk,splice]
  ·simp only [eq_false D,if_false] at q ⊢;simp (disch:=omega) [bg t558,code558,j,q]
 ·rw [if_neg y] at j ⊢;simp (disch:=omega) [bg t558,code558,j]
end
theorem splice_step {B:Bs} {a i n:Nat} (hi:i < n) (h:a+n≤B.length):(spliceB B a (List.replicate i 255)).set (a+i) 255=spliceB B a (List.replicate (i+1) 255):=by
 unfold spliceB;have h1:(B.take a++List.replicate i (255:UInt8)).length=a+i:=by rw [au,db,bq]; omega
 rw [List.set_append_right _ _ (by omega),h1,qh,bq,bq,vh (show a+i < B.length by omega),List.set_cons_zero,List.replicate_succ'];simp [ba]; rfl
theorem gw {B:Bs} {a:Nat} {l:Bs} (h:a+l.length≤B.length):(spliceB B a l).length=B.length:=by unfold spliceB;rw [au,au,db,gh]; omega
theorem np {A:List AObj} {i:Nat} {x:AObj} (h:A[i]? = some x):A.set i x=A:=by
 apply jj;intro j;by_cases c:i=j
 ·subst c;rw [ke h,h]
 ·rw [aq c]
theorem lh {L:List AVal} {i:Nat} (x:AVal) (h:i < L.length):L.take i++x :: L.drop (i+1)=L.set i x:=by rw [List.set_eq_take_append_cons_drop,if_pos h]
section
attribute [-simp] getElem?_pos getElem?_neg List.all_eq_true
attribute [local simp] qZ qS nltT nltF iltT iltF ileT nleT di
theorem l611 {fl fb a n:Nat} {B:Bs} {ca:Option Nat} {y:AVal} (K:H[fb]? = some (.cells 1 (B.map u8V))) (q:a+n≤B.length) (hb:b≤fb) (D:B.length≤1000000000):∀ (j i w:Nat),i+j=n→∀ {β:Type} (k:AExit→St→Option β),
  xK T (.loop code611L0) ⟨[(0,.val (.ptr (some (fl,0)))),(5,.val (.slice (some (fb,a)) n ca)),(6,.val (.int .i64 n)),(7,.val y),(79,.val (.int .i64 n)),(80,.val (.int .i64 i))],⟨H.set fb (.cells 1 ((spliceB B a (List.replicate i 255)).map u8V)),b,w⟩⟩ (k:=⟨k⟩) =
   k (.exit 1) ⟨[(0,.val (.ptr (some (fl,0)))),(5,.val (.slice (some (fb,a)) n ca)),(6,.val (.int .i64 n)),(7,.val y)],⟨H.set fb (.cells 1 ((spliceB B a (List.replicate n 255)).map u8V)),b,if j=0 then w else min w fb⟩⟩
 | 0,i,w,hi,β,k=>by
  obtain rfl:i=n:=by omega
  rw [b9,if_pos rfl];simp (disch:=omega) [code611L0]
 | j+1,i,w,hi,β,k=>by
  have N:=ah K;have L:=l611 (fl:=fl) (ca:=ca) (y:=y) K q hb D j (i+1) (min w fb) (by omega) k;have Q:((i+1:Nat):Int)=(i:Int)+1:=by omega
  have U:(if j=0 then min w fb else min (min w fb) fb)=min w fb:=by split <;> omega
  rw [Q,U] at L;rw [if_neg (by omega),b9,← L];generalize ACode.loop code611L0=LL;have G:=splice_step (B:=B) (a:=a) (i:=i) (n:=n) (by omega) q;have J:(spliceB B a (List.replicate i 255)).length=B.length:=gw (by rw [bq]; omega)
  have p:((spliceB B a (List.replicate i 255)).map u8V).set (a+i) (.int .u8 255)=(spliceB B a (List.replicate (i+1) 255)).map u8V:=by rw [← G,List.map_set]; rfl
  have C:((spliceB B a (List.replicate i 255)).map u8V).length=B.length:=by rw [a7]; exact J
  rw [← lh _ (by omega)] at p;generalize (spliceB B a (List.replicate i 255)).map u8V=Y at p C;simp (disch:=omega) [code611L0,C,p]
end
def eraseB (F:Fl) (i:Nat):Bs:=spliceB F.b (i*F.z) (List.replicate F.z 255)
section
attribute [-simp] getElem?_pos getElem?_neg List.all_eq_true
attribute [local simp] qZ qS nltT nltF iltT iltF ileT nleT di
theorem s611 (h:FlA H I F) {i x:Nat} (hx:F.w[i]? = some x) (hz:0 < F.z) (aa:b≤I.fb∧b≤I.fw):xCall T 611 [.ptr (some (I.fl,0)),.int .i64 i] ⟨H,b,w⟩ =
  some (if F.lim≤x then (.int .i64 4,⟨H,b,w⟩) else (.int .i64 0,⟨(H.set I.fw (.cells 1 ((F.w.set i (x+1)).map natV))).set I.fb (.cells 1 ((eraseB F i).map u8V)),b,min w (min I.fw I.fb)⟩)):=by
 have J:=h.f;unfold Fl.cells at J;have hw:=h.w;have N:=h.b;have b7:=ah hx;have B:=h.wl;have hn:=h.nb.1;have bb:=h.nb.2;have ac:=h.lb;have bm:=h.wb x (br hx);have ht:=h.total;have Q:=h.bl;have U:=h.ne;have C:=fun (x lo hi:Int) w=>s568 (H:=H) (b:=b) (w:=w) (x:=x) (lo:=lo) (hi:=hi)
 have V:(F.w.map natV)[i]? = some (.int .i64 x):=by rw [bp,hx]; rfl
 have W:(F.w.map natV).length=F.n:=by rw [a7]; exact B
 have q1:((0:Int)≤i):=by omega
 have q2:((i:Int)≤(F.n:Int) - 1):=by omega
 have ay:=ah J;have b5:=ah N;have b6:=ah hw
 have ad:i*F.z+F.z≤F.b.length:=by
  rw [Q]
  calc i*F.z+F.z=(i+1)*F.z:=by rw [Nat.succ_mul]
   _≤F.n*F.z:=ge _ (by omega)
 have D:(F.w.map natV).set i (.int .i64 ((x:Int)+1))=(F.w.set i (x+1)).map natV:=by rw [List.map_set]; rfl
 rw [← lh _ (by omega)] at D;by_cases hc:F.lim≤x
 ·rw [if_pos hc];generalize F.w.map natV=Y at hw V W D;simp (disch:=omega) [bg t611,code611,J,hw,V,W,B,C,q1,q2,hc]
 ·rw [if_neg hc];have p:(H.set I.fw (.cells 1 ((F.w.set i (x+1)).map natV)))[I.fl]? = H[I.fl]?:=aq (fun e=>h.nes.2 e.symm);have j:(H.set I.fw (.cells 1 ((F.w.set i (x+1)).map natV)))[I.fb]? = some (.cells 1 (F.b.map u8V)):=by rw [aq (fun e=>U e.symm)]; exact N
  have X:I.cb.getD F.b.length=F.b.length:=by
   cases hc:I.cb with
   | none=>rfl
   | some x=>rw [ed]; exact h.cbo x hc
  have A1:FlA (H.set I.fw (.cells 1 ((F.w.set i (x+1)).map natV))) I { F with w:=F.w.set i (x+1) }:=by
   refine ⟨?_,j,ke hw,Q,by rw [az]; exact B,h.nb,ac,?_,U,h.cbo,fun c hc=>by rw [az]; exact h.cwo c hc⟩
   ·rw [p,h.f];unfold Fl.cells;simp only [az]
   ·intro y hy;rcases List.mem_or_eq_of_mem_set hy with h1 | h1
    ·exact h.wb y h1
    ·omega
  have K:=fun w n=>s582 (b:=b) (w:=w) (n:=n) A1
  rw [J] at p;generalize F.w.map natV=Y at hw V W D;generalize (F.w.set i (x+1)).map natV=Y' at *;have G:=fun {β:Type} (ca:Option Nat) (y:AVal) w (k:AExit→St→Option β)=>l611 (b:=b) (H:=H.set I.fw (.cells 1 Y')) (fl:=I.fl) (ca:=ca) (y:=y) j ad aa.1 (by omega) F.z 0 w (by omega) k
  have al:spliceB F.b (i*F.z) (List.replicate 0 255)=F.b:=by unfold spliceB; simp
  rw [al] at G;have an:(H.set I.fw (.cells 1 Y')).set I.fb (.cells 1 (F.b.map u8V))=H.set I.fw (.cells 1 Y'):=np j;rw [an] at G;simp only [bf] at G;have a0:(i:Int)*(F.z:Int)=((i*F.z:Nat):Int):=(Int.natCast_mul i F.z).symm;unfold eraseB;have a6:¬ F.z=0:=by omega
  generalize i*F.z=q at *;cases L:I.cb with
  | none =>
   rw [L] at J p;simp (disch:=omega) [bg t611,code611,J,hw,V,W,B,C,q1,q2,hc,D,p,j,K,G,X,a6,a0]
  | some cc =>
   obtain rfl:=h.cbo _ L;rw [L] at J p;have ao:¬ F.b.length=q:=by omega
   have ax:F.z≤F.b.length - q:=by omega
   simp (disch:=omega) [bg t611,code611,J,hw,V,W,B,C,q1,q2,hc,D,p,j,K,G,X,a6,a0,ao,ax]
end
end
end Go.Abs.AbsBlb

namespace Go.Abs.AbsBlb
open Go.Abs.Short
section
variable {H:List AObj} {b w:Nat}
def xorI (k:IntKind) (x y:Int):Int:=k.wrap (BitVec.ofInt k.bits x ^^^ BitVec.ofInt k.bits y).toNat
def andI (k:IntKind) (x y:Int):Int:=k.wrap (BitVec.ofInt k.bits x &&& BitVec.ofInt k.bits y).toNat
def orI (k:IntKind) (x y:Int):Int:=k.wrap (BitVec.ofInt k.bits x ||| BitVec.ofInt k.bits y).toNat
theorem qw (k:IntKind) (x y:Int):aBits .xor k x y=some (.int k (xorI k x y)):=rfl
theorem xw (k:IntKind) (x y:Int):aBits .and k x y=some (.int k (andI k x y)):=rfl
theorem aBits_or (k:IntKind) (x y:Int):aBits .or k x y=some (.int k (orI k x y)):=rfl
def step16 (s:Int):Int:=xorI .u16 (IntKind.u16.wrap (s*2 ^ min 1 IntKind.u16.bits)) (andI .u16 4129 (IntKind.u16.wrap (-s.fdiv (2 ^ min 15 IntKind.u16.bits))))
def step32 (s:Int):Int:=xorI .u32 (s.fdiv (2 ^ min 1 IntKind.u32.bits)) (andI .u32 2197175160 (IntKind.u32.wrap (-andI .u32 s 1)))
def times (f:Int→Int):Nat→Int→Int
 | 0,s=>s
 | n+1,s=>times f n (f s)
def tab16 (i:Int):Int:=times step16 8 (IntKind.u16.wrap (IntKind.u16.wrap i*2 ^ min 8 IntKind.u16.bits))
def tab32 (i:Int):Int:=times step32 8 (IntKind.u32.wrap i)
def tabV (k:IntKind) (f:Int→Int) (i:Nat):List AVal:=(List.range i).map (fun j:Nat=>AVal.int k (f (j:Int)))++List.replicate (256 - i) (.int k 0)
theorem idsL_none:∀ {L:List AVal},(∀ x ∈ L,x.ids=[])→AVal.idsL L=[]
 | [],_=>rfl
 | x :: L,h=>by unfold AVal.idsL;rw [h x (a8 ..),idsL_none fun y j=>h y (bd _ j)]; rfl
theorem renL_none {f:Nat→Nat}:∀ {L:List AVal},(∀ x ∈ L,x.ren f=x)→AVal.renL f L=L
 | [],_=>rfl
 | x :: L,h=>by unfold AVal.renL;rw [h x (a8 ..),renL_none fun y j=>h y (bd _ j)]
theorem za0 {k:IntKind} {f:Int→Int} {i:Nat} {x:AVal} (h:x ∈ tabV k f i):∃ n,x = .int k n:=by
 unfold tabV at h;rcases bz.1 h with h | h
 ·obtain ⟨j,-,rfl⟩:=bt.1 h;exact ⟨_,rfl⟩
 ·exact ⟨_,List.eq_of_mem_replicate h⟩
theorem tabV_ids {k:IntKind} {f:Int→Int} {i:Nat}:AVal.idsL (tabV k f i)=[]:=idsL_none fun x hx=>by obtain ⟨n,rfl⟩:=za0 hx; rfl
theorem tabV_ren {k:IntKind} {f:Int→Int} {i:Nat} (g:Nat→Nat):AVal.renL g (tabV k f i)=tabV k f i:=renL_none fun x hx=>by obtain ⟨n,rfl⟩:=za0 hx; rfl
theorem yu {n:Nat}:∀ {L:List AVal},(∀ x ∈ L,x.under n=true)→AVal.unders n L=true
 | [],_=>rfl
 | x :: L,h=>by unfold AVal.unders;rw [h x (a8 ..),yu fun y j=>h y (bd _ j)]; rfl
theorem za1 {k:IntKind} {f:Int→Int} {i n:Nat}:AVal.unders n (tabV k f i)=true:=yu fun x hx=>by obtain ⟨n,rfl⟩:=za0 hx; rfl
theorem o8 {k:IntKind} {f:Int→Int} {i:Nat} (h:i≤256):(tabV k f i).length=256:=by unfold tabV;rw [au,a7,mb,bq]; omega
theorem tabV_set {k:IntKind} {f:Int→Int} {i:Nat} (h:i < 256):(tabV k f i).set i (.int k (f i))=tabV k f (i+1):=by
 unfold tabV;have h1:((List.range i).map (fun j:Nat=>AVal.int k (f (j:Int)))).length=i:=by rw [a7,mb]
 rw [List.set_append_right _ _ (by omega),h1,qh,show 256 - i=256 - (i+1)+1 from by omega,vi,List.set_cons_zero,List.range_succ,ku,ba];rfl
theorem tabV_get {k:IntKind} {f:Int→Int} {i:Nat} (h:i < 256):(tabV k f 256)[i]? = some (.int k (f i)):=by unfold tabV;rw [ag (by rw [a7,mb]; exact h),bp,ai (by rw [mb]; exact h),List.getElem_range]; rfl
section
attribute [-simp] getElem?_pos getElem?_neg List.all_eq_true
attribute [local simp] qZ qS nltT nltF iltT iltF ileT nleT di
theorem l631 {x0 x1:List AVal} {i:Int}:∀ (j c w:Nat) (s:Int),c+j=8→∀ {β:Type} (k:AExit→St→Option β),
  xK T (.loop code631L0) ⟨[(0,.var x0),(1,.var x1),(2,.val (.int .i64 i)),(3,.val (.int .u16 s)),(4,.val (.int .i64 i)),(10,.val (.int .i64 c))],⟨H,b,w⟩⟩ (k:=⟨k⟩) =
   k (.exit 2) ⟨[(0,.var x0),(1,.var x1),(2,.val (.int .i64 i)),(3,.val (.int .u16 (times step16 j s))),(4,.val (.int .i64 i))],⟨H,b,w⟩⟩
 | 0,c,w,s,hi,β,k=>by
  obtain rfl:c=8:=by omega
  rw [b9];simp (disch:=omega) [code631L0,times]
 | j+1,c,w,s,hi,β,k=>by
  have p:=l631 (x0:=x0) (x1:=x1) (i:=i) j (c+1) w (step16 s) (by omega) k;have q:((c+1:Nat):Int)=(c:Int)+1:=by omega
  rw [q] at p;rw [b9,times,← p];generalize ACode.loop code631L0=LL;simp (disch:=omega) [code631L0,qw,xw,step16]
theorem l631b {x0:List AVal}:∀ (j i w:Nat),i+j=256→∀ {β:Type} (k:AExit→St→Option β),
  xK T (.loop code631L1) ⟨[(0,.var x0),(1,.var (tabV .u16 tab16 i)),(4,.val (.int .i64 i))],⟨H,b,w⟩⟩ (k:=⟨k⟩) =
   k (.exit 0) ⟨[(0,.var x0),(1,.var (tabV .u16 tab16 256))],⟨H,b,w⟩⟩
 | 0,i,w,hi,β,k=>by
  obtain rfl:i=256:=by omega
  rw [b9];simp (disch:=omega) [code631L1]
 | j+1,i,w,hi,β,k=>by
  have p:=l631b (x0:=x0) j (i+1) w (by omega) k;have q:((i+1:Nat):Int)=(i:Int)+1:=by omega
  have h0:=fun {β:Type} w s (k:AExit→St→Option β)=>l631 (H:=H) (b:=b) (x0:=x0) (x1:=tabV .u16 tab16 i) (i:=i) 8 0 w s rfl k
  simp only [bf] at h0;rw [q] at p;have hs:=tabV_set (k:=.u16) (f:=tab16) (i:=i) (by omega);have y:=o8 (k:=.u16) (f:=tab16) (i:=i) (by omega);rw [← lh _ (by omega)] at hs;rw [b9,← p];generalize ACode.loop code631L1=LL;generalize tabV .u16 tab16 i=Y at *;generalize tabV .u16 tab16 (i+1)=C at *;have B:tab16 i=times step16 8 (IntKind.u16.wrap (IntKind.u16.wrap (i:Int)*2 ^ min 8 IntKind.u16.bits)):=rfl;rw [B] at hs;simp (disch:=omega) [code631L1,h0,y,hs]
theorem s631:xCall T 631 [] ⟨H,b,w⟩=some (.agg (tabV .u16 tab16 256),⟨H,b,w⟩):=by
 have h0:=fun {β:Type} x0 w (k:AExit→St→Option β)=>l631b (H:=H) (b:=b) (x0:=x0) 256 0 w (by omega) k
 have j:tabV .u16 tab16 0=List.replicate 256 (.int .u16 0):=rfl;rw [j] at h0;simp only [bf] at h0;have hr:(tabV .u16 tab16 256).length=256:=o8 (by omega);have hi:AVal.idsL (tabV .u16 tab16 256)=[]:=tabV_ids;have p:=fun n=>za1 (k:=.u16) (f:=tab16) (i:=256) (n:=n)
 have j:(tabV .u16 tab16 256).take 256=tabV .u16 tab16 256:=dg (by omega);have q:=fun g=>tabV_ren (k:=.u16) (f:=tab16) (i:=256) g
 have y:(List.replicate 256 (AVal.int .u16 0)).length=256:=bq;generalize tabV .u16 tab16 256=Y at *;simp (disch:=omega) [bg t631,code631,h0,hr,hi,q,y,p,j,-List.reduceReplicate]
theorem l626 {x0 x1:List AVal} {i:Int}:∀ (j c w:Nat) (s:Int),c+j=8→∀ {β:Type} (k:AExit→St→Option β),
  xK T (.loop code626L0) ⟨[(0,.var x0),(1,.var x1),(2,.val (.int .i64 i)),(3,.val (.int .u32 s)),(4,.val (.int .i64 i)),(9,.val (.int .i64 c))],⟨H,b,w⟩⟩ (k:=⟨k⟩) =
   k (.exit 2) ⟨[(0,.var x0),(1,.var x1),(2,.val (.int .i64 i)),(3,.val (.int .u32 (times step32 j s))),(4,.val (.int .i64 i))],⟨H,b,w⟩⟩
 | 0,c,w,s,hi,β,k=>by
  obtain rfl:c=8:=by omega
  rw [b9];simp (disch:=omega) [code626L0,times]
 | j+1,c,w,s,hi,β,k=>by
  have p:=l626 (x0:=x0) (x1:=x1) (i:=i) j (c+1) w (step32 s) (by omega) k;have q:((c+1:Nat):Int)=(c:Int)+1:=by omega
  rw [q] at p;rw [b9,times,← p];generalize ACode.loop code626L0=LL;simp (disch:=omega) [code626L0,qw,xw,step32]
theorem l626b {x0:List AVal}:∀ (j i w:Nat),i+j=256→∀ {β:Type} (k:AExit→St→Option β),
  xK T (.loop code626L1) ⟨[(0,.var x0),(1,.var (tabV .u32 tab32 i)),(4,.val (.int .i64 i))],⟨H,b,w⟩⟩ (k:=⟨k⟩) =
   k (.exit 0) ⟨[(0,.var x0),(1,.var (tabV .u32 tab32 256))],⟨H,b,w⟩⟩
 | 0,i,w,hi,β,k=>by
  obtain rfl:i=256:=by omega
  rw [b9];simp (disch:=omega) [code626L1]
 | j+1,i,w,hi,β,k=>by
  have p:=l626b (x0:=x0) j (i+1) w (by omega) k;have q:((i+1:Nat):Int)=(i:Int)+1:=by omega
  have h0:=fun {β:Type} w s (k:AExit→St→Option β)=>l626 (H:=H) (b:=b) (x0:=x0) (x1:=tabV .u32 tab32 i) (i:=i) 8 0 w s rfl k
  simp only [bf] at h0;rw [q] at p;have hs:=tabV_set (k:=.u32) (f:=tab32) (i:=i) (by omega);have y:=o8 (k:=.u32) (f:=tab32) (i:=i) (by omega);rw [← lh _ (by omega)] at hs;rw [b9,← p];generalize ACode.loop code626L1=LL;generalize tabV .u32 tab32 i=Y at *;generalize tabV .u32 tab32 (i+1)=C at *;have B:tab32 i=times step32 8 (IntKind.u32.wrap (i:Int)):=rfl;rw [B] at hs;simp (disch:=omega) [code626L1,h0,y,hs]
theorem s626:xCall T 626 [] ⟨H,b,w⟩=some (.agg (tabV .u32 tab32 256),⟨H,b,w⟩):=by
 have h0:=fun {β:Type} x0 w (k:AExit→St→Option β)=>l626b (H:=H) (b:=b) (x0:=x0) 256 0 w (by omega) k
 have j:tabV .u32 tab32 0=List.replicate 256 (.int .u32 0):=rfl;rw [j] at h0;simp only [bf] at h0;have hr:(tabV .u32 tab32 256).length=256:=o8 (by omega);have hi:AVal.idsL (tabV .u32 tab32 256)=[]:=tabV_ids;have p:=fun n=>za1 (k:=.u32) (f:=tab32) (i:=256) (n:=n)
 have j:(tabV .u32 tab32 256).take 256=tabV .u32 tab32 256:=dg (by omega);have q:=fun g=>tabV_ren (k:=.u32) (f:=tab32) (i:=256) g
 have y:(List.replicate 256 (AVal.int .u32 0)).length=256:=bq;generalize tabV .u32 tab32 256=Y at *;simp (disch:=omega) [bg t626,code626,h0,hr,hi,q,y,p,j,-List.reduceReplicate]
end
def SlB (H:List AObj) (p o n:Nat) (l:Bs):Prop:=l.length=n∧∃ X,H[p]? = some (.cells 1 X)∧(X.drop o).take n=l.map u8V
theorem SlB.get {p o n i:Nat} {l:Bs} {x:UInt8} (h:SlB H p o n l) (hx:l[i]? = some x):∃ X,H[p]? = some (.cells 1 X)∧X[o+i]? = some (.int .u8 x.toNat):=by
 obtain ⟨y,X,j,q⟩:=h;refine ⟨X,j,?_⟩;have h1:((X.drop o).take n)[i]? = some (u8V x):=by rw [q,bp,hx]; rfl
 rw [eo,if_pos (by have:=ah hx; omega),dt] at h1;exact h1
theorem xor_u8 (x y:Int):∃ m:Nat,m < 256∧xorI .u8 x y=m:=by refine ⟨(BitVec.ofInt 8 x ^^^ BitVec.ofInt 8 y).toNat,(BitVec.ofInt 8 x ^^^ BitVec.ofInt 8 y).isLt,?_⟩;have h:(BitVec.ofInt 8 x ^^^ BitVec.ofInt 8 y).toNat < 256:=(BitVec.ofInt 8 x ^^^ BitVec.ofInt 8 y).isLt;show IntKind.u8.wrap ((BitVec.ofInt 8 x ^^^ BitVec.ofInt 8 y).toNat:Int)=_;generalize (BitVec.ofInt 8 x ^^^ BitVec.ofInt 8 y).toNat=m at *;unfold IntKind.wrap;show (if (false && _)=true then _ else ((m:Int) % 2 ^ 8))=_;simp;omega
def up16 (s:Int) (c:UInt8):Int:=xorI .u16 (IntKind.u16.wrap (s*2 ^ min 8 IntKind.u16.bits)) (tab16 (xorI .u8 (IntKind.u8.wrap (s.fdiv (2 ^ min 8 IntKind.u16.bits))) c.toNat))
def up32 (s:Int) (c:UInt8):Int:=xorI .u32 (s.fdiv (2 ^ min 8 IntKind.u32.bits)) (tab32 (xorI .u8 (IntKind.u8.wrap s) c.toNat))
section
attribute [-simp] getElem?_pos getElem?_neg List.all_eq_true
attribute [local simp] qZ qS nltT nltF iltT iltF ileT nleT di
theorem l620 {p o n:Nat} {c:Option Nat} {l:Bs} (y:SlB H p o n l) (L:0 < n) (hb:n≤1000000000):∀ (j i w:Nat) (s:Int),i+j=n→∀ {β:Type} (k:AExit→St→Option β),
  xK T (.loop code620L0) ⟨[(0,.val (.int .u16 s)),(5,.var (tabV .u16 tab16 256)),(9,.val (.slice (some (p,o)) n c)),(10,.val (.int .i64 n)),(11,.val (.int .i64 i))],⟨H,b,w⟩⟩ (k:=⟨k⟩) =
   k (.exit 0) ⟨[(0,.val (.int .u16 ((l.drop i).foldl up16 s)))],⟨H,b,w⟩⟩
 | 0,i,w,s,hi,β,k=>by have hd:l.drop i=[]:=dk (by have:=y.1; omega);rw [hd,b9];simp only [List.foldl_nil];simp (disch:=omega) [code620L0]
 | j+1,i,w,s,hi,β,k=>by
  obtain ⟨x,hx⟩:∃ x,l[i]? = some x:=⟨_,ai (by have:=y.1; omega)⟩;obtain ⟨X,N,J⟩:=y.get hx;have B:=ah J;have Q:((i+1:Nat):Int)=(i:Int)+1:=by omega
  obtain ⟨m,hm,q⟩:=xor_u8 (IntKind.u8.wrap (s.fdiv (2 ^ min 8 IntKind.u16.bits))) x.toNat;have K:=l620 (c:=c) y L hb j (i+1) w (up16 s x) (by omega) k;rw [Q] at K;have C:=tabV_get (k:=.u16) (f:=tab16) hm;have D:=o8 (k:=.u16) (f:=tab16) (i:=256) (by omega);have G:xorI .u16 (IntKind.u16.wrap (s*2 ^ min 8 IntKind.u16.bits)) (tab16 m)=up16 s x:=by unfold up16; rw [q]
  rw [iy hx,jw,b9,← K,← G];generalize ACode.loop code620L0=LL;generalize tabV .u16 tab16 256=Y at *;simp (disch:=omega) [code620L0,N,J,B,qw,q,C,D]
theorem l613 {p o n:Nat} {c:Option Nat} {l:Bs} (y:SlB H p o n l) (L:0 < n) (hb:n≤1000000000):∀ (j i w:Nat) (s:Int),i+j=n→∀ {β:Type} (k:AExit→St→Option β),
  xK T (.loop code613L0) ⟨[(3,.var (tabV .u32 tab32 256)),(4,.val (.int .u32 s)),(8,.val (.slice (some (p,o)) n c)),(9,.val (.int .i64 n)),(10,.val (.int .i64 i))],⟨H,b,w⟩⟩ (k:=⟨k⟩) =
   k (.exit 0) ⟨[(4,.val (.int .u32 ((l.drop i).foldl up32 s)))],⟨H,b,w⟩⟩
 | 0,i,w,s,hi,β,k=>by have hd:l.drop i=[]:=dk (by have:=y.1; omega);rw [hd,b9];simp only [List.foldl_nil];simp (disch:=omega) [code613L0]
 | j+1,i,w,s,hi,β,k=>by
  obtain ⟨x,hx⟩:∃ x,l[i]? = some x:=⟨_,ai (by have:=y.1; omega)⟩;obtain ⟨X,N,J⟩:=y.get hx;have B:=ah J;have Q:((i+1:Nat):Int)=(i:Int)+1:=by omega
  obtain ⟨m,hm,q⟩:=xor_u8 (IntKind.u8.wrap s) x.toNat;have K:=l613 (c:=c) y L hb j (i+1) w (up32 s x) (by omega) k;rw [Q] at K;have C:=tabV_get (k:=.u32) (f:=tab32) hm;have D:=o8 (k:=.u32) (f:=tab32) (i:=256) (by omega);have G:xorI .u32 (s.fdiv (2 ^ min 8 IntKind.u32.bits)) (tab32 m)=up32 s x:=by unfold up32; rw [q]
  rw [iy hx,jw,b9,← K,← G];generalize ACode.loop code613L0=LL;generalize tabV .u32 tab32 256=Y at *;simp (disch:=omega) [code613L0,N,J,B,qw,q,C,D]
end
def sum16 (l:Bs):Int:=l.foldl up16 65535
def sum32 (l:Bs):Int:=xorI .u32 IntKind.u32.max (l.foldl up32 4294967295)
section
attribute [-simp] getElem?_pos getElem?_neg List.all_eq_true
attribute [local simp] qZ qS nltT nltF iltT iltF ileT nleT di
theorem s620 {p o n:Nat} {c:Option Nat} {l:Bs} {s:Int} (q:SlB H p o n l) (y:0 < n) (hb:n≤1000000000):xCall T 620 [.int .u16 s,.slice (some (p,o)) n c] ⟨H,b,w⟩=some (.int .u16 (l.foldl up16 s),⟨H,b,w⟩):=by
 have h0:=fun {β:Type} w (k:AExit→St→Option β)=>l620 (b:=b) (c:=c) q y hb n 0 w s (by omega) k
 simp only [bf,ff] at h0;have j:=fun w=>s631 (H:=H) (b:=b) (w:=w)
 have hr:(tabV .u16 tab16 256).length=256:=o8 (by omega);have B:(tabV .u16 tab16 256).take 256=tabV .u16 tab16 256:=dg (by omega);have q:(List.replicate 256 (AVal.int .u16 0)).length=256:=bq;generalize tabV .u16 tab16 256=Y at *;simp (disch:=omega) [bg t620,code620,h0,j,hr,B,q,-List.reduceReplicate]
theorem s602 {p o n:Nat} {c:Option Nat} {l:Bs} (q:SlB H p o n l) (y:0 < n) (hb:n≤1000000000):xCall T 602 [.slice (some (p,o)) n c] ⟨H,b,w⟩=some (.int .u16 (sum16 l),⟨H,b,w⟩):=by
 have j:=fun w=>s620 (b:=b) (w:=w) (c:=c) (s:=65535) q y hb
 simp (disch:=omega) [bg t602,code602,j,sum16]
theorem s613 {p o n:Nat} {c:Option Nat} {l:Bs} (q:SlB H p o n l) (B:0 < n) (hb:n≤1000000000):xCall T 613 [.slice (some (p,o)) n c] ⟨H,b,w⟩=some (.int .u32 (sum32 l),⟨H,b,w⟩):=by
 have h0:=fun {β:Type} w (k:AExit→St→Option β)=>l613 (b:=b) (c:=c) q B hb n 0 w 4294967295 (by omega) k
 simp only [bf,ff] at h0;have j:=fun w=>s626 (H:=H) (b:=b) (w:=w)
 have hr:(tabV .u32 tab32 256).length=256:=o8 (by omega);have C:(tabV .u32 tab32 256).take 256=tabV .u32 tab32 256:=dg (by omega);have q:(List.replicate 256 (AVal.int .u32 0)).length=256:=bq;generalize tabV .u32 tab32 256=Y at *;have y:IntKind.u32.signed=false:=rfl;simp (disch:=omega) [bg t613,code613,h0,j,hr,C,q,qw,sum32,y,-List.reduceReplicate]
end
end
end Go.Abs.AbsBlb

namespace Go.Abs
def FieldU.fits (x:FieldU):Prop:=x.name.length≤iu∧x.desc.length≤iu
def InsU.fits (x:InsU):Prop:=x.cls.length≤iu∧x.name.length≤iu∧x.desc.length≤iu∧x.text.length≤iu
def TrapU.fits (x:TrapU):Prop:=x.cls.length≤iu
structure MapU.fits (x:MapU):Prop where
 l:x.locals.length≤iu
 s:x.stack.length≤iu
 ls:∀ t ∈ x.locals,t.length≤iu
 ss:∀ t ∈ x.stack,t.length≤iu
structure MethU.fits (m:MethU):Prop where
 name:m.name.length≤iu
 desc:m.desc.length≤iu
 c:m.code.length≤iu
 cs:∀ x ∈ m.code,x.fits
 t:m.traps.length≤iu
 ts:∀ x ∈ m.traps,x.fits
 x:m.maps.length≤iu
 xs:∀ x ∈ m.maps,x.fits
structure UnitU.cap (u:UnitU):Prop where
 f:∀ k,u.fc=some k→u.fields.length≤k
 m:∀ k,u.mc=some k→u.meths.length≤k
structure UnitU.fits (u:UnitU):Prop where
 name:u.name.length≤iu
 super:u.super.length≤iu
 f:u.fields.length≤iu
 fs:∀ x ∈ u.fields,x.fits
 m:u.meths.length≤iu
 ms:∀ x ∈ u.meths,x.fits
 cap:u.cap
section
variable {os:List AObj} {b w:Nat} {d:Dat} {cs:List AVal}
end
end Go.Abs

namespace Go.Abs
def renA (f:Nat→Nat):Option (Nat × Nat)→Option (Nat × Nat)
 | none=>none
 | some (i,o)=>some (f i,o)
theorem ren_sl (f:Nat→Nat) (a:Option (Nat × Nat)) (n:Nat) (c:Option Nat):(AVal.slice a n c).ren f = .slice (renA f a) n c:=by
 cases a with
 | none=>simp [AVal.ren,renA]
 | some p=>obtain ⟨i,o⟩:=p; simp [AVal.ren,renA]
theorem qd (f:Nat→Nat):∀ l:List AVal,AVal.renL f l=l.map (AVal.ren f)
 | []=>rfl
 | a :: l=>by simp only [AVal.renL,bi,qd f l]
theorem ym:∀ l:List AVal,AVal.idsL l=l.flatMap AVal.ids
 | []=>rfl
 | a :: l=>by simp only [AVal.idsL,d0,ym l]
structure Moves (f:Nat→Nat) (I:Nat→Prop) (n:Nat) (O O':List AObj):Prop where
 at':∀ i obj,I i→O[i]? = some obj→O'[f i]? = some (obj.ren f)
 cl:∀ i obj,I i→O[i]? = some obj→∀ j ∈ obj.ids,n≤j→I j
 up:∀ i,n≤i→n≤f i
section
variable {f:Nat→Nat} {I:Nat→Prop} {n:Nat} {O O':List AObj}
def over (n:Nat) (a:Option (Nat × Nat)):Prop:=∀ i o,a=some (i,o)→n≤i
def inI (I:Nat→Prop) (a:Option (Nat × Nat)):Prop:=∀ i o,a=some (i,o)→I i
def MapU.ren (f:Nat→Nat) (x:MapU):MapU:={ x with la:=renA f x.la,sa:=renA f x.sa }
def MethU.ren (f:Nat→Nat) (m:MethU):MethU:={ m with ca:=renA f m.ca,ta:=renA f m.ta,maps:=m.maps.map (MapU.ren f),xa:=renA f m.xa }
def UnitU.ren (f:Nat→Nat) (u:UnitU):UnitU:={ u with fa:=renA f u.fa,meths:=u.meths.map (MethU.ren f),ma:=renA f u.ma }
structure MapU.over (n:Nat) (x:MapU):Prop where
 l:Go.Abs.over n x.la
 s:Go.Abs.over n x.sa
structure MethU.over (n:Nat) (m:MethU):Prop where
 c:Go.Abs.over n m.ca
 t:Go.Abs.over n m.ta
 x:Go.Abs.over n m.xa
 xs:∀ x ∈ m.maps,x.over n
structure UnitU.over (n:Nat) (u:UnitU):Prop where
 f:Go.Abs.over n u.fa
 m:Go.Abs.over n u.ma
 ms:∀ m ∈ u.meths,m.over n
theorem zb2 {i:Nat}:∀ {k:List Nat},i ∈ k→idxIn i k < k.length∧k[idxIn i k]? = some i
 | j :: k,h=>by
  by_cases e:j=i
  ·simp [idxIn,e]
  ·have:=zb2 (k:=k) ((cj.1 h).resolve_left fun x=>e x.symm);simp only [idxIn,e,if_false,cq,List.getElem?_cons_succ];exact ⟨by omega,this.2⟩
theorem uk {h:Heap} {n0:Nat}:∀ (fu:Nat) (l p:List Nat),(∀ i ∈ p,n0≤i)→∀ i ∈ reach h n0 fu l p,n0≤i
 | 0,l,p,ha=>ha
 | _+1,[],p,ha=>ha
 | fu+1,i :: r,p,ha=>by
  unfold reach;split
  ·exact uk fu r p ha
  ·split
   ·exact uk fu r p ha
   ·exact uk fu _ _ fun j q=>by
     rcases bz.1 q with q | q
     ·exact ha j q
     ·rw [bk.1 q]; omega
theorem finish_cases {h0 h:Heap} {v:AVal} (D:v.under h0.size=false) :
  (∃ w,dj h0 v h=(v,⟨h.objs,h.base,w⟩)∧(w=min h0.wmin h.wmin∨(w=h0.wmin∧h0.size≤h.wmin))) ∨
  (h0.size≤h.wmin∧∃ f I X,dj h0 v h=(v.ren f,⟨h0.objs++X,h0.base,h0.wmin⟩)∧Moves f I h0.size h.objs (h0.objs++X)∧(∀ j ∈ v.ids,h0.size≤j→I j)):=by
 unfold dj;by_cases hw:h.wmin < h0.size
 ·rw [if_pos hw]; exact .inl ⟨_,rfl,.inl rfl⟩
 ·rw [if_neg hw,D];simp only [cg,if_false];generalize G:reach h h0.size 1000 v.ids []=k;have y:∀ i ∈ k,h0.size≤i:=by rw [← G]; exact uk _ _ _ (by simp)
  split
  ·rename_i p;refine .inr ⟨by omega,fun i=>if i < h0.size then i else h0.size+idxIn i k,fun i=>i ∈ k,_,rfl,⟨fun i obj hi ho=>?_,fun i obj hi ho j B J=>?_,fun i hi=>?_⟩,fun j B J=>?_⟩
   ·have h1:=y i hi;obtain ⟨h2,K⟩:=zb2 hi;have L:¬ i < h0.size:=by omega
    simp only [if_neg L];have N:h0.size=h0.objs.length:=rfl;rw [N,aw (by omega),iw,bp,K];have C:h.get i=some obj:=ho;simp only [b8,C,ed]
   ·rw [ap] at p;have C:h.get i=some obj:=ho;have:=p j (gb _ (dx.2 ⟨i,hi,by rw [C]; exact B⟩));simp only [c9,decide_eq_true_eq] at this;rcases this with q | q
    ·omega
    ·simpa using q
   ·show h0.size≤if i < h0.size then i else h0.size+idxIn i k
    rw [if_neg (by omega)]; omega
   ·rw [ap] at p;have:=p j (dr _ B);simp only [c9,decide_eq_true_eq] at this;rcases this with q | q
    ·omega
    ·simpa using q
  ·exact .inl ⟨_,rfl,.inr ⟨rfl,by omega⟩⟩
end
end Go.Abs

namespace Go.Abs
variable {α:Type} {e:Nat} {f:α→List AVal} {O P:List AObj} {A:List α} {v:AVal} {b:Nat}
structure Acc (e:Nat) (f:α→List AVal) (O:List AObj) (A:List α) (P:List AObj) (v:AVal):Prop where
 pre:Pre O P
 val:(A=[]∧v = .slice none 0 (some 0))∨(A≠[]∧∃ i,O.length≤i∧v = .slice (some (i,0)) A.length none∧P[i]? = some (.cells e (A.flatMap f)))
def newV (n:Nat) (A:List α):AVal:=if A=[] then .slice none 0 (some 0) else .slice (some (n,0)) A.length none
def newO (e:Nat) (f:α→List AVal) (O:List AObj) (A:List α):List AObj:=if A=[] then O else O++[.cells e (A.flatMap f)]
def Keeps (P P':List AObj) (n:Nat) (v:AVal):Prop:=∀ (k:Nat) (o:AObj),P[k]? = some o→v ≠ .slice (some (k,0)) n none→P'[k]? = some o
theorem idsL_none {L:List AVal} (h:∀ x ∈ L,x.ids=[]):AVal.idsL L=[]:=by rw [ym,List.flatMap_eq_nil_iff]; exact h
theorem renL_none {g:Nat→Nat} {L:List AVal} (h:∀ x ∈ L,x.ren g=x):AVal.renL g L=L:=by
 rw [qd];conv=>rhs; rw [← List.map_id L]
 exact pf h
end Go.Abs

namespace Go.Abs.AbsBlb
open Go.Abs.Short
section
variable {H:List AObj} {b w:Nat}
def byteB (v k i:Nat):UInt8:=UInt8.ofNat (v / 2 ^ (8*(k - 1 - i)))
def putB (v k:Nat):Bs:=(List.range k).map (byteB v k)
theorem md (v k:Nat):(putB v k).length=k:=by unfold putB; rw [a7,mb]
def PS (H:List AObj) (p o n:Nat) (l:Bs) (v k i:Nat) (P:List AObj) (x:AVal):Prop :=
 Pre H P∧((i=0∧x = .slice (some (p,o)) n (some n))∨∃ q,H.length≤q∧x = .slice (some (q,0)) (n+i) none∧P[q]? = some (.cells 1 ((l++(putB v k).take i).map u8V)))
theorem SlB.row {p o n:Nat} {l:Bs} (h:SlB H p o n l) (B:0 < n) (c:Option Nat):il 1 ⟨H,b,w⟩ (.slice (some (p,o)) n c)=some (l.map u8V):=by
 obtain ⟨C,X,y,q⟩:=h;have j:¬ n=0:=by omega
 unfold il;simp only [Heap.get,y,j,if_false,Nat.mul_one]
 have:o+n≤X.length:=by have:=congrArg List.length q;rw [db,gh,a7] at this;omega
 simp [this,q]
theorem SlB.mono {H':List AObj} {p o n:Nat} {l:Bs} (h:SlB H p o n l) (j:∀ o,H[p]? = some o→H'[p]? = some o):SlB H' p o n l:=by obtain ⟨q,X,y,B⟩:=h;exact ⟨q,X,j _ y,B⟩
theorem SlB.whole {q n:Nat} {l:Bs} (h:H[q]? = some (.cells 1 (l.map u8V))) (j:l.length=n):SlB H q 0 n l:=by refine ⟨j,_,h,?_⟩;rw [ff,dg (by rw [a7]; omega)]
theorem PS.add {p o n v k i:Nat} {l:Bs} {P:List AObj} {x:AVal} (J:SlB H p o n l) (Q:0 < n) (hb:n+k≤1000000000) (U:b≤H.length) (hi:i < k) (h:PS H p o n l v k i P x) :
  ∃ P' K,∃ L:Nat→Nat,PS H p o n l v k (i+1) P' K∧(∀ w,H.length≤w→H.length≤L w)∧∀ w,d7 1 1 ⟨P++[.cells 1 [u8V (byteB v k i)]],b,w⟩ x (.slice (some (P.length,0)) 1 (some 1))=some (K,⟨P',b,L w⟩):=by
 obtain ⟨C,h⟩:=h
 have V:(putB v k)[i]? = some (byteB v k i):=by unfold putB;rw [bp,ai (by rw [mb]; exact hi),List.getElem_range]; rfl
 have D:(putB v k).take (i+1)=(putB v k).take i++[byteB v k i]:=by rw [List.take_add_one,V]; rfl
 have j:∀ w,il 1 ⟨P++[.cells 1 [u8V (byteB v k i)]],b,w⟩ (.slice (some (P.length,0)) 1 (some 1))=some [u8V (byteB v k i)]:=fun w=>by have:=SlB.row (H:=P++[.cells 1 [u8V (byteB v k i)]]) (b:=b) (w:=w) (SlB.whole (l:=[byteB v k i]) (q:=P.length) (n:=1) (gc _ _) rfl) (by omega) (some 1);exact this
 rcases h with ⟨rfl,rfl⟩ | ⟨q,N,rfl,y⟩
 ·refine ⟨P++[.cells 1 [u8V (byteB v k 0)],.cells 1 ((l++(putB v k).take 1).map u8V)],_,fun w=>w,⟨C.trans (Pre.app _ _),.inr ⟨P.length+1,by have:=C.len; omega,rfl,jv _ _ 1⟩⟩,fun w hw=>hw,fun w=>?_⟩
  have hr:il 1 ⟨P++[.cells 1 [u8V (byteB v k 0)]],b,w⟩ (.slice (some (p,o)) n (some n))=some (l.map u8V):=SlB.row (J.mono fun o ho=>by rw [ag (fg (ah ho) C.len)]; exact C _ _ ho) Q _
  unfold d7;rw [dq] at D;simp only [hr,j,alen,aApp];rw [if_neg (show ¬ (1=0) by decide),if_pos ⟨by omega,by omega⟩];simp [Heap.push,Heap.size,D]
 ·have B:=ah y;refine ⟨(P.set q .dead)++[.cells 1 [u8V (byteB v k i)],.cells 1 ((l++(putB v k).take (i+1)).map u8V)],_,fun w=>min w q,⟨(C.set .dead N).trans (Pre.app _ _),.inr ⟨P.length+1,Nat.le_succ_of_le C.len,rfl,by rw [aw (by rw [az]; exact Nat.le_succ _),az,iw]; rfl⟩⟩,fun w hw=>Nat.le_min.2 ⟨hw,N⟩,fun w=>?_⟩
  ·have hr:il 1 ⟨P++[.cells 1 [u8V (byteB v k i)]],b,w⟩ (.slice (some (q,0)) (n+i) none)=some ((l++(putB v k).take i).map u8V):=SlB.row (SlB.whole (by rw [ag B]; exact y) (by have:=J.1; have:=md v k; rw [au,db]; omega)) (by omega) _;unfold d7;simp only [hr,j,alen,aApp]
   have G:rowIs ⟨P++[.cells 1 [u8V (byteB v k i)]],b,w⟩ q 1=true:=by unfold rowIs Heap.get;simp only [ag B,y];rfl
   refine (if_neg (show ¬ (1=0) by decide)).trans ((if_pos ⟨by omega,by omega⟩).trans ((if_neg (by simp)).trans ((if_pos ⟨by show b≤q; omega,G⟩).trans ?_)));simp [Heap.push,Heap.size,Heap.put,List.set_append_left _ _ B,D];omega
theorem n9 {x:Int} (h:0≤x∧x < 18446744073709551616):IntKind.u64.wrap x=x:=by unfold IntKind.wrap;show (if (false && _)=true then _ else (x % 2 ^ 64))=_;simp;omega
theorem zaz (m:Nat):IntKind.u8.wrap (m:Int)=((UInt8.ofNat m).toNat:Int):=by unfold IntKind.wrap;show (if (false && _)=true then _ else ((m:Int) % 2 ^ 8))=_;rw [UInt8.toNat_ofNat'];simp
theorem fdiv_pow (v e:Nat):(v:Int).fdiv (2 ^ e)=((v / 2 ^ e:Nat):Int):=by rw [Int.fdiv_eq_ediv_of_nonneg _ (Int.le_of_lt (Int.pow_pos (by decide))),Int.natCast_ediv,Int.natCast_pow]; rfl
theorem byte_eq {v k i:Nat} (hi:i < k) (j:k≤8):IntKind.u8.wrap ((v:Int).fdiv (2 ^ min (8*((k:Int) - 1 - i)).toNat IntKind.u64.bits))=((byteB v k i).toNat:Int):=by
 have h1:min (8*((k:Int) - 1 - i)).toNat IntKind.u64.bits=8*(k - 1 - i):=by
  show min _ 64=_
  omega
 rw [h1,fdiv_pow,zaz];rfl
section
attribute [-simp] getElem?_pos getElem?_neg List.all_eq_true
attribute [local simp] qZ qS nltT nltF iltT iltF ileT nleT di
theorem l385 {p o n v k:Nat} {l:Bs} (B:SlB H p o n l) (C:0 < n) (hb:n+k≤1000000000) (q:b≤H.length) (D:k≤8) (L:v < 18446744073709551616):∀ (j i w:Nat) (P:List AObj) (x:AVal),i+j=k→PS H p o n l v k i P x→H.length≤w →
  ∃ P' G w',PS H p o n l v k k P' G∧H.length≤w'∧∀ {β:Type} (k':AExit→St→Option β),
  xK T (.loop code100385L0) ⟨[(0,.val x),(1,.val (.int .u64 v)),(2,.val (.int .i64 k)),(18,.val (.int .i64 k)),(19,.val (.int .i64 i))],⟨P,b,w⟩⟩ (k:=⟨k'⟩) =
   k' (.exit 0) ⟨[(0,.val G)],⟨P',b,w'⟩⟩
 | 0,i,w,P,x,hi,h,hw=>by
  obtain rfl:i=k:=by omega
  refine ⟨P,x,w,h,hw,fun k'=>?_⟩;rw [b9];simp (disch:=omega) [code100385L0]
 | j+1,i,w,P,x,hi,h,hw=>by
  obtain ⟨N,x1,Q,h1,h2,J⟩:=PS.add B C hb q (by omega) h;obtain ⟨U,V,W,i1,X,i3⟩:=l385 B C hb q D L j (i+1) (Q w) N x1 (by omega) h1 (h2 w hw);refine ⟨U,V,W,i1,X,fun k'=>?_⟩;have e2:((i+1:Nat):Int)=(i:Int)+1:=by omega
  have K:=i3 k';rw [e2] at K;have y:=byte_eq (v:=v) (i:=i) (by omega) D;rw [b9,← K];generalize ACode.loop code100385L0=LL;unfold u8V at J;simp (disch:=omega) [code100385L0,-d7,n9,y,J]
theorem s411 {k:Int}:xCall T 411 [.int .i64 k] ⟨H,b,w⟩=some (.bool (decide (1≤k) && decide (k≤8)),⟨H,b,w⟩):=by
 by_cases h1:1≤k
 ·by_cases h2:k≤8
  ·simp (disch:=omega) [bg t411,code411,h1,h2]
  ·simp (disch:=omega) [bg t411,code411,h1,h2]
 ·simp (disch:=omega) [bg t411,code411,h1]
theorem s385 {p o n v k:Nat} {l:Bs} {c:Option Nat} (C:SlB H p o n l) (G:0 < n) (hb:n+k≤1000000000) (y:b≤H.length) (J:0 < k∧k≤8) (K:v < 18446744073709551616) (hc:n≤c.getD n) :
  xCall T 100385 [.slice (some (p,o)) n c,.int .u64 v,.int .i64 k] ⟨H,b,w⟩=some (.slice (some (H.length,0)) (n+k) none,⟨H++[.cells 1 ((l++putB v k).map u8V)],b,w⟩):=by
 have j:=fun w=>s411 (H:=H) (b:=b) (w:=w) (k:=(k:Int))
 have L:(1:Int)≤k:=by omega
 have N:(k:Int)≤8:=by omega
 obtain ⟨P,x,w',i1,Q,D⟩:=l385 C G hb y J.2 K k 0 H.length H (.slice (some (p,o)) n (some n)) (by omega) ⟨Pre.refl _,.inl ⟨rfl,rfl⟩⟩ (aj _);obtain ⟨hp,i1⟩:=i1;rcases i1 with ⟨rfl,-⟩ | ⟨q,U,rfl,hr⟩
 ·omega
 ·rw [dg (by rw [md]; omega)] at hr;have V:=fun w0=>mw (O:=H) (P:=P) (b:=b) (w:=w0) (W:=w') (q:=q) (n:=n+k) (c:=none) hr (ml _) (fun g=>ov g _) U Q
  obtain ⟨a0,X,B,hX⟩:=C;simp only [bf] at D;generalize (l++putB v k).map u8V=Y at *;simp (disch:=omega) [bg t100385,code100385,-dj,j,L,N,B,hc,D,V]
end
end
end Go.Abs.AbsBlb

namespace Go.Abs.AbsBlb
open Go.Abs.Short
def upG (v:Nat) (c:UInt8):Nat:=v*256+c.toNat
def getB (l:Bs):Nat:=l.foldl upG 0
theorem getB_lt:∀ (l:Bs) (v e:Nat),v < 256 ^ e→l.foldl upG v < 256 ^ (e+l.length)
 | [],v,e,h=>h
 | c :: l,v,e,h=>by rw [jw,cq,show e+(l.length+1)=(e+1)+l.length from by omega];apply getB_lt l;have:c.toNat < 256:=c.toNat_lt;unfold upG;rw [Nat.pow_succ];omega
theorem or_add {v c:Nat} (j:v < 72057594037927936) (hc:c < 256):orI .u64 (IntKind.u64.wrap ((v:Int)*2 ^ min 8 IntKind.u64.bits)) c=((v*256+c:Nat):Int):=by
 have h1:IntKind.u64.wrap ((v:Int)*2 ^ min 8 IntKind.u64.bits)=((v*256:Nat):Int):=by
  show IntKind.u64.wrap ((v:Int)*2 ^ 8)=_
  rw [n9 (by omega)];omega
 rw [h1]
 have h2:(BitVec.ofInt 64 ((v*256:Nat):Int) ||| BitVec.ofInt 64 ((c:Nat):Int)).toNat=v*256+c:=by rw [BitVec.toNat_or,BitVec.ofInt_natCast,BitVec.ofInt_natCast,BitVec.toNat_ofNat,BitVec.toNat_ofNat,Nat.mod_eq_of_lt (by omega),Nat.mod_eq_of_lt (by omega),show v*256=v*2 ^ 8 from rfl,← Nat.shiftLeft_eq,Nat.shiftLeft_add_eq_or_of_lt (by omega)]
 unfold orI;show IntKind.u64.wrap ((BitVec.ofInt 64 ((v*256:Nat):Int) ||| BitVec.ofInt 64 ((c:Nat):Int)).toNat:Int)=_;rw [h2,n9 (by omega)]
theorem put_succ (v k:Nat):putB v (k+1)=putB (v / 256) k++[UInt8.ofNat v]:=by
 unfold putB;rw [List.range_succ,ku];congr 1
 ·apply pf;intro i hi;have hi:=dc.1 hi;unfold byteB;rw [Nat.div_div_eq_div_mul,show k+1 - 1 - i=(k - 1 - i)+1 from by omega,Nat.mul_add,Nat.pow_add,Nat.mul_comm (2 ^ _)]
 ·unfold byteB;simp
theorem zay:∀ (k v:Nat),getB (putB v k)=v % 256 ^ k
 | 0,v=>by
  show 0=_
  rw [Nat.pow_zero,Nat.mod_one]
 | k+1,v=>by rw [put_succ];unfold getB;rw [List.foldl_append];show upG (getB (putB (v / 256) k)) _=_;rw [zay k (v / 256),Nat.pow_succ,Nat.mul_comm (256 ^ k),Nat.mod_mul];unfold upG;rw [UInt8.toNat_ofNat'];omega
section
variable {H:List AObj} {b w:Nat}
section
attribute [-simp] getElem?_pos getElem?_neg List.all_eq_true
attribute [local simp] qZ qS nltT nltF iltT iltF ileT nleT di
theorem l500 {p o n:Nat} {c:Option Nat} {l:Bs} (y:SlB H p o n l) (N:0 < n) (hb:n≤8):∀ (j i w v:Nat),i+j=n→v < 256 ^ i→∀ {β:Type} (k:AExit→St→Option β),
  xK T (.loop code500L0) ⟨[(8,.val (.int .u64 v)),(36,.val (.slice (some (p,o)) n c)),(37,.val (.int .i64 n)),(38,.val (.int .i64 i))],⟨H,b,w⟩⟩ (k:=⟨k⟩) =
   k (.exit 1) ⟨[(8,.val (.int .u64 ((l.drop i).foldl upG v:Nat)))],⟨H,b,w⟩⟩
 | 0,i,w,v,hi,J,β,k=>by have hd:l.drop i=[]:=dk (by have:=y.1; omega);rw [hd,b9];simp only [List.foldl_nil];simp (disch:=omega) [code500L0]
 | j+1,i,w,v,hi,J,β,k=>by
  obtain ⟨x,hx⟩:∃ x,l[i]? = some x:=⟨_,ai (by have:=y.1; omega)⟩;obtain ⟨X,Q,K⟩:=y.get hx;have B:=ah K;have q:x.toNat < 256:=x.toNat_lt;have U:((i+1:Nat):Int)=(i:Int)+1:=by omega
  have L:=l500 (c:=c) y N hb j (i+1) w (upG v x) (by omega) (by unfold upG; rw [Nat.pow_succ]; omega) k;rw [U] at L;have C:v < 72057594037927936:=fg J (de (Nat.pow_le_pow_right (by decide) (show i≤7 by omega)) (by decide));have D:=or_add C q;have G:IntKind.u64.wrap (x.toNat:Int)=x.toNat:=n9 (by omega);rw [iy hx,jw,b9,← L];generalize ACode.loop code500L0=LL;simp (disch:=omega) [code500L0,Q,K,B,aBits_or,G,D];unfold upG;rfl
theorem s500 {p o n a k:Nat} {c:Option Nat} {l:Bs} (B:SlB H p o n l) (hc:n≤c.getD n) (hb:n≤1000000000) (C:0 < k∧k≤8) (ha:a+k≤n) :
  xCall T 500 [.slice (some (p,o)) n c,.int .i64 a,.int .i64 k] ⟨H,b,w⟩=some (.tuple [.int .u64 (getB ((l.drop a).take k):Nat),.int .i64 0],⟨H,b,w⟩):=by
 have j:=fun w=>s411 (H:=H) (b:=b) (w:=w) (k:=(k:Int))
 have D:(1:Int)≤k:=by omega
 have G:(k:Int)≤8:=by omega
 have hs:SlB H p (o+a) k ((l.drop a).take k):=by obtain ⟨y,X,q,J⟩:=B;refine ⟨by rw [db,gh]; omega,X,q,?_⟩;rw [List.map_take,List.map_drop,← J,List.drop_take,List.take_take,jp,Nat.min_eq_left (by omega)]
 have h0:=fun (c:Option Nat) {β:Type} w (k':AExit→St→Option β)=>l500 (b:=b) (c:=c) hs C.1 C.2 k 0 w 0 (by omega) (by decide) k'
 simp only [bf,ff] at h0;have Q:((l.drop a).take k).foldl upG 0=getB ((l.drop a).take k):=rfl;rw [Q] at h0;obtain ⟨y,X,q,J⟩:=B;have K:¬ (n:Int) - a < k:=by omega
 have L:¬ (n:Int) < a:=by omega
 have N:k≤n - a:=by omega
 cases c with
 | none =>
  simp (disch:=omega) [bg t500,code500,j,D,G,K,L,N,q,h0]
 | some cc =>
  have U:¬ cc=a:=by simp at hc; omega
  have V:k≤cc - a:=by simp at hc; omega
  simp only [ed] at hc;simp (disch:=omega) [bg t500,code500,j,D,G,K,L,N,q,h0,U,V]
end
end
end Go.Abs.AbsBlb

namespace Go.Abs.AbsBlb
open Go.Abs.Short
theorem xor_u16 (x y:Int):∃ m:Nat,m < 65536∧xorI .u16 x y=m:=by refine ⟨(BitVec.ofInt 16 x ^^^ BitVec.ofInt 16 y).toNat,(BitVec.ofInt 16 x ^^^ BitVec.ofInt 16 y).isLt,?_⟩;have h:(BitVec.ofInt 16 x ^^^ BitVec.ofInt 16 y).toNat < 65536:=(BitVec.ofInt 16 x ^^^ BitVec.ofInt 16 y).isLt;show IntKind.u16.wrap ((BitVec.ofInt 16 x ^^^ BitVec.ofInt 16 y).toNat:Int)=_;generalize (BitVec.ofInt 16 x ^^^ BitVec.ofInt 16 y).toNat=m at *;unfold IntKind.wrap;show (if (false && _)=true then _ else ((m:Int) % 2 ^ 16))=_;simp;omega
theorem xor_u32 (x y:Int):∃ m:Nat,m < 4294967296∧xorI .u32 x y=m:=by refine ⟨(BitVec.ofInt 32 x ^^^ BitVec.ofInt 32 y).toNat,(BitVec.ofInt 32 x ^^^ BitVec.ofInt 32 y).isLt,?_⟩;have h:(BitVec.ofInt 32 x ^^^ BitVec.ofInt 32 y).toNat < 4294967296:=(BitVec.ofInt 32 x ^^^ BitVec.ofInt 32 y).isLt;show IntKind.u32.wrap ((BitVec.ofInt 32 x ^^^ BitVec.ofInt 32 y).toNat:Int)=_;generalize (BitVec.ofInt 32 x ^^^ BitVec.ofInt 32 y).toNat=m at *;unfold IntKind.wrap;show (if (false && _)=true then _ else ((m:Int) % 2 ^ 32))=_;simp;omega
def nat16 (l:Bs):Nat:=(sum16 l).toNat
def nat32 (l:Bs):Nat:=(sum32 l).toNat
theorem fold16:∀ (l:Bs) (s:Int),(∃ m:Nat,m < 65536∧s=m)→∃ m:Nat,m < 65536∧l.foldl up16 s=m
 | [],s,h=>h
 | c :: l,s,h=>fold16 l _ (xor_u16 ..)
theorem tj (l:Bs):sum16 l=nat16 l∧nat16 l < 65536:=by obtain ⟨m,h1,h2⟩:=fold16 l 65535 ⟨65535,by decide,rfl⟩;have j:sum16 l=m:=h2;unfold nat16;rw [j];exact ⟨rfl,h1⟩
theorem nat32_eq (l:Bs):sum32 l=nat32 l∧nat32 l < 4294967296:=by obtain ⟨m,h1,h2⟩:=xor_u32 IntKind.u32.max (l.foldl up32 4294967295);have j:sum32 l=m:=h2;unfold nat32;rw [j];exact ⟨rfl,h1⟩
def headA (seq:Nat):Bs:=[67,66]++putB seq 4
def headB (seq:Nat):Bs:=headA seq++putB (nat16 (headA seq)) 2
theorem xt (s:Nat):(headA s).length=6:=by unfold headA; rw [au,md]; rfl
theorem jo (s:Nat):(headB s).length=8:=by unfold headB; rw [au,md,xt]
section
variable {H:List AObj} {b w:Nat}
theorem s604:xCall T 604 [] ⟨H,b,w⟩=some (.agg [.int .u8 67,.int .u8 66],⟨H,b,w⟩):=by simp (disch:=omega) [-getElem?_pos,-getElem?_neg,-List.all_eq_true,qZ,qS,nltT,nltF,iltT,iltF,ileT,nleT,di,bg t604,code604]
theorem l7:∀ l:Bs,bytesOf (l.map u8V)=some l
 | []=>rfl
 | x :: l=>by rw [bi];unfold u8V bytesOf;have:=l7 l;unfold u8V at this;rw [this];simp
section
attribute [-simp] getElem?_pos getElem?_neg List.all_eq_true
attribute [local simp] qZ qS nltT nltF iltT iltF ileT nleT di
theorem s619 {p o n q r m:Nat} {c d:Option Nat} {l k:Bs} (j:SlB H p o n l) (y:SlB H q r m k) (B:0 < n) (hm:0 < m):xCall T 619 [.slice (some (p,o)) n c,.slice (some (q,r)) m d] ⟨H,b,w⟩=some (.bool (decide (l=k)),⟨H,b,w⟩):=by
 have h1:=fun w=>j.row (b:=b) (w:=w) B c
 have h2:=fun w=>y.row (b:=b) (w:=w) hm d
 simp (disch:=omega) [bg t619,code619,-il,h1,h2,l7]
theorem s630 {seq:Nat} (hs:seq < 4294967296) (J:b≤H.length):xCall T 630 [.int .u32 seq] ⟨H,b,w⟩=some (.slice (some (H.length,0)) 8 none,⟨H++[.cells 1 ((headB seq).map u8V)],b,w⟩):=by
 have j:=fun w=>s604 (H:=H) (b:=b) (w:=w)
 have h1:=fun w=>s385 (H:=H++[.cells 1 [.int .u8 67,.int .u8 66]]) (b:=b) (w:=w) (p:=H.length) (o:=0) (n:=2) (l:=[67,66]) (v:=seq) (k:=4) (c:=some 2) (SlB.whole (gc _ _) rfl) (by omega) (by omega) (by rw [au]; omega) (by omega) (by omega) (aj _)
 have G:SlB (H++[.cells 1 [.int .u8 67,.int .u8 66],.cells 1 ((headA seq).map u8V)]) (H.length+1) 0 6 (headA seq):=SlB.whole (jv _ _ 1) (xt _);have h2:=fun w=>s602 (b:=b) (w:=w) (c:=none) G (by omega) (by omega)
 obtain ⟨K,Q⟩:=tj (headA seq);rw [K] at h2;have y:=fun w=>s385 (b:=b) (w:=w) (c:=none) (v:=nat16 (headA seq)) (k:=2) G (by omega) (by omega) (by rw [au]; omega) (by omega) (by omega) (aj _)
 have L:headA seq++putB (nat16 (headA seq)) 2=headB seq:=rfl;rw [L,ba] at y;rw [ba] at h1;have B:([67,66]:Bs)++putB seq 4=headA seq:=rfl;rw [B] at h1;have C:IntKind.u64.wrap (seq:Int)=seq:=n9 (by omega);have D:IntKind.u64.wrap (nat16 (headA seq):Int)=nat16 (headA seq):=n9 (by omega);simp only [au,cq,eq,dq,Nat.reduceAdd,fh,dw,bf] at h1 h2 y;have N:=fun w0=>mw (O:=H) (P:=H++[.cells 1 [.int .u8 67,.int .u8 66],.cells 1 ((headA seq).map u8V),.cells 1 ((headB seq).map u8V)]) (b:=b) (w:=w0) (W:=H.length) (q:=H.length+2) (n:=8) (c:=none) (jv H _ 2) (ml _) (fun g=>ov g _) (by omega) (aj _)
 generalize (headB seq).map u8V=Y at *;generalize (headA seq).map u8V=U at *;simp (disch:=omega) [bg t630,code630,-dj,j,h1,h2,y,C,D,N]
end
theorem SlB.sub {p o n a k:Nat} {l:Bs} (j:SlB H p o n l) (ha:a+k≤n):SlB H p (o+a) k ((l.drop a).take k):=by obtain ⟨q,X,y,B⟩:=j;refine ⟨by rw [db,gh]; omega,X,y,?_⟩;rw [List.map_take,List.map_drop,← B,List.drop_take,List.take_take,jp,Nat.min_eq_left (by omega)]
theorem s603 {p o n q r m:Nat} {c d:Option Nat} {l k:Bs} (y:SlB H p o n l) (B:SlB H q r m k) (hm:0 < m) (j:m≤n) (hc:n≤c.getD n):xCall T 603 [.slice (some (p,o)) n c,.slice (some (q,r)) m d] ⟨H,b,w⟩=some (.bool (decide (l.take m=k)),⟨H,b,w⟩):=by
 have h1:=fun (c:Option Nat) w=>s619 (b:=b) (w:=w) (c:=c) (d:=d) (y.sub (a:=0) (k:=m) (by omega)) B hm hm
 rw [ff,qg] at h1;obtain ⟨C,X,D,K⟩:=y;have G:¬ n < m:=by omega
 have J:m≤c.getD n:=by omega
 simp (disch:=omega) [-getElem?_pos,-getElem?_neg,-List.all_eq_true,qZ,qS,nltT,nltF,iltT,iltF,ileT,nleT,di,bg t603,code603,h1,D,G,J,j]
def parseE (l:Bs):Nat:=if l.take 2=[67,66] then (if getB ((l.drop 6).take 2)=nat16 (l.take 6) then 0 else 7) else 8
def parseV (l:Bs):List AVal:=if parseE l=0 then [.int .u32 (getB ((l.drop 2).take 4):Nat),.bool (decide (l[8]? = some 0)),.bool (!decide (l[9]? = some 255))] else [.int .u32 0,.bool false,.bool false]
theorem wrap16 {x:Int} (h:0≤x∧x < 65536):IntKind.u16.wrap x=x:=by unfold IntKind.wrap;show (if (false && _)=true then _ else (x % 2 ^ 16))=_;simp;omega
theorem wrap32 {x:Int} (h:0≤x∧x < 4294967296):IntKind.u32.wrap x=x:=by unfold IntKind.wrap;show (if (false && _)=true then _ else (x % 2 ^ 32))=_;simp;omega
theorem u8_255 (x:UInt8):((x.toNat:Int)=255)=(x=255):=by
 apply propext;constructor
 ·intro h;have h1:x.toNat=255:=by omega
  exact UInt8.toNat_inj.1 h1
 ·rintro rfl; rfl
section
attribute [-simp] getElem?_pos getElem?_neg List.all_eq_true
attribute [local simp] qZ qS nltT nltF iltT iltF ileT nleT di
theorem s586 {p o n:Nat} {c:Option Nat} {l:Bs} (B:SlB H p o n l) (hn:12≤n) (hb:n≤1000000000) (hc:n≤c.getD n) (C:b≤H.length):xCall T 586 [.slice (some (p,o)) n c] ⟨H,b,w⟩=some (.tuple [.agg (parseV l),.int .i64 (parseE l)],⟨H,b,w⟩):=by
 have q:=fun w=>s604 (H:=H) (b:=b) (w:=w)
 have hM:SlB (H++[.cells 1 [.int .u8 67,.int .u8 66]]) H.length 0 2 [67,66]:=SlB.whole (gc _ _) rfl;have y:SlB (H++[.cells 1 [.int .u8 67,.int .u8 66]]) p o n l:=B.mono fun o ho=>by rw [ag (ah ho)]; exact ho
 have j:=fun d w=>s603 (b:=b) (w:=w) (d:=d) y hM (by omega) (by omega) hc
 have Q:=s500 (b:=b) (w:=H.length) (c:=c) (a:=6) (k:=2) y hc hb (by omega) (by omega);have U:=s500 (b:=b) (w:=H.length) (c:=c) (a:=2) (k:=4) y hc hb (by omega) (by omega);have N:=fun (c:Option Nat) w=>s602 (b:=b) (w:=w) (c:=c) (y.sub (a:=0) (k:=6) (by omega)) (by omega) (by omega)
 rw [ff,qg,(tj _).1] at N
 have g2:getB ((l.drop 6).take 2) < 65536:=by have:=getB_lt ((l.drop 6).take 2) 0 0 (by decide);rw [db,gh,Nat.min_eq_left (by have:=B.1; omega)] at this;exact this
 have g4:getB ((l.drop 2).take 4) < 4294967296:=by have:=getB_lt ((l.drop 2).take 4) 0 0 (by decide);rw [db,gh,Nat.min_eq_left (by have:=B.1; omega)] at this;exact this
 have w2:=wrap16 (x:=(getB ((l.drop 6).take 2):Int)) (by omega);have w4:=wrap32 (x:=(getB ((l.drop 2).take 4):Int)) (by omega);obtain ⟨x8,D⟩:∃ x,l[8]? = some x:=⟨_,ai (by have:=B.1; omega)⟩;obtain ⟨x9,G⟩:∃ x,l[9]? = some x:=⟨_,ai (by have:=B.1; omega)⟩;obtain ⟨X,J,V⟩:=B.get D;obtain ⟨X',K,W⟩:=B.get G;rw [J] at K;obtain rfl:X=X':=by simpa using K
 have z8:=u8_zero x8;have z9:=u8_255 x9;have y8:=ah V;have y9:=ah W;have q1:¬ n < 12:=by omega
 have a6:=(tj (l.take 6)).2;have wm:=wrap16 (x:=(nat16 (l.take 6):Int)) (by omega);have a0:=ah J;have L:(H++[AObj.cells 1 [.int .u8 67,.int .u8 66]])[p]? = some (.cells 1 X):=by rw [ag a0]; exact J
 have q2:6≤c.getD n:=by omega
 simp only [bf] at Q U N j;unfold parseV parseE;rw [D,G];by_cases c1:l.take 2=[67,66]
 ·rw [if_pos c1];by_cases c2:getB ((l.drop 6).take 2)=nat16 (l.take 6)
  ·rw [if_pos c2];generalize getB ((l.drop 6).take 2)=v2 at *;generalize getB ((l.drop 2).take 4)=v4 at *;generalize nat16 (l.take 6)=m at *;simp (disch:=omega) [bg t586,code586,q,j,Q,U,N,w2,wm,w4,c1,c2,J,V,W,y8,y9,z8,z9,q1,q2,C,L];exact ⟨fun h=>UInt8.toNat_inj.1 h,fun h=>h ▸ rfl⟩
  ·rw [if_neg c2];generalize getB ((l.drop 6).take 2)=v2 at *;generalize getB ((l.drop 2).take 4)=v4 at *;generalize nat16 (l.take 6)=m at *;have c3:¬ ((v2:Int)=m):=by omega
   simp (disch:=omega) [bg t586,code586,q,j,Q,U,N,w2,w4,c1,c3,J,V,W,y8,y9,z8,z9,q1,q2,C,L]
 ·rw [if_neg c1];simp (disch:=omega) [bg t586,code586,q,j,c1,q1,C]
end
end
end Go.Abs.AbsBlb
