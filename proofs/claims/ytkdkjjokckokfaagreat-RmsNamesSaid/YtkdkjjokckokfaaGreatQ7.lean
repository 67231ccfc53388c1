/-
  Texts joined.
-/
import Derived.Test.YtkdkjjokckokfaaGreatQ0
import Derived.Test.YtkdkjjokckokfaaGreatQ6
import Derived.Lib.ParseIntB
import Derived.Lib.ItoaMem
set_option linter.unusedVariables false
set_option linter.unusedSimpArgs false
set_option maxRecDepth 100000
namespace Go.Abs.AbsBlb
open Go.Abs.Short
def code0L0:ACode :=
 .live [5,6,11,12,13] (S (R [5,6,11,12,13,14] [o 14 (Bt .lss 13 12)])
 (S (.after (.cond (t 14) (.skip) (.live [5] (.exit 0))) [5,6,11,12,13])
 (S (.after (.block 1 (S (R [5,6,8,11,12,13] [o 15 (.iaddr 3 (t 11) (t 13)),o 16 (.load (some 3) (t 15)),o 8 (.lalloc [.int .i64 0,.int .u32 0,.int .i64 0]),u (.store 3 (t 8) (t 16))])
 (S (R [5,6,11,12,13,19] [v 17 6,o 18 (.load (some 3) (t 8)),o 19 (.call (t 17) [t 18])])
 (.after (.cond (t 19) (R [5,6,11,12,13] [v 20 5,o 21 (Bn .add 20 1),v 5 21]) (.skip)) [5,6,11,12,13])))) [5,6,11,12,13])
 (R [5,6,11,12,13] [o 22 (Bn .add 13 1),v 13 22]))))
def code0:AFunc:=⟨false,false,2,24,[.tmp 4],
 S (R [0,1] [o 4 (.val (n 0))])
 (S (R [0,5,6] [v 9 1,o 10 (.callg 13 [t 9]),o 5 (.val (n 0)),v 6 10])
 (S (S (R [5,6,11,12,13] [v 11 0,o 12 (Sl 11),o 13 (.val (n 0))])
 (.after (.block 0 (.loop code0L0)) [5]))
 (S (R [4] [v 23 5,v 4 23])
 (Z [4])))),none⟩
def code5:AFunc:=⟨false,false,1,8,[.tmp 2,.tmp 3],
 S (R [0] [o 2 (.val (n 0)),o 3 (.val F)])
 (S (R [2,3] [v 4 0,o 5 (.callg 17 [t 4,.const (.func 18 [] []),.const (.func 19 [] [])]),o 6 (Xt 5 0),o 7 (Xt 5 1),v 2 6,v 3 7])
 (Z [2,3])),none⟩
def code7:AFunc:=⟨false,false,2,12,[.tmp 4,.tmp 5],
 S (R [0,1] [o 4 (.val (n 0)),o 5 (.val F)])
 (S (R [4,5] [v 6 0,v 7 1,o 8 (.callg 13 [t 7]),o 9 (.callg 14 [t 6,t 8,.const (.func 15 [] [])]),o 10 (Xt 9 0),o 11 (Xt 9 1),v 4 10,v 5 11])
 (Z [4,5])),none⟩
def code13:AFunc:=⟨false,false,1,4,[.tmp 2],
 S (R [1] [o 1 (.box (t 0)),o 2 (.val (.const (.nilFunc)))])
 (S (R [2] [o 3 (.mkfunc 22 [] [t 1]),v 2 3])
 (Z [2])),none⟩
def code14L0:ACode :=
 .live [0,1,2,8,9,12,13,14] (S (R [0,1,2,8,9,12,13,14,15] [o 15 (Bt .lss 14 13)])
 (S (.after (.cond (t 15) (.skip) (.live [8,9] (.exit 0))) [0,1,2,8,9,12,13,14])
 (S (.after (.block 1 (S (R [0,1,2,8,9,10,11,12,13,14] [v 16 14,o 17 (.iaddr 3 (t 12) (t 14)),o 18 (.load (some 3) (t 17)),o 11 (.lalloc [.int .i64 0,.int .u32 0,.int .i64 0]),v 10 16,u (.store 3 (t 11) (t 18))])
 (S (.after (.region [⟨true,[],[v 19 1,o 20 (.load (some 3) (t 11))]⟩,⟨false,[],[o 21 (.call (t 19) [t 20]),v 22 21,g 23 22 true (Vl 9),g 24 22 true (.un .not (t 23)),g 25 22 true (Vl 24)]⟩,⟨true,[],[g 26 25 false (Vl 2),g 27 25 false (.load (some 3) (t 11)),g 28 25 false (.call (t 26) [t 27]),g 29 25 false (Vl 2),g 30 25 false (Vl 0),g 31 25 false (Vl 8),g 32 25 false (.iaddr 3 (t 30) (t 31)),g 33 25 false (.load (some 3) (t 32))]⟩,⟨false,[],[g 34 25 false (.call (t 29) [t 33]),g 35 25 false (Bt .lss 28 34),g 36 22 true (.pick (t 25) Y (t 35)),o 37 (.pick (t 22) (t 36) F)]⟩]) [0,1,2,8,9,10,12,13,14,37])
 (.after (.cond (t 37) (R [0,1,2,8,9,12,13,14] [v 38 10,v 8 38,o 9 (.val Y)]) (.skip)) [0,1,2,8,9,12,13,14])))) [0,1,2,8,9,12,13,14])
 (R [0,1,2,8,9,12,13,14] [o 39 (Bn .add 14 1),v 14 39]))))
def code14:AFunc:=⟨false,false,3,42,[.tmp 6,.tmp 7],
 S (R [0,1,2] [o 6 (.val (n 0)),o 7 (.val F)])
 (S (R [0,1,2,8,9] [o 8 (.val (n 0)),o 9 (.val F)])
 (S (S (R [0,1,2,8,9,12,13,14] [v 12 0,o 13 (Sl 12),o 14 (.val (n 0))])
 (.after (.block 0 (.loop code14L0)) [8,9]))
 (S (R [6,7] [v 40 8,v 41 9,v 6 40,v 7 41])
 (Z [6,7])))),none⟩
def code15:AFunc:=⟨false,false,1,5,[.tmp 2],
 S (R [1] [o 1 (.lbox (t 0)),o 2 (.val (n 0))])
 (S (R [2] [o 3 (Fa 1 2),o 4 (Lq 3),v 2 4])
 (Z [2])),none⟩
def code17L0:ACode :=
 .live [0,1,2,8,9,12,13,14] (S (R [0,1,2,8,9,12,13,14,15] [o 15 (Bt .lss 14 13)])
 (S (.after (.cond (t 15) (.skip) (.live [8,9] (.exit 0))) [0,1,2,8,9,12,13,14])
 (S (.after (.block 1 (S (R [0,1,2,8,9,10,11,12,13,14] [v 16 14,o 17 (.iaddr 3 (t 12) (t 14)),o 18 (.load (some 3) (t 17)),o 11 (.lalloc [.int .i64 0,.int .u32 0,.int .i64 0]),v 10 16,u (.store 3 (t 11) (t 18))])
 (S (.after (.region [⟨true,[],[v 19 1,o 20 (.load (some 3) (t 11))]⟩,⟨false,[],[o 21 (.call (t 19) [t 20]),v 22 21,g 23 22 true (Vl 9),g 24 22 true (.un .not (t 23)),g 25 22 true (Vl 24)]⟩,⟨true,[],[g 26 25 false (Vl 2),g 27 25 false (.load (some 3) (t 11)),g 28 25 false (.call (t 26) [t 27]),g 29 25 false (Vl 2),g 30 25 false (Vl 0),g 31 25 false (Vl 8),g 32 25 false (.iaddr 3 (t 30) (t 31)),g 33 25 false (.load (some 3) (t 32))]⟩,⟨false,[],[g 34 25 false (.call (t 29) [t 33]),g 35 25 false (Bt .lss 28 34),g 36 22 true (.pick (t 25) Y (t 35)),o 37 (.pick (t 22) (t 36) F)]⟩]) [0,1,2,8,9,10,12,13,14,37])
 (.after (.cond (t 37) (R [0,1,2,8,9,12,13,14] [v 38 10,v 8 38,o 9 (.val Y)]) (.skip)) [0,1,2,8,9,12,13,14])))) [0,1,2,8,9,12,13,14])
 (R [0,1,2,8,9,12,13,14] [o 39 (Bn .add 14 1),v 14 39]))))
def code17:AFunc:=⟨false,false,3,42,[.tmp 6,.tmp 7],
 S (R [0,1,2] [o 6 (.val (n 0)),o 7 (.val F)])
 (S (R [0,1,2,8,9] [o 8 (.val (n 0)),o 9 (.val F)])
 (S (S (R [0,1,2,8,9,12,13,14] [v 12 0,o 13 (Sl 12),o 14 (.val (n 0))])
 (.after (.block 0 (.loop code17L0)) [8,9]))
 (S (R [6,7] [v 40 8,v 41 9,v 6 40,v 7 41])
 (Z [6,7])))),none⟩
def code18:AFunc:=⟨false,false,1,6,[.tmp 2],
 S (R [1] [o 1 (.lbox (t 0)),o 2 (.val F)])
 (S (R [2] [o 3 (Fa 1 0),o 4 (Lq 3),o 5 (Bn .eql 4 2),v 2 5])
 (Z [2])),none⟩
def code19:AFunc:=⟨false,false,1,5,[.tmp 2],
 S (R [1] [o 1 (.lbox (t 0)),o 2 (.val (.const (.int .u32 0)))])
 (S (R [2] [o 3 (Fa 1 1),o 4 (Lq 3),v 2 4])
 (Z [2])),none⟩
def code22:AFunc:=⟨false,false,2,18,[.tmp 3],
 S (R [1,2] [o 2 (.lbox (t 0)),o 3 (.val F)])
 (S (R [3] [o 4 (Fa 2 0),o 5 (Lq 4),o 6 (Bn .eql 5 0),v 7 6,g 8 7 false (Fa 2 0),g 9 7 false (Lq 8),g 10 7 false (Bn .eql 9 1),g 11 7 false (Vl 10),g 12 11 true (Fa 2 2),g 13 11 true (Lq 12),g 14 11 true (Lq 1),g 15 11 true (Bt .lss 13 14),g 16 7 false (.pick (t 11) (t 15) F),o 17 (.pick (t 7) Y (t 16)),v 3 17])
 (Z [3])),none⟩
def code145:AFunc:=⟨false,false,2,9,[.tmp 4],
 S (R [0,1] [o 4 (.val F)])
 (S (R [4] [v 5 0,v 6 1,o 7 (.callg 176 [t 5,t 6]),o 8 (Bn .geq 7 0),v 4 8])
 (Z [4])),none⟩
def code166:AFunc:=⟨false,false,1,8,[.tmp 2],
 S (R [0] [o 2 (.val (n 0))])
 (S (.after (.cond F (S (R [2] [v 3 0,o 4 (.conv (.int .u32) (t 3)),o 5 (.nextStr F),v 2 5])
 (Z [2])) (.skip)) [0])
 (S (R [2] [v 6 0,o 7 (.callg 200 [t 6]),v 2 7])
 (Z [2]))),none⟩
def code176L0:ACode :=
 .live [0,1,7,8] (S (R [0,1,7,8,9] [o 9 (Bt .lss 8 7)])
 (S (.after (.cond (t 9) (.skip) (.live [] (.exit 0))) [0,1,7,8])
 (S (.after (.block 1 (S (R [0,1,5,7,8] [v 10 8,v 5 10])
 (S (R [0,1,5,7,8,16] [v 11 1,v 12 0,v 13 5,o 14 (.iaddr 1 (t 12) (t 13)),o 15 (Lq 14),o 16 (.call (t 11) [t 15])])
 (.after (.cond (t 16) (S (R [4] [v 17 5,v 4 17])
 (Z [4])) (.skip)) [0,1,7,8])))) [0,1,7,8])
 (R [0,1,7,8] [o 18 (Bn .add 8 1),v 8 18]))))
def code176:AFunc:=⟨false,false,2,19,[.tmp 4],
 S (R [0,1] [o 4 (.val (n 0))])
 (S (S (R [0,1,7,8] [v 6 0,o 7 (Sl 6),o 8 (.val (n 0))])
 (.after (.block 0 (.loop code176L0)) []))
 (S (R [4] [o 4 (.val (.const (.int .i64 (-1))))])
 (Z [4]))),none⟩
def code200:AFunc:=⟨false,false,1,25,[.tmp 2],
 S (R [0,2] [o 2 (.val (n 0))])
 (S (S (R [0,2,4] [v 3 0,o 4 (.bin .geq (t 3) (.const (.int .u64 4294967296)))])
 (.after (.cond (t 4) (S (R [0] [v 5 0,o 6 (.bin .shr (t 5) (.const (.int .u64 32))),v 0 6])
 (R [0,2] [o 2 (.val (n 32))])) (.skip)) [0,2]))
 (S (S (R [0,2,8] [v 7 0,o 8 (.bin .geq (t 7) (.const (.int .u64 65536)))])
 (.after (.cond (t 8) (S (R [0,2] [v 9 0,o 10 (.bin .shr (t 9) (.const (.int .u64 16))),v 0 10])
 (R [0,2] [v 11 2,o 12 (Bn .add 11 16),v 2 12])) (.skip)) [0,2]))
 (S (S (R [0,2,14] [v 13 0,o 14 (.bin .geq (t 13) (.const (.int .u64 256)))])
 (.after (.cond (t 14) (S (R [0,2] [v 15 0,o 16 (.bin .shr (t 15) (.const (.int .u64 8))),v 0 16])
 (R [0,2] [v 17 2,o 18 (Bn .add 17 8),v 2 18])) (.skip)) [0,2]))
 (S (R [2] [v 19 2,v 20 0,o 21 (.conv (.int .u8) (t 20)),o 22 (.index (Ks [0,1,2,2,3,3,3,3,4,4,4,4,4,4,4,4,5,5,5,5,5,5,5,5,5,5,5,5,5,5,5,5,6,6,6,6,6,6,6,6,6,6,6,6,6,6,6,6,6,6,6,6,6,6,6,6,6,6,6,6,6,6,6,6,7,7,7,7,7,7,7,7,7,7,7,7,7,7,7,7,7,7,7,7,7,7,7,7,7,7,7,7,7,7,7,7,7,7,7,7,7,7,7,7,7,7,7,7,7,7,7,7,7,7,7,7,7,7,7,7,7,7,7,7,7,7,7,7,8,8,8,8,8,8,8,8,8,8,8,8,8,8,8,8,8,8,8,8,8,8,8,8,8,8,8,8,8,8,8,8,8,8,8,8,8,8,8,8,8,8,8,8,8,8,8,8,8,8,8,8,8,8,8,8,8,8,8,8,8,8,8,8,8,8,8,8,8,8,8,8,8,8,8,8,8,8,8,8,8,8,8,8,8,8,8,8,8,8,8,8,8,8,8,8,8,8,8,8,8,8,8,8,8,8,8,8,8,8,8,8,8,8,8,8,8,8,8,8,8,8,8,8,8,8,8,8]) (t 21)),o 23 (.conv (.int .i64) (t 22)),o 24 (Bt .add 19 23),v 2 24])
 (Z [2]))))),none⟩
def code411:AFunc:=⟨false,false,1,9,[.tmp 2],
 S (R [0] [o 2 (.val F)])
 (S (R [2] [v 3 0,o 4 (Bn .geq 3 1),v 5 4,g 6 5 true (Vl 0),g 7 5 true (Bn .leq 6 8),o 8 (.pick (t 5) (t 7) F),v 2 8])
 (Z [2])),none⟩
def code454:AFunc:=⟨false,false,2,30,[.tmp 4,.tmp 5],
 S (R [0,1] [o 4 (.val (.const (.int .u64 0))),o 5 (.val (.const (.int .u64 0)))])
 (S (.after (.cond F (S (R [6,7] [v 11 0,o 12 (.conv (.int .u32) (t 11)),v 13 1,o 14 (.conv (.int .u32) (t 13)),o 15 (.callg 467 [t 12,t 14]),v 10 15,o 16 (Xt 10 0),o 17 (Xt 10 1),v 6 16,v 7 17])
 (S (R [4,5] [v 18 6,o 19 (.conv (.int .u64) (t 18)),v 20 7,o 21 (.conv (.int .u64) (t 20)),v 4 19,v 5 21])
 (Z [4,5]))) (.skip)) [0,1])
 (S (R [8,9] [v 23 0,v 24 1,o 25 (.callg 466 [t 23,t 24]),v 22 25,o 26 (Xt 22 0),o 27 (Xt 22 1),v 8 26,v 9 27])
 (S (R [4,5] [v 28 8,v 29 9,v 4 28,v 5 29])
 (Z [4,5])))),none⟩
def code466:AFunc:=⟨false,false,2,51,[.tmp 4,.tmp 5],
 S (R [0,1] [o 4 (.val (.const (.int .u64 0))),o 5 (.val (.const (.int .u64 0)))])
 (S (R [0,1,6] [v 14 0,o 15 (.bin .and (t 14) (.const (.int .u64 4294967295))),v 6 15])
 (S (R [0,1,6,7] [v 16 0,o 17 (.bin .shr (t 16) (.const (.int .u64 32))),v 7 17])
 (S (R [0,1,6,7,8] [v 18 1,o 19 (.bin .and (t 18) (.const (.int .u64 4294967295))),v 8 19])
 (S (R [0,1,6,7,8,9] [v 20 1,o 21 (.bin .shr (t 20) (.const (.int .u64 32))),v 9 21])
 (S (R [0,1,6,7,8,9,10] [v 22 6,v 23 8,o 24 (Bt .mul 22 23),v 10 24])
 (S (R [0,1,6,7,9,11] [v 25 7,v 26 8,o 27 (Bt .mul 25 26),v 28 10,o 29 (.bin .shr (t 28) (.const (.int .u64 32))),o 30 (Bt .add 27 29),v 11 30])
 (S (R [0,1,6,7,9,11,12] [v 31 11,o 32 (.bin .and (t 31) (.const (.int .u64 4294967295))),v 12 32])
 (S (R [0,1,6,7,9,12,13] [v 33 11,o 34 (.bin .shr (t 33) (.const (.int .u64 32))),v 13 34])
 (S (R [0,1,7,9,12,13] [v 35 12,v 36 6,v 37 9,o 38 (Bt .mul 36 37),o 39 (Bt .add 35 38),v 12 39])
 (S (R [0,1,4] [v 40 7,v 41 9,o 42 (Bt .mul 40 41),v 43 13,o 44 (Bt .add 42 43),v 45 12,o 46 (.bin .shr (t 45) (.const (.int .u64 32))),o 47 (Bt .add 44 46),v 4 47])
 (S (R [4,5] [v 48 0,v 49 1,o 50 (Bt .mul 48 49),v 5 50])
 (Z [4,5])))))))))))),none⟩
def code482:AFunc:=⟨false,false,2,23,[.tmp 4,.tmp 5],
 S (R [0,1] [o 4 (.val (.const (.slice none 0 (some 0)))),o 5 (.val F)])
 (S (S (R [0,1,9] [v 8 0,o 9 (.eqnil .ptr false (t 8) (.const (.ptr none)))])
 (.after (.cond (t 9) (S (R [4,5] [o 4 (.val (.const (.slice none 0 (some 0)))),o 5 (.val F)])
 (Z [4,5])) (.skip)) [0,1]))
 (S (R [6,7] [v 11 0,o 12 (.nilcheck (t 11)),o 13 (Fa 12 5),o 14 (Lq 13),v 15 1,o 16 (.ext (.lookup (.one .s) (.agg [.int .i64 0,.int .i64 0,.str []]) true) [t 14,t 15]),v 10 16,o 17 (Xt 10 0),o 18 (Xt 10 1),o 6 (.lalloc [.int .i64 0,.int .i64 0,.str []]),u (.store 3 (t 6) (t 17)),v 7 18])
 (S (R [4,5] [o 19 (Fa 6 2),o 20 (Lq 19),o 21 (.conv .bytes (t 20)),v 22 7,v 4 21,v 5 22])
 (Z [4,5])))),none⟩
def code500L0:ACode :=
 .live [8,36,37,38] (S (R [8,36,37,38,39] [o 39 (Bt .lss 38 37)])
 (S (.after (.cond (t 39) (.skip) (.live [8] (.exit 1))) [8,36,37,38])
 (S (.after (.block 2 (S (R [8,10,36,37,38] [o 40 (.iaddr 1 (t 36) (t 38)),o 41 (Lq 40),v 10 41])
 (R [8,36,37,38] [v 42 8,o 43 (.bin .shl (t 42) (.const (.int .u64 8))),v 44 10,o 45 (.conv (.int .u64) (t 44)),o 46 (Bt .or 43 45),v 8 46]))) [8,36,37,38])
 (R [8,36,37,38] [o 47 (Bn .add 38 1),v 38 47]))))
def code500:AFunc:=⟨false,false,3,49,[.tmp 6,.tmp 7],
 S (R [0,1,2] [o 6 (.val (.const (.int .u64 0))),o 7 (.val (n 0))])
 (S (.after (.block 0 (S (R [0,1,2,11] [v 12 2,o 13 (.callg 411 [t 12]),o 14 (.un .not (t 13)),v 11 14])
 (.after (.cond (t 11) (S (R [6,7] [o 6 (.val (.const (.int .u64 0))),o 7 (.val (n 1))])
 (Z [6,7])) (S (R [0,1,2,15] [v 16 1,o 17 (Bn .lss 16 0),v 18 17,g 19 18 false (Vl 1),g 20 18 false (Vl 0),g 21 18 false (Sl 20),g 22 18 false (Bt .gtr 19 21),o 23 (.pick (t 18) Y (t 22)),v 24 23,g 25 24 false (Vl 0),g 26 24 false (Sl 25),g 27 24 false (Vl 1),g 28 24 false (Bt .sub 26 27),g 29 24 false (Vl 2),g 30 24 false (Bt .lss 28 29),o 31 (.pick (t 24) Y (t 30)),v 15 31])
 (.after (.cond (t 15) (S (R [6,7] [o 6 (.val (.const (.int .u64 0))),o 7 (.val (n 6))])
 (Z [6,7])) (.skip)) [0,1,2]))) [0,1,2]))) [0,1,2])
 (S (R [0,1,2,8] [o 8 (.val (.const (.int .u64 0)))])
 (S (S (R [8,36,37,38] [v 32 0,v 33 1,o 34 (.slice (.sl 1) (t 32) (some (t 33)) none none),v 35 2,o 36 (.slice (.sl 1) (t 34) none (some (t 35)) none),o 37 (Sl 36),o 38 (.val (n 0))])
 (.after (.block 1 (.loop code500L0)) [8]))
 (S (R [6,7] [v 48 8,v 6 48,o 7 (.val (n 0))])
 (Z [6,7]))))),none⟩
def code558L0:ACode :=
 .live [0,2,7,24,25,26] (S (R [0,2,7,24,25,26,27] [o 27 (Bt .lss 26 25)])
 (S (.after (.cond (t 27) (.skip) (.live [0,2,7] (.exit 0))) [0,2,7,24,25,26])
 (S (.after (.block 1 (S (R [0,2,7,9,10,24,25,26] [v 28 26,o 29 (.iaddr 1 (t 24) (t 26)),o 30 (Lq 29),v 9 28,v 10 30])
 (S (R [0,2,7,24,25,26,37] [v 31 10,v 32 7,v 33 9,o 34 (.iaddr 1 (t 32) (t 33)),o 35 (Lq 34),o 36 (Bt .andNot 31 35),o 37 (.bin .neq (t 36) (.const (.int .u8 0)))])
 (.after (.cond (t 37) (S (R [6] [o 6 (.val (n 3))])
 (Z [6])) (.skip)) [0,2,7,24,25,26])))) [0,2,7,24,25,26])
 (R [0,2,7,24,25,26] [o 38 (Bn .add 26 1),v 26 38]))))
def code558:AFunc:=⟨false,false,3,74,[.tmp 6],
 S (R [0,1,2] [o 6 (.val (n 0))])
 (S (R [0,2,7,8] [v 14 0,v 15 1,v 16 2,o 17 (Sl 16),o 18 (.callg 583 [t 14,t 15,t 17]),v 13 18,o 19 (Xt 13 0),o 20 (Xt 13 1),v 7 19,v 8 20])
 (S (S (R [0,2,7,8,22] [v 21 8,o 22 (Bn .neq 21 0)])
 (.after (.cond (t 22) (S (R [6] [v 23 8,v 6 23])
 (Z [6])) (.skip)) [0,2,7]))
 (S (S (R [0,2,7,24,25,26] [v 24 2,o 25 (Sl 24),o 26 (.val (n 0))])
 (.after (.block 0 (.loop code558L0)) [0,2,7]))
 (S (R [0,2,7,11,12] [v 40 0,v 41 2,o 42 (Sl 41),o 43 (.callg 582 [t 40,t 42]),v 39 43,o 44 (Xt 39 0),o 45 (Xt 39 1),v 11 44,v 12 45])
 (S (R [0,2,7,11,12] [v 46 7,v 47 2,v 48 11,o 49 (.slice (.sl 1) (t 47) none (some (t 48)) none),o 50 (.ext (.copy 1) [t 46,t 49])])
 (S (S (R [0,2,7,11,52] [v 51 12,o 52 (.un .not (t 51))])
 (.after (.cond (t 52) (S (R [6] [o 6 (.val (n 0))])
 (Z [6])) (.skip)) [0,2,7,11]))
 (S (S (R [0,2,7,11,56] [v 53 11,v 54 2,o 55 (Sl 54),o 56 (Bt .lss 53 55)])
 (.after (.cond (t 56) (.after (.region [⟨true,[],[v 57 7,v 58 11,o 59 (.iaddr 1 (t 57) (t 58)),o 60 (Lq 59),v 61 2,v 62 11,o 63 (.iaddr 1 (t 61) (t 62)),o 64 (Lq 63),o 65 (.un .xor (t 64)),v 66 0,o 67 (.nilcheck (t 66)),o 68 (Fa 67 7),o 69 (Fa 68 1),o 70 (Lq 69),o 71 (Bt .and 65 70)]⟩,⟨false,[],[o 72 (Bt .andNot 60 71),o 73 (.iaddr 1 (t 57) (t 58)),u (.store 1 (t 73) (t 72))]⟩]) []) (.skip)) []))
 (S (R [6] [o 6 (.val (n 5))])
 (Z [6]))))))))),none⟩
def code561:AFunc:=⟨false,false,1,11,[.tmp 2],
 S (R [0] [o 2 (.val F)])
 (S (R [2] [v 3 0,o 4 (.eqnil .ptr false (t 3) (.const (.ptr none))),v 5 4,g 6 5 false (Vl 0),g 7 5 false (.nilcheck (t 6)),g 8 5 false (Fa 7 10),g 9 5 false (Lq 8),o 10 (.pick (t 5) Y (t 9)),v 2 10])
 (Z [2])),none⟩
def code564:AFunc:=⟨false,false,2,68,[.cell 4 (some 3),.tmp 5],
 S (R [0,1,4] [o 4 (.alloc 3 [.int .i64 0,.int .u32 0,.int .i64 0]),o 5 (.val (n 0))])
 (S (R [0,1,4,6] [v 11 0,o 12 (.callg 573 [t 11]),o 6 (.lalloc [.int .i64 0,.int .i64 0,.int .i64 0]),u (.store 3 (t 6) (t 12))])
 (S (S (R [0,1,4,6,20] [v 13 1,o 14 (Bn .lss 13 0),v 15 14,g 16 15 false (Vl 1),g 17 15 false (Fa 6 0),g 18 15 false (Lq 17),g 19 15 false (Bt .geq 16 18),o 20 (.pick (t 15) Y (t 19))])
 (.after (.cond (t 20) (S (R [4,5] [o 21 (.build [.int .i64 0,.int .u32 0,.int .i64 0] []),u (.store 3 (t 4) (t 21)),o 5 (.val (n 2))])
 (Z [4,5])) (.skip)) [0,1,4,6]))
 (S (R [0,1,4,7,8] [v 23 0,v 24 1,o 25 (Fa 6 1),o 26 (Lq 25),o 27 (Bt .mul 24 26),o 28 (Fa 6 1),o 29 (Lq 28),o 30 (.callg 588 [t 23,t 27,t 29]),v 22 30,o 31 (Xt 22 0),o 32 (Xt 22 1),v 7 31,v 8 32])
 (S (S (R [0,1,4,7,8,34] [v 33 8,o 34 (Bn .neq 33 0)])
 (.after (.cond (t 34) (S (R [4,5] [o 35 (.build [.int .i64 0,.int .u32 0,.int .i64 0] []),v 36 8,u (.store 3 (t 4) (t 35)),v 5 36])
 (Z [4,5])) (.skip)) [0,1,4,7]))
 (S (R [4,7,9] [v 37 0,v 38 1,o 39 (.callg 587 [t 37,t 38]),o 40 (.build [.int .i64 0,.int .u32 0,.int .i64 0] [(0,1,n 1),(2,1,t 39)]),o 9 (.alloc 3 [.int .i64 0,.int .u32 0,.int .i64 0]),u (.store 3 (t 9) (t 40))])
 (S (R [4,7,8,9,10] [v 42 7,o 43 (.callg 586 [t 42]),v 41 43,o 44 (Xt 41 0),o 45 (Xt 41 1),o 10 (.lalloc [.int .u32 0,.bool false,.bool false]),u (.store 3 (t 10) (t 44)),v 8 45])
 (S (.after (.block 0 (S (R [4,8,9,10,46] [v 47 7,o 48 (.callg 145 [t 47,.const (.func 585 [] [])]),o 49 (.un .not (t 48)),v 46 49])
 (.after (.cond (t 46) (R [4,9] [o 50 (Fa 9 0),u (.store 1 (t 50) (n 0))]) (S (R [4,9,10,51] [v 52 8,o 53 (Bn .eql 52 0),v 54 53,g 55 54 true (Fa 10 1),g 56 54 true (Lq 55),o 57 (.pick (t 54) (t 56) F),v 58 57,g 59 58 true (Fa 10 2),g 60 58 true (Lq 59),g 61 58 true (.un .not (t 60)),o 62 (.pick (t 58) (t 61) F),v 51 62])
 (.after (.cond (t 51) (.after (.region [⟨true,[0,1,0,4],[o 63 (Fa 10 0),o 64 (Lq 63),o 65 (Fa 9 0),u (.ext (.hstore 1) [t 65,n 2])]⟩,⟨false,[],[o 66 (Fa 9 1),u (.store 1 (t 66) (t 64))]⟩]) [4,9]) (.skip)) [4,9]))) [4,9]))) [4,9])
 (S (R [4,5] [o 67 (.load (some 3) (t 9)),u (.store 3 (t 4) (t 67)),o 5 (.val (n 0))])
 (Z [4,5]))))))))),none⟩
def code568:AFunc:=⟨false,false,3,15,[.tmp 6],
 S (R [0,1,2] [o 6 (.val F)])
 (S (R [6] [v 7 0,v 8 1,o 9 (Bt .geq 7 8),v 10 9,g 11 10 true (Vl 0),g 12 10 true (Vl 2),g 13 10 true (Bt .leq 11 12),o 14 (.pick (t 10) (t 13) F),v 6 14])
 (Z [6])),none⟩
def code572:AFunc:=⟨false,false,2,9,[],
 R [] [v 4 0,v 5 0,o 6 (Sl 5),v 7 1,o 8 (.callg 590 [t 4,t 6,t 7])],none⟩
def code573:AFunc:=⟨false,false,1,10,[.cell 2 (some 3)],
 S (R [0,2] [o 2 (.lalloc [.int .i64 0,.int .i64 0,.int .i64 0])])
 (S (S (R [0,2,4] [v 3 0,o 4 (.eqnil .ptr false (t 3) (.const (.ptr none)))])
 (.after (.cond (t 4) (S (R [2] [o 5 (.build [.int .i64 0,.int .i64 0,.int .i64 0] []),u (.store 3 (t 2) (t 5))])
 (Z [2])) (.skip)) [0,2]))
 (S (R [2] [v 6 0,o 7 (.nilcheck (t 6)),o 8 (Fa 7 0),o 9 (.load (some 3) (t 8)),u (.store 3 (t 2) (t 9))])
 (Z [2]))),none⟩
def code577L0:ACode :=
 .live [0,59,60,61] (S (R [0,59,60,61,62] [o 62 (Bt .lss 61 60)])
 (S (.after (.cond (t 62) (.skip) (.live [] (.exit 2))) [0,59,60,61])
 (S (.after (.block 3 (S (R [0,11,59,60,61] [o 63 (.iaddr 6 (t 59) (t 61)),o 64 (.load (some 6) (t 63)),o 11 (.lalloc [.int .i64 0,.int .i64 0,.int .u32 0,.str [],.slice none 0 (some 0),.int .i64 0]),u (.store 6 (t 11) (t 64))])
 (.after (.region [⟨true,[],[v 65 0,v 66 0,o 67 (.nilcheck (t 66)),o 68 (Fa 67 6),o 69 (Lq 68),o 70 (.load (some 6) (t 11))]⟩,⟨false,[],[o 71 (.callg 600 [t 65,t 69,t 70])]⟩]) [0,59,60,61]))) [0,59,60,61])
 (R [0,59,60,61] [o 72 (Bn .add 61 1),v 61 72]))))
def code577L1:ACode :=
 .live [0,1,5,19,20,21] (S (R [0,1,5,19,20,21,22] [o 22 (Bt .lss 21 20)])
 (S (.after (.cond (t 22) (.skip) (.live [0,1,5] (.exit 0))) [0,1,5,19,20,21])
 (S (.after (.block 1 (S (R [0,1,5,7,19,20,21] [o 23 (.iaddr 5 (t 19) (t 21)),o 24 (.load (some 5) (t 23)),o 7 (.lalloc [.int .i64 0,.int .u32 0,.str [],.slice none 0 (some 0),.int .i64 0]),u (.store 5 (t 7) (t 24))])
 (S (R [0,1,5,7,19,20,21] [v 25 0,o 26 (.nilcheck (t 25)),o 27 (Fa 26 8),o 28 (Lq 27),o 29 (Fa 7 1),u (.store 1 (t 29) (t 28))])
 (S (R [0,1,5,8,9,19,20,21] [v 31 0,o 32 (.load (some 5) (t 7)),o 33 (.callg 601 [t 31,t 32]),v 30 33,o 34 (Xt 30 0),o 35 (Xt 30 1),o 8 (.lalloc [.int .i64 0,.int .i64 0,.int .u32 0,.str [],.slice none 0 (some 0),.int .i64 0]),u (.store 6 (t 8) (t 34)),v 9 35])
 (S (S (R [0,1,5,8,9,19,20,21,37] [v 36 9,o 37 (Bn .neq 36 0)])
 (.after (.cond (t 37) (S (R [4] [v 38 9,v 4 38])
 (Z [4])) (.skip)) [0,1,5,8,19,20,21]))
 (R [0,1,5,19,20,21] [v 39 5,o 40 (.load (some 6) (t 8)),o 41 (.mkslice 6 1 [.int .i64 0,.int .i64 0,.int .u32 0,.str [],.slice none 0 (some 0),.int .i64 0] [(0,6,t 40)]),o 42 (.append 6 72 (t 39) (t 41)),v 5 42])))))) [0,1,5,19,20,21])
 (R [0,1,5,19,20,21] [o 43 (Bn .add 21 1),v 21 43]))))
def code577:AFunc:=⟨false,false,2,73,[.tmp 4],
 S (R [0,1] [o 4 (.val (n 0))])
 (S (R [0,1] [v 12 0,o 13 (.nilcheck (t 12)),o 14 (Fa 13 8),o 15 (Lq 14),o 16 (.bin .add (t 15) (.const (.int .u32 1))),o 17 (.nilcheck (t 12)),o 18 (Fa 17 8),u (.store 1 (t 18) (t 16))])
 (S (R [0,1,5] [o 5 (.val (.const (.slice none 0 (some 0))))])
 (S (S (R [0,1,5,19,20,21] [v 19 1,o 20 (Sl 19),o 21 (.val (n 0))])
 (.after (.block 0 (.loop code577L1)) [0,1,5]))
 (S (S (R [0,4,5] [v 45 0,v 46 0,o 47 (.nilcheck (t 46)),o 48 (Fa 47 8),o 49 (Lq 48),v 50 1,o 51 (Sl 50),o 52 (.build [.int .i64 0,.int .u32 0,.str [],.slice none 0 (some 0),.int .i64 0] [(0,1,n 3),(1,1,t 49),(4,1,t 51)]),o 53 (.callg 601 [t 45,t 52]),v 44 53,o 54 (Xt 44 0),o 55 (Xt 44 1),v 4 55])
 (S (R [0,4,5,57] [v 56 4,o 57 (Bn .neq 56 0)])
 (.after (.cond (t 57) (S (R [4] [v 58 4,v 4 58])
 (Z [4])) (.skip)) [0,5])))
 (S (S (R [0,59,60,61] [v 59 5,o 60 (Sl 59),o 61 (.val (n 0))])
 (.after (.block 2 (.loop code577L0)) []))
 (S (R [4] [o 4 (.val (n 0))])
 (Z [4]))))))),none⟩
def code578:AFunc:=⟨false,false,2,17,[.tmp 4],
 S (R [0,1] [o 4 (.val (n 0))])
 (S (R [1] [v 5 0,v 6 0,o 7 (.nilcheck (t 6)),o 8 (Fa 7 10),o 9 (Lq 8),v 10 9,g 11 10 false (Vl 1),g 12 10 false (Bn .neq 11 0),o 13 (.pick (t 10) Y (t 12)),o 14 (.nilcheck (t 5)),o 15 (Fa 14 10),u (.store 1 (t 15) (t 13))])
 (S (R [4] [v 16 1,v 4 16])
 (Z [4]))),none⟩
def code579L0:ACode :=
 .live [0,3,7,8,9] (S (R [0,3,7,8,9,10] [o 10 (Bt .lss 9 8)])
 (S (.after (.cond (t 10) (.skip) (.live [0,3] (.exit 0))) [0,3,7,8,9])
 (S (.after (.block 1 (S (R [0,3,5,7,8,9] [o 11 (.iaddr 5 (t 7) (t 9)),o 12 (.load (some 5) (t 11)),o 5 (.lalloc [.int .i64 0,.int .u32 0,.str [],.slice none 0 (some 0),.int .i64 0]),u (.store 5 (t 5) (t 12))])
 (R [0,3,7,8,9] [v 13 3,o 14 (.load (some 5) (t 5)),o 15 (.callg 589 [t 14]),o 16 (Bt .add 13 15),v 3 16]))) [0,3,7,8,9])
 (R [0,3,7,8,9] [o 17 (Bn .add 9 1),v 9 17]))))
def code579:AFunc:=⟨false,false,1,29,[.tmp 2],
 S (R [0] [o 2 (.val (n 0))])
 (S (R [0,3] [o 3 (.val (n 0))])
 (S (S (R [0,3,7,8,9] [v 7 0,o 8 (Sl 7),o 9 (.val (n 0))])
 (.after (.block 0 (.loop code579L0)) [0,3]))
 (S (R [3,6] [v 18 0,o 19 (Sl 18),o 20 (Bn .add 19 16),o 21 (Bn .sub 20 1),o 22 (Bn .quo 21 16),v 6 22])
 (S (R [2] [v 23 3,v 24 6,o 25 (.build [.int .i64 0,.int .u32 0,.str [],.slice none 0 (some 0),.int .i64 0] []),o 26 (.callg 589 [t 25]),o 27 (Bt .mul 24 26),o 28 (Bt .add 23 27),v 2 28])
 (Z [2]))))),none⟩
def code581L0:ACode :=
 .live [0,4,5,20,21,22] (S (R [0,4,5,20,21,22,23] [o 23 (Bt .lss 22 21)])
 (S (.after (.cond (t 23) (.skip) (.live [0,4,5] (.exit 0))) [0,4,5,20,21,22])
 (S (.after (.block 1 (S (R [0,4,5,7,20,21,22] [o 24 (.iaddr 3 (t 20) (t 22)),o 25 (.load (some 3) (t 24)),o 7 (.lalloc [.bool false,.str [],.slice none 0 (some 0)]),u (.store 3 (t 7) (t 25))])
 (S (.after (.region [⟨true,[0,1,0,4,12,31,0],[o 26 (Fa 7 1),o 27 (Lq 26),o 28 (Fa 7 2),o 29 (Lq 28),o 30 (.callg 100465 [t 29]),o 31 (.build [.int .i64 0,.int .u32 0,.str [],.slice none 0 (some 0),.int .i64 0] [(0,1,n 1),(1,1,.const (.int .u32 1)),(2,1,t 27),(3,1,t 30)]),o 8 (.alloc 5 [.int .i64 0,.int .u32 0,.str [],.slice none 0 (some 0),.int .i64 0])]⟩,⟨false,[],[u (.store 5 (t 8) (t 31))]⟩]) [0,4,5,7,8,20,21,22])
 (S (S (R [0,4,5,7,8,20,21,22,33] [o 32 (Fa 7 0),o 33 (Lq 32)])
 (.after (.cond (t 33) (R [0,4,5,7,8,20,21,22] [o 34 (Fa 8 0),u (.store 1 (t 34) (n 2)),o 35 (Fa 8 3),u (.store 1 (t 35) (.const (.slice none 0 (some 0))))]) (.skip)) [0,4,5,7,8,20,21,22]))
 (S (S (R [0,4,5,7,8,10,20,21,22] [o 37 (.load (some 5) (t 8)),o 38 (.callg 596 [t 37]),v 36 38,o 39 (Xt 36 0),o 40 (Xt 36 1),v 9 39,v 10 40])
 (S (R [0,4,5,7,8,20,21,22,42] [v 41 10,o 42 (Bn .neq 41 0)])
 (.after (.cond (t 42) (S (R [2,3] [o 2 (.val (.const (.slice none 0 (some 0)))),o 3 (.val (n 1))])
 (Z [2,3])) (.skip)) [0,4,5,7,8,20,21,22])))
 (S (R [0,4,5,8,20,21,22] [v 43 4,o 44 (Fa 7 1),o 45 (Lq 44),u (.ext (.mapupd (.one .s)) [t 43,t 45,.const (.bool true)])])
 (R [0,4,5,20,21,22] [v 46 5,o 47 (.load (some 5) (t 8)),o 48 (.mkslice 5 1 [.int .i64 0,.int .u32 0,.str [],.slice none 0 (some 0),.int .i64 0] [(0,5,t 47)]),o 49 (.append 5 64 (t 46) (t 48)),v 5 49]))))))) [0,4,5,20,21,22])
 (R [0,4,5,20,21,22] [o 50 (Bn .add 22 1),v 22 50]))))
def code581:AFunc:=⟨false,false,1,57,[.tmp 2,.tmp 3],
 S (R [0] [o 2 (.val (.const (.slice none 0 (some 0)))),o 3 (.val (n 0))])
 (S (S (R [0,18] [v 11 0,o 12 (Sl 11),o 13 (Bn .eql 12 0),v 14 13,g 15 14 false (Vl 0),g 16 14 false (Sl 15),g 17 14 false (Bn .gtr 16 16),o 18 (.pick (t 14) Y (t 17))])
 (.after (.cond (t 18) (S (R [2,3] [o 2 (.val (.const (.slice none 0 (some 0)))),o 3 (.val (n 1))])
 (Z [2,3])) (.skip)) [0]))
 (S (R [0,4] [o 19 (.ext .mkmap []),v 4 19])
 (S (R [0,4,5] [o 5 (.val (.const (.slice none 0 (some 0))))])
 (S (S (R [0,4,5,20,21,22] [v 20 0,o 21 (Sl 20),o 22 (.val (n 0))])
 (.after (.block 0 (.loop code581L0)) [0,4,5]))
 (S (S (R [5,55] [v 51 4,o 52 (.len .map (t 51)),v 53 0,o 54 (Sl 53),o 55 (Bt .lss 52 54)])
 (.after (.cond (t 55) (S (R [2,3] [o 2 (.val (.const (.slice none 0 (some 0)))),o 3 (.val (n 12))])
 (Z [2,3])) (.skip)) [5]))
 (S (R [2,3] [v 56 5,v 2 56,o 3 (.val (n 0))])
 (Z [2,3]))))))),none⟩
def code582:AFunc:=⟨false,false,2,36,[.tmp 4,.tmp 5],
 S (R [0,1] [o 4 (.val (n 0)),o 5 (.val F)])
 (S (S (R [0,1,10] [v 6 0,o 7 (.nilcheck (t 6)),o 8 (Fa 7 6),o 9 (Lq 8),o 10 (Bn .neq 9 0)])
 (.after (.cond (t 10) (S (S (R [0,1,15] [v 11 0,o 12 (.nilcheck (t 11)),o 13 (Fa 12 6),o 14 (Lq 13),o 15 (Bn .gtr 14 0)])
 (.after (.cond (t 15) (R [1] [v 16 0,o 17 (.nilcheck (t 16)),o 18 (Fa 17 6),o 19 (Lq 18),o 20 (Bn .sub 19 1),o 21 (.nilcheck (t 16)),o 22 (Fa 21 6),u (.store 1 (t 22) (t 20))]) (.skip)) [1]))
 (S (R [4,5] [v 23 1,v 4 23,o 5 (.val F)])
 (Z [4,5]))) (.skip)) [0,1]))
 (S (R [0,1] [v 24 0,o 25 (.nilcheck (t 24)),o 26 (Fa 25 5),u (.store 1 (t 26) Y)])
 (S (R [4,5] [v 27 0,o 28 (.nilcheck (t 27)),o 29 (Fa 28 7),o 30 (Fa 29 0),o 31 (Lq 30),o 32 (.minmax true [t 31,n 0]),v 33 1,o 34 (Bn .add 33 1),o 35 (Bt .rem 32 34),v 4 35,o 5 (.val Y)])
 (Z [4,5])))),none⟩
def code583:AFunc:=⟨false,false,3,56,[.tmp 6,.tmp 7],
 S (R [0,1,2] [o 6 (.val (.const (.slice none 0 (some 0)))),o 7 (.val (n 0))])
 (S (.after (.block 0 (S (R [0,1,2,8] [v 9 0,o 10 (.eqnil .ptr false (t 9) (.const (.ptr none))),v 11 10,g 12 11 false (Vl 0),g 13 11 false (.nilcheck (t 12)),g 14 11 false (Fa 13 5),g 15 11 false (Lq 14),o 16 (.pick (t 11) Y (t 15)),v 8 16])
 (.after (.cond (t 8) (S (R [6,7] [o 6 (.val (.const (.slice none 0 (some 0)))),o 7 (.val (n 5))])
 (Z [6,7])) (S (R [0,1,2,17] [v 18 1,o 19 (Bn .lss 18 0),v 20 19,g 21 20 false (Vl 2),g 22 20 false (Bn .lss 21 0),o 23 (.pick (t 20) Y (t 22)),v 24 23,g 25 24 false (Vl 1),g 26 24 false (Vl 0),g 27 24 false (.nilcheck (t 26)),g 28 24 false (Fa 27 3),g 29 24 false (Lq 28),g 30 24 false (Sl 29),g 31 24 false (Bt .gtr 25 30),o 32 (.pick (t 24) Y (t 31)),v 33 32,g 34 33 false (Vl 2),g 35 33 false (Vl 0),g 36 33 false (.nilcheck (t 35)),g 37 33 false (Fa 36 3),g 38 33 false (Lq 37),g 39 33 false (Sl 38),g 40 33 false (Vl 1),g 41 33 false (Bt .sub 39 40),g 42 33 false (Bt .gtr 34 41),o 43 (.pick (t 33) Y (t 42)),v 17 43])
 (.after (.cond (t 17) (S (R [6,7] [o 6 (.val (.const (.slice none 0 (some 0)))),o 7 (.val (n 2))])
 (Z [6,7])) (.skip)) [0,1,2]))) [0,1,2]))) [0,1,2])
 (S (R [6,7] [v 44 0,o 45 (.nilcheck (t 44)),o 46 (Fa 45 3),o 47 (Lq 46),v 48 1,v 49 1,v 50 2,o 51 (Bt .add 49 50),v 52 1,v 53 2,o 54 (Bt .add 52 53),o 55 (.slice (.sl 1) (t 47) (some (t 48)) (some (t 51)) (some (t 54))),v 6 55,o 7 (.val (n 0))])
 (Z [6,7]))),none⟩
def code585:AFunc:=⟨false,false,1,5,[.tmp 2],
 S (R [0] [o 2 (.val F)])
 (S (R [2] [v 3 0,o 4 (.bin .neq (t 3) (.const (.int .u8 255))),v 2 4])
 (Z [2])),none⟩
def code586:AFunc:=⟨false,false,1,49,[.cell 2 (some 3),.tmp 3],
 S (R [0,2] [o 2 (.lalloc [.int .u32 0,.bool false,.bool false]),o 3 (.val (n 0))])
 (S (R [0,2,4] [o 9 (.callg 604 []),o 4 (.alloc 1 [.int .u8 0,.int .u8 0]),u (.store 2 (t 4) (t 9))])
 (S (.after (.block 0 (S (R [0,2,4,10] [v 11 0,o 12 (Sl 11),o 13 (Bn .lss 12 12),v 10 13])
 (.after (.cond (t 10) (S (R [2,3] [o 14 (.build [.int .u32 0,.bool false,.bool false] []),u (.store 3 (t 2) (t 14)),o 3 (.val (n 6))])
 (Z [2,3])) (S (R [0,2,15] [v 16 0,o 17 (.slice (.arr 2 1) (t 4) none none none),o 18 (.callg 603 [t 16,t 17]),o 19 (.un .not (t 18)),v 15 19])
 (.after (.cond (t 15) (S (R [2,3] [o 20 (.build [.int .u32 0,.bool false,.bool false] []),u (.store 3 (t 2) (t 20)),o 3 (.val (n 8))])
 (Z [2,3])) (.skip)) [0,2]))) [0,2]))) [0,2])
 (S (R [0,2,5] [v 22 0,o 23 (.callg 500 [t 22,n 6,n 2]),v 21 23,o 24 (Xt 21 0),o 25 (Xt 21 1),v 5 24,v 6 25])
 (S (S (R [0,2,31] [v 26 5,o 27 (.conv (.int .u16) (t 26)),v 28 0,o 29 (.slice (.sl 1) (t 28) none (some (n 6)) none),o 30 (.callg 602 [t 29]),o 31 (Bt .neq 27 30)])
 (.after (.cond (t 31) (S (R [2,3] [o 32 (.build [.int .u32 0,.bool false,.bool false] []),u (.store 3 (t 2) (t 32)),o 3 (.val (n 7))])
 (Z [2,3])) (.skip)) [0,2]))
 (S (R [0,2,7] [v 34 0,o 35 (.callg 500 [t 34,n 2,n 4]),v 33 35,o 36 (Xt 33 0),o 37 (Xt 33 1),v 7 36,v 8 37])
 (S (.after (.region [⟨true,[],[v 38 7,o 39 (.conv (.int .u32) (t 38)),v 40 0,o 41 (.iaddr 1 (t 40) (n 8)),o 42 (Lq 41),o 43 (.bin .eql (t 42) (.const (.int .u8 0))),v 44 0,o 45 (.iaddr 1 (t 44) (n 9)),o 46 (Lq 45),o 47 (.bin .neq (t 46) (.const (.int .u8 255)))]⟩,⟨false,[],[o 48 (.build [.int .u32 0,.bool false,.bool false] [(0,1,t 39),(1,1,t 43),(2,1,t 47)]),u (.store 3 (t 2) (t 48)),o 3 (.val (n 0))]⟩]) [2,3])
 (Z [2,3]))))))),none⟩
def code587:AFunc:=⟨false,false,2,25,[.tmp 4],
 S (R [0,1] [o 4 (.val (n 0))])
 (S (S (R [0,1,17] [v 5 0,o 6 (.eqnil .ptr false (t 5) (.const (.ptr none))),v 7 6,g 8 7 false (Vl 1),g 9 7 false (Vl 0),g 10 7 false (.nilcheck (t 9)),g 11 7 false (Fa 10 0),g 12 7 false (Fa 11 0),g 13 7 false (Lq 12),g 14 7 false (Bn .sub 13 1),g 15 7 false (.callg 568 [t 8,n 0,t 14]),g 16 7 false (.un .not (t 15)),o 17 (.pick (t 7) Y (t 16))])
 (.after (.cond (t 17) (S (R [4] [o 4 (.val (n 0))])
 (Z [4])) (.skip)) [0,1]))
 (S (R [4] [v 18 0,o 19 (.nilcheck (t 18)),o 20 (Fa 19 4),o 21 (Lq 20),v 22 1,o 23 (.iaddr 1 (t 21) (t 22)),o 24 (Lq 23),v 4 24])
 (Z [4]))),none⟩
def code588:AFunc:=⟨false,false,3,20,[.tmp 6,.tmp 7],
 S (R [0,1,2] [o 6 (.val (.const (.slice none 0 (some 0)))),o 7 (.val (n 0))])
 (S (R [8,9] [v 11 0,v 12 1,v 13 2,o 14 (.callg 583 [t 11,t 12,t 13]),v 10 14,o 15 (Xt 10 0),o 16 (Xt 10 1),v 8 15,v 9 16])
 (S (R [6,7] [v 17 8,o 18 (.callg 100465 [t 17]),v 19 9,v 6 18,v 7 19])
 (Z [6,7]))),none⟩
def code589:AFunc:=⟨false,false,1,12,[.tmp 2],
 S (R [1] [o 1 (.lbox (t 0)),o 2 (.val (n 0))])
 (S (R [2] [o 3 (Fa 1 2),o 4 (Lq 3),o 5 (.len .str (t 4)),o 6 (.bin .add (n 11) (t 5)),o 7 (Fa 1 3),o 8 (Lq 7),o 9 (Sl 8),o 10 (Bt .add 6 9),o 11 (Bn .add 10 5),v 2 11])
 (Z [2])),none⟩
def code590L0:ACode :=
 .live [0,1,2,6,7,8] (S (S (R [0,1,2,6,7,8,35] [v 33 8,v 34 1,o 35 (Bt .leq 33 34)])
 (.after (.cond (t 35) (.skip) (.live [0,1,2,6,7] (.exit 4))) [0,1,2,6,7,8]))
 (.after (.block 5 (S (R [0,1,2,6,8] [v 36 0,v 37 7,v 38 7,v 39 6,o 40 (Bt .add 38 39),v 41 8,v 42 2,o 43 (.nextStr F)])
 (S (R [0,1,2,6,7,8] [v 44 8,v 7 44])
 (R [0,1,2,6,7,8] [v 45 8,v 46 6,o 47 (.bin .mul (n 2) (t 46)),o 48 (Bt .add 45 47),v 8 48])))) [0,1,2,6,7,8]))
def code590L1:ACode :=
 .live [0,1,2,6] (S (S (R [0,1,2,6,30] [v 28 6,v 29 1,o 30 (Bt .lss 28 29)])
 (.after (.cond (t 30) (.skip) (.live [] (.exit 2))) [0,1,2,6]))
 (.after (.block 3 (S (R [0,1,2,6,7,8] [v 31 6,o 32 (.bin .mul (n 2) (t 31)),o 7 (.val (n 0)),v 8 32])
 (S (.after (.block 4 (.loop code590L0)) [0,1,2,6,7])
 (S (S (R [0,1,2,6,7,9] [v 49 7,v 50 6,o 51 (Bt .add 49 50),v 9 51])
 (S (R [0,1,2,6,7,9,54] [v 52 9,v 53 1,o 54 (Bt .lss 52 53)])
 (.after (.cond (t 54) (R [0,1,2,6] [v 55 0,v 56 7,v 57 9,v 58 1,v 59 2,o 60 (.nextStr F)]) (.skip)) [0,1,2,6])))
 (R [0,1,2,6] [v 61 6,o 62 (Bn .mul 61 2),v 6 62]))))) [0,1,2,6]))
def code590L2:ACode :=
 .live [0,1,2,6,7,8] (S (S (R [0,1,2,6,7,8,13] [v 11 8,v 12 1,o 13 (Bt .leq 11 12)])
 (.after (.cond (t 13) (.skip) (.live [0,1,2,6,7] (.exit 0))) [0,1,2,6,7,8]))
 (.after (.block 1 (S (R [0,1,2,6,8] [v 14 0,v 15 7,v 16 8,v 17 2,o 18 (.callg 606 [t 14,t 15,t 16,t 17])])
 (S (R [0,1,2,6,7,8] [v 19 8,v 7 19])
 (R [0,1,2,6,7,8] [v 20 8,v 21 6,o 22 (Bt .add 20 21),v 8 22])))) [0,1,2,6,7,8]))
def code590:AFunc:=⟨false,false,3,63,[],
 S (R [0,1,2,6] [o 6 (.val (n 20))])
 (S (R [0,1,2,6,7,8] [v 10 6,o 7 (.val (n 0)),v 8 10])
 (S (.after (.block 0 (.loop code590L2)) [0,1,2,6,7])
 (S (R [0,1,2,6] [v 23 0,v 24 7,v 25 1,v 26 2,o 27 (.callg 606 [t 23,t 24,t 25,t 26])])
 (.after (.block 2 (.loop code590L1)) [])))),none⟩
def code591:AFunc:=⟨false,false,2,20,[.tmp 4],
 S (R [0,1] [o 4 (.val (n 0))])
 (S (R [0,1,5] [v 7 0,o 8 (.callg 592 [t 7]),v 5 8])
 (S (R [0,1,5,6] [v 9 1,o 10 (.callg 592 [t 9]),v 6 10])
 (S (S (R [0,1,6,11] [v 11 5])
 (.after (.cond (t 11) (S (S (R [12] [v 12 6])
 (.after (.cond (t 12) (S (R [4] [o 4 (.val (n 0))])
 (Z [4])) (.skip)) []))
 (S (R [4] [o 4 (.val (.const (.int .i64 (-1))))])
 (Z [4]))) (.skip)) [0,1,6]))
 (S (S (R [0,1,13] [v 13 6])
 (.after (.cond (t 13) (S (R [4] [o 4 (.val (n 1))])
 (Z [4])) (.skip)) [0,1]))
 (S (S (R [0,1,16] [v 14 0,v 15 1,o 16 (Bt .lss 14 15)])
 (.after (.cond (t 16) (S (R [4] [o 4 (.val (.const (.int .i64 (-1))))])
 (Z [4])) (.skip)) [0,1]))
 (S (S (R [19] [v 17 0,v 18 1,o 19 (Bt .gtr 17 18)])
 (.after (.cond (t 19) (S (R [4] [o 4 (.val (n 1))])
 (Z [4])) (.skip)) []))
 (S (R [4] [o 4 (.val (n 0))])
 (Z [4])))))))),none⟩
def code592:AFunc:=⟨false,false,1,6,[.tmp 2],
 S (R [0] [o 2 (.val F)])
 (S (R [2] [v 3 0,v 4 0,o 5 (Bt .neq 3 4),v 2 5])
 (Z [2])),none⟩
def code596:AFunc:=⟨false,false,1,56,[.tmp 2,.tmp 3],
 S (R [1] [o 1 (.lbox (t 0)),o 2 (.val (.const (.slice none 0 (some 0)))),o 3 (.val (n 0))])
 (S (S (R [1,13] [o 5 (.load (some 5) (t 1)),o 6 (Fa 1 2),o 7 (Lq 6),o 8 (.len .str (t 7)),o 9 (Fa 1 3),o 10 (Lq 9),o 11 (Sl 10),o 12 (.callg 614 [t 5,t 8,t 11]),o 13 (.un .not (t 12))])
 (.after (.cond (t 13) (S (R [2,3] [o 2 (.val (.const (.slice none 0 (some 0)))),o 3 (.val (n 8))])
 (Z [2,3])) (.skip)) [1]))
 (S (R [1,4] [o 14 (Fa 1 0),o 15 (Lq 14),o 16 (.conv (.int .u8) (t 15)),o 17 (.mkslice 1 1 [.int .u8 0] [(0,1,t 16)]),o 18 (Fa 1 1),o 19 (Lq 18),o 20 (.conv (.int .u64) (t 19)),o 21 (.callg 100385 [t 17,t 20,n 4]),v 4 21])
 (S (R [1,4] [v 22 4,o 23 (Fa 1 2),o 24 (Lq 23),o 25 (.len .str (t 24)),o 26 (.conv (.int .u64) (t 25)),o 27 (.callg 100385 [t 22,t 26,n 1]),v 4 27])
 (S (R [1,4] [v 28 4,o 29 (Fa 1 3),o 30 (Lq 29),o 31 (Sl 30),o 32 (.conv (.int .u64) (t 31)),o 33 (.callg 100385 [t 28,t 32,n 2]),v 4 33])
 (S (R [1,4] [v 34 4,o 35 (Fa 1 4),o 36 (Lq 35),o 37 (.conv (.int .u64) (t 36)),o 38 (.callg 100385 [t 34,t 37,n 1]),v 4 38])
 (S (R [1,4] [v 39 4,v 40 4,o 41 (.callg 602 [t 40]),o 42 (.conv (.int .u64) (t 41)),o 43 (.callg 100385 [t 39,t 42,n 2]),v 4 43])
 (S (.after (.region [⟨true,[0,0,2,7,0,16],[v 44 4,o 45 (Fa 1 2),o 46 (Lq 45),o 47 (.append 1 1 (t 44) (t 46)),o 48 (Fa 1 3),o 49 (Lq 48)]⟩,⟨false,[],[o 50 (.append 1 1 (t 47) (t 49)),v 4 50]⟩]) [4])
 (S (R [2,3] [v 51 4,v 52 4,o 53 (.callg 613 [t 52]),o 54 (.conv (.int .u64) (t 53)),o 55 (.callg 100385 [t 51,t 54,n 4]),v 2 55,o 3 (.val (n 0))])
 (Z [2,3]))))))))),none⟩
def code597:AFunc:=⟨false,false,2,24,[.tmp 4],
 S (R [0,1] [o 4 (.val F)])
 (S (.after (.region [⟨false,[],[v 5 0,o 6 (.nilcheck (t 5)),o 7 (Fa 6 6),o 8 (Lq 7),o 9 (.bin .neq (t 8) (.const (.int .i64 (-1)))),v 10 9]⟩,⟨true,[],[g 11 10 true (Vl 0),g 12 10 true (.nilcheck (t 11)),g 13 10 true (Fa 12 7),g 14 10 true (Lq 13),g 15 10 true (Vl 1),g 16 10 true (Bt .add 14 15),g 17 10 true (Vl 0),g 18 10 true (.nilcheck (t 17)),g 19 10 true (Fa 18 1),g 20 10 true (Fa 19 1),g 21 10 true (Lq 20)]⟩,⟨false,[],[g 22 10 true (Bt .leq 16 21),o 23 (.pick (t 10) (t 22) F),v 4 23]⟩]) [4])
 (Z [4])),none⟩
def code598:AFunc:=⟨false,false,1,78,[.tmp 2],
 S (R [0] [o 2 (.val (n 0))])
 (S (.after (.region [⟨true,[],[v 7 0,o 8 (.nilcheck (t 7)),o 9 (Fa 8 4),o 10 (Lq 9),v 11 0,o 12 (.nilcheck (t 11)),o 13 (Fa 12 1),o 14 (Fa 13 2),o 15 (Lq 14)]⟩,⟨false,[],[o 16 (.callg 7 [t 10,t 15]),v 6 16]⟩,⟨true,[],[o 17 (Xt 6 0),o 18 (Xt 6 1),v 3 17]⟩,⟨false,[],[v 4 18]⟩]) [0,3,4])
 (S (S (R [0,3,27] [v 19 4,o 20 (.un .not (t 19)),v 21 20,g 22 21 false (Vl 0),g 23 21 false (.nilcheck (t 22)),g 24 21 false (Fa 23 9),g 25 21 false (Lq 24),g 26 21 false (.bin .eql (t 25) (.const (.int .u32 4294967295))),o 27 (.pick (t 21) Y (t 26))])
 (.after (.cond (t 27) (S (R [2] [o 2 (.val (n 10))])
 (Z [2])) (.skip)) [0,3]))
 (S (S (.after (.region [⟨true,[],[v 28 0,o 29 (.nilcheck (t 28)),o 30 (Fa 29 0),o 31 (Lq 30),v 32 3,v 33 0,o 34 (.nilcheck (t 33)),o 35 (Fa 34 9),o 36 (Lq 35),o 37 (.bin .add (t 36) (.const (.int .u32 1)))]⟩,⟨false,[],[o 38 (.callg 618 [t 31,t 32,t 37]),v 5 38]⟩]) [0,3,5])
 (S (R [0,3,5,40] [v 39 5,o 40 (Bn .neq 39 0)])
 (.after (.cond (t 40) (S (R [2] [v 41 0,v 42 5,o 43 (.callg 578 [t 41,t 42]),v 2 43])
 (Z [2])) (.skip)) [0,3])))
 (S (R [0,3] [v 44 0,o 45 (.nilcheck (t 44)),o 46 (Fa 45 9),o 47 (Lq 46),o 48 (.bin .add (t 47) (.const (.int .u32 1))),o 49 (.nilcheck (t 44)),o 50 (Fa 49 9),u (.store 1 (t 50) (t 48))])
 (S (.after (.region [⟨true,[],[v 51 0,o 52 (.nilcheck (t 51)),o 53 (Fa 52 4),o 54 (Lq 53),v 55 3,v 56 0,o 57 (.nilcheck (t 56)),o 58 (Fa 57 9),o 59 (Lq 58),v 60 0,o 61 (.nilcheck (t 60)),o 62 (Fa 61 0),o 63 (Lq 62),v 64 3,o 65 (.callg 587 [t 63,t 64]),o 66 (.build [.int .i64 0,.int .u32 0,.int .i64 0] [(0,1,n 2),(1,1,t 59),(2,1,t 65)])]⟩,⟨false,[],[o 67 (.iaddr 3 (t 54) (t 55)),u (.store 3 (t 67) (t 66))]⟩]) [0,3])
 (S (R [] [v 68 0,v 69 0,v 70 0,v 71 3,o 72 (.nilcheck (t 68)),o 73 (Fa 72 6),u (.store 1 (t 73) (t 71)),o 74 (.nilcheck (t 69)),o 75 (Fa 74 7),u (.store 1 (t 75) (n 12)),o 76 (.nilcheck (t 70)),o 77 (Fa 76 8),u (.store 1 (t 77) (.const (.int .u32 0)))])
 (S (R [2] [o 2 (.val (n 0))])
 (Z [2])))))))),none⟩
def code600:AFunc:=⟨false,false,3,32,[],
 S (R [0,1,5] [o 5 (.lbox (t 2))])
 (S (S (R [0,1,5,9] [o 6 (Fa 5 1),o 7 (Fa 6 0),o 8 (Lq 7),o 9 (Bn .eql 8 2)])
 (.after (.cond (t 9) (S (.after (.region [⟨true,[],[v 10 0,o 11 (.nilcheck (t 10)),o 12 (Fa 11 5),o 13 (Lq 12),o 14 (Fa 5 1),o 15 (Fa 14 2),o 16 (Lq 15)]⟩,⟨false,[],[u (.ext (.delete (.one .s)) [t 13,t 16])]⟩]) [])
 (Z [])) (.skip)) [0,1,5]))
 (.after (.region [⟨true,[],[v 17 0,o 18 (.nilcheck (t 17)),o 19 (Fa 18 5),o 20 (Lq 19),o 21 (Fa 5 1),o 22 (Fa 21 2),o 23 (Lq 22),v 24 1,o 25 (Fa 5 0),o 26 (Lq 25),o 27 (Fa 5 1),o 28 (Fa 27 3),o 29 (Lq 28),o 30 (.conv .string (t 29)),o 31 (.build [.int .i64 0,.int .i64 0,.str []] [(0,1,t 24),(1,1,t 26),(2,1,t 30)])]⟩,⟨false,[],[u (.ext (.mapupd (.one .s)) [t 20,t 23,t 31])]⟩]) [])),none⟩
def code601:AFunc:=⟨false,false,2,74,[.cell 4 (some 6),.tmp 5],
 S (R [0,3,4] [o 3 (.lbox (t 1)),o 4 (.lalloc [.int .i64 0,.int .i64 0,.int .u32 0,.str [],.slice none 0 (some 0),.int .i64 0]),o 5 (.val (n 0))])
 (S (R [0,3,4,5,6] [o 9 (.load (some 5) (t 3)),o 10 (.callg 596 [t 9]),v 8 10,o 11 (Xt 8 0),o 12 (Xt 8 1),v 6 11,v 5 12])
 (S (S (R [0,3,4,5,6,14] [v 13 5,o 14 (Bn .neq 13 0)])
 (.after (.cond (t 14) (S (R [4,5] [o 15 (.load (some 6) (t 4)),v 16 5,u (.store 6 (t 4) (t 15)),v 5 16])
 (Z [4,5])) (.skip)) [0,3,4,6]))
 (S (.after (.region [⟨true,[],[v 17 0,o 18 (.nilcheck (t 17)),o 19 (Fa 18 6),o 20 (Lq 19),v 21 0,o 22 (.nilcheck (t 21)),o 23 (Fa 22 1),o 24 (Fa 23 1),o 25 (Lq 24),o 26 (Bt .mul 20 25),v 27 0,o 28 (.nilcheck (t 27)),o 29 (Fa 28 7),o 30 (Lq 29)]⟩,⟨false,[],[o 31 (Bt .add 26 30),v 7 31]⟩]) [0,3,4,6,7])
 (S (S (R [0,3,4,5,6,7] [v 32 0,o 33 (.nilcheck (t 32)),o 34 (Fa 33 0),o 35 (Lq 34),v 36 7,v 37 6,o 38 (.callg 558 [t 35,t 36,t 37]),v 5 38])
 (S (R [0,3,4,5,6,7,40] [v 39 5,o 40 (Bn .neq 39 0)])
 (.after (.cond (t 40) (S (R [4,5] [o 41 (.load (some 6) (t 4)),v 42 5,u (.store 6 (t 4) (t 41)),v 5 42])
 (Z [4,5])) (.skip)) [0,3,4,6,7])))
 (S (S (R [0,3,4,5,6] [v 43 0,o 44 (.nilcheck (t 43)),o 45 (Fa 44 0),o 46 (Lq 45),v 47 7,v 48 6,o 49 (Sl 48),o 50 (Bt .add 47 49),o 51 (.mkslice 1 1 [.int .u8 0] [(0,1,.const (.int .u8 0))]),o 52 (.callg 558 [t 46,t 50,t 51]),v 5 52])
 (S (R [0,3,4,5,6,54] [v 53 5,o 54 (Bn .neq 53 0)])
 (.after (.cond (t 54) (S (R [4,5] [o 55 (.load (some 6) (t 4)),v 56 5,u (.store 6 (t 4) (t 55)),v 5 56])
 (Z [4,5])) (.skip)) [0,3,4,6])))
 (S (.after (.region [⟨true,[],[v 57 0,o 58 (.nilcheck (t 57)),o 59 (Fa 58 7),o 60 (Lq 59),o 61 (.load (some 5) (t 3))]⟩,⟨false,[],[o 62 (.build [.int .i64 0,.int .i64 0,.int .u32 0,.str [],.slice none 0 (some 0),.int .i64 0] [(0,1,t 60),(1,5,t 61)]),u (.store 6 (t 4) (t 62))]⟩]) [0,4,6])
 (S (R [4] [v 63 0,o 64 (.nilcheck (t 63)),o 65 (Fa 64 7),o 66 (Lq 65),v 67 6,o 68 (Sl 67),o 69 (Bn .add 68 1),o 70 (Bt .add 66 69),o 71 (.nilcheck (t 63)),o 72 (Fa 71 7),u (.store 1 (t 72) (t 70))])
 (S (R [4,5] [o 73 (.load (some 6) (t 4)),u (.store 6 (t 4) (t 73)),o 5 (.val (n 0))])
 (Z [4,5]))))))))),none⟩
def code602:AFunc:=⟨false,false,1,5,[.tmp 2],
 S (R [0] [o 2 (.val (.const (.int .u16 0)))])
 (S (R [2] [v 3 0,o 4 (.callg 620 [.const (.int .u16 65535),t 3]),v 2 4])
 (Z [2])),none⟩
def code603:AFunc:=⟨false,false,2,18,[.tmp 4],
 S (R [0,1] [o 4 (.val F)])
 (S (R [4] [v 5 0,o 6 (Sl 5),v 7 1,o 8 (Sl 7),o 9 (Bt .geq 6 8),v 10 9,g 11 10 true (Vl 0),g 12 10 true (Vl 1),g 13 10 true (Sl 12),g 14 10 true (.slice (.sl 1) (t 11) none (some (t 13)) none),g 15 10 true (Vl 1),g 16 10 true (.callg 619 [t 14,t 15]),o 17 (.pick (t 10) (t 16) F),v 4 17])
 (Z [4])),none⟩
def code604:AFunc:=⟨false,false,0,2,[.cell 0 (some 2)],
 S (R [0] [o 0 (.lalloc [.int .u8 0,.int .u8 0])])
 (S (R [0] [o 1 (.build [.int .u8 0,.int .u8 0] [(0,1,.const (.int .u8 67)),(1,1,.const (.int .u8 66))]),u (.store 2 (t 0) (t 1))])
 (Z [0])),none⟩
def code606L0:ACode :=
 .live [0,1,2,3,8,9] (S (S (.after (.region [⟨true,[],[v 18 9,v 19 1]⟩,⟨false,[],[o 20 (Bt .gtr 18 19),v 21 20]⟩,⟨true,[],[g 22 21 true (Vl 3),g 23 21 true (Vl 0),g 24 21 true (Vl 9),g 25 21 true (.iaddr 1 (t 23) (t 24)),g 26 21 true (Lq 25),g 27 21 true (Vl 0),g 28 21 true (Vl 9),g 29 21 true (Bn .sub 28 1),g 30 21 true (.iaddr 1 (t 27) (t 29)),g 31 21 true (Lq 30)]⟩,⟨false,[],[g 32 21 true (.call (t 22) [t 26,t 31]),g 33 21 true (Bn .lss 32 0),o 34 (.pick (t 21) (t 33) F)]⟩]) [0,1,2,3,8,9,34])
 (.after (.cond (t 34) (.skip) (.live [0,1,2,3,8] (.exit 2))) [0,1,2,3,8,9]))
 (S (.after (.block 3 (.after (.region [⟨true,[0,0,0,0,8,0,0,64,224,480,0,0,3072,7168,16355,32739],[v 37 0,v 38 9,v 39 0,v 40 9,o 41 (Bn .sub 40 1),v 42 0,v 43 9,o 44 (Bn .sub 43 1),o 45 (.iaddr 1 (t 42) (t 44)),o 46 (Lq 45),v 47 0,v 48 9,o 49 (.iaddr 1 (t 47) (t 48)),o 50 (Lq 49),o 51 (.iaddr 1 (t 37) (t 38)),u (.ext (.hstore 1) [t 51,t 46])]⟩,⟨false,[],[o 52 (.iaddr 1 (t 39) (t 41)),u (.store 1 (t 52) (t 50))]⟩]) [0,1,2,3,8,9])) [0,1,2,3,8,9])
 (R [0,1,2,3,8,9] [v 35 9,o 36 (Bn .sub 35 1),v 9 36])))
def code606L1:ACode :=
 .live [0,1,2,3,8] (S (S (R [0,1,2,3,8,14] [v 12 8,v 13 2,o 14 (Bt .lss 12 13)])
 (.after (.cond (t 14) (.skip) (.live [] (.exit 0))) [0,1,2,3,8]))
 (S (.after (.block 1 (S (R [0,1,2,3,8,9] [v 17 8,v 9 17])
 (.after (.block 2 (.loop code606L0)) [0,1,2,3,8]))) [0,1,2,3,8])
 (R [0,1,2,3,8] [v 15 8,o 16 (Bn .add 15 1),v 8 16])))
def code606:AFunc:=⟨false,false,4,53,[],
 S (R [0,1,2,3,8] [v 10 1,o 11 (Bn .add 10 1),v 8 11])
 (.after (.block 0 (.loop code606L1)) []),none⟩
def code611L0:ACode :=
 .live [0,5,6,7,79,80] (S (R [0,5,6,7,79,80,81] [o 81 (Bt .lss 80 79)])
 (S (.after (.cond (t 81) (.skip) (.live [0,5,6,7] (.exit 1))) [0,5,6,7,79,80])
 (S (.after (.block 2 (S (R [0,5,6,7,8,79,80] [v 82 80,v 8 82])
 (R [0,5,6,7,79,80] [v 83 5,v 84 8,o 85 (.iaddr 1 (t 83) (t 84)),u (.store 1 (t 85) (.const (.int .u8 255)))]))) [0,5,6,7,79,80])
 (R [0,5,6,7,79,80] [o 86 (Bn .add 80 1),v 80 86]))))
def code611:AFunc:=⟨false,false,2,104,[.tmp 4],
 S (R [0,1] [o 4 (.val (n 0))])
 (S (.after (.block 0 (S (R [0,1,9] [v 10 0,o 11 (.eqnil .ptr false (t 10) (.const (.ptr none))),v 12 11,g 13 12 false (Vl 0),g 14 12 false (.nilcheck (t 13)),g 15 12 false (Fa 14 5),g 16 12 false (Lq 15),o 17 (.pick (t 12) Y (t 16)),v 9 17])
 (.after (.cond (t 9) (S (R [4] [o 4 (.val (n 5))])
 (Z [4])) (S (R [0,1,18] [v 19 1,v 20 0,o 21 (.nilcheck (t 20)),o 22 (Fa 21 0),o 23 (Fa 22 0),o 24 (Lq 23),o 25 (Bn .sub 24 1),o 26 (.callg 568 [t 19,n 0,t 25]),o 27 (.un .not (t 26)),v 18 27])
 (.after (.cond (t 18) (S (R [4] [o 4 (.val (n 2))])
 (Z [4])) (S (.after (.region [⟨true,[],[v 29 0,o 30 (.nilcheck (t 29)),o 31 (Fa 30 4),o 32 (Lq 31),v 33 1,o 34 (.iaddr 1 (t 32) (t 33)),o 35 (Lq 34),v 36 0,o 37 (.nilcheck (t 36)),o 38 (Fa 37 0),o 39 (Fa 38 2),o 40 (Lq 39)]⟩,⟨false,[],[o 41 (Bt .geq 35 40),v 28 41]⟩]) [0,1,28])
 (.after (.cond (t 28) (S (R [4] [o 4 (.val (n 4))])
 (Z [4])) (.skip)) [0,1]))) [0,1]))) [0,1]))) [0,1])
 (S (R [0,1] [v 42 0,o 43 (.nilcheck (t 42)),o 44 (Fa 43 4),o 45 (Lq 44),v 46 1,o 47 (.iaddr 1 (t 45) (t 46)),o 48 (Lq 47),o 49 (Bn .add 48 1),o 50 (.iaddr 1 (t 45) (t 46)),u (.store 1 (t 50) (t 49))])
 (S (.after (.region [⟨true,[],[v 51 0,o 52 (.nilcheck (t 51)),o 53 (Fa 52 3),o 54 (Lq 53),v 55 1,v 56 0,o 57 (.nilcheck (t 56)),o 58 (Fa 57 0),o 59 (Fa 58 1),o 60 (Lq 59),o 61 (Bt .mul 55 60),o 62 (.slice (.sl 1) (t 54) (some (t 61)) none none),v 63 0,o 64 (.nilcheck (t 63)),o 65 (Fa 64 0),o 66 (Fa 65 1),o 67 (Lq 66)]⟩,⟨false,[],[o 68 (.slice (.sl 1) (t 62) none (some (t 67)) none),v 5 68]⟩]) [0,5])
 (S (R [0,5,6,7] [v 70 0,v 71 5,o 72 (Sl 71),o 73 (.callg 582 [t 70,t 72]),v 69 73,o 74 (Xt 69 0),o 75 (Xt 69 1),v 6 74,v 7 75])
 (S (S (R [0,5,6,7,79,80] [v 76 5,v 77 6,o 78 (.slice (.sl 1) (t 76) none (some (t 77)) none),o 79 (Sl 78),o 80 (.val (n 0))])
 (.after (.block 1 (.loop code611L0)) [0,5,6,7]))
 (S (S (R [0,5,6,88] [v 87 7,o 88 (.un .not (t 87))])
 (.after (.cond (t 88) (S (R [4] [o 4 (.val (n 0))])
 (Z [4])) (.skip)) [0,5,6]))
 (S (S (R [0,5,6,92] [v 89 6,v 90 5,o 91 (Sl 90),o 92 (Bt .lss 89 91)])
 (.after (.cond (t 92) (.after (.region [⟨true,[],[v 93 5,v 94 6,o 95 (.iaddr 1 (t 93) (t 94)),o 96 (Lq 95),v 97 0,o 98 (.nilcheck (t 97)),o 99 (Fa 98 7),o 100 (Fa 99 1),o 101 (Lq 100)]⟩,⟨false,[],[o 102 (Bt .or 96 101),o 103 (.iaddr 1 (t 93) (t 94)),u (.store 1 (t 103) (t 102))]⟩]) []) (.skip)) []))
 (S (R [4] [o 4 (.val (n 5))])
 (Z [4]))))))))),none⟩
def code613L0:ACode :=
 .live [3,4,8,9,10] (S (R [3,4,8,9,10,11] [o 11 (Bt .lss 10 9)])
 (S (.after (.cond (t 11) (.skip) (.live [4] (.exit 0))) [3,4,8,9,10])
 (S (.after (.block 1 (S (R [3,4,6,8,9,10] [o 12 (.iaddr 1 (t 8) (t 10)),o 13 (Lq 12),v 6 13])
 (R [3,4,8,9,10] [v 14 4,o 15 (.bin .shr (t 14) (.const (.int .u64 8))),v 16 4,o 17 (.conv (.int .u8) (t 16)),v 18 6,o 19 (Bt .xor 17 18),o 20 (.aaddr 256 1 (t 3) (t 19)),o 21 (Lq 20),o 22 (Bt .xor 15 21),v 4 22]))) [3,4,8,9,10])
 (R [3,4,8,9,10] [o 23 (Bn .add 10 1),v 10 23]))))
def code613:AFunc:=⟨false,false,1,26,[.tmp 2],
 S (R [0] [o 2 (.val (.const (.int .u32 0)))])
 (S (R [0,3,4] [o 7 (.callg 626 []),o 3 (.lalloc (List.replicate 256 (.int .u32 0))),u (.store 256 (t 3) (t 7)),o 4 (.val (.const (.int .u32 4294967295)))])
 (S (S (R [3,4,8,9,10] [v 8 0,o 9 (Sl 8),o 10 (.val (n 0))])
 (.after (.block 0 (.loop code613L0)) [4]))
 (S (R [2] [v 24 4,o 25 (.un .xor (t 24)),v 2 25])
 (Z [2])))),none⟩
def code614:AFunc:=⟨false,false,3,56,[.tmp 6],
 S (R [1,2,3] [o 3 (.lbox (t 0)),o 6 (.val F)])
 (S (S (R [1,2,3,10] [o 8 (Fa 3 1),o 9 (Lq 8),o 10 (.bin .eql (t 9) (.const (.int .u32 0)))])
 (.after (.cond (t 10) (S (R [6] [o 6 (.val F)])
 (Z [6])) (.skip)) [1,2,3]))
 (S (R [1,2,3,7] [v 11 1,o 12 (Bn .geq 11 1),v 13 12,g 14 13 true (Vl 1),g 15 13 true (Bn .leq 14 64),o 16 (.pick (t 13) (t 15) F),v 17 16,g 18 17 true (Fa 3 4),g 19 17 true (Lq 18),g 20 17 true (Bn .eql 19 0),o 21 (.pick (t 17) (t 20) F),v 7 21])
 (S (S (R [1,2,3,7,23] [o 22 (Fa 3 0),o 23 (Lq 22)])
 (.after (.block 0 (S (R [1,2,3,7,23,24] [o 25 (Bn .eql 23 1),v 24 25])
 (.after (.cond (t 24) (S (R [6] [v 26 7,v 27 26,g 28 27 true (Vl 2),g 29 27 true (Bn .leq 28 4096),o 30 (.pick (t 27) (t 29) F),v 6 30])
 (Z [6])) (S (R [1,2,3,7,23,31] [o 32 (Bn .eql 23 2),v 31 32])
 (.after (.cond (t 31) (S (R [6] [v 33 7,v 34 33,g 35 34 true (Vl 2),g 36 34 true (Bn .eql 35 0),o 37 (.pick (t 34) (t 36) F),v 6 37])
 (Z [6])) (S (R [1,2,3,38] [o 39 (Bn .eql 23 3),v 38 39])
 (.after (.cond (t 38) (S (R [6] [v 40 1,o 41 (Bn .eql 40 0),v 42 41,g 43 42 true (Vl 2),g 44 42 true (Bn .eql 43 0),o 45 (.pick (t 42) (t 44) F),v 46 45,g 47 46 true (Fa 3 4),g 48 46 true (Lq 47),g 49 46 true (Bn .geq 48 0),o 50 (.pick (t 46) (t 49) F),v 51 50,g 52 51 true (Fa 3 4),g 53 51 true (Lq 52),g 54 51 true (Bn .leq 53 16),o 55 (.pick (t 51) (t 54) F),v 6 55])
 (Z [6])) (.skip)) []))) []))) []))) []))
 (S (R [6] [o 6 (.val F)])
 (Z [6]))))),none⟩
def code618:AFunc:=⟨false,false,3,54,[.tmp 6],
 S (R [0,1,2] [o 6 (.val (n 0))])
 (S (R [0,1,2,7,8] [v 13 0,v 14 1,o 15 (.callg 564 [t 13,t 14]),v 12 15,o 16 (Xt 12 0),o 17 (Xt 12 1),o 7 (.lalloc [.int .i64 0,.int .u32 0,.int .i64 0]),u (.store 3 (t 7) (t 16)),v 8 17])
 (S (.after (.block 0 (S (R [0,1,2,7,8,18] [v 19 8,o 20 (Bn .neq 19 0),v 18 20])
 (.after (.cond (t 18) (S (R [6] [v 21 8,v 6 21])
 (Z [6])) (S (R [0,1,2,7,22] [o 23 (Fa 7 0),o 24 (Lq 23),o 25 (Bn .eql 24 2),v 22 25])
 (.after (.cond (t 22) (S (R [6] [o 6 (.val (n 16))])
 (Z [6])) (S (R [0,1,2,26] [o 27 (Fa 7 0),o 28 (Lq 27),o 29 (Bn .eql 28 1),v 26 29])
 (.after (.cond (t 26) (S (R [0,1,2,9] [v 30 0,v 31 1,o 32 (.callg 611 [t 30,t 31]),v 9 32])
 (S (R [0,1,2,9,34] [v 33 9,o 34 (Bn .neq 33 0)])
 (.after (.cond (t 34) (S (R [6] [v 35 9,v 6 35])
 (Z [6])) (.skip)) [0,1,2]))) (.skip)) [0,1,2]))) [0,1,2]))) [0,1,2]))) [0,1,2])
 (S (R [0,2,10] [v 36 1,v 37 0,o 38 (.callg 573 [t 37]),o 39 (.field (t 38) 1 none),o 40 (Bt .mul 36 39),v 10 40])
 (S (S (R [0,10,11] [v 41 0,v 42 10,v 43 2,o 44 (.callg 630 [t 43]),o 45 (.callg 558 [t 41,t 42,t 44]),v 11 45])
 (S (R [0,10,11,47] [v 46 11,o 47 (Bn .neq 46 0)])
 (.after (.cond (t 47) (S (R [6] [v 48 11,v 6 48])
 (Z [6])) (.skip)) [0,10])))
 (S (R [6] [v 49 0,v 50 10,o 51 (Bn .add 50 8),o 52 (.mkslice 1 1 [.int .u8 0] [(0,1,.const (.int .u8 0))]),o 53 (.callg 558 [t 49,t 51,t 52]),v 6 53])
 (Z [6])))))),none⟩
def code619:AFunc:=⟨false,false,2,10,[.tmp 4],
 S (R [0,1] [o 4 (.val F)])
 (S (R [4] [v 5 0,o 6 (.conv .string (t 5)),v 7 1,o 8 (.conv .string (t 7)),o 9 (Bt .eql 6 8),v 4 9])
 (Z [4])),none⟩
def code620L0:ACode :=
 .live [0,5,9,10,11] (S (R [0,5,9,10,11,12] [o 12 (Bt .lss 11 10)])
 (S (.after (.cond (t 12) (.skip) (.live [0] (.exit 0))) [0,5,9,10,11])
 (S (.after (.block 1 (S (R [0,5,7,9,10,11] [o 13 (.iaddr 1 (t 9) (t 11)),o 14 (Lq 13),v 7 14])
 (R [0,5,9,10,11] [v 15 0,o 16 (.bin .shl (t 15) (.const (.int .u64 8))),v 17 0,o 18 (.bin .shr (t 17) (.const (.int .u64 8))),o 19 (.conv (.int .u8) (t 18)),v 20 7,o 21 (Bt .xor 19 20),o 22 (.aaddr 256 1 (t 5) (t 21)),o 23 (Lq 22),o 24 (Bt .xor 16 23),v 0 24]))) [0,5,9,10,11])
 (R [0,5,9,10,11] [o 25 (Bn .add 11 1),v 11 25]))))
def code620:AFunc:=⟨false,false,2,27,[.tmp 4],
 S (R [0,1] [o 4 (.val (.const (.int .u16 0)))])
 (S (R [0,1,5] [o 8 (.callg 631 []),o 5 (.lalloc (List.replicate 256 (.int .u16 0))),u (.store 256 (t 5) (t 8))])
 (S (S (R [0,5,9,10,11] [v 9 1,o 10 (Sl 9),o 11 (.val (n 0))])
 (.after (.block 0 (.loop code620L0)) [0]))
 (S (R [4] [v 26 0,v 4 26])
 (Z [4])))),none⟩
def code626L0:ACode :=
 .live [0,1,2,3,4,9] (S (R [0,1,2,3,4,9,10] [o 10 (Bn .lss 9 8)])
 (S (.after (.cond (t 10) (.skip) (.live [0,1,2,3,4] (.exit 2))) [0,1,2,3,4,9])
 (S (.after (.block 3 (R [0,1,2,3,4,9] [v 11 3,o 12 (.bin .shr (t 11) (.const (.int .u64 1))),v 13 3,o 14 (.bin .and (t 13) (.const (.int .u32 1))),o 15 (.un .neg (t 14)),o 16 (.bin .and (.const (.int .u32 2197175160)) (t 15)),o 17 (Bt .xor 12 16),v 3 17])) [0,1,2,3,4,9])
 (R [0,1,2,3,4,9] [o 18 (Bn .add 9 1),v 9 18]))))
def code626L1:ACode :=
 .live [0,1,4] (S (R [0,1,4,5] [o 5 (Bn .lss 4 256)])
 (S (.after (.cond (t 5) (.skip) (.live [0,1] (.exit 0))) [0,1,4])
 (S (.after (.block 1 (S (R [0,1,2,4] [v 6 4,v 2 6])
 (S (R [0,1,2,3,4] [v 7 2,o 8 (.conv (.int .u32) (t 7)),v 3 8])
 (S (S (R [0,1,2,3,4,9] [o 9 (.val (n 0))])
 (.after (.block 2 (.loop code626L0)) [0,1,2,3,4]))
 (R [0,1,4] [v 19 2,v 20 3,o 21 (.aaddr 256 1 (t 1) (t 19)),u (.store 1 (t 21) (t 20))]))))) [0,1,4])
 (R [0,1,4] [o 22 (Bn .add 4 1),v 4 22]))))
def code626:AFunc:=⟨false,false,0,24,[.cell 0 (some 256)],
 S (R [0] [o 0 (.lalloc (List.replicate 256 (.int .u32 0)))])
 (S (R [0,1] [o 1 (.lalloc (List.replicate 256 (.int .u32 0)))])
 (S (S (R [0,1,4] [o 4 (.val (n 0))])
 (.after (.block 0 (.loop code626L1)) [0,1]))
 (S (R [0] [o 23 (.load (some 256) (t 1)),u (.store 256 (t 0) (t 23))])
 (Z [0])))),none⟩
def code630:AFunc:=⟨false,false,1,15,[.tmp 2],
 S (R [0] [o 2 (.val (.const (.slice none 0 (some 0))))])
 (S (R [0,3] [o 5 (.callg 604 []),o 3 (.alloc 1 [.int .u8 0,.int .u8 0]),u (.store 2 (t 3) (t 5))])
 (S (R [4] [o 6 (.slice (.arr 2 1) (t 3) none none none),v 7 0,o 8 (.conv (.int .u64) (t 7)),o 9 (.callg 100385 [t 6,t 8,n 4]),v 4 9])
 (S (R [2] [v 10 4,v 11 4,o 12 (.callg 602 [t 11]),o 13 (.conv (.int .u64) (t 12)),o 14 (.callg 100385 [t 10,t 13,n 2]),v 2 14])
 (Z [2])))),none⟩
def code631L0:ACode :=
 .live [0,1,2,3,4,10] (S (R [0,1,2,3,4,10,11] [o 11 (Bn .lss 10 8)])
 (S (.after (.cond (t 11) (.skip) (.live [0,1,2,3,4] (.exit 2))) [0,1,2,3,4,10])
 (S (.after (.block 3 (R [0,1,2,3,4,10] [v 12 3,o 13 (.bin .shl (t 12) (.const (.int .u64 1))),v 14 3,o 15 (.bin .shr (t 14) (.const (.int .u64 15))),o 16 (.un .neg (t 15)),o 17 (.bin .and (.const (.int .u16 4129)) (t 16)),o 18 (Bt .xor 13 17),v 3 18])) [0,1,2,3,4,10])
 (R [0,1,2,3,4,10] [o 19 (Bn .add 10 1),v 10 19]))))
def code631L1:ACode :=
 .live [0,1,4] (S (R [0,1,4,5] [o 5 (Bn .lss 4 256)])
 (S (.after (.cond (t 5) (.skip) (.live [0,1] (.exit 0))) [0,1,4])
 (S (.after (.block 1 (S (R [0,1,2,4] [v 6 4,v 2 6])
 (S (R [0,1,2,3,4] [v 7 2,o 8 (.conv (.int .u16) (t 7)),o 9 (.bin .shl (t 8) (.const (.int .u64 8))),v 3 9])
 (S (S (R [0,1,2,3,4,10] [o 10 (.val (n 0))])
 (.after (.block 2 (.loop code631L0)) [0,1,2,3,4]))
 (R [0,1,4] [v 20 2,v 21 3,o 22 (.aaddr 256 1 (t 1) (t 20)),u (.store 1 (t 22) (t 21))]))))) [0,1,4])
 (R [0,1,4] [o 23 (Bn .add 4 1),v 4 23]))))
def code631:AFunc:=⟨false,false,0,25,[.cell 0 (some 256)],
 S (R [0] [o 0 (.lalloc (List.replicate 256 (.int .u16 0)))])
 (S (R [0,1] [o 1 (.lalloc (List.replicate 256 (.int .u16 0)))])
 (S (S (R [0,1,4] [o 4 (.val (n 0))])
 (.after (.block 0 (.loop code631L1)) [0,1]))
 (S (R [0] [o 24 (.load (some 256) (t 1)),u (.store 256 (t 0) (t 24))])
 (Z [0])))),none⟩
def code100385L0:ACode :=
 .live [0,1,2,18,19] (S (R [0,1,2,18,19,20] [o 20 (Bt .lss 19 18)])
 (S (.after (.cond (t 20) (.skip) (.live [0] (.exit 0))) [0,1,2,18,19])
 (S (.after (.block 1 (S (R [0,1,2,7,18,19] [v 21 19,v 7 21])
 (R [0,1,2,18,19] [v 22 0,v 23 1,v 24 2,o 25 (Bn .sub 24 1),v 26 7,o 27 (Bt .sub 25 26),o 28 (.conv (.int .u64) (t 27)),o 29 (.bin .mul (.const (.int .u64 8)) (t 28)),o 30 (Bt .shr 23 29),o 31 (.conv (.int .u8) (t 30)),o 32 (.mkslice 1 1 [.int .u8 0] [(0,1,t 31)]),o 33 (.append 1 1 (t 22) (t 32)),v 0 33]))) [0,1,2,18,19])
 (R [0,1,2,18,19] [o 34 (Bn .add 19 1),v 19 34]))))
def code100385:AFunc:=⟨false,false,3,36,[.tmp 6],
 S (R [0,1,2] [o 6 (.val (.const (.slice none 0 (some 0))))])
 (S (R [0,1,2] [v 8 0,v 9 0,o 10 (Sl 9),v 11 0,o 12 (Sl 11),o 13 (.slice (.sl 1) (t 8) none (some (t 10)) (some (t 12))),v 0 13])
 (S (S (R [0,1,2,16] [v 14 2,o 15 (.callg 411 [t 14]),o 16 (.un .not (t 15))])
 (.after (.cond (t 16) (S (R [6] [v 17 0,v 6 17])
 (Z [6])) (.skip)) [0,1,2]))
 (S (S (R [0,1,2,18,19] [v 18 2,o 19 (.val (n 0))])
 (.after (.block 0 (.loop code100385L0)) [0]))
 (S (R [6] [v 35 0,v 6 35])
 (Z [6]))))),none⟩
def code100465:AFunc:=⟨false,false,1,8,[.tmp 2],
 S (R [0] [o 2 (.val (.const (.slice none 0 (some 0))))])
 (S (S (R [0,4] [v 3 0,o 4 (.eqnil .slice false (t 3) (.const (.slice none 0 (some 0))))])
 (.after (.cond (t 4) (S (R [2] [o 2 (.val (.const (.slice none 0 (some 0))))])
 (Z [2])) (.skip)) [0]))
 (S (R [2] [o 5 (.mkslice 1 0 [] []),v 6 0,o 7 (.append 1 1 (t 5) (t 6)),v 2 7])
 (Z [2]))),none⟩
def T:Nat→Option AFunc:=fun g=>List.lookup g [(0,code0),(5,code5),(7,code7),(13,code13),(14,code14),(15,code15),(17,code17),(18,code18),(19,code19),(22,code22),(145,code145),(166,code166),(176,code176),(200,code200),(217,noF),(411,code411),(454,code454),(466,code466),(467,noF),(482,code482),(500,code500),(558,code558),(561,code561),(564,code564),(568,code568),(571,noF),(572,code572),(573,code573),(577,code577),(578,code578),(579,code579),(581,code581),(582,code582),(583,code583),(585,code585),(586,code586),(587,code587),(588,code588),(589,code589),(590,code590),(591,code591),(592,code592),(596,code596),(597,code597),(598,code598),(600,code600),(601,code601),(602,code602),(603,code603),(604,code604),(606,code606),(611,code611),(612,noF),(613,code613),(614,code614),(616,noF),(618,code618),(619,code619),(620,code620),(626,code626),(627,noF),(628,noF),(629,noF),(630,code630),(631,code631),(637,noF),(638,noF),(646,noF),(100385,code100385),(100465,code100465),(100594,noF)]
theorem t0:T 0=some code0:=rfl
theorem t5:T 5=some code5:=rfl
theorem t7:T 7=some code7:=rfl
theorem t13:T 13=some code13:=rfl
theorem t14:T 14=some code14:=rfl
theorem t15:T 15=some code15:=rfl
theorem t17:T 17=some code17:=rfl
theorem t18:T 18=some code18:=rfl
theorem t19:T 19=some code19:=rfl
theorem t22:T 22=some code22:=rfl
theorem t145:T 145=some code145:=rfl
theorem t166:T 166=some code166:=rfl
theorem t176:T 176=some code176:=rfl
theorem t200:T 200=some code200:=rfl
theorem t411:T 411=some code411:=rfl
theorem t454:T 454=some code454:=rfl
theorem t466:T 466=some code466:=rfl
theorem t482:T 482=some code482:=rfl
theorem t500:T 500=some code500:=rfl
theorem t558:T 558=some code558:=rfl
theorem t561:T 561=some code561:=rfl
theorem t564:T 564=some code564:=rfl
theorem t568:T 568=some code568:=rfl
theorem t572:T 572=some code572:=rfl
theorem t573:T 573=some code573:=rfl
theorem t577:T 577=some code577:=rfl
theorem t578:T 578=some code578:=rfl
theorem t579:T 579=some code579:=rfl
theorem t581:T 581=some code581:=rfl
theorem t582:T 582=some code582:=rfl
theorem t583:T 583=some code583:=rfl
theorem t585:T 585=some code585:=rfl
theorem t586:T 586=some code586:=rfl
theorem t587:T 587=some code587:=rfl
theorem t588:T 588=some code588:=rfl
theorem t589:T 589=some code589:=rfl
theorem t590:T 590=some code590:=rfl
theorem t591:T 591=some code591:=rfl
theorem t592:T 592=some code592:=rfl
theorem t596:T 596=some code596:=rfl
theorem t597:T 597=some code597:=rfl
theorem t598:T 598=some code598:=rfl
theorem t600:T 600=some code600:=rfl
theorem t601:T 601=some code601:=rfl
theorem t602:T 602=some code602:=rfl
theorem t603:T 603=some code603:=rfl
theorem t604:T 604=some code604:=rfl
theorem t606:T 606=some code606:=rfl
theorem t611:T 611=some code611:=rfl
theorem t613:T 613=some code613:=rfl
theorem t614:T 614=some code614:=rfl
theorem t618:T 618=some code618:=rfl
theorem t619:T 619=some code619:=rfl
theorem t620:T 620=some code620:=rfl
theorem t626:T 626=some code626:=rfl
theorem t630:T 630=some code630:=rfl
theorem t631:T 631=some code631:=rfl
theorem t100385:T 100385=some code100385:=rfl
theorem t100465:T 100465=some code100465:=rfl
end Go.Abs.AbsBlb

namespace Go.Abs
def repF:List AVal→Heap→Option (AVal × List (Nat × AObj) × List AObj)
 | [.slice (some (p,o)) 1 _,.int .i64 n],h=>match h.get p with
  | some (.cells 1 X)=>match X[o]? with
   | some (.int .u8 255)=>if 0 < n∧n≤262144 then some (.slice (some (h.size,0)) n.toNat (some n.toNat),[],[.cells 1 (List.replicate n.toNat (.int .u8 255))]) else none
   | _=>none
  | _=>none
 | _,_=>none
end Go.Abs

namespace Go.Abs.AbsBlo
open Go.Abs.Short
-- base: AbsBlb
def code88:AFunc:=⟨false,false,2,8,[.tmp 4],
 S (R [0,1] [o 4 (.val F)])
 (S (R [4] [v 5 0,v 6 1,o 7 (.callg 140 [t 5,t 6]),v 4 7])
 (Z [4])),none⟩
def code140:AFunc:=⟨false,false,2,18,[.tmp 4],
 S (R [0,1] [o 4 (.val F)])
 (S (R [4] [v 5 0,o 6 (.len .str (t 5)),v 7 1,o 8 (.len .str (t 7)),o 9 (Bt .geq 6 8),v 10 9,g 11 10 true (Vl 0),g 12 10 true (Vl 1),g 13 10 true (.len .str (t 12)),g 14 10 true (.slice .str (t 11) none (some (t 13)) none),g 15 10 true (Vl 1),g 16 10 true (Bt .eql 14 15),o 17 (.pick (t 10) (t 16) F),v 4 17])
 (Z [4])),none⟩
def code142L0:ACode :=
 .live [0,1,7,8] (S (R [0,1,7,8,9] [o 9 (Bt .lss 8 7)])
 (S (.after (.cond (t 9) (.skip) (.live [] (.exit 0))) [0,1,7,8])
 (S (.after (.block 1 (S (R [0,1,5,7,8] [v 10 8,v 5 10])
 (S (R [0,1,5,7,8,16] [v 11 1,v 12 0,v 13 5,o 14 (.iaddr 1 (t 12) (t 13)),o 15 (Lq 14),o 16 (.call (t 11) [t 15])])
 (.after (.cond (t 16) (S (R [4] [v 17 5,v 4 17])
 (Z [4])) (.skip)) [0,1,7,8])))) [0,1,7,8])
 (R [0,1,7,8] [o 18 (Bn .add 8 1),v 8 18]))))
def code142:AFunc:=⟨false,false,2,19,[.tmp 4],
 S (R [0,1] [o 4 (.val (n 0))])
 (S (S (R [0,1,7,8] [v 6 0,o 7 (Sl 6),o 8 (.val (n 0))])
 (.after (.block 0 (.loop code142L0)) []))
 (S (R [4] [o 4 (.val (.const (.int .i64 (-1))))])
 (Z [4]))),none⟩
def code480:AFunc:=⟨false,false,2,17,[.tmp 4],
 S (R [0,3] [o 3 (.box (t 1)),o 4 (.val (.const (.slice none 0 (some 0))))])
 (S (S (R [0,3,7] [v 6 0,o 7 (.eqnil .ptr false (t 6) (.const (.ptr none)))])
 (.after (.cond (t 7) (S (R [4] [o 4 (.val (.const (.slice none 0 (some 0))))])
 (Z [4])) (.skip)) [0,3]))
 (S (R [3,5] [v 8 0,o 9 (.nilcheck (t 8)),o 10 (Fa 9 5),o 11 (Lq 10),o 12 (.callg 496 [t 11]),o 13 (.callg 497 [t 12]),v 5 13])
 (S (R [4] [v 14 5,o 15 (.mkfunc 494 [] [t 3]),o 16 (.callg 495 [t 14,t 15]),v 4 16])
 (Z [4])))),none⟩
def code494:AFunc:=⟨false,false,2,8,[.tmp 3],
 S (R [0,1] [o 3 (.val F)])
 (S (R [3] [v 4 0,o 5 (Lq 1),o 6 (.callg 88 [t 4,t 5]),o 7 (.un .not (t 6)),v 3 7])
 (Z [3])),none⟩
def code495L0:ACode :=
 .live [0,1,5,6] (S (S (R [0,1,5,6,19] [v 16 6,v 17 0,o 18 (Sl 17),o 19 (Bt .lss 16 18)])
 (.after (.cond (t 19) (.skip) (.live [0,5] (.exit 0))) [0,1,5,6]))
 (S (.after (.block 1 (S (R [0,1,5,6,7] [v 22 0,v 23 6,o 24 (.iaddr 1 (t 22) (t 23)),o 25 (Lq 24),v 7 25])
 (S (R [0,1,5,6,7,29] [v 26 1,v 27 7,o 28 (.call (t 26) [t 27]),o 29 (.un .not (t 28))])
 (.after (.cond (t 29) (S (R [0,1,5,6] [v 30 0,v 31 5,v 32 7,o 33 (.iaddr 1 (t 30) (t 31)),u (.store 1 (t 33) (t 32))])
 (R [0,1,5,6] [v 34 5,o 35 (Bn .add 34 1),v 5 35])) (.skip)) [0,1,5,6])))) [0,1,5,6])
 (R [0,1,5,6] [v 20 6,o 21 (Bn .add 20 1),v 6 21])))
def code495:AFunc:=⟨false,false,2,42,[.tmp 4],
 S (R [0,1] [o 4 (.val (.const (.slice none 0 (some 0))))])
 (S (R [0,1,5] [v 8 0,v 9 1,o 10 (.callg 142 [t 8,t 9]),v 5 10])
 (S (S (R [0,1,5,12] [v 11 5,o 12 (.bin .eql (t 11) (.const (.int .i64 (-1))))])
 (.after (.cond (t 12) (S (R [4] [v 13 0,v 4 13])
 (Z [4])) (.skip)) [0,1,5]))
 (S (S (R [0,1,5,6] [v 14 5,o 15 (Bn .add 14 1),v 6 15])
 (.after (.block 0 (.loop code495L0)) [0,5]))
 (S (R [0,5] [v 36 0,v 37 5,o 38 (.slice (.sl 1) (t 36) (some (t 37)) none none),u (.ext (.clear 1 [.str []]) [t 38])])
 (S (R [4] [v 39 0,v 40 5,o 41 (.slice (.sl 1) (t 39) none (some (t 40)) none),v 4 41])
 (Z [4])))))),none⟩
def code496:AFunc:=⟨false,false,1,4,[.tmp 2],
 S (R [1] [o 1 (.box (t 0)),o 2 (.val (.const (.nilFunc)))])
 (S (R [2] [o 3 (.mkfunc 507 [] [t 1]),v 2 3])
 (Z [2])),none⟩
def code497:AFunc:=⟨false,false,1,9,[.tmp 2],
 S (R [0] [o 2 (.val (.const (.slice none 0 (some 0))))])
 (S (R [3] [v 4 0,o 5 (.callg 506 [t 4]),v 3 5])
 (S (R [3] [v 6 3,o 7 (.callg 505 [t 6])])
 (S (R [2] [v 8 3,v 2 8])
 (Z [2])))),none⟩
def code505:AFunc:=⟨false,false,1,11,[],
 S (R [0,2] [v 3 0,o 4 (Sl 3),v 2 4])
 (R [] [v 5 0,v 6 2,v 7 2,o 8 (.conv (.int .u64) (t 7)),o 9 (.callg 166 [t 8]),o 10 (.callg 513 [t 5,n 0,t 6,t 9])]),none⟩
def code506:AFunc:=⟨false,false,1,5,[.tmp 2],
 S (R [0] [o 2 (.val (.const (.slice none 0 (some 0))))])
 (S (R [2] [v 3 0,o 4 (.callg 512 [.const (.slice none 0 (some 0)),t 3]),v 2 4])
 (Z [2])),none⟩
def code507L0:ACode :=
 .live [0,5] (S (.after (S (.next (some 6) (t 5)) (.region [⟨false,[],[o 7 (Xt 6 0)]⟩])) [0,5,7])
 (S (.after (.cond (t 7) (.skip) (.live [] (.exit 0))) [0,5])
 (.after (.block 1 (S (R [0,3,5] [o 8 (.ext .entry [t 5]),o 9 (Xt 8 0),v 3 9])
 (S (R [0,5,13] [v 10 0,v 11 3,o 12 (.call (t 10) [t 11]),o 13 (.un .not (t 12))])
 (.after (.cond (t 13) (Z []) (.skip)) [0,5])))) [0,5])))
def code507:AFunc:=⟨false,true,2,14,[],
 S (R [0,5] [o 4 (Lq 1),o 5 (.ext .mkiter [t 4])])
 (.after (.block 0 (.loop code507L0)) []),none⟩
def rcode522a:ACode :=
 R [2,5] [v 5 7]
def rcode522b:ACode :=
 .after (.block 1 (R [] [o 8 (Lq 2),v 9 5,o 10 (.mkslice 1 1 [.str []] [(0,1,t 9)]),o 11 (.append 1 16 (t 8) (t 10)),u (.store 1 (t 2) (t 11))])) []
def round522:ARound:=⟨[7],rcode522a,rcode522b⟩
def code522:AFunc:=⟨false,false,0,0,[],.skip,some (.round round522)⟩
def code512:AFunc:=⟨false,false,2,13,[.tmp 4],
 S (R [1,2] [o 2 (.box (t 0)),o 4 (.val (.const (.slice none 0 (some 0))))])
 (S (S (R [2,6] [v 6 1])
 (.after (.block 0 (.after (.rangeFunc (t 6) 522 [2] [7] rcode522a rcode522b) [2])) [2]))
 (S (R [4] [o 12 (Lq 2),v 4 12])
 (Z [4]))),none⟩
def code513L0:ACode :=
 .live [0,1,2,3,8,9] (.after (.block 1 (S (R [0,1,2,3,8,9,10] [v 19 2,v 20 1,o 21 (Bt .sub 19 20),v 10 21])
 (S (S (R [0,1,2,3,8,9,10,23] [v 22 10,o 23 (Bn .leq 22 12)])
 (.after (.cond (t 23) (S (R [] [v 24 0,v 25 1,v 26 2,o 27 (.callg 531 [t 24,t 25,t 26])])
 (Z [])) (.skip)) [0,1,2,3,8,9,10]))
 (S (S (R [0,1,2,3,8,9,10,29] [v 28 3,o 29 (Bn .eql 28 0)])
 (.after (.cond (t 29) (S (R [] [v 30 0,v 31 1,v 32 2,o 33 (.nextStr F)])
 (Z [])) (.skip)) [0,1,2,3,8,9,10]))
 (S (S (R [0,1,2,3,8,9,10,35] [v 34 8,o 35 (.un .not (t 34))])
 (.after (.cond (t 35) (S (R [0,1,2,3,8,9,10] [v 36 0,v 37 1,v 38 2,o 39 (.nextStr F)])
 (R [0,1,2,3,8,9,10] [v 40 3,o 41 (Bn .sub 40 1),v 3 41])) (.skip)) [0,1,2,3,8,9,10]))
 (S (R [0,1,2,3,8,9,10,11,12] [v 43 0,v 44 1,v 45 2,o 46 (.nextStr F),v 42 46,o 47 (Xt 42 0),o 48 (Xt 42 1),v 11 47,v 12 48])
 (S (S (R [0,1,2,3,8,9,10,11,12,50] [v 49 12,o 50 (Bn .eql 49 2)])
 (.after (.cond (t 50) (S (R [0,1,2,3,8,9,10,11] [v 51 0,v 52 1,v 53 2,o 54 (.nextStr F)])
 (S (R [0,1,2,3,8,9,10,11] [v 55 2,o 56 (Bn .sub 55 1),v 57 11,v 58 1,o 59 (Bt .sub 57 58),o 60 (Bt .sub 56 59),v 11 60])
 (R [0,1,2,3,8,9,10,11,12] [o 12 (.val (n 1))]))) (.skip)) [0,1,2,3,8,9,10,11,12]))
 (S (S (R [0,1,2,3,8,9,10,11,68] [v 61 8,v 62 61,g 63 62 true (Vl 9),o 64 (.pick (t 62) (t 63) F),v 65 64,g 66 65 true (Vl 12),g 67 65 true (Bn .eql 66 1),o 68 (.pick (t 65) (t 67) F)])
 (.after (.cond (t 68) (S (R [0,1,2,3,8,9,10,11,72] [v 69 0,v 70 1,v 71 2,o 72 (.nextStr F)])
 (.after (.cond (t 72) (Z []) (.skip)) [0,1,2,3,8,9,10,11])) (.skip)) [0,1,2,3,8,9,10,11]))
 (S (S (.after (.region [⟨false,[],[v 73 1,o 74 (Bn .gtr 73 0),v 75 74]⟩,⟨true,[],[g 76 75 true (Vl 0),g 77 75 true (Vl 1),g 78 75 true (Bn .sub 77 1),g 79 75 true (.iaddr 1 (t 76) (t 78)),g 80 75 true (Lq 79),g 81 75 true (Vl 0),g 82 75 true (Vl 11),g 83 75 true (.iaddr 1 (t 81) (t 82)),g 84 75 true (Lq 83)]⟩,⟨false,[],[g 85 75 true (.callg 525 [t 80,t 84]),g 86 75 true (.un .not (t 85)),o 87 (.pick (t 75) (t 86) F)]⟩]) [0,1,2,3,8,9,10,11,87])
 (.after (.cond (t 87) (S (R [0,2,3,8,9,13] [v 88 0,v 89 1,v 90 2,v 91 11,o 92 (.nextStr F),v 13 92])
 (S (R [0,1,2,3,8,9] [v 93 13,v 1 93])
 (.live [0,1,2,3,8,9] (.exit 1)))) (.skip)) [0,1,2,3,10,11]))
 (S (R [0,1,2,3,10,14,15] [v 95 0,v 96 1,v 97 2,v 98 11,o 99 (.nextStr F),v 94 99,o 100 (Xt 94 0),o 101 (Xt 94 1),v 14 100,v 15 101])
 (S (R [0,1,2,3,9,10,14] [v 102 15,v 9 102])
 (S (R [0,1,2,3,9,10,14,16,17] [v 103 14,v 104 1,o 105 (Bt .sub 103 104),v 106 2,v 107 14,o 108 (Bt .sub 106 107),v 16 105,v 17 108])
 (S (R [0,1,2,3,9,14,16,17,18] [v 109 10,o 110 (Bn .quo 109 8),v 18 110])
 (S (R [0,1,2,3,9,14,16,17,18,113] [v 111 16,v 112 17,o 113 (Bt .lss 111 112)])
 (.after (.cond (t 113) (S (R [0,1,2,3,8,9,14] [v 114 16,v 115 18,o 116 (Bt .geq 114 115),v 8 116])
 (S (R [0,2,3,8,9,14] [v 117 0,v 118 1,v 119 14,v 120 3,o 121 (.callg 513 [t 117,t 118,t 119,t 120])])
 (R [0,1,2,3,8,9] [v 122 14,o 123 (Bn .add 122 1),v 1 123]))) (S (R [0,1,2,3,8,9,14] [v 124 17,v 125 18,o 126 (Bt .geq 124 125),v 8 126])
 (S (R [0,1,3,8,9,14] [v 127 0,v 128 14,o 129 (Bn .add 128 1),v 130 2,v 131 3,o 132 (.callg 513 [t 127,t 129,t 130,t 131])])
 (R [0,1,2,3,8,9] [v 133 14,v 2 133])))) [0,1,2,3,8,9]))))))))))))))) [0,1,2,3,8,9])
def code513:AFunc:=⟨false,false,4,134,[],
 S (R [0,1,2,3,8] [o 8 (.val Y)])
 (S (R [0,1,2,3,8,9] [o 9 (.val Y)])
 (.after (.block 0 (.loop code513L0)) [])),none⟩
def code525:AFunc:=⟨false,false,2,17,[.tmp 4],
 S (R [0,1] [o 4 (.val F)])
 (S (R [4] [v 5 0,o 6 (.callg 542 [t 5]),v 7 6,g 8 7 true (Vl 1),g 9 7 true (.callg 542 [t 8]),g 10 7 true (.un .not (t 9)),o 11 (.pick (t 7) (t 10) F),v 12 11,g 13 12 false (Vl 0),g 14 12 false (Vl 1),g 15 12 false (Bt .lss 13 14),o 16 (.pick (t 12) Y (t 15)),v 4 16])
 (Z [4])),none⟩
def code531L0:ACode :=
 .live [0,1,2,6,7] (S (S (.after (.region [⟨true,[],[v 16 7,v 17 1]⟩,⟨false,[],[o 18 (Bt .gtr 16 17),v 19 18]⟩,⟨true,[],[g 20 19 true (Vl 0),g 21 19 true (Vl 7),g 22 19 true (.iaddr 1 (t 20) (t 21)),g 23 19 true (Lq 22),g 24 19 true (Vl 0),g 25 19 true (Vl 7),g 26 19 true (Bn .sub 25 1),g 27 19 true (.iaddr 1 (t 24) (t 26)),g 28 19 true (Lq 27)]⟩,⟨false,[],[g 29 19 true (.callg 525 [t 23,t 28]),o 30 (.pick (t 19) (t 29) F)]⟩]) [0,1,2,6,7,30])
 (.after (.cond (t 30) (.skip) (.live [0,1,2,6] (.exit 2))) [0,1,2,6,7]))
 (S (.after (.block 3 (.after (.region [⟨true,[0,0,0,0,8,0,0,64,224,480,0,0,3072,7168,16355,32739],[v 33 0,v 34 7,v 35 0,v 36 7,o 37 (Bn .sub 36 1),v 38 0,v 39 7,o 40 (Bn .sub 39 1),o 41 (.iaddr 1 (t 38) (t 40)),o 42 (Lq 41),v 43 0,v 44 7,o 45 (.iaddr 1 (t 43) (t 44)),o 46 (Lq 45),o 47 (.iaddr 1 (t 33) (t 34)),u (.ext (.hstore 1) [t 47,t 42])]⟩,⟨false,[],[o 48 (.iaddr 1 (t 35) (t 37)),u (.store 1 (t 48) (t 46))]⟩]) [0,1,2,6,7])) [0,1,2,6,7])
 (R [0,1,2,6,7] [v 31 7,o 32 (Bn .sub 31 1),v 7 32])))
def code531L1:ACode :=
 .live [0,1,2,6] (S (S (R [0,1,2,6,12] [v 10 6,v 11 2,o 12 (Bt .lss 10 11)])
 (.after (.cond (t 12) (.skip) (.live [] (.exit 0))) [0,1,2,6]))
 (S (.after (.block 1 (S (R [0,1,2,6,7] [v 15 6,v 7 15])
 (.after (.block 2 (.loop code531L0)) [0,1,2,6]))) [0,1,2,6])
 (R [0,1,2,6] [v 13 6,o 14 (Bn .add 13 1),v 6 14])))
def code531:AFunc:=⟨false,false,3,49,[],
 S (R [0,1,2,6] [v 8 1,o 9 (Bn .add 8 1),v 6 9])
 (.after (.block 0 (.loop code531L1)) []),none⟩
def code542:AFunc:=⟨false,false,1,6,[.tmp 2],
 S (R [0] [o 2 (.val F)])
 (S (R [2] [v 3 0,v 4 0,o 5 (Bt .neq 3 4),v 2 5])
 (Z [2])),none⟩
def code549:AFunc:=⟨false,false,2,42,[.tmp 4],
 S (R [0,1] [o 4 (.val (n 0))])
 (S (S (R [0,1,9] [v 8 0,o 9 (.callg 561 [t 8])])
 (.after (.cond (t 9) (S (R [4] [o 4 (.val (n 5))])
 (Z [4])) (.skip)) [0,1]))
 (S (R [0,5,6] [v 11 1,o 12 (.callg 581 [t 11]),v 10 12,o 13 (Xt 10 0),o 14 (Xt 10 1),v 5 13,v 6 14])
 (S (.after (.block 0 (S (R [0,5,6,15] [v 16 6,o 17 (Bn .neq 16 0),v 15 17])
 (.after (.cond (t 15) (S (R [4] [v 18 6,v 4 18])
 (Z [4])) (S (.after (.region [⟨true,[],[v 20 5,o 21 (.callg 579 [t 20]),v 22 0,o 23 (.nilcheck (t 22)),o 24 (Fa 23 1),o 25 (Fa 24 1),o 26 (Lq 25),o 27 (Bn .sub 26 12),o 28 (Bn .quo 27 2)]⟩,⟨false,[],[o 29 (Bt .gtr 21 28),v 19 29]⟩]) [0,5,19])
 (.after (.cond (t 19) (S (R [4] [o 4 (.val (n 9))])
 (Z [4])) (.skip)) [0,5]))) [0,5]))) [0,5])
 (S (S (R [0,5,7] [v 30 0,v 31 5,o 32 (.callg 579 [t 31]),o 33 (.callg 580 [t 30,t 32]),v 7 33])
 (S (R [0,5,7,35] [v 34 7,o 35 (Bn .neq 34 0)])
 (.after (.cond (t 35) (S (R [4] [v 36 7,v 4 36])
 (Z [4])) (.skip)) [0,5])))
 (S (R [4] [v 37 0,v 38 0,v 39 5,o 40 (.callg 577 [t 38,t 39]),o 41 (.callg 578 [t 37,t 40]),v 4 41])
 (Z [4])))))),none⟩
def code555L0:ACode :=
 .live [0,2,4,22,23] (S (R [0,2,4,22,23,24] [o 24 (Bt .lss 23 22)])
 (S (.after (.cond (t 24) (.skip) (.live [2,4] (.exit 0))) [0,2,4,22,23])
 (S (.after (.block 1 (S (R [0,2,4,5,22,23] [v 25 23,v 5 25])
 (S (R [0,2,4,5,6,7,22,23] [v 27 0,v 28 5,o 29 (.callg 564 [t 27,t 28]),v 26 29,o 30 (Xt 26 0),o 31 (Xt 26 1),o 6 (.lalloc [.int .i64 0,.int .u32 0,.int .i64 0]),u (.store 3 (t 6) (t 30)),v 7 31])
 (S (S (R [0,2,4,5,6,7,22,23,33] [v 32 7,o 33 (Bn .neq 32 0)])
 (.after (.cond (t 33) (S (R [2,3] [v 34 7,u (.store 1 (t 2) (.const (.ptr none))),v 3 34])
 (Z [2,3])) (.skip)) [0,2,4,5,6,22,23]))
 (S (.after (.region [⟨true,[0,0,2,6,14,0,32,126],[o 35 (Lq 2),o 36 (Lq 2),o 37 (.nilcheck (t 36)),o 38 (Fa 37 4),o 39 (Lq 38),o 40 (.load (some 3) (t 6)),o 41 (.mkslice 3 1 [.int .i64 0,.int .u32 0,.int .i64 0] [(0,3,t 40)]),o 42 (.append 3 24 (t 39) (t 41))]⟩,⟨false,[],[o 43 (.nilcheck (t 35)),o 44 (Fa 43 4),u (.store 1 (t 44) (t 42))]⟩]) [0,2,4,5,6,22,23])
 (S (R [0,2,4,5,22,23,47] [o 45 (Fa 6 0),o 46 (Lq 45),o 47 (Bn .eql 46 2)])
 (.after (.cond (t 47) (R [0,2,4,22,23] [v 48 4,v 49 5,o 50 (.mkslice 1 1 [.int .i64 0] [(0,1,t 49)]),o 51 (.append 1 8 (t 48) (t 50)),v 4 51]) (.skip)) [0,2,4,22,23]))))))) [0,2,4,22,23])
 (R [0,2,4,22,23] [o 52 (Bn .add 23 1),v 23 52]))))
def code555:AFunc:=⟨false,false,1,85,[.cell 2 none,.tmp 3],
 S (R [0,2] [o 2 (.alloc 1 [.ptr none]),o 3 (.val (n 0))])
 (S (S (R [0,2,11] [v 10 0,o 11 (.eqnil .ptr false (t 10) (.const (.ptr none)))])
 (.after (.cond (t 11) (S (R [2,3] [u (.store 1 (t 2) (.const (.ptr none))),o 3 (.val (n 1))])
 (Z [2,3])) (.skip)) [0,2]))
 (S (R [0,2] [v 12 0,v 13 0,o 14 (.callg 573 [t 13]),o 15 (.ext .mkmap []),o 16 (.build [.ptr none,.int .i64 0,.int .i64 0,.int .i64 0,.slice none 0 (some 0),.map none,.int .i64 0,.int .i64 0,.int .u32 0,.int .u32 0,.bool false] [(0,1,t 12),(1,3,t 14),(5,1,t 15),(6,1,.const (.int .i64 (-1)))]),o 17 (.box (t 16)),u (.store 1 (t 2) (t 17))])
 (S (R [0,2,4] [o 4 (.val (.const (.slice none 0 (some 0))))])
 (S (S (R [0,2,4,22,23] [o 18 (Lq 2),o 19 (.nilcheck (t 18)),o 20 (Fa 19 1),o 21 (Fa 20 0),o 22 (Lq 21),o 23 (.val (n 0))])
 (.after (.block 0 (.loop code555L0)) [2,4]))
 (S (R [2,4] [v 53 4,o 54 (.mkfunc 571 [] [t 2]),o 55 (.callg 572 [t 53,t 54])])
 (S (S (R [2,4,8] [o 56 (Lq 2),v 57 4,o 58 (.callg 570 [t 56,t 57]),v 8 58])
 (S (R [2,4,8,60] [v 59 8,o 60 (Bn .neq 59 0)])
 (.after (.cond (t 60) (S (R [2,3] [v 61 8,u (.store 1 (t 2) (.const (.ptr none))),v 3 61])
 (Z [2,3])) (.skip)) [2,4])))
 (S (S (.after (.region [⟨true,[],[o 62 (Lq 2),o 63 (.nilcheck (t 62)),o 64 (Fa 63 4),o 65 (Lq 64),o 66 (Lq 2),o 67 (.nilcheck (t 66)),o 68 (Fa 67 1),o 69 (Fa 68 2),o 70 (Lq 69)]⟩,⟨false,[],[o 71 (.callg 0 [t 65,t 70]),o 72 (Bn .eql 71 0),v 73 72,g 74 73 true (Vl 4),g 75 73 true (Sl 74),g 76 73 true (Bn .gtr 75 1),o 77 (.pick (t 73) (t 76) F)]⟩]) [2,4,77])
 (.after (.cond (t 77) (S (R [2,9] [o 78 (Lq 2),v 79 4,o 80 (.nextStr F),v 9 80])
 (S (R [2,9,82] [v 81 9,o 82 (Bn .neq 81 0)])
 (.after (.cond (t 82) (S (R [2,3] [v 83 9,u (.store 1 (t 2) (.const (.ptr none))),v 3 83])
 (Z [2,3])) (.skip)) [2]))) (.skip)) [2]))
 (S (R [2,3] [o 84 (Lq 2),u (.store 1 (t 2) (t 84)),o 3 (.val (n 0))])
 (Z [2,3]))))))))),none⟩
def code556:AFunc:=⟨false,false,1,33,[.tmp 2,.tmp 3],
 S (R [1] [o 1 (.lbox (t 0)),o 2 (.val (.const (.ptr none))),o 3 (.val (n 0))])
 (S (S (R [1,19] [o 4 (Fa 1 0),o 5 (Lq 4),o 6 (.callg 568 [t 5,n 1,n 64]),o 7 (.un .not (t 6)),v 8 7,g 9 8 false (Fa 1 1),g 10 8 false (Lq 9),g 11 8 false (.callg 568 [t 10,n 64,n 65536]),g 12 8 false (.un .not (t 11)),o 13 (.pick (t 8) Y (t 12)),v 14 13,g 15 14 false (Fa 1 2),g 16 14 false (Lq 15),g 17 14 false (.callg 568 [t 16,n 1,n 1048576]),g 18 14 false (.un .not (t 17)),o 19 (.pick (t 14) Y (t 18))])
 (.after (.cond (t 19) (S (R [2,3] [o 2 (.val (.const (.ptr none))),o 3 (.val (n 1))])
 (Z [2,3])) (.skip)) [1]))
 (S (.after (.region [⟨true,[0,0,0,4,0,16,60,126,0,256,768],[o 20 (.load (some 3) (t 1)),o 21 (.mkslice 1 1 [.int .u8 0] [(0,1,.const (.int .u8 255))]),o 22 (Fa 1 0),o 23 (Lq 22),o 24 (Fa 1 1),o 25 (Lq 24),o 26 (Bt .mul 23 25),o 27 (.callg 567 [t 21,t 26]),o 28 (Fa 1 0),o 29 (Lq 28),o 30 (.make 1 8 [.int .i64 0] (t 29) (t 29))]⟩,⟨false,[],[o 31 (.build [.int .i64 0,.int .i64 0,.int .i64 0,.slice none 0 (some 0),.slice none 0 (some 0),.bool false,.int .i64 0,.int .i64 0,.int .u8 0] [(0,3,t 20),(3,1,t 27),(4,1,t 30),(6,1,.const (.int .i64 (-1)))]),o 32 (.box (t 31)),v 2 32,o 3 (.val (n 0))]⟩]) [2,3])
 (Z [2,3]))),none⟩
def code567:AFunc:=⟨false,false,0,0,[],.skip,some (.lib Go.Abs.repF)⟩
def code570L0:ACode :=
 .live [0,18,19,20] (S (R [0,18,19,20,21] [o 21 (Bt .lss 20 19)])
 (S (.after (.cond (t 21) (.skip) (.live [] (.exit 0))) [0,18,19,20])
 (S (.after (.block 1 (S (R [0,6,18,19,20] [o 22 (.iaddr 1 (t 18) (t 20)),o 23 (Lq 22),v 6 23])
 (S (R [0,7,18,19,20] [v 24 0,v 25 6,o 26 (.nextStr F),v 7 26])
 (S (R [0,7,18,19,20,28] [v 27 7,o 28 (Bn .neq 27 0)])
 (.after (.cond (t 28) (S (R [4] [v 29 7,v 4 29])
 (Z [4])) (.skip)) [0,18,19,20]))))) [0,18,19,20])
 (R [0,18,19,20] [o 30 (Bn .add 20 1),v 20 30]))))
def code570:AFunc:=⟨false,false,2,31,[.tmp 4],
 S (R [0,1] [o 4 (.val (n 0))])
 (S (R [0,1] [v 8 0,v 9 0,v 10 0,o 11 (.ext .mkmap []),o 12 (.nilcheck (t 8)),o 13 (Fa 12 5),u (.store 1 (t 13) (t 11)),o 14 (.nilcheck (t 9)),o 15 (Fa 14 6),u (.store 1 (t 15) (.const (.int .i64 (-1)))),o 16 (.nilcheck (t 10)),o 17 (Fa 16 9),u (.store 1 (t 17) (.const (.int .u32 0)))])
 (S (S (R [0,18,19,20] [v 18 1,o 19 (Sl 18),o 20 (.val (n 0))])
 (.after (.block 0 (.loop code570L0)) []))
 (S (R [4] [o 4 (.val (n 0))])
 (Z [4])))),none⟩
def code580L0:ACode :=
 .live [0,1,12,13] (S (R [0,1,12,13,14] [o 14 (Bt .lss 13 12)])
 (S (.after (.cond (t 14) (.skip) (.live [0,1] (.exit 0))) [0,1,12,13])
 (S (.after (.block 1 (S (R [0,1,5,12,13] [v 15 0,o 16 (.mkfunc 599 [t 15] []),v 5 16])
 (S (.after (.block 2 (S (R [0,1,5,12,13,17] [v 18 0,v 19 1,o 20 (.callg 597 [t 18,t 19]),v 17 20])
 (.after (.cond (t 17) (S (R [4] [o 4 (.val (n 0))])
 (Z [4])) (S (.after (.region [⟨true,[],[v 22 0,o 23 (.nilcheck (t 22)),o 24 (Fa 23 4),o 25 (Lq 24),v 26 0,o 27 (.nilcheck (t 26)),o 28 (Fa 27 1),o 29 (Fa 28 2),o 30 (Lq 29)]⟩,⟨false,[],[o 31 (.callg 0 [t 25,t 30]),o 32 (Bn .geq 31 2),v 21 32]⟩]) [0,1,5,12,13,21])
 (.after (.cond (t 21) (R [0,1,5,12,13] [v 33 0,o 34 (.mkfunc 598 [t 33] []),v 5 34]) (.skip)) [0,1,5,12,13]))) [0,1,5,12,13]))) [0,1,5,12,13])
 (S (R [0,1,6,12,13] [v 35 5,o 36 (.call (t 35) []),v 6 36])
 (S (R [0,1,6,12,13,38] [v 37 6,o 38 (Bn .neq 37 0)])
 (.after (.cond (t 38) (S (R [4] [v 39 6,v 4 39])
 (Z [4])) (.skip)) [0,1,12,13])))))) [0,1,12,13])
 (R [0,1,12,13] [o 40 (Bn .add 13 1),v 13 40]))))
def code580:AFunc:=⟨false,false,2,44,[.tmp 4],
 S (R [0,1] [o 4 (.val (n 0))])
 (S (S (R [0,1,12,13] [v 7 0,o 8 (.nilcheck (t 7)),o 9 (Fa 8 4),o 10 (Lq 9),o 11 (Sl 10),o 12 (.bin .mul (n 4) (t 11)),o 13 (.val (n 0))])
 (.after (.block 0 (.loop code580L0)) [0,1]))
 (S (S (R [43] [v 41 0,v 42 1,o 43 (.callg 597 [t 41,t 42])])
 (.after (.cond (t 43) (S (R [4] [o 4 (.val (n 0))])
 (Z [4])) (.skip)) []))
 (S (R [4] [o 4 (.val (n 10))])
 (Z [4])))),none⟩
def T:Nat→Option AFunc:=fun g=>match AbsBlb.T g with
 | some f=>some f
 | none=>List.lookup g [(88,code88),(140,code140),(142,code142),(480,code480),(494,code494),(495,code495),(496,code496),(497,code497),(505,code505),(506,code506),(507,code507),(522,code522),(512,code512),(513,code513),(525,code525),(531,code531),(542,code542),(549,code549),(555,code555),(556,code556),(567,code567),(570,code570),(580,code580),(615,noF),(599,noF),(617,noF)]
theorem sub:∀ g f,AbsBlb.T g=some f→T g=some f:=fun g f h=>by unfold T; rw [h]
theorem t88:T 88=some code88:=rfl
theorem t140:T 140=some code140:=rfl
theorem t142:T 142=some code142:=rfl
theorem t480:T 480=some code480:=rfl
theorem t494:T 494=some code494:=rfl
theorem t495:T 495=some code495:=rfl
theorem t496:T 496=some code496:=rfl
theorem t497:T 497=some code497:=rfl
theorem t505:T 505=some code505:=rfl
theorem t506:T 506=some code506:=rfl
theorem t507:T 507=some code507:=rfl
theorem t522:T 522=some code522:=rfl
theorem t512:T 512=some code512:=rfl
theorem t513:T 513=some code513:=rfl
theorem t525:T 525=some code525:=rfl
theorem t531:T 531=some code531:=rfl
theorem t542:T 542=some code542:=rfl
theorem t549:T 549=some code549:=rfl
theorem t555:T 555=some code555:=rfl
theorem t556:T 556=some code556:=rfl
theorem t567:T 567=some code567:=rfl
theorem t570:T 570=some code570:=rfl
theorem t580:T 580=some code580:=rfl
end Go.Abs.AbsBlo

namespace Go.Abs.AbsList
open Go.Lib
end Go.Abs.AbsList
