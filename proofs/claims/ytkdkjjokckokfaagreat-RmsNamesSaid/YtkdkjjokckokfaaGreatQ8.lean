/-
  Texts joined.
-/
import Derived.Test.YtkdkjjokckokfaaGreatQ0
import Derived.Test.YtkdkjjokckokfaaGreatQ5
import Derived.Room.Shelf.Join48
import Derived.Test.YtkdkjjokckokfaaGreatQ7
import Derived.Lib.TrimByte
import Derived.Test.YtkdkjjokckokfaaGreatQ6
set_option linter.unusedVariables false
set_option linter.unusedSimpArgs false
set_option maxRecDepth 100000
namespace Go.Abs
open Go.Proofs Go.Shelf Go.RowKit
theorem lib_ends {E:Env} {f:FuncId} {args':Array Value} {w:World} {μ:MM} {h:Heap} {v:AVal} {v':Value} (hr:Rel E μ h w) (hv:VRel E μ v v') (hc:Calls E.P f args' w fun e w'=>e = .returned v'∧Below w.heap.size w w') :
  Calls E.P f args' w (Ends E μ w v h) :=
 hc.mono fun e w' ⟨h1,h2⟩=>⟨v',μ,h1,⟨h2.os,h2.tape,h2.output,h2.size,fun k hk _ _=>h2.block k hk,aj _,fun _ _=>.inl rfl,fun i m hi hm=>absurd (ah hm) (by omega)⟩,hv,hr.keep h2.size (fun i m hm=>h2.block _ (hr.lt i m hm)) fun k _ hk=>h2.block k hk⟩
end Go.Abs

namespace Go.Abs.AbsList
open Go.Lib
end Go.Abs.AbsList

namespace Go.Abs
def nameC (c:UInt8):Bool:=(decide (97≤c.toNat) && decide (c.toNat≤122)) || (decide (48≤c.toNat) && decide (c.toNat≤57)) || decide (c.toNat=95) || decide (c.toNat=45)
def firstOdd:List UInt8→Nat→Int
 | [],_=>-1
 | c :: r,i=>if nameC c then firstOdd r (i+1) else i
def idxA:List AVal→Heap→Option AVal
 | [.str s,.func 538 [] [],.bool true],_=>some (.int .i64 (firstOdd s 0))
 | _,_=>none
end Go.Abs

namespace Go.Abs.AbsNat
open Go.Abs.Short
-- base: AbsBlo
def code479:AFunc:=⟨false,false,2,8,[.tmp 4],
 S (R [0,1] [o 4 (.val (Ks []))])
 (S (R [4] [v 5 0,v 6 1,o 7 (.callg 498 [t 5,t 6]),v 4 7])
 (Z [4])),none⟩
def code498:AFunc:=⟨false,false,2,13,[.tmp 4],
 S (R [0,1] [o 4 (.val (Ks []))])
 (S (S (R [0,1,7] [v 5 0,v 6 1,o 7 (.callg 140 [t 5,t 6])])
 (.after (.cond (t 7) (S (R [4] [v 8 0,v 9 1,o 10 (.len .str (t 9)),o 11 (.slice .str (t 8) (some (t 10)) none none),v 4 11])
 (Z [4])) (.skip)) [0]))
 (S (R [4] [v 12 0,v 4 12])
 (Z [4]))),none⟩
def code520:AFunc:=⟨false,false,1,17,[.tmp 2],
 S (R [0] [o 2 (.val F)])
 (S (R [0,3] [o 3 (.val (.const (.func 538 [] [])))])
 (S (R [2] [v 4 0,o 5 (.bin .neq (t 4) (Ks [])),v 6 5,g 7 6 true (Vl 0),g 8 6 true (.len .str (t 7)),g 9 6 true (Bn .leq 8 16),o 10 (.pick (t 6) (t 9) F),v 11 10,g 12 11 true (Vl 0),g 13 11 true (Vl 3),g 14 11 true (.callg 537 [t 12,t 13]),g 15 11 true (Bn .lss 14 0),o 16 (.pick (t 11) (t 15) F),v 2 16])
 (Z [2]))),none⟩
def code537:AFunc:=⟨false,false,2,8,[.tmp 4],
 S (R [0,1] [o 4 (.val (n 0))])
 (S (R [4] [v 5 0,v 6 1,o 7 (.callg 544 [t 5,t 6,.const (.bool true)]),v 4 7])
 (Z [4])),none⟩
def code544:AFunc:=⟨false,false,0,0,[],.skip,some (.lib (pureF Go.Abs.idxA))⟩
def code658L0:ACode :=
 .live [0,3] (S (S (R [0,3,8] [v 5 3,v 6 0,o 7 (.len .str (t 6)),o 8 (Bt .lss 5 7)])
 (.after (.cond (t 8) (.skip) (.live [0] (.exit 0))) [0,3]))
 (S (.after (.block 1 (S (R [0,3,4] [v 11 0,v 12 3,o 13 (.index (t 11) (t 12)),v 4 13])
 (S (R [0,3,36] [v 14 4,o 15 (.bin .geq (t 14) (.const (.int .u8 97))),v 16 15,g 17 16 true (Vl 4),g 18 16 true (.bin .leq (t 17) (.const (.int .u8 122))),o 19 (.pick (t 16) (t 18) F),v 20 19,g 21 20 false (Vl 4),g 22 20 false (.bin .geq (t 21) (.const (.int .u8 48))),g 23 20 false (Vl 22),g 24 23 true (Vl 4),g 25 23 true (.bin .leq (t 24) (.const (.int .u8 57))),g 26 20 false (.pick (t 23) (t 25) F),o 27 (.pick (t 20) Y (t 26)),v 28 27,g 29 28 false (Vl 4),g 30 28 false (.bin .eql (t 29) (.const (.int .u8 95))),o 31 (.pick (t 28) Y (t 30)),v 32 31,g 33 32 false (Vl 4),g 34 32 false (.bin .eql (t 33) (.const (.int .u8 45))),o 35 (.pick (t 32) Y (t 34)),o 36 (.un .not (t 35))])
 (.after (.cond (t 36) (S (R [2] [o 2 (.val F)])
 (Z [2])) (.skip)) [0,3])))) [0,3])
 (R [0,3] [v 9 3,o 10 (Bn .add 9 1),v 3 10])))
def code658:AFunc:=⟨false,false,1,45,[.tmp 2],
 S (R [0] [o 2 (.val F)])
 (S (S (R [0,3] [o 3 (.val (n 0))])
 (.after (.block 0 (.loop code658L0)) [0]))
 (S (R [2] [v 37 0,o 38 (.len .str (t 37)),o 39 (Bn .geq 38 1),v 40 39,g 41 40 true (Vl 0),g 42 40 true (.len .str (t 41)),g 43 40 true (Bn .leq 42 16),o 44 (.pick (t 40) (t 43) F),v 2 44])
 (Z [2]))),none⟩
def code660:AFunc:=⟨false,false,2,38,[.tmp 4,.tmp 5],
 S (R [0,1] [o 4 (.val (.const (.int .i32 0))),o 5 (.val (n 0))])
 (S (R [0,1,6,7] [v 10 0,o 11 (.callg 666 [t 10,.const (.bool true)]),v 9 11,o 12 (Xt 9 0),o 13 (Xt 9 1),o 6 (.lalloc [.int .u32 0,.int .u32 0,.slice none 0 (some 0)]),u (.store 3 (t 6) (t 12)),v 7 13])
 (S (.after (.block 0 (S (R [0,1,6,7,14] [v 15 7,o 16 (Bn .neq 15 0),v 14 16])
 (.after (.cond (t 14) (S (R [4,5] [v 17 7,o 4 (.val (.const (.int .i32 0))),v 5 17])
 (Z [4,5])) (S (R [0,1,18] [o 19 (Fa 6 0),o 20 (Lq 19),o 21 (.bin .gtr (t 20) (.const (.int .u32 2147483647))),v 18 21])
 (.after (.cond (t 18) (S (R [4,5] [o 4 (.val (.const (.int .i32 0))),o 5 (.val (n 9))])
 (Z [4,5])) (.skip)) [0,1]))) [0,1]))) [0,1])
 (S (.after (.region [⟨true,[],[v 23 0,o 24 (.nilcheck (t 23)),o 25 (Fa 24 0),o 26 (Lq 25),v 27 0,o 28 (.nilcheck (t 27)),o 29 (Fa 28 1),o 30 (Lq 29),v 31 1]⟩,⟨false,[],[o 32 (.callg 665 [t 26,t 30,Ks [100,97,116,97],t 31]),v 22 32]⟩,⟨true,[],[o 33 (Xt 22 0),o 34 (Xt 22 1),v 8 33]⟩,⟨false,[],[v 7 34]⟩]) [7,8])
 (S (R [4,5] [v 35 8,o 36 (.conv (.int .i32) (t 35)),v 37 7,v 4 36,v 5 37])
 (Z [4,5]))))),none⟩
def code665:AFunc:=⟨false,false,4,21,[.tmp 8,.tmp 9],
 S (R [0,1,2,7] [o 7 (.box (t 3)),o 8 (.val (.const (.int .u32 0))),o 9 (.val (n 0))])
 (S (R [0,1,2,7,10] [o 10 (.alloc 1 [.int .u32 0])])
 (S (R [10,11] [v 12 0,v 13 1,v 14 2,o 15 (.mkfunc 672 [] [t 7,t 10]),o 16 (.callg 673 [t 12,t 13,t 14,t 15]),v 11 16])
 (S (S (R [10,11,18] [v 17 11,o 18 (Bn .neq 17 0)])
 (.after (.cond (t 18) (S (R [8,9] [v 19 11,o 8 (.val (.const (.int .u32 0))),v 9 19])
 (Z [8,9])) (.skip)) [10]))
 (S (R [8,9] [o 20 (Lq 10),v 8 20,o 9 (.val (n 0))])
 (Z [8,9]))))),none⟩
def code666:AFunc:=⟨false,false,2,21,[.cell 4 (some 3),.tmp 5],
 S (R [0,1,4] [o 4 (.lalloc [.int .u32 0,.int .u32 0,.slice none 0 (some 0)]),o 5 (.val (n 0))])
 (S (S (R [0,1,4,7] [v 6 0,o 7 (.eqnil .ptr false (t 6) (.const (.ptr none)))])
 (.after (.cond (t 7) (S (R [4,5] [o 8 (.build [.int .u32 0,.int .u32 0,.slice none 0 (some 0)] []),u (.store 3 (t 4) (t 8)),o 5 (.val (n 5))])
 (Z [4,5])) (.skip)) [0,1,4]))
 (S (.after (.region [⟨true,[],[v 9 0,o 10 (.nilcheck (t 9)),o 11 (Fa 10 0),o 12 (Lq 11),v 13 0,o 14 (.nilcheck (t 13)),o 15 (Fa 14 1),o 16 (Lq 15),v 17 1]⟩,⟨false,[],[o 18 (.callg 671 [t 12,t 16,Ks [100,97,116,97],t 17])]⟩,⟨true,[],[o 19 (Xt 18 0),o 20 (Xt 18 1)]⟩,⟨false,[],[u (.store 3 (t 4) (t 19)),v 5 20]⟩]) [4,5])
 (Z [4,5]))),none⟩
def code667:AFunc:=⟨false,false,4,38,[.tmp 8,.tmp 9],
 S (R [0,1,2,3] [o 8 (.val (.const (.slice none 0 (some 0)))),o 9 (.val (n 0))])
 (S (R [3,10,11] [v 15 0,v 16 1,v 17 2,o 18 (.callg 675 [t 15,t 16,t 17]),v 14 18,o 19 (Xt 14 0),o 20 (Xt 14 1),o 10 (.lalloc [.int .u32 0,.int .u32 0,.slice none 0 (some 0)]),u (.store 3 (t 10) (t 19)),v 11 20])
 (S (S (R [3,10,11,22] [v 21 11,o 22 (Bn .neq 21 0)])
 (.after (.cond (t 22) (S (R [8,9] [v 23 11,o 8 (.val (.const (.slice none 0 (some 0)))),v 9 23])
 (Z [8,9])) (.skip)) [3,10]))
 (S (R [10,12,13] [o 25 (.load (some 3) (t 10)),v 26 3,o 27 (.callg 674 [t 25,t 26]),v 24 27,o 28 (Xt 24 0),o 29 (Xt 24 1),v 12 28,v 13 29])
 (S (S (R [10,12,31] [v 30 13,o 31 (.un .not (t 30))])
 (.after (.cond (t 31) (S (R [8,9] [o 8 (.val (.const (.slice none 0 (some 0)))),o 9 (.val (n 11))])
 (Z [8,9])) (.skip)) [10,12]))
 (S (R [8,9] [o 32 (Fa 10 2),o 33 (Lq 32),v 34 12,o 35 (.iaddr 2 (t 33) (t 34)),o 36 (Fa 35 1),o 37 (Lq 36),v 8 37,o 9 (.val (n 0))])
 (Z [8,9])))))),none⟩
def code671:AFunc:=⟨false,false,4,45,[.cell 8 (some 3),.tmp 9],
 S (R [0,1,2,3,8] [o 8 (.lalloc [.int .u32 0,.int .u32 0,.slice none 0 (some 0)]),o 9 (.val (n 0))])
 (S (R [0,1,2,3,8,10,11] [v 14 0,v 15 1,v 16 2,o 17 (.callg 675 [t 14,t 15,t 16]),v 13 17,o 18 (Xt 13 0),o 19 (Xt 13 1),o 10 (.lalloc [.int .u32 0,.int .u32 0,.slice none 0 (some 0)]),u (.store 3 (t 10) (t 18)),v 11 19])
 (S (S (R [0,1,2,8,10,11,25] [v 20 11,o 21 (Bn .neq 20 11),v 22 21,g 23 22 false (Vl 3),g 24 22 false (.un .not (t 23)),o 25 (.pick (t 22) Y (t 24))])
 (.after (.cond (t 25) (S (R [8,9] [o 26 (.load (some 3) (t 10)),v 27 11,u (.store 3 (t 8) (t 26)),v 9 27])
 (Z [8,9])) (.skip)) [0,1,2,8,10]))
 (S (S (R [0,1,2,8,10,32] [v 28 0,v 29 1,o 30 (.callg 681 [t 28,t 29]),o 31 (Sl 30),o 32 (Bn .geq 31 8)])
 (.after (.cond (t 32) (S (R [8,9] [o 33 (.build [.int .u32 0,.int .u32 0,.slice none 0 (some 0)] []),u (.store 3 (t 8) (t 33)),o 9 (.val (n 9))])
 (Z [8,9])) (.skip)) [0,1,2,8,10]))
 (S (R [0,1,2,8,10] [o 34 (.build [.int .u32 0,.int .u32 0,.slice none 0 (some 0)] [(0,1,.const (.int .u32 1))]),u (.store 3 (t 10) (t 34))])
 (S (S (R [8,10,12] [v 35 0,v 36 1,v 37 2,o 38 (.load (some 3) (t 10)),o 39 (.callg 680 [t 35,t 36,t 37,t 38]),v 12 39])
 (S (R [8,10,12,41] [v 40 12,o 41 (Bn .neq 40 0)])
 (.after (.cond (t 41) (S (R [8,9] [o 42 (.build [.int .u32 0,.int .u32 0,.slice none 0 (some 0)] []),v 43 12,u (.store 3 (t 8) (t 42)),v 9 43])
 (Z [8,9])) (.skip)) [8,10])))
 (S (R [8,9] [o 44 (.load (some 3) (t 10)),u (.store 3 (t 8) (t 44)),o 9 (.val (n 0))])
 (Z [8,9]))))))),none⟩
def code672:AFunc:=⟨false,false,3,46,[.tmp 4],
 S (R [0,1,2] [o 4 (.val (n 0))])
 (S (S (R [0,1,2,22] [o 5 (Lq 1),o 6 (Sl 5),o 7 (Bn .gtr 6 512),v 8 7,g 9 8 false (Vl 0),g 10 8 false (.nilcheck (t 9)),g 11 8 false (Fa 10 2),g 12 8 false (Lq 11),g 13 8 false (Sl 12),g 14 8 false (Bn .geq 13 64),o 15 (.pick (t 8) Y (t 14)),v 16 15,g 17 16 false (Vl 0),g 18 16 false (.nilcheck (t 17)),g 19 16 false (Fa 18 0),g 20 16 false (Lq 19),g 21 16 false (.bin .eql (t 20) (.const (.int .u32 4294967295))),o 22 (.pick (t 16) Y (t 21))])
 (.after (.cond (t 22) (S (R [4] [o 4 (.val (n 9))])
 (Z [4])) (.skip)) [0,1,2]))
 (S (R [0,1,2] [v 23 0,o 24 (.nilcheck (t 23)),o 25 (Fa 24 0),o 26 (Lq 25),u (.store 1 (t 2) (t 26))])
 (S (.after (.region [⟨true,[0,0,2,6,14,0,0,96,224,510],[v 27 0,v 28 0,o 29 (.nilcheck (t 28)),o 30 (Fa 29 2),o 31 (Lq 30),o 32 (Lq 2),o 33 (Lq 1),o 34 (.build [.int .u32 0,.slice none 0 (some 0)] [(0,1,t 32),(1,1,t 33)]),o 35 (.mkslice 2 1 [.int .u32 0,.slice none 0 (some 0)] [(0,2,t 34)]),o 36 (.append 2 32 (t 31) (t 35))]⟩,⟨false,[],[o 37 (.nilcheck (t 27)),o 38 (Fa 37 2),u (.store 1 (t 38) (t 36))]⟩]) [0])
 (S (R [] [v 39 0,o 40 (.nilcheck (t 39)),o 41 (Fa 40 0),o 42 (Lq 41),o 43 (.bin .add (t 42) (.const (.int .u32 1))),o 44 (.nilcheck (t 39)),o 45 (Fa 44 0),u (.store 1 (t 45) (t 43))])
 (S (R [4] [o 4 (.val (n 0))])
 (Z [4])))))),none⟩
def code673:AFunc:=⟨false,false,4,39,[.tmp 8],
 S (R [0,1,2,3] [o 8 (.val (n 0))])
 (S (R [0,1,2,3,9,10] [v 13 0,v 14 1,v 15 2,o 16 (.callg 675 [t 13,t 14,t 15]),v 12 16,o 17 (Xt 12 0),o 18 (Xt 12 1),o 9 (.alloc 3 [.int .u32 0,.int .u32 0,.slice none 0 (some 0)]),u (.store 3 (t 9) (t 17)),v 10 18])
 (S (S (R [0,1,2,3,9,10,20] [v 19 10,o 20 (Bn .neq 19 0)])
 (.after (.cond (t 20) (S (R [8] [v 21 10,v 8 21])
 (Z [8])) (.skip)) [0,1,2,3,9]))
 (S (S (R [0,1,2,9,11] [v 22 3,o 23 (.call (t 22) [t 9]),v 11 23])
 (S (R [0,1,2,9,11,25] [v 24 11,o 25 (Bn .neq 24 0)])
 (.after (.cond (t 25) (S (R [8] [v 26 11,v 8 26])
 (Z [8])) (.skip)) [0,1,2,9])))
 (S (S (R [0,1,2,9,29] [o 27 (Fa 9 1),o 28 (Lq 27),o 29 (.bin .lss (t 28) (.const (.int .u32 4294967295)))])
 (.after (.cond (t 29) (R [0,1,2,9] [o 30 (Fa 9 1),o 31 (Lq 30),o 32 (.bin .add (t 31) (.const (.int .u32 1))),o 33 (Fa 9 1),u (.store 1 (t 33) (t 32))]) (.skip)) [0,1,2,9]))
 (S (R [8] [v 34 0,v 35 1,v 36 2,o 37 (.load (some 3) (t 9)),o 38 (.callg 680 [t 34,t 35,t 36,t 37]),v 8 38])
 (Z [8])))))),none⟩
def code674:AFunc:=⟨false,false,2,12,[.tmp 4,.tmp 5],
 S (R [1,2] [o 2 (.lbox (t 0)),o 4 (.val (n 0)),o 5 (.val F)])
 (S (R [4,5] [o 6 (Fa 2 2),o 7 (Lq 6),v 8 1,o 9 (.callg 684 [t 7,t 8,.const (.func 685 [] [])]),o 10 (Xt 9 0),o 11 (Xt 9 1),v 4 10,v 5 11])
 (Z [4,5])),none⟩
def code675:AFunc:=⟨false,false,3,34,[.cell 6 (some 3),.tmp 7],
 S (R [0,1,2,6] [o 6 (.lalloc [.int .u32 0,.int .u32 0,.slice none 0 (some 0)]),o 7 (.val (n 0))])
 (S (S (R [0,1,2,6,17] [v 10 1,o 11 (.callg 520 [t 10]),o 12 (.un .not (t 11)),v 13 12,g 14 13 false (Vl 2),g 15 13 false (.callg 520 [t 14]),g 16 13 false (.un .not (t 15)),o 17 (.pick (t 13) Y (t 16))])
 (.after (.cond (t 17) (S (R [6,7] [o 18 (.build [.int .u32 0,.int .u32 0,.slice none 0 (some 0)] []),u (.store 3 (t 6) (t 18)),o 7 (.val (n 13))])
 (Z [6,7])) (.skip)) [0,1,2,6]))
 (S (R [6,8,9] [v 20 0,v 21 1,v 22 2,o 23 (.callg 683 [t 21,t 22]),o 24 (.callg 482 [t 20,t 23]),v 19 24,o 25 (Xt 19 0),o 26 (Xt 19 1),v 8 25,v 9 26])
 (S (S (R [6,8,28] [v 27 9,o 28 (.un .not (t 27))])
 (.after (.cond (t 28) (S (R [6,7] [o 29 (.build [.int .u32 0,.int .u32 0,.slice none 0 (some 0)] []),u (.store 3 (t 6) (t 29)),o 7 (.val (n 11))])
 (Z [6,7])) (.skip)) [6,8]))
 (S (R [6,7] [v 30 8,o 31 (.callg 682 [t 30]),o 32 (Xt 31 0),o 33 (Xt 31 1),u (.store 3 (t 6) (t 32)),v 7 33])
 (Z [6,7]))))),none⟩
def code680:AFunc:=⟨false,false,4,30,[.tmp 8],
 S (R [0,1,2,7] [o 7 (.lbox (t 3)),o 8 (.val (n 0))])
 (S (R [0,1,2,9,10] [o 12 (.load (some 3) (t 7)),o 13 (.callg 688 [t 12]),v 11 13,o 14 (Xt 11 0),o 15 (Xt 11 1),v 9 14,v 10 15])
 (S (S (R [0,1,2,9,10,17] [v 16 10,o 17 (Bn .neq 16 0)])
 (.after (.cond (t 17) (S (R [8] [v 18 10,v 8 18])
 (Z [8])) (.skip)) [0,1,2,9]))
 (S (S (R [0,1,2,9,21] [v 19 9,o 20 (Sl 19),o 21 (Bn .gtr 20 4096)])
 (.after (.cond (t 21) (S (R [8] [o 8 (.val (n 9))])
 (Z [8])) (.skip)) [0,1,2,9]))
 (S (R [8] [v 22 0,v 23 1,v 24 2,o 25 (.callg 683 [t 23,t 24]),v 26 9,o 27 (.build [.bool false,.str [],.slice none 0 (some 0)] [(1,1,t 25),(2,1,t 26)]),o 28 (.mkslice 3 1 [.bool false,.str [],.slice none 0 (some 0)] [(0,3,t 27)]),o 29 (.callg 549 [t 22,t 28]),v 8 29])
 (Z [8]))))),none⟩
def code681L0:ACode :=
 .live [1,5,15,16,17] (S (R [1,5,15,16,17,18] [o 18 (Bt .lss 17 16)])
 (S (.after (.cond (t 18) (.skip) (.live [5] (.exit 0))) [1,5,15,16,17])
 (S (.after (.block 1 (S (R [1,5,7,15,16,17] [o 19 (.iaddr 1 (t 15) (t 17)),o 20 (Lq 19),v 7 20])
 (S (R [1,5,8,15,16,17] [v 21 7,v 22 1,o 23 (.callg 687 [t 22]),o 24 (.callg 479 [t 21,t 23]),v 8 24])
 (S (R [1,5,8,15,16,17,26] [v 25 8,o 26 (.callg 520 [t 25])])
 (.after (.cond (t 26) (R [1,5,15,16,17] [v 27 5,v 28 8,o 29 (.mkslice 1 1 [.str []] [(0,1,t 28)]),o 30 (.append 1 16 (t 27) (t 29)),v 5 30]) (.skip)) [1,5,15,16,17]))))) [1,5,15,16,17])
 (R [1,5,15,16,17] [o 31 (Bn .add 17 1),v 17 31]))))
def code681:AFunc:=⟨false,false,2,33,[.tmp 4],
 S (R [0,1] [o 4 (.val (.const (.slice none 0 (some 0))))])
 (S (S (R [0,1,11] [v 9 1,o 10 (.callg 520 [t 9]),o 11 (.un .not (t 10))])
 (.after (.cond (t 11) (S (R [4] [o 4 (.val (.const (.slice none 0 (some 0))))])
 (Z [4])) (.skip)) [0,1]))
 (S (R [0,1,5] [o 5 (.val (.const (.slice none 0 (some 0))))])
 (S (S (R [1,5,15,16,17] [v 12 0,v 13 1,o 14 (.callg 687 [t 13]),o 15 (.callg 480 [t 12,t 14]),o 16 (Sl 15),o 17 (.val (n 0))])
 (.after (.block 0 (.loop code681L0)) [5]))
 (S (R [4] [v 32 5,v 4 32])
 (Z [4]))))),none⟩
def code682L0:ACode :=
 .live [2,4,5,6] (S (S (R [2,4,5,6,26] [v 18 6,o 19 (.bin .gtr (t 18) (.const (.int .u32 0))),v 20 19,g 21 20 true (Vl 4),g 22 20 true (.nilcheck (t 21)),g 23 20 true (Fa 22 1),g 24 20 true (Lq 23),g 25 20 true (.un .not (t 24)),o 26 (.pick (t 20) (t 25) F)])
 (.after (.cond (t 26) (.skip) (.live [2,4,5] (.exit 0))) [2,4,5,6]))
 (S (.after (.block 1 (S (R [2,4,5,6,7] [v 29 4,o 30 (.callg 690 [t 29,n 4]),v 7 30])
 (.after (.region [⟨true,[0,1,0,0,0,16,48,120,252,508],[o 31 (Fa 5 2),o 32 (Lq 31),v 33 7,v 34 4,v 35 4,o 36 (.callg 690 [t 35,n 2]),o 37 (.conv (.int .i64) (t 36)),o 38 (.callg 691 [t 34,t 37]),o 39 (.build [.int .u32 0,.slice none 0 (some 0)] [(0,1,t 33),(1,1,t 38)]),o 40 (.mkslice 2 1 [.int .u32 0,.slice none 0 (some 0)] [(0,2,t 39)])]⟩,⟨false,[],[o 41 (.append 2 32 (t 32) (t 40)),o 42 (Fa 5 2),u (.store 1 (t 42) (t 41))]⟩]) [2,4,5,6]))) [2,4,5,6])
 (R [2,4,5,6] [v 27 6,o 28 (.bin .sub (t 27) (.const (.int .u32 1))),v 6 28])))
def code682:AFunc:=⟨false,false,1,62,[.cell 2 (some 3),.tmp 3],
 S (R [0,2] [o 2 (.lalloc [.int .u32 0,.int .u32 0,.slice none 0 (some 0)]),o 3 (.val (n 0))])
 (S (R [2,4] [v 8 0,o 9 (.build [.slice none 0 (some 0),.bool false] [(0,1,t 8)]),o 10 (.box (t 9)),v 4 10])
 (S (R [2,4,5] [v 11 4,o 12 (.callg 690 [t 11,n 4]),v 13 4,o 14 (.callg 690 [t 13,n 4]),o 15 (.build [.int .u32 0,.int .u32 0,.slice none 0 (some 0)] [(0,1,t 12),(1,1,t 14)]),o 5 (.lalloc [.int .u32 0,.int .u32 0,.slice none 0 (some 0)]),u (.store 3 (t 5) (t 15))])
 (S (S (R [2,4,5,6] [v 16 4,o 17 (.callg 690 [t 16,n 2]),v 6 17])
 (.after (.block 0 (.loop code682L0)) [2,4,5]))
 (S (S (R [2,5,59] [v 43 4,o 44 (.nilcheck (t 43)),o 45 (Fa 44 1),o 46 (Lq 45),v 47 46,g 48 47 false (Vl 4),g 49 47 false (.nilcheck (t 48)),g 50 47 false (Fa 49 0),g 51 47 false (Lq 50),g 52 47 false (Sl 51),g 53 47 false (Bn .gtr 52 0),o 54 (.pick (t 47) Y (t 53)),v 55 54,g 56 55 false (.load (some 3) (t 5)),g 57 55 false (.callg 689 [t 56]),g 58 55 false (.un .not (t 57)),o 59 (.pick (t 55) Y (t 58))])
 (.after (.cond (t 59) (S (R [2,3] [o 60 (.build [.int .u32 0,.int .u32 0,.slice none 0 (some 0)] []),u (.store 3 (t 2) (t 60)),o 3 (.val (n 8))])
 (Z [2,3])) (.skip)) [2,5]))
 (S (R [2,3] [o 61 (.load (some 3) (t 5)),u (.store 3 (t 2) (t 61)),o 3 (.val (n 0))])
 (Z [2,3])))))),none⟩
def code683:AFunc:=⟨false,false,2,9,[.tmp 4],
 S (R [0,1] [o 4 (.val (Ks []))])
 (S (R [4] [v 5 0,o 6 (.callg 687 [t 5]),v 7 1,o 8 (Bt .add 6 7),v 4 8])
 (Z [4])),none⟩
def code684L0:ACode :=
 .live [0,1,2,8,9,10] (S (S (R [0,1,2,8,9,10,17] [v 15 9,v 16 10,o 17 (Bt .lss 15 16)])
 (.after (.cond (t 17) (.skip) (.live [0,1,2,8,9] (.exit 0))) [0,1,2,8,9,10]))
 (.after (.block 1 (S (R [0,1,2,8,9,10,11] [v 18 9,v 19 10,o 20 (Bt .add 18 19),o 21 (.conv (.int .u64) (t 20)),o 22 (.bin .shr (t 21) (.const (.int .u64 1))),o 23 (.conv (.int .i64) (t 22)),v 11 23])
 (S (R [0,1,2,8,9,10,11,31] [v 24 2,v 25 0,v 26 11,o 27 (.iaddr 2 (t 25) (t 26)),o 28 (.load (some 2) (t 27)),v 29 1,o 30 (.call (t 24) [t 28,t 29]),o 31 (Bn .lss 30 0)])
 (.after (.cond (t 31) (R [0,1,2,8,9,10] [v 32 11,o 33 (Bn .add 32 1),v 9 33]) (R [0,1,2,8,9,10] [v 34 11,v 10 34])) [0,1,2,8,9,10])))) [0,1,2,8,9,10]))
def code684:AFunc:=⟨false,false,3,49,[.tmp 6,.tmp 7],
 S (R [0,1,2] [o 6 (.val (n 0)),o 7 (.val F)])
 (S (R [0,1,2,8] [v 12 0,o 13 (Sl 12),v 8 13])
 (S (R [0,1,2,8,9,10] [v 14 8,o 9 (.val (n 0)),v 10 14])
 (S (.after (.block 0 (.loop code684L0)) [0,1,2,8,9])
 (S (R [6,7] [v 35 9,v 36 9,v 37 8,o 38 (Bt .lss 36 37),v 39 38,g 40 39 true (Vl 2),g 41 39 true (Vl 0),g 42 39 true (Vl 9),g 43 39 true (.iaddr 2 (t 41) (t 42)),g 44 39 true (.load (some 2) (t 43)),g 45 39 true (Vl 1),g 46 39 true (.call (t 40) [t 44,t 45]),g 47 39 true (Bn .eql 46 0),o 48 (.pick (t 39) (t 47) F),v 6 35,v 7 48])
 (Z [6,7]))))),none⟩
def code685:AFunc:=⟨false,false,2,9,[.tmp 4],
 S (R [1,2] [o 2 (.lbox (t 0)),o 4 (.val (n 0))])
 (S (R [4] [o 5 (Fa 2 0),o 6 (Lq 5),v 7 1,o 8 (.callg 591 [t 6,t 7]),v 4 8])
 (Z [4])),none⟩
def code687:AFunc:=⟨false,false,1,6,[.tmp 2],
 S (R [0] [o 2 (.val (Ks []))])
 (S (R [2] [v 3 0,o 4 (.bin .add (Ks [114,47]) (t 3)),o 5 (.bin .add (t 4) (Ks [47])),v 2 5])
 (Z [2])),none⟩
def code688L0:ACode :=
 .live [4,25,26,27] (S (R [4,25,26,27,28] [o 28 (Bt .lss 27 26)])
 (S (.after (.cond (t 28) (.skip) (.live [4] (.exit 0))) [4,25,26,27])
 (S (.after (.block 1 (S (R [4,6,25,26,27] [o 29 (.iaddr 2 (t 25) (t 27)),o 30 (.load (some 2) (t 29)),o 6 (.lalloc [.int .u32 0,.slice none 0 (some 0)]),u (.store 2 (t 6) (t 30))])
 (S (.after (.region [⟨true,[0,0,2,6,15,0,32,96,224],[v 31 4,o 32 (Fa 6 0),o 33 (Lq 32),o 34 (.conv (.int .u64) (t 33)),o 35 (.callg 100385 [t 31,t 34,n 4]),o 36 (Fa 6 1),o 37 (Lq 36),o 38 (Sl 37),o 39 (.conv (.int .u64) (t 38))]⟩,⟨false,[],[o 40 (.callg 100385 [t 35,t 39,n 2]),v 4 40]⟩]) [4,6,25,26,27])
 (R [4,25,26,27] [v 41 4,o 42 (Fa 6 1),o 43 (Lq 42),o 44 (.append 1 1 (t 41) (t 43)),v 4 44])))) [4,25,26,27])
 (R [4,25,26,27] [o 45 (Bn .add 27 1),v 27 45]))))
def code688:AFunc:=⟨false,false,1,47,[.tmp 2,.tmp 3],
 S (R [1] [o 1 (.lbox (t 0)),o 2 (.val (.const (.slice none 0 (some 0)))),o 3 (.val (n 0))])
 (S (S (R [1,9] [o 7 (.load (some 3) (t 1)),o 8 (.callg 689 [t 7]),o 9 (.un .not (t 8))])
 (.after (.cond (t 9) (S (R [2,3] [o 2 (.val (.const (.slice none 0 (some 0)))),o 3 (.val (n 8))])
 (Z [2,3])) (.skip)) [1]))
 (S (.after (.region [⟨true,[0,1,3,7,0,16,48],[o 10 (Fa 1 0),o 11 (Lq 10),o 12 (.conv (.int .u64) (t 11)),o 13 (.callg 100385 [.const (.slice none 0 (some 0)),t 12,n 4]),o 14 (Fa 1 1),o 15 (Lq 14),o 16 (.conv (.int .u64) (t 15))]⟩,⟨false,[],[o 17 (.callg 100385 [t 13,t 16,n 4]),v 4 17]⟩]) [1,4])
 (S (R [1,4] [v 18 4,o 19 (Fa 1 2),o 20 (Lq 19),o 21 (Sl 20),o 22 (.conv (.int .u64) (t 21)),o 23 (.callg 100385 [t 18,t 22,n 2]),v 4 23])
 (S (S (R [4,25,26,27] [o 24 (Fa 1 2),o 25 (Lq 24),o 26 (Sl 25),o 27 (.val (n 0))])
 (.after (.block 0 (.loop code688L0)) [4]))
 (S (R [2,3] [v 46 4,v 2 46,o 3 (.val (n 0))])
 (Z [2,3])))))),none⟩
def code689L0:ACode :=
 .live [1,3,7,8,9] (S (R [1,3,7,8,9,10] [o 10 (Bt .lss 9 8)])
 (S (.after (.cond (t 10) (.skip) (.live [1] (.exit 0))) [1,3,7,8,9])
 (S (.after (.block 1 (S (R [1,3,5,7,8,9] [o 11 (.iaddr 2 (t 7) (t 9)),o 12 (.load (some 2) (t 11)),o 5 (.lalloc [.int .u32 0,.slice none 0 (some 0)]),u (.store 2 (t 5) (t 12))])
 (S (S (R [1,5,7,8,9,29] [o 13 (Fa 5 0),o 14 (Lq 13),v 15 3,o 16 (Bt .leq 14 15),v 17 16,g 18 17 false (Fa 5 0),g 19 17 false (Lq 18),g 20 17 false (Fa 1 0),g 21 17 false (Lq 20),g 22 17 false (Bt .geq 19 21),o 23 (.pick (t 17) Y (t 22)),v 24 23,g 25 24 false (Fa 5 1),g 26 24 false (Lq 25),g 27 24 false (Sl 26),g 28 24 false (Bn .gtr 27 512),o 29 (.pick (t 24) Y (t 28))])
 (.after (.cond (t 29) (S (R [2] [o 2 (.val F)])
 (Z [2])) (.skip)) [1,5,7,8,9]))
 (R [1,3,7,8,9] [o 30 (Fa 5 0),o 31 (Lq 30),v 3 31])))) [1,3,7,8,9])
 (R [1,3,7,8,9] [o 32 (Bn .add 9 1),v 9 32]))))
def code689:AFunc:=⟨false,false,1,42,[.tmp 2],
 S (R [1] [o 1 (.lbox (t 0)),o 2 (.val F)])
 (S (R [1,3] [o 3 (.val (.const (.int .u32 0)))])
 (S (S (R [1,3,7,8,9] [o 6 (Fa 1 2),o 7 (Lq 6),o 8 (Sl 7),o 9 (.val (n 0))])
 (.after (.block 0 (.loop code689L0)) [1]))
 (S (R [2] [o 33 (Fa 1 2),o 34 (Lq 33),o 35 (Sl 34),o 36 (Bn .leq 35 64),v 37 36,g 38 37 true (Fa 1 0),g 39 37 true (Lq 38),g 40 37 true (.bin .gtr (t 39) (.const (.int .u32 0))),o 41 (.pick (t 37) (t 40) F),v 2 41])
 (Z [2])))),none⟩
def code690:AFunc:=⟨false,false,2,42,[.tmp 4],
 S (R [0,1] [o 4 (.val (.const (.int .u32 0)))])
 (S (R [0,1,5,6] [v 8 0,o 9 (.nilcheck (t 8)),o 10 (Fa 9 0),o 11 (Lq 10),v 12 1,o 13 (.callg 500 [t 11,n 0,t 12]),v 7 13,o 14 (Xt 7 0),o 15 (Xt 7 1),v 5 14,v 6 15])
 (S (S (R [0,1,5] [v 16 0,v 17 0,o 18 (.nilcheck (t 17)),o 19 (Fa 18 1),o 20 (Lq 19),v 21 20,g 22 21 false (Vl 6),g 23 21 false (Bn .neq 22 0),o 24 (.pick (t 21) Y (t 23)),o 25 (.nilcheck (t 16)),o 26 (Fa 25 1),u (.store 1 (t 26) (t 24))])
 (S (R [0,1,5,30] [v 27 0,o 28 (.nilcheck (t 27)),o 29 (Fa 28 1),o 30 (Lq 29)])
 (.after (.cond (t 30) (S (R [4] [o 4 (.val (.const (.int .u32 0)))])
 (Z [4])) (.skip)) [0,1,5])))
 (S (R [5] [v 31 0,v 32 0,o 33 (.nilcheck (t 32)),o 34 (Fa 33 0),o 35 (Lq 34),v 36 1,o 37 (.slice (.sl 1) (t 35) (some (t 36)) none none),o 38 (.nilcheck (t 31)),o 39 (Fa 38 0),u (.store 1 (t 39) (t 37))])
 (S (R [4] [v 40 5,o 41 (.conv (.int .u32) (t 40)),v 4 41])
 (Z [4]))))),none⟩
def code691:AFunc:=⟨false,false,2,43,[.tmp 4],
 S (R [0,1] [o 4 (.val (.const (.slice none 0 (some 0))))])
 (S (S (R [0,1] [v 6 0,v 7 0,o 8 (.nilcheck (t 7)),o 9 (Fa 8 1),o 10 (Lq 9),v 11 10,g 12 11 false (Vl 1),g 13 11 false (Vl 0),g 14 11 false (.nilcheck (t 13)),g 15 11 false (Fa 14 0),g 16 11 false (Lq 15),g 17 11 false (Sl 16),g 18 11 false (Bt .gtr 12 17),o 19 (.pick (t 11) Y (t 18)),o 20 (.nilcheck (t 6)),o 21 (Fa 20 1),u (.store 1 (t 21) (t 19))])
 (S (R [0,1,25] [v 22 0,o 23 (.nilcheck (t 22)),o 24 (Fa 23 1),o 25 (Lq 24)])
 (.after (.cond (t 25) (S (R [4] [o 4 (.val (.const (.slice none 0 (some 0))))])
 (Z [4])) (.skip)) [0,1])))
 (S (R [0,1,5] [v 26 0,o 27 (.nilcheck (t 26)),o 28 (Fa 27 0),o 29 (Lq 28),v 30 1,o 31 (.slice (.sl 1) (t 29) none (some (t 30)) none),o 32 (.callg 100465 [t 31]),v 5 32])
 (S (R [5] [v 33 0,v 34 0,o 35 (.nilcheck (t 34)),o 36 (Fa 35 0),o 37 (Lq 36),v 38 1,o 39 (.slice (.sl 1) (t 37) (some (t 38)) none none),o 40 (.nilcheck (t 33)),o 41 (Fa 40 0),u (.store 1 (t 41) (t 39))])
 (S (R [4] [v 42 5,v 4 42])
 (Z [4]))))),none⟩
def T:Nat→Option AFunc:=fun g=>match AbsBlo.T g with
 | some f=>some f
 | none=>List.lookup g [(479,code479),(498,code498),(520,code520),(537,code537),(538,noF),(544,code544),(658,code658),(660,code660),(665,code665),(666,code666),(667,code667),(671,code671),(672,code672),(673,code673),(674,code674),(675,code675),(680,code680),(681,code681),(682,code682),(683,code683),(684,code684),(685,code685),(687,code687),(688,code688),(689,code689),(690,code690),(691,code691)]
theorem sub:∀ g f,AbsBlo.T g=some f→T g=some f:=fun g f h=>by unfold T; rw [h]
theorem t479:T 479=some code479:=rfl
theorem t498:T 498=some code498:=rfl
theorem t520:T 520=some code520:=rfl
theorem t537:T 537=some code537:=rfl
theorem t544:T 544=some code544:=rfl
theorem t658:T 658=some code658:=rfl
theorem t660:T 660=some code660:=rfl
theorem t665:T 665=some code665:=rfl
theorem t666:T 666=some code666:=rfl
theorem t667:T 667=some code667:=rfl
theorem t671:T 671=some code671:=rfl
theorem t672:T 672=some code672:=rfl
theorem t673:T 673=some code673:=rfl
theorem t674:T 674=some code674:=rfl
theorem t675:T 675=some code675:=rfl
theorem t680:T 680=some code680:=rfl
theorem t681:T 681=some code681:=rfl
theorem t682:T 682=some code682:=rfl
theorem t683:T 683=some code683:=rfl
theorem t684:T 684=some code684:=rfl
theorem t685:T 685=some code685:=rfl
theorem t687:T 687=some code687:=rfl
theorem t688:T 688=some code688:=rfl
theorem t689:T 689=some code689:=rfl
theorem t690:T 690=some code690:=rfl
theorem t691:T 691=some code691:=rfl
end Go.Abs.AbsNat

namespace Go.Abs.AbsRm
open Go.Abs.Short
-- base: AbsNat
def code920L0:ACode :=
 .live [2,9,26,27,28,29,154,155,156] (S (R [2,9,26,27,28,29,154,155,156,157] [o 157 (Bt .lss 156 155)])
 (S (.after (.cond (t 157) (.skip) (.live [2,9,26,27,28,29] (.exit 8))) [2,9,26,27,28,29,154,155,156])
 (S (.after (.block 9 (S (R [2,9,26,27,28,29,31,154,155,156] [o 158 (.iaddr 1 (t 154) (t 156)),o 159 (Lq 158),v 31 159])
 (R [2,9,26,27,28,29,154,155,156] [v 160 29,v 161 160,g 162 161 false (Vl 31),g 163 161 false (.bin .eql (t 162) (Ks [120])),o 164 (.pick (t 161) Y (t 163)),v 29 164]))) [2,9,26,27,28,29,154,155,156])
 (R [2,9,26,27,28,29,154,155,156] [o 165 (Bn .add 156 1),v 156 165]))))
def code920L1:ACode :=
 .live [2,8,9,10,20,21,100,101,102,106,107,108] (S (R [2,8,9,10,20,21,100,101,102,106,107,108,109] [o 109 (Bt .lss 108 107)])
 (S (.after (.cond (t 109) (.skip) (.live [2,8,9,10,20,21,100,101,102] (.exit 6))) [2,8,9,10,20,21,100,101,102,106,107,108])
 (S (.after (.block 7 (S (R [2,8,9,10,20,21,23,100,101,102,106,107,108] [o 110 (.iaddr 1 (t 106) (t 108)),o 111 (Lq 110),v 23 111])
 (S (R [2,8,9,10,20,21,23,100,101,102,106,107,108,114] [v 112 23,v 113 20,o 114 (Bt .neq 112 113)])
 (.after (.cond (t 114) (R [2,8,9,10,20,21,100,101,102,106,107,108] [v 115 21,v 116 23,o 117 (.mkslice 1 1 [.str []] [(0,1,t 116)]),o 118 (.append 1 16 (t 115) (t 117)),v 21 118]) (.skip)) [2,8,9,10,20,21,100,101,102,106,107,108])))) [2,8,9,10,20,21,100,101,102,106,107,108])
 (R [2,8,9,10,20,21,100,101,102,106,107,108] [o 119 (Bn .add 108 1),v 108 119]))))
def code920L2:ACode :=
 .live [2,8,9,10,100,101,102] (S (R [2,8,9,10,100,101,102,103] [o 103 (Bt .lss 102 101)])
 (S (.after (.cond (t 103) (.skip) (.live [2,8,9,10] (.exit 4))) [2,8,9,10,100,101,102])
 (S (.after (.block 5 (S (R [2,8,9,10,20,100,101,102] [o 104 (.iaddr 1 (t 100) (t 102)),o 105 (Lq 104),v 20 105])
 (S (R [2,8,9,10,20,21,100,101,102] [o 21 (.val (.const (.slice none 0 (some 0))))])
 (S (S (R [2,8,9,10,20,21,100,101,102,106,107,108] [v 106 10,o 107 (Sl 106),o 108 (.val (n 0))])
 (.after (.block 6 (.loop code920L1)) [2,8,9,10,20,21,100,101,102]))
 (S (R [2,8,9,10,20,21,24,100,101,102] [v 120 8,v 121 20,o 122 (.callg 921 [t 120,Ks [97,112,112],t 121]),v 24 122])
 (S (S (R [2,8,9,21,100,101,102,135] [v 123 20,o 124 (.len .str (t 123)),o 125 (Bn .leq 124 100),v 126 125,g 127 126 true (Vl 24),g 128 126 true (Bn .eql 127 0),g 129 126 true (Vl 21),g 130 126 true (Sl 129),g 131 126 true (Vl 10),g 132 126 true (Sl 131),g 133 126 true (Bt .lss 130 132),g 134 126 true (.beq true (t 128) (t 133)),o 135 (.pick (t 126) (t 134) F)])
 (.after (.cond (t 135) (S (R [6] [o 6 (.val F)])
 (Z [6])) (.skip)) [2,8,9,21,100,101,102]))
 (R [2,8,9,10,100,101,102] [v 136 21,v 10 136]))))))) [2,8,9,10,100,101,102])
 (R [2,8,9,10,100,101,102] [o 137 (Bn .add 102 1),v 102 137]))))
def code920L3:ACode :=
 .live [1,2,8,9,10,12,13,52,53,54,61,62,63] (S (R [1,2,8,9,10,12,13,52,53,54,61,62,63,64] [o 64 (Bt .lss 63 62)])
 (S (.after (.cond (t 64) (.skip) (.live [1,2,8,9,10,12,13,52,53,54] (.exit 2))) [1,2,8,9,10,12,13,52,53,54,61,62,63])
 (S (.after (.block 3 (S (R [1,2,8,9,10,12,13,15,52,53,54,61,62,63] [o 65 (.iaddr 1 (t 61) (t 63)),o 66 (Lq 65),v 15 66])
 (R [1,2,8,9,10,12,13,52,53,54,61,62,63] [v 67 13,v 68 67,g 69 68 false (Vl 15),g 70 68 false (Vl 12),g 71 68 false (Bt .eql 69 70),o 72 (.pick (t 68) Y (t 71)),v 13 72]))) [1,2,8,9,10,12,13,52,53,54,61,62,63])
 (R [1,2,8,9,10,12,13,52,53,54,61,62,63] [o 73 (Bn .add 63 1),v 63 73]))))
def code920L4:ACode :=
 .live [1,2,8,9,10,52,53,54] (S (R [1,2,8,9,10,52,53,54,55] [o 55 (Bt .lss 54 53)])
 (S (.after (.cond (t 55) (.skip) (.live [1,2,8,9,10] (.exit 0))) [1,2,8,9,10,52,53,54])
 (S (.after (.block 1 (S (R [1,2,8,9,10,12,52,53,54] [o 56 (.iaddr 1 (t 52) (t 54)),o 57 (Lq 56),v 12 57])
 (S (S (R [1,2,8,9,10,12,52,53,54,60] [v 58 12,o 59 (.len .str (t 58)),o 60 (Bn .gtr 59 100)])
 (.after (.cond (t 60) (S (R [6] [o 6 (.val Y)])
 (Z [6])) (.skip)) [1,2,8,9,10,12,52,53,54]))
 (S (R [1,2,8,9,10,12,13,52,53,54] [o 13 (.val F)])
 (S (S (R [1,2,8,9,10,12,13,52,53,54,61,62,63] [v 61 10,o 62 (Sl 61),o 63 (.val (n 0))])
 (.after (.block 2 (.loop code920L3)) [1,2,8,9,10,12,13,52,53,54]))
 (S (R [1,2,8,9,10,12,13,17,52,53,54] [v 75 8,v 76 12,o 77 (.callg 671 [t 75,Ks [97,112,112],t 76,.const (.bool true)]),v 74 77,o 78 (Xt 74 0),o 79 (Xt 74 1),o 16 (.lalloc [.int .u32 0,.int .u32 0,.slice none 0 (some 0)]),u (.store 3 (t 16) (t 78)),v 17 79])
 (S (R [1,2,8,9,10,12,13,17,18,52,53,54] [o 18 (.val (n 0))])
 (S (S (R [1,2,8,9,10,12,13,17,18,52,53,54,82] [v 80 12,o 81 (.callg 658 [t 80]),o 82 (.un .not (t 81))])
 (.after (.cond (t 82) (R [1,2,8,9,10,17,18,52,53,54] [o 18 (.val (n 13))]) (S (R [1,2,8,9,10,12,13,17,18,52,53,54,89] [v 83 13,o 84 (.un .not (t 83)),v 85 84,g 86 85 true (Vl 10),g 87 85 true (Sl 86),g 88 85 true (Bn .geq 87 8),o 89 (.pick (t 85) (t 88) F)])
 (.after (.cond (t 89) (R [1,2,8,9,10,17,18,52,53,54] [o 18 (.val (n 9))]) (S (R [1,2,8,9,10,12,17,18,52,53,54,91] [v 90 13,o 91 (.un .not (t 90))])
 (.after (.cond (t 91) (R [1,2,8,9,10,17,18,52,53,54] [v 92 10,v 93 12,o 94 (.mkslice 1 1 [.str []] [(0,1,t 93)]),o 95 (.append 1 16 (t 92) (t 94)),v 10 95]) (.skip)) [1,2,8,9,10,17,18,52,53,54]))) [1,2,8,9,10,17,18,52,53,54]))) [1,2,8,9,10,17,18,52,53,54]))
 (S (R [1,2,8,9,10,52,53,54,98] [v 96 17,v 97 18,o 98 (Bt .neq 96 97)])
 (.after (.cond (t 98) (S (R [6] [o 6 (.val F)])
 (Z [6])) (.skip)) [1,2,8,9,10,52,53,54])))))))))) [1,2,8,9,10,52,53,54])
 (R [1,2,8,9,10,52,53,54] [o 99 (Bn .add 54 1),v 54 99]))))
def code920:AFunc:=⟨false,false,3,197,[.tmp 6],
 S (R [0,1,2] [o 6 (.val F)])
 (S (S (R [0,1,2,33] [o 32 (.callg 923 []),o 33 (.un .not (t 32))])
 (.after (.cond (t 33) (S (R [6] [o 6 (.val F)])
 (Z [6])) (.skip)) [0,1,2]))
 (S (S (R [0,1,2,46] [v 34 0,o 35 (Sl 34),o 36 (Bn .gtr 35 14),v 37 36,g 38 37 false (Vl 1),g 39 37 false (Sl 38),g 40 37 false (Bn .gtr 39 14),o 41 (.pick (t 37) Y (t 40)),v 42 41,g 43 42 false (Vl 2),g 44 42 false (.len .str (t 43)),g 45 42 false (Bn .gtr 44 100),o 46 (.pick (t 42) Y (t 45))])
 (.after (.cond (t 46) (S (R [6] [o 6 (.val Y)])
 (Z [6])) (.skip)) [0,1,2]))
 (S (R [0,1,2,8,9] [o 48 (.callg 922 [n 8,n 400]),v 47 48,o 49 (Xt 47 0),o 50 (Xt 47 1),o 51 (Xt 47 2),v 7 49,v 8 50,v 9 51])
 (S (R [0,1,2,8,9,10] [o 10 (.val (.const (.slice none 0 (some 0))))])
 (S (S (R [1,2,8,9,10,52,53,54] [v 52 0,o 53 (Sl 52),o 54 (.val (n 0))])
 (.after (.block 0 (.loop code920L4)) [1,2,8,9,10]))
 (S (S (R [2,8,9,10,100,101,102] [v 100 1,o 101 (Sl 100),o 102 (.val (n 0))])
 (.after (.block 4 (.loop code920L2)) [2,8,9,10]))
 (S (R [2,8,9,10,26] [v 139 8,v 140 2,o 141 (.callg 671 [t 139,t 140,Ks [120],.const (.bool true)]),v 138 141,o 142 (Xt 138 0),o 143 (Xt 138 1),o 25 (.lalloc [.int .u32 0,.int .u32 0,.slice none 0 (some 0)]),u (.store 3 (t 25) (t 142)),v 26 143])
 (S (R [2,9,10,26,27] [v 144 8,o 145 (.callg 681 [t 144,Ks [97,112,112]]),v 27 145])
 (S (R [2,9,10,26,27,28] [v 146 10,o 147 (Sl 146),v 28 147])
 (S (S (R [2,9,10,26,27,28,153] [v 148 2,o 149 (.bin .eql (t 148) (Ks [97,112,112])),v 150 149,g 151 150 true (Vl 26),g 152 150 true (Bn .eql 151 0),o 153 (.pick (t 150) (t 152) F)])
 (.after (.cond (t 153) (S (R [2,9,10,26,27,28,29] [o 29 (.val F)])
 (S (S (R [2,9,26,27,28,29,154,155,156] [v 154 10,o 155 (Sl 154),o 156 (.val (n 0))])
 (.after (.block 8 (.loop code920L0)) [2,9,26,27,28,29]))
 (S (R [2,9,26,27,28,167] [v 166 29,o 167 (.un .not (t 166))])
 (.after (.cond (t 167) (R [2,9,26,27,28] [v 168 28,o 169 (Bn .add 168 1),v 28 169]) (.skip)) [2,9,26,27,28])))) (.skip)) [2,9,26,27,28]))
 (S (R [6] [v 170 9,v 171 170,g 172 171 true (Vl 27),g 173 171 true (Sl 172),g 174 171 true (Vl 28),g 175 171 true (Bt .eql 173 174),o 176 (.pick (t 171) (t 175) F),v 177 176,g 178 177 true (Vl 26),g 179 177 true (Bn .eql 178 0),g 180 177 true (Vl 179),g 181 180 false (Vl 26),g 182 180 false (Bn .eql 181 13),g 183 177 true (.pick (t 180) Y (t 182)),g 184 177 true (Vl 183),g 185 184 false (Vl 26),g 186 184 false (Bn .eql 185 9),g 187 177 true (.pick (t 184) Y (t 186)),o 188 (.pick (t 177) (t 187) F),v 189 188,g 190 189 true (Vl 26),g 191 189 true (Bn .eql 190 13),g 192 189 true (Vl 2),g 193 189 true (.callg 658 [t 192]),g 194 189 true (.un .not (t 193)),g 195 189 true (.beq false (t 191) (t 194)),o 196 (.pick (t 189) (t 195) F),v 6 196])
 (Z [6])))))))))))),none⟩
def code921:AFunc:=⟨false,false,3,30,[.tmp 6],
 S (R [0,1,2] [o 6 (.val (n 0))])
 (S (S (R [0,1,2,8] [v 10 0,v 11 1,v 12 2,o 13 (.callg 675 [t 10,t 11,t 12]),v 9 13,o 14 (Xt 9 0),o 15 (Xt 9 1),o 7 (.lalloc [.int .u32 0,.int .u32 0,.slice none 0 (some 0)]),u (.store 3 (t 7) (t 14)),v 8 15])
 (S (R [0,1,2,8,21] [v 16 8,o 17 (Bn .eql 16 13),v 18 17,g 19 18 false (Vl 8),g 20 18 false (Bn .eql 19 11),o 21 (.pick (t 18) Y (t 20))])
 (.after (.cond (t 21) (S (R [6] [v 22 8,v 6 22])
 (Z [6])) (.skip)) [0,1,2])))
 (S (R [6] [v 23 0,v 24 1,v 25 2,o 26 (.callg 683 [t 24,t 25]),o 27 (.build [.bool false,.str [],.slice none 0 (some 0)] [(0,1,.const (.bool true)),(1,1,t 26)]),o 28 (.mkslice 3 1 [.bool false,.str [],.slice none 0 (some 0)] [(0,3,t 27)]),o 29 (.callg 549 [t 23,t 28]),v 6 29])
 (Z [6]))),none⟩
def code922:AFunc:=⟨false,false,2,31,[.tmp 4,.tmp 5,.tmp 6],
 S (R [0,1] [o 4 (.val (.const (.ptr none))),o 5 (.val (.const (.ptr none))),o 6 (.val F)])
 (S (R [7,8] [v 12 0,v 13 1,o 14 (.build [.int .i64 0,.int .i64 0,.int .i64 0] [(0,1,t 12),(1,1,t 13),(2,1,n 100000)]),o 15 (.callg 556 [t 14]),v 11 15,o 16 (Xt 11 0),o 17 (Xt 11 1),v 7 16,v 8 17])
 (S (R [7,8,9,10] [v 19 7,o 20 (.callg 555 [t 19]),v 18 20,o 21 (Xt 18 0),o 22 (Xt 18 1),v 9 21,v 10 22])
 (S (R [4,5,6] [v 23 7,v 24 9,v 25 8,o 26 (Bn .eql 25 0),v 27 26,g 28 27 true (Vl 10),g 29 27 true (Bn .eql 28 0),o 30 (.pick (t 27) (t 29) F),v 4 23,v 5 24,v 6 30])
 (Z [4,5,6])))),none⟩
def code923:AFunc:=⟨true,false,0,81,[.tmp 0],
 S (R [] [o 0 (.val F)])
 (S (R [1,2] [o 15 (.build [.int .u32 0,.int .u32 0,.slice none 0 (some 0)] [(0,1,.const (.int .u32 1))]),o 16 (.callg 688 [t 15]),v 14 16,o 17 (Xt 14 0),o 18 (Xt 14 1),v 1 17,v 2 18])
 (S (R [1,2,4,5] [o 20 (.callg 922 [n 6,n 512]),v 19 20,o 21 (Xt 19 0),o 22 (Xt 19 1),o 23 (Xt 19 2),v 3 21,v 4 22,v 5 23])
 (S (R [1,2,4,5,7] [v 25 4,o 26 (.callg 671 [t 25,Ks [97],Ks [98],.const (.bool false)]),v 24 26,o 27 (Xt 24 0),o 28 (Xt 24 1),o 6 (.lalloc [.int .u32 0,.int .u32 0,.slice none 0 (some 0)]),u (.store 3 (t 6) (t 27)),v 7 28])
 (S (R [1,2,4,5,7,9] [v 30 4,o 31 (.callg 671 [t 30,Ks [97],Ks [98],.const (.bool true)]),v 29 31,o 32 (Xt 29 0),o 33 (Xt 29 1),o 8 (.lalloc [.int .u32 0,.int .u32 0,.slice none 0 (some 0)]),u (.store 3 (t 8) (t 32)),v 9 33])
 (S (R [1,2,4,5,7,9,10,11] [v 35 4,o 36 (.mkslice 1 1 [.int .u8 0] [(0,1,.const (.int .u8 120))]),o 37 (.conv .same (t 36)),o 38 (.callg 665 [t 35,Ks [97],Ks [98],t 37]),v 34 38,o 39 (Xt 34 0),o 40 (Xt 34 1),v 10 39,v 11 40])
 (S (R [1,2,5,7,9,10,11,12,13] [v 42 4,o 43 (.callg 667 [t 42,Ks [97],Ks [98],.const (.int .u32 1)]),v 41 43,o 44 (Xt 41 0),o 45 (Xt 41 1),v 12 44,v 13 45])
 (S (R [0] [v 46 5,v 47 46,g 48 47 true (Vl 1),g 49 47 true (.conv .string (t 48)),g 50 47 true (.bin .eql (t 49) (Ks [0,0,0,1,0,0,0,0,0,0])),o 51 (.pick (t 47) (t 50) F),v 52 51,g 53 52 true (Vl 2),g 54 52 true (Bn .eql 53 0),o 55 (.pick (t 52) (t 54) F),v 56 55,g 57 56 true (Vl 7),g 58 56 true (Bn .eql 57 11),o 59 (.pick (t 56) (t 58) F),v 60 59,g 61 60 true (Vl 9),g 62 60 true (Bn .eql 61 0),o 63 (.pick (t 60) (t 62) F),v 64 63,g 65 64 true (Vl 11),g 66 64 true (Bn .eql 65 0),o 67 (.pick (t 64) (t 66) F),v 68 67,g 69 68 true (Vl 13),g 70 68 true (Bn .eql 69 0),o 71 (.pick (t 68) (t 70) F),v 72 71,g 73 72 true (Vl 10),g 74 72 true (.bin .eql (t 73) (.const (.int .u32 1))),o 75 (.pick (t 72) (t 74) F),v 76 75,g 77 76 true (Vl 12),g 78 76 true (.conv .string (t 77)),g 79 76 true (.bin .eql (t 78) (Ks [120])),o 80 (.pick (t 76) (t 79) F),v 0 80])
 (Z [0])))))))),none⟩
def T:Nat→Option AFunc:=fun g=>match AbsNat.T g with
 | some f=>some f
 | none=>List.lookup g [(920,code920),(921,code921),(922,code922),(923,code923)]
theorem sub:∀ g f,AbsNat.T g=some f→T g=some f:=fun g f h=>by unfold T; rw [h]
theorem t920:T 920=some code920:=rfl
theorem t921:T 921=some code921:=rfl
theorem t922:T 922=some code922:=rfl
theorem t923:T 923=some code923:=rfl
end Go.Abs.AbsRm

namespace Go.Abs
theorem ru {T T':Nat→Option AFunc} (hs:∀ g f,T g=some f→T' g=some f):∀ n,CallLe (e7 T n) (e7 T' n)
 | 0=>fun _ _ _ r hr=>by simp [e7] at hr
 | n+1=>fun g args h=>by
  intro r hr;have ih:=ru hs n;simp only [e7] at hr ⊢;cases hT:T g with
  | none=>rw [hT] at hr; cases hr
  | some f =>
   rw [hT] at hr;rw [hs g f hT];simp only at hr ⊢;split at hr
   ·exact u0 ih (aj _) _ _ _ _ r hr
   ·exact hr
   ·exact ui (fun args h=>xm ih (aj _) f args h) _ _ _ r hr
theorem du {T T':Nat→Option AFunc} (hs:∀ g f,T g=some f→T' g=some f) {g:Nat} {args:List AVal} {h:Heap} {r:AVal × Heap} (he:xCall T g args h=some r):xCall T' g args h=some r:=by rw [kh] at he ⊢;obtain ⟨n,hn⟩:=he;exact ⟨n,ru hs n _ _ _ _ hn⟩
end Go.Abs

namespace Go.Abs
abbrev Str:=List UInt8
section
variable {κ ν:Type} [DecidableEq κ]
variable {os:List AObj} {b w r:Nat} {A:List (κ × ν)} {kf:κ→AVal} {vf:ν→AVal}
end
theorem kj {α:Type} (a c:List α) (k:Nat):(a++c)[a.length+k]? = c[k]?:=by rw [aw (by omega)]; congr 1; omega
theorem ga {α:Type} (a c:List α):(a++c)[a.length]? = c[0]?:=kj a c 0
theorem set_k {α:Type} (a c:List α) (k:Nat) (y:α):(a++c).set (a.length+k) y=a++c.set k y:=by rw [qv _ _ (by omega)]; congr 2; omega
theorem set_k0 {α:Type} (a c:List α) (y:α):(a++c).set a.length y=a++c.set 0 y:=set_k a c 0 y
theorem xRoundK {T:Nat→Option AFunc} {g:Nat} {f:AFunc} {rd:ARound} (hT:T g=some f) (hr:f.round=some (.round rd)) (i j:Nat) (a_s:List AVal) (h:Heap) :
  xCall T g (.ptr (some (i,j)) :: a_s) h=mustK (a_s.length=rd.params.length∧h.base≤i) (f:=⟨fun _=>andThen (ol i rd.params a_s h) (f:=⟨fun s=>xK T rd.assign ⟨s,{ h with wmin:=h.size }⟩
   (k:=⟨fun e st=>andThen (my g i (some (e,st))) (f:=⟨fun st=>xK T rd.body st (k:=⟨fun e st=>roundOut h g i (some (e,st))⟩)⟩)⟩)⟩)⟩):=by
 rw [xRound_eq T hT hr];unfold xRound mustK;simp only;split
 ·cases ol i rd.params a_s h with
  | none=>rfl
  | some s =>
   simp only [dg];unfold xK;cases jb T rd.assign ⟨s,{ h with wmin:=h.size }⟩ with
   | none=>rfl
   | some x =>
    obtain ⟨e,st⟩:=x;simp only [dg];cases my g i (some (e,st)) with
    | none=>rfl
    | some st =>
     simp only [dg];cases jb T rd.body st with
     | none=>rfl
     | some y=>rfl
 ·rfl
theorem yx {h0 h:Heap} {v:AVal} {k:List Nat} (hw:h0.size≤h.wmin) (hv:v.under h0.size=false) (hr:reach h h0.size 1000 v.ids []=k) (hok:∀ i ∈ v.ids++k.flatMap fun i=>((h.get i).map AObj.ids).getD [],i < h0.size∨i ∈ k) :
  dk h0 v h=(v.ren (fun i=>if i < h0.size then i else h0.size+idxIn i k),{ h0 with objs:=h0.objs++k.map fun i=>((h.get i).map (AObj.ren fun i=>if i < h0.size then i else h0.size+idxIn i k)).getD .dead }):=by
 unfold dk;rw [if_neg (by omega),hv];simp only [de,if_false,hr];rw [if_pos];rw [au];intro i hi;rcases hok i hi with h1 | h1
 ·rw [decide_eq_true h1]; rfl
 ·simp [h1]
end Go.Abs

namespace Go.Abs
structure FieldU where
 st:Bool
 name:Str
 desc:Str
structure InsU where
 op:Int
 n:Int
 m:Int
 cls:Str
 name:Str
 desc:Str
 text:Str
structure TrapU where
 lo:Int
 hi:Int
 at':Int
 cls:Str
structure MapU where
 at':Int
 locals:List Str
 la:Option (Nat × Nat)
 lc:Option Nat
 stack:List Str
 sa:Option (Nat × Nat)
 sc:Option Nat
structure MethU where
 st:Bool
 name:Str
 desc:Str
 stack:Int
 locals:Int
 code:List InsU
 ca:Option (Nat × Nat)
 cc:Option Nat
 traps:List TrapU
 ta:Option (Nat × Nat)
 tc:Option Nat
 maps:List MapU
 xa:Option (Nat × Nat)
 xc:Option Nat
structure UnitU where
 name:Str
 super:Str
 fields:List FieldU
 fa:Option (Nat × Nat)
 fc:Option Nat
 meths:List MethU
 ma:Option (Nat × Nat)
 mc:Option Nat
def FieldU.cells (f:FieldU):List AVal:=[.bool f.st,.str f.name,.str f.desc]
def InsU.cells (x:InsU):List AVal:=[.int .u8 x.op,.int .i64 x.n,.int .i64 x.m,.str x.cls,.str x.name,.str x.desc,.str x.text]
def TrapU.cells (x:TrapU):List AVal:=[.int .i64 x.lo,.int .i64 x.hi,.int .i64 x.at',.str x.cls]
def MapU.cells (x:MapU):List AVal:=[.int .i64 x.at',.slice x.la x.locals.length x.lc,.slice x.sa x.stack.length x.sc]
def MethU.cells (m:MethU):List AVal:=[.bool m.st,.str m.name,.str m.desc,.int .i64 m.stack,.int .i64 m.locals,.slice m.ca m.code.length m.cc,.slice m.ta m.traps.length m.tc,.slice m.xa m.maps.length m.xc]
def UnitU.cells (u:UnitU):List AVal:=[.str u.name,.str u.super,.slice u.fa u.fields.length u.fc,.slice u.ma u.meths.length u.mc]
def strC (s:Str):List AVal:=[.str s]
abbrev big:Nat:=9223372036854775807
def under (n:Nat) (a:Option (Nat × Nat)):Prop:=∀ i o,a=some (i,o)→i < n
structure MapU.ok (os:List AObj) (x:MapU):Prop where
 l:Row os 1 strC x.locals x.la
 ln:x.locals.length≤big
 lu:under os.length x.la
 s:Row os 1 strC x.stack x.sa
 sn:x.stack.length≤big
 su:under os.length x.sa
 ls:∀ t ∈ x.locals++x.stack,t.length≤big
structure MethU.ok (os:List AObj) (m:MethU):Prop where
 name:m.name.length≤big
 desc:m.desc.length≤big
 c:Row os 7 InsU.cells m.code m.ca
 cn:m.code.length≤big
 cu:under os.length m.ca
 cok:∀ x ∈ m.code,x.cls.length≤big∧x.name.length≤big∧x.desc.length≤big∧x.text.length≤big
 t:Row os 4 TrapU.cells m.traps m.ta
 tn:m.traps.length≤big
 tu:under os.length m.ta
 tok:∀ x ∈ m.traps,x.cls.length≤big
 x:Row os 3 MapU.cells m.maps m.xa
 xn:m.maps.length≤big
 xu:under os.length m.xa
 xok:∀ x ∈ m.maps,x.ok os
structure UnitU.ok (os:List AObj) (u:UnitU):Prop where
 name:u.name.length≤big
 super:u.super.length≤big
 f:Row os 3 FieldU.cells u.fields u.fa
 fn:u.fields.length≤big
 fu:under os.length u.fa
 fok:∀ x ∈ u.fields,x.name.length≤big∧x.desc.length≤big
 m:Row os 8 MethU.cells u.meths u.ma
 mn:u.meths.length≤big
 mu:under os.length u.ma
 mok:∀ x ∈ u.meths,x.ok os
def Pre (os O:List AObj):Prop:=∀ (i:Nat) (o:AObj),os[i]? = some o→O[i]? = some o
theorem Pre.refl (os:List AObj):Pre os os:=fun _ _ h=>h
theorem Pre.trans {A B C:List AObj} (h:Pre A B) (k:Pre B C):Pre A C:=fun i o ho=>k i o (h i o ho)
theorem Pre.app (os X:List AObj):Pre os (os++X):=fun i o h=>by rw [ag (ah h)]; exact h
theorem Pre.set {A B:List AObj} (h:Pre A B) {i:Nat} (o:AObj) (hi:A.length≤i):Pre A (B.set i o):=fun j p hj=>by have:=ah hj;rw [av (by omega)]; exact h j p hj
theorem Pre.len {A B:List AObj} (h:Pre A B):A.length≤B.length:=by
 rcases bi B.length A.length with h1 | h1
 ·have h2:B.length < A.length:=h1;have:=ah (h B.length A[B.length] (by simp [h2]));omega
 ·exact h1
structure UnitU.low (n:Nat) (u:UnitU):Prop where
 f:under n u.fa
 m:under n u.ma
section
variable {os:List AObj} {w:Nat}
end
end Go.Abs

namespace Go.Abs
theorem xh {e:Nat} {h:Heap} {a:Option (Nat × Nat)} {c:Option Nat}:iw e h (.slice a 0 c)=some []:=by
 cases a with
 | none=>rfl
 | some p=>rfl
theorem uv {e n:Nat} {h:Heap} {i:Nat} {cs:List AVal} {c:Option Nat} (hg:h.objs[i]? = some (.cells e cs)) (hn:cs.length=n*e):iw e h (.slice (some (i,0)) n c)=some cs:=by
 unfold iw;simp only;split
 ·rename_i h0;subst h0;rw [Nat.zero_mul] at hn;rw [cg hn]
 ·have hg':h.get i=some (.cells e cs):=hg;rw [hg'];simp only;have h2:True∧0+n*e≤cs.length:=⟨trivial,by omega⟩;rw [if_pos h2,eq,← hn,List.take_length]
theorem sgetN (t:Nat):sget [] t=none:=by simp
theorem zbh (t:Nat) (x:Slot) (r:Slots):sget ((t,x) :: r) t=some x:=by simp
theorem sgetT (u t:Nat) (x:Slot) (r:Slots) (h:u≠t):sget ((u,x) :: r) t=sget r t:=by simp [h]
end Go.Abs

namespace Go.Abs.AbsBlb
open Go.Abs.Short
abbrev Bs:=List UInt8
def u8V (x:UInt8):AVal:=.int .u8 x.toNat
def natV (x:Nat):AVal:=.int .i64 x
theorem jr {A:List AObj} {i:Nat} {x y:AObj} (h:A[i]? = some x):(A.set i y)[i]? = some y:=eg (ah h)
theorem ie {α:Type} {L:List α} {i:Nat} {x:α} (h:L[i]? = some x):L.drop i=x :: L.drop (i+1):=by have hl:=ah h;rw [ai hl] at h;rw [jw hl,dr h]
theorem lz:∀ L:Bs,AVal.idsL (L.map u8V)=[]
 | []=>rfl
 | a :: L=>by simp only [bo,AVal.idsL,u8V,AVal.ids,ff,lz L]
theorem mg (f:Nat→Nat):∀ L:Bs,AVal.renL f (L.map u8V)=L.map u8V
 | []=>rfl
 | a :: L=>by simp only [bo,AVal.renL,u8V,AVal.ren,mg f L]
theorem zbc (e:Nat) (cs:List AVal):(AObj.cells e cs).ids=AVal.idsL cs:=rfl
theorem oh {O P:List AObj} {b w e q n:Nat} {cs:List AVal} {c:Option Nat} {W:Nat} (hq:P[q]? = some (.cells e cs)) (hI:AVal.idsL cs=[]) (hR:∀ g,AVal.renL g cs=cs) (h1:O.length≤q) (hW:O.length≤W) :
  dk ⟨O,b,w⟩ (.slice (some (q,0)) n c) ⟨P,b,W⟩=(.slice (some (O.length,0)) n c,⟨O++[.cells e cs],b,w⟩):=by
 have hv:AVal.under (⟨O,b,w⟩:Heap).size (.slice (some (q,0)) n c)=false:=by
  have:¬ q < O.length:=by omega
  simp [AVal.under,Heap.size,this]
 have hg:(⟨P,b,W⟩:Heap).get q=some (.cells e cs):=hq
 have hreach:reach ⟨P,b,W⟩ (⟨O,b,w⟩:Heap).size 1000 (AVal.slice (some (q,0)) n c).ids []=[q]:=by simp only [AVal.ids];rw [reach,if_neg (by show ¬ q < O.length; omega),if_neg (by simp),hg];simp only [b9,gh,AObj.ids,hI,ff];rfl
 refine (yx (show (⟨O,b,w⟩:Heap).size≤(⟨P,b,W⟩:Heap).wmin from hW) hv hreach fun j hj=>?_).trans ?_
 ·simp only [AVal.ids,fq,List.flatMap_nil,hg,b9,gh,AObj.ids,hI,gq,dy,List.not_mem_nil,or_false] at hj;subst hj;exact .inr (eo _)
 ·have key:∀ g:Nat→Nat,g q=O.length→((AVal.slice (some (q,0)) n c).ren g,(⟨O++[AObj.cells e cs],b,w⟩:Heap))=(.slice (some (O.length,0)) n c,⟨O++[.cells e cs],b,w⟩):=fun g hg'=>by simp only [AVal.ren,hg']
  simp only [Heap.size,bo,List.map_nil,hg,b9,gh,AObj.ren,hR];exact key _ ((if_neg (show ¬ q < O.length by omega)).trans (by simp [idxIn]))
structure Fl where
 n:Nat
 z:Nat
 lim:Nat
 b:Bs
 w:List Nat
def Fl.cells (F:Fl) (fb fw:Nat) (cb cw:Option Nat):List AVal:=[.int .i64 F.n,.int .i64 F.z,.int .i64 F.lim,.slice (some (fb,0)) F.b.length cb,.slice (some (fw,0)) F.w.length cw,.bool false,.int .i64 (-1),.int .i64 0,.int .u8 0]
structure FI where
 fl:Nat
 fb:Nat
 fw:Nat
 cb:Option Nat
 cw:Option Nat
structure FlA (H:List AObj) (I:FI) (F:Fl):Prop where
 f:H[I.fl]? = some (.cells 9 (F.cells I.fb I.fw I.cb I.cw))
 b:H[I.fb]? = some (.cells 1 (F.b.map u8V))
 w:H[I.fw]? = some (.cells 1 (F.w.map natV))
 bl:F.b.length=F.n*F.z
 wl:F.w.length=F.n
 nb:F.n≤64∧F.z≤65536
 lb:F.lim≤1048576
 wb:∀ x ∈ F.w,x≤1048576
 ne:I.fb≠I.fw
 cbo:∀ c,I.cb=some c→c=F.b.length
 cwo:∀ c,I.cw=some c→c=F.w.length
section
variable {H:List AObj} {b w:Nat} {I:FI} {F:Fl}
theorem FlA.nes (h:FlA H I F):I.fl≠I.fb∧I.fl≠I.fw:=by
 refine ⟨fun e=>?_,fun e=>?_⟩
 ·have:=h.f; rw [e,h.b] at this; cases this
 ·have:=h.f; rw [e,h.w] at this; cases this
theorem FlA.total (h:FlA H I F):F.b.length≤4194304:=by
 rw [h.bl];obtain ⟨h1,h2⟩:=h.nb
 calc F.n*F.z≤64*65536:=Nat.mul_le_mul h1 h2
  _=4194304:=rfl
theorem FlA.keep {H':List AObj} (h:FlA H I F) (hk:∀ (i:Nat) (o:AObj),H[i]? = some o→(i=I.fl∨i=I.fb∨i=I.fw)→H'[i]? = some o):FlA H' I F :=
 ⟨hk _ _ h.f (.inl rfl),hk _ _ h.b (.inr (.inl rfl)),hk _ _ h.w (.inr (.inr rfl)),h.bl,h.wl,h.nb,h.lb,h.wb,h.ne,h.cbo,h.cwo⟩
section
attribute [-simp] getElem?_pos getElem?_neg List.all_eq_true
attribute [local simp] qZ qS nltT nltF iltT iltF ileT nleT el
theorem s568 {x lo hi:Int}:xCall T 568 [.int .i64 x,.int .i64 lo,.int .i64 hi] ⟨H,b,w⟩=some (.bool (decide (lo≤x) && decide (x≤hi)),⟨H,b,w⟩):=by
 by_cases h1:lo≤x
 ·by_cases h2:x≤hi
  ·simp (disch:=omega) [bc t568,code568,h1,h2]
  ·simp (disch:=omega) [bc t568,code568,h1,h2]
 ·simp (disch:=omega) [bc t568,code568,h1]
theorem s573 (h:FlA H I F):xCall T 573 [.ptr (some (I.fl,0))] ⟨H,b,w⟩=some (.agg [.int .i64 F.n,.int .i64 F.z,.int .i64 F.lim],⟨H,b,w⟩):=by have hf:=h.f;unfold Fl.cells at hf;simp (disch:=omega) [bc t573,code573,hf]
theorem s587 (h:FlA H I F) {i x:Nat} (hx:F.w[i]? = some x):xCall T 587 [.ptr (some (I.fl,0)),.int .i64 i] ⟨H,b,w⟩=some (.int .i64 x,⟨H,b,w⟩):=by
 have hf:=h.f;unfold Fl.cells at hf;have hw:=h.w;have hil:=ah hx;have hwl:=h.wl;have hn:=h.nb.1;have h568:=fun (x lo hi:Int) w=>s568 (H:=H) (b:=b) (w:=w) (x:=x) (lo:=lo) (hi:=hi)
 have hg:(F.w.map natV)[i]? = some (.int .i64 x):=by rw [bk,hx]; rfl
 have hl:(F.w.map natV).length=F.n:=by rw [bh]; exact hwl
 have q1:((0:Int)≤i):=by omega
 have q2:((i:Int)≤(F.n:Int) - 1):=by omega
 generalize F.w.map natV=Y at hw hg hl;simp (disch:=omega) [bc t587,code587,hf,hw,hg,hl,hwl,h568,q1,q2]
end
def spanA (fb a n:Nat):AVal:=.slice (some (fb,if n=0 then 0 else a)) n (some n)
section
attribute [-simp] getElem?_pos getElem?_neg List.all_eq_true
attribute [local simp] qZ qS nltT nltF iltT iltF ileT nleT el
theorem s583 (h:FlA H I F) {a n:Nat} (ha:a≤1000000000) (hn:n≤1000000000):xCall T 583 [.ptr (some (I.fl,0)),.int .i64 a,.int .i64 n] ⟨H,b,w⟩ =
  some (if a+n≤F.b.length then .tuple [spanA I.fb a n,.int .i64 0] else .tuple [.slice none 0 (some 0),.int .i64 2],⟨H,b,w⟩):=by
 have hf:=h.f;unfold Fl.cells at hf;have hb:=h.b;have ht:=h.total
 have hes:∀ w,eszIs ⟨H,b,w⟩ I.fb 1=true:=fun w=>by unfold eszIs Heap.get;simp only [hb]; rfl
 by_cases c:a+n≤F.b.length
 ·have c1:¬ ((F.b.length:Int) < a):=by omega
  have c2:¬ ((F.b.length:Int) - a < n):=by omega
  rw [if_pos c]
  have hgd:I.cb.getD F.b.length=F.b.length:=by
   cases hc:I.cb with
   | none=>rfl
   | some x=>rw [gh]; exact h.cbo x hc
  have q1:(a:Int)+n≤F.b.length:=by omega
  have q2:((a:Int)+n).toNat=a+n:=by omega
  have q3:a+n - a=n:=by omega
  have q4:(a+n=a)=(n=0):=by simp
  have hbl:=ah hb;simp (disch:=omega) [bc t583,code583,hf,c1,c2,spanA,hb,hgd,q1,q2,q3,q4]
 ·rw [if_neg c];by_cases c1:(F.b.length:Int) < a
  ·simp (disch:=omega) [bc t583,code583,hf,c1]
  ·have c2:(F.b.length:Int) - a < n:=by omega
   simp (disch:=omega) [bc t583,code583,hf,c1,c2]
theorem s100465 {p o n:Nat} {c:Option Nat} {X:List AVal} {L:Bs} (hp:H[p]? = some (.cells 1 X)) (hX:(X.drop o).take n=L.map u8V) (hl:L.length=n) (hn:0 < n) (hb:n≤1000000000) :
  xCall T 100465 [.slice (some (p,o)) n c] ⟨H,b,w⟩=some (.slice (some (H.length,0)) n none,⟨H++[.cells 1 (L.map u8V)],b,w⟩):=by
 have hpl:=ah hp
 have hol:o+n≤X.length:=by have:=congrArg List.length hX;rw [dh,gg,bh] at this;omega
 have hrow:∀ Y w,iw 1 ⟨H++Y,b,w⟩ (.slice (some (p,o)) n c)=some (L.map u8V):=fun Y w=>by
  unfold iw;simp only [Heap.get];rw [ag hpl,hp];have q0:¬ n=0:=by omega
  have q1:(1=1∧o+n*1≤X.length):=⟨rfl,by omega⟩;simp only [q0,if_false,r0];rw [if_pos (by simpa using hol),hX]
 have hz:∀ Y w,iw 1 ⟨H++Y,b,w⟩ (.slice (some (H.length,0)) 0 (some 0))=some []:=fun Y w=>xh
 have e1:∀ w,ex 1 1 ⟨H++[.cells 1 []],b,w⟩ (.slice (some (H.length,0)) 0 (some 0)) (.slice (some (p,o)) n c)=some (.slice (some (H.length+1,0)) n none,⟨H++[.cells 1 [],.cells 1 (L.map u8V)],b,w⟩):=fun w=>by
  unfold ex;simp only [hz,hrow,aApp,alen];have q0:¬ n=0:=by omega
  have q2:(0+n)*1≤140737488355328∧0+n≤9223372036854775807:=⟨by omega,by omega⟩;simp only [eq_false q0,eq_true q2,if_false,if_true];simp [Heap.push,Heap.size]
 have hf:=fun w0=>oh (O:=H) (P:=H++[.cells 1 [],.cells 1 (L.map u8V)]) (b:=b) (w:=w0) (W:=H.length) (q:=H.length+1) (n:=n) (c:=none) (kj H _ 1) (lz L) (fun g=>mg g L) (by omega) (aj _)
 simp (disch:=omega) [bc t100465,code100465,-ex,-dk,e1,hf]
theorem s588 (h:FlA H I F) {a n:Nat} (ha:a≤1000000000) (hn:0 < n) (hn2:n≤1000000000) (hin:a+n≤F.b.length):xCall T 588 [.ptr (some (I.fl,0)),.int .i64 a,.int .i64 n] ⟨H,b,w⟩ =
  some (.tuple [.slice (some (H.length,0)) n none,.int .i64 0],⟨H++[.cells 1 (((F.b.drop a).take n).map u8V)],b,w⟩):=by
 have h583:=fun w=>s583 (b:=b) (w:=w) h ha hn2
 rw [if_pos hin] at h583;have hn0:¬ n=0:=by omega
 unfold spanA at h583;rw [if_neg hn0] at h583;have h100465:=fun w=>s100465 (b:=b) (w:=w) (n:=n) (c:=some n) (L:=(F.b.drop a).take n) h.b (by rw [← List.map_drop,← uw]) (by rw [dh,gg]; omega) hn hn2
 have hf:=fun w0=>oh (O:=H) (P:=H++[.cells 1 (((F.b.drop a).take n).map u8V)]) (b:=b) (w:=w0) (W:=H.length) (q:=H.length) (n:=n) (c:=none) (ga H _) (lz _) (fun g=>mg g _) (aj _) (aj _)
 have hids:AVal.idsL (((F.b.drop a).take n).map u8V)=[]:=lz _;have hren:∀ g,AVal.renL g (((F.b.drop a).take n).map u8V)=((F.b.drop a).take n).map u8V:=fun g=>mg g _
 generalize ((F.b.drop a).take n).map u8V=Y at h100465 hids hren ⊢;simp (disch:=omega) [bc t588,code588,h583,h100465,mb,md,hids,hren,zbc]
theorem s582 (h:FlA H I F) {n:Nat}:xCall T 582 [.ptr (some (I.fl,0)),.int .i64 n] ⟨H,b,w⟩=some (.tuple [.int .i64 n,.bool false],⟨H,b,w⟩):=by have hf:=h.f;unfold Fl.cells at hf;simp (disch:=omega) [bc t582,code582,hf]
end
theorem ofInt_u8 (x:UInt8):BitVec.ofInt 8 (x.toNat:Int)=x.toBitVec:=by apply BitVec.eq_of_toNat_eq;rw [BitVec.toNat_ofInt];have:=x.toBitVec.isLt;show ((x.toNat:Int) % (2 ^ 8:Nat)).toNat=x.toNat;have h2:x.toNat < 256:=x.toNat_lt;omega
theorem wrap_u8 (x:UInt8):IntKind.u8.wrap (x.toNat:Int)=x.toNat:=by have h2:x.toNat < 256:=x.toNat_lt;unfold IntKind.wrap;show (if (false && _)=true then _ else ((x.toNat:Int) % 2 ^ 8))=_;simp;omega
theorem andNot_u8 (x y:UInt8):aBits .andNot .u8 x.toNat y.toNat=some (.int .u8 (x &&& ~~~y).toNat):=by
 unfold aBits;simp only
 have:(BitVec.ofInt (IntKind.u8).bits (x.toNat:Int) &&& ~~~(BitVec.ofInt (IntKind.u8).bits (y.toNat:Int))).toNat=(x &&& ~~~y).toNat:=by
  show (BitVec.ofInt 8 (x.toNat:Int) &&& ~~~(BitVec.ofInt 8 (y.toNat:Int))).toNat=_
  rw [ofInt_u8,ofInt_u8]; rfl
 rw [this,wrap_u8]
theorem u8_zero (x:UInt8):((x.toNat:Int)=0)=(x=0):=by
 apply propext;constructor
 ·intro h;have h1:x.toNat=0:=by omega
  exact UInt8.toNat_inj.1 h1
 ·rintro rfl; rfl
def bitsOk (l own:Bs):Bool:=(l.zip own).all fun p=>decide (p.1 &&& ~~~p.2=0)
section
attribute [-simp] getElem?_pos getElem?_neg List.all_eq_true
attribute [local simp] qZ qS nltT nltF iltT iltF ileT nleT el
theorem l558 (h:FlA H I F) {p o n a:Nat} {c:Option Nat} {X:List AVal} {l:Bs} (hp:H[p]? = some (.cells 1 X)) (hX:(X.drop o).take n=l.map u8V) (hl:l.length=n) (hn:0 < n) (hb:n≤1000000000) (hin:a+n≤F.b.length):∀ (j i w:Nat),i+j=n→∀ {β:Type} (k:AExit→St→Option β),
  xK T (.loop code558L0) ⟨[(0,.val (.ptr (some (I.fl,0)))),(2,.val (.slice (some (p,o)) n c)),(7,.val (spanA I.fb a n)),(24,.val (.slice (some (p,o)) n c)),(25,.val (.int .i64 n)),(26,.val (.int .i64 i))],⟨H,b,w⟩⟩ (k:=⟨k⟩) =
   if bitsOk (l.drop i) ((F.b.drop a).drop i) then k (.exit 0) ⟨[(0,.val (.ptr (some (I.fl,0)))),(2,.val (.slice (some (p,o)) n c)),(7,.val (spanA I.fb a n))],⟨H,b,w⟩⟩ else k .ret ⟨[(6,.val (.int .i64 3))],⟨H,b,w⟩⟩
 | 0,i,w,hi,β,k=>by have hd:l.drop i=[]:=co (by omega);rw [hd,cd];simp only [bitsOk,List.zip_nil_left,List.all_nil,if_true];simp (disch:=omega) [code558L0]
 | j+1,i,w,hi,β,k=>by
  have hfb:=h.b;obtain ⟨x,hx⟩:∃ x,l[i]? = some x:=⟨_,ai (by omega)⟩;obtain ⟨y,hy⟩:∃ y,F.b[a+i]? = some y:=⟨_,ai (by omega)⟩
  have g1:X[o+i]? = some (.int .u8 x.toNat):=by
   have h1:((X.drop o).take n)[i]? = some (u8V x):=by rw [hX,bk,hx]; rfl
   rw [fh,if_pos (by omega),ef] at h1;exact h1
  have g2:(F.b.map u8V)[a+i]? = some (.int .u8 y.toNat):=by rw [bk,hy]; rfl
  have hxl:=ah g1;have hyl:=ah g2;have e2:((i+1:Nat):Int)=(i:Int)+1:=by omega
  have ih:=l558 (c:=c) h hp hX hl hn hb hin j (i+1) w (by omega) k;rw [e2] at ih;have hy2:(F.b.drop a)[i]? = some y:=by rw [ef]; exact hy
  have hbo:bitsOk (l.drop i) ((F.b.drop a).drop i)=(decide (x &&& ~~~y=0) && bitsOk (l.drop (i+1)) ((F.b.drop a).drop (i+1))):=by rw [ie hx,ie hy2]; rfl
  rw [hbo,cd];have hn0:¬ n=0:=by omega
  unfold spanA at ih ⊢;rw [if_neg hn0] at ih ⊢;generalize ACode.loop code558L0=LL at ih ⊢;generalize F.b.map u8V=Y at *;have hz:=u8_zero (x &&& ~~~y);by_cases hc:x &&& ~~~y=0
  ·rw [hc] at hz;have hq:aBits .andNot .u8 x.toNat y.toNat=some (.int .u8 0):=by rw [andNot_u8,hc]; rfl
   simp only [hc,decide_true,Bool.true_and];rw [← ih];simp (disch:=omega) [code558L0,hfb,hp,g1,g2,hxl,hyl,hq]
  ·have hq:¬ (((x &&& ~~~y).toNat:Int)=0):=by rw [hz]; exact hc
   have hq2:=andNot_u8 x y;generalize ((x &&& ~~~y).toNat:Int)=zz at hq hq2;simp only [hc,decide_false,Bool.false_and];simp (disch:=omega) [code558L0,hfb,hp,g1,g2,hxl,hyl,hq2,hq]
end
end
end Go.Abs.AbsBlb

namespace Go.Abs.AbsBlb
open Go.Abs.Short
def spliceB (b:Bs) (a:Nat) (l:Bs):Bs:=b.take a++l++b.drop (a+l.length)
theorem tl (b:Bs) (a:Nat) (l:Bs):(spliceB b a l).map u8V=(b.map u8V).take a++l.map u8V++(b.map u8V).drop (a+l.length):=by unfold spliceB;rw [ic,ic,uw,List.map_drop]
section
variable {H:List AObj} {b w:Nat} {I:FI} {F:Fl}
section
attribute [-simp] getElem?_pos getElem?_neg List.all_eq_true
attribute [local simp] qZ qS nltT nltF iltT iltF ileT nleT el
theorem s558 (h:FlA H I F) {p o n a:Nat} {c:Option Nat} {X:List AVal} {l:Bs} (hp:H[p]? = some (.cells 1 X)) (hX:(X.drop o).take n=l.map u8V) (hl:l.length=n) (hn:0 < n) (hb:n≤1000000000) (ha:a≤1000000000) (hbw:b≤I.fb) (hc:n≤c.getD n) :
  xCall T 558 [.ptr (some (I.fl,0)),.int .i64 a,.slice (some (p,o)) n c] ⟨H,b,w⟩ =
   some (if a+n≤F.b.length then if bitsOk l (F.b.drop a) then (.int .i64 0,⟨H.set I.fb (.cells 1 ((spliceB F.b a l).map u8V)),b,min w I.fb⟩) else (.int .i64 3,⟨H,b,w⟩) else (.int .i64 2,⟨H,b,w⟩)):=by
 have h583:=fun w=>s583 (b:=b) (w:=w) h ha hb
 by_cases hin:a+n≤F.b.length
 ·rw [if_pos hin] at h583 ⊢;have hlp:=fun {β:Type} w (k:AExit→St→Option β)=>l558 (b:=b) (c:=c) h hp hX hl hn hb hin n 0 w (by omega) k
  simp only [ba,eq] at hlp;have h582:=fun w=>s582 (b:=b) (w:=w) (n:=n) h
  by_cases hok:bitsOk l (F.b.drop a)=true
  ·simp only [eq_true hok,if_true] at hlp ⊢;have hfb:=h.b;have hpl:=ah hp;have hfl:=ah hfb;have hnn:¬ n=0:=by omega
   have hrk:rowK 1 ⟨H,b,H.length⟩ n (.slice (some (p,o)) n c)=some (l.map u8V):=by
    unfold rowK iw;simp only [Heap.get,hp,hnn,if_false,r0,aj,if_true]
    have:o+n≤X.length:=by have:=congrArg List.length hX;rw [dh,gg,bh] at this;omega
    simp [this,hX]
   unfold spanA at hlp h583;rw [if_neg hnn] at hlp h583;simp (disch:=omega) [bc t558,code558,h583,hlp,h582,hp,hc,hrk,hfb,hnn,hl,tl,splice]
  ·simp only [eq_false hok,if_false] at hlp ⊢;simp (disch:=omega) [bc t558,code558,h583,hlp]
 ·rw [if_neg hin] at h583 ⊢;simp (disch:=omega) [bc t558,code558,h583]
end
theorem splice_step {B:Bs} {a i n:Nat} (hi:i < n) (h:a+n≤B.length):(spliceB B a (List.replicate i 255)).set (a+i) 255=spliceB B a (List.replicate (i+1) 255):=by
 unfold spliceB;have h1:(B.take a++List.replicate i (255:UInt8)).length=a+i:=by rw [aq,dh,br]; omega
 rw [qv _ _ (by omega),h1,mw,br,br,jw (show a+i < B.length by omega),List.set_cons_zero,List.replicate_succ'];simp [az]; rfl
theorem i9 {B:Bs} {a:Nat} {l:Bs} (h:a+l.length≤B.length):(spliceB B a l).length=B.length:=by unfold spliceB;rw [aq,aq,dh,gg]; omega
theorem pt {A:List AObj} {i:Nat} {x:AObj} (h:A[i]? = some x):A.set i x=A:=by
 apply jh;intro j;by_cases c:i=j
 ·subst c;rw [jr h,h]
 ·rw [av c]
theorem m9 {L:List AVal} {i:Nat} (x:AVal) (h:i < L.length):L.take i++x :: L.drop (i+1)=L.set i x:=by rw [List.set_eq_take_append_cons_drop,if_pos h]
section
attribute [-simp] getElem?_pos getElem?_neg List.all_eq_true
attribute [local simp] qZ qS nltT nltF iltT iltF ileT nleT el
theorem l611 {fl fb a n:Nat} {B:Bs} {ca:Option Nat} {y:AVal} (hf:H[fb]? = some (.cells 1 (B.map u8V))) (hin:a+n≤B.length) (hb:b≤fb) (hbn:B.length≤1000000000):∀ (j i w:Nat),i+j=n→∀ {β:Type} (k:AExit→St→Option β),
  xK T (.loop code611L0) ⟨[(0,.val (.ptr (some (fl,0)))),(5,.val (.slice (some (fb,a)) n ca)),(6,.val (.int .i64 n)),(7,.val y),(79,.val (.int .i64 n)),(80,.val (.int .i64 i))],⟨H.set fb (.cells 1 ((spliceB B a (List.replicate i 255)).map u8V)),b,w⟩⟩ (k:=⟨k⟩) =
   k (.exit 1) ⟨[(0,.val (.ptr (some (fl,0)))),(5,.val (.slice (some (fb,a)) n ca)),(6,.val (.int .i64 n)),(7,.val y)],⟨H.set fb (.cells 1 ((spliceB B a (List.replicate n 255)).map u8V)),b,if j=0 then w else min w fb⟩⟩
 | 0,i,w,hi,β,k=>by
  obtain rfl:i=n:=by omega
  rw [cd,if_pos rfl];simp (disch:=omega) [code611L0]
 | j+1,i,w,hi,β,k=>by
  have hfl:=ah hf;have ih:=l611 (fl:=fl) (ca:=ca) (y:=y) hf hin hb hbn j (i+1) (min w fb) (by omega) k;have e2:((i+1:Nat):Int)=(i:Int)+1:=by omega
  have e3:(if j=0 then min w fb else min (min w fb) fb)=min w fb:=by split <;> omega
  rw [e2,e3] at ih;rw [if_neg (by omega),cd,← ih];generalize ACode.loop code611L0=LL;have hst:=splice_step (B:=B) (a:=a) (i:=i) (n:=n) (by omega) hin;have hln:(spliceB B a (List.replicate i 255)).length=B.length:=i9 (by rw [br]; omega)
  have hms:((spliceB B a (List.replicate i 255)).map u8V).set (a+i) (.int .u8 255)=(spliceB B a (List.replicate (i+1) 255)).map u8V:=by rw [← hst,List.map_set]; rfl
  have hml:((spliceB B a (List.replicate i 255)).map u8V).length=B.length:=by rw [bh]; exact hln
  rw [← m9 _ (by omega)] at hms;generalize (spliceB B a (List.replicate i 255)).map u8V=Y at hms hml;simp (disch:=omega) [code611L0,hml,hms]
end
def eraseB (F:Fl) (i:Nat):Bs:=spliceB F.b (i*F.z) (List.replicate F.z 255)
section
attribute [-simp] getElem?_pos getElem?_neg List.all_eq_true
attribute [local simp] qZ qS nltT nltF iltT iltF ileT nleT el
theorem s611 (h:FlA H I F) {i x:Nat} (hx:F.w[i]? = some x) (hz:0 < F.z) (hbw:b≤I.fb∧b≤I.fw):xCall T 611 [.ptr (some (I.fl,0)),.int .i64 i] ⟨H,b,w⟩ =
  some (if F.lim≤x then (.int .i64 4,⟨H,b,w⟩) else (.int .i64 0,⟨(H.set I.fw (.cells 1 ((F.w.set i (x+1)).map natV))).set I.fb (.cells 1 ((eraseB F i).map u8V)),b,min w (min I.fw I.fb)⟩)):=by
 have hf:=h.f;unfold Fl.cells at hf;have hw:=h.w;have hfb:=h.b;have hil:=ah hx;have hwl:=h.wl;have hn:=h.nb.1;have hzb:=h.nb.2;have hlb:=h.lb;have hxb:=h.wb x (bn hx);have ht:=h.total;have hbl:=h.bl;have hne:=h.ne;have h568:=fun (x lo hi:Int) w=>s568 (H:=H) (b:=b) (w:=w) (x:=x) (lo:=lo) (hi:=hi)
 have hg:(F.w.map natV)[i]? = some (.int .i64 x):=by rw [bk,hx]; rfl
 have hl:(F.w.map natV).length=F.n:=by rw [bh]; exact hwl
 have q1:((0:Int)≤i):=by omega
 have q2:((i:Int)≤(F.n:Int) - 1):=by omega
 have hfll:=ah hf;have hfbl:=ah hfb;have hfwl:=ah hw
 have hin:i*F.z+F.z≤F.b.length:=by
  rw [hbl]
  calc i*F.z+F.z=(i+1)*F.z:=by rw [Nat.succ_mul]
   _≤F.n*F.z:=ii _ (by omega)
 have hms:(F.w.map natV).set i (.int .i64 ((x:Int)+1))=(F.w.set i (x+1)).map natV:=by rw [List.map_set]; rfl
 rw [← m9 _ (by omega)] at hms;by_cases hc:F.lim≤x
 ·rw [if_pos hc];generalize F.w.map natV=Y at hw hg hl hms;simp (disch:=omega) [bc t611,code611,hf,hw,hg,hl,hwl,h568,q1,q2,hc]
 ·rw [if_neg hc];have hf1:(H.set I.fw (.cells 1 ((F.w.set i (x+1)).map natV)))[I.fl]? = H[I.fl]?:=av (fun e=>h.nes.2 e.symm);have hfb1:(H.set I.fw (.cells 1 ((F.w.set i (x+1)).map natV)))[I.fb]? = some (.cells 1 (F.b.map u8V)):=by rw [av (fun e=>hne e.symm)]; exact hfb
  have hgd:I.cb.getD F.b.length=F.b.length:=by
   cases hc:I.cb with
   | none=>rfl
   | some x=>rw [gh]; exact h.cbo x hc
  have A1:FlA (H.set I.fw (.cells 1 ((F.w.set i (x+1)).map natV))) I { F with w:=F.w.set i (x+1) }:=by
   refine ⟨?_,hfb1,jr hw,hbl,by rw [bf]; exact hwl,h.nb,hlb,?_,hne,h.cbo,fun c hc=>by rw [bf]; exact h.cwo c hc⟩
   ·rw [hf1,h.f];unfold Fl.cells;simp only [bf]
   ·intro y hy;rcases List.mem_or_eq_of_mem_set hy with h1 | h1
    ·exact h.wb y h1
    ·omega
  have h582:=fun w n=>s582 (b:=b) (w:=w) (n:=n) A1
  rw [hf] at hf1;generalize F.w.map natV=Y at hw hg hl hms;generalize (F.w.set i (x+1)).map natV=Y' at *;have hlp:=fun {β:Type} (ca:Option Nat) (y:AVal) w (k:AExit→St→Option β)=>l611 (b:=b) (H:=H.set I.fw (.cells 1 Y')) (fl:=I.fl) (ca:=ca) (y:=y) hfb1 hin hbw.1 (by omega) F.z 0 w (by omega) k
  have hsp:spliceB F.b (i*F.z) (List.replicate 0 255)=F.b:=by unfold spliceB; simp
  rw [hsp] at hlp;have hss:(H.set I.fw (.cells 1 Y')).set I.fb (.cells 1 (F.b.map u8V))=H.set I.fw (.cells 1 Y'):=pt hfb1;rw [hss] at hlp;simp only [ba] at hlp;have hmi:(i:Int)*(F.z:Int)=((i*F.z:Nat):Int):=(Int.natCast_mul i F.z).symm;unfold eraseB;have hz0:¬ F.z=0:=by omega
  generalize i*F.z=q at *;cases hcb:I.cb with
  | none =>
   rw [hcb] at hf hf1;simp (disch:=omega) [bc t611,code611,hf,hw,hg,hl,hwl,h568,q1,q2,hc,hms,hf1,hfb1,h582,hlp,hgd,hz0,hmi]
  | some cc =>
   obtain rfl:=h.cbo _ hcb;rw [hcb] at hf hf1;have hd1:¬ F.b.length=q:=by omega
   have hd2:F.z≤F.b.length - q:=by omega
   simp (disch:=omega) [bc t611,code611,hf,hw,hg,hl,hwl,h568,q1,q2,hc,hms,hf1,hfb1,h582,hlp,hgd,hz0,hmi,hd1,hd2]
end
end
end Go.Abs.AbsBlb

namespace Go.Abs.AbsBlb
open Go.Abs.Short
section
variable {H:List AObj} {b w:Nat}
def xorI (k:IntKind) (x y:Int):Int:=k.wrap (BitVec.ofInt k.bits x ^^^ BitVec.ofInt k.bits y).toNat
def andI (k:IntKind) (x y:Int):Int:=k.wrap (BitVec.ofInt k.bits x &&& BitVec.ofInt k.bits y).toNat
def orI (k:IntKind) (x y:Int):Int:=k.wrap (BitVec.ofInt k.bits x ||| BitVec.ofInt k.bits y).toNat
theorem qp (k:IntKind) (x y:Int):aBits .xor k x y=some (.int k (xorI k x y)):=rfl
theorem xf (k:IntKind) (x y:Int):aBits .and k x y=some (.int k (andI k x y)):=rfl
theorem aBits_or (k:IntKind) (x y:Int):aBits .or k x y=some (.int k (orI k x y)):=rfl
def step16 (s:Int):Int:=xorI .u16 (IntKind.u16.wrap (s*2 ^ min 1 IntKind.u16.bits)) (andI .u16 4129 (IntKind.u16.wrap (-s.fdiv (2 ^ min 15 IntKind.u16.bits))))
def step32 (s:Int):Int:=xorI .u32 (s.fdiv (2 ^ min 1 IntKind.u32.bits)) (andI .u32 2197175160 (IntKind.u32.wrap (-andI .u32 s 1)))
def times (f:Int→Int):Nat→Int→Int
 | 0,s=>s
 | n+1,s=>times f n (f s)
def tab16 (i:Int):Int:=times step16 8 (IntKind.u16.wrap (IntKind.u16.wrap i*2 ^ min 8 IntKind.u16.bits))
def tab32 (i:Int):Int:=times step32 8 (IntKind.u32.wrap i)
def tabV (k:IntKind) (f:Int→Int) (i:Nat):List AVal:=(List.range i).map (fun j:Nat=>AVal.int k (f (j:Int)))++List.replicate (256 - i) (.int k 0)
theorem idsL_none:∀ {L:List AVal},(∀ x ∈ L,x.ids=[])→AVal.idsL L=[]
 | [],_=>rfl
 | x :: L,h=>by unfold AVal.idsL;rw [h x (bg ..),idsL_none fun y hy=>h y (bj _ hy)]; rfl
theorem renL_none {f:Nat→Nat}:∀ {L:List AVal},(∀ x ∈ L,x.ren f=x)→AVal.renL f L=L
 | [],_=>rfl
 | x :: L,h=>by unfold AVal.renL;rw [h x (bg ..),renL_none fun y hy=>h y (bj _ hy)]
theorem zba {k:IntKind} {f:Int→Int} {i:Nat} {x:AVal} (h:x ∈ tabV k f i):∃ n,x = .int k n:=by
 unfold tabV at h;rcases bw.1 h with h | h
 ·obtain ⟨j,-,rfl⟩:=cq.1 h;exact ⟨_,rfl⟩
 ·exact ⟨_,List.eq_of_mem_replicate h⟩
theorem tabV_ids {k:IntKind} {f:Int→Int} {i:Nat}:AVal.idsL (tabV k f i)=[]:=idsL_none fun x hx=>by obtain ⟨n,rfl⟩:=zba hx; rfl
theorem tabV_ren {k:IntKind} {f:Int→Int} {i:Nat} (g:Nat→Nat):AVal.renL g (tabV k f i)=tabV k f i:=renL_none fun x hx=>by obtain ⟨n,rfl⟩:=zba hx; rfl
theorem yu {n:Nat}:∀ {L:List AVal},(∀ x ∈ L,x.under n=true)→AVal.unders n L=true
 | [],_=>rfl
 | x :: L,h=>by unfold AVal.unders;rw [h x (bg ..),yu fun y hy=>h y (bj _ hy)]; rfl
theorem zbb {k:IntKind} {f:Int→Int} {i n:Nat}:AVal.unders n (tabV k f i)=true:=yu fun x hx=>by obtain ⟨n,rfl⟩:=zba hx; rfl
theorem o0 {k:IntKind} {f:Int→Int} {i:Nat} (h:i≤256):(tabV k f i).length=256:=by unfold tabV;rw [aq,bh,kr,br]; omega
theorem tabV_set {k:IntKind} {f:Int→Int} {i:Nat} (h:i < 256):(tabV k f i).set i (.int k (f i))=tabV k f (i+1):=by
 unfold tabV;have h1:((List.range i).map (fun j:Nat=>AVal.int k (f (j:Int)))).length=i:=by rw [bh,kr]
 rw [qv _ _ (by omega),h1,mw,show 256 - i=256 - (i+1)+1 from by omega,ue,List.set_cons_zero,List.range_succ,ic,az];rfl
theorem tabV_get {k:IntKind} {f:Int→Int} {i:Nat} (h:i < 256):(tabV k f 256)[i]? = some (.int k (f i)):=by unfold tabV;rw [ag (by rw [bh,kr]; exact h),bk,ai (by rw [kr]; exact h),List.getElem_range]; rfl
section
attribute [-simp] getElem?_pos getElem?_neg List.all_eq_true
attribute [local simp] qZ qS nltT nltF iltT iltF ileT nleT el
theorem l631 {x0 x1:List AVal} {i:Int}:∀ (j c w:Nat) (s:Int),c+j=8→∀ {β:Type} (k:AExit→St→Option β),
  xK T (.loop code631L0) ⟨[(0,.var x0),(1,.var x1),(2,.val (.int .i64 i)),(3,.val (.int .u16 s)),(4,.val (.int .i64 i)),(10,.val (.int .i64 c))],⟨H,b,w⟩⟩ (k:=⟨k⟩) =
   k (.exit 2) ⟨[(0,.var x0),(1,.var x1),(2,.val (.int .i64 i)),(3,.val (.int .u16 (times step16 j s))),(4,.val (.int .i64 i))],⟨H,b,w⟩⟩
 | 0,c,w,s,hi,β,k=>by
  obtain rfl:c=8:=by omega
  rw [cd];simp (disch:=omega) [code631L0,times]
 | j+1,c,w,s,hi,β,k=>by
  have ih:=l631 (x0:=x0) (x1:=x1) (i:=i) j (c+1) w (step16 s) (by omega) k;have e2:((c+1:Nat):Int)=(c:Int)+1:=by omega
  rw [e2] at ih;rw [cd,times,← ih];generalize ACode.loop code631L0=LL;simp (disch:=omega) [code631L0,qp,xf,step16]
theorem l631b {x0:List AVal}:∀ (j i w:Nat),i+j=256→∀ {β:Type} (k:AExit→St→Option β),
  xK T (.loop code631L1) ⟨[(0,.var x0),(1,.var (tabV .u16 tab16 i)),(4,.val (.int .i64 i))],⟨H,b,w⟩⟩ (k:=⟨k⟩) =
   k (.exit 0) ⟨[(0,.var x0),(1,.var (tabV .u16 tab16 256))],⟨H,b,w⟩⟩
 | 0,i,w,hi,β,k=>by
  obtain rfl:i=256:=by omega
  rw [cd];simp (disch:=omega) [code631L1]
 | j+1,i,w,hi,β,k=>by
  have ih:=l631b (x0:=x0) j (i+1) w (by omega) k;have e2:((i+1:Nat):Int)=(i:Int)+1:=by omega
  have h0:=fun {β:Type} w s (k:AExit→St→Option β)=>l631 (H:=H) (b:=b) (x0:=x0) (x1:=tabV .u16 tab16 i) (i:=i) 8 0 w s rfl k
  simp only [ba] at h0;rw [e2] at ih;have hs:=tabV_set (k:=.u16) (f:=tab16) (i:=i) (by omega);have hl:=o0 (k:=.u16) (f:=tab16) (i:=i) (by omega);rw [← m9 _ (by omega)] at hs;rw [cd,← ih];generalize ACode.loop code631L1=LL;generalize tabV .u16 tab16 i=Y at *;generalize tabV .u16 tab16 (i+1)=Y' at *;have ht:tab16 i=times step16 8 (IntKind.u16.wrap (IntKind.u16.wrap (i:Int)*2 ^ min 8 IntKind.u16.bits)):=rfl;rw [ht] at hs;simp (disch:=omega) [code631L1,h0,hl,hs]
theorem s631:xCall T 631 [] ⟨H,b,w⟩=some (.agg (tabV .u16 tab16 256),⟨H,b,w⟩):=by
 have h0:=fun {β:Type} x0 w (k:AExit→St→Option β)=>l631b (H:=H) (b:=b) (x0:=x0) 256 0 w (by omega) k
 have ht:tabV .u16 tab16 0=List.replicate 256 (.int .u16 0):=rfl;rw [ht] at h0;simp only [ba] at h0;have hr:(tabV .u16 tab16 256).length=256:=o0 (by omega);have hi:AVal.idsL (tabV .u16 tab16 256)=[]:=tabV_ids;have hu:=fun n=>zbb (k:=.u16) (f:=tab16) (i:=256) (n:=n)
 have ht:(tabV .u16 tab16 256).take 256=tabV .u16 tab16 256:=ew (by omega);have hn:=fun g=>tabV_ren (k:=.u16) (f:=tab16) (i:=256) g
 have hl:(List.replicate 256 (AVal.int .u16 0)).length=256:=br;generalize tabV .u16 tab16 256=Y at *;simp (disch:=omega) [bc t631,code631,h0,hr,hi,hn,hl,hu,ht,-List.reduceReplicate]
theorem l626 {x0 x1:List AVal} {i:Int}:∀ (j c w:Nat) (s:Int),c+j=8→∀ {β:Type} (k:AExit→St→Option β),
  xK T (.loop code626L0) ⟨[(0,.var x0),(1,.var x1),(2,.val (.int .i64 i)),(3,.val (.int .u32 s)),(4,.val (.int .i64 i)),(9,.val (.int .i64 c))],⟨H,b,w⟩⟩ (k:=⟨k⟩) =
   k (.exit 2) ⟨[(0,.var x0),(1,.var x1),(2,.val (.int .i64 i)),(3,.val (.int .u32 (times step32 j s))),(4,.val (.int .i64 i))],⟨H,b,w⟩⟩
 | 0,c,w,s,hi,β,k=>by
  obtain rfl:c=8:=by omega
  rw [cd];simp (disch:=omega) [code626L0,times]
 | j+1,c,w,s,hi,β,k=>by
  have ih:=l626 (x0:=x0) (x1:=x1) (i:=i) j (c+1) w (step32 s) (by omega) k;have e2:((c+1:Nat):Int)=(c:Int)+1:=by omega
  rw [e2] at ih;rw [cd,times,← ih];generalize ACode.loop code626L0=LL;simp (disch:=omega) [code626L0,qp,xf,step32]
theorem l626b {x0:List AVal}:∀ (j i w:Nat),i+j=256→∀ {β:Type} (k:AExit→St→Option β),
  xK T (.loop code626L1) ⟨[(0,.var x0),(1,.var (tabV .u32 tab32 i)),(4,.val (.int .i64 i))],⟨H,b,w⟩⟩ (k:=⟨k⟩) =
   k (.exit 0) ⟨[(0,.var x0),(1,.var (tabV .u32 tab32 256))],⟨H,b,w⟩⟩
 | 0,i,w,hi,β,k=>by
  obtain rfl:i=256:=by omega
  rw [cd];simp (disch:=omega) [code626L1]
 | j+1,i,w,hi,β,k=>by
  have ih:=l626b (x0:=x0) j (i+1) w (by omega) k;have e2:((i+1:Nat):Int)=(i:Int)+1:=by omega
  have h0:=fun {β:Type} w s (k:AExit→St→Option β)=>l626 (H:=H) (b:=b) (x0:=x0) (x1:=tabV .u32 tab32 i) (i:=i) 8 0 w s rfl k
  simp only [ba] at h0;rw [e2] at ih;have hs:=tabV_set (k:=.u32) (f:=tab32) (i:=i) (by omega);have hl:=o0 (k:=.u32) (f:=tab32) (i:=i) (by omega);rw [← m9 _ (by omega)] at hs;rw [cd,← ih];generalize ACode.loop code626L1=LL;generalize tabV .u32 tab32 i=Y at *;generalize tabV .u32 tab32 (i+1)=Y' at *;have ht:tab32 i=times step32 8 (IntKind.u32.wrap (i:Int)):=rfl;rw [ht] at hs;simp (disch:=omega) [code626L1,h0,hl,hs]
theorem s626:xCall T 626 [] ⟨H,b,w⟩=some (.agg (tabV .u32 tab32 256),⟨H,b,w⟩):=by
 have h0:=fun {β:Type} x0 w (k:AExit→St→Option β)=>l626b (H:=H) (b:=b) (x0:=x0) 256 0 w (by omega) k
 have ht:tabV .u32 tab32 0=List.replicate 256 (.int .u32 0):=rfl;rw [ht] at h0;simp only [ba] at h0;have hr:(tabV .u32 tab32 256).length=256:=o0 (by omega);have hi:AVal.idsL (tabV .u32 tab32 256)=[]:=tabV_ids;have hu:=fun n=>zbb (k:=.u32) (f:=tab32) (i:=256) (n:=n)
 have ht:(tabV .u32 tab32 256).take 256=tabV .u32 tab32 256:=ew (by omega);have hn:=fun g=>tabV_ren (k:=.u32) (f:=tab32) (i:=256) g
 have hl:(List.replicate 256 (AVal.int .u32 0)).length=256:=br;generalize tabV .u32 tab32 256=Y at *;simp (disch:=omega) [bc t626,code626,h0,hr,hi,hn,hl,hu,ht,-List.reduceReplicate]
end
def SlB (H:List AObj) (p o n:Nat) (l:Bs):Prop:=l.length=n∧∃ X,H[p]? = some (.cells 1 X)∧(X.drop o).take n=l.map u8V
theorem SlB.get {p o n i:Nat} {l:Bs} {x:UInt8} (h:SlB H p o n l) (hx:l[i]? = some x):∃ X,H[p]? = some (.cells 1 X)∧X[o+i]? = some (.int .u8 x.toNat):=by
 obtain ⟨hl,X,hp,hX⟩:=h;refine ⟨X,hp,?_⟩;have h1:((X.drop o).take n)[i]? = some (u8V x):=by rw [hX,bk,hx]; rfl
 rw [fh,if_pos (by have:=ah hx; omega),ef] at h1;exact h1
theorem xor_u8 (x y:Int):∃ m:Nat,m < 256∧xorI .u8 x y=m:=by refine ⟨(BitVec.ofInt 8 x ^^^ BitVec.ofInt 8 y).toNat,(BitVec.ofInt 8 x ^^^ BitVec.ofInt 8 y).isLt,?_⟩;have h:(BitVec.ofInt 8 x ^^^ BitVec.ofInt 8 y).toNat < 256:=(BitVec.ofInt 8 x ^^^ BitVec.ofInt 8 y).isLt;show IntKind.u8.wrap ((BitVec.ofInt 8 x ^^^ BitVec.ofInt 8 y).toNat:Int)=_;generalize (BitVec.ofInt 8 x ^^^ BitVec.ofInt 8 y).toNat=m at *;unfold IntKind.wrap;show (if (false && _)=true then _ else ((m:Int) % 2 ^ 8))=_;simp;omega
def up16 (s:Int) (c:UInt8):Int:=xorI .u16 (IntKind.u16.wrap (s*2 ^ min 8 IntKind.u16.bits)) (tab16 (xorI .u8 (IntKind.u8.wrap (s.fdiv (2 ^ min 8 IntKind.u16.bits))) c.toNat))
def up32 (s:Int) (c:UInt8):Int:=xorI .u32 (s.fdiv (2 ^ min 8 IntKind.u32.bits)) (tab32 (xorI .u8 (IntKind.u8.wrap s) c.toNat))
section
attribute [-simp] getElem?_pos getElem?_neg List.all_eq_true
attribute [local simp] qZ qS nltT nltF iltT iltF ileT nleT el
theorem l620 {p o n:Nat} {c:Option Nat} {l:Bs} (hl:SlB H p o n l) (hn:0 < n) (hb:n≤1000000000):∀ (j i w:Nat) (s:Int),i+j=n→∀ {β:Type} (k:AExit→St→Option β),
  xK T (.loop code620L0) ⟨[(0,.val (.int .u16 s)),(5,.var (tabV .u16 tab16 256)),(9,.val (.slice (some (p,o)) n c)),(10,.val (.int .i64 n)),(11,.val (.int .i64 i))],⟨H,b,w⟩⟩ (k:=⟨k⟩) =
   k (.exit 0) ⟨[(0,.val (.int .u16 ((l.drop i).foldl up16 s)))],⟨H,b,w⟩⟩
 | 0,i,w,s,hi,β,k=>by have hd:l.drop i=[]:=co (by have:=hl.1; omega);rw [hd,cd];simp only [List.foldl_nil];simp (disch:=omega) [code620L0]
 | j+1,i,w,s,hi,β,k=>by
  obtain ⟨x,hx⟩:∃ x,l[i]? = some x:=⟨_,ai (by have:=hl.1; omega)⟩;obtain ⟨X,hp,g1⟩:=hl.get hx;have hxl:=ah g1;have e2:((i+1:Nat):Int)=(i:Int)+1:=by omega
  obtain ⟨m,hm,hmx⟩:=xor_u8 (IntKind.u8.wrap (s.fdiv (2 ^ min 8 IntKind.u16.bits))) x.toNat;have ih:=l620 (c:=c) hl hn hb j (i+1) w (up16 s x) (by omega) k;rw [e2] at ih;have htg:=tabV_get (k:=.u16) (f:=tab16) hm;have htl:=o0 (k:=.u16) (f:=tab16) (i:=256) (by omega);have hup:xorI .u16 (IntKind.u16.wrap (s*2 ^ min 8 IntKind.u16.bits)) (tab16 m)=up16 s x:=by unfold up16; rw [hmx]
  rw [ie hx,kz,cd,← ih,← hup];generalize ACode.loop code620L0=LL;generalize tabV .u16 tab16 256=Y at *;simp (disch:=omega) [code620L0,hp,g1,hxl,qp,hmx,htg,htl]
theorem l613 {p o n:Nat} {c:Option Nat} {l:Bs} (hl:SlB H p o n l) (hn:0 < n) (hb:n≤1000000000):∀ (j i w:Nat) (s:Int),i+j=n→∀ {β:Type} (k:AExit→St→Option β),
  xK T (.loop code613L0) ⟨[(3,.var (tabV .u32 tab32 256)),(4,.val (.int .u32 s)),(8,.val (.slice (some (p,o)) n c)),(9,.val (.int .i64 n)),(10,.val (.int .i64 i))],⟨H,b,w⟩⟩ (k:=⟨k⟩) =
   k (.exit 0) ⟨[(4,.val (.int .u32 ((l.drop i).foldl up32 s)))],⟨H,b,w⟩⟩
 | 0,i,w,s,hi,β,k=>by have hd:l.drop i=[]:=co (by have:=hl.1; omega);rw [hd,cd];simp only [List.foldl_nil];simp (disch:=omega) [code613L0]
 | j+1,i,w,s,hi,β,k=>by
  obtain ⟨x,hx⟩:∃ x,l[i]? = some x:=⟨_,ai (by have:=hl.1; omega)⟩;obtain ⟨X,hp,g1⟩:=hl.get hx;have hxl:=ah g1;have e2:((i+1:Nat):Int)=(i:Int)+1:=by omega
  obtain ⟨m,hm,hmx⟩:=xor_u8 (IntKind.u8.wrap s) x.toNat;have ih:=l613 (c:=c) hl hn hb j (i+1) w (up32 s x) (by omega) k;rw [e2] at ih;have htg:=tabV_get (k:=.u32) (f:=tab32) hm;have htl:=o0 (k:=.u32) (f:=tab32) (i:=256) (by omega);have hup:xorI .u32 (s.fdiv (2 ^ min 8 IntKind.u32.bits)) (tab32 m)=up32 s x:=by unfold up32; rw [hmx]
  rw [ie hx,kz,cd,← ih,← hup];generalize ACode.loop code613L0=LL;generalize tabV .u32 tab32 256=Y at *;simp (disch:=omega) [code613L0,hp,g1,hxl,qp,hmx,htg,htl]
end
def sum16 (l:Bs):Int:=l.foldl up16 65535
def sum32 (l:Bs):Int:=xorI .u32 IntKind.u32.max (l.foldl up32 4294967295)
section
attribute [-simp] getElem?_pos getElem?_neg List.all_eq_true
attribute [local simp] qZ qS nltT nltF iltT iltF ileT nleT el
theorem s620 {p o n:Nat} {c:Option Nat} {l:Bs} {s:Int} (hl:SlB H p o n l) (hn:0 < n) (hb:n≤1000000000):xCall T 620 [.int .u16 s,.slice (some (p,o)) n c] ⟨H,b,w⟩=some (.int .u16 (l.foldl up16 s),⟨H,b,w⟩):=by
 have h0:=fun {β:Type} w (k:AExit→St→Option β)=>l620 (b:=b) (c:=c) hl hn hb n 0 w s (by omega) k
 simp only [ba,eq] at h0;have h631:=fun w=>s631 (H:=H) (b:=b) (w:=w)
 have hr:(tabV .u16 tab16 256).length=256:=o0 (by omega);have ht:(tabV .u16 tab16 256).take 256=tabV .u16 tab16 256:=ew (by omega);have hl:(List.replicate 256 (AVal.int .u16 0)).length=256:=br;generalize tabV .u16 tab16 256=Y at *;simp (disch:=omega) [bc t620,code620,h0,h631,hr,ht,hl,-List.reduceReplicate]
theorem s602 {p o n:Nat} {c:Option Nat} {l:Bs} (hl:SlB H p o n l) (hn:0 < n) (hb:n≤1000000000):xCall T 602 [.slice (some (p,o)) n c] ⟨H,b,w⟩=some (.int .u16 (sum16 l),⟨H,b,w⟩):=by
 have h620:=fun w=>s620 (b:=b) (w:=w) (c:=c) (s:=65535) hl hn hb
 simp (disch:=omega) [bc t602,code602,h620,sum16]
theorem s613 {p o n:Nat} {c:Option Nat} {l:Bs} (hl:SlB H p o n l) (hn:0 < n) (hb:n≤1000000000):xCall T 613 [.slice (some (p,o)) n c] ⟨H,b,w⟩=some (.int .u32 (sum32 l),⟨H,b,w⟩):=by
 have h0:=fun {β:Type} w (k:AExit→St→Option β)=>l613 (b:=b) (c:=c) hl hn hb n 0 w 4294967295 (by omega) k
 simp only [ba,eq] at h0;have h626:=fun w=>s626 (H:=H) (b:=b) (w:=w)
 have hr:(tabV .u32 tab32 256).length=256:=o0 (by omega);have ht:(tabV .u32 tab32 256).take 256=tabV .u32 tab32 256:=ew (by omega);have hl:(List.replicate 256 (AVal.int .u32 0)).length=256:=br;generalize tabV .u32 tab32 256=Y at *;have hsg:IntKind.u32.signed=false:=rfl;simp (disch:=omega) [bc t613,code613,h0,h626,hr,ht,hl,qp,sum32,hsg,-List.reduceReplicate]
end
end
end Go.Abs.AbsBlb

namespace Go.Abs
def FieldU.fits (x:FieldU):Prop:=x.name.length≤ja∧x.desc.length≤ja
def InsU.fits (x:InsU):Prop:=x.cls.length≤ja∧x.name.length≤ja∧x.desc.length≤ja∧x.text.length≤ja
def TrapU.fits (x:TrapU):Prop:=x.cls.length≤ja
structure MapU.fits (x:MapU):Prop where
 l:x.locals.length≤ja
 s:x.stack.length≤ja
 ls:∀ t ∈ x.locals,t.length≤ja
 ss:∀ t ∈ x.stack,t.length≤ja
structure MethU.fits (m:MethU):Prop where
 name:m.name.length≤ja
 desc:m.desc.length≤ja
 c:m.code.length≤ja
 cs:∀ x ∈ m.code,x.fits
 t:m.traps.length≤ja
 ts:∀ x ∈ m.traps,x.fits
 x:m.maps.length≤ja
 xs:∀ x ∈ m.maps,x.fits
structure UnitU.cap (u:UnitU):Prop where
 f:∀ k,u.fc=some k→u.fields.length≤k
 m:∀ k,u.mc=some k→u.meths.length≤k
structure UnitU.fits (u:UnitU):Prop where
 name:u.name.length≤ja
 super:u.super.length≤ja
 f:u.fields.length≤ja
 fs:∀ x ∈ u.fields,x.fits
 m:u.meths.length≤ja
 ms:∀ x ∈ u.meths,x.fits
 cap:u.cap
section
variable {os:List AObj} {b w:Nat} {d:Dat} {cs:List AVal}
end
end Go.Abs

namespace Go.Abs
def renA (f:Nat→Nat):Option (Nat × Nat)→Option (Nat × Nat)
 | none=>none
 | some (i,o)=>some (f i,o)
theorem ren_sl (f:Nat→Nat) (a:Option (Nat × Nat)) (n:Nat) (c:Option Nat):(AVal.slice a n c).ren f = .slice (renA f a) n c:=by
 cases a with
 | none=>simp [AVal.ren,renA]
 | some p=>obtain ⟨i,o⟩:=p; simp [AVal.ren,renA]
theorem mt (f:Nat→Nat):∀ l:List AVal,AVal.renL f l=l.map (AVal.ren f)
 | []=>rfl
 | a :: l=>by simp only [AVal.renL,bo,mt f l]
theorem qr:∀ l:List AVal,AVal.idsL l=l.flatMap AVal.ids
 | []=>rfl
 | a :: l=>by simp only [AVal.idsL,fq,qr l]
structure Moves (f:Nat→Nat) (I:Nat→Prop) (n:Nat) (O O':List AObj):Prop where
 at':∀ i obj,I i→O[i]? = some obj→O'[f i]? = some (obj.ren f)
 cl:∀ i obj,I i→O[i]? = some obj→∀ j ∈ obj.ids,n≤j→I j
 up:∀ i,n≤i→n≤f i
section
variable {f:Nat→Nat} {I:Nat→Prop} {n:Nat} {O O':List AObj}
def over (n:Nat) (a:Option (Nat × Nat)):Prop:=∀ i o,a=some (i,o)→n≤i
def inI (I:Nat→Prop) (a:Option (Nat × Nat)):Prop:=∀ i o,a=some (i,o)→I i
def MapU.ren (f:Nat→Nat) (x:MapU):MapU:={ x with la:=renA f x.la,sa:=renA f x.sa }
def MethU.ren (f:Nat→Nat) (m:MethU):MethU:={ m with ca:=renA f m.ca,ta:=renA f m.ta,maps:=m.maps.map (MapU.ren f),xa:=renA f m.xa }
def UnitU.ren (f:Nat→Nat) (u:UnitU):UnitU:={ u with fa:=renA f u.fa,meths:=u.meths.map (MethU.ren f),ma:=renA f u.ma }
structure MapU.over (n:Nat) (x:MapU):Prop where
 l:Go.Abs.over n x.la
 s:Go.Abs.over n x.sa
structure MethU.over (n:Nat) (m:MethU):Prop where
 c:Go.Abs.over n m.ca
 t:Go.Abs.over n m.ta
 x:Go.Abs.over n m.xa
 xs:∀ x ∈ m.maps,x.over n
structure UnitU.over (n:Nat) (u:UnitU):Prop where
 f:Go.Abs.over n u.fa
 m:Go.Abs.over n u.ma
 ms:∀ m ∈ u.meths,m.over n
theorem zbi {i:Nat}:∀ {k:List Nat},i ∈ k→idxIn i k < k.length∧k[idxIn i k]? = some i
 | j :: k,h=>by
  by_cases e:j=i
  ·simp [idxIn,e]
  ·have:=zbi (k:=k) ((dy.1 h).resolve_left fun x=>e x.symm);simp only [idxIn,e,if_false,bt,List.getElem?_cons_succ];exact ⟨by omega,this.2⟩
theorem tm {h:Heap} {n0:Nat}:∀ (fu:Nat) (l acc:List Nat),(∀ i ∈ acc,n0≤i)→∀ i ∈ reach h n0 fu l acc,n0≤i
 | 0,l,acc,ha=>ha
 | _+1,[],acc,ha=>ha
 | fu+1,i :: r,acc,ha=>by
  unfold reach;split
  ·exact tm fu r acc ha
  ·split
   ·exact tm fu r acc ha
   ·exact tm fu _ _ fun j hj=>by
     rcases bw.1 hj with hj | hj
     ·exact ha j hj
     ·rw [bq.1 hj]; omega
theorem finish_cases {h0 h:Heap} {v:AVal} (hv:v.under h0.size=false) :
  (∃ w,dk h0 v h=(v,⟨h.objs,h.base,w⟩)∧(w=min h0.wmin h.wmin∨(w=h0.wmin∧h0.size≤h.wmin))) ∨
  (h0.size≤h.wmin∧∃ f I X,dk h0 v h=(v.ren f,⟨h0.objs++X,h0.base,h0.wmin⟩)∧Moves f I h0.size h.objs (h0.objs++X)∧(∀ j ∈ v.ids,h0.size≤j→I j)):=by
 unfold dk;by_cases hw:h.wmin < h0.size
 ·rw [if_pos hw]; exact .inl ⟨_,rfl,.inl rfl⟩
 ·rw [if_neg hw,hv];simp only [de,if_false];generalize hk:reach h h0.size 1000 v.ids []=k;have hge:∀ i ∈ k,h0.size≤i:=by rw [← hk]; exact tm _ _ _ (by simp)
  split
  ·rename_i hok;refine .inr ⟨by omega,fun i=>if i < h0.size then i else h0.size+idxIn i k,fun i=>i ∈ k,_,rfl,⟨fun i obj hi ho=>?_,fun i obj hi ho j hj hn=>?_,fun i hi=>?_⟩,fun j hj hn=>?_⟩
   ·have h1:=hge i hi;obtain ⟨h2,h3⟩:=zbi hi;have h4:¬ i < h0.size:=by omega
    simp only [if_neg h4];have h5:h0.size=h0.objs.length:=rfl;rw [h5,aw (by omega),ji,bk,h3];have h6:h.get i=some obj:=ho;simp only [b9,h6,gh]
   ·rw [au] at hok;have h6:h.get i=some obj:=ho;have:=hok j (gc _ (dz.2 ⟨i,hi,by rw [h6]; exact hj⟩));simp only [dt,decide_eq_true_eq] at this;rcases this with h7 | h7
    ·omega
    ·simpa using h7
   ·show h0.size≤if i < h0.size then i else h0.size+idxIn i k
    rw [if_neg (by omega)]; omega
   ·rw [au] at hok;have:=hok j (e9 _ hj);simp only [dt,decide_eq_true_eq] at this;rcases this with h7 | h7
    ·omega
    ·simpa using h7
  ·exact .inl ⟨_,rfl,.inr ⟨rfl,by omega⟩⟩
end
end Go.Abs

namespace Go.Abs
variable {α:Type} {e:Nat} {f:α→List AVal} {O P:List AObj} {A:List α} {v:AVal} {b:Nat}
structure Acc (e:Nat) (f:α→List AVal) (O:List AObj) (A:List α) (P:List AObj) (v:AVal):Prop where
 pre:Pre O P
 val:(A=[]∧v = .slice none 0 (some 0))∨(A≠[]∧∃ i,O.length≤i∧v = .slice (some (i,0)) A.length none∧P[i]? = some (.cells e (A.flatMap f)))
def newV (n:Nat) (A:List α):AVal:=if A=[] then .slice none 0 (some 0) else .slice (some (n,0)) A.length none
def newO (e:Nat) (f:α→List AVal) (O:List AObj) (A:List α):List AObj:=if A=[] then O else O++[.cells e (A.flatMap f)]
def Keeps (P P':List AObj) (n:Nat) (v:AVal):Prop:=∀ (k:Nat) (o:AObj),P[k]? = some o→v ≠ .slice (some (k,0)) n none→P'[k]? = some o
theorem idsL_none {L:List AVal} (h:∀ x ∈ L,x.ids=[]):AVal.idsL L=[]:=by rw [qr,List.flatMap_eq_nil_iff]; exact h
theorem renL_none {g:Nat→Nat} {L:List AVal} (h:∀ x ∈ L,x.ren g=x):AVal.renL g L=L:=by
 rw [mt];conv=>rhs; rw [← List.map_id L]
 exact List.map_congr_left h
end Go.Abs

namespace Go.Abs.AbsBlb
open Go.Abs.Short
section
variable {H:List AObj} {b w:Nat}
def byteB (v k i:Nat):UInt8:=UInt8.ofNat (v / 2 ^ (8*(k - 1 - i)))
def putB (v k:Nat):Bs:=(List.range k).map (byteB v k)
theorem gb (v k:Nat):(putB v k).length=k:=by unfold putB; rw [bh,kr]
def PS (H:List AObj) (p o n:Nat) (l:Bs) (v k i:Nat) (P:List AObj) (x:AVal):Prop :=
 Pre H P∧((i=0∧x = .slice (some (p,o)) n (some n))∨∃ q,H.length≤q∧x = .slice (some (q,0)) (n+i) none∧P[q]? = some (.cells 1 ((l++(putB v k).take i).map u8V)))
theorem SlB.row {p o n:Nat} {l:Bs} (h:SlB H p o n l) (hn:0 < n) (c:Option Nat):iw 1 ⟨H,b,w⟩ (.slice (some (p,o)) n c)=some (l.map u8V):=by
 obtain ⟨hl,X,hp,hX⟩:=h;have hnn:¬ n=0:=by omega
 unfold iw;simp only [Heap.get,hp,hnn,if_false,r0]
 have:o+n≤X.length:=by have:=congrArg List.length hX;rw [dh,gg,bh] at this;omega
 simp [this,hX]
theorem SlB.mono {H':List AObj} {p o n:Nat} {l:Bs} (h:SlB H p o n l) (hk:∀ o,H[p]? = some o→H'[p]? = some o):SlB H' p o n l:=by obtain ⟨hl,X,hp,hX⟩:=h;exact ⟨hl,X,hk _ hp,hX⟩
theorem SlB.whole {q n:Nat} {l:Bs} (h:H[q]? = some (.cells 1 (l.map u8V))) (hn:l.length=n):SlB H q 0 n l:=by refine ⟨hn,_,h,?_⟩;rw [eq,ew (by rw [bh]; omega)]
theorem PS.add {p o n v k i:Nat} {l:Bs} {P:List AObj} {x:AVal} (hl:SlB H p o n l) (hn:0 < n) (hb:n+k≤1000000000) (hbl:b≤H.length) (hi:i < k) (h:PS H p o n l v k i P x) :
  ∃ P' x',∃ nx:Nat→Nat,PS H p o n l v k (i+1) P' x'∧(∀ w,H.length≤w→H.length≤nx w)∧∀ w,ex 1 1 ⟨P++[.cells 1 [u8V (byteB v k i)]],b,w⟩ x (.slice (some (P.length,0)) 1 (some 1))=some (x',⟨P',b,nx w⟩):=by
 obtain ⟨hp,h⟩:=h
 have hg:(putB v k)[i]? = some (byteB v k i):=by unfold putB;rw [bk,ai (by rw [kr]; exact hi),List.getElem_range]; rfl
 have ht:(putB v k).take (i+1)=(putB v k).take i++[byteB v k i]:=by rw [List.take_add_one,hg]; rfl
 have hone:∀ w,iw 1 ⟨P++[.cells 1 [u8V (byteB v k i)]],b,w⟩ (.slice (some (P.length,0)) 1 (some 1))=some [u8V (byteB v k i)]:=fun w=>by have:=SlB.row (H:=P++[.cells 1 [u8V (byteB v k i)]]) (b:=b) (w:=w) (SlB.whole (l:=[byteB v k i]) (q:=P.length) (n:=1) (ga _ _) rfl) (by omega) (some 1);exact this
 rcases h with ⟨rfl,rfl⟩ | ⟨q,hq,rfl,hr0⟩
 ·refine ⟨P++[.cells 1 [u8V (byteB v k 0)],.cells 1 ((l++(putB v k).take 1).map u8V)],_,fun w=>w,⟨hp.trans (Pre.app _ _),.inr ⟨P.length+1,by have:=hp.len; omega,rfl,kj _ _ 1⟩⟩,fun w hw=>hw,fun w=>?_⟩
  have hr:iw 1 ⟨P++[.cells 1 [u8V (byteB v k 0)]],b,w⟩ (.slice (some (p,o)) n (some n))=some (l.map u8V):=SlB.row (hl.mono fun o ho=>by rw [ag (fg (ah ho) hp.len)]; exact hp _ _ ho) hn _
  unfold ex;rw [ed] at ht;simp only [hr,hone,alen,aApp];rw [if_neg (show ¬ (1=0) by decide),if_pos ⟨by omega,by omega⟩];simp [Heap.push,Heap.size,ht]
 ·have hql:=ah hr0;refine ⟨(P.set q .dead)++[.cells 1 [u8V (byteB v k i)],.cells 1 ((l++(putB v k).take (i+1)).map u8V)],_,fun w=>min w q,⟨(hp.set .dead hq).trans (Pre.app _ _),.inr ⟨P.length+1,Nat.le_succ_of_le hp.len,rfl,by rw [aw (by rw [bf]; exact wq _),bf,ji]; rfl⟩⟩,fun w hw=>Nat.le_min.2 ⟨hw,hq⟩,fun w=>?_⟩
  ·have hr:iw 1 ⟨P++[.cells 1 [u8V (byteB v k i)]],b,w⟩ (.slice (some (q,0)) (n+i) none)=some ((l++(putB v k).take i).map u8V):=SlB.row (SlB.whole (by rw [ag hql]; exact hr0) (by have:=hl.1; have:=gb v k; rw [aq,dh]; omega)) (by omega) _;unfold ex;simp only [hr,hone,alen,aApp]
   have hri:rowIs ⟨P++[.cells 1 [u8V (byteB v k i)]],b,w⟩ q 1=true:=by unfold rowIs Heap.get;simp only [ag hql,hr0];rfl
   refine (if_neg (show ¬ (1=0) by decide)).trans ((if_pos ⟨by omega,by omega⟩).trans ((if_neg (by simp)).trans ((if_pos ⟨by show b≤q; omega,hri⟩).trans ?_)));simp [Heap.push,Heap.size,Heap.put,oq _ _ hql,ht];omega
theorem l9 {x:Int} (h:0≤x∧x < 18446744073709551616):IntKind.u64.wrap x=x:=by unfold IntKind.wrap;show (if (false && _)=true then _ else (x % 2 ^ 64))=_;simp;omega
theorem za9 (m:Nat):IntKind.u8.wrap (m:Int)=((UInt8.ofNat m).toNat:Int):=by unfold IntKind.wrap;show (if (false && _)=true then _ else ((m:Int) % 2 ^ 8))=_;rw [UInt8.toNat_ofNat'];simp
theorem fdiv_pow (v e:Nat):(v:Int).fdiv (2 ^ e)=((v / 2 ^ e:Nat):Int):=by rw [Int.fdiv_eq_ediv_of_nonneg _ (Int.le_of_lt (Int.pow_pos (by decide))),Int.natCast_ediv,Int.natCast_pow]; rfl
theorem byte_eq {v k i:Nat} (hi:i < k) (hk:k≤8):IntKind.u8.wrap ((v:Int).fdiv (2 ^ min (8*((k:Int) - 1 - i)).toNat IntKind.u64.bits))=((byteB v k i).toNat:Int):=by
 have h1:min (8*((k:Int) - 1 - i)).toNat IntKind.u64.bits=8*(k - 1 - i):=by
  show min _ 64=_
  omega
 rw [h1,fdiv_pow,za9];rfl
section
attribute [-simp] getElem?_pos getElem?_neg List.all_eq_true
attribute [local simp] qZ qS nltT nltF iltT iltF ileT nleT el
theorem l385 {p o n v k:Nat} {l:Bs} (hl:SlB H p o n l) (hn:0 < n) (hb:n+k≤1000000000) (hbl:b≤H.length) (hk:k≤8) (hv:v < 18446744073709551616):∀ (j i w:Nat) (P:List AObj) (x:AVal),i+j=k→PS H p o n l v k i P x→H.length≤w →
  ∃ P' x' w',PS H p o n l v k k P' x'∧H.length≤w'∧∀ {β:Type} (k':AExit→St→Option β),
  xK T (.loop code100385L0) ⟨[(0,.val x),(1,.val (.int .u64 v)),(2,.val (.int .i64 k)),(18,.val (.int .i64 k)),(19,.val (.int .i64 i))],⟨P,b,w⟩⟩ (k:=⟨k'⟩) =
   k' (.exit 0) ⟨[(0,.val x')],⟨P',b,w'⟩⟩
 | 0,i,w,P,x,hi,h,hw=>by
  obtain rfl:i=k:=by omega
  refine ⟨P,x,w,h,hw,fun k'=>?_⟩;rw [cd];simp (disch:=omega) [code100385L0]
 | j+1,i,w,P,x,hi,h,hw=>by
  obtain ⟨P1,x1,nx,h1,h2,h3⟩:=PS.add hl hn hb hbl (by omega) h;obtain ⟨P2,x2,w2,i1,i2,i3⟩:=l385 hl hn hb hbl hk hv j (i+1) (nx w) P1 x1 (by omega) h1 (h2 w hw);refine ⟨P2,x2,w2,i1,i2,fun k'=>?_⟩;have e2:((i+1:Nat):Int)=(i:Int)+1:=by omega
  have ih:=i3 k';rw [e2] at ih;have hby:=byte_eq (v:=v) (i:=i) (by omega) hk;rw [cd,← ih];generalize ACode.loop code100385L0=LL;unfold u8V at h3;simp (disch:=omega) [code100385L0,-ex,l9,hby,h3]
theorem s411 {k:Int}:xCall T 411 [.int .i64 k] ⟨H,b,w⟩=some (.bool (decide (1≤k) && decide (k≤8)),⟨H,b,w⟩):=by
 by_cases h1:1≤k
 ·by_cases h2:k≤8
  ·simp (disch:=omega) [bc t411,code411,h1,h2]
  ·simp (disch:=omega) [bc t411,code411,h1,h2]
 ·simp (disch:=omega) [bc t411,code411,h1]
theorem s385 {p o n v k:Nat} {l:Bs} {c:Option Nat} (hl:SlB H p o n l) (hn:0 < n) (hb:n+k≤1000000000) (hbl:b≤H.length) (hk:0 < k∧k≤8) (hv:v < 18446744073709551616) (hc:n≤c.getD n) :
  xCall T 100385 [.slice (some (p,o)) n c,.int .u64 v,.int .i64 k] ⟨H,b,w⟩=some (.slice (some (H.length,0)) (n+k) none,⟨H++[.cells 1 ((l++putB v k).map u8V)],b,w⟩):=by
 have h411:=fun w=>s411 (H:=H) (b:=b) (w:=w) (k:=(k:Int))
 have q1:(1:Int)≤k:=by omega
 have q2:(k:Int)≤8:=by omega
 obtain ⟨P,x,w',i1,i2,i3⟩:=l385 hl hn hb hbl hk.2 hv k 0 H.length H (.slice (some (p,o)) n (some n)) (by omega) ⟨Pre.refl _,.inl ⟨rfl,rfl⟩⟩ (aj _);obtain ⟨hp,i1⟩:=i1;rcases i1 with ⟨rfl,-⟩ | ⟨q,hq,rfl,hr⟩
 ·omega
 ·rw [ew (by rw [gb]; omega)] at hr;have hf:=fun w0=>oh (O:=H) (P:=P) (b:=b) (w:=w0) (W:=w') (q:=q) (n:=n+k) (c:=none) hr (lz _) (fun g=>mg g _) hq i2
  obtain ⟨hll,X,hpp,hX⟩:=hl;simp only [ba] at i3;generalize (l++putB v k).map u8V=Y at *;simp (disch:=omega) [bc t100385,code100385,-dk,h411,q1,q2,hpp,hc,i3,hf]
end
end
end Go.Abs.AbsBlb

namespace Go.Abs.AbsBlb
open Go.Abs.Short
def upG (v:Nat) (c:UInt8):Nat:=v*256+c.toNat
def getB (l:Bs):Nat:=l.foldl upG 0
theorem zi:∀ (l:Bs) (v e:Nat),v < 256 ^ e→l.foldl upG v < 256 ^ (e+l.length)
 | [],v,e,h=>h
 | c :: l,v,e,h=>by rw [kz,bt,show e+(l.length+1)=(e+1)+l.length from by omega];apply zi l;have:c.toNat < 256:=c.toNat_lt;unfold upG;rw [Nat.pow_succ];omega
theorem or_add {v c:Nat} (hv:v < 72057594037927936) (hc:c < 256):orI .u64 (IntKind.u64.wrap ((v:Int)*2 ^ min 8 IntKind.u64.bits)) c=((v*256+c:Nat):Int):=by
 have h1:IntKind.u64.wrap ((v:Int)*2 ^ min 8 IntKind.u64.bits)=((v*256:Nat):Int):=by
  show IntKind.u64.wrap ((v:Int)*2 ^ 8)=_
  rw [l9 (by omega)];omega
 rw [h1]
 have h2:(BitVec.ofInt 64 ((v*256:Nat):Int) ||| BitVec.ofInt 64 ((c:Nat):Int)).toNat=v*256+c:=by rw [BitVec.toNat_or,BitVec.ofInt_natCast,BitVec.ofInt_natCast,BitVec.toNat_ofNat,BitVec.toNat_ofNat,lx (by omega),lx (by omega),show v*256=v*2 ^ 8 from rfl,← Nat.shiftLeft_eq,Nat.shiftLeft_add_eq_or_of_lt (by omega)]
 unfold orI;show IntKind.u64.wrap ((BitVec.ofInt 64 ((v*256:Nat):Int) ||| BitVec.ofInt 64 ((c:Nat):Int)).toNat:Int)=_;rw [h2,l9 (by omega)]
theorem put_succ (v k:Nat):putB v (k+1)=putB (v / 256) k++[UInt8.ofNat v]:=by
 unfold putB;rw [List.range_succ,ic];congr 1
 ·apply List.map_congr_left;intro i hi;have hi:=dw.1 hi;unfold byteB;rw [Nat.div_div_eq_div_mul,show k+1 - 1 - i=(k - 1 - i)+1 from by omega,Nat.mul_add,Nat.pow_add,Nat.mul_comm (2 ^ _)]
 ·unfold byteB;simp
theorem ov:∀ (k v:Nat),getB (putB v k)=v % 256 ^ k
 | 0,v=>by
  show 0=_
  rw [Nat.pow_zero,Nat.mod_one]
 | k+1,v=>by rw [put_succ];unfold getB;rw [List.foldl_append];show upG (getB (putB (v / 256) k)) _=_;rw [ov k (v / 256),Nat.pow_succ,Nat.mul_comm (256 ^ k),Nat.mod_mul];unfold upG;rw [UInt8.toNat_ofNat'];omega
section
variable {H:List AObj} {b w:Nat}
section
attribute [-simp] getElem?_pos getElem?_neg List.all_eq_true
attribute [local simp] qZ qS nltT nltF iltT iltF ileT nleT el
theorem l500 {p o n:Nat} {c:Option Nat} {l:Bs} (hl:SlB H p o n l) (hn:0 < n) (hb:n≤8):∀ (j i w v:Nat),i+j=n→v < 256 ^ i→∀ {β:Type} (k:AExit→St→Option β),
  xK T (.loop code500L0) ⟨[(8,.val (.int .u64 v)),(36,.val (.slice (some (p,o)) n c)),(37,.val (.int .i64 n)),(38,.val (.int .i64 i))],⟨H,b,w⟩⟩ (k:=⟨k⟩) =
   k (.exit 1) ⟨[(8,.val (.int .u64 ((l.drop i).foldl upG v:Nat)))],⟨H,b,w⟩⟩
 | 0,i,w,v,hi,hv,β,k=>by have hd:l.drop i=[]:=co (by have:=hl.1; omega);rw [hd,cd];simp only [List.foldl_nil];simp (disch:=omega) [code500L0]
 | j+1,i,w,v,hi,hv,β,k=>by
  obtain ⟨x,hx⟩:∃ x,l[i]? = some x:=⟨_,ai (by have:=hl.1; omega)⟩;obtain ⟨X,hp,g1⟩:=hl.get hx;have hxl:=ah g1;have hx256:x.toNat < 256:=x.toNat_lt;have e2:((i+1:Nat):Int)=(i:Int)+1:=by omega
  have ih:=l500 (c:=c) hl hn hb j (i+1) w (upG v x) (by omega) (by unfold upG; rw [Nat.pow_succ]; omega) k;rw [e2] at ih;have hv2:v < 72057594037927936:=fg hv (cf (Nat.pow_le_pow_right (by decide) (show i≤7 by omega)) (by decide));have hor:=or_add hv2 hx256;have hwx:IntKind.u64.wrap (x.toNat:Int)=x.toNat:=l9 (by omega);rw [ie hx,kz,cd,← ih];generalize ACode.loop code500L0=LL;simp (disch:=omega) [code500L0,hp,g1,hxl,aBits_or,hwx,hor];unfold upG;rfl
theorem s500 {p o n a k:Nat} {c:Option Nat} {l:Bs} (hl:SlB H p o n l) (hc:n≤c.getD n) (hb:n≤1000000000) (hk:0 < k∧k≤8) (ha:a+k≤n) :
  xCall T 500 [.slice (some (p,o)) n c,.int .i64 a,.int .i64 k] ⟨H,b,w⟩=some (.tuple [.int .u64 (getB ((l.drop a).take k):Nat),.int .i64 0],⟨H,b,w⟩):=by
 have h411:=fun w=>s411 (H:=H) (b:=b) (w:=w) (k:=(k:Int))
 have q1:(1:Int)≤k:=by omega
 have q2:(k:Int)≤8:=by omega
 have hs:SlB H p (o+a) k ((l.drop a).take k):=by obtain ⟨hll,X,hp,hX⟩:=hl;refine ⟨by rw [dh,gg]; omega,X,hp,?_⟩;rw [uw,List.map_drop,← hX,List.drop_take,List.take_take,iq,Nat.min_eq_left (by omega)]
 have h0:=fun (c:Option Nat) {β:Type} w (k':AExit→St→Option β)=>l500 (b:=b) (c:=c) hs hk.1 hk.2 k 0 w 0 (by omega) (by decide) k'
 simp only [ba,eq] at h0;have hg:((l.drop a).take k).foldl upG 0=getB ((l.drop a).take k):=rfl;rw [hg] at h0;obtain ⟨hll,X,hp,hX⟩:=hl;have q3:¬ (n:Int) - a < k:=by omega
 have q4:¬ (n:Int) < a:=by omega
 have q5:k≤n - a:=by omega
 cases c with
 | none =>
  simp (disch:=omega) [bc t500,code500,h411,q1,q2,q3,q4,q5,hp,h0]
 | some cc =>
  have q6:¬ cc=a:=by simp at hc; omega
  have q7:k≤cc - a:=by simp at hc; omega
  simp only [gh] at hc;simp (disch:=omega) [bc t500,code500,h411,q1,q2,q3,q4,q5,hp,h0,q6,q7]
end
end
end Go.Abs.AbsBlb

namespace Go.Abs.AbsBlb
open Go.Abs.Short
theorem xor_u16 (x y:Int):∃ m:Nat,m < 65536∧xorI .u16 x y=m:=by refine ⟨(BitVec.ofInt 16 x ^^^ BitVec.ofInt 16 y).toNat,(BitVec.ofInt 16 x ^^^ BitVec.ofInt 16 y).isLt,?_⟩;have h:(BitVec.ofInt 16 x ^^^ BitVec.ofInt 16 y).toNat < 65536:=(BitVec.ofInt 16 x ^^^ BitVec.ofInt 16 y).isLt;show IntKind.u16.wrap ((BitVec.ofInt 16 x ^^^ BitVec.ofInt 16 y).toNat:Int)=_;generalize (BitVec.ofInt 16 x ^^^ BitVec.ofInt 16 y).toNat=m at *;unfold IntKind.wrap;show (if (false && _)=true then _ else ((m:Int) % 2 ^ 16))=_;simp;omega
theorem xor_u32 (x y:Int):∃ m:Nat,m < 4294967296∧xorI .u32 x y=m:=by refine ⟨(BitVec.ofInt 32 x ^^^ BitVec.ofInt 32 y).toNat,(BitVec.ofInt 32 x ^^^ BitVec.ofInt 32 y).isLt,?_⟩;have h:(BitVec.ofInt 32 x ^^^ BitVec.ofInt 32 y).toNat < 4294967296:=(BitVec.ofInt 32 x ^^^ BitVec.ofInt 32 y).isLt;show IntKind.u32.wrap ((BitVec.ofInt 32 x ^^^ BitVec.ofInt 32 y).toNat:Int)=_;generalize (BitVec.ofInt 32 x ^^^ BitVec.ofInt 32 y).toNat=m at *;unfold IntKind.wrap;show (if (false && _)=true then _ else ((m:Int) % 2 ^ 32))=_;simp;omega
def nat16 (l:Bs):Nat:=(sum16 l).toNat
def nat32 (l:Bs):Nat:=(sum32 l).toNat
theorem fold16:∀ (l:Bs) (s:Int),(∃ m:Nat,m < 65536∧s=m)→∃ m:Nat,m < 65536∧l.foldl up16 s=m
 | [],s,h=>h
 | c :: l,s,h=>fold16 l _ (xor_u16 ..)
theorem tk (l:Bs):sum16 l=nat16 l∧nat16 l < 65536:=by obtain ⟨m,h1,h2⟩:=fold16 l 65535 ⟨65535,by decide,rfl⟩;have h3:sum16 l=m:=h2;unfold nat16;rw [h3];exact ⟨rfl,h1⟩
theorem nat32_eq (l:Bs):sum32 l=nat32 l∧nat32 l < 4294967296:=by obtain ⟨m,h1,h2⟩:=xor_u32 IntKind.u32.max (l.foldl up32 4294967295);have h3:sum32 l=m:=h2;unfold nat32;rw [h3];exact ⟨rfl,h1⟩
def headA (seq:Nat):Bs:=[67,66]++putB seq 4
def headB (seq:Nat):Bs:=headA seq++putB (nat16 (headA seq)) 2
theorem xe (s:Nat):(headA s).length=6:=by unfold headA; rw [aq,gb]; rfl
theorem j8 (s:Nat):(headB s).length=8:=by unfold headB; rw [aq,gb,xe]
section
variable {H:List AObj} {b w:Nat}
theorem s604:xCall T 604 [] ⟨H,b,w⟩=some (.agg [.int .u8 67,.int .u8 66],⟨H,b,w⟩):=by simp (disch:=omega) [-getElem?_pos,-getElem?_neg,-List.all_eq_true,qZ,qS,nltT,nltF,iltT,iltF,ileT,nleT,el,bc t604,code604]
theorem pr:∀ l:Bs,bytesOf (l.map u8V)=some l
 | []=>rfl
 | x :: l=>by rw [bo];unfold u8V bytesOf;have:=pr l;unfold u8V at this;rw [this];simp
section
attribute [-simp] getElem?_pos getElem?_neg List.all_eq_true
attribute [local simp] qZ qS nltT nltF iltT iltF ileT nleT el
theorem s619 {p o n q r m:Nat} {c d:Option Nat} {l k:Bs} (hl:SlB H p o n l) (hk:SlB H q r m k) (hn:0 < n) (hm:0 < m):xCall T 619 [.slice (some (p,o)) n c,.slice (some (q,r)) m d] ⟨H,b,w⟩=some (.bool (decide (l=k)),⟨H,b,w⟩):=by
 have h1:=fun w=>hl.row (b:=b) (w:=w) hn c
 have h2:=fun w=>hk.row (b:=b) (w:=w) hm d
 simp (disch:=omega) [bc t619,code619,-iw,h1,h2,pr]
theorem s630 {seq:Nat} (hs:seq < 4294967296) (hbl:b≤H.length):xCall T 630 [.int .u32 seq] ⟨H,b,w⟩=some (.slice (some (H.length,0)) 8 none,⟨H++[.cells 1 ((headB seq).map u8V)],b,w⟩):=by
 have h604:=fun w=>s604 (H:=H) (b:=b) (w:=w)
 have h1:=fun w=>s385 (H:=H++[.cells 1 [.int .u8 67,.int .u8 66]]) (b:=b) (w:=w) (p:=H.length) (o:=0) (n:=2) (l:=[67,66]) (v:=seq) (k:=4) (c:=some 2) (SlB.whole (ga _ _) rfl) (by omega) (by omega) (by rw [aq]; omega) (by omega) (by omega) (aj _)
 have hA:SlB (H++[.cells 1 [.int .u8 67,.int .u8 66],.cells 1 ((headA seq).map u8V)]) (H.length+1) 0 6 (headA seq):=SlB.whole (kj _ _ 1) (xe _);have h2:=fun w=>s602 (b:=b) (w:=w) (c:=none) hA (by omega) (by omega)
 obtain ⟨n1,n2⟩:=tk (headA seq);rw [n1] at h2;have h3:=fun w=>s385 (b:=b) (w:=w) (c:=none) (v:=nat16 (headA seq)) (k:=2) hA (by omega) (by omega) (by rw [aq]; omega) (by omega) (by omega) (aj _)
 have hB:headA seq++putB (nat16 (headA seq)) 2=headB seq:=rfl;rw [hB,az] at h3;rw [az] at h1;have hAA:([67,66]:Bs)++putB seq 4=headA seq:=rfl;rw [hAA] at h1;have hw1:IntKind.u64.wrap (seq:Int)=seq:=l9 (by omega);have hw2:IntKind.u64.wrap (nat16 (headA seq):Int)=nat16 (headA seq):=l9 (by omega);simp only [aq,bt,ep,ed,Nat.reduceAdd,d7,ff,ba] at h1 h2 h3;have hf:=fun w0=>oh (O:=H) (P:=H++[.cells 1 [.int .u8 67,.int .u8 66],.cells 1 ((headA seq).map u8V),.cells 1 ((headB seq).map u8V)]) (b:=b) (w:=w0) (W:=H.length) (q:=H.length+2) (n:=8) (c:=none) (kj H _ 2) (lz _) (fun g=>mg g _) (by omega) (aj _)
 generalize (headB seq).map u8V=Y at *;generalize (headA seq).map u8V=Y' at *;simp (disch:=omega) [bc t630,code630,-dk,h604,h1,h2,h3,hw1,hw2,hf]
end
theorem SlB.sub {p o n a k:Nat} {l:Bs} (hl:SlB H p o n l) (ha:a+k≤n):SlB H p (o+a) k ((l.drop a).take k):=by obtain ⟨hll,X,hp,hX⟩:=hl;refine ⟨by rw [dh,gg]; omega,X,hp,?_⟩;rw [uw,List.map_drop,← hX,List.drop_take,List.take_take,iq,Nat.min_eq_left (by omega)]
theorem s603 {p o n q r m:Nat} {c d:Option Nat} {l k:Bs} (hl:SlB H p o n l) (hk:SlB H q r m k) (hm:0 < m) (hnm:m≤n) (hc:n≤c.getD n):xCall T 603 [.slice (some (p,o)) n c,.slice (some (q,r)) m d] ⟨H,b,w⟩=some (.bool (decide (l.take m=k)),⟨H,b,w⟩):=by
 have h1:=fun (c:Option Nat) w=>s619 (b:=b) (w:=w) (c:=c) (d:=d) (hl.sub (a:=0) (k:=m) (by omega)) hk hm hm
 rw [eq,Nat.add_zero] at h1;obtain ⟨hll,X,hp,hX⟩:=hl;have q1:¬ n < m:=by omega
 have q2:m≤c.getD n:=by omega
 simp (disch:=omega) [-getElem?_pos,-getElem?_neg,-List.all_eq_true,qZ,qS,nltT,nltF,iltT,iltF,ileT,nleT,el,bc t603,code603,h1,hp,q1,q2,hnm]
def parseE (l:Bs):Nat:=if l.take 2=[67,66] then (if getB ((l.drop 6).take 2)=nat16 (l.take 6) then 0 else 7) else 8
def parseV (l:Bs):List AVal:=if parseE l=0 then [.int .u32 (getB ((l.drop 2).take 4):Nat),.bool (decide (l[8]? = some 0)),.bool (!decide (l[9]? = some 255))] else [.int .u32 0,.bool false,.bool false]
theorem wrap16 {x:Int} (h:0≤x∧x < 65536):IntKind.u16.wrap x=x:=by unfold IntKind.wrap;show (if (false && _)=true then _ else (x % 2 ^ 16))=_;simp;omega
theorem wrap32 {x:Int} (h:0≤x∧x < 4294967296):IntKind.u32.wrap x=x:=by unfold IntKind.wrap;show (if (false && _)=true then _ else (x % 2 ^ 32))=_;simp;omega
theorem u8_255 (x:UInt8):((x.toNat:Int)=255)=(x=255):=by
 apply propext;constructor
 ·intro h;have h1:x.toNat=255:=by omega
  exact UInt8.toNat_inj.1 h1
 ·rintro rfl; rfl
section
attribute [-simp] getElem?_pos getElem?_neg List.all_eq_true
attribute [local simp] qZ qS nltT nltF iltT iltF ileT nleT el
theorem s586 {p o n:Nat} {c:Option Nat} {l:Bs} (hl:SlB H p o n l) (hn:12≤n) (hb:n≤1000000000) (hc:n≤c.getD n) (hbl:b≤H.length):xCall T 586 [.slice (some (p,o)) n c] ⟨H,b,w⟩=some (.tuple [.agg (parseV l),.int .i64 (parseE l)],⟨H,b,w⟩):=by
 have h604:=fun w=>s604 (H:=H) (b:=b) (w:=w)
 have hM:SlB (H++[.cells 1 [.int .u8 67,.int .u8 66]]) H.length 0 2 [67,66]:=SlB.whole (ga _ _) rfl;have hl':SlB (H++[.cells 1 [.int .u8 67,.int .u8 66]]) p o n l:=hl.mono fun o ho=>by rw [ag (ah ho)]; exact ho
 have h603:=fun d w=>s603 (b:=b) (w:=w) (d:=d) hl' hM (by omega) (by omega) hc
 have hA:=s500 (b:=b) (w:=H.length) (c:=c) (a:=6) (k:=2) hl' hc hb (by omega) (by omega);have hB:=s500 (b:=b) (w:=H.length) (c:=c) (a:=2) (k:=4) hl' hc hb (by omega) (by omega);have hC:=fun (c:Option Nat) w=>s602 (b:=b) (w:=w) (c:=c) (hl'.sub (a:=0) (k:=6) (by omega)) (by omega) (by omega)
 rw [eq,Nat.add_zero,(tk _).1] at hC
 have g2:getB ((l.drop 6).take 2) < 65536:=by have:=zi ((l.drop 6).take 2) 0 0 (by decide);rw [dh,gg,Nat.min_eq_left (by have:=hl.1; omega)] at this;exact this
 have g4:getB ((l.drop 2).take 4) < 4294967296:=by have:=zi ((l.drop 2).take 4) 0 0 (by decide);rw [dh,gg,Nat.min_eq_left (by have:=hl.1; omega)] at this;exact this
 have w2:=wrap16 (x:=(getB ((l.drop 6).take 2):Int)) (by omega);have w4:=wrap32 (x:=(getB ((l.drop 2).take 4):Int)) (by omega);obtain ⟨x8,hx8⟩:∃ x,l[8]? = some x:=⟨_,ai (by have:=hl.1; omega)⟩;obtain ⟨x9,hx9⟩:∃ x,l[9]? = some x:=⟨_,ai (by have:=hl.1; omega)⟩;obtain ⟨X,hp,k8⟩:=hl.get hx8;obtain ⟨X',hp',k9⟩:=hl.get hx9;rw [hp] at hp';obtain rfl:X=X':=by simpa using hp'
 have z8:=u8_zero x8;have z9:=u8_255 x9;have y8:=ah k8;have y9:=ah k9;have q1:¬ n < 12:=by omega
 have hm16:=(tk (l.take 6)).2;have wm:=wrap16 (x:=(nat16 (l.take 6):Int)) (by omega);have hpl:=ah hp;have hpx:(H++[AObj.cells 1 [.int .u8 67,.int .u8 66]])[p]? = some (.cells 1 X):=by rw [ag hpl]; exact hp
 have q2:6≤c.getD n:=by omega
 simp only [ba] at hA hB hC h603;unfold parseV parseE;rw [hx8,hx9];by_cases c1:l.take 2=[67,66]
 ·rw [if_pos c1];by_cases c2:getB ((l.drop 6).take 2)=nat16 (l.take 6)
  ·rw [if_pos c2];generalize getB ((l.drop 6).take 2)=v2 at *;generalize getB ((l.drop 2).take 4)=v4 at *;generalize nat16 (l.take 6)=m at *;simp (disch:=omega) [bc t586,code586,h604,h603,hA,hB,hC,w2,wm,w4,c1,c2,hp,k8,k9,y8,y9,z8,z9,q1,q2,hbl,hpx];exact ⟨fun h=>UInt8.toNat_inj.1 h,fun h=>h ▸ rfl⟩
  ·rw [if_neg c2];generalize getB ((l.drop 6).take 2)=v2 at *;generalize getB ((l.drop 2).take 4)=v4 at *;generalize nat16 (l.take 6)=m at *;have c3:¬ ((v2:Int)=m):=by omega
   simp (disch:=omega) [bc t586,code586,h604,h603,hA,hB,hC,w2,w4,c1,c3,hp,k8,k9,y8,y9,z8,z9,q1,q2,hbl,hpx]
 ·rw [if_neg c1];simp (disch:=omega) [bc t586,code586,h604,h603,c1,q1,hbl]
end
end
end Go.Abs.AbsBlb

namespace Go.Abs.AbsBlb
structure Sec where
 st:Int
 seq:Int
 er:Int
def Sec.cells (s:Sec):List AVal:=[.int .i64 s.st,.int .u32 s.seq,.int .i64 s.er]
@[simp] theorem Sec.len (s:Sec):s.cells.length=3:=rfl
@[simp] theorem Sec.take3 (s:Sec):s.cells.take 3=s.cells:=rfl
def opn (lim:Int) (x:Sec):Bool:=decide (x.st=0) || (decide (x.st=1) && decide (x.er < lim))
variable {os:List AObj} {b w:Nat}
theorem s22 {lim:Int} {x:Sec} {p:Nat} (hp:os[p]? = some (.cells 1 [.int .i64 lim])) :
  xCall T 22 [.agg x.cells,.ptr (some (p,0))] ⟨os,b,w⟩=some (.bool (opn lim x),⟨os,b,w⟩):=by
 by_cases h0:x.st=0
 ·simp [ou T t22,code22,Sec.cells,opn,hp,h0]
 ·by_cases h1:x.st=1
  ·simp [ou T t22,code22,Sec.cells,opn,hp,h0,h1]
  ·simp [ou T t22,code22,Sec.cells,opn,hp,h0,h1]
theorem s13 {lim:Int}:xCall T 13 [.int .i64 lim] ⟨os,b,w⟩=some (.func 22 [] [.ptr (some (os.length,0))],⟨os++[.cells 1 [.int .i64 lim]],b,w⟩):=by simp [ou T t13,code13,mb,md]
theorem s15 {x:Sec}:xCall T 15 [.agg x.cells] ⟨os,b,w⟩=some (.int .i64 x.er,⟨os,b,w⟩):=by simp [ou T t15,code15,Sec.cells]
theorem s18 {x:Sec}:xCall T 18 [.agg x.cells] ⟨os,b,w⟩=some (.bool (decide (x.st=2)),⟨os,b,w⟩):=by simp [ou T t18,code18,Sec.cells]
theorem s19 {x:Sec}:xCall T 19 [.agg x.cells] ⟨os,b,w⟩=some (.int .u32 x.seq,⟨os,b,w⟩):=by simp [ou T t19,code19,Sec.cells]
def least (m:Sec→Bool) (k:Sec→Int) (L:List Sec):Nat→Nat × Bool
 | 0=>(0,false)
 | i+1=>match L[i]? with
  | some x=>if m x && (!(least m k L i).2 || (L[(least m k L i).1]?).any fun y=>decide (k x < k y)) then (i,true) else least m k L i
  | none=>least m k L i
theorem za8 (m:Sec→Bool) (k:Sec→Int) (L:List Sec):∀ i,i≤L.length→(least m k L i).2=true→(least m k L i).1 < L.length
 | 0,_,h=>by simp [least] at h
 | i+1,hi,h=>by
  simp only [least] at h ⊢;split
  ·split
   ·show i < _; omega
   ·rename_i hx hc;rw [hx] at h;simp only at h;rw [if_neg hc] at h;exact za8 m k L i (by omega) h
  ·rename_i hx;rw [hx] at h;exact za8 m k L i (by omega) h
def stL (v mf kf:AVal) (n:Nat) (os:List AObj) (b w:Nat) (i:Nat) (p:Nat × Bool):St :=
 ⟨[(0,.val v),(1,.val mf),(2,.val kf),(8,.val (.int .i64 p.1)),(9,.val (.bool p.2)),(12,.val v),(13,.val (.int .i64 n)),(14,.val (.int .i64 i))],⟨os,b,w⟩⟩
section
attribute [-simp] getElem?_pos getElem?_neg List.all_eq_true
attribute [local simp] qZ qS nltT nltF iltT iltF ileT nleT el
theorem l14 {kd:IntKind} {m:Sec→Bool} {k:Sec→Int} {L:List Sec} {a:Option (Nat × Nat)} {c:Option Nat} {gm gk:Nat} {am ak cm ck:List AVal} (hR:Row os 3 Sec.cells L a) (hn:L.length≤1000000000)
  (hm:∀ (x:Sec) (w:Nat),xCall T gm (am ++ .agg x.cells :: cm) ⟨os,b,w⟩=some (.bool (m x),⟨os,b,w⟩))
  (hk:∀ (x:Sec) (w:Nat),xCall T gk (ak ++ .agg x.cells :: ck) ⟨os,b,w⟩=some (.int kd (k x),⟨os,b,w⟩)):∀ (j i w:Nat),i+j=L.length→∀ {β:Type} (k':AExit→St→Option β),
  xK T (.loop code14L0) (stL (.slice a L.length c) (.func gm am cm) (.func gk ak ck) L.length os b w i (least m k L i)) (k:=⟨k'⟩) =
   k' (.exit 0) ⟨[(8,.val (.int .i64 (least m k L L.length).1)),(9,.val (.bool (least m k L L.length).2))],⟨os,b,w⟩⟩
 | 0,i,w,hi,β,k'=>by
  obtain rfl:i=L.length:=by omega
  rw [cd];generalize least m k L L.length=p;unfold stL;simp (disch:=omega) [code14L0]
 | j+1,i,w,hi,β,k'=>by
  obtain ⟨x,hx⟩:∃ x,L[i]? = some x:=⟨_,ai (by omega)⟩;obtain ⟨bb,o,cs,rfl,hrow,hpart⟩:=hR.at' (js hx);obtain ⟨p1,p2⟩:=hpart i x hx;have hlt:=za8 m k L i (by omega);have e2:((i+1:Nat):Int)=(i:Int)+1:=by omega
  have ih:=l14 (c:=c) hR hn hm hk j (i+1) w (by omega) k';rw [cd,← ih];unfold stL;rw [e2]
  have hls:least m k L (i+1)=if m x && (!(least m k L i).2 || (L[(least m k L i).1]?).any fun y=>decide (k x < k y)) then (i,true) else least m k L i:=by rw [least,hx]
  rw [hls];generalize ACode.loop code14L0=LL;generalize least m k L i=p at hlt;obtain ⟨at_,f⟩:=p;by_cases hmx:m x=true
  ·cases f with
   | false =>
    simp (disch:=omega) [code14L0,hrow,p1,p2,hm,hk,hmx]
   | true =>
    have hat:=hlt rfl;simp only at hat;obtain ⟨y,hy⟩:∃ y,L[at_]? = some y:=⟨_,ai hat⟩;obtain ⟨q1,q2⟩:=hpart at_ y hy;by_cases hlt:k x < k y
    ·simp (disch:=omega) [code14L0,hrow,p1,p2,q1,q2,hm,hk,hmx,hy,hlt]
    ·simp (disch:=omega) [code14L0,hrow,p1,p2,q1,q2,hm,hk,hmx,hy,hlt]
  ·simp (disch:=omega) [code14L0,hrow,p1,p2,hm,hk,hmx]
theorem s14 {m:Sec→Bool} {k:Sec→Int} {L:List Sec} {a:Option (Nat × Nat)} {c:Option Nat} {gm gk:Nat} {am ak cm ck:List AVal} (hR:Row os 3 Sec.cells L a) (hn:L.length≤1000000000)
  (hm:∀ (x:Sec) (w:Nat),xCall T gm (am ++ .agg x.cells :: cm) ⟨os,b,w⟩=some (.bool (m x),⟨os,b,w⟩))
  (hk:∀ (x:Sec) (w:Nat),xCall T gk (ak ++ .agg x.cells :: ck) ⟨os,b,w⟩=some (.int .i64 (k x),⟨os,b,w⟩)) :
  xCall T 14 [.slice a L.length c,.func gm am cm,.func gk ak ck] ⟨os,b,w⟩=some (.tuple [.int .i64 (least m k L L.length).1,.bool (least m k L L.length).2],⟨os,b,w⟩):=by
 have h0:=fun {β:Type} (k':AExit→St→Option β)=>l14 (c:=c) hR hn hm hk L.length 0 os.length (by omega) k'
 simp only [stL,ba,least] at h0;generalize least m k L L.length=p at *;simp (disch:=omega) [bc t14,code14,h0]
theorem s17 {m:Sec→Bool} {k:Sec→Int} {L:List Sec} {a:Option (Nat × Nat)} {c:Option Nat} {gm gk:Nat} {am ak cm ck:List AVal} (hR:Row os 3 Sec.cells L a) (hn:L.length≤1000000000)
  (hm:∀ (x:Sec) (w:Nat),xCall T gm (am ++ .agg x.cells :: cm) ⟨os,b,w⟩=some (.bool (m x),⟨os,b,w⟩))
  (hk:∀ (x:Sec) (w:Nat),xCall T gk (ak ++ .agg x.cells :: ck) ⟨os,b,w⟩=some (.int .u32 (k x),⟨os,b,w⟩)) :
  xCall T 17 [.slice a L.length c,.func gm am cm,.func gk ak ck] ⟨os,b,w⟩=some (.tuple [.int .i64 (least m k L L.length).1,.bool (least m k L L.length).2],⟨os,b,w⟩):=by
 have h0:=fun {β:Type} (k':AExit→St→Option β)=>l14 (c:=c) hR hn hm hk L.length 0 os.length (by omega) k'
 simp only [stL,ba,least] at h0;generalize least m k L L.length=p at *;have e:code17L0=code14L0:=rfl;simp (disch:=omega) [bc t17,code17,e,h0]
theorem s7 {lim:Int} {L:List Sec} {a:Option (Nat × Nat)} {c:Option Nat} (hR:Row os 3 Sec.cells L a) (hn:L.length≤1000000000) :
  xCall T 7 [.slice a L.length c,.int .i64 lim] ⟨os,b,w⟩=some (.tuple [.int .i64 (least (opn lim) Sec.er L L.length).1,.bool (least (opn lim) Sec.er L L.length).2],⟨os,b,w⟩):=by
 have h1:=fun w=>s14 (os:=os++[.cells 1 [.int .i64 lim]]) (b:=b) (w:=w) (c:=c) (m:=opn lim) (k:=Sec.er) (gm:=22) (gk:=15) (am:=[]) (ak:=[]) (cm:=[.ptr (some (os.length,0))]) (ck:=[]) (hR.ext _) hn
  (fun x w=>s22 (by simp)) (fun x w=>s15)
 generalize least (opn lim) Sec.er L L.length=p at *;simp (disch:=omega) [bc t7,code7,s13,h1]
theorem s5 {L:List Sec} {a:Option (Nat × Nat)} {c:Option Nat} (hR:Row os 3 Sec.cells L a) (hn:L.length≤1000000000) :
  xCall T 5 [.slice a L.length c] ⟨os,b,w⟩=some (.tuple [.int .i64 (least (fun x=>decide (x.st=2)) Sec.seq L L.length).1,.bool (least (fun x=>decide (x.st=2)) Sec.seq L L.length).2],⟨os,b,w⟩):=by
 have h1:=fun w=>s17 (os:=os) (b:=b) (w:=w) (c:=c) (m:=fun x=>decide (x.st=2)) (k:=Sec.seq) (gm:=18) (gk:=19) (am:=[]) (ak:=[]) (cm:=[]) (ck:=[]) hR hn
  (fun x w=>s18) (fun x w=>s19)
 generalize least (fun x=>decide (x.st=2)) Sec.seq L L.length=p at *;simp (disch:=omega) [bc t5,code5,h1]
end
def cnt (m:Sec→Bool) (L:List Sec):Nat→Nat
 | 0=>0
 | i+1=>match L[i]? with
  | some x=>if m x then cnt m L i+1 else cnt m L i
  | none=>cnt m L i
theorem cnt_le (m:Sec→Bool) (L:List Sec):∀ i,cnt m L i≤i
 | 0=>aj _
 | i+1=>by
  have:=cnt_le m L i;simp only [cnt];split
  ·split <;> omega
  ·omega
section
attribute [-simp] getElem?_pos getElem?_neg List.all_eq_true
attribute [local simp] qZ qS nltT nltF iltT iltF ileT nleT el
theorem lfree {m:Sec→Bool} {L:List Sec} {a:Option (Nat × Nat)} {c:Option Nat} {gm:Nat} {am cm:List AVal} (hR:Row os 3 Sec.cells L a) (hn:L.length≤1000000000)
  (hm:∀ (x:Sec) (w:Nat),xCall T gm (am ++ .agg x.cells :: cm) ⟨os,b,w⟩=some (.bool (m x),⟨os,b,w⟩)):∀ (j i w:Nat),i+j=L.length→∀ {β:Type} (k':AExit→St→Option β),
  xK T (.loop code0L0) ⟨[(5,.val (.int .i64 (cnt m L i))),(6,.val (.func gm am cm)),(11,.val (.slice a L.length c)),(12,.val (.int .i64 L.length)),(13,.val (.int .i64 i))],⟨os,b,w⟩⟩ (k:=⟨k'⟩) =
   k' (.exit 0) ⟨[(5,.val (.int .i64 (cnt m L L.length)))],⟨os,b,w⟩⟩
 | 0,i,w,hi,β,k'=>by
  obtain rfl:i=L.length:=by omega
  rw [cd];simp (disch:=omega) [code0L0]
 | j+1,i,w,hi,β,k'=>by
  obtain ⟨x,hx⟩:∃ x,L[i]? = some x:=⟨_,ai (by omega)⟩;obtain ⟨bb,o,cs,rfl,hrow,hpart⟩:=hR.at' (js hx);obtain ⟨p1,p2⟩:=hpart i x hx;have hc:=cnt_le m L i;have e2:((i+1:Nat):Int)=(i:Int)+1:=by omega
  have ih:=lfree (c:=c) hR hn hm j (i+1) w (by omega) k';have hls:cnt m L (i+1)=if m x then cnt m L i+1 else cnt m L i:=by rw [cnt,hx]
  rw [hls,e2] at ih;rw [cd,← ih];generalize ACode.loop code0L0=LL;generalize cnt m L i=p at hc;by_cases hmx:m x=true
  ·simp (disch:=omega) [code0L0,hrow,p1,p2,hm,hmx]
  ·simp (disch:=omega) [code0L0,hrow,p1,p2,hm,hmx]
theorem s0 {lim:Int} {L:List Sec} {a:Option (Nat × Nat)} {c:Option Nat} (hR:Row os 3 Sec.cells L a) (hn:L.length≤1000000000) :
  xCall T 0 [.slice a L.length c,.int .i64 lim] ⟨os,b,w⟩=some (.int .i64 (cnt (opn lim) L L.length),⟨os,b,w⟩):=by
 have h0:=fun {β:Type} (k':AExit→St→Option β)=>lfree (os:=os++[.cells 1 [.int .i64 lim]]) (b:=b) (c:=c) (gm:=22) (am:=[]) (cm:=[.ptr (some (os.length,0))]) (m:=opn lim) (hR.ext _) hn (fun x w=>s22 (by simp)) L.length 0 os.length (by omega) k'
 simp only [cnt,ba] at h0;simp (disch:=omega) [bc t0,code0,s13,h0]
end
end Go.Abs.AbsBlb

namespace Go.Abs.AbsBlb
open Go.Abs.Short
def blankB (l:Bs):Bool:=l.all fun c=>decide (c=255)
def lookB (l:Bs) (er:Nat):Sec :=
 if blankB l then ⟨0,0,er⟩ else if parseE l=0∧l[8]? = some 0∧l[9]? = some 255 then ⟨2,(getB ((l.drop 2).take 4):Nat),er⟩ else ⟨1,0,er⟩
def Fl.sec (F:Fl) (i:Nat):Bs:=(F.b.drop (i*F.z)).take F.z
def Fl.look (F:Fl) (i:Nat):Sec:=lookB (F.sec i) ((F.w[i]?).getD 0)
section
variable {H:List AObj} {b w:Nat}
section
attribute [-simp] getElem?_pos getElem?_neg List.all_eq_true
attribute [local simp] qZ qS nltT nltF iltT iltF ileT nleT el
theorem s585 {x:UInt8}:xCall T 585 [.int .u8 x.toNat] ⟨H,b,w⟩=some (.bool (!decide (x=255)),⟨H,b,w⟩):=by have h:=u8_255 x;simp (disch:=omega) [bc t585,code585,h]
theorem l176 {p o n:Nat} {c:Option Nat} {l:Bs} (hl:SlB H p o n l) (hb:n≤1000000000):∀ (j i w:Nat),i+j=n →
  ∃ m:Nat,∀ {β:Type} (k:AExit→St→Option β),
  xK T (.loop code176L0) ⟨[(0,.val (.slice (some (p,o)) n c)),(1,.val (.func 585 [] [])),(7,.val (.int .i64 n)),(8,.val (.int .i64 i))],⟨H,b,w⟩⟩ (k:=⟨k⟩) =
   if blankB (l.drop i) then k (.exit 0) ⟨[],⟨H,b,w⟩⟩ else k .ret ⟨[(4,.val (.int .i64 m))],⟨H,b,w⟩⟩
 | 0,i,w,hi=>⟨0,fun k=>by have hd:l.drop i=[]:=co (by have:=hl.1; omega);rw [hd,cd];simp only [blankB,List.all_nil,if_true];simp (disch:=omega) [code176L0]⟩
 | j+1,i,w,hi=>by
  obtain ⟨x,hx⟩:∃ x,l[i]? = some x:=⟨_,ai (by have:=hl.1; omega)⟩;obtain ⟨X,hp,g1⟩:=hl.get hx;have hxl:=ah g1;have e2:((i+1:Nat):Int)=(i:Int)+1:=by omega
  have h585:=fun w=>s585 (H:=H) (b:=b) (w:=w) (x:=x)
  have hbl:blankB (l.drop i)=(decide (x=255) && blankB (l.drop (i+1))):=by rw [ie hx]; rfl
  by_cases hc:x=255
  ·obtain ⟨m,hm⟩:=l176 (c:=c) hl hb j (i+1) w (by omega);refine ⟨m,fun k=>?_⟩;have ih:=hm k;rw [e2] at ih;rw [hbl,cd];simp only [hc,decide_true,Bool.true_and];rw [← ih];rw [hc] at h585;have g1':X[o+i]? = some (.int .u8 (255:UInt8).toNat):=by rw [← hc]; exact g1
   generalize ((255:UInt8).toNat:Int)=q at *;generalize ACode.loop code176L0=LL;simp (disch:=omega) [code176L0,hp,g1',hxl,h585]
  ·refine ⟨i,fun k=>?_⟩;rw [hbl,cd];simp only [hc,decide_false,Bool.false_and];generalize (x.toNat:Int)=q at *;simp (disch:=omega) [code176L0,hp,g1,hxl,h585,hc]
theorem s145 {p o n:Nat} {c:Option Nat} {l:Bs} (hl:SlB H p o n l) (hb:n≤1000000000):xCall T 145 [.slice (some (p,o)) n c,.func 585 [] []] ⟨H,b,w⟩=some (.bool (!blankB l),⟨H,b,w⟩):=by
 have h176:∃ m:Int,(0≤m)=(blankB l=false)∧∀ w,xCall T 176 [.slice (some (p,o)) n c,.func 585 [] []] ⟨H,b,w⟩=some (.int .i64 m,⟨H,b,w⟩):=by
  obtain ⟨m,hm⟩:=l176 (b:=b) (c:=c) hl hb n 0 H.length (by omega);simp only [ba,eq] at hm;by_cases hc:blankB l=true
  ·refine ⟨-1,by rw [hc]; decide,fun w=>?_⟩;simp only [eq_true hc,if_true] at hm;simp (disch:=omega) [bc t176,code176,hm]
  ·refine ⟨m,by simp [hc],fun w=>?_⟩;simp only [eq_false hc,if_false] at hm;simp (disch:=omega) [bc t176,code176,hm]
 obtain ⟨m,e,hm⟩:=h176;simp (disch:=omega) [bc t145,code145,hm,e]
end
end
section
variable {H:List AObj} {b w:Nat} {I:FI} {F:Fl}
theorem FlA.sec_len (h:FlA H I F) {i:Nat} (hi:i < F.n):(F.sec i).length=F.z∧i*F.z+F.z≤F.b.length:=by
 have hin:i*F.z+F.z≤F.b.length:=by
  rw [h.bl]
  calc i*F.z+F.z=(i+1)*F.z:=by rw [Nat.succ_mul]
   _≤F.n*F.z:=ii _ (by omega)
 refine ⟨?_,hin⟩;unfold Fl.sec;rw [dh,gg]; omega
section
attribute [-simp] getElem?_pos getElem?_neg List.all_eq_true
attribute [local simp] qZ qS nltT nltF iltT iltF ileT nleT el
theorem s564 (h:FlA H I F) {i:Nat} (hi:i < F.n) (hz:12≤F.z) (hbl:b≤H.length):xCall T 564 [.ptr (some (I.fl,0)),.int .i64 i] ⟨H,b,w⟩=some (.tuple [.agg (F.look i).cells,.int .i64 0],⟨H,b,w⟩):=by
 obtain ⟨hsl,hin⟩:=h.sec_len hi;have hzb:=h.nb.2;have hnb:=h.nb.1;have ht:=h.total;have hfl:=ah h.f;obtain ⟨x,hx⟩:∃ x,F.w[i]? = some x:=⟨_,ai (by have:=h.wl; omega)⟩;have keepA:∀ Y,FlA (H++Y) I F:=fun Y=>h.keep fun i o ho _=>by rw [ag (ah ho)]; exact ho
 have h573:=fun Y w=>s573 (b:=b) (w:=w) (keepA Y)
 have h587:=fun Y w=>s587 (b:=b) (w:=w) (keepA Y) hx
 have h588:=fun Y w=>s588 (b:=b) (w:=w) (a:=i*F.z) (n:=F.z) (keepA Y) (by omega) (by omega) (by omega) hin
 have hS:∀ Z Y,SlB (H++Z :: AObj.cells 1 ((F.sec i).map u8V) :: Y) (H.length+1) 0 F.z (F.sec i):=fun Z Y=>SlB.whole (kj H (Z :: AObj.cells 1 ((F.sec i).map u8V) :: Y) 1) hsl
 have h586:=fun Z Y w=>s586 (b:=b) (w:=w) (c:=none) (hS Z Y) hz (by omega) (aj _) (by rw [aq]; omega)
 have h145:=fun Z Y w=>s145 (b:=b) (w:=w) (c:=none) (hS Z Y) (by omega)
 have hsec:(F.b.drop (i*F.z)).take F.z=F.sec i:=rfl;rw [hsec] at h588;have hmi:(i:Int)*(F.z:Int)=((i*F.z:Nat):Int):=(Int.natCast_mul i F.z).symm;have q1:¬ ((F.n:Int)≤i):=by omega
 have hpar:∃ v4 d8 d9,parseV (F.sec i)=[.int .u32 v4,.bool d8,.bool d9]∧(parseE (F.sec i)=0→v4=(getB (((F.sec i).drop 2).take 4):Nat)∧d8=decide ((F.sec i)[8]? = some 0)∧d9 = !decide ((F.sec i)[9]? = some 255)):=by
  unfold parseV;split
  ·exact ⟨_,_,_,rfl,fun _=>⟨rfl,rfl,rfl⟩⟩
  ·rename_i hc;exact ⟨_,_,_,rfl,fun h=>absurd h hc⟩
 obtain ⟨v4,d8,d9,hpv,hpz⟩:=hpar;rw [hpv] at h586;have hlook:F.look i=lookB (F.sec i) x:=by unfold Fl.look; rw [hx]; rfl
 have hbq:i*F.z≤1000000000:=by omega
 rw [hlook];unfold lookB;generalize (F.sec i).map u8V=Y at *;generalize i*F.z=q at *;by_cases c1:blankB (F.sec i)=true
 ·rw [if_pos c1];simp (disch:=omega) [bc t564,code564,h573,h588,h587,h586,h145,c1,hmi,q1,hbl,Sec.cells]
 ·rw [if_neg c1];by_cases c2:parseE (F.sec i)=0
  ·obtain ⟨rfl,rfl,rfl⟩:=hpz c2;rw [c2] at h586;simp only [c2,true_and];generalize ((getB (((F.sec i).drop 2).take 4):Nat):Int)=v4 at *;by_cases c3:(F.sec i)[8]? = some 0
   ·by_cases c4:(F.sec i)[9]? = some 255
    ·rw [if_pos ⟨c3,c4⟩];simp (disch:=omega) [bc t564,code564,h573,h588,h587,h586,h145,c1,c3,c4,hmi,q1,hbl,Sec.cells]
    ·rw [if_neg (fun h=>c4 h.2)];simp (disch:=omega) [bc t564,code564,h573,h588,h587,h586,h145,c1,c3,c4,hmi,q1,hbl,Sec.cells]
   ·rw [if_neg (fun h=>c3 h.1)];simp (disch:=omega) [bc t564,code564,h573,h588,h587,h586,h145,c1,c3,hmi,q1,hbl,Sec.cells]
  ·rw [if_neg (fun h=>c2 h.1)];have c2':¬ ((parseE (F.sec i):Int)=0):=by omega
   generalize (parseE (F.sec i):Int)=e at *;simp (disch:=omega) [bc t564,code564,h573,h588,h587,h586,h145,c1,c2',hmi,q1,hbl,Sec.cells]
end
end
end Go.Abs.AbsBlb

namespace Go.Abs.AbsBlb
open Go.Abs.Short
def Fl.prog (F:Fl) (a:Nat) (l:Bs):Fl:={ F with b:=spliceB F.b a l }
def Fl.erase (F:Fl) (i:Nat):Fl:={ F with b:=eraseB F i,w:=F.w.set i ((F.w[i]?).getD 0+1) }
structure FlF (I:FI) (H H':List AObj):Prop where
 len:H.length≤H'.length
 keep:∀ (k:Nat) (o:AObj),H[k]? = some o→k≠I.fb→k≠I.fw→H'[k]? = some o
section
variable {H H' H'':List AObj} {b w:Nat} {I:FI} {F:Fl}
theorem FlF.refl:FlF I H H:=⟨aj _,fun _ _ h _ _=>h⟩
theorem FlF.trans (h:FlF I H H') (k:FlF I H' H''):FlF I H H'':=⟨cf h.len k.len,fun i o ho h1 h2=>k.keep i o (h.keep i o ho h1 h2) h1 h2⟩
theorem FlF.app (h:FlF I H H') (X:List AObj):FlF I H (H'++X):=⟨by rw [aq]; have:=h.len; omega,fun i o ho h1 h2=>by have:=h.keep i o ho h1 h2;rw [ag (ah this)]; exact this⟩
theorem FlA.app (h:FlA H I F) (Y:List AObj):FlA (H++Y) I F:=h.keep fun i o ho _=>by rw [ag (ah ho)]; exact ho
theorem p558 (h:FlA H I F) {p o n a:Nat} {c:Option Nat} {l:Bs} (hl:SlB H p o n l) (hn:0 < n) (hin:a+n≤F.b.length) (hok:bitsOk l (F.b.drop a)=true) (hbw:b≤I.fb) (hc:n≤c.getD n) :
  ∃ H',FlF I H H'∧FlA H' I (F.prog a l)∧H'.length=H.length∧∀ w,xCall T 558 [.ptr (some (I.fl,0)),.int .i64 a,.slice (some (p,o)) n c] ⟨H,b,w⟩=some (.int .i64 0,⟨H',b,min w I.fb⟩):=by
 obtain ⟨hll,X,hp,hX⟩:=hl;have ht:=h.total;refine ⟨H.set I.fb (.cells 1 ((spliceB F.b a l).map u8V)),⟨by rw [bf]; exact aj _,fun k o ho h1 _=>by rw [av (fun e=>h1 e.symm)]; exact ho⟩,?_,bf,fun w=>?_⟩
 ·have hsl:(spliceB F.b a l).length=F.b.length:=i9 (by rw [hll]; exact hin);refine ⟨?_,jr h.b,?_,by unfold Fl.prog; simp only; rw [hsl]; exact h.bl,h.wl,h.nb,h.lb,h.wb,h.ne,fun c hc=>by unfold Fl.prog; simp only; rw [hsl]; exact h.cbo c hc,h.cwo⟩
  ·rw [av (fun e=>h.nes.1 e.symm),h.f];unfold Fl.cells Fl.prog;simp only [hsl]
  ·rw [av h.ne,h.w]; rfl
 ·rw [s558 h hp hX hll hn (by omega) (by omega) hbw hc,if_pos hin,if_pos hok]
theorem p611 (h:FlA H I F) {i x:Nat} (hx:F.w[i]? = some x) (hlt:x < F.lim) (hz:0 < F.z) (hbw:b≤I.fb∧b≤I.fw) :
  ∃ H',FlF I H H'∧FlA H' I (F.erase i)∧H'.length=H.length∧∀ w,xCall T 611 [.ptr (some (I.fl,0)),.int .i64 i] ⟨H,b,w⟩=some (.int .i64 0,⟨H',b,min w (min I.fw I.fb)⟩):=by
 have hi:i < F.n:=by have:=ah hx; have:=h.wl; omega
 obtain ⟨hsl,hin⟩:=h.sec_len hi;have hlb:=h.lb;refine ⟨(H.set I.fw (.cells 1 ((F.w.set i (x+1)).map natV))).set I.fb (.cells 1 ((eraseB F i).map u8V)),⟨by rw [bf,bf]; exact aj _,fun k o ho h1 h2=>by rw [av (fun e=>h1 e.symm),av (fun e=>h2 e.symm)]; exact ho⟩,?_,by rw [bf,bf],fun w=>?_⟩
 ·have hel:(eraseB F i).length=F.b.length:=i9 (by rw [br]; exact hin);have hwe:F.w.set i ((F.w[i]?).getD 0+1)=F.w.set i (x+1):=by rw [hx]; rfl
  unfold Fl.erase;rw [hwe];refine ⟨?_,?_,?_,by simp only; rw [hel]; exact h.bl,by simp only; rw [bf]; exact h.wl,h.nb,h.lb,?_,h.ne,fun c hc=>by simp only; rw [hel]; exact h.cbo c hc,fun c hc=>by simp only; rw [bf]; exact h.cwo c hc⟩
  ·rw [av (fun e=>h.nes.1 e.symm),av (fun e=>h.nes.2 e.symm),h.f];unfold Fl.cells;simp only [hel,bf]
  ·exact jr (by rw [av (fun e=>h.ne e.symm)]; exact h.b)
  ·rw [av h.ne]; exact jr h.w
  ·intro y hy;rcases List.mem_or_eq_of_mem_set hy with h1 | h1
   ·exact h.wb y h1
   ·omega
 ·rw [s611 h hx hz hbw,if_neg (by omega)]
theorem bits_zero (own:Bs):bitsOk [0] own=true:=by
 cases own with
 | nil=>rfl
 | cons x r =>
  show (decide ((0:UInt8) &&& ~~~x=0) && true)=true
  simp
theorem uu:∀ (l own:Bs),(∀ j,j < l.length→own[j]? = some 255)→bitsOk l own=true
 | [],own,h=>rfl
 | x :: l,[],h=>rfl
 | x :: l,y :: own,h=>by
  have h0:y=255:=by simpa using h 0 (by simp)
  subst h0
  have ih:=uu l own fun j hj=>by have:=h (j+1) (by rw [bt]; omega);simpa using this
  unfold bitsOk at ih ⊢;rw [List.zip_cons_cons,List.all_cons,ih]
  have:(x &&& ~~~(255:UInt8))=0:=by rw [show ~~~(255:UInt8)=0 from rfl]; simp
  simp [this]
theorem tz {l:Bs} {j:Nat} (h:blankB l=true) (hj:j < l.length):l[j]? = some 255:=by obtain ⟨x,hx⟩:∃ x,l[j]? = some x:=⟨_,ai hj⟩;have:=au.1 h x (bn hx);rw [hx,of_decide_eq_true this]
theorem blank_of {l:Bs} (h:∀ j,j < l.length→l[j]? = some 255):blankB l=true:=by apply au.2;intro x hx;obtain ⟨j,hj⟩:=ig hx;have:=h j (ah hj);rw [hj] at this;simpa using this
def Fl.clear (F:Fl) (i:Nat):Fl:=if blankB (F.sec i) then F else F.erase i
def Fl.opened (F:Fl) (i seq:Nat):Fl:=((F.clear i).prog (i*F.z) (headB seq)).prog (i*F.z+8) [0]
theorem m8 {B:Bs} {a j:Nat} {l:Bs} (h:a+l.length≤B.length):(spliceB B a l)[j]? = if j < a then B[j]? else if j < a+l.length then l[j - a]? else B[j]?:=by
 unfold spliceB;have hta:(B.take a).length=a:=by rw [dh]; omega
 by_cases c1:j < a
 ·rw [if_pos c1,az,ag (by omega),fh,if_pos c1]
 ·rw [if_neg c1];by_cases c2:j < a+l.length
  ·rw [if_pos c2,ag (by rw [aq]; omega),aw (by omega),hta]
  ·rw [if_neg c2,aw (by rw [aq]; omega),ef,aq,hta];congr 1; omega
theorem Fl.sec_get {F:Fl} {i j:Nat} (hj:j < F.z):(F.sec i)[j]? = F.b[i*F.z+j]?:=by unfold Fl.sec;rw [fh,if_pos hj,ef]
theorem erase_get {F:Fl} {i j:Nat} (hin:i*F.z+F.z≤F.b.length):(F.erase i).b[j]? = if i*F.z≤j∧j < i*F.z+F.z then some 255 else F.b[j]?:=by
 show (spliceB F.b (i*F.z) (List.replicate F.z 255))[j]? = _
 rw [m8 (by rw [br]; exact hin),br];by_cases c1:j < i*F.z
 ·rw [if_pos c1,if_neg (by omega)]
 ·rw [if_neg c1];by_cases c2:j < i*F.z+F.z
  ·rw [if_pos c2,if_pos ⟨by omega,c2⟩,gn,if_pos (by omega)]
  ·rw [if_neg c2,if_neg (by omega)]
theorem clear_get (h:FlA H I F) {i j:Nat} (hi:i < F.n):(F.clear i).b[j]? = if i*F.z≤j∧j < i*F.z+F.z then some 255 else F.b[j]?:=by
 obtain ⟨hsl,hin⟩:=h.sec_len hi;unfold Fl.clear;split
 ·rename_i hb;split
  ·rename_i hj;have h1:=tz hb (j:=j - i*F.z) (by omega);rw [Fl.sec_get (by omega)] at h1;rw [← h1]; congr 1; omega
  ·rfl
 ·exact erase_get hin
theorem tj (F:Fl) (i:Nat):(F.clear i).n=F.n∧(F.clear i).z=F.z∧(F.clear i).lim=F.lim:=by unfold Fl.clear;split <;> exact ⟨rfl,rfl,rfl⟩
theorem open_tail {H1:List AObj} (h:FlA H I F) {i seq:Nat} (hi:i < F.n) (hz:12≤F.z) (hs:seq < 4294967296) (hbw:b≤I.fb) (k1:FlF I H H1) (h1:FlA H1 I (F.clear i)) :
  ∃ H2 H3,FlF I H H3∧FlA H3 I (F.opened i seq)∧(∀ w,xCall T 573 [.ptr (some (I.fl,0))] ⟨H1,b,w⟩=some (.agg [.int .i64 F.n,.int .i64 F.z,.int .i64 F.lim],⟨H1,b,w⟩)) ∧
   (∀ w,xCall T 630 [.int .u32 seq] ⟨H1,b,w⟩=some (.slice (some (H1.length,0)) 8 none,⟨H1++[.cells 1 ((headB seq).map u8V)],b,w⟩)) ∧
   (∀ w,xCall T 558 [.ptr (some (I.fl,0)),.int .i64 (i*F.z:Nat),.slice (some (H1.length,0)) 8 none] ⟨H1++[.cells 1 ((headB seq).map u8V)],b,w⟩=some (.int .i64 0,⟨H2,b,min w I.fb⟩)) ∧
   (∀ w,xCall T 558 [.ptr (some (I.fl,0)),.int .i64 ((i*F.z:Nat)+8),.slice (some (H2.length,0)) 1 (some 1)] ⟨H2++[.cells 1 [.int .u8 0]],b,w⟩=some (.int .i64 0,⟨H3,b,min w I.fb⟩)):=by
 obtain ⟨e1,e2,e3⟩:=tj F i;have hfb:=ah h1.b;obtain ⟨hsl,hin⟩:=h1.sec_len (i:=i) (by rw [e1]; exact hi);rw [e2] at hin;have hbl:b≤H1.length:=by omega
 have a1:=h1.app [.cells 1 ((headB seq).map u8V)]
 have q1:bitsOk (headB seq) ((F.clear i).b.drop (i*F.z))=true:=uu _ _ fun j hj=>by rw [j8] at hj;rw [ef,clear_get h hi,if_pos (by omega)]
 obtain ⟨H2,k2,h2,l2,x2⟩:=p558 (b:=b) (c:=none) a1 (SlB.whole (q:=H1.length) (ga _ _) (j8 seq)) (by omega) (a:=i*F.z) (by omega) q1 hbw (aj _);have a2:=h2.app [.cells 1 [.int .u8 0]];have hl2:((F.clear i).prog (i*F.z) (headB seq)).b.length=(F.clear i).b.length:=i9 (by rw [j8]; omega);obtain ⟨H3,k3,h3,l3,x3⟩:=p558 (b:=b) (c:=some 1) a2 (SlB.whole (q:=H2.length) (n:=1) (l:=[0]) (ga _ _) rfl) (by omega) (a:=i*F.z+8) (by rw [hl2]; omega) (bits_zero _) hbw (aj _);refine ⟨H2,H3,?_,h3,?_,fun w=>s630 hs hbl,x2,?_⟩
 ·exact ((k1.app _).trans k2 |>.app _).trans k3
 ·intro w;have:=s573 (b:=b) (w:=w) h1;rw [e1,e2,e3] at this;exact this
 ·exact x3
section
attribute [-simp] getElem?_pos getElem?_neg List.all_eq_true
attribute [local simp] qZ qS nltT nltF iltT iltF ileT nleT el
theorem p618 (h:FlA H I F) {i seq x:Nat} (hx:F.w[i]? = some x) (hst:(F.look i).st=0∨((F.look i).st=1∧x < F.lim)) (hz:12≤F.z) (hs:seq < 4294967296) (hbw:b≤I.fb∧b≤I.fw) :
  ∃ H',∃ nx:Nat→Nat,FlF I H H'∧FlA H' I (F.opened i seq)∧(∀ w,nx w≤I.fb∧min w b≤nx w)∧∀ w,xCall T 618 [.ptr (some (I.fl,0)),.int .i64 i,.int .u32 seq] ⟨H,b,w⟩=some (.int .i64 0,⟨H',b,nx w⟩):=by
 have hi:i < F.n:=by have:=ah hx; have:=h.wl; omega
 have hfb:=ah h.b;have hfw:=ah h.w;have hbl:b≤H.length:=by omega
 have h564:=fun w=>s564 (w:=w) h hi hz hbl
 have hmi:(i:Int)*(F.z:Int)=((i*F.z:Nat):Int):=(Int.natCast_mul i F.z).symm;have hin:=(h.sec_len hi).2;have ht:=h.total
 have hbl2:blankB (F.sec i)=true ↔ (F.look i).st=0:=by
  unfold Fl.look lookB;constructor
  ·intro hb; rw [if_pos hb]
  ·intro h0;apply Classical.byContradiction;intro hb;rw [if_neg hb] at h0;split at h0 <;> cases h0
 rcases hst with hst | ⟨hst,hlt⟩
 ·have hcl:F.clear i=F:=by unfold Fl.clear; rw [if_pos (hbl2.2 hst)]
  obtain ⟨H2,H3,k3,h3,x1,x2,x3,x4⟩:=open_tail (H1:=H) (b:=b) h hi hz hs hbw.1 FlF.refl (by rw [hcl]; exact h);refine ⟨H3,fun w=>min w I.fb,k3,h3,fun w=>by show min w I.fb≤_∧_≤min w I.fb; omega,fun w=>?_⟩;have hl3:=k3.len;unfold Sec.cells at h564;rw [hst] at h564;generalize (F.look i).seq=y1 at *;generalize (F.look i).er=y2 at *;generalize (headB seq).map u8V=Y at *;generalize i*F.z=q at *;simp (disch:=omega) [bc t618,code618,h564,x1,x2,x3,x4,hmi]
 ·have hcl:F.clear i=F.erase i:=by unfold Fl.clear;rw [if_neg (fun hb=>by rw [hbl2.1 hb] at hst; cases hst)]
  obtain ⟨H1,k1,h1,l1,x0⟩:=p611 (b:=b) h hx hlt (by omega) hbw;obtain ⟨H2,H3,k3,h3,x1,x2,x3,x4⟩:=open_tail (H1:=H1) (b:=b) h hi hz hs hbw.1 k1 (by rw [hcl]; exact h1);refine ⟨H3,fun w=>min w (min I.fw I.fb),k3,h3,fun w=>by show min w (min I.fw I.fb)≤_∧_≤min w (min I.fw I.fb); omega,fun w=>?_⟩;have hl3:=k3.len;unfold Sec.cells at h564;rw [hst] at h564;generalize (F.look i).seq=y1 at *;generalize (F.look i).er=y2 at *;generalize (headB seq).map u8V=Y at *;generalize i*F.z=q at *;simp (disch:=omega) [bc t618,code618,h564,x0,x1,x2,x3,x4,hmi]
end
end
end Go.Abs.AbsBlb
