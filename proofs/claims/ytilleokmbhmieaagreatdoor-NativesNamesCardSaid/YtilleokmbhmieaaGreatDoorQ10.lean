/-
  Texts joined.
-/
import Derived.Test.YtilleokmbhmieaaGreatDoorQ0
import Derived.Test.YtilleokmbhmieaaGreatDoorQ5
import Derived.Room.Shelf.Join48
import Derived.Test.YtilleokmbhmieaaGreatDoorQ9
import Derived.Lib.TrimByte
import Derived.Test.YtilleokmbhmieaaGreatDoorQ6
import Derived.Test.YtilleokmbhmieaaGreatDoorQ8
set_option linter.unusedVariables false
set_option linter.unusedSimpArgs false
set_option maxRecDepth 100000
namespace Go.Abs
open Go.Proofs Go.Shelf Go.RowKit
theorem lib_ends {E:Env} {f:FuncId} {args':Array Value} {w:World} {μ:MM} {h:Heap} {v:AVal} {v':Value} (hr:Rel E μ h w) (hv:VRel E μ v v') (hc:Calls E.P f args' w fun e w'=>e = .returned v'∧Below w.heap.size w w') :
  Calls E.P f args' w (Ends E μ w v h) :=
 hc.mono fun e w' ⟨h1,h2⟩=>⟨v',μ,h1,⟨h2.os,h2.tape,h2.output,h2.size,fun k hk _ _=>h2.block k hk,aj _,fun _ _=>.inl rfl,fun i m hi hm=>absurd (ah hm) (by omega)⟩,hv,hr.keep h2.size (fun i m hm=>h2.block _ (hr.lt i m hm)) fun k _ hk=>h2.block k hk⟩
end Go.Abs

namespace Go.Abs.AbsList
open Go.Lib
def digF:Nat→Nat→List UInt8
 | 0,u=>[UInt8.ofNat (48+u)]
 | f+1,u=>if u < 10 then [UInt8.ofNat (48+u)] else digF f (u / 10)++[UInt8.ofNat (48+u % 10)]
theorem digF_eq:∀ (f u:Nat),u < 10 ^ (f+1)→digF f u=decDigits u
 | 0,u,h=>by rw [decDigits_one (by omega)]; rfl
 | f+1,u,h=>by
  unfold digF;split
  ·rename_i h1; rw [decDigits_one h1]
  ·rename_i h1;rw [zah u h1,digF_eq f (u / 10) (by rw [Nat.pow_succ] at h; omega)]
def itoaS (n:Int):List UInt8:=if n < 0 then 45 :: digF 19 n.natAbs else digF 19 n.toNat
theorem itoaS_eq {n:Int} (h0:lo64≤n) (h1:n≤hi64):itoaS n=itoa n:=by unfold lo64 at h0; unfold hi64 at h1;unfold itoaS itoa;rw [digF_eq _ _ (by omega),digF_eq _ _ (by omega)]
end Go.Abs.AbsList

namespace Go.Abs
def nameC (c:UInt8):Bool:=(decide (97≤c.toNat) && decide (c.toNat≤122)) || (decide (48≤c.toNat) && decide (c.toNat≤57)) || decide (c.toNat=95) || decide (c.toNat=45)
def firstOdd:List UInt8→Nat→Int
 | [],_=>-1
 | c :: r,i=>if nameC c then firstOdd r (i+1) else i
def fmtA:List AVal→Heap→Option AVal
 | [.int .i64 n,.int .i64 10],_=>if -9223372036854775808≤n∧n≤9223372036854775807 then some (.str (AbsList.itoaS n)) else none
 | _,_=>none
def idxA:List AVal→Heap→Option AVal
 | [.str s,.func 538 [] [],.bool true],_=>some (.int .i64 (firstOdd s 0))
 | _,_=>none
end Go.Abs

namespace Go.Abs.AbsNat
open Go.Abs.Short
-- base: AbsBlo
def code444:AFunc:=⟨false,false,0,0,[],.skip,some (.lib (pureF Go.Abs.fmtA))⟩
def code479:AFunc:=⟨false,false,2,8,[.tmp 4],
 S (R [0,1] [o 4 (.val (Ks []))])
 (S (R [4] [v 5 0,v 6 1,o 7 (.callg 498 [t 5,t 6]),v 4 7])
 (Z [4])),none⟩
def code498:AFunc:=⟨false,false,2,13,[.tmp 4],
 S (R [0,1] [o 4 (.val (Ks []))])
 (S (S (R [0,1,7] [v 5 0,v 6 1,o 7 (.callg 140 [t 5,t 6])])
 (.after (.cond (t 7) (S (R [4] [v 8 0,v 9 1,o 10 (.len .str (t 9)),o 11 (.slice .str (t 8) (some (t 10)) none none),v 4 11])
 (Z [4])) (.skip)) [0]))
 (S (R [4] [v 12 0,v 4 12])
 (Z [4]))),none⟩
def code520:AFunc:=⟨false,false,1,17,[.tmp 2],
 S (R [0] [o 2 (.val F)])
 (S (R [0,3] [o 3 (.val (.const (.func 538 [] [])))])
 (S (R [2] [v 4 0,o 5 (.bin .neq (t 4) (Ks [])),v 6 5,g 7 6 true (Vl 0),g 8 6 true (.len .str (t 7)),g 9 6 true (Bn .leq 8 16),o 10 (.pick (t 6) (t 9) F),v 11 10,g 12 11 true (Vl 0),g 13 11 true (Vl 3),g 14 11 true (.callg 537 [t 12,t 13]),g 15 11 true (Bn .lss 14 0),o 16 (.pick (t 11) (t 15) F),v 2 16])
 (Z [2]))),none⟩
def code537:AFunc:=⟨false,false,2,8,[.tmp 4],
 S (R [0,1] [o 4 (.val (n 0))])
 (S (R [4] [v 5 0,v 6 1,o 7 (.callg 544 [t 5,t 6,.const (.bool true)]),v 4 7])
 (Z [4])),none⟩
def code538:AFunc:=⟨false,false,1,26,[.tmp 2],
 S (R [0] [o 2 (.val F)])
 (S (R [2] [v 3 0,o 4 (.bin .geq (t 3) (.const (.int .i32 97))),v 5 4,g 6 5 true (Vl 0),g 7 5 true (.bin .leq (t 6) (.const (.int .i32 122))),o 8 (.pick (t 5) (t 7) F),v 9 8,g 10 9 false (Vl 0),g 11 9 false (.bin .geq (t 10) (.const (.int .i32 48))),g 12 9 false (Vl 11),g 13 12 true (Vl 0),g 14 12 true (.bin .leq (t 13) (.const (.int .i32 57))),g 15 9 false (.pick (t 12) (t 14) F),o 16 (.pick (t 9) Y (t 15)),v 17 16,g 18 17 false (Vl 0),g 19 17 false (.bin .eql (t 18) (.const (.int .i32 95))),o 20 (.pick (t 17) Y (t 19)),v 21 20,g 22 21 false (Vl 0),g 23 21 false (.bin .eql (t 22) (.const (.int .i32 45))),o 24 (.pick (t 21) Y (t 23)),o 25 (.un .not (t 24)),v 2 25])
 (Z [2])),none⟩
def code544:AFunc:=⟨false,false,0,0,[],.skip,some (.lib (pureF Go.Abs.idxA))⟩
def code651:AFunc:=⟨false,false,1,10,[.tmp 2],
 S (R [0] [o 2 (.val (.const (.slice none 0 (some 0))))])
 (S (S (R [0,4] [v 3 0,o 4 (.eqnil .ptr false (t 3) (.const (.ptr none)))])
 (.after (.cond (t 4) (S (R [2] [o 2 (.val (.const (.slice none 0 (some 0))))])
 (Z [2])) (.skip)) [0]))
 (S (R [2] [v 5 0,o 6 (.nilcheck (t 5)),o 7 (Fa 6 2),o 8 (Lq 7),o 9 (.callg 100273 [t 8]),v 2 9])
 (Z [2]))),none⟩
def code653:AFunc:=⟨false,false,2,17,[],
 S (R [0,1,5] [v 4 0,o 5 (.eqnil .ptr true (t 4) (.const (.ptr none)))])
 (.after (.cond (t 5) (.after (.region [⟨true,[0,0,2,6,14,0,32,96,254],[v 6 0,v 7 0,o 8 (.nilcheck (t 7)),o 9 (Fa 8 2),o 10 (Lq 9),v 11 1,o 12 (.callg 444 [t 11,n 10]),o 13 (.mkslice 1 1 [.str []] [(0,1,t 12)]),o 14 (.append 1 16 (t 10) (t 13))]⟩,⟨false,[],[o 15 (.nilcheck (t 6)),o 16 (Fa 15 2),u (.store 1 (t 16) (t 14))]⟩]) []) (.skip)) []),none⟩
def code654:AFunc:=⟨false,false,2,9,[.tmp 4],
 S (R [0,1] [o 4 (.val (.const (.ptr none)))])
 (S (R [4] [v 5 0,v 6 1,o 7 (.build [.ptr none,.str [],.slice none 0 (some 0)] [(0,1,t 5),(1,1,t 6)]),o 8 (.box (t 7)),v 4 8])
 (Z [4])),none⟩
def code655:AFunc:=⟨true,false,0,95,[.tmp 0],
 S (R [] [o 0 (.val F)])
 (S (R [1,2] [o 13 (.callg 663 []),v 12 13,o 14 (Xt 12 0),o 15 (Xt 12 1),v 1 14,v 2 15])
 (S (R [2,3] [v 16 1,o 17 (.callg 654 [t 16,Ks [97,112,112]]),v 3 17])
 (S (R [2,3] [v 18 3,o 19 (.callg 653 [t 18,.const (.int .i64 (-5))])])
 (S (R [2,3] [v 20 3,o 21 (.mkslice 1 2 [.int .u8 0,.int .u8 0] [(0,1,.const (.int .u8 104)),(1,1,.const (.int .u8 105))]),o 22 (.conv .same (t 21)),o 23 (.callg 661 [t 20,t 22])])
 (S (R [2,3,4,5] [v 25 3,o 26 (.callg 659 [t 25]),v 24 26,o 27 (Xt 24 0),o 28 (Xt 24 1),v 4 27,v 5 28])
 (S (R [2,3,4,5,6,7] [v 30 3,o 31 (.mkslice 1 1 [.int .u8 0] [(0,1,.const (.int .u8 120))]),o 32 (.conv .same (t 31)),o 33 (.callg 660 [t 30,t 32]),v 29 33,o 34 (Xt 29 0),o 35 (Xt 29 1),v 6 34,v 7 35])
 (S (R [2,3,4,5,6,7,8,9,10] [v 37 3,o 38 (.callg 662 [t 37,.const (.int .i32 1)]),v 36 38,o 39 (Xt 36 0),o 40 (Xt 36 1),o 41 (Xt 36 2),v 8 39,v 9 40,v 10 41])
 (S (R [2,3,4,5,6,7,8,9,10,11] [v 42 3,o 43 (.callg 651 [t 42]),v 11 43])
 (S (R [0] [v 44 2,v 45 44,g 46 45 true (Vl 11),g 47 45 true (Sl 46),g 48 45 true (Bn .eql 47 2),o 49 (.pick (t 45) (t 48) F),v 50 49,g 51 50 true (Vl 11),g 52 50 true (.iaddr 1 (t 51) (n 0)),g 53 50 true (Lq 52),g 54 50 true (.bin .eql (t 53) (Ks [45,53])),o 55 (.pick (t 50) (t 54) F),v 56 55,g 57 56 true (Vl 11),g 58 56 true (.iaddr 1 (t 57) (n 1)),g 59 56 true (Lq 58),g 60 56 true (.bin .eql (t 59) (Ks [104,105])),o 61 (.pick (t 56) (t 60) F),v 62 61,g 63 62 true (Vl 4),g 64 62 true (.bin .eql (t 63) (.const (.int .i32 0))),o 65 (.pick (t 62) (t 64) F),v 66 65,g 67 66 true (Vl 5),g 68 66 true (Bn .eql 67 0),o 69 (.pick (t 66) (t 68) F),v 70 69,g 71 70 true (Vl 6),g 72 70 true (.bin .eql (t 71) (.const (.int .i32 1))),o 73 (.pick (t 70) (t 72) F),v 74 73,g 75 74 true (Vl 7),g 76 74 true (Bn .eql 75 0),o 77 (.pick (t 74) (t 76) F),v 78 77,g 79 78 true (Vl 8),g 80 78 true (.conv .string (t 79)),g 81 78 true (.bin .eql (t 80) (Ks [120])),o 82 (.pick (t 78) (t 81) F),v 83 82,g 84 83 true (Vl 9),o 85 (.pick (t 83) (t 84) F),v 86 85,g 87 86 true (Vl 10),g 88 86 true (Bn .eql 87 0),o 89 (.pick (t 86) (t 88) F),v 90 89,g 91 90 true (Vl 3),g 92 90 true (.callg 656 [t 91,.const (.int .i32 2),.const (.slice none 0 (some 0))]),g 93 90 true (Bn .eql 92 11),o 94 (.pick (t 90) (t 93) F),v 0 94])
 (Z [0])))))))))),none⟩
def code656:AFunc:=⟨false,false,3,11,[.tmp 6],
 S (R [1,3,5] [o 3 (.box (t 0)),o 5 (.box (t 2)),o 6 (.val (n 0))])
 (S (R [6] [o 7 (Lq 3),v 8 1,o 9 (.mkfunc 668 [] [t 3,t 5]),o 10 (.callg 669 [t 7,t 8,t 9]),v 6 10])
 (Z [6])),none⟩
def code657:AFunc:=⟨false,false,2,9,[.tmp 4],
 S (R [1,2] [o 2 (.box (t 0)),o 4 (.val (n 0))])
 (S (R [4] [o 5 (Lq 2),v 6 1,o 7 (.mkfunc 670 [] [t 2]),o 8 (.callg 669 [t 5,t 6,t 7]),v 4 8])
 (Z [4])),none⟩
def code658L0:ACode :=
 .live [0,3] (S (S (R [0,3,8] [v 5 3,v 6 0,o 7 (.len .str (t 6)),o 8 (Bt .lss 5 7)])
 (.after (.cond (t 8) (.skip) (.live [0] (.exit 0))) [0,3]))
 (S (.after (.block 1 (S (R [0,3,4] [v 11 0,v 12 3,o 13 (.index (t 11) (t 12)),v 4 13])
 (S (R [0,3,36] [v 14 4,o 15 (.bin .geq (t 14) (.const (.int .u8 97))),v 16 15,g 17 16 true (Vl 4),g 18 16 true (.bin .leq (t 17) (.const (.int .u8 122))),o 19 (.pick (t 16) (t 18) F),v 20 19,g 21 20 false (Vl 4),g 22 20 false (.bin .geq (t 21) (.const (.int .u8 48))),g 23 20 false (Vl 22),g 24 23 true (Vl 4),g 25 23 true (.bin .leq (t 24) (.const (.int .u8 57))),g 26 20 false (.pick (t 23) (t 25) F),o 27 (.pick (t 20) Y (t 26)),v 28 27,g 29 28 false (Vl 4),g 30 28 false (.bin .eql (t 29) (.const (.int .u8 95))),o 31 (.pick (t 28) Y (t 30)),v 32 31,g 33 32 false (Vl 4),g 34 32 false (.bin .eql (t 33) (.const (.int .u8 45))),o 35 (.pick (t 32) Y (t 34)),o 36 (.un .not (t 35))])
 (.after (.cond (t 36) (S (R [2] [o 2 (.val F)])
 (Z [2])) (.skip)) [0,3])))) [0,3])
 (R [0,3] [v 9 3,o 10 (Bn .add 9 1),v 3 10])))
def code658:AFunc:=⟨false,false,1,45,[.tmp 2],
 S (R [0] [o 2 (.val F)])
 (S (S (R [0,3] [o 3 (.val (n 0))])
 (.after (.block 0 (.loop code658L0)) [0]))
 (S (R [2] [v 37 0,o 38 (.len .str (t 37)),o 39 (Bn .geq 38 1),v 40 39,g 41 40 true (Vl 0),g 42 40 true (.len .str (t 41)),g 43 40 true (Bn .leq 42 16),o 44 (.pick (t 40) (t 43) F),v 2 44])
 (Z [2]))),none⟩
def code659:AFunc:=⟨false,false,1,22,[.tmp 2,.tmp 3],
 S (R [0] [o 2 (.val (.const (.int .i32 0))),o 3 (.val (n 0))])
 (S (R [4,5] [v 7 0,o 8 (.callg 666 [t 7,.const (.bool false)]),v 6 8,o 9 (Xt 6 0),o 10 (Xt 6 1),o 4 (.lalloc [.int .u32 0,.int .u32 0,.slice none 0 (some 0)]),u (.store 3 (t 4) (t 9)),v 5 10])
 (S (S (R [4,5,16] [v 11 5,o 12 (Bn .neq 11 0),v 13 12,g 14 13 true (Vl 5),g 15 13 true (Bn .neq 14 11),o 16 (.pick (t 13) (t 15) F)])
 (.after (.cond (t 16) (S (R [2,3] [v 17 5,o 2 (.val (.const (.int .i32 0))),v 3 17])
 (Z [2,3])) (.skip)) [4]))
 (S (R [2,3] [o 18 (Fa 4 2),o 19 (Lq 18),o 20 (Sl 19),o 21 (.conv (.int .i32) (t 20)),v 2 21,o 3 (.val (n 0))])
 (Z [2,3])))),none⟩
def code660:AFunc:=⟨false,false,2,38,[.tmp 4,.tmp 5],
 S (R [0,1] [o 4 (.val (.const (.int .i32 0))),o 5 (.val (n 0))])
 (S (R [0,1,6,7] [v 10 0,o 11 (.callg 666 [t 10,.const (.bool true)]),v 9 11,o 12 (Xt 9 0),o 13 (Xt 9 1),o 6 (.lalloc [.int .u32 0,.int .u32 0,.slice none 0 (some 0)]),u (.store 3 (t 6) (t 12)),v 7 13])
 (S (.after (.block 0 (S (R [0,1,6,7,14] [v 15 7,o 16 (Bn .neq 15 0),v 14 16])
 (.after (.cond (t 14) (S (R [4,5] [v 17 7,o 4 (.val (.const (.int .i32 0))),v 5 17])
 (Z [4,5])) (S (R [0,1,18] [o 19 (Fa 6 0),o 20 (Lq 19),o 21 (.bin .gtr (t 20) (.const (.int .u32 2147483647))),v 18 21])
 (.after (.cond (t 18) (S (R [4,5] [o 4 (.val (.const (.int .i32 0))),o 5 (.val (n 9))])
 (Z [4,5])) (.skip)) [0,1]))) [0,1]))) [0,1])
 (S (.after (.region [⟨true,[],[v 23 0,o 24 (.nilcheck (t 23)),o 25 (Fa 24 0),o 26 (Lq 25),v 27 0,o 28 (.nilcheck (t 27)),o 29 (Fa 28 1),o 30 (Lq 29),v 31 1]⟩,⟨false,[],[o 32 (.callg 665 [t 26,t 30,Ks [100,97,116,97],t 31]),v 22 32]⟩,⟨true,[],[o 33 (Xt 22 0),o 34 (Xt 22 1),v 8 33]⟩,⟨false,[],[v 7 34]⟩]) [7,8])
 (S (R [4,5] [v 35 8,o 36 (.conv (.int .i32) (t 35)),v 37 7,v 4 36,v 5 37])
 (Z [4,5]))))),none⟩
def code661:AFunc:=⟨false,false,2,17,[],
 S (R [0,1,5] [v 4 0,o 5 (.eqnil .ptr true (t 4) (.const (.ptr none)))])
 (.after (.cond (t 5) (.after (.region [⟨true,[0,0,2,6,14,0,32,96,254],[v 6 0,v 7 0,o 8 (.nilcheck (t 7)),o 9 (Fa 8 2),o 10 (Lq 9),v 11 1,o 12 (.conv .string (t 11)),o 13 (.mkslice 1 1 [.str []] [(0,1,t 12)]),o 14 (.append 1 16 (t 10) (t 13))]⟩,⟨false,[],[o 15 (.nilcheck (t 6)),o 16 (Fa 15 2),u (.store 1 (t 16) (t 14))]⟩]) []) (.skip)) []),none⟩
def code662:AFunc:=⟨false,false,2,46,[.tmp 4,.tmp 5,.tmp 6],
 S (R [0,1] [o 4 (.val (.const (.slice none 0 (some 0)))),o 5 (.val F),o 6 (.val (n 0))])
 (S (S (R [0,1,8] [v 12 0,o 13 (.callg 666 [t 12,.const (.bool false)]),v 11 13,o 14 (Xt 11 0),o 15 (Xt 11 1),o 7 (.lalloc [.int .u32 0,.int .u32 0,.slice none 0 (some 0)]),u (.store 3 (t 7) (t 14)),v 8 15])
 (S (R [0,1,8,21] [v 16 8,o 17 (Bn .neq 16 0),v 18 17,g 19 18 true (Vl 8),g 20 18 true (Bn .neq 19 11),o 21 (.pick (t 18) (t 20) F)])
 (.after (.cond (t 21) (S (R [4,5,6] [v 22 8,o 4 (.val (.const (.slice none 0 (some 0)))),o 5 (.val F),v 6 22])
 (Z [4,5,6])) (.skip)) [0,1])))
 (S (S (R [0,1,24] [v 23 1,o 24 (.bin .lss (t 23) (.const (.int .i32 1)))])
 (.after (.cond (t 24) (S (R [4,5,6] [o 4 (.val (.const (.slice none 0 (some 0)))),o 5 (.val F),o 6 (.val (n 0))])
 (Z [4,5,6])) (.skip)) [0,1]))
 (S (.after (.region [⟨true,[],[v 26 0,o 27 (.nilcheck (t 26)),o 28 (Fa 27 0),o 29 (Lq 28),v 30 0,o 31 (.nilcheck (t 30)),o 32 (Fa 31 1),o 33 (Lq 32),v 34 1,o 35 (.conv (.int .u32) (t 34))]⟩,⟨false,[],[o 36 (.callg 667 [t 29,t 33,Ks [100,97,116,97],t 35]),v 25 36]⟩,⟨true,[],[o 37 (Xt 25 0),o 38 (Xt 25 1),v 9 37]⟩,⟨false,[],[v 10 38]⟩]) [9,10])
 (S (S (R [9,10,39] [v 39 10])
 (.after (.block 0 (S (R [9,10,39,40] [o 41 (Bn .eql 39 0),v 40 41])
 (.after (.cond (t 40) (S (R [4,5,6] [v 42 9,v 4 42,o 5 (.val Y),o 6 (.val (n 0))])
 (Z [4,5,6])) (S (R [10,43] [o 44 (Bn .eql 39 11),v 43 44])
 (.after (.cond (t 43) (S (R [4,5,6] [o 4 (.val (.const (.slice none 0 (some 0)))),o 5 (.val F),o 6 (.val (n 0))])
 (Z [4,5,6])) (.skip)) [10]))) [10]))) [10]))
 (S (R [4,5,6] [v 45 10,o 4 (.val (.const (.slice none 0 (some 0)))),o 5 (.val F),v 6 45])
 (Z [4,5,6])))))),none⟩
def code663:AFunc:=⟨false,false,0,23,[.tmp 0,.tmp 1],
 S (R [] [o 0 (.val (.const (.ptr none))),o 1 (.val F)])
 (S (R [2,3] [o 7 (.build [.int .i64 0,.int .i64 0,.int .i64 0] [(0,1,n 5),(1,1,n 16384),(2,1,n 1000)]),o 8 (.callg 556 [t 7]),v 6 8,o 9 (Xt 6 0),o 10 (Xt 6 1),v 2 9,v 3 10])
 (S (R [3,4,5] [v 12 2,o 13 (.callg 555 [t 12]),v 11 13,o 14 (Xt 11 0),o 15 (Xt 11 1),v 4 14,v 5 15])
 (S (R [0,1] [v 16 4,v 17 3,o 18 (Bn .eql 17 0),v 19 18,g 20 19 true (Vl 5),g 21 19 true (Bn .eql 20 0),o 22 (.pick (t 19) (t 21) F),v 0 16,v 1 22])
 (Z [0,1])))),none⟩
def code664:AFunc:=⟨false,false,3,148,[.tmp 6],
 S (R [0,1,2] [o 6 (.val F)])
 (S (S (R [0,1,2,25] [o 24 (.callg 655 []),o 25 (.un .not (t 24))])
 (.after (.cond (t 25) (S (R [6] [o 6 (.val F)])
 (Z [6])) (.skip)) [0,1,2]))
 (S (S (R [0,1,2,33] [v 26 0,o 27 (.len .str (t 26)),o 28 (Bn .gtr 27 200),v 29 28,g 30 29 false (Vl 2),g 31 29 false (Sl 30),g 32 29 false (Bn .gtr 31 300),o 33 (.pick (t 29) Y (t 32))])
 (.after (.cond (t 33) (S (R [6] [o 6 (.val Y)])
 (Z [6])) (.skip)) [0,1,2]))
 (S (R [0,1,2,7,8] [o 35 (.callg 663 []),v 34 35,o 36 (Xt 34 0),o 37 (Xt 34 1),v 7 36,v 8 37])
 (S (R [0,1,2,8,9] [v 38 7,v 39 0,o 40 (.callg 654 [t 38,t 39]),v 9 40])
 (S (R [0,1,2,8,9,11] [v 42 9,v 43 2,o 44 (.callg 660 [t 42,t 43]),v 41 44,o 45 (Xt 41 0),o 46 (Xt 41 1),v 10 45,v 11 46])
 (S (R [0,1,2,8,9,11,13] [v 48 9,o 49 (.callg 659 [t 48]),v 47 49,o 50 (Xt 47 0),o 51 (Xt 47 1),v 12 50,v 13 51])
 (S (R [0,1,2,8,9,11,13,16] [v 53 9,v 54 1,o 55 (.callg 662 [t 53,t 54]),v 52 55,o 56 (Xt 52 0),o 57 (Xt 52 1),o 58 (Xt 52 2),v 14 56,v 15 57,v 16 58])
 (S (R [0,1,2,8,9,11,13,16,17] [o 17 (.val (.const (.ptr none)))])
 (S (R [0,1,2,8,9,11,13,16,17] [v 59 17,o 60 (.callg 653 [t 59,n 1])])
 (S (R [0,1,2,8,9,11,13,16,17] [v 61 17,v 62 2,o 63 (.callg 661 [t 61,t 62])])
 (S (R [0,1,2,8,9,11,13,16,17,19] [v 65 17,v 66 2,o 67 (.callg 660 [t 65,t 66]),v 64 67,o 68 (Xt 64 0),o 69 (Xt 64 1),v 18 68,v 19 69])
 (S (R [0,1,2,8,9,11,13,16,17,19,21] [v 71 17,o 72 (.callg 659 [t 71]),v 70 72,o 73 (Xt 70 0),o 74 (Xt 70 1),v 20 73,v 21 74])
 (S (R [0,1,2,8,9,11,13,16,17,19,21,22] [o 22 (.val (n 5))])
 (S (S (R [0,1,2,8,9,11,13,16,103] [v 75 19,v 76 22,o 77 (Bt .neq 75 76),v 78 77,g 79 78 false (Vl 21),g 80 78 false (Vl 22),g 81 78 false (Bt .neq 79 80),o 82 (.pick (t 78) Y (t 81)),v 83 82,g 84 83 false (Vl 17),g 85 83 false (Vl 1),g 86 83 false (Vl 2),g 87 83 false (.callg 656 [t 84,t 85,t 86]),g 88 83 false (Vl 22),g 89 83 false (Bt .neq 87 88),o 90 (.pick (t 83) Y (t 89)),v 91 90,g 92 91 false (Vl 17),g 93 91 false (Vl 1),g 94 91 false (.callg 657 [t 92,t 93]),g 95 91 false (Vl 22),g 96 91 false (Bt .neq 94 95),o 97 (.pick (t 91) Y (t 96)),v 98 97,g 99 98 false (Vl 17),g 100 98 false (.callg 651 [t 99]),g 101 98 false (Sl 100),g 102 98 false (Bn .neq 101 0),o 103 (.pick (t 98) Y (t 102))])
 (.after (.cond (t 103) (S (R [6] [o 6 (.val F)])
 (Z [6])) (.skip)) [0,1,2,8,9,11,13,16]))
 (S (S (R [1,2,8,9,11,13,16,106] [v 104 0,o 105 (.callg 658 [t 104]),o 106 (.un .not (t 105))])
 (.after (.cond (t 106) (S (R [1,2,9,11,13,16,23] [o 23 (.val (n 13))])
 (S (R [6] [v 107 11,v 108 23,o 109 (Bt .eql 107 108),v 110 109,g 111 110 true (Vl 13),g 112 110 true (Vl 23),g 113 110 true (Bt .eql 111 112),o 114 (.pick (t 110) (t 113) F),v 115 114,g 116 115 true (Vl 16),g 117 115 true (Vl 23),g 118 115 true (Bt .eql 116 117),o 119 (.pick (t 115) (t 118) F),v 120 119,g 121 120 true (Vl 9),g 122 120 true (Vl 1),g 123 120 true (Vl 2),g 124 120 true (.callg 656 [t 121,t 122,t 123]),g 125 120 true (Vl 23),g 126 120 true (Bt .eql 124 125),o 127 (.pick (t 120) (t 126) F),v 128 127,g 129 128 true (Vl 9),g 130 128 true (Vl 1),g 131 128 true (.callg 657 [t 129,t 130]),g 132 128 true (Vl 23),g 133 128 true (Bt .eql 131 132),o 134 (.pick (t 128) (t 133) F),v 6 134])
 (Z [6]))) (.skip)) [8,11,13,16]))
 (S (R [6] [v 135 8,v 136 135,g 137 136 true (Vl 11),g 138 136 true (Bn .eql 137 0),o 139 (.pick (t 136) (t 138) F),v 140 139,g 141 140 true (Vl 13),g 142 140 true (Bn .eql 141 0),o 143 (.pick (t 140) (t 142) F),v 144 143,g 145 144 true (Vl 16),g 146 144 true (Bn .eql 145 0),o 147 (.pick (t 144) (t 146) F),v 6 147])
 (Z [6]))))))))))))))))),none⟩
def code665:AFunc:=⟨false,false,4,21,[.tmp 8,.tmp 9],
 S (R [0,1,2,7] [o 7 (.box (t 3)),o 8 (.val (.const (.int .u32 0))),o 9 (.val (n 0))])
 (S (R [0,1,2,7,10] [o 10 (.alloc 1 [.int .u32 0])])
 (S (R [10,11] [v 12 0,v 13 1,v 14 2,o 15 (.mkfunc 672 [] [t 7,t 10]),o 16 (.callg 673 [t 12,t 13,t 14,t 15]),v 11 16])
 (S (S (R [10,11,18] [v 17 11,o 18 (Bn .neq 17 0)])
 (.after (.cond (t 18) (S (R [8,9] [v 19 11,o 8 (.val (.const (.int .u32 0))),v 9 19])
 (Z [8,9])) (.skip)) [10]))
 (S (R [8,9] [o 20 (Lq 10),v 8 20,o 9 (.val (n 0))])
 (Z [8,9]))))),none⟩
def code666:AFunc:=⟨false,false,2,21,[.cell 4 (some 3),.tmp 5],
 S (R [0,1,4] [o 4 (.lalloc [.int .u32 0,.int .u32 0,.slice none 0 (some 0)]),o 5 (.val (n 0))])
 (S (S (R [0,1,4,7] [v 6 0,o 7 (.eqnil .ptr false (t 6) (.const (.ptr none)))])
 (.after (.cond (t 7) (S (R [4,5] [o 8 (.build [.int .u32 0,.int .u32 0,.slice none 0 (some 0)] []),u (.store 3 (t 4) (t 8)),o 5 (.val (n 5))])
 (Z [4,5])) (.skip)) [0,1,4]))
 (S (.after (.region [⟨true,[],[v 9 0,o 10 (.nilcheck (t 9)),o 11 (Fa 10 0),o 12 (Lq 11),v 13 0,o 14 (.nilcheck (t 13)),o 15 (Fa 14 1),o 16 (Lq 15),v 17 1]⟩,⟨false,[],[o 18 (.callg 671 [t 12,t 16,Ks [100,97,116,97],t 17])]⟩,⟨true,[],[o 19 (Xt 18 0),o 20 (Xt 18 1)]⟩,⟨false,[],[u (.store 3 (t 4) (t 19)),v 5 20]⟩]) [4,5])
 (Z [4,5]))),none⟩
def code667:AFunc:=⟨false,false,4,38,[.tmp 8,.tmp 9],
 S (R [0,1,2,3] [o 8 (.val (.const (.slice none 0 (some 0)))),o 9 (.val (n 0))])
 (S (R [3,10,11] [v 15 0,v 16 1,v 17 2,o 18 (.callg 675 [t 15,t 16,t 17]),v 14 18,o 19 (Xt 14 0),o 20 (Xt 14 1),o 10 (.lalloc [.int .u32 0,.int .u32 0,.slice none 0 (some 0)]),u (.store 3 (t 10) (t 19)),v 11 20])
 (S (S (R [3,10,11,22] [v 21 11,o 22 (Bn .neq 21 0)])
 (.after (.cond (t 22) (S (R [8,9] [v 23 11,o 8 (.val (.const (.slice none 0 (some 0)))),v 9 23])
 (Z [8,9])) (.skip)) [3,10]))
 (S (R [10,12,13] [o 25 (.load (some 3) (t 10)),v 26 3,o 27 (.callg 674 [t 25,t 26]),v 24 27,o 28 (Xt 24 0),o 29 (Xt 24 1),v 12 28,v 13 29])
 (S (S (R [10,12,31] [v 30 13,o 31 (.un .not (t 30))])
 (.after (.cond (t 31) (S (R [8,9] [o 8 (.val (.const (.slice none 0 (some 0)))),o 9 (.val (n 11))])
 (Z [8,9])) (.skip)) [10,12]))
 (S (R [8,9] [o 32 (Fa 10 2),o 33 (Lq 32),v 34 12,o 35 (.iaddr 2 (t 33) (t 34)),o 36 (Fa 35 1),o 37 (Lq 36),v 8 37,o 9 (.val (n 0))])
 (Z [8,9])))))),none⟩
def code668:AFunc:=⟨false,false,3,16,[.tmp 4],
 S (R [0,1,2] [o 4 (.val (n 0))])
 (S (.after (.region [⟨true,[],[o 5 (Lq 1),o 6 (.nilcheck (t 5)),o 7 (Fa 6 0),o 8 (Lq 7),o 9 (Lq 1),o 10 (.nilcheck (t 9)),o 11 (Fa 10 1),o 12 (Lq 11),v 13 0,o 14 (Lq 2)]⟩,⟨false,[],[o 15 (.callg 676 [t 8,t 12,Ks [100,97,116,97],t 13,t 14]),v 4 15]⟩]) [4])
 (Z [4])),none⟩
def code669:AFunc:=⟨false,false,3,23,[.tmp 6],
 S (R [0,1,2] [o 6 (.val (n 0))])
 (S (S (R [1,2,8] [v 10 0,o 11 (.callg 666 [t 10,.const (.bool false)]),v 9 11,o 12 (Xt 9 0),o 13 (Xt 9 1),o 7 (.lalloc [.int .u32 0,.int .u32 0,.slice none 0 (some 0)]),u (.store 3 (t 7) (t 12)),v 8 13])
 (S (R [1,2,8,15] [v 14 8,o 15 (Bn .neq 14 0)])
 (.after (.cond (t 15) (S (R [6] [v 16 8,v 6 16])
 (Z [6])) (.skip)) [1,2])))
 (S (S (R [1,2,18] [v 17 1,o 18 (.bin .lss (t 17) (.const (.int .i32 1)))])
 (.after (.cond (t 18) (S (R [6] [o 6 (.val (n 11))])
 (Z [6])) (.skip)) [1,2]))
 (S (R [6] [v 19 2,v 20 1,o 21 (.conv (.int .u32) (t 20)),o 22 (.call (t 19) [t 21]),v 6 22])
 (Z [6])))),none⟩
def code670:AFunc:=⟨false,false,2,14,[.tmp 3],
 S (R [0,1] [o 3 (.val (n 0))])
 (S (.after (.region [⟨true,[],[o 4 (Lq 1),o 5 (.nilcheck (t 4)),o 6 (Fa 5 0),o 7 (Lq 6),o 8 (Lq 1),o 9 (.nilcheck (t 8)),o 10 (Fa 9 1),o 11 (Lq 10),v 12 0]⟩,⟨false,[],[o 13 (.callg 678 [t 7,t 11,Ks [100,97,116,97],t 12]),v 3 13]⟩]) [3])
 (Z [3])),none⟩
def code671:AFunc:=⟨false,false,4,45,[.cell 8 (some 3),.tmp 9],
 S (R [0,1,2,3,8] [o 8 (.lalloc [.int .u32 0,.int .u32 0,.slice none 0 (some 0)]),o 9 (.val (n 0))])
 (S (R [0,1,2,3,8,10,11] [v 14 0,v 15 1,v 16 2,o 17 (.callg 675 [t 14,t 15,t 16]),v 13 17,o 18 (Xt 13 0),o 19 (Xt 13 1),o 10 (.lalloc [.int .u32 0,.int .u32 0,.slice none 0 (some 0)]),u (.store 3 (t 10) (t 18)),v 11 19])
 (S (S (R [0,1,2,8,10,11,25] [v 20 11,o 21 (Bn .neq 20 11),v 22 21,g 23 22 false (Vl 3),g 24 22 false (.un .not (t 23)),o 25 (.pick (t 22) Y (t 24))])
 (.after (.cond (t 25) (S (R [8,9] [o 26 (.load (some 3) (t 10)),v 27 11,u (.store 3 (t 8) (t 26)),v 9 27])
 (Z [8,9])) (.skip)) [0,1,2,8,10]))
 (S (S (R [0,1,2,8,10,32] [v 28 0,v 29 1,o 30 (.callg 681 [t 28,t 29]),o 31 (Sl 30),o 32 (Bn .geq 31 8)])
 (.after (.cond (t 32) (S (R [8,9] [o 33 (.build [.int .u32 0,.int .u32 0,.slice none 0 (some 0)] []),u (.store 3 (t 8) (t 33)),o 9 (.val (n 9))])
 (Z [8,9])) (.skip)) [0,1,2,8,10]))
 (S (R [0,1,2,8,10] [o 34 (.build [.int .u32 0,.int .u32 0,.slice none 0 (some 0)] [(0,1,.const (.int .u32 1))]),u (.store 3 (t 10) (t 34))])
 (S (S (R [8,10,12] [v 35 0,v 36 1,v 37 2,o 38 (.load (some 3) (t 10)),o 39 (.callg 680 [t 35,t 36,t 37,t 38]),v 12 39])
 (S (R [8,10,12,41] [v 40 12,o 41 (Bn .neq 40 0)])
 (.after (.cond (t 41) (S (R [8,9] [o 42 (.build [.int .u32 0,.int .u32 0,.slice none 0 (some 0)] []),v 43 12,u (.store 3 (t 8) (t 42)),v 9 43])
 (Z [8,9])) (.skip)) [8,10])))
 (S (R [8,9] [o 44 (.load (some 3) (t 10)),u (.store 3 (t 8) (t 44)),o 9 (.val (n 0))])
 (Z [8,9]))))))),none⟩
def code672:AFunc:=⟨false,false,3,46,[.tmp 4],
 S (R [0,1,2] [o 4 (.val (n 0))])
 (S (S (R [0,1,2,22] [o 5 (Lq 1),o 6 (Sl 5),o 7 (Bn .gtr 6 512),v 8 7,g 9 8 false (Vl 0),g 10 8 false (.nilcheck (t 9)),g 11 8 false (Fa 10 2),g 12 8 false (Lq 11),g 13 8 false (Sl 12),g 14 8 false (Bn .geq 13 64),o 15 (.pick (t 8) Y (t 14)),v 16 15,g 17 16 false (Vl 0),g 18 16 false (.nilcheck (t 17)),g 19 16 false (Fa 18 0),g 20 16 false (Lq 19),g 21 16 false (.bin .eql (t 20) (.const (.int .u32 4294967295))),o 22 (.pick (t 16) Y (t 21))])
 (.after (.cond (t 22) (S (R [4] [o 4 (.val (n 9))])
 (Z [4])) (.skip)) [0,1,2]))
 (S (R [0,1,2] [v 23 0,o 24 (.nilcheck (t 23)),o 25 (Fa 24 0),o 26 (Lq 25),u (.store 1 (t 2) (t 26))])
 (S (.after (.region [⟨true,[0,0,2,6,14,0,0,96,224,510],[v 27 0,v 28 0,o 29 (.nilcheck (t 28)),o 30 (Fa 29 2),o 31 (Lq 30),o 32 (Lq 2),o 33 (Lq 1),o 34 (.build [.int .u32 0,.slice none 0 (some 0)] [(0,1,t 32),(1,1,t 33)]),o 35 (.mkslice 2 1 [.int .u32 0,.slice none 0 (some 0)] [(0,2,t 34)]),o 36 (.append 2 32 (t 31) (t 35))]⟩,⟨false,[],[o 37 (.nilcheck (t 27)),o 38 (Fa 37 2),u (.store 1 (t 38) (t 36))]⟩]) [0])
 (S (R [] [v 39 0,o 40 (.nilcheck (t 39)),o 41 (Fa 40 0),o 42 (Lq 41),o 43 (.bin .add (t 42) (.const (.int .u32 1))),o 44 (.nilcheck (t 39)),o 45 (Fa 44 0),u (.store 1 (t 45) (t 43))])
 (S (R [4] [o 4 (.val (n 0))])
 (Z [4])))))),none⟩
def code673:AFunc:=⟨false,false,4,39,[.tmp 8],
 S (R [0,1,2,3] [o 8 (.val (n 0))])
 (S (R [0,1,2,3,9,10] [v 13 0,v 14 1,v 15 2,o 16 (.callg 675 [t 13,t 14,t 15]),v 12 16,o 17 (Xt 12 0),o 18 (Xt 12 1),o 9 (.alloc 3 [.int .u32 0,.int .u32 0,.slice none 0 (some 0)]),u (.store 3 (t 9) (t 17)),v 10 18])
 (S (S (R [0,1,2,3,9,10,20] [v 19 10,o 20 (Bn .neq 19 0)])
 (.after (.cond (t 20) (S (R [8] [v 21 10,v 8 21])
 (Z [8])) (.skip)) [0,1,2,3,9]))
 (S (S (R [0,1,2,9,11] [v 22 3,o 23 (.call (t 22) [t 9]),v 11 23])
 (S (R [0,1,2,9,11,25] [v 24 11,o 25 (Bn .neq 24 0)])
 (.after (.cond (t 25) (S (R [8] [v 26 11,v 8 26])
 (Z [8])) (.skip)) [0,1,2,9])))
 (S (S (R [0,1,2,9,29] [o 27 (Fa 9 1),o 28 (Lq 27),o 29 (.bin .lss (t 28) (.const (.int .u32 4294967295)))])
 (.after (.cond (t 29) (R [0,1,2,9] [o 30 (Fa 9 1),o 31 (Lq 30),o 32 (.bin .add (t 31) (.const (.int .u32 1))),o 33 (Fa 9 1),u (.store 1 (t 33) (t 32))]) (.skip)) [0,1,2,9]))
 (S (R [8] [v 34 0,v 35 1,v 36 2,o 37 (.load (some 3) (t 9)),o 38 (.callg 680 [t 34,t 35,t 36,t 37]),v 8 38])
 (Z [8])))))),none⟩
def code674:AFunc:=⟨false,false,2,12,[.tmp 4,.tmp 5],
 S (R [1,2] [o 2 (.lbox (t 0)),o 4 (.val (n 0)),o 5 (.val F)])
 (S (R [4,5] [o 6 (Fa 2 2),o 7 (Lq 6),v 8 1,o 9 (.callg 684 [t 7,t 8,.const (.func 685 [] [])]),o 10 (Xt 9 0),o 11 (Xt 9 1),v 4 10,v 5 11])
 (Z [4,5])),none⟩
def code675:AFunc:=⟨false,false,3,34,[.cell 6 (some 3),.tmp 7],
 S (R [0,1,2,6] [o 6 (.lalloc [.int .u32 0,.int .u32 0,.slice none 0 (some 0)]),o 7 (.val (n 0))])
 (S (S (R [0,1,2,6,17] [v 10 1,o 11 (.callg 520 [t 10]),o 12 (.un .not (t 11)),v 13 12,g 14 13 false (Vl 2),g 15 13 false (.callg 520 [t 14]),g 16 13 false (.un .not (t 15)),o 17 (.pick (t 13) Y (t 16))])
 (.after (.cond (t 17) (S (R [6,7] [o 18 (.build [.int .u32 0,.int .u32 0,.slice none 0 (some 0)] []),u (.store 3 (t 6) (t 18)),o 7 (.val (n 13))])
 (Z [6,7])) (.skip)) [0,1,2,6]))
 (S (R [6,8,9] [v 20 0,v 21 1,v 22 2,o 23 (.callg 683 [t 21,t 22]),o 24 (.callg 482 [t 20,t 23]),v 19 24,o 25 (Xt 19 0),o 26 (Xt 19 1),v 8 25,v 9 26])
 (S (S (R [6,8,28] [v 27 9,o 28 (.un .not (t 27))])
 (.after (.cond (t 28) (S (R [6,7] [o 29 (.build [.int .u32 0,.int .u32 0,.slice none 0 (some 0)] []),u (.store 3 (t 6) (t 29)),o 7 (.val (n 11))])
 (Z [6,7])) (.skip)) [6,8]))
 (S (R [6,7] [v 30 8,o 31 (.callg 682 [t 30]),o 32 (Xt 31 0),o 33 (Xt 31 1),u (.store 3 (t 6) (t 32)),v 7 33])
 (Z [6,7]))))),none⟩
def code676:AFunc:=⟨false,false,5,16,[.tmp 10],
 S (R [0,1,2,8,9] [o 8 (.box (t 3)),o 9 (.box (t 4)),o 10 (.val (n 0))])
 (S (R [10] [v 11 0,v 12 1,v 13 2,o 14 (.mkfunc 677 [] [t 8,t 9]),o 15 (.callg 673 [t 11,t 12,t 13,t 14]),v 10 15])
 (Z [10])),none⟩
def code677:AFunc:=⟨false,false,3,30,[.tmp 4],
 S (R [0,1,2] [o 4 (.val (n 0))])
 (S (.after (.region [⟨true,[],[v 8 0,o 9 (.nilcheck (t 8)),o 10 (.load (some 3) (t 9)),o 11 (Lq 1)]⟩,⟨false,[],[o 12 (.callg 674 [t 10,t 11]),v 7 12]⟩,⟨true,[],[o 13 (Xt 7 0),o 14 (Xt 7 1),v 5 13]⟩,⟨false,[],[v 6 14]⟩]) [0,2,5,6])
 (S (.after (.block 0 (S (R [0,2,5,15] [v 16 6,o 17 (.un .not (t 16)),v 15 17])
 (.after (.cond (t 15) (S (R [4] [o 4 (.val (n 11))])
 (Z [4])) (S (R [0,2,5,18] [o 19 (Lq 2),o 20 (Sl 19),o 21 (Bn .gtr 20 512),v 18 21])
 (.after (.cond (t 18) (S (R [4] [o 4 (.val (n 9))])
 (Z [4])) (.skip)) [0,2,5]))) [0,2,5]))) [0,2,5])
 (S (.after (.region [⟨true,[],[v 22 0,o 23 (.nilcheck (t 22)),o 24 (Fa 23 2),o 25 (Lq 24),v 26 5,o 27 (Lq 2)]⟩,⟨false,[],[o 28 (.iaddr 2 (t 25) (t 26)),o 29 (Fa 28 1),u (.store 1 (t 29) (t 27))]⟩]) [])
 (S (R [4] [o 4 (.val (n 0))])
 (Z [4]))))),none⟩
def code678:AFunc:=⟨false,false,4,14,[.tmp 8],
 S (R [0,1,2,7] [o 7 (.box (t 3)),o 8 (.val (n 0))])
 (S (R [8] [v 9 0,v 10 1,v 11 2,o 12 (.mkfunc 679 [] [t 7]),o 13 (.callg 673 [t 9,t 10,t 11,t 12]),v 8 13])
 (Z [8])),none⟩
def code679:AFunc:=⟨false,false,2,27,[.tmp 3],
 S (R [0,1] [o 3 (.val (n 0))])
 (S (.after (.region [⟨true,[],[v 7 0,o 8 (.nilcheck (t 7)),o 9 (.load (some 3) (t 8)),o 10 (Lq 1)]⟩,⟨false,[],[o 11 (.callg 674 [t 9,t 10]),v 6 11]⟩,⟨true,[],[o 12 (Xt 6 0),o 13 (Xt 6 1),v 4 12]⟩,⟨false,[],[v 5 13]⟩]) [0,4,5])
 (S (S (R [0,4,15] [v 14 5,o 15 (.un .not (t 14))])
 (.after (.cond (t 15) (S (R [3] [o 3 (.val (n 11))])
 (Z [3])) (.skip)) [0,4]))
 (S (R [] [v 16 0,v 17 0,o 18 (.nilcheck (t 17)),o 19 (Fa 18 2),o 20 (Lq 19),v 21 4,v 22 4,o 23 (Bn .add 22 1),o 24 (.callg 686 [t 20,t 21,t 23]),o 25 (.nilcheck (t 16)),o 26 (Fa 25 2),u (.store 1 (t 26) (t 24))])
 (S (R [3] [o 3 (.val (n 0))])
 (Z [3]))))),none⟩
def code680:AFunc:=⟨false,false,4,30,[.tmp 8],
 S (R [0,1,2,7] [o 7 (.lbox (t 3)),o 8 (.val (n 0))])
 (S (R [0,1,2,9,10] [o 12 (.load (some 3) (t 7)),o 13 (.callg 688 [t 12]),v 11 13,o 14 (Xt 11 0),o 15 (Xt 11 1),v 9 14,v 10 15])
 (S (S (R [0,1,2,9,10,17] [v 16 10,o 17 (Bn .neq 16 0)])
 (.after (.cond (t 17) (S (R [8] [v 18 10,v 8 18])
 (Z [8])) (.skip)) [0,1,2,9]))
 (S (S (R [0,1,2,9,21] [v 19 9,o 20 (Sl 19),o 21 (Bn .gtr 20 4096)])
 (.after (.cond (t 21) (S (R [8] [o 8 (.val (n 9))])
 (Z [8])) (.skip)) [0,1,2,9]))
 (S (R [8] [v 22 0,v 23 1,v 24 2,o 25 (.callg 683 [t 23,t 24]),v 26 9,o 27 (.build [.bool false,.str [],.slice none 0 (some 0)] [(1,1,t 25),(2,1,t 26)]),o 28 (.mkslice 3 1 [.bool false,.str [],.slice none 0 (some 0)] [(0,3,t 27)]),o 29 (.callg 549 [t 22,t 28]),v 8 29])
 (Z [8]))))),none⟩
def code681L0:ACode :=
 .live [1,5,15,16,17] (S (R [1,5,15,16,17,18] [o 18 (Bt .lss 17 16)])
 (S (.after (.cond (t 18) (.skip) (.live [5] (.exit 0))) [1,5,15,16,17])
 (S (.after (.block 1 (S (R [1,5,7,15,16,17] [o 19 (.iaddr 1 (t 15) (t 17)),o 20 (Lq 19),v 7 20])
 (S (R [1,5,8,15,16,17] [v 21 7,v 22 1,o 23 (.callg 687 [t 22]),o 24 (.callg 479 [t 21,t 23]),v 8 24])
 (S (R [1,5,8,15,16,17,26] [v 25 8,o 26 (.callg 520 [t 25])])
 (.after (.cond (t 26) (R [1,5,15,16,17] [v 27 5,v 28 8,o 29 (.mkslice 1 1 [.str []] [(0,1,t 28)]),o 30 (.append 1 16 (t 27) (t 29)),v 5 30]) (.skip)) [1,5,15,16,17]))))) [1,5,15,16,17])
 (R [1,5,15,16,17] [o 31 (Bn .add 17 1),v 17 31]))))
def code681:AFunc:=⟨false,false,2,33,[.tmp 4],
 S (R [0,1] [o 4 (.val (.const (.slice none 0 (some 0))))])
 (S (S (R [0,1,11] [v 9 1,o 10 (.callg 520 [t 9]),o 11 (.un .not (t 10))])
 (.after (.cond (t 11) (S (R [4] [o 4 (.val (.const (.slice none 0 (some 0))))])
 (Z [4])) (.skip)) [0,1]))
 (S (R [0,1,5] [o 5 (.val (.const (.slice none 0 (some 0))))])
 (S (S (R [1,5,15,16,17] [v 12 0,v 13 1,o 14 (.callg 687 [t 13]),o 15 (.callg 480 [t 12,t 14]),o 16 (Sl 15),o 17 (.val (n 0))])
 (.after (.block 0 (.loop code681L0)) [5]))
 (S (R [4] [v 32 5,v 4 32])
 (Z [4]))))),none⟩
def code682L0:ACode :=
 .live [2,4,5,6] (S (S (R [2,4,5,6,26] [v 18 6,o 19 (.bin .gtr (t 18) (.const (.int .u32 0))),v 20 19,g 21 20 true (Vl 4),g 22 20 true (.nilcheck (t 21)),g 23 20 true (Fa 22 1),g 24 20 true (Lq 23),g 25 20 true (.un .not (t 24)),o 26 (.pick (t 20) (t 25) F)])
 (.after (.cond (t 26) (.skip) (.live [2,4,5] (.exit 0))) [2,4,5,6]))
 (S (.after (.block 1 (S (R [2,4,5,6,7] [v 29 4,o 30 (.callg 690 [t 29,n 4]),v 7 30])
 (.after (.region [⟨true,[0,1,0,0,0,16,48,120,252,508],[o 31 (Fa 5 2),o 32 (Lq 31),v 33 7,v 34 4,v 35 4,o 36 (.callg 690 [t 35,n 2]),o 37 (.conv (.int .i64) (t 36)),o 38 (.callg 691 [t 34,t 37]),o 39 (.build [.int .u32 0,.slice none 0 (some 0)] [(0,1,t 33),(1,1,t 38)]),o 40 (.mkslice 2 1 [.int .u32 0,.slice none 0 (some 0)] [(0,2,t 39)])]⟩,⟨false,[],[o 41 (.append 2 32 (t 32) (t 40)),o 42 (Fa 5 2),u (.store 1 (t 42) (t 41))]⟩]) [2,4,5,6]))) [2,4,5,6])
 (R [2,4,5,6] [v 27 6,o 28 (.bin .sub (t 27) (.const (.int .u32 1))),v 6 28])))
def code682:AFunc:=⟨false,false,1,62,[.cell 2 (some 3),.tmp 3],
 S (R [0,2] [o 2 (.lalloc [.int .u32 0,.int .u32 0,.slice none 0 (some 0)]),o 3 (.val (n 0))])
 (S (R [2,4] [v 8 0,o 9 (.build [.slice none 0 (some 0),.bool false] [(0,1,t 8)]),o 10 (.box (t 9)),v 4 10])
 (S (R [2,4,5] [v 11 4,o 12 (.callg 690 [t 11,n 4]),v 13 4,o 14 (.callg 690 [t 13,n 4]),o 15 (.build [.int .u32 0,.int .u32 0,.slice none 0 (some 0)] [(0,1,t 12),(1,1,t 14)]),o 5 (.lalloc [.int .u32 0,.int .u32 0,.slice none 0 (some 0)]),u (.store 3 (t 5) (t 15))])
 (S (S (R [2,4,5,6] [v 16 4,o 17 (.callg 690 [t 16,n 2]),v 6 17])
 (.after (.block 0 (.loop code682L0)) [2,4,5]))
 (S (S (R [2,5,59] [v 43 4,o 44 (.nilcheck (t 43)),o 45 (Fa 44 1),o 46 (Lq 45),v 47 46,g 48 47 false (Vl 4),g 49 47 false (.nilcheck (t 48)),g 50 47 false (Fa 49 0),g 51 47 false (Lq 50),g 52 47 false (Sl 51),g 53 47 false (Bn .gtr 52 0),o 54 (.pick (t 47) Y (t 53)),v 55 54,g 56 55 false (.load (some 3) (t 5)),g 57 55 false (.callg 689 [t 56]),g 58 55 false (.un .not (t 57)),o 59 (.pick (t 55) Y (t 58))])
 (.after (.cond (t 59) (S (R [2,3] [o 60 (.build [.int .u32 0,.int .u32 0,.slice none 0 (some 0)] []),u (.store 3 (t 2) (t 60)),o 3 (.val (n 8))])
 (Z [2,3])) (.skip)) [2,5]))
 (S (R [2,3] [o 61 (.load (some 3) (t 5)),u (.store 3 (t 2) (t 61)),o 3 (.val (n 0))])
 (Z [2,3])))))),none⟩
def code683:AFunc:=⟨false,false,2,9,[.tmp 4],
 S (R [0,1] [o 4 (.val (Ks []))])
 (S (R [4] [v 5 0,o 6 (.callg 687 [t 5]),v 7 1,o 8 (Bt .add 6 7),v 4 8])
 (Z [4])),none⟩
def code684L0:ACode :=
 .live [0,1,2,8,9,10] (S (S (R [0,1,2,8,9,10,17] [v 15 9,v 16 10,o 17 (Bt .lss 15 16)])
 (.after (.cond (t 17) (.skip) (.live [0,1,2,8,9] (.exit 0))) [0,1,2,8,9,10]))
 (.after (.block 1 (S (R [0,1,2,8,9,10,11] [v 18 9,v 19 10,o 20 (Bt .add 18 19),o 21 (.conv (.int .u64) (t 20)),o 22 (.bin .shr (t 21) (.const (.int .u64 1))),o 23 (.conv (.int .i64) (t 22)),v 11 23])
 (S (R [0,1,2,8,9,10,11,31] [v 24 2,v 25 0,v 26 11,o 27 (.iaddr 2 (t 25) (t 26)),o 28 (.load (some 2) (t 27)),v 29 1,o 30 (.call (t 24) [t 28,t 29]),o 31 (Bn .lss 30 0)])
 (.after (.cond (t 31) (R [0,1,2,8,9,10] [v 32 11,o 33 (Bn .add 32 1),v 9 33]) (R [0,1,2,8,9,10] [v 34 11,v 10 34])) [0,1,2,8,9,10])))) [0,1,2,8,9,10]))
def code684:AFunc:=⟨false,false,3,49,[.tmp 6,.tmp 7],
 S (R [0,1,2] [o 6 (.val (n 0)),o 7 (.val F)])
 (S (R [0,1,2,8] [v 12 0,o 13 (Sl 12),v 8 13])
 (S (R [0,1,2,8,9,10] [v 14 8,o 9 (.val (n 0)),v 10 14])
 (S (.after (.block 0 (.loop code684L0)) [0,1,2,8,9])
 (S (R [6,7] [v 35 9,v 36 9,v 37 8,o 38 (Bt .lss 36 37),v 39 38,g 40 39 true (Vl 2),g 41 39 true (Vl 0),g 42 39 true (Vl 9),g 43 39 true (.iaddr 2 (t 41) (t 42)),g 44 39 true (.load (some 2) (t 43)),g 45 39 true (Vl 1),g 46 39 true (.call (t 40) [t 44,t 45]),g 47 39 true (Bn .eql 46 0),o 48 (.pick (t 39) (t 47) F),v 6 35,v 7 48])
 (Z [6,7]))))),none⟩
def code685:AFunc:=⟨false,false,2,9,[.tmp 4],
 S (R [1,2] [o 2 (.lbox (t 0)),o 4 (.val (n 0))])
 (S (R [4] [o 5 (Fa 2 0),o 6 (Lq 5),v 7 1,o 8 (.callg 591 [t 6,t 7]),v 4 8])
 (Z [4])),none⟩
def code686:AFunc:=⟨false,false,3,33,[.tmp 6],
 S (R [0,1,2] [o 6 (.val (.const (.slice none 0 (some 0))))])
 (S (R [0,1,2] [v 8 0,v 9 1,v 10 2,v 11 0,o 12 (Sl 11),o 13 (.slice (.sl 2) (t 8) (some (t 9)) (some (t 10)) (some (t 12)))])
 (S (S (R [0,1,2,16] [v 14 1,v 15 2,o 16 (Bt .eql 14 15)])
 (.after (.cond (t 16) (S (R [6] [v 17 0,v 6 17])
 (Z [6])) (.skip)) [0,1,2]))
 (S (R [0,1,2,7] [v 18 0,o 19 (Sl 18),v 7 19])
 (S (.after (.region [⟨true,[],[v 20 0,v 21 1,o 22 (.slice (.sl 2) (t 20) none (some (t 21)) none),v 23 0,v 24 2,o 25 (.slice (.sl 2) (t 23) (some (t 24)) none none)]⟩,⟨false,[],[o 26 (.append 2 32 (t 22) (t 25)),v 0 26]⟩]) [0,7])
 (S (R [0] [v 27 0,v 28 0,o 29 (Sl 28),v 30 7,o 31 (.slice (.sl 2) (t 27) (some (t 29)) (some (t 30)) none),u (.ext (.clear 2 [.int .u32 0,.slice none 0 (some 0)]) [t 31])])
 (S (R [6] [v 32 0,v 6 32])
 (Z [6]))))))),none⟩
def code687:AFunc:=⟨false,false,1,6,[.tmp 2],
 S (R [0] [o 2 (.val (Ks []))])
 (S (R [2] [v 3 0,o 4 (.bin .add (Ks [114,47]) (t 3)),o 5 (.bin .add (t 4) (Ks [47])),v 2 5])
 (Z [2])),none⟩
def code688L0:ACode :=
 .live [4,25,26,27] (S (R [4,25,26,27,28] [o 28 (Bt .lss 27 26)])
 (S (.after (.cond (t 28) (.skip) (.live [4] (.exit 0))) [4,25,26,27])
 (S (.after (.block 1 (S (R [4,6,25,26,27] [o 29 (.iaddr 2 (t 25) (t 27)),o 30 (.load (some 2) (t 29)),o 6 (.lalloc [.int .u32 0,.slice none 0 (some 0)]),u (.store 2 (t 6) (t 30))])
 (S (.after (.region [⟨true,[0,0,2,6,15,0,32,96,224],[v 31 4,o 32 (Fa 6 0),o 33 (Lq 32),o 34 (.conv (.int .u64) (t 33)),o 35 (.callg 100385 [t 31,t 34,n 4]),o 36 (Fa 6 1),o 37 (Lq 36),o 38 (Sl 37),o 39 (.conv (.int .u64) (t 38))]⟩,⟨false,[],[o 40 (.callg 100385 [t 35,t 39,n 2]),v 4 40]⟩]) [4,6,25,26,27])
 (R [4,25,26,27] [v 41 4,o 42 (Fa 6 1),o 43 (Lq 42),o 44 (.append 1 1 (t 41) (t 43)),v 4 44])))) [4,25,26,27])
 (R [4,25,26,27] [o 45 (Bn .add 27 1),v 27 45]))))
def code688:AFunc:=⟨false,false,1,47,[.tmp 2,.tmp 3],
 S (R [1] [o 1 (.lbox (t 0)),o 2 (.val (.const (.slice none 0 (some 0)))),o 3 (.val (n 0))])
 (S (S (R [1,9] [o 7 (.load (some 3) (t 1)),o 8 (.callg 689 [t 7]),o 9 (.un .not (t 8))])
 (.after (.cond (t 9) (S (R [2,3] [o 2 (.val (.const (.slice none 0 (some 0)))),o 3 (.val (n 8))])
 (Z [2,3])) (.skip)) [1]))
 (S (.after (.region [⟨true,[0,1,3,7,0,16,48],[o 10 (Fa 1 0),o 11 (Lq 10),o 12 (.conv (.int .u64) (t 11)),o 13 (.callg 100385 [.const (.slice none 0 (some 0)),t 12,n 4]),o 14 (Fa 1 1),o 15 (Lq 14),o 16 (.conv (.int .u64) (t 15))]⟩,⟨false,[],[o 17 (.callg 100385 [t 13,t 16,n 4]),v 4 17]⟩]) [1,4])
 (S (R [1,4] [v 18 4,o 19 (Fa 1 2),o 20 (Lq 19),o 21 (Sl 20),o 22 (.conv (.int .u64) (t 21)),o 23 (.callg 100385 [t 18,t 22,n 2]),v 4 23])
 (S (S (R [4,25,26,27] [o 24 (Fa 1 2),o 25 (Lq 24),o 26 (Sl 25),o 27 (.val (n 0))])
 (.after (.block 0 (.loop code688L0)) [4]))
 (S (R [2,3] [v 46 4,v 2 46,o 3 (.val (n 0))])
 (Z [2,3])))))),none⟩
def code689L0:ACode :=
 .live [1,3,7,8,9] (S (R [1,3,7,8,9,10] [o 10 (Bt .lss 9 8)])
 (S (.after (.cond (t 10) (.skip) (.live [1] (.exit 0))) [1,3,7,8,9])
 (S (.after (.block 1 (S (R [1,3,5,7,8,9] [o 11 (.iaddr 2 (t 7) (t 9)),o 12 (.load (some 2) (t 11)),o 5 (.lalloc [.int .u32 0,.slice none 0 (some 0)]),u (.store 2 (t 5) (t 12))])
 (S (S (R [1,5,7,8,9,29] [o 13 (Fa 5 0),o 14 (Lq 13),v 15 3,o 16 (Bt .leq 14 15),v 17 16,g 18 17 false (Fa 5 0),g 19 17 false (Lq 18),g 20 17 false (Fa 1 0),g 21 17 false (Lq 20),g 22 17 false (Bt .geq 19 21),o 23 (.pick (t 17) Y (t 22)),v 24 23,g 25 24 false (Fa 5 1),g 26 24 false (Lq 25),g 27 24 false (Sl 26),g 28 24 false (Bn .gtr 27 512),o 29 (.pick (t 24) Y (t 28))])
 (.after (.cond (t 29) (S (R [2] [o 2 (.val F)])
 (Z [2])) (.skip)) [1,5,7,8,9]))
 (R [1,3,7,8,9] [o 30 (Fa 5 0),o 31 (Lq 30),v 3 31])))) [1,3,7,8,9])
 (R [1,3,7,8,9] [o 32 (Bn .add 9 1),v 9 32]))))
def code689:AFunc:=⟨false,false,1,42,[.tmp 2],
 S (R [1] [o 1 (.lbox (t 0)),o 2 (.val F)])
 (S (R [1,3] [o 3 (.val (.const (.int .u32 0)))])
 (S (S (R [1,3,7,8,9] [o 6 (Fa 1 2),o 7 (Lq 6),o 8 (Sl 7),o 9 (.val (n 0))])
 (.after (.block 0 (.loop code689L0)) [1]))
 (S (R [2] [o 33 (Fa 1 2),o 34 (Lq 33),o 35 (Sl 34),o 36 (Bn .leq 35 64),v 37 36,g 38 37 true (Fa 1 0),g 39 37 true (Lq 38),g 40 37 true (.bin .gtr (t 39) (.const (.int .u32 0))),o 41 (.pick (t 37) (t 40) F),v 2 41])
 (Z [2])))),none⟩
def code690:AFunc:=⟨false,false,2,42,[.tmp 4],
 S (R [0,1] [o 4 (.val (.const (.int .u32 0)))])
 (S (R [0,1,5,6] [v 8 0,o 9 (.nilcheck (t 8)),o 10 (Fa 9 0),o 11 (Lq 10),v 12 1,o 13 (.callg 500 [t 11,n 0,t 12]),v 7 13,o 14 (Xt 7 0),o 15 (Xt 7 1),v 5 14,v 6 15])
 (S (S (R [0,1,5] [v 16 0,v 17 0,o 18 (.nilcheck (t 17)),o 19 (Fa 18 1),o 20 (Lq 19),v 21 20,g 22 21 false (Vl 6),g 23 21 false (Bn .neq 22 0),o 24 (.pick (t 21) Y (t 23)),o 25 (.nilcheck (t 16)),o 26 (Fa 25 1),u (.store 1 (t 26) (t 24))])
 (S (R [0,1,5,30] [v 27 0,o 28 (.nilcheck (t 27)),o 29 (Fa 28 1),o 30 (Lq 29)])
 (.after (.cond (t 30) (S (R [4] [o 4 (.val (.const (.int .u32 0)))])
 (Z [4])) (.skip)) [0,1,5])))
 (S (R [5] [v 31 0,v 32 0,o 33 (.nilcheck (t 32)),o 34 (Fa 33 0),o 35 (Lq 34),v 36 1,o 37 (.slice (.sl 1) (t 35) (some (t 36)) none none),o 38 (.nilcheck (t 31)),o 39 (Fa 38 0),u (.store 1 (t 39) (t 37))])
 (S (R [4] [v 40 5,o 41 (.conv (.int .u32) (t 40)),v 4 41])
 (Z [4]))))),none⟩
def code691:AFunc:=⟨false,false,2,43,[.tmp 4],
 S (R [0,1] [o 4 (.val (.const (.slice none 0 (some 0))))])
 (S (S (R [0,1] [v 6 0,v 7 0,o 8 (.nilcheck (t 7)),o 9 (Fa 8 1),o 10 (Lq 9),v 11 10,g 12 11 false (Vl 1),g 13 11 false (Vl 0),g 14 11 false (.nilcheck (t 13)),g 15 11 false (Fa 14 0),g 16 11 false (Lq 15),g 17 11 false (Sl 16),g 18 11 false (Bt .gtr 12 17),o 19 (.pick (t 11) Y (t 18)),o 20 (.nilcheck (t 6)),o 21 (Fa 20 1),u (.store 1 (t 21) (t 19))])
 (S (R [0,1,25] [v 22 0,o 23 (.nilcheck (t 22)),o 24 (Fa 23 1),o 25 (Lq 24)])
 (.after (.cond (t 25) (S (R [4] [o 4 (.val (.const (.slice none 0 (some 0))))])
 (Z [4])) (.skip)) [0,1])))
 (S (R [0,1,5] [v 26 0,o 27 (.nilcheck (t 26)),o 28 (Fa 27 0),o 29 (Lq 28),v 30 1,o 31 (.slice (.sl 1) (t 29) none (some (t 30)) none),o 32 (.callg 100465 [t 31]),v 5 32])
 (S (R [5] [v 33 0,v 34 0,o 35 (.nilcheck (t 34)),o 36 (Fa 35 0),o 37 (Lq 36),v 38 1,o 39 (.slice (.sl 1) (t 37) (some (t 38)) none none),o 40 (.nilcheck (t 33)),o 41 (Fa 40 0),u (.store 1 (t 41) (t 39))])
 (S (R [4] [v 42 5,v 4 42])
 (Z [4]))))),none⟩
def code100273:AFunc:=⟨false,false,1,8,[.tmp 2],
 S (R [0] [o 2 (.val (.const (.slice none 0 (some 0))))])
 (S (S (R [0,4] [v 3 0,o 4 (.eqnil .slice false (t 3) (.const (.slice none 0 (some 0))))])
 (.after (.cond (t 4) (S (R [2] [o 2 (.val (.const (.slice none 0 (some 0))))])
 (Z [2])) (.skip)) [0]))
 (S (R [2] [o 5 (.mkslice 1 0 [] []),v 6 0,o 7 (.append 1 16 (t 5) (t 6)),v 2 7])
 (Z [2]))),none⟩
def T:Nat→Option AFunc:=fun g=>match AbsBlo.T g with
 | some f=>some f
 | none=>List.lookup g [(444,code444),(479,code479),(498,code498),(520,code520),(537,code537),(538,code538),(544,code544),(651,code651),(653,code653),(654,code654),(655,code655),(656,code656),(657,code657),(658,code658),(659,code659),(660,code660),(661,code661),(662,code662),(663,code663),(664,code664),(665,code665),(666,code666),(667,code667),(668,code668),(669,code669),(670,code670),(671,code671),(672,code672),(673,code673),(674,code674),(675,code675),(676,code676),(677,code677),(678,code678),(679,code679),(680,code680),(681,code681),(682,code682),(683,code683),(684,code684),(685,code685),(686,code686),(687,code687),(688,code688),(689,code689),(690,code690),(691,code691),(100273,code100273)]
theorem sub:∀ g f,AbsBlo.T g=some f→T g=some f:=fun g f h=>by unfold T; rw [h]
theorem t444:T 444=some code444:=rfl
theorem t479:T 479=some code479:=rfl
theorem t498:T 498=some code498:=rfl
theorem t520:T 520=some code520:=rfl
theorem t537:T 537=some code537:=rfl
theorem t538:T 538=some code538:=rfl
theorem t544:T 544=some code544:=rfl
theorem t651:T 651=some code651:=rfl
theorem t653:T 653=some code653:=rfl
theorem t654:T 654=some code654:=rfl
theorem t655:T 655=some code655:=rfl
theorem t656:T 656=some code656:=rfl
theorem t657:T 657=some code657:=rfl
theorem t658:T 658=some code658:=rfl
theorem t659:T 659=some code659:=rfl
theorem t660:T 660=some code660:=rfl
theorem t661:T 661=some code661:=rfl
theorem t662:T 662=some code662:=rfl
theorem t663:T 663=some code663:=rfl
theorem t664:T 664=some code664:=rfl
theorem t665:T 665=some code665:=rfl
theorem t666:T 666=some code666:=rfl
theorem t667:T 667=some code667:=rfl
theorem t668:T 668=some code668:=rfl
theorem t669:T 669=some code669:=rfl
theorem t670:T 670=some code670:=rfl
theorem t671:T 671=some code671:=rfl
theorem t672:T 672=some code672:=rfl
theorem t673:T 673=some code673:=rfl
theorem t674:T 674=some code674:=rfl
theorem t675:T 675=some code675:=rfl
theorem t676:T 676=some code676:=rfl
theorem t677:T 677=some code677:=rfl
theorem t678:T 678=some code678:=rfl
theorem t679:T 679=some code679:=rfl
theorem t680:T 680=some code680:=rfl
theorem t681:T 681=some code681:=rfl
theorem t682:T 682=some code682:=rfl
theorem t683:T 683=some code683:=rfl
theorem t684:T 684=some code684:=rfl
theorem t685:T 685=some code685:=rfl
theorem t686:T 686=some code686:=rfl
theorem t687:T 687=some code687:=rfl
theorem t688:T 688=some code688:=rfl
theorem t689:T 689=some code689:=rfl
theorem t690:T 690=some code690:=rfl
theorem t691:T 691=some code691:=rfl
theorem t100273:T 100273=some code100273:=rfl
end Go.Abs.AbsNat

namespace Go.Abs.AbsNat
open Go.Abs.AbsBlb hiding T
open Go.Abs.Short
theorem subB:∀ g f,AbsBlb.T g=some f→T g=some f:=fun g f h=>sub g f (AbsBlo.sub g f h)
def isName (s:Bs):Bool:=!decide (s=[]) && (decide (s.length≤16) && decide (firstOdd s 0 < 0))
def preB (s:Bs):Bs:=[114,47]++s++[47]
def keyB (s k:Bs):Bs:=preB s++k
section
variable {H:List AObj} {b w:Nat}
section
attribute [-simp] getElem?_pos getElem?_neg List.all_eq_true
attribute [local simp] qZ qS nltT nltF iltT iltF ileT nleT dz
theorem s687 {s:Bs} (h:s.length≤1000000):xCall T 687 [.str s] ⟨H,b,w⟩=some (.str (preB s),⟨H,b,w⟩):=by simp (disch:=omega) [ba t687,code687,preB]
theorem s683 {s k:Bs} (h:s.length≤1000000) (h':k.length≤1000000):xCall T 683 [.str s,.str k] ⟨H,b,w⟩=some (.str (keyB s k),⟨H,b,w⟩):=by
 have h687:=fun w=>s687 (H:=H) (b:=b) (w:=w) h
 have hl:(preB s).length≤1000003:=by unfold preB; simp; omega
 unfold keyB;generalize preB s=P at *;simp (disch:=omega) [ba t683,code683,h687]
end
theorem s544 {s:Bs}:xCall T 544 [.str s,.func 538 [] [],.bool true] ⟨H,b,w⟩=some (.int .i64 (firstOdd s 0),⟨H,b,w⟩):=by exact xLib_eq T t544 _ _ (F:=idxA)
section
attribute [-simp] getElem?_pos getElem?_neg List.all_eq_true
attribute [local simp] qZ qS nltT nltF iltT iltF ileT nleT dz
theorem s537 {s:Bs}:xCall T 537 [.str s,.func 538 [] []] ⟨H,b,w⟩=some (.int .i64 (firstOdd s 0),⟨H,b,w⟩):=by
 have h544:=fun w=>s544 (H:=H) (b:=b) (w:=w) (s:=s)
 simp (disch:=omega) [ba t537,code537,h544]
theorem s520 {s:Bs} (h:s.length≤1000000):xCall T 520 [.str s] ⟨H,b,w⟩=some (.bool (isName s),⟨H,b,w⟩):=by
 have h537:=fun w=>s537 (H:=H) (b:=b) (w:=w) (s:=s)
 unfold isName;by_cases c0:s=[]
 ·subst c0;simp (disch:=omega) [ba t520,code520,h537]
 ·by_cases c1:s.length≤16
  ·by_cases c2:firstOdd s 0 < 0
   ·simp (disch:=omega) [ba t520,code520,h537,c0,c1,c2]
   ·simp (disch:=omega) [ba t520,code520,h537,c0,c1,c2]
  ·have c1':¬ ((s.length:Int)≤16):=by omega
   simp (disch:=omega) [ba t520,code520,h537,c0,c1,c1']
theorem s591 {x y:Nat}:xCall T 591 [.int .u32 x,.int .u32 y] ⟨H,b,w⟩=some (.int .i64 (if x < y then -1 else if y < x then 1 else 0),⟨H,b,w⟩):=by
 have h592:∀ (x:Nat) w,xCall AbsBlb.T 592 [.int .u32 x] ⟨H,b,w⟩=some (.bool false,⟨H,b,w⟩):=fun x w=>by simp (disch:=omega) [ba AbsBlb.t592,AbsBlb.code592]
 have key:xCall AbsBlb.T 591 [.int .u32 x,.int .u32 y] ⟨H,b,w⟩=some (.int .i64 (if x < y then -1 else if y < x then 1 else 0),⟨H,b,w⟩):=by
  by_cases c1:x < y
  ·have c2:¬ y < x:=by omega
   simp (disch:=omega) [ba AbsBlb.t591,AbsBlb.code591,h592,c1,c2]
  ·by_cases c2:y < x
   ·simp (disch:=omega) [ba AbsBlb.t591,AbsBlb.code591,h592,c1,c2]
   ·simp (disch:=omega) [ba AbsBlb.t591,AbsBlb.code591,h592,c1,c2]
 exact fe subB key
end
end
end Go.Abs.AbsNat

namespace Go.Abs.AbsNat
open Go.Abs.AbsBlb hiding T
open Go.Abs.Short
structure EnU where
 id:Nat
 data:Bs
abbrev EV:=EnU × AVal
def EV.cells (p:EV):List AVal:=[.int .u32 p.1.id,p.2]
def EV.ok (H:List AObj) (p:EV):Prop:=BlobV H p.2 p.1.data
def rightL (next:Nat):Nat→List EnU→Bool
 | _,[]=>true
 | before,e :: L=>(decide (before < e.id) && decide (e.id < next) && decide (e.data.length≤512)) && rightL next e.id L
def rightR (next:Nat) (L:List EnU):Bool:=rightL next 0 L && (decide (L.length≤64) && decide (0 < next))
def entB (e:EnU):Bs:=putB e.id 4++putB e.data.length 2++e.data
def recsB (next ver:Nat) (L:List EnU):Bs:=putB next 4++putB ver 4++putB L.length 2++L.flatMap entB
section
variable {H:List AObj} {b w:Nat}
section
attribute [-simp] getElem?_pos getElem?_neg List.all_eq_true
attribute [local simp] qZ qS nltT nltF iltT iltF ileT nleT dz
theorem l689 {L:List EV} {a:Option (Nat × Nat)} {c:Option Nat} {next ver:Nat} {y:AVal} (hR:Row H 2 EV.cells L a) (hn:L.length≤1000) (hok:∀ p ∈ L,EV.ok H p):∀ (j i w before:Nat),i+j=L.length→rightL next before ((L.drop i).map Prod.fst)=true→∀ {β:Type} (k:AExit→St→Option β),
  xK T (.loop code689L0) ⟨[(1,.var [.int .u32 next,.int .u32 ver,y]),(3,.val (.int .u32 before)),(7,.val (.slice a L.length c)),(8,.val (.int .i64 L.length)),(9,.val (.int .i64 i))],⟨H,b,w⟩⟩ (k:=⟨k⟩) =
   k (.exit 0) ⟨[(1,.var [.int .u32 next,.int .u32 ver,y])],⟨H,b,w⟩⟩
 | 0,i,w,before,hi,hr,β,k=>by rw [c8];simp (disch:=omega) [code689L0]
 | j+1,i,w,before,hi,hr,β,k=>by
  obtain ⟨x,hx⟩:∃ x,L[i]? = some x:=⟨_,aq (by omega)⟩;obtain ⟨bb,o,cs,rfl,hrow,hpart⟩:=hR.at' (jz hx);obtain ⟨p1,p2⟩:=hpart i x hx;obtain ⟨xa,xc,xv,-,-⟩:=hok x (bp hx);have e2:((i+1:Nat):Int)=(i:Int)+1:=by omega
  rw [jm hx,bh] at hr;unfold rightL at hr;simp only [aw,decide_eq_true_eq] at hr;obtain ⟨⟨⟨r1,r2⟩,r3⟩,r4⟩:=hr;have ih:=l689 (c:=c) (ver:=ver) (y:=y) hR hn hok j (i+1) w x.1.id (by omega) r4 k;rw [e2] at ih;have hxc:EV.cells x=[.int .u32 x.1.id,.slice xa x.1.data.length xc]:=by unfold EV.cells; rw [xv]
  rw [hxc] at p2;rw [c8,← ih];have r1':¬ x.1.id≤before:=by omega
  have r2':¬ next≤x.1.id:=by omega
  have r3':¬ ((512:Int) < x.1.data.length):=by omega
  generalize ACode.loop code689L0=LL;generalize x.1.id=xi at *;generalize x.1.data.length=xn at *;simp (disch:=omega) [code689L0,hrow,p1,p2,r1',r2',r3']
theorem s689 {L:List EV} {a:Option (Nat × Nat)} {c:Option Nat} {next ver:Nat} (hR:Row H 2 EV.cells L a) (hok:∀ p ∈ L,EV.ok H p) (hr:rightR next (L.map Prod.fst)=true) :
  xCall T 689 [.agg [.int .u32 next,.int .u32 ver,.slice a L.length c]] ⟨H,b,w⟩=some (.bool true,⟨H,b,w⟩):=by
 unfold rightR at hr;simp only [aw,decide_eq_true_eq,bt] at hr;obtain ⟨r1,r2,r3⟩:=hr;have hl:=fun {β:Type} w (k:AExit→St→Option β)=>l689 (b:=b) (c:=c) (ver:=ver) (y:=.slice a L.length c) hR (by omega) hok L.length 0 w 0 (by omega) (by simpa using r1) k
 simp only [bg] at hl;have r2':(L.length:Int)≤64:=by omega
 simp (disch:=omega) [ba t689,code689,hl,r2,r2',r3]
end
end
end Go.Abs.AbsNat

namespace Go.Abs.AbsBlb
open Go.Abs.Short
section
variable {H:List AObj} {b w:Nat}
theorem flat_u8:∀ A:Bs,A.flatMap (fun c=>[u8V c])=A.map u8V
 | []=>rfl
 | a :: A=>by rw [dy,flat_u8 A]; rfl
section
attribute [-simp] getElem?_pos getElem?_neg List.all_eq_true
attribute [local simp] qZ qS nltT nltF iltT iltF ileT nleT dz
theorem l385n {v k:Nat} (hbl:b≤H.length) (hk:k≤8) (hv:v < 18446744073709551616):∀ (j i w:Nat) (P:List AObj) (x:AVal),i+j=k→Pre H P→FRow H.length 1 (fun c=>[u8V c]) ((putB v k).take i) P x→H.length≤w →
  ∃ P' x' w',Pre H P'∧FRow H.length 1 (fun c=>[u8V c]) (putB v k) P' x'∧H.length≤w'∧∀ {β:Type} (k':AExit→St→Option β),
  xK T (.loop code100385L0) ⟨[(0,.val x),(1,.val (.int .u64 v)),(2,.val (.int .i64 k)),(18,.val (.int .i64 k)),(19,.val (.int .i64 i))],⟨P,b,w⟩⟩ (k:=⟨k'⟩) =
   k' (.exit 0) ⟨[(0,.val x')],⟨P',b,w'⟩⟩
 | 0,i,w,P,x,hi,hp,h,hw=>by
  obtain rfl:i=k:=by omega
  rw [dr (by rw [fj]; omega)] at h;refine ⟨P,x,w,hp,h,hw,fun k'=>?_⟩;rw [c8];simp (disch:=omega) [code100385L0]
 | j+1,i,w,P,x,hi,hp,h,hw=>by
  have hg:(putB v k)[i]? = some (byteB v k i):=by unfold putB;rw [br,aq (by rw [jy]; omega),List.getElem_range]; rfl
  have ht:(putB v k).take (i+1)=(putB v k).take i++[byteB v k i]:=by rw [List.take_add_one,hg]; rfl
  have hln:((putB v k).take i).length≤8:=by rw [dk,fj]; omega
  obtain ⟨P1,x1,nx,f1,f2,f3,f4,f5⟩:=h.add (b:=b) (by':=1) (fun _=>rfl) hp.len hbl (by omega) (by omega) (byteB v k i);rw [← ht] at f1;have hp1:Pre H P1:=fun q o hq=>f2 q o (ah hq) (hp q o hq)
  obtain ⟨P2,x2,w2,i1,i2,i3,i4⟩:=l385n hbl hk hv j (i+1) (nx w) P1 x1 (by omega) hp1 f1 (by have:=(f4 w).2; omega);refine ⟨P2,x2,w2,i1,i2,i3,fun k'=>?_⟩;have e2:((i+1:Nat):Int)=(i:Int)+1:=by omega
  have ih:=i4 k';rw [e2] at ih;have hby:=byte_eq (v:=v) (i:=i) (by omega) hk;rw [c8,← ih];generalize ACode.loop code100385L0=LL;unfold u8V at f5;simp (disch:=omega) [code100385L0,-du,lp,hby,f5]
theorem s385n {v k:Nat} (hbl:b≤H.length) (hk:0 < k∧k≤8) (hv:v < 18446744073709551616) :
  xCall T 100385 [.slice none 0 (some 0),.int .u64 v,.int .i64 k] ⟨H,b,w⟩=some (.slice (some (H.length,0)) k none,⟨H++[.cells 1 ((putB v k).map u8V)],b,w⟩):=by
 have h411:=fun w=>s411 (H:=H) (b:=b) (w:=w) (k:=(k:Int))
 have q1:(1:Int)≤k:=by omega
 have q2:(k:Int)≤8:=by omega
 obtain ⟨P,x,w',i1,i2,i3,i4⟩:=l385n hbl hk.2 hv k 0 H.length H (.slice none 0 (some 0)) (by omega) (Pre.refl _) (.inl ⟨by rw [List.take_zero],rfl⟩) (aj _);rcases i2 with ⟨e,-⟩ | ⟨-,q,hq,rfl,hr⟩
 ·have:=congrArg List.length e;rw [fj] at this; simp at this; omega
 ·rw [flat_u8] at hr;rw [fj] at i4;have hf:=fun w0=>nf (O:=H) (P:=P) (b:=b) (w:=w0) (W:=w') (q:=q) (n:=k) (c:=none) hr (lh _) (fun g=>lj g _) hq i3
  simp only [bg] at i4;generalize (putB v k).map u8V=Y at *;simp (disch:=omega) [ba t100385,code100385,-dg,h411,q1,q2,i4,hf]
end
end
end Go.Abs.AbsBlb
namespace Go.Abs.AbsNat
open Go.Abs.AbsBlb hiding T
open Go.Abs.Short
section
variable {H:List AObj} {b w:Nat}
section
attribute [-simp] getElem?_pos getElem?_neg List.all_eq_true
attribute [local simp] qZ qS nltT nltF iltT iltF ileT nleT dz
theorem l688 {L:List EV} {a:Option (Nat × Nat)} {c:Option Nat} (hR:Row H 2 EV.cells L a) (hn:L.length≤64) (hok:∀ p ∈ L,EV.ok H p∧p.1.id < 4294967296∧p.1.data.length≤512) (hb:b≤H.length):∀ (j i w q n:Nat) (P:List AObj) (l:Bs),i+j=L.length→Pre H P→P[q]? = some (.cells 1 (l.map u8V))→l.length=n→0 < n→n≤100+i*600→H.length≤q→H.length≤w →
  ∃ P' q' w',Pre H P'∧P'[q']? = some (.cells 1 ((l++((L.drop i).map Prod.fst).flatMap entB).map u8V))∧H.length≤q'∧H.length≤w'∧∀ {β:Type} (k:AExit→St→Option β),
  xK T (.loop code688L0) ⟨[(4,.val (.slice (some (q,0)) n none)),(25,.val (.slice a L.length c)),(26,.val (.int .i64 L.length)),(27,.val (.int .i64 i))],⟨P,b,w⟩⟩ (k:=⟨k⟩) =
   k (.exit 0) ⟨[(4,.val (.slice (some (q',0)) (l++((L.drop i).map Prod.fst).flatMap entB).length none))],⟨P',b,w'⟩⟩
 | 0,i,w,q,n,P,l,hi,hp,hq,hl,h0,hs,h1,h2=>by
  have hd:L.drop i=[]:=d0 (by omega);refine ⟨P,q,w,hp,by rw [hd]; simpa using hq,h1,h2,fun k=>?_⟩;have e:(l++((L.drop i).map Prod.fst).flatMap entB).length=n:=by rw [hd]; simpa using hl
  rw [e,c8];simp (disch:=omega) [code688L0]
 | j+1,i,w,q,n,P,l,hi,hp,hq,hl,h0,hs,h1,h2=>by
  obtain ⟨x,hx⟩:∃ x,L[i]? = some x:=⟨_,aq (by omega)⟩;obtain ⟨bb,o,cs,rfl,hrow,hpart⟩:=hR.at' (jz hx);obtain ⟨p1,p2⟩:=hpart i x hx;have hPr:P[bb]? = some (.cells 2 cs):=hp _ _ hrow;obtain ⟨hbv,k1,k2⟩:=hok x (bp hx);have hpl:=hp.len;have e2:((i+1:Nat):Int)=(i:Int)+1:=by omega
  have hql:=ah hq;have S0:SlB P q 0 n l:=SlB.whole hq hl;have a1:=fun w=>fe subB (s385 (w:=w) (b:=b) (c:=none) (v:=x.1.id) (k:=4) S0 h0 (by omega) (by omega) (by omega) (by omega) (aj _))
  have S1:SlB (P++[.cells 1 ((l++putB x.1.id 4).map u8V)]) P.length 0 (n+4) (l++putB x.1.id 4):=SlB.whole (fo _ _) (by rw [au,fj]; omega);have a2:=fun w=>fe subB (s385 (w:=w) (b:=b) (c:=none) (v:=x.1.data.length) (k:=2) S1 (by omega) (by omega) (by rw [au]; omega) (by omega) (by omega) (aj _))
  have hp2:Pre H (P++[.cells 1 ((l++putB x.1.id 4).map u8V),.cells 1 ((l++putB x.1.id 4++putB x.1.data.length 2).map u8V)]):=hp.trans (Pre.app _ _);have hbv2:BlobV (P++[.cells 1 ((l++putB x.1.id 4).map u8V),.cells 1 ((l++putB x.1.id 4++putB x.1.data.length 2).map u8V)]) x.2 x.1.data:=hbv.mono hp2.len fun _ _ _ _ _ y hy=>hp2 _ _ hy
  obtain ⟨q',P',nx,b1,b2,b3,b4,-,b5⟩:=app_row (k:=x.1.data) (b:=b) (y:=x.2) (n:=n+6) (q:=P.length+1) hp2 (j9 P _ 1) (by rw [au,au,fj,fj]; omega) (by omega) (by omega) hb (by omega) (fun w=>hbv2.row) hbv2.len
  have hlen:(l++putB x.1.id 4++putB x.1.data.length 2++x.1.data).length=n+6+x.1.data.length:=by simp only [au,fj,hl]
  obtain ⟨P3,q3,w3,i1,i2,i3,i4,i5⟩:=l688 (c:=c) hR hn hok hb j (i+1) (nx w) q' (n+6+x.1.data.length) P' _ (by omega) b1 b2 hlen (by omega) (by omega) b3 (b4 w h2)
  have e3:l++putB x.1.id 4++putB x.1.data.length 2++x.1.data++((L.drop (i+1)).map Prod.fst).flatMap entB=l++((L.drop i).map Prod.fst).flatMap entB:=by rw [jm hx,bh,dy];unfold entB;simp only [a7]
  rw [e3] at i2;refine ⟨P3,q3,w3,i1,i2,i3,i4,fun k=>?_⟩;have ih:=i5 k;rw [e3,e2] at ih;obtain ⟨xa,xc,xv,xid,-⟩:=hbv;have hxc:EV.cells x=[.int .u32 x.1.id,x.2]:=rfl;rw [hxc] at p2;rw [c8,← ih];have w1:IntKind.u64.wrap (x.1.id:Int)=x.1.id:=lp (by omega);have w2:IntKind.u64.wrap (x.1.data.length:Int)=x.1.data.length:=lp (by omega);simp only [au,b8,dt,dh,Nat.reduceAdd,a7,e8,fg,bg] at a1 a2 b5;rw [xv] at p2 b5;generalize ACode.loop code688L0=LL;generalize AObj.cells 1 ((l++(putB x.1.id 4++putB x.1.data.length 2)).map u8V)=o2 at *;generalize AObj.cells 1 ((l++putB x.1.id 4).map u8V)=o1 at *;generalize x.1.id=xi at *;generalize x.1.data.length=xn at *;rcases xa with _ | ⟨xp,xo⟩
  ·simp (disch:=omega) [code688L0,-du,hPr,p1,p2,w1,w2,a1,a2,b5,-el,g7,g8,fq,bi]
  ·have hxp:=eg (xid xp xo rfl) hpl;simp (disch:=omega) [code688L0,-du,hPr,p1,p2,w1,w2,a1,a2,b5,hxp,-el,g7,g8,fq,bi]
end
theorem u6 {next:Nat}:∀ {L:List EnU} {before:Nat},rightL next before L=true→∀ e ∈ L,e.id < next∧e.data.length≤512
 | [],_,_,e,he=>by cases he
 | a :: L,before,h,e,he=>by
  unfold rightL at h;simp only [aw,decide_eq_true_eq] at h;rcases ed.1 he with rfl | he
  ·exact ⟨h.1.1.2,h.1.2⟩
  ·exact u6 h.2 e he
section
attribute [-simp] getElem?_pos getElem?_neg List.all_eq_true
attribute [local simp] qZ qS nltT nltF iltT iltF ileT nleT dz
theorem s688 {L:List EV} {a:Option (Nat × Nat)} {c:Option Nat} {next ver:Nat} (hR:Row H 2 EV.cells L a) (hok:∀ p ∈ L,EV.ok H p) (hr:rightR next (L.map Prod.fst)=true) (hnx:next < 4294967296) (hvr:ver < 4294967296) (ha:∀ p o,a=some (p,o)→p < H.length) (hb:b≤H.length) :
  xCall T 688 [.agg [.int .u32 next,.int .u32 ver,.slice a L.length c]] ⟨H,b,w⟩=some (.tuple [.slice (some (H.length,0)) (recsB next ver (L.map Prod.fst)).length none,.int .i64 0],⟨H++[.cells 1 ((recsB next ver (L.map Prod.fst)).map u8V)],b,w⟩):=by
 have h689:=fun w=>s689 (b:=b) (w:=w) (c:=c) (ver:=ver) hR hok hr
 have hr2:=hr;unfold rightR at hr2;simp only [aw,decide_eq_true_eq,bt] at hr2;obtain ⟨r1,r2,r3⟩:=hr2
 have hok2:∀ p ∈ L,EV.ok H p∧p.1.id < 4294967296∧p.1.data.length≤512:=fun p hp=>by have:=u6 r1 p.1 (lr hp);exact ⟨hok p hp,by omega,this.2⟩
 have a1:=fun w=>fe subB (s385n (H:=H) (b:=b) (w:=w) (v:=next) (k:=4) hb (by omega) (by omega))
 have S1:SlB (H++[.cells 1 ((putB next 4).map u8V)]) H.length 0 4 (putB next 4):=SlB.whole (fo _ _) (fj _ _);have a2:=fun w=>fe subB (s385 (w:=w) (b:=b) (c:=none) (v:=ver) (k:=4) S1 (by omega) (by omega) (by rw [au]; omega) (by omega) (by omega) (aj _))
 have S2:SlB (H++[.cells 1 ((putB next 4).map u8V),.cells 1 ((putB next 4++putB ver 4).map u8V)]) (H.length+1) 0 8 (putB next 4++putB ver 4):=SlB.whole (j9 H _ 1) (by rw [au,fj,fj]);have a3:=fun w=>fe subB (s385 (w:=w) (b:=b) (c:=none) (v:=L.length) (k:=2) S2 (by omega) (by omega) (by rw [au]; omega) (by omega) (by omega) (aj _))
 obtain ⟨P,q,w',i1,i2,i3,i4,i5⟩:=l688 (b:=b) (c:=c) hR r2 hok2 hb L.length 0 H.length (H.length+2) 10 (H++[.cells 1 ((putB next 4).map u8V),.cells 1 ((putB next 4++putB ver 4).map u8V),.cells 1 ((putB next 4++putB ver 4++putB L.length 2).map u8V)]) (putB next 4++putB ver 4++putB L.length 2) (by omega) (Pre.app _ _) (j9 H _ 2) (by simp [fj]) (by omega) (by omega) (by omega) (aj _)
 have e:putB next 4++putB ver 4++putB L.length 2++((L.drop 0).map Prod.fst).flatMap entB=recsB next ver (L.map Prod.fst):=by unfold recsB;rw [e7,bt]
 rw [e] at i2 i5;have hf:=fun w0=>yp (k:=.i64) (x:=0) (O:=H) (P:=P) (b:=b) (w:=w0) (W:=w') (q:=q) (n:=(recsB next ver (L.map Prod.fst)).length) (c:=none) i2 (lh _) (fun g=>lj g _) i3 i4
 have w1:IntKind.u64.wrap (next:Int)=next:=lp (by omega)
 have w2:IntKind.u64.wrap (ver:Int)=ver:=lp (by omega);have w3:IntKind.u64.wrap (L.length:Int)=L.length:=lp (by omega);simp only [au,b8,dt,dh,Nat.reduceAdd,a7,e8,fg,bg] at a1 a2 a3 i5;generalize (recsB next ver (L.map Prod.fst)).length=N at *;generalize (recsB next ver (L.map Prod.fst)).map u8V=Y at *;generalize AObj.cells 1 ((putB next 4++(putB ver 4++putB L.length 2)).map u8V)=o3 at *;generalize AObj.cells 1 ((putB next 4++putB ver 4).map u8V)=o2 at *;generalize AObj.cells 1 ((putB next 4).map u8V)=o1 at *;rcases a with _ | ⟨xp,xo⟩
 ·simp (disch:=omega) [ba t688,code688,-dg,h689,a1,a2,a3,w1,w2,w3,i5,hf,-el,g7,g8,fq,bi]
 ·have hxp:=ha xp xo rfl;simp (disch:=omega) [ba t688,code688,-dg,h689,a1,a2,a3,w1,w2,w3,i5,hf,hxp,-el,g7,g8,fq,bi]
end
end
end Go.Abs.AbsNat

namespace Go.Abs.AbsNat
open Go.Abs.AbsBlb hiding T
open Go.Abs.Short
section
variable {H:List AObj} {b:Nat}
theorem getB_u32 {l:Bs} {k:Nat} (hk:k≤4):getB (l.take k) < 4294967296:=by
 have h:=xz (l.take k) 0 0 (by decide);have h2:0+(l.take k).length≤4:=by rw [dk]; omega
 exact eg h (bz (Nat.pow_le_pow_right (by decide) h2) (by decide))
section
attribute [-simp] getElem?_pos getElem?_neg List.all_eq_true
attribute [local simp] qZ qS nltT nltF iltT iltF ileT nleT dz
theorem p690 {p o n q k:Nat} {l:Bs} (hq:H[q]? = some (.cells 2 [.slice (some (p,o)) n none,.bool false])) (hl:SlB H p o n l) (hn:n≤1000000) (hk:0 < k∧k≤4) (hkn:k≤n) (hpq:p≠q) (hb:b≤q) (w:Nat) :
  xCall T 690 [.ptr (some (q,0)),.int .i64 k] ⟨H,b,w⟩=some (.int .u32 (getB (l.take k):Nat),⟨H.set q (.cells 2 [.slice (some (p,o+k)) (n - k) none,.bool false]),b,min w q⟩):=by
 have h500:=fun w=>fe subB (s500 (H:=H) (b:=b) (w:=w) (a:=0) (k:=k) (c:=none) hl (aj _) (by omega) (by omega) (by omega))
 have hu:=getB_u32 (l:=l) hk.2;rw [e7] at h500;have hql:=ah hq;have hset:∀ x,(H.set q x)[q]? = some x:=fun x=>by rw [jc hql]
 have hwu:IntKind.u32.wrap (getB (l.take k):Int)=getB (l.take k):=by unfold IntKind.wrap;show (if (false && _)=true then _ else (_ % 2 ^ 32))=_;simp; omega
 generalize getB (l.take k)=v at *;simp only [bg] at h500;obtain ⟨-,X,hp,-⟩:=hl;have hps:∀ x,(H.set q x)[p]? = some (.cells 1 X):=fun x=>by rw [av (fun e=>hpq e.symm)]; exact hp
 simp (disch:=omega) [ba t690,code690,hq,h500,hset,hwu,hp,hps]
theorem p691 {p o n q k:Nat} {l:Bs} (hq:H[q]? = some (.cells 2 [.slice (some (p,o)) n none,.bool false])) (hl:SlB H p o n l) (hn:n≤1000000) (hkn:k≤n) (hpq:p≠q) (hb:b≤q) :
  ∃ c',k≤(c':Option Nat).getD k∧∀ w,xCall T 691 [.ptr (some (q,0)),.int .i64 k] ⟨H,b,w⟩=some (.slice (some (H.length,0)) k c',⟨H.set q (.cells 2 [.slice (some (p,o+k)) (n - k) none,.bool false])++[.cells 1 ((l.take k).map u8V)],b,min w q⟩):=by
 have hql:=ah hq;have hset:∀ x,(H.set q x)[q]? = some x:=fun x=>by rw [jc hql]
 have hself:H.set q (.cells 2 [.slice (some (p,o)) n none,.bool false])=H:=by
  refine iw fun j=>?_
  by_cases e:q=j
  ·subst e; rw [hset,hq]
  ·rw [av e]
 have hlk:(l.take k).length=k:=by rw [dk,hl.1]; omega
 have hs:SlB H p o k (l.take k):=by obtain ⟨hll,X,hp,hX⟩:=hl;refine ⟨hlk,X,hp,?_⟩;rw [List.map_take,← hX,List.take_take,Nat.min_eq_left (by omega)]
 obtain ⟨-,X,hp,hX⟩:=id hl;have hbv:BlobV H (.slice (some (p,o)) k none) (l.take k):=⟨some (p,o),none,by rw [hlk],fun p' o' e=>by cases e; exact ah hp,.inr ⟨p,o,rfl,by rw [hlk]; exact hs,by simp⟩⟩;obtain ⟨c',h1,h2⟩:=p465 (b:=b) hbv rfl (by omega);rw [hlk] at h1 h2;have h1:=fun w=>fe subB (h1 w)
 refine ⟨c',h2,fun w=>?_⟩;have hps:∀ x,(H.set q x)[p]? = some (.cells 1 X):=fun x=>by rw [av (fun e=>hpq e.symm)]; exact hp
 have hkn':¬ (n:Int) < k:=by omega
 have hq2:∀ y,(H++[AObj.cells 1 y])[q]? = some (.cells 2 [.slice (some (p,o)) n none,.bool false]):=fun y=>by rw [ag hql]; exact hq
 have hp2:∀ y,(H++[AObj.cells 1 y])[p]? = some (.cells 1 X):=fun y=>by rw [ag (ah hp)]; exact hp
 have hset2:∀ y x,(H++[AObj.cells 1 y]).set q x=H.set q x++[AObj.cells 1 y]:=fun y x=>nr _ _ hql
 generalize (l.take k).map u8V=Y at *;simp (disch:=omega) [ba t691,code691,hq,hself,h1,hset,hp,hps,hkn',hq2,hp2,hset2]
end
end
end Go.Abs.AbsNat

namespace Go.Abs.AbsNat
open Go.Abs.AbsBlb hiding T
open Go.Abs.Short
def EV.new (N:Nat) (P:List AObj) (p:EV):Prop:=BlobV P p.2 p.1.data∧∀ q o n k,p.2 = .slice (some (q,o)) n k→N≤q∧∃ X,P[q]? = some (.cells 1 X)
theorem EV.new.mono {N:Nat} {P P':List AObj} {p:EV} (h:p.new N P) (hl:P.length≤P'.length) (hk:∀ (k:Nat) (X:List AVal),N≤k→P[k]? = some (.cells 1 X)→P'[k]? = some (.cells 1 X)):p.new N P':=by
 obtain ⟨h1,h2⟩:=h;refine ⟨h1.mono hl fun q o n k e x hx=>?_,fun q o n k e=>?_⟩
 ·obtain ⟨h5,X,h6⟩:=h2 q o n k e;rw [h6] at hx;cases hx;exact hk _ _ h5 h6
 ·obtain ⟨h5,X,h6⟩:=h2 q o n k e;exact ⟨h5,X,hk _ _ h5 h6⟩
theorem SlB.drop {H:List AObj} {p o n k:Nat} {l:Bs} (h:SlB H p o n l) (hk:k≤n):SlB H p (o+k) (n - k) (l.drop k):=by obtain ⟨hll,X,hp,hX⟩:=h;refine ⟨by rw [ft]; omega,X,hp,?_⟩;rw [List.map_drop,← hX,List.drop_take,ge]
theorem ry (e:EnU):(entB e).length=6+e.data.length:=by unfold entB; simp [fj]; omega
theorem ent_id {e:EnU} (h:e.id < 4294967296) (r:Bs):getB ((entB e++r).take 4)=e.id:=by
 have:(entB e++r).take 4=putB e.id 4:=by unfold entB;rw [a7,a7,List.take_left' (fj _ _)]
 rw [this,n6];exact jv h
theorem ent_n {e:EnU} (h:e.data.length < 65536) (r:Bs):getB (((entB e++r).drop 4).take 2)=e.data.length:=by
 have:((entB e++r).drop 4).take 2=putB e.data.length 2:=by unfold entB;rw [a7,a7,tq (fj _ _),List.take_left' (fj _ _)]
 rw [this,n6];exact jv h
theorem ent_data (e:EnU) (r:Bs):(((entB e++r).drop 4).drop 2).take e.data.length=e.data:=by rw [ge];unfold entB;rw [a7,tq (by simp [fj]),List.take_left' rfl]
theorem ent_rest (e:EnU) (r:Bs):(((entB e++r).drop 4).drop 2).drop e.data.length=r:=by rw [ge,ge,tq (by rw [ry]; omega)]
section
variable {H:List AObj} {b:Nat}
section
attribute [-simp] getElem?_pos getElem?_neg List.all_eq_true
attribute [local simp] qZ qS nltT nltF iltT iltF ileT nleT dz
theorem l682 {next ver q:Nat} {z:List AVal} (hq0:q=H.length) (hb:b≤H.length):∀ (R:List EnU) (w p o m:Nat) (P:List AObj) (A:List EV) (x:AVal),(∀ e ∈ R,e.id < 4294967296∧e.data.length≤512)→A.length+R.length≤64→Pre H P→p < q→P[q]? = some (.cells 2 [.slice (some (p,o)) m none,.bool false])→SlB P p o m (R.flatMap entB)→m≤1000000→FRow (q+1) 2 EV.cells A P x→(∀ y ∈ A,y.new (q+1) P)→H.length≤w →
  ∃ (P':List AObj) (A':List EV) (x':AVal) (o' w':Nat),Pre H P'∧P'[q]? = some (.cells 2 [.slice (some (p,o')) 0 none,.bool false])∧FRow (q+1) 2 EV.cells (A++A') P' x'∧A'.map Prod.fst=R∧(∀ y ∈ A++A',y.new (q+1) P')∧H.length≤w'∧∀ {β:Type} (k:AExit→St→Option β),
  xK T (.loop code682L0) ⟨[(2,.var z),(4,.val (.ptr (some (q,0)))),(5,.var [.int .u32 next,.int .u32 ver,x]),(6,.val (.int .u32 R.length))],⟨P,b,w⟩⟩ (k:=⟨k⟩) =
   k (.exit 0) ⟨[(2,.var z),(4,.val (.ptr (some (q,0)))),(5,.var [.int .u32 next,.int .u32 ver,x'])],⟨P',b,w'⟩⟩
 | [],w,p,o,m,P,A,x,hR,hA,hp,hpq,hr,hS,hm,hx,hn,hw=>by
  have hm0:m=0:=by rw [← hS.1]; rfl
  subst hm0;refine ⟨P,[],x,o,w,hp,hr,by rw [ik]; exact hx,rfl,by rw [ik]; exact hn,hw,fun k=>?_⟩;rw [c8];simp (disch:=omega) [code682L0,hr]
 | e :: R,w,p,o,m,P,A,x,hR,hA,hp,hpq,hr,hS,hm,hx,hn,hw=>by
  obtain ⟨he1,he2⟩:=hR e (bd ..);rw [dy] at hS;rw [b8] at hA;have hlen:m=6+e.data.length+(R.flatMap entB).length:=by rw [← hS.1,au,ry]
  have hql:=ah hr;have hpl:=hp.len;have hne:p≠q:=by omega
  have a1:=p690 (b:=b) (k:=4) hr hS hm (by omega) (by omega) hne (by omega);rw [ent_id he1] at a1;have r1:=ju hr (y:=.cells 2 [.slice (some (p,o+4)) (m - 4) none,.bool false]);have keep:∀ x,p≠q→(P.set q x)[p]? = P[p]?:=fun x h=>av (fun e=>h e.symm)
  have S1:=(SlB.drop hS (show 4≤m by omega)).mono (H':=P.set q (.cells 2 [.slice (some (p,o+4)) (m - 4) none,.bool false])) fun y hy=>by rw [keep _ hne]; exact hy
  have a2:=p690 (b:=b) (k:=2) r1 S1 (by omega) (by omega) (by omega) hne (by omega);rw [ent_n (by omega)] at a2;have hss:∀ x y,(P.set q x).set q y=P.set q y:=fun x y=>List.set_set ..
  rw [hss] at a2;have e2:m - 4 - 2=m - 6:=by omega
  have e3:o+4+2=o+6:=by omega
  rw [e2,e3] at a2;have r2:=ju hr (y:=.cells 2 [.slice (some (p,o+6)) (m - 6) none,.bool false]);have S2:=(SlB.drop (SlB.drop hS (show 4≤m by omega)) (show 2≤m - 4 by omega)).mono (H':=P.set q (.cells 2 [.slice (some (p,o+6)) (m - 6) none,.bool false])) fun y hy=>by rw [keep _ hne]; exact hy
  rw [e2,e3] at S2;obtain ⟨c',c1,a3⟩:=p691 (b:=b) (k:=e.data.length) r2 S2 (by omega) (by omega) hne (by omega);rw [ent_data,hss,bf] at a3;have e4:m - 6 - e.data.length=(R.flatMap entB).length:=by omega
  rw [e4] at a3;have r3:=ju hr (y:=.cells 2 [.slice (some (p,o+6+e.data.length)) (R.flatMap entB).length none,.bool false]);have S3:=(SlB.drop (SlB.drop (SlB.drop hS (show 4≤m by omega)) (show 2≤m - 4 by omega)) (show e.data.length≤m - 4 - 2 by omega));rw [ent_rest,e2,e3,e4] at S3;generalize hP3:P.set q (.cells 2 [.slice (some (p,o+6+e.data.length)) (R.flatMap entB).length none,.bool false])=P2 at *;have hl2:P2.length=P.length:=by rw [← hP3,bf]
  have up:∀ (k:Nat) (y:AObj),k≠q→P[k]? = some y→(P2++[AObj.cells 1 (e.data.map u8V)])[k]? = some y:=fun k y hk hy=>by rw [ag (by rw [hl2]; exact ah hy),← hP3,av (fun e=>hk e.symm)]; exact hy
  have r4:(P2++[AObj.cells 1 (e.data.map u8V)])[q]? = some (.cells 2 [.slice (some (p,o+6+e.data.length)) (R.flatMap entB).length none,.bool false]):=by rw [ag (by rw [hl2]; exact hql)]; exact r3
  have hg:(P2++[AObj.cells 1 (e.data.map u8V)])[P.length]? = some (.cells 1 (e.data.map u8V)):=by rw [← hl2]; exact fo _ _
  have hl3:(P2++[AObj.cells 1 (e.data.map u8V)]).length=P.length+1:=by rw [au,hl2]; rfl
  have hvn:EV.new (q+1) (P2++[AObj.cells 1 (e.data.map u8V)]) (e,.slice (some (P.length,0)) e.data.length c'):=by
   refine ⟨⟨some (P.length,0),c',rfl,fun p o e=>?_,.inr ⟨P.length,0,rfl,SlB.whole hg rfl,c1⟩⟩,fun q o n k e=>?_⟩
   ·simp only [c9,gu] at e;rw [← e.1]; exact ah hg
   ·simp only [AVal.slice.injEq,c9,gu] at e;rw [← e.1.1];exact ⟨hql,_,hg⟩
  have fr3:=hx.mono fun k y hk hy=>up k y (by omega) hy
  generalize hP4:P2++[AObj.cells 1 (e.data.map u8V)]=P4 at *;obtain ⟨P5,x5,n5,f1,f2,f3,f4,f5⟩:=fr3.add' (b:=b) (by':=32) (fun _=>rfl) (by omega) (by omega) (by omega) (by omega) (e,.slice (some (P.length,0)) e.data.length c')
  have hnew:∀ y ∈ A++[(e,.slice (some (P.length,0)) e.data.length c')],EV.new (q+1) P5 y:=fun y hy=>by
   rcases cf.1 hy with h4 | h4
   ·exact (hn y h4).mono (by omega) fun k X hk ho=>f2 _ _ (up _ _ (by omega) ho) fun _ cs e=>by simp at e
   ·rw [b9.1 h4];exact hvn.mono (by omega) fun k X hk ho=>f2 _ _ ho fun _ cs e=>by simp at e
  have hpre5:Pre H P5:=fun k y hy=>f2 _ _ (up k y (by have:=ah hy; omega) (hp _ _ hy)) fun h=>by have:=ah hy; omega
  have r5:=f2 _ _ r4 fun h=>by omega
  have S5:SlB P5 p (o+6+e.data.length) (R.flatMap entB).length (R.flatMap entB):=S3.mono fun y hy=>f2 _ _ (up _ _ hne hy) fun h=>by omega
  obtain ⟨P',A',x',o',w',i1,i2,i3,i4,i5,i6,i7⟩:=l682 (next:=next) (ver:=ver) (z:=z) hq0 hb R (n5 (min (min (min w q) q) q)) p _ _ P5 _ x5 (fun y hy=>hR y (bq _ hy)) (by rw [au]; simp; omega) hpre5 hpq r5 S5 (by omega) f1 hnew (by have:=(f4 (min (min (min w q) q) q)).2; omega);refine ⟨P',(e,.slice (some (P.length,0)) e.data.length c') :: A',x',o',w',i1,i2,by rw [a7] at i3; exact i3,by rw [bh,i4],fun y hy=>i5 y (by rw [a7]; exact hy),i6,fun k=>?_⟩;have ih:=i7 k;rw [c8,← ih];generalize ACode.loop code682L0=LL;have e5:((e :: R).length:Int)=(R.length:Int)+1:=by simp
  rw [e5]
  have hw1:IntKind.u32.wrap (R.length:Int)=R.length:=by unfold IntKind.wrap;show (if (false && _)=true then _ else (_ % 2 ^ 32))=_;simp; omega
  unfold EV.cells at f5;rw [hl3] at f5;simp only [bg] at a1 a2;generalize (R.flatMap entB).length=rl at *;generalize e.data.length=dl at *;generalize e.data.map u8V=Y at *;generalize e.id=ei at *;have hwi:IntKind.i64.wrap (dl:Int)=dl:=dz (by omega);simp only at f5;have hg5:∀ y,(P4++[y])[P.length+1]? = some y:=fun y=>by rw [← hl3]; exact fo _ _
  obtain ⟨a5,m5,c5,rfl⟩:∃ a n c,x5 = .slice a n c:=by
   rcases f1 with ⟨h,-⟩ | ⟨-,q5,-,h,-⟩
   ·simp at h
   ·exact ⟨_,_,_,h⟩
  rcases hx with ⟨-,rfl⟩ | ⟨-,qq,-,rfl,hqq⟩
  ·simp (disch:=omega) [code682L0,-du,-el,g7,g8,fq,bi,hr,a1,a2,a3,f5,hwi,hl3,hg5,hw1]
  ·have hqq:=ah hqq;simp (disch:=omega) [code682L0,-du,-el,g7,g8,fq,bi,hr,a1,a2,a3,f5,hwi,hqq,hl3,hg5,hw1]
end
end
theorem FRow.row {α:Type} {N e:Nat} {f:α→List AVal} {A:List α} {P:List AObj} {x:AVal} (hf:∀ y,(f y).length=e) (h:FRow N e f A P x):∃ a c,x = .slice a A.length c∧Row P e f A a∧(∀ p o,a=some (p,o)→N≤p∧p < P.length):=by
 rcases h with ⟨rfl,rfl⟩ | ⟨h0,q,h1,rfl,h2⟩
 ·exact ⟨none,some 0,rfl,⟨fun h=>absurd rfl h⟩,fun p o e=>by cases e⟩
 ·exact ⟨some (q,0),none,rfl,Row.mk0 hf h2,fun p o e=>by cases e; exact ⟨h1,ah h2⟩⟩
def EV.mv (f:Nat→Nat) (p:EV):EV:=(p.1,p.2.ren f)
theorem EV.mv_flat (f:Nat→Nat) (A:List EV):AVal.renL f (A.flatMap EV.cells)=(A.map (EV.mv f)).flatMap EV.cells:=by
 have key:∀ p,AVal.renL f (EV.cells p)=EV.cells (EV.mv f p):=fun p=>by simp [EV.cells,EV.mv,AVal.renL,AVal.ren]
 induction A with
 | nil=>rfl
 | cons p A ih =>
  rw [dy,bh,dy,← ih,← key,ly,ly,ly,kg]
theorem tt {O P:List AObj} {b w' N:Nat} {A:List EV} {x:AVal} (mk:AVal→AVal) (h1:∀ y,(mk y).ids=y.ids) (h2:∀ f y,(mk y).ren f=mk (y.ren f)) (h3:∀ n p o k c,(mk (.slice (some (p,o)) k c)).under n=decide (p < n)) (h4:∀ n,(mk (.slice none 0 (some 0))).under n=true)
  (hN:O.length≤N) (hx:FRow N 2 EV.cells A P x) (hA:∀ p ∈ A,p.new N P) (hp:Pre O P) (hw:O.length≤w') :
  ∃ H' A' x',Pre O H'∧FRow O.length 2 EV.cells A' H' x'∧A'.map Prod.fst=A.map Prod.fst∧(∀ p ∈ A',p.new O.length H')∧∀ w,dg ⟨O,b,w⟩ (mk x) ⟨P,b,w'⟩=(mk x',⟨H',b,w⟩):=by
 have hA0:∀ p ∈ A,p.new O.length P:=fun p hp=>⟨(hA p hp).1,fun q o n k e=>⟨bz hN ((hA p hp).2 q o n k e).1,((hA p hp).2 q o n k e).2⟩⟩
 rcases hx with ⟨h,rfl⟩ | ⟨hne,q,hq,rfl,hr⟩
 ·subst h;refine ⟨O,[],_,Pre.refl _,.inl ⟨rfl,rfl⟩,rfl,(fun p hp=>by cases hp),fun w=>?_⟩;unfold dg;have e1:¬ (⟨P,b,w'⟩:Heap).wmin < (⟨O,b,w⟩:Heap).size:=by show ¬ w' < O.length; omega
  rw [if_neg e1];exact if_pos (h4 _)
 ·have hqO:O.length≤q:=bz hN hq;have hv:(mk (.slice (some (q,0)) A.length none)).under O.length=false:=by rw [h3]; exact decide_eq_false (by omega)
  rcases sx (b:=b) (P:=P) hv hw with e | ⟨f,I,X,e,hm,hi⟩
  ·exact ⟨P,A,_,hp,.inr ⟨hne,q,hqO,rfl,hr⟩,rfl,hA0,e⟩
  ·have hIq:I q:=hi q (by rw [h1]; simp [AVal.ids]) hqO;have hcl:=hm.cl q _ hIq hr
   have hIp:∀ p ∈ A,∀ i o k c,p.2 = .slice (some (i,o)) k c→I i∧∃ X,P[i]? = some (.cells 1 X):=fun p hpA i o k c e=>by obtain ⟨g1,g2⟩:=(hA0 p hpA).2 i o k c e;refine ⟨hcl i ?_ g1,g2⟩;show i ∈ AVal.idsL _;rw [py,df];refine ⟨p.2,df.2 ⟨p,hpA,?_⟩,by rw [e]; simp [AVal.ids]⟩;simp [EV.cells]
   refine ⟨O++X,A.map (EV.mv f),.slice (some (f q,0)) A.length none,fun k o hk=>by rw [ag (ah hk)]; exact hk,.inr ⟨by simpa using hne,f q,hm.up q hqO,by rw [bt],?_⟩,?_,?_,fun w=>?_⟩
   ·have:=hm.at' q _ hIq hr;rw [this,← EV.mv_flat]; rfl
   ·rw [List.map_map]; rfl
   ·intro p' hp';obtain ⟨p,hpA,rfl⟩:=fz.1 hp';refine ⟨(hA0 p hpA).1.moves hm (hIp p hpA),fun i o k c e=>?_⟩;obtain ⟨r,v⟩:=p;obtain ⟨⟨a,d,hv',-,-⟩,-⟩:=hA0 _ hpA;simp only at hv';subst hv';have e:(AVal.slice a r.data.length d).ren f = .slice (some (i,o)) k c:=e;rw [ren_sl] at e;cases a with
    | none=>simp [renA] at e
    | some y =>
     obtain ⟨y1,y2⟩:=y;simp only [renA,AVal.slice.injEq,c9,gu] at e;obtain ⟨g1,X',g2⟩:=hIp _ hpA y1 y2 _ _ rfl;obtain ⟨g3,-⟩:=(hA0 _ hpA).2 y1 y2 _ _ rfl;rw [← e.1.1];exact ⟨hm.up _ g3,_,hm.at' _ _ g1 g2⟩
   ·rw [e w,h2]; simp [AVal.ren]
end Go.Abs.AbsNat

namespace Go.Abs.AbsNat
open Go.Abs.AbsBlb hiding T
open Go.Abs.Short
def Ents (N:Nat) (H:List AObj) (A:List EV) (x:AVal):Prop:=FRow N 2 EV.cells A H x∧∀ p ∈ A,p.new N H
theorem Ents.row {N:Nat} {H:List AObj} {A:List EV} {x:AVal} (h:Ents N H A x):∃ a c,x = .slice a A.length c∧Row H 2 EV.cells A a∧(∀ p o,a=some (p,o)→N≤p∧p < H.length)∧∀ p ∈ A,EV.ok H p:=by obtain ⟨a,c,h1,h2,h3⟩:=FRow.row (f:=EV.cells) (fun _=>rfl) h.1;exact ⟨a,c,h1,h2,h3,fun p hp=>(h.2 p hp).1⟩
section
variable {H:List AObj} {b:Nat}
theorem qr (next ver:Nat) (L:List EnU):(recsB next ver L).length=10+(L.flatMap entB).length:=by unfold recsB; simp only [au,fj]
theorem p682 {next ver p o n:Nat} {L:List EnU} (hr:rightR next L=true) (hnx:next < 4294967296) (hvr:ver < 4294967296) (hS:SlB H p o n (recsB next ver L)) (hn:n≤1000000) (hb:b≤H.length) :
  ∃ H' A x,Pre H H'∧Ents H.length H' A x∧A.map Prod.fst=L∧∀ w,xCall T 682 [.slice (some (p,o)) n none] ⟨H,b,w⟩=some (.tuple [.agg [.int .u32 next,.int .u32 ver,x],.int .i64 0],⟨H',b,w⟩):=by
 have hr2:=hr;unfold rightR at hr2;simp only [aw,decide_eq_true_eq] at hr2;obtain ⟨r1,r2,r3⟩:=hr2;have hpl:p < H.length:=by obtain ⟨-,X,hp,-⟩:=hS; exact ah hp
 have hne:p≠H.length:=by omega
 have hln:n=10+(L.flatMap entB).length:=by rw [← hS.1,qr]
 have q0:(H++[AObj.cells 2 [.slice (some (p,o)) n none,.bool false]])[H.length]? = some (.cells 2 [.slice (some (p,o)) n none,.bool false]):=fo _ _;have S0:SlB (H++[AObj.cells 2 [.slice (some (p,o)) n none,.bool false]]) p o n (recsB next ver L):=hS.mono fun y hy=>by rw [ag (ah hy)]; exact hy
 have hset:∀ x y,(H++[x]).set H.length y=H++[y]:=fun x y=>by rw [pz _ _ (aj _),nu]; rfl
 have a1:=p690 (b:=b) (k:=4) q0 S0 hn (by omega) (by omega) hne hb
 have g1:getB ((recsB next ver L).take 4)=next:=by
  have:(recsB next ver L).take 4=putB next 4:=by unfold recsB;rw [a7,a7,List.take_left' (fj _ _)]
  rw [this,n6]; exact jv hnx
 rw [g1,hset] at a1;have q1:(H++[AObj.cells 2 [.slice (some (p,o+4)) (n - 4) none,.bool false]])[H.length]? = some (.cells 2 [.slice (some (p,o+4)) (n - 4) none,.bool false]):=fo _ _;have S1:SlB (H++[AObj.cells 2 [.slice (some (p,o+4)) (n - 4) none,.bool false]]) p (o+4) (n - 4) ((recsB next ver L).drop 4):=(SlB.drop hS (by omega)).mono fun y hy=>by rw [ag (ah hy)]; exact hy
 have a2:=p690 (b:=b) (k:=4) q1 S1 (by omega) (by omega) (by omega) hne hb
 have g2:getB (((recsB next ver L).drop 4).take 4)=ver:=by
  have:((recsB next ver L).drop 4).take 4=putB ver 4:=by unfold recsB;rw [a7,a7,tq (fj _ _),List.take_left' (fj _ _)]
  rw [this,n6]; exact jv hvr
 rw [g2,hset] at a2;have e1:n - 4 - 4=n - 8:=by omega
 have e2:o+4+4=o+8:=by omega
 rw [e1,e2] at a2;have q2:(H++[AObj.cells 2 [.slice (some (p,o+8)) (n - 8) none,.bool false]])[H.length]? = some (.cells 2 [.slice (some (p,o+8)) (n - 8) none,.bool false]):=fo _ _
 have S2:SlB (H++[AObj.cells 2 [.slice (some (p,o+8)) (n - 8) none,.bool false]]) p (o+8) (n - 8) (((recsB next ver L).drop 4).drop 4):=by
  have:=(SlB.drop (SlB.drop hS (show 4≤n by omega)) (show 4≤n - 4 by omega)).mono (H':=H++[AObj.cells 2 [.slice (some (p,o+8)) (n - 8) none,.bool false]]) fun y hy=>by rw [ag (ah hy)]; exact hy
  rw [e1,e2] at this; exact this
 have a3:=p690 (b:=b) (k:=2) q2 S2 (by omega) (by omega) (by omega) hne hb
 have g3:getB ((((recsB next ver L).drop 4).drop 4).take 2)=L.length:=by
  have:(((recsB next ver L).drop 4).drop 4).take 2=putB L.length 2:=by unfold recsB;rw [a7,a7,tq (fj _ _),tq (fj _ _),List.take_left' (fj _ _)]
  rw [this,n6]; exact jv (by omega)
 rw [g3,hset] at a3;have e3:n - 8 - 2=(L.flatMap entB).length:=by omega
 have e4:o+8+2=o+10:=by omega
 rw [e3,e4] at a3
 have S3:SlB (H++[AObj.cells 2 [.slice (some (p,o+10)) (L.flatMap entB).length none,.bool false]]) p (o+10) (L.flatMap entB).length (L.flatMap entB):=by
  have:=(SlB.drop hS (show 10≤n by omega)).mono (H':=H++[AObj.cells 2 [.slice (some (p,o+10)) (L.flatMap entB).length none,.bool false]]) fun y hy=>by rw [ag (ah hy)]; exact hy
  have e5:n - 10=(L.flatMap entB).length:=by omega
  have e6:(recsB next ver L).drop 10=L.flatMap entB:=by unfold recsB;rw [tq (by simp [fj])]
  rw [e5,e6] at this; exact this
 have hid:∀ e ∈ L,e.id < 4294967296∧e.data.length≤512:=fun e he=>by have:=u6 r1 e he; omega
 obtain ⟨P,A,x,o',w',i1,i2,i3,i4,i5,i6,i7⟩:=l682 (next:=next) (ver:=ver) (z:=[.int .u32 0,.int .u32 0,.slice none 0 (some 0)]) (q:=H.length) rfl hb L H.length p (o+10) (L.flatMap entB).length _ [] (.slice none 0 (some 0)) hid (by simpa using r2) (Pre.app _ _) hpl (fo H _) S3 (by omega) (.inl ⟨rfl,rfl⟩) (fun y hy=>by cases hy) (aj _);rw [fg] at i3 i5;obtain ⟨a,c,rfl,j2,j3⟩:=FRow.row (f:=EV.cells) (fun _=>rfl) i3;have h689:=fun w=>s689 (b:=b) (w:=w) (c:=c) (ver:=ver) (next:=next) j2 (fun p hp=>(i5 p hp).1) (by rw [i4]; exact hr)
 obtain ⟨H',A',x',k1,k2,k3,k4,k5⟩:=tt (b:=b) (fun y=>.tuple [.agg [.int .u32 next,.int .u32 ver,y],.int .i64 0]) (fun y=>by simp [AVal.ids,AVal.idsL]) (fun f y=>by simp [AVal.ren,AVal.renL]) (fun n p o k c=>by simp [AVal.under,AVal.unders]) (fun n=>by simp [AVal.under,AVal.unders]) (show H.length≤H.length+1 by omega) i3 i5 i1 i6;refine ⟨H',A',x',k1,⟨k2,k4⟩,by rw [k3,i4],fun w=>?_⟩;simp only [bg] at a1 a2 a3
 have wn:IntKind.u32.wrap (L.length:Int)=L.length:=by unfold IntKind.wrap;show (if (false && _)=true then _ else (_ % 2 ^ 32))=_;simp; omega
 generalize (L.flatMap entB).length=rl at *;simp (disch:=omega) [-getElem?_pos,-getElem?_neg,-List.all_eq_true,qZ,qS,nltT,nltF,iltT,iltF,ileT,nleT,dz,ba t682,code682,-dg,a1,a2,a3,i7,i2,h689,k5]
end
end Go.Abs.AbsNat

namespace Go.Abs.AbsNat
open Go.Abs.AbsBlb hiding T
open Go.Abs.Short
def At (L:List EnU) (id k:Nat):Prop:=k≤L.length∧(∀ (j:Nat) (e:EnU),L[j]? = some e→(j < k ↔ e.id < id))
def isAt (L:List EnU) (id k:Nat):Bool:=match L[k]? with | some e=>decide (e.id=id) | none=>false
theorem rightL_lt {next:Nat}:∀ {L:List EnU} {before:Nat},rightL next before L=true→∀ (j:Nat) (e:EnU),L[j]? = some e→before < e.id
 | [],_,_,j,e,he=>by simp at he
 | a :: L,before,h,j,e,he=>by
  unfold rightL at h;simp only [aw,decide_eq_true_eq] at h;cases j with
  | zero=>simp at he; subst he; exact h.1.1.1
  | succ j =>
   have:=rightL_lt h.2 j e (by simpa using he);have:=h.1.1.1;omega
theorem lw {next:Nat}:∀ {L:List EnU} {before:Nat},rightL next before L=true→∀ (i j:Nat) (x y:EnU),i < j→L[i]? = some x→L[j]? = some y→x.id < y.id
 | [],_,_,i,j,x,y,_,hx,_=>by simp at hx
 | a :: L,before,h,i,j,x,y,hij,hx,hy=>by
  unfold rightL at h;simp only [aw,decide_eq_true_eq] at h;cases j with
  | zero=>omega
  | succ j =>
   have hy':L[j]? = some y:=by simpa using hy
   cases i with
   | zero=>simp at hx; subst hx; exact rightL_lt h.2 j y hy'
   | succ i=>exact lw h.2 i j x y (by omega) (by simpa using hx) hy'
section
variable {H:List AObj} {b:Nat}
section
attribute [-simp] getElem?_pos getElem?_neg List.all_eq_true
attribute [local simp] qZ qS nltT nltF iltT iltF ileT nleT dz
theorem s685 {x y w:Nat} {v:AVal}:xCall T 685 [.agg [.int .u32 x,v],.int .u32 y] ⟨H,b,w⟩=some (.int .i64 (if x < y then -1 else if y < x then 1 else 0),⟨H,b,w⟩):=by
 have h591:=fun w=>s591 (H:=H) (b:=b) (w:=w) (x:=x) (y:=y)
 generalize (if x < y then -1 else if y < x then 1 else 0:Int)=r at *;simp (disch:=omega) [ba t685,code685,h591]
theorem l684 {L:List EV} {a:Option (Nat × Nat)} {c:Option Nat} {id:Nat} (hR:Row H 2 EV.cells L a) (hn:L.length≤1000) (hs:∀ (i j:Nat) (x y:EV),i < j→L[i]? = some x→L[j]? = some y→x.1.id < y.1.id):∀ (d i j w:Nat),j - i≤d→i≤j→j≤L.length→(∀ (t:Nat) (e:EV),t < i→L[t]? = some e→e.1.id < id)→(∀ (t:Nat) (e:EV),j≤t→L[t]? = some e→id≤e.1.id) →
  ∃ k,k≤L.length∧(∀ (t:Nat) (e:EV),L[t]? = some e→(t < k ↔ e.1.id < id))∧∀ {β:Type} (k':AExit→St→Option β),
  xK T (.loop code684L0) ⟨[(0,.val (.slice a L.length c)),(1,.val (.int .u32 id)),(2,.val (.func 685 [] [])),(8,.val (.int .i64 L.length)),(9,.val (.int .i64 i)),(10,.val (.int .i64 j))],⟨H,b,w⟩⟩ (k:=⟨k'⟩) =
   k' (.exit 0) ⟨[(0,.val (.slice a L.length c)),(1,.val (.int .u32 id)),(2,.val (.func 685 [] [])),(8,.val (.int .i64 L.length)),(9,.val (.int .i64 k))],⟨H,b,w⟩⟩:=by
 intro d;induction d with
 | zero =>
  intro i j w hd hij hj h1 h2;obtain rfl:i=j:=by omega
  refine ⟨i,hj,fun t e he=>⟨fun h=>h1 t e h he,fun h=>?_⟩,fun k'=>?_⟩
  ·rcases bc t i with q | q
   ·exact q
   ·have:=h2 t e q he; omega
  ·rw [c8];simp (disch:=omega) [code684L0]
 | succ d ih =>
  intro i j w hd hij hj h1 h2;by_cases c0:i < j
  ·have hm:(i+j) / 2 < j∧i≤(i+j) / 2:=by omega
   obtain ⟨x,hx⟩:∃ x,L[(i+j) / 2]? = some x:=⟨_,aq (by omega)⟩;obtain ⟨bb,o,cs,rfl,hrow,hpart⟩:=hR.at' (jz hx);obtain ⟨p1,p2⟩:=hpart _ x hx;have hxc:EV.cells x=[.int .u32 x.1.id,x.2]:=rfl;rw [hxc] at p2
   have hfd:((i:Int)+(j:Int)).fdiv (2 ^ min 1 IntKind.u64.bits)=(((i+j) / 2:Nat):Int):=by
    show ((i:Int)+(j:Int)).fdiv 2=_
    rw [Int.fdiv_eq_ediv_of_nonneg _ (by omega)]; omega
   have hwu:IntKind.u64.wrap ((i:Int)+(j:Int))=(i:Int)+j:=lp (by omega);have hwi:IntKind.i64.wrap (((i+j) / 2:Nat):Int)=(((i+j) / 2:Nat):Int):=dz (by omega);have h685:=fun w=>s685 (H:=H) (b:=b) (w:=w) (x:=x.1.id) (y:=id) (v:=x.2)
   by_cases c1:x.1.id < id
   ·obtain ⟨k,k1,k2,k3⟩:=ih ((i+j) / 2+1) j w (by omega) (by omega) hj (fun t e ht he=>by
     rcases bc t ((i+j) / 2) with q | q
     ·exact Nat.lt_trans (hs _ _ _ _ q he hx) c1
     ·obtain rfl:t=(i+j) / 2:=by omega
      rw [hx] at he; cases he; exact c1) h2
    refine ⟨k,k1,k2,fun k'=>?_⟩;rw [c8,← k3 k'];have e2:(((i+j) / 2+1:Nat):Int)=(((i+j) / 2:Nat):Int)+1:=by omega
    rw [e2];rw [if_pos c1] at h685;generalize (i+j) / 2=m at *;generalize ACode.loop code684L0=LL;simp (disch:=omega) [code684L0,hrow,p1,p2,h685,hfd,hwu,hwi,c0]
   ·obtain ⟨k,k1,k2,k3⟩:=ih i ((i+j) / 2) w (by omega) (by omega) (by omega) h1 (fun t e ht he=>by
     rcases bc ((i+j) / 2) t with q | q
     ·have:=hs _ _ _ _ q hx he; omega
     ·obtain rfl:t=(i+j) / 2:=by omega
      rw [hx] at he; cases he; omega)
    refine ⟨k,k1,k2,fun k'=>?_⟩;rw [c8,← k3 k'];rw [if_neg c1] at h685;have hnn:¬ ((if id < x.1.id then 1 else 0:Int) < 0):=by split <;> omega
    generalize (if id < x.1.id then 1 else 0:Int)=r at *;generalize (i+j) / 2=m at *;generalize ACode.loop code684L0=LL;simp (disch:=omega) [code684L0,hrow,p1,p2,h685,hfd,hwu,hwi,c0,hnn]
  ·exact ih i j w (by omega) hij hj h1 h2
theorem s674 {L:List EV} {a:Option (Nat × Nat)} {c:Option Nat} {id:Nat} {y1 y2:AVal} (hR:Row H 2 EV.cells L a) (hn:L.length≤1000) (hs:∀ (i j:Nat) (x y:EV),i < j→L[i]? = some x→L[j]? = some y→x.1.id < y.1.id) :
  ∃ k,At (L.map Prod.fst) id k∧∀ w,xCall T 674 [.agg [y1,y2,.slice a L.length c],.int .u32 id] ⟨H,b,w⟩=some (.tuple [.int .i64 k,.bool (isAt (L.map Prod.fst) id k)],⟨H,b,w⟩):=by
 obtain ⟨k,k1,k2,-⟩:=l684 (b:=b) (c:=c) (id:=id) hR hn hs L.length 0 L.length 0 (by omega) (by omega) (aj _) (fun t e h=>by omega) (fun t e h he=>by have:=ah he; omega)
 have uniq:∀ k',k'≤L.length→(∀ (t:Nat) (e:EV),L[t]? = some e→(t < k' ↔ e.1.id < id))→k'=k:=fun k' h1 h2=>by
  rcases xq k' k with q | q | q
  ·obtain ⟨x,hx⟩:∃ x,L[k']? = some x:=⟨_,aq (by omega)⟩;have:=(h2 _ _ hx).2 ((k2 _ _ hx).1 q); omega
  ·exact q
  ·obtain ⟨x,hx⟩:∃ x,L[k]? = some x:=⟨_,aq (by omega)⟩;have:=(k2 _ _ hx).2 ((h2 _ _ hx).1 q); omega
 have hl:∀ {β:Type} w (k':AExit→St→Option β),xK T (.loop code684L0) ⟨[(0,.val (.slice a L.length c)),(1,.val (.int .u32 id)),(2,.val (.func 685 [] [])),(8,.val (.int .i64 L.length)),(9,.val (.int .i64 0)),(10,.val (.int .i64 L.length))],⟨H,b,w⟩⟩ (k:=⟨k'⟩) =
   k' (.exit 0) ⟨[(0,.val (.slice a L.length c)),(1,.val (.int .u32 id)),(2,.val (.func 685 [] [])),(8,.val (.int .i64 L.length)),(9,.val (.int .i64 k))],⟨H,b,w⟩⟩:=fun w k'=>by
  obtain ⟨kk,h1,h2,h3⟩:=l684 (b:=b) (c:=c) (id:=id) hR hn hs L.length 0 L.length w (by omega) (by omega) (aj _) (fun t e h=>by omega) (fun t e h he=>by have:=ah he; omega);rw [uniq kk h1 h2] at h3;have:=h3 k';simpa using this
 refine ⟨k,⟨by rw [bt]; exact k1,fun j e he=>?_⟩,fun w=>?_⟩
 ·rw [br,ae] at he;obtain ⟨x,hx,rfl⟩:=he;exact k2 j x hx
 ·have h684:∀ w,xCall T 684 [.slice a L.length c,.int .u32 id,.func 685 [] []] ⟨H,b,w⟩=some (.tuple [.int .i64 k,.bool (isAt (L.map Prod.fst) id k)],⟨H,b,w⟩):=fun w=>by
   unfold isAt;rw [br];by_cases ck:k < L.length
   ·obtain ⟨x,hx⟩:∃ x,L[k]? = some x:=⟨_,aq ck⟩;obtain ⟨bb,o,cs,rfl,hrow,hpart⟩:=hR.at' (jz hx);obtain ⟨p1,p2⟩:=hpart _ x hx;have hxc:EV.cells x=[.int .u32 x.1.id,x.2]:=rfl;rw [hxc] at p2;have hge:¬ x.1.id < id:=fun h=>by have:=(k2 _ _ hx).2 h; omega
    have h685:=fun w=>s685 (H:=H) (b:=b) (w:=w) (x:=x.1.id) (y:=id) (v:=x.2)
    rw [if_neg hge] at h685
    have hd:decide ((if id < x.1.id then 1 else 0:Int)=0)=decide (x.1.id=id):=by
     by_cases e:x.1.id=id
     ·have:¬ id < x.1.id:=by omega
      simp [e]
     ·have:id < x.1.id:=by omega
      simp [this,e]
    rw [hx];simp only [bv,← hd];generalize (if id < x.1.id then 1 else 0:Int)=r at *;simp (disch:=omega) [ba t684,code684,hl,hrow,p1,p2,h685,ck]
   ·rw [bo (by omega)];simp only [Option.map_none];simp (disch:=omega) [ba t684,code684,hl,ck]
  simp (disch:=omega) [ba t674,code674,h684]
end
end
end Go.Abs.AbsNat

namespace Go.Abs.AbsNat
open Go.Abs.AbsBlb hiding T
open Go.Abs.Short
structure RecsU where
 next:Nat
 ver:Nat
 list:List EnU
def RecsU.bytes (r:RecsU):Bs:=recsB r.next r.ver r.list
def RecsU.val (r:RecsU) (x:AVal):AVal:=.agg [.int .u32 r.next,.int .u32 r.ver,x]
structure RecsU.ok (r:RecsU):Prop where
 rr:rightR r.next r.list=true
 nn:r.next < 4294967296
 vv:r.ver < 4294967296
theorem ku {s:Bs} (h:isName s=true):s.length≤16:=by unfold isName at h;simp only [aw,decide_eq_true_eq] at h;exact h.2.1
def EntsEnd (H:List AObj) (b:Nat) (L:List EnU) (g:Nat) (args:List AVal) (mk:AVal→AVal):Prop :=
 ∃ H' A x,Pre H H'∧Ents H.length H' A x∧A.map Prod.fst=L∧∀ w,xCall T g args ⟨H,b,w⟩=some (mk x,⟨H',b,w⟩)
section
variable {H:List AObj} {b w:Nat} {I:SI} {F:Fl} {K:StU}
section
attribute [-simp] getElem?_pos getElem?_neg List.all_eq_true
attribute [local simp] qZ qS nltT nltF iltT iltF ileT nleT dz
theorem p675 (h:StA H I F K) {s k:Bs} {r:RecsU} (hs:isName s=true) (hk:isName k=true) {x:Nat × PlU} (hf:findK (keyB s k) K.ix=some x) (hx:x.2.blob=r.bytes) (hr:r.ok) (hl:x.2.blob.length≤1000000) (hb:b≤H.length) :
  EntsEnd H b r.list 675 [.ptr (some (I.s,0)),.str s,.str k] fun x=>.tuple [r.val x,.int .i64 0]:=by
 have ls:=ku hs;have lk:=ku hk;have h1:=fun w=>s520 (H:=H) (b:=b) (w:=w) (s:=s) (by omega)
 have h2:=fun w=>s520 (H:=H) (b:=b) (w:=w) (s:=k) (by omega)
 rw [hs] at h1;rw [hk] at h2;have h3:=fun w=>s683 (H:=H) (b:=b) (w:=w) (s:=s) (k:=k) (by omega) (by omega)
 have h4:=fun w=>fe subB (s482 (b:=b) (w:=w) h hf hl)
 rw [hx] at h4 hl;have hp1:Pre H (H++[AObj.cells 1 (r.bytes.map u8V)]):=Pre.app _ _;obtain ⟨H',A,y,i1,⟨i2,i3⟩,i4,i5⟩:=p682 (b:=b) (next:=r.next) (ver:=r.ver) hr.rr hr.nn hr.vv (SlB.whole (l:=r.bytes) (q:=H.length) (fo _ _) rfl) hl (bz hb hp1.len);obtain ⟨H2,A2,y2,k1,k2,k3,k4,k5⟩:=tt (b:=b) (w':=H.length) (fun y=>.tuple [r.val y,.int .i64 0]) (fun y=>by simp [RecsU.val,AVal.ids,AVal.idsL]) (fun f y=>by simp [RecsU.val,AVal.ren,AVal.renL]) (fun n p o k c=>by simp [RecsU.val,AVal.under,AVal.unders]) (fun n=>by simp [RecsU.val,AVal.under,AVal.unders]) hp1.len i2 i3 (hp1.trans i1) (aj _);refine ⟨H2,A2,y2,k1,⟨k2,k4⟩,by rw [k3,i4],fun w=>?_⟩;obtain ⟨a,c,rfl,-⟩:=FRow.row (f:=EV.cells) (fun _=>rfl) i2;unfold RecsU.val at k5 ⊢;generalize r.bytes.map u8V=Y at *;generalize r.bytes.length=N at *;simp (disch:=omega) [ba t675,code675,-dg,h1,h2,h3,h4,i5,k5]
theorem s675n (h:StA H I F K) {s k:Bs} (hs:isName s=true) (hk:isName k=true) (hf:findK (keyB s k) K.ix=none) :
  xCall T 675 [.ptr (some (I.s,0)),.str s,.str k] ⟨H,b,w⟩=some (.tuple [.agg [.int .u32 0,.int .u32 0,.slice none 0 (some 0)],.int .i64 11],⟨H,b,w⟩):=by
 have ls:=ku hs;have lk:=ku hk;have h1:=fun w=>s520 (H:=H) (b:=b) (w:=w) (s:=s) (by omega)
 have h2:=fun w=>s520 (H:=H) (b:=b) (w:=w) (s:=k) (by omega)
 rw [hs] at h1;rw [hk] at h2;have h3:=fun w=>s683 (H:=H) (b:=b) (w:=w) (s:=s) (k:=k) (by omega) (by omega)
 have h4:=fun w=>fe subB (s482n (b:=b) (w:=w) h hf)
 simp (disch:=omega) [ba t675,code675,h1,h2,h3,h4]
theorem s675x {s k:Bs} {v:AVal} (hl:s.length≤1000000) (hs:isName s=false) :
  xCall T 675 [v,.str s,.str k] ⟨H,b,w⟩=some (.tuple [.agg [.int .u32 0,.int .u32 0,.slice none 0 (some 0)],.int .i64 13],⟨H,b,w⟩):=by
 have h1:=fun w=>s520 (H:=H) (b:=b) (w:=w) (s:=s) hl
 rw [hs] at h1;simp (disch:=omega) [ba t675,code675,h1]
end
theorem qp {O P:List AObj} {b w':Nat} {l:Bs} {v:AVal} (mk:AVal→AVal) (h1:∀ y,(mk y).ids=y.ids) (h2:∀ f y,(mk y).ren f=mk (y.ren f)) (h3:∀ n p o k c,(mk (.slice (some (p,o)) k c)).under n=decide (p < n)) (h4:∀ n k c,(mk (.slice none k c)).under n=true)
  (hv:BlobV P v l) (hN:∀ q o n k,v = .slice (some (q,o)) n k→O.length≤q∧∃ X,P[q]? = some (.cells 1 X)) (hp:Pre O P) (hw:O.length≤w') :
  ∃ H' v',Pre O H'∧BlobV H' v' l∧(∀ q o n k,v' = .slice (some (q,o)) n k→O.length≤q∧∃ X,H'[q]? = some (.cells 1 X))∧∀ w,dg ⟨O,b,w⟩ (mk v) ⟨P,b,w'⟩=(mk v',⟨H',b,w⟩):=by
 obtain ⟨a,c,rfl,i1,i2⟩:=id hv;cases a with
 | none =>
  refine ⟨O,_,Pre.refl _,⟨none,c,rfl,(fun p o e=>by cases e),?_⟩,(fun q o n k e=>by cases e),fun w=>?_⟩
  ·rcases i2 with i2 | ⟨p,o,e,-⟩
   ·exact .inl i2
   ·cases e
  ·unfold dg;have e1:¬ (⟨P,b,w'⟩:Heap).wmin < (⟨O,b,w⟩:Heap).size:=by show ¬ w' < O.length; omega
   rw [if_neg e1];exact if_pos (h4 _ _ _)
 | some q =>
  obtain ⟨q,o⟩:=q;obtain ⟨g1,X,g2⟩:=hN q o _ _ rfl;have hu:(mk (.slice (some (q,o)) l.length c)).under O.length=false:=by rw [h3]; exact decide_eq_false (by omega)
  rcases sx (b:=b) (P:=P) hu hw with e | ⟨f,J,Y,e,hm,hi⟩
  ·exact ⟨P,_,hp,hv,hN,e⟩
  ·have hIq:J q:=hi q (by rw [h1]; simp [AVal.ids]) g1;refine ⟨O++Y,(AVal.slice (some (q,o)) l.length c).ren f,fun k o hk=>by rw [ag (ah hk)]; exact hk,hv.moves hm (fun p o k c e=>by cases e; exact ⟨hIq,X,g2⟩),fun q' o' n k e=>?_,fun w=>?_⟩
   ·rw [ren_sl] at e;simp only [renA,AVal.slice.injEq,c9,gu] at e;rw [← e.1.1];exact ⟨hm.up _ g1,_,hm.at' _ _ hIq g2⟩
   ·rw [e w,h2]
theorem p667 (h:StA H I F K) {s k:Bs} {r:RecsU} (hs:isName s=true) (hk:isName k=true) {x:Nat × PlU} (hf:findK (keyB s k) K.ix=some x) (hx:x.2.blob=r.bytes) (hr:r.ok) (hl:x.2.blob.length≤1000000) (hb:b≤H.length) {id j:Nat} {e:EnU} (he:r.list[j]? = some e) (hid:e.id=id) :
  ∃ H' v,Pre H H'∧BlobV H' v e.data∧(∀ q o n k,v = .slice (some (q,o)) n k→H.length≤q∧∃ X,H'[q]? = some (.cells 1 X))∧∀ w,xCall T 667 [.ptr (some (I.s,0)),.str s,.str k,.int .u32 id] ⟨H,b,w⟩=some (.tuple [v,.int .i64 0],⟨H',b,w⟩):=by
 obtain ⟨H1,A,y,i1,i2,i3,i4⟩:=p675 h hs hk hf hx hr hl hb;obtain ⟨a,c,rfl,j1,j2,j3⟩:=i2.row;have hr2:=hr.rr;unfold rightR at hr2;simp only [aw,decide_eq_true_eq] at hr2;obtain ⟨r1,r2,r3⟩:=hr2;have hAl:A.length=r.list.length:=by rw [← i3,bt]
 have hget:∀ (t:Nat) (z:EV),A[t]? = some z→r.list[t]? = some z.1:=fun t z hz=>by rw [← i3,br,hz]; rfl
 obtain ⟨m,⟨m1,m2⟩,m3⟩:=s674 (b:=b) (c:=c) (id:=id) (y1:=.int .u32 r.next) (y2:=.int .u32 r.ver) j1 (by omega) (fun t u z z' htu hz hz'=>lw r1 t u _ _ htu (hget _ _ hz) (hget _ _ hz'));rw [i3] at m1 m2 m3
 have hmj:m=j:=by
  have hjl:=ah he;rcases xq m j with q | q | q
  ·obtain ⟨z,hz⟩:∃ z,r.list[m]? = some z:=⟨_,aq (by omega)⟩;have h1:=lw r1 _ _ _ _ q hz he;have h2:=(m2 m z hz).2 (by omega);omega
  ·exact q
  ·have:=(m2 j e he).1 q; omega
 subst hmj
 have hia:isAt r.list id m=true:=by unfold isAt; rw [he]; simpa using hid
 rw [hia] at m3;obtain ⟨z,hz⟩:∃ z,A[m]? = some z:=⟨_,aq (by rw [hAl]; exact ah he)⟩;have hze:z.1=e:=by have:=hget _ _ hz; rw [he] at this; cases this; rfl
 obtain ⟨bb,o,cs,rfl,hrow,hpart⟩:=j1.at' (jz hz);obtain ⟨p1,p2⟩:=hpart _ z hz;have hxc:EV.cells z=[.int .u32 z.1.id,z.2]:=rfl;rw [hxc] at p2;obtain ⟨n1,n2⟩:=i2.2 z (bp hz);rw [hze] at n1;obtain ⟨H2,v,k1,k2,k3,k4⟩:=qp (b:=b) (w':=H.length) (fun y=>.tuple [y,.int .i64 0]) (fun y=>by simp [AVal.ids,AVal.idsL]) (fun f y=>by simp [AVal.ren,AVal.renL]) (fun n p o k c=>by simp [AVal.under,AVal.unders]) (fun n k c=>by simp [AVal.under,AVal.unders]) n1 n2 i1 (aj _);refine ⟨H2,v,k1,k2,k3,fun w=>?_⟩;obtain ⟨va,vc,hv,-,-⟩:=n1;rw [hv] at p2 k4;unfold RecsU.val at i4;have hml:m < A.length:=ah hz
 have p3:cs[o+m*2+1]? = some (.slice va e.data.length vc):=by have:=congrArg (fun l=>l[1]?) p2;simpa [ew,di] using this
 simp (disch:=omega) [-getElem?_pos,-getElem?_neg,-List.all_eq_true,qZ,qS,nltT,nltF,iltT,iltF,ileT,nleT,dz,ba t667,code667,-dg,i4,m3,hrow,p1,p2,p3,hml,k4]
end
end Go.Abs.AbsNat

namespace Go.Abs.AbsBlb
open Go.Abs.Short
section
variable {H:List AObj} {b w:Nat} {I:SI} {F:Fl} {K:StU}
end
end Go.Abs.AbsBlb
namespace Go.Abs.AbsBlo
open Go.Abs.AbsBlb hiding T
open Go.Abs.Short
section
variable {H:List AObj} {b w:Nat} {I:SI} {F:Fl} {K:StU}
end
end Go.Abs.AbsBlo

namespace Go.Abs.AbsBlo
open Go.Abs.AbsBlb hiding T
open Go.Abs.Short
section
variable {E:Env} {kl:List Bs} {H:List AObj} {b:Nat} {I:SI} {F:Fl} {K:StU}
end
end Go.Abs.AbsBlo

namespace Go.Abs.AbsBlo
open Go.Abs.AbsBlb hiding T
open Go.Abs.Short
theorem lq {kl:List Bs} {H:List AObj} {I:SI} {F:Fl} {K:StU} (h:SO kl H I F K) (X:List AObj):AbsBlb.SO kl (H++X) I F K:=⟨h.a.app X,h.v⟩
section
variable {P:List AObj} {b w:Nat}
end
end Go.Abs.AbsBlo

namespace Go.Abs.AbsBlo
open Go.Abs.AbsBlb hiding T
open Go.Abs.Short
section
variable {P P2:List AObj} {b w:Nat}
end
section
variable {kl:List Bs} {P:List AObj} {b w:Nat} {I:SI} {F:Fl} {K:StU}
end
end Go.Abs.AbsBlo

namespace Go.Abs.AbsBlo
open Go.Abs.AbsBlb hiding T
open Go.Abs.Short
section
variable {kl:List Bs} {P:List AObj} {b w:Nat} {I:SI} {F:Fl} {K:StU}
end
end Go.Abs.AbsBlo

namespace Go.Abs.AbsBlo
open Go.Abs.AbsBlb hiding T
open Go.Abs.Short
section
variable {E:Env} {kl:List Bs} {H:List AObj} {b:Nat} {I:SI} {F:Fl} {K:StU}
end
end Go.Abs.AbsBlo

namespace Go.Abs.AbsBlo
open Go.Abs.AbsBlb hiding T
open Go.Abs.Short
def Fits (F:Fl) (K:StU) (n:Nat):Prop:=K.head ≠ -1∧K.at_+n≤F.z
def Good (F:Fl) (K:StU) (n:Nat):Prop:=¬ Fits F K n→2≤cnt (opn F.lim) K.secs K.secs.length∧(nextS F K).2=true∧K.seq≠4294967295∧12+n≤F.z
def Kept (K K':StU):Prop:=K'.ix=K.ix∧K'.at_≤K.at_+12
section
variable {E:Env} {kl:List Bs} {H:List AObj} {b:Nat} {I:SI} {F:Fl} {K:StU}
end
end Go.Abs.AbsBlo

namespace Go.Abs.AbsBlo
open Go.Abs.AbsBlb hiding T
open Go.Abs.Short
def i1:Opd:=n 1
section
variable {E:Env} {kl:List Bs} {H:List AObj} {b:Nat} {I:SI} {F:Fl} {K:StU}
end
end Go.Abs.AbsBlo

namespace Go.Abs.AbsBlo
open Go.Abs.AbsBlb hiding T
open Go.Abs.Short
section
variable {E:Env} {kl:List Bs} {H:List AObj} {b:Nat} {I:SI} {F:Fl} {K:StU}
end
end Go.Abs.AbsBlo

namespace Go.Abs.AbsBlo
open Go.Abs.AbsBlb hiding T
open Go.Abs.Short
def GoodC (F:Fl) (K:StU) (L:List ChU):Prop:=¬ (L.foldl (fun S c=>addK S c.key) []).length < L.length∧sizes (L.map ChU.toR)+16≤(F.z - 12) / 2∧Good F K (sizes (L.map ChU.toR)+16)
def CommitQ (kl:List Bs) (H:List AObj) (I:SI) (F:Fl) (K:StU) (L:List ChU) (b w:Nat) (v:AVal) (h':Heap):Prop :=
 ∃ H' F' K' w' e,h'=⟨H',b,w'⟩∧StF I H H'∧SO kl H' I F' K'∧FlE F F'∧min w b≤w'∧(w'≤I.hi∨(H'=H∧w'=w))∧v = .int .i64 e ∧
  (GoodC F K L→e=0∧w'≤I.hi∧∃ K1 hd A,Kept K K1∧A.map Prod.fst=L.map ChU.toR∧K'=wroteK K1 hd A∧K'.head ≠ -1)
section
variable {E:Env} {kl:List Bs} {H:List AObj} {b:Nat} {I:SI} {F:Fl} {K:StU}
end
end Go.Abs.AbsBlo

namespace Go.Abs.AbsBlo
open Go.Abs.AbsBlb hiding T
open Go.Abs.Short
section
variable {kl:List Bs} {H:List AObj} {b:Nat} {I:SI} {F:Fl} {K:StU}
section
attribute [-simp] getElem?_pos getElem?_neg List.all_eq_true
attribute [local simp] qZ qS nltT nltF iltT iltF ileT nleT dz
theorem p580 (h:SO kl H I F K) (hb:I.lo b) (hbN:b≤H.length) (hFn:0 < F.n) {n:Nat} (hn:n≤1000000000) (hG:AbsBlo.Good F K n) :
  ∃ H' F' K',∃ nx:Nat→Nat,StF I H H'∧SO kl H' I F' K'∧FlE F F'∧Fits F' K' n∧Kept K K'∧(∀ w,min w b≤nx w∧(H.length≤w→b≤nx w))∧∀ w,xCall T 580 [.ptr (some (I.s,0)),.int .i64 n] ⟨H,b,w⟩=some (.int .i64 0,⟨H',b,nx w⟩):=by
 have hIhi:=h.a.hi;have hnb:=h.a.fl.nb.1;have hln:=h.v.ln;have gs:=h.a.s;unfold StU.cells at gs;have h597:=fun w=>fe sub (s597 (b:=b) (w:=w) h.a hn)
 have hl1:(0:Int) < 4*(K.secs.length:Int):=by omega
 have hl2:(1:Int) < 4*(K.secs.length:Int):=by omega
 by_cases hf:Fits F K n
 ·have hft:(!decide (K.head = -1) && decide (K.at_+n≤F.z))=true:=by simp [hf.1,hf.2]
  rw [hft] at h597;refine ⟨H,F,K,id,.refl,h,.refl _,hf,⟨rfl,Nat.le_add_right _ _⟩,fun w=>⟨il _ _,fun hw=>by show b≤w; omega⟩,fun w=>?_⟩;simp (disch:=omega) [ba t580,code580,gs,h597,c8,code580L0,hl1]
 ·obtain ⟨g1,g2,g3,g4⟩:=hG hf
  have hff:(!decide (K.head = -1) && decide (K.at_+n≤F.z))=false:=by
   by_cases c1:K.head = -1
   ·simp [c1]
   ·have:¬ K.at_+n≤F.z:=fun c2=>hf ⟨c1,c2⟩
    simp [this]
  rw [hff] at h597;rcases q598 h hb with ⟨c,-⟩ | ⟨H',F',K',nx,k1,k2,k3,k4,k5,⟨i,k6,k7,k8⟩,k9,k10,k11⟩
  ·rcases c with c | c
   ·rw [g2] at c; cases c
   ·exact absurd c g3
  ·have hf':Fits F' K' n:=⟨by omega,by rw [k5,k3.z]; omega⟩;have h597':=fun w=>fe sub (s597 (b:=b) (w:=w) k2.a hn)
   have hft:(!decide (K'.head = -1) && decide (K'.at_+n≤F'.z))=true:=by simp [hf'.1,hf'.2]
   rw [hft] at h597';have h598:=fun w=>fe sub (k11 w)
   have hR:Row H 3 Sec.cells K.secs (some (I.sa,0)):=Row.mk0 (fun _=>rfl) h.a.r;have h0:=fun c w=>fe sub (s0 (os:=H) (b:=b) (w:=w) (c:=c) (lim:=F.lim) hR (by omega))
   have hc2:(2:Int)≤(cnt (opn F.lim) K.secs K.secs.length:Nat):=by omega
   refine ⟨H',F',K',fun w=>min w (nx H.length),k1,k2,k3,hf',⟨k4,by rw [k5]; omega⟩,fun w=>?_,fun w=>?_⟩
   ·have:=k10 H.length;show min w b≤min w (nx H.length)∧(H.length≤w→b≤min w (nx H.length));omega
   ·have hx:=k10 H.length;have hlt:nx H.length < H.length:=by omega
    simp (disch:=omega) [ba t580,code580,gs,h597,h597',h598,h0,hc2,c8,code580L0,hl1,hl2,hlt]
theorem p549 (h:SO kl H I F K) (hkl:∀ k ∈ kl,1≤k.length∧k.length≤64) (hb:I.lo b) (hbN:b≤H.length) (hFn:0 < F.n)
  {L:List ChU} {la:Option (Nat × Nat)} {lc:Option Nat} (hR:Row H 3 ChU.cells L la) (h0:L≠[]) (hLn:L.length≤16) (hL:∀ c ∈ L,c.fine H∧c.key ∈ kl) (hG:GoodC F K L) :
  ∃ H' F' K',∃ nx:Nat→Nat,StF I H H'∧SO kl H' I F' K'∧FlE F F'∧(∀ w,min w b≤nx w∧nx w≤I.hi)∧(∃ K1 hd A,Kept K K1∧A.map Prod.fst=L.map ChU.toR∧K'=wroteK K1 hd A∧K'.head ≠ -1) ∧
   ∀ w,xCall T 549 [.ptr (some (I.s,0)),.slice la L.length lc] ⟨H,b,w⟩=some (.int .i64 0,⟨H',b,nx w⟩):=by
 have hIhi:=h.a.hi;have hIfl:=ah h.a.fl.f;have hI:I.s≤I.hi∧I.sa≤I.hi∧I.m≤I.hi∧I.fi.fb≤I.hi∧I.fi.fw≤I.hi:=by unfold SI.hi; omega
 have hnb:=h.a.fl.nb.2;have hz:=h.v.gz;have h561:=fun w=>fe sub (s561 (b:=b) (w:=w) h.a)
 rw [h.v.dn] at h561;rcases p581 (b:=b) (lc:=lc) hR h0 hLn (fun c hc=>(hL c hc).1) hbN with ⟨hd,-⟩ | ⟨hd,H1,A,x,hp,hx,hA,hnew,h581⟩
 ·exact absurd hd hG.1
 ·have h581:=fun w=>fe sub (h581 w)
  have hAne:A≠[]:=fun e=>by rw [e] at hA;have:=congrArg List.length hA;rw [bt,bt] at this;exact h0 (bu this.symm)
  have hAl:A.length=L.length:=by have:=congrArg List.length hA;rwa [bt,bt] at this
  rcases hx with ⟨e,-⟩ | ⟨-,q,hq,rfl,hrow⟩
  ·exact absurd e hAne
  ·have h1:SO kl H1 I F K:=⟨h.a.low (N:=H.length) ⟨hIhi,hIfl⟩ fun k o _ ho=>hp k o ho,h.v⟩;have hpl:=hp.len
   have hrec:∀ p ∈ A,p.1.key ∈ kl∧p.1.count=0∧(p.1.kind=1∧p.1.blob.length≤4096∨p.1.kind=2∧p.1.blob=[]):=fun p hpA=>by
    have:p.1 ∈ A.map Prod.fst:=fz.2 ⟨p,hpA,rfl⟩;rw [hA] at this;obtain ⟨c,hc,e⟩:=fz.1 this;obtain ⟨⟨-,-,-,-,g1⟩,g2⟩:=hL c hc;rw [← e];unfold ChU.toR;cases c.del
    ·exact ⟨g2,rfl,.inl ⟨rfl,g1⟩⟩
    ·exact ⟨g2,rfl,.inr ⟨rfl,rfl⟩⟩
   have hok:∀ p ∈ A,RV.ok H1 p:=fun p hpA=>by
    obtain ⟨g1,g2,g3⟩:=hrec p hpA;have:=(hkl _ g1).2;refine ⟨(hnew p hpA).1,by omega,?_⟩;rcases g3 with ⟨-,g3⟩ | ⟨-,g3⟩
    ·omega
    ·rw [g3]; exact gv _
   have h579:=fun w=>fe sub (s579 (H:=H1) (b:=b) (w:=w) (L:=A) (a:=some (q,0)) (c:=none) (Row.mk0 (fun _=>rfl) hrow) (by omega) hAne hok)
   have hsl:=yo hok;rw [hA] at hsl h579;have gs:=h1.a.s;unfold StU.cells at gs
   have hq2:((F.z:Int) - 12).tdiv 2=(((F.z - 12) / 2:Nat):Int):=by rw [Int.tdiv_eq_ediv_of_nonneg (by omega)]; omega
   have hlong:=hG.2.1;have hli:¬ ((((F.z - 12) / 2:Nat):Int) < ((sizes (L.map ChU.toR)+16:Nat):Int)):=by omega
   obtain ⟨H2,F2,K2,n2,s1,s2,s3,hfit,hkept,s5,s6⟩:=p580 (b:=b) h1 hb (by omega) hFn (n:=sizes (L.map ChU.toR)+16) (by omega) hG.2.2;have hrow2:=s1.above hIhi _ _ hq hrow;have hnew2:∀ p ∈ A,p.new H.length H2:=fun p hpA=>(hnew p hpA).mono s1.len fun k X hk ho=>s1.above hIhi k _ hk ho
   obtain ⟨hd2,hhd⟩:∃ hd:Nat,K2.head=hd:=by
    rcases s2.v.hd with e | ⟨y,e,-⟩
    ·exact absurd e hfit.1
    ·exact ⟨y,e⟩
   obtain ⟨H3,F3,K3,n3,k1,k2,k3,k4,k5,k6,k7,k8,k9⟩:=q577 (b:=b) (lc:=none) s2 hb (by have:=s1.len; omega) (L:=A) (Row.mk0 (fun _=>rfl) hrow2) hAne (by omega) hkl (fun p hpA=>⟨⟨(hnew2 p hpA).1,fun qq o nn c e=>by have:=((hnew2 p hpA).2 qq o nn c e).1; omega⟩,hrec p hpA⟩) hhd (by rw [hA]; have:=hfit.2; omega);obtain ⟨H4,j1,j2,j3,j4⟩:=p578 (b:=b) k2.a hb;have h577:=fun w=>fe sub (k9 w)
   have h578:=fun w=>fe sub (j4 w)
   have hI1:StF I H H1:=⟨hpl,fun k o ho _ _ _ _ _=>hp k o ho⟩;have hb0:=hb.1;have e2:=s5 H.length;have e3:=k8 (n2 H.length);refine ⟨H4,F3,K3,fun w=>min w (min (n3 (n2 H.length)) I.s),((hI1.trans s1).trans k1).trans j1,⟨j2,k2.v⟩,s3.trans k3,fun w=>?_,⟨K2,hd2,A,hkept,hA,k6,by rw [k4]; omega⟩,fun w=>?_⟩
   ·show min w b≤min w (min (n3 (n2 H.length)) I.s)∧min w (min (n3 (n2 H.length)) I.s)≤I.hi
    omega
   ·have hlt:min (n3 (n2 H.length)) I.s < H.length:=by omega
    have hzn:(0:Int)≤(((F.z - 12) / 2:Nat):Int)∧(((F.z - 12) / 2:Nat):Int)≤65536:=by omega
    have hwz:IntKind.i64.wrap (((F.z - 12) / 2:Nat):Int)=(((F.z - 12) / 2:Nat):Int):=dz (by omega);rw [← hAl] at h581 ⊢;generalize ((sizes (L.map ChU.toR)+16:Nat):Int)=sn at *;generalize (((F.z - 12) / 2:Nat):Int)=zn at *;simp (disch:=omega) [ba t549,code549,h561,h581,h579,gs,hq2,hwz,hli,s6,h577,h578,hlt]
end
end
end Go.Abs.AbsBlo

namespace Go.Abs.AbsNat
open Go.Abs.AbsBlb hiding T
open Go.Abs.AbsBlo (GoodC Fits Kept CommitQ lq CodeD.run OpsD.run)
open Go.Abs.Short
theorem findK_mod {k:Bs} {p:PlU}:∀ {L:List Ent} {x:Nat × PlU},findK k L=some x→∃ n,findK k (L.modify x.1 fun e=>(k,p,e.2.2))=some (n,p)
 | [],x,h=>by cases h
 | e :: r,x,h=>by
  unfold findK at h;split at h
  ·cases h;refine ⟨0,?_⟩;rw [List.modify_zero_cons];unfold findK;rw [if_pos rfl]
  ·rename_i hne;rw [ae] at h;obtain ⟨y,hy,rfl⟩:=h;obtain ⟨n,hn⟩:=findK_mod (p:=p) hy;refine ⟨n+1,?_⟩;rw [List.modify_succ_cons];unfold findK;rw [if_neg hne,hn]; rfl
theorem findK_app {k:Bs} {p:PlU} {c:Nat}:∀ {L:List Ent},findK k L=none→∃ n,findK k (L++[(k,p,c)])=some (n,p)
 | [],_=>⟨0,by show (if k=k then _ else _)=_; rw [if_pos rfl]⟩
 | e :: r,h=>by
  unfold findK at h;split at h
  ·cases h
  ·rename_i hne;rw [Option.map_eq_none_iff] at h;obtain ⟨n,hn⟩:=findK_app (p:=p) (c:=c) h;exact ⟨n+1,by rw [e8]; unfold findK; rw [if_neg hne,hn]; rfl⟩
theorem put_find (K:StU) (k:Bs) (p:PlU):∃ n,findK k (K.put k p).ix=some (n,p):=by
 unfold StU.put;cases h:findK k K.ix with
 | some x=>exact findK_mod h
 | none=>exact findK_app h
def Wrote (kl:List Bs) (H:List AObj) (I:SI) (F:Fl) (K:StU) (key bytes:Bs) (b w:Nat) (h':Heap):Prop :=
 ∃ H' F' K' w',h'=⟨H',b,w'⟩∧StF I H H'∧SO kl H' I F' K'∧FlE F F'∧min w b≤w'∧w'≤I.hi∧(∃ x,findK key K'.ix=some x∧x.2.blob=bytes)∧K'.head ≠ -1∧K'.at_≤K.at_+12+(32+key.length+bytes.length)
def RoomFor (F:Fl) (K:StU) (key bytes:Bs):Prop:=32+key.length+bytes.length≤(F.z - 12) / 2∧AbsBlo.Good F K (32+key.length+bytes.length)
structure Codes (E:Env):Prop where
 t:AgreesX E T
 m:E.P.follows .mixedOrders=true
theorem Codes.b {E:Env} (h:Codes E):AgreesX E AbsBlo.T:=h.t.sub sub
def e680:ACode:=.seq (R [8] [v 22 0,v 23 1,v 24 2,o 25 (.callg 683 [t 23,t 24]),v 26 9,o 27 (.build [.bool false,.str [],.slice none 0 (some 0)] [(1,1,t 25),(2,1,t 26)]),o 28 (.mkslice 3 1 [.bool false,.str [],.slice none 0 (some 0)] [(0,3,t 27)]),o 29 (.callg 549 [t 22,t 28]),v 8 29])
 (.live [8] (.ret))
theorem body680:code680.body = .seq (R [0,1,2,7] [o 7 (.lbox (t 3)),o 8 (.val (n 0))])
 (.seq (R [0,1,2,9,10] [o 12 (.load (some 3) (t 7)),o 13 (.callg 688 [t 12]),v 11 13,o 14 (.extract (t 11) 0),o 15 (.extract (t 11) 1),v 9 14,v 10 15])
 (.seq (.seq (R [0,1,2,9,10,17] [v 16 10,o 17 (.bin .neq (t 16) (n 0))])
 (.after (.cond (t 17) (.seq (R [8] [v 18 10,v 8 18])
 (.live [8] (.ret))) (.skip)) [0,1,2,9]))
 (.seq (.seq (R [0,1,2,9,21] [v 19 9,o 20 (.len .sl (t 19)),o 21 (.bin .gtr (t 20) (n 4096))])
 (.after (.cond (t 21) (.seq (R [8] [o 8 (.val (n 9))])
 (.live [8] (.ret))) (.skip)) [0,1,2,9]))
 e680))):=rfl
section
variable {E:Env} {kl:List Bs} {H:List AObj} {b w:Nat} {I:SI} {F:Fl} {K:StU}
theorem fe680 {P:List AObj} {w':Nat} {v:Int}:funcEnd code680 ⟨H,b,w⟩ (.ret,⟨[(8,.val (.int .i64 v))],⟨P,b,w'⟩⟩)=some (.int .i64 v,if w' < H.length then ⟨P,b,min w w'⟩ else ⟨H,b,w⟩):=by
 by_cases c:w' < H.length
 ·simp [funcEnd,code680,resultsL,result1,sget,tupled,dg,Heap.size,c]
 ·simp [funcEnd,code680,resultsL,result1,sget,tupled,dg,Heap.size,c,AVal.under]
theorem goodC_of {key bytes:Bs} {y:AVal} (h:RoomFor F K key bytes):GoodC F K [⟨false,key,bytes,y⟩]:=by
 have hs:sizes ([(⟨false,key,bytes,y⟩:ChU)].map ChU.toR)+16=32+key.length+bytes.length:=by
  show 16+key.length+bytes.length+0+16=_
  omega
 refine ⟨?_,by rw [hs]; exact h.1,by rw [hs]; exact h.2⟩;show ¬ (addK [] key).length < 1;unfold addK;simp
theorem wrote_of {L1:List AObj} {key bytes:Bs} {y v:AVal} {h':Heap} (hI:StF I H L1) (hIH:I.hi < H.length) (hR:RoomFor F K key bytes) (hb:b≤H.length) (h:CommitQ kl L1 I F K [⟨false,key,bytes,y⟩] b H.length v h') :
  ∃ P w',v = .int .i64 0∧h'=⟨P,b,w'⟩∧Wrote kl H I F K key bytes b w (if w' < H.length then ⟨P,b,min w w'⟩ else ⟨H,b,w⟩):=by
 obtain ⟨H',F',K',w',e,rfl,s1,s2,s3,s4,-,rfl,s6⟩:=h;obtain ⟨rfl,s7,K1,hd,A,⟨e1,e1'⟩,e2,e3,e4⟩:=s6 (goodC_of hR);refine ⟨H',w',rfl,rfl,?_⟩;rw [if_pos (by omega)]
 obtain ⟨p,rfl⟩:∃ p,A=[p]:=by
  cases A with
  | nil =>
   have:=congrArg List.length e2;simp at this
  | cons p A =>
   cases A with
   | nil=>exact ⟨p,rfl⟩
   | cons q A =>
    have:=congrArg List.length e2;simp at this
 have hp1:p.1=⟨1,1,key,bytes,0⟩:=by have:p.1 :: []=_:=e2;injection this
 have hsz:sizes (([p]:List RV).map Prod.fst)=16+key.length+bytes.length:=by
  show p.1.size+0=_
  rw [hp1]; rfl
 refine ⟨H',F',K',min w w',rfl,hI.trans s1,s2,s3,by omega,by omega,?_,e4,?_⟩
 ·have:K'.ix=(StU.put { K1 with txn:=K1.txn+1,at_:=K1.at_+sizes (([p]:List RV).map Prod.fst)+16 } key ⟨hd,K1.at_,bytes⟩).ix:=by
   rw [e3];unfold wroteK founds founds;show (StU.apply _ hd K1.at_ (p.1.at (K1.txn+1))).ix=_;rw [hp1];unfold StU.apply RecU.at
   rw [if_neg (show ¬ (1=2) by decide)]
  obtain ⟨n,hn⟩:=put_find { K1 with txn:=K1.txn+1,at_:=K1.at_+sizes (([p]:List RV).map Prod.fst)+16 } key ⟨hd,K1.at_,bytes⟩;rw [← this] at hn;exact ⟨_,hn,rfl⟩
 ·have:K'.at_=K1.at_+(16+key.length+bytes.length)+16:=by rw [e3];unfold wroteK founds founds;show (StU.apply _ hd K1.at_ (p.1.at (K1.txn+1))).at_=_;rw [(yi _ _ _ _).2.2.1,hsz]
  omega
section
attribute [-simp] getElem?_pos getElem?_neg List.all_eq_true
attribute [local simp] qZ qS nltT nltF iltT iltF ileT nleT dz
theorem c680 (hC:Codes E) (hF:IsCode E 680 code680) (h:SO kl H I F K) (hkl:∀ k ∈ kl,1≤k.length∧k.length≤64) (hkn:kl.length≤12) (hb:I.lo b) (hbN:b≤H.length) (hFn:0 < F.n) {s k:Bs} (hs:s.length≤1000) (hk:k.length≤1000) (hkey:keyB s k ∈ kl)
  {r:RecsU} (hr:r.ok) {L:List EV} {a:Option (Nat × Nat)} {c:Option Nat} (hL:L.map Prod.fst=r.list) (hR:Row H 2 EV.cells L a) (hok:∀ p ∈ L,EV.ok H p) (ha:∀ p o,a=some (p,o)→p < H.length) (hlen:r.bytes.length≤4096) (hroom:RoomFor F K (keyB s k) r.bytes) (w:Nat) :
  CallD E 680 [.ptr (some (I.s,0)),.str s,.str k,r.val (.slice a L.length c)] ⟨H,b,w⟩ fun v h'=>v = .int .i64 0∧Wrote kl H I F K (keyB s k) r.bytes b w h':=by
 have hT:=hC.t;have hm:=hC.m;have hIhi:=h.a.hi;refine CallD.of_code hF rfl ?_;rw [body680];have hen:enter 0 [AVal.ptr (some (I.s,0)),.str s,.str k,r.val (.slice a L.length c)]=[(0,.val (.ptr (some (I.s,0)))),(1,.val (.str s)),(2,.val (.str k)),(3,.val (r.val (.slice a L.length c)))]:=rfl;have hsz:(⟨H,b,w⟩:Heap).size=H.length:=rfl;rw [hen];simp only [hsz];have hrr:=hr.rr;rw [← hL] at hrr;have h688:=fun w=>s688 (b:=b) (w:=w) (c:=c) hR hok hrr hr.nn hr.vv ha hbN
 rw [hL] at h688;have hrb:recsB r.next r.ver r.list=r.bytes:=rfl
 rw [hrb] at h688;have h683:=fun H w=>s683 (H:=H) (b:=b) (w:=w) (s:=s) (k:=k) (by omega) (by omega)
 refine CodeD.seq nofun (CodeD.run hT hm (e:=.normal) (st':=⟨[(0,.val (.ptr (some (I.s,0)))),(1,.val (.str s)),(2,.val (.str k)),(7,.var [.int .u32 r.next,.int .u32 r.ver,.slice a L.length c])],⟨H,b,H.length⟩⟩) (fun k'=>by unfold RecsU.val;simp (disch:=omega) []) ?_)
 refine CodeD.seq nofun (CodeD.run hT hm (e:=.normal) (st':=⟨[(0,.val (.ptr (some (I.s,0)))),(1,.val (.str s)),(2,.val (.str k)),(9,.val (.slice (some (H.length,0)) r.bytes.length none)),(10,.val (.int .i64 0))],⟨H++[.cells 1 (r.bytes.map u8V)],b,H.length⟩⟩) (fun k'=>by simp (disch:=omega) [h688]) ?_);refine CodeD.seq nofun (CodeD.run hT hm (e:=.normal) (st':=⟨[(0,.val (.ptr (some (I.s,0)))),(1,.val (.str s)),(2,.val (.str k)),(9,.val (.slice (some (H.length,0)) r.bytes.length none))],⟨H++[.cells 1 (r.bytes.map u8V)],b,H.length⟩⟩) (fun k'=>by simp (disch:=omega) []) ?_);have hl4:¬ ((4096:Int) < r.bytes.length):=by omega
 refine CodeD.seq nofun (CodeD.run hT hm (e:=.normal) (st':=⟨[(0,.val (.ptr (some (I.s,0)))),(1,.val (.str s)),(2,.val (.str k)),(9,.val (.slice (some (H.length,0)) r.bytes.length none))],⟨H++[.cells 1 (r.bytes.map u8V)],b,H.length⟩⟩) (fun k'=>by simp (disch:=omega) [hl4]) ?_);refine CodeD.seq nofun (CodeD.after (CodeD.regionX hT hm ?_));have hg0:=fo H [AObj.cells 1 (r.bytes.map u8V),.cells 3 [.bool false,.str (keyB s k),.slice (some (H.length,0)) r.bytes.length none]];have hg1:=j9 H [AObj.cells 1 (r.bytes.map u8V),.cells 3 [.bool false,.str (keyB s k),.slice (some (H.length,0)) r.bytes.length none]] 1
 have hrun:∀ k':Slots→Heap→Option (Slots × Heap),opsK (xCall T) [v 22 0,v 23 1,v 24 2,o 25 (.callg 683 [t 23,t 24]),v 26 9,o 27 (.build [.bool false,.str [],.slice none 0 (some 0)] [(1,1,t 25),(2,1,t 26)]),o 28 (.mkslice 3 1 [.bool false,.str [],.slice none 0 (some 0)] [(0,3,t 27)])] [(0,.val (.ptr (some (I.s,0)))),(1,.val (.str s)),(2,.val (.str k)),(9,.val (.slice (some (H.length,0)) r.bytes.length none))] ⟨H++[.cells 1 (r.bytes.map u8V)],b,H.length⟩ (k:=⟨k'⟩) =
   k' [(28,.val (.slice (some (H.length+1,0)) 1 (some 1))),(27,.val (.agg [.bool false,.str (keyB s k),.slice (some (H.length,0)) r.bytes.length none])),(26,.val (.slice (some (H.length,0)) r.bytes.length none)),(25,.val (.str (keyB s k))),(24,.val (.str k)),(23,.val (.str s)),(22,.val (.ptr (some (I.s,0)))),(0,.val (.ptr (some (I.s,0)))),(1,.val (.str s)),(2,.val (.str k)),(9,.val (.slice (some (H.length,0)) r.bytes.length none))]
    ⟨H++[AObj.cells 1 (r.bytes.map u8V),.cells 3 [.bool false,.str (keyB s k),.slice (some (H.length,0)) r.bytes.length none]],b,H.length⟩:=fun k'=>by
  simp (disch:=omega) [h683]
 have hSM:=lq h [AObj.cells 1 (r.bytes.map u8V),.cells 3 [.bool false,.str (keyB s k),.slice (some (H.length,0)) r.bytes.length none]];have hMl:(H++[AObj.cells 1 (r.bytes.map u8V),.cells 3 [.bool false,.str (keyB s k),.slice (some (H.length,0)) r.bytes.length none]]).length=H.length+2:=by simp
 have hSF:StF I H (H++[AObj.cells 1 (r.bytes.map u8V),.cells 3 [.bool false,.str (keyB s k),.slice (some (H.length,0)) r.bytes.length none]]):=StF.refl.app _;generalize H++[AObj.cells 1 (r.bytes.map u8V),.cells 3 [.bool false,.str (keyB s k),.slice (some (H.length,0)) r.bytes.length none]]=M at *;have hRc:Row M 3 ChU.cells [⟨false,keyB s k,r.bytes,.slice (some (H.length,0)) r.bytes.length none⟩] (some (H.length+1,0)):=Row.mk0 (fun _=>rfl) (by rw [hg1]; rfl)
 have hfine:∀ c ∈ [(⟨false,keyB s k,r.bytes,.slice (some (H.length,0)) r.bytes.length none⟩:ChU)],c.fine M∧c.key ∈ kl:=fun c hc=>by rw [b9] at hc;subst hc;refine ⟨⟨⟨some (H.length,0),none,rfl,fun p o e=>?_,.inr ⟨H.length,0,rfl,SlB.whole hg0 rfl,by simp⟩⟩,⟨_,_,_,_,rfl⟩,(hkl _ hkey).1,(hkl _ hkey).2,hlen⟩,hkey⟩;cases e;omega
 obtain ⟨H4,F4,K4,nx,c1,c2,c3,c4,c5,c6⟩:=AbsBlo.p549 (lc:=some 1) hSM hkl hb (by omega) hFn hRc (List.cons_ne_nil _ _) (by show 1≤16; decide) hfine (goodC_of hroom);have hcm:CallD E 549 [.ptr (some (I.s,0)),.slice (some (H.length+1,0)) 1 (some 1)] ⟨M,b,H.length⟩ (CommitQ kl M I F K [⟨false,keyB s k,r.bytes,.slice (some (H.length,0)) r.bytes.length none⟩] b H.length):=CallD.of_xX hC.b hm (c6 H.length) ⟨H4,F4,K4,nx H.length,0,rfl,c1,c2,c3,(c4 H.length).1,.inl (c4 H.length).2,rfl,fun _=>⟨rfl,(c4 H.length).2,c5⟩⟩;refine OpsD.run (r:=[o 29 (.callg 549 [t 22,t 28]),v 8 29]) hrun ?_;refine OpsD.call (g:=549) (xs:=[t 22,t 28]) rfl rfl rfl hcm fun vv hh hR'=>?_
 obtain ⟨P,w',rfl,rfl,hW⟩:=wrote_of (w:=w) hSF hIhi hroom hbN hR';refine OpsD.run (l:=[v 8 29]) (r:=[]) (s1:=[(8,.val (.int .i64 0)),(29,.val (.int .i64 0)),(28,.val (.slice (some (H.length+1,0)) 1 (some 1))),(27,.val (.agg [.bool false,.str (keyB s k),.slice (some (H.length,0)) r.bytes.length none])),(26,.val (.slice (some (H.length,0)) r.bytes.length none)),(25,.val (.str (keyB s k))),(24,.val (.str k)),(23,.val (.str s)),(22,.val (.ptr (some (I.s,0)))),(0,.val (.ptr (some (I.s,0)))),(1,.val (.str s)),(2,.val (.str k)),(9,.val (.slice (some (H.length,0)) r.bytes.length none))]) (h1:=⟨P,b,w'⟩) (fun k'=>by simp (disch:=omega) []) (OpsD.done ?_);refine CodeD.run hT hm (e:=.ret) (st':=⟨[(8,.val (.int .i64 0))],⟨P,b,w'⟩⟩) (fun k'=>by simp (disch:=omega) []) ?_;exact ⟨_,_,fe680,rfl,hW⟩
end
end
end Go.Abs.AbsNat

namespace Go.Abs.AbsBlo
open Go.Abs.AbsBlb hiding T
open Go.Abs.Short
section
variable {H:List AObj} {b w:Nat}
theorem s567 {p o n:Nat} {c:Option Nat} {X:List AVal} (hp:H[p]? = some (.cells 1 X)) (hX:X[o]? = some (.int .u8 255)) (hn:0 < n∧n≤131072) :
  xCall T 567 [.slice (some (p,o)) 1 c,.int .i64 n] ⟨H,b,w⟩=some (.slice (some (H.length,0)) n (some n),⟨H++[.cells 1 ((List.replicate n (255:UInt8)).map u8V)],b,w⟩):=by
 rw [xLib_eq' T t567 _ _ (F:=repF)];have hr:List.replicate n (AVal.int .u8 255)=(List.replicate n (255:UInt8)).map u8V:=by rw [List.map_replicate]; rfl
 have e1:(0:Int) < n∧(n:Int)≤131072:=by omega
 unfold repF;simp only [Heap.get,hp,hX,e1,and_self,if_true,Int.toNat_natCast,hr,bv,Heap.puts,List.foldl_nil,kh,Heap.push,Heap.size]
theorem s556 {n z lim:Nat} (hn:1≤n∧n≤64) (hz:64≤z∧z≤65536) (hl:1≤lim∧lim≤1048576) (hnz:n*z≤131072) :
  xCall T 556 [.agg [.int .i64 n,.int .i64 z,.int .i64 lim]] ⟨H,b,w⟩=some (.tuple [.ptr (some (H.length,0)),.int .i64 0],
   ⟨H++[.cells 9 [.int .i64 n,.int .i64 z,.int .i64 lim,.slice (some (H.length+1,0)) (n*z) (some (n*z)),.slice (some (H.length+2,0)) n (some n),.bool false,.int .i64 (-1),.int .i64 0,.int .u8 0],.cells 1 ((List.replicate (n*z) (255:UInt8)).map u8V),.cells 1 (List.replicate n (.int .i64 0))],b,w⟩):=by
 have h568:=fun (x lo hi:Int) P w=>fe sub (s568 (H:=P) (b:=b) (w:=w) (x:=x) (lo:=lo) (hi:=hi))
 have q1:((1:Int)≤n)∧((n:Int)≤64):=by omega
 have q2:((64:Int)≤z)∧((z:Int)≤65536):=by omega
 have q3:((1:Int)≤lim)∧((lim:Int)≤1048576):=by omega
 obtain ⟨q1a,q1b⟩:=q1;obtain ⟨q2a,q2b⟩:=q2;obtain ⟨q3a,q3b⟩:=q3;have hmi:(n:Int)*(z:Int)=((n*z:Nat):Int):=(Int.natCast_mul n z).symm;have hnz0:0 < n*z:=Nat.mul_pos (by omega) (by omega);have h567:=fun w=>s567 (H:=H++[.cells 1 [.int .u8 255]]) (b:=b) (w:=w) (p:=H.length) (o:=0) (c:=some 1) (n:=n*z) (X:=[.int .u8 255]) (fo _ _) rfl ⟨hnz0,hnz⟩
 have hids:AVal.idsL ((List.replicate (n*z) (255:UInt8)).map u8V)=[]:=lh _;have hren:∀ g,AVal.renL g ((List.replicate (n*z) (255:UInt8)).map u8V)=(List.replicate (n*z) (255:UInt8)).map u8V:=fun g=>lj g _
 have hids2:AVal.idsL (List.replicate n (AVal.int .i64 0))=[]:=AbsBlb.idsL_none fun x hx=>by rw [List.eq_of_mem_replicate hx]; simp [AVal.ids]
 have hren2:∀ g,AVal.renL g (List.replicate n (AVal.int .i64 0))=List.replicate n (.int .i64 0):=fun g=>AbsBlb.renL_none fun x hx=>by rw [List.eq_of_mem_replicate hx]; simp [AVal.ren]
 simp only [au,b8,dt,dh,a7,e8,fg] at h567;generalize (List.replicate (n*z) (255:UInt8)).map u8V=Y at *;generalize n*z=nz at *;simp (maxSteps:=3000000) (disch:=omega) [-getElem?_pos,-getElem?_neg,-List.all_eq_true,qZ,qS,nltT,nltF,iltT,iltF,ileT,nleT,dz,-sget,sgetN,sgetH,sgetT,-el,g7,g8,fq,ba t556,code556,h568,q1a,q1b,q2a,q2b,q3a,q3b,hmi,h567,jo,jp,sj,hids,hren,hids2,hren2,bi]
end
end Go.Abs.AbsBlo

namespace Go.Abs.AbsBlo
open Go.Abs.AbsBlb hiding T
open Go.Abs.Short
def z0:Sec:=⟨0,0,0⟩
def mtC (fl n z lim m:Nat) (x:AVal):List AVal:=[.ptr (some (fl,0)),.int .i64 n,.int .i64 z,.int .i64 lim,x,.map (some m),.int .i64 (-1),.int .i64 0,.int .u32 0,.int .u32 0,.bool false]
structure MT (H P:List AObj) (fl n z lim c2 s m i:Nat) (x:AVal):Prop where
  pre:Pre H P
  hc:P[c2]? = some (.cells 1 [.ptr (some (s,0))])
  hs:P[s]? = some (.cells 11 (mtC fl n z lim m x))
  hm:P[m]? = some (.map [] 0)
  hx:FRow H.length 3 Sec.cells (List.replicate i z0) P x
  nc:H.length≤c2
  ns:H.length≤s
  nm:H.length≤m
section
variable {H:List AObj} {b:Nat} {fi:FI} {F:Fl}
theorem zai (h:FlA H fi F) (hb:∀ j,j < F.b.length→F.b[j]? = some 255) (hw:∀ i,i < F.n→F.w[i]? = some 0) {i:Nat} (hi:i < F.n):F.look i=z0:=by
  obtain ⟨h1,h2⟩:=h.sec_len hi;unfold Fl.look;rw [hw i hi,lookB_blank]
  · rfl
  · intro j hj
    rw [h1] at hj;rw [Fl.sec_get hj];exact hb _ (by omega)
section
attribute [-simp] getElem?_pos getElem?_neg List.all_eq_true
attribute [local simp] qZ qS nltT nltF iltT iltF ileT nleT dz
theorem l555 (h:FlA H fi F) (hbk:∀ j,j < F.b.length→F.b[j]? = some 255) (hw:∀ i,i < F.n→F.w[i]? = some 0) (hz:12≤F.z) (hb:b≤H.length) {c2 s m:Nat}:∀ (j i:Nat) (P:List AObj) (x:AVal) (w:Nat),i+j=F.n→MT H P fi.fl F.n F.z F.lim c2 s m i x→H.length≤w →
    ∃ P' x' w',MT H P' fi.fl F.n F.z F.lim c2 s m F.n x'∧H.length≤w'∧∀ {β:Type} (k:AExit→St→Option β),
      xK T (.loop code555L0) ⟨[(0,.val (.ptr (some (fi.fl,0)))),(2,.val (.ptr (some (c2,0)))),(4,.val (.slice none 0 (some 0))),(22,.val (.int .i64 F.n)),(23,.val (.int .i64 i))],⟨P,b,w⟩⟩ (k:=⟨k⟩) =
        k (.exit 0) ⟨[(2,.val (.ptr (some (c2,0)))),(4,.val (.slice none 0 (some 0)))],⟨P',b,w'⟩⟩
  | 0,i,P,x,w,hi,hM,hw'=>by
    obtain rfl:i=F.n:=by omega
    refine ⟨P,x,w,hM,hw',fun k=>?_⟩;rw [c8];simp (disch:=omega) [code555L0]
  | j+1,i,P,x,w,hi,hM,hw'=>by
    have hnb:=h.nb.1;have hfP:FlA P fi F:=h.keep fun k o ho _=>hM.pre k o ho
    have hPl:=hM.pre.len;have hlk:=zai h hbk hw (i:=i) (by omega);have h564:=fun w=>fe sub (s564 (b:=b) (w:=w) hfP (i:=i) (by omega) hz (by omega))
    rw [hlk] at h564;have hzc:z0.cells=[.int .i64 0,.int .u32 0,.int .i64 0]:=rfl;rw [hzc] at h564;have hcl:=ah hM.hc;have hsl:=ah hM.hs;have hml:=ah hM.hm;have hrep:List.replicate i z0++[z0]=List.replicate (i+1) z0:=(List.replicate_succ' ..).symm;have hids:AVal.idsL ((List.replicate (i+1) z0).flatMap Sec.cells)=[]:=idsL_sec _;have hne1:c2≠s:=fun e=>by have:=hM.hc; rw [e,hM.hs] at this; simp [mtC] at this
    have hne2:m≠s:=fun e=>by have:=hM.hm; rw [e,hM.hs] at this; simp [mtC] at this
    have e2:((i+1:Nat):Int)=(i:Int)+1:=by omega
    have g1:=hM.hc;have g2:=hM.hs;unfold mtC at g2;have hsb:b≤s:=by have:=hM.ns; omega
    rcases hM.hx with ⟨e0,rfl⟩ | ⟨e0,q,hq,rfl,hrow⟩
    · have hi0:i=0:=by have:=congrArg List.length e0;simpa using this
      subst hi0
      have happ:∀ w,du 3 24 ⟨P++[.cells 3 z0.cells],b,w⟩ (.slice none 0 (some 0)) (.slice (some (P.length,0)) 1 (some 1))=some (.slice (some (P.length+1,0)) 1 none,⟨P++[.cells 3 z0.cells,.cells 3 z0.cells],b,w⟩):=fun w=>by have hz:ic 3 ⟨P++[.cells 3 z0.cells],b,w⟩ (.slice (some (P.length,0)) 1 (some 1))=some z0.cells:=tm (by show (P++[AObj.cells 3 z0.cells])[P.length]? = _; rw [fo]; rfl) rfl;unfold du;simp only [hz,vw,aApp,alen];simp [Heap.push,Heap.size]
      obtain ⟨P',x',w',i1,i2,i3⟩:=l555 h hbk hw hz hb (c2:=c2) (s:=s) (m:=m) j 1 ((P++[AObj.cells 3 z0.cells,AObj.cells 3 z0.cells]).set s (.cells 11 (mtC fi.fl F.n F.z F.lim m (.slice (some (P.length+1,0)) 1 none)))) (.slice (some (P.length+1,0)) 1 none) (min w s) (by omega)
        ⟨fun k o hk=>by have:=ah hk;have hns:=hM.ns;rw [av (by omega),ag (by omega)]; exact hM.pre k o hk,
         by rw [av hne1.symm,ag hcl]; exact hM.hc,
         jc (by rw [au]; omega),
         by rw [av hne2.symm,ag hml]; exact hM.hm,
         .inr ⟨by decide,P.length+1,by omega,rfl,by rw [av (by omega),j9]; rfl⟩,hM.nc,hM.ns,hM.nm⟩ (by have:=hM.ns; omega)
      refine ⟨P',x',w',i1,i2,fun k=>?_⟩;have ih:=i3 k;have hn1:(1:Int)≤F.n:=by omega
      simp only [bg] at h564;rw [c8,← ih];have hg3:(P++[AObj.cells 3 z0.cells,.cells 3 z0.cells])[P.length+1]? = some (.cells 3 z0.cells):=j9 _ _ 1;have hg4:=fun X=>(ag (l₂:=X) hsl).trans g2
      have hg5:=fun X=>(ag (l₂:=X) hcl).trans g1
      unfold mtC;rw [hzc] at happ hg3 ⊢;generalize ACode.loop code555L0=LL;simp (disch:=omega) [code555L0,-du,-sget,sgetN,sgetH,sgetT,-el,g7,g8,fq,bi,h564,g1,g2,hg3,hg4,hg5,happ,hsb,hn1]
    · have hi0:0 < i:=by
        cases i with
        | zero=>exact absurd rfl e0
        | succ i=>omega
      simp only [bn] at g2;have hql:=ah hrow;have hqs:q≠s:=fun e=>by rw [e,hM.hs] at hrow; simp [mtC] at hrow
      have hqc:q≠c2:=fun e=>by rw [e,hM.hc] at hrow; simp at hrow
      have hqm:q≠m:=fun e=>by rw [e,hM.hm] at hrow; simp at hrow
      have hflen:((List.replicate i z0).flatMap Sec.cells).length=i*3:=by rw [y5 Sec.cells 3 (fun _=>rfl)]; simp
      have hfl2:(List.replicate i z0).flatMap Sec.cells++z0.cells=(List.replicate (i+1) z0).flatMap Sec.cells:=by rw [← hrep,List.flatMap_append]; simp
      have happ:∀ w,du 3 24 ⟨P++[.cells 3 z0.cells],b,w⟩ (.slice (some (q,0)) i none) (.slice (some (P.length,0)) 1 (some 1))=some (.slice (some (P.length+1,0)) (i+1) none,⟨P.set q .dead++[.cells 3 z0.cells,.cells 3 ((List.replicate (i+1) z0).flatMap Sec.cells)],b,min w q⟩):=fun w=>by
        have hz:ic 3 ⟨P++[.cells 3 z0.cells],b,w⟩ (.slice (some (P.length,0)) 1 (some 1))=some z0.cells:=tm (by show (P++[AObj.cells 3 z0.cells])[P.length]? = _; rw [fo]; rfl) rfl;have h5:(P++[AObj.cells 3 z0.cells])[q]? = some (.cells 3 ((List.replicate i z0).flatMap Sec.cells)):=by rw [ag hql]; exact hrow
        have hz1:ic 3 ⟨P++[.cells 3 z0.cells],b,w⟩ (.slice (some (q,0)) i none)=some ((List.replicate i z0).flatMap Sec.cells):=tm h5 hflen
        have hr:rowIs ⟨P++[.cells 3 z0.cells],b,w⟩ q 3=true:=by unfold rowIs Heap.get;simp only [h5];simp
        unfold du;simp only [hz,hz1,aApp,alen];have q1:¬ (1:Nat)=0:=by decide
        have q2:(i+1)*24≤140737488355328∧i+1≤9223372036854775807:=⟨by omega,by omega⟩;have q3:¬ (none:Option Nat)=some i:=by simp
        have q4:(⟨P++[AObj.cells 3 z0.cells],b,w⟩:Heap).base≤q∧rowIs ⟨P++[AObj.cells 3 z0.cells],b,w⟩ q 3=true:=⟨by show b≤q; omega,hr⟩;have hs:(P++[AObj.cells 3 z0.cells]).length=P.length+1:=by simp
        simp only [eq_false q1,eq_true q2,eq_false q3,eq_true q4,if_false,if_true];simp only [Heap.push,Heap.put,Heap.size,nr _ _ hql,bf,hs,hfl2,a7,e8,fg]
      have hl4:(P.set q .dead++[AObj.cells 3 z0.cells,.cells 3 ((List.replicate (i+1) z0).flatMap Sec.cells)]).length=P.length+2:=by simp
      have hl5:(P.set q AObj.dead).length=P.length:=bf
      have up:∀ k o,k≠q→P[k]? = some o→(P.set q .dead++[AObj.cells 3 z0.cells,.cells 3 ((List.replicate (i+1) z0).flatMap Sec.cells)])[k]? = some o:=fun k o hk ho=>by rw [ag (by rw [hl5]; exact ah ho),av (fun e=>hk e.symm)]; exact ho
      have hg3:(P.set q .dead++[AObj.cells 3 z0.cells,.cells 3 ((List.replicate (i+1) z0).flatMap Sec.cells)])[P.length+1]? = some (.cells 3 ((List.replicate (i+1) z0).flatMap Sec.cells)):=by rw [← hl5,j9]; rfl
      have hgq:(P.set q .dead++[AObj.cells 3 z0.cells,.cells 3 ((List.replicate (i+1) z0).flatMap Sec.cells)])[q]? = some .dead:=by rw [ag (by rw [hl5]; exact hql),jc hql]
      have us:=up _ _ hqs.symm hM.hs;have uc:=up _ _ hqc.symm hM.hc;have um:=up _ _ hqm.symm hM.hm;have upre:∀ k o,H[k]? = some o→(P.set q .dead++[AObj.cells 3 z0.cells,.cells 3 ((List.replicate (i+1) z0).flatMap Sec.cells)])[k]? = some o:=fun k o hk=>up k o (by have:=ah hk; omega) (hM.pre k o hk)
      obtain ⟨P',x',w',i1,i2,i3⟩:=l555 h hbk hw hz hb (c2:=c2) (s:=s) (m:=m) j (i+1) ((P.set q .dead++[AObj.cells 3 z0.cells,.cells 3 ((List.replicate (i+1) z0).flatMap Sec.cells)]).set s (.cells 11 (mtC fi.fl F.n F.z F.lim m (.slice (some (P.length+1,0)) (i+1) none)))) (.slice (some (P.length+1,0)) (i+1) none) (min (min w q) s) (by omega)
        ⟨fun k o hk=>by have:=ah hk;have hns:=hM.ns;rw [av (by omega)]; exact upre k o hk,
         by rw [av hne1.symm]; exact uc,
         jc (by rw [hl4]; omega),
         by rw [av hne2.symm]; exact um,
         .inr ⟨by simp,P.length+1,by omega,by rw [bn],by rw [av (by omega)]; exact hg3⟩,hM.nc,hM.ns,hM.nm⟩ (by have:=hM.ns; omega)
      refine ⟨P',x',w',i1,i2,fun k=>?_⟩;have ih:=i3 k;rw [e2] at ih;have hni:(i:Int) < F.n:=by omega
      have hqne:¬ q=P.length+1:=by omega
      rw [c8,← ih];have hg4:=fun X=>(ag (l₂:=X) hsl).trans g2
      have hg5:=fun X=>(ag (l₂:=X) hcl).trans g1
      have hg6:=fun X=>(ag (l₂:=X) hql).trans hrow
      unfold mtC at us ⊢;rw [hzc] at happ hg3 us hl4 hgq ⊢;generalize (List.replicate (i+1) z0).flatMap Sec.cells=Y at *;generalize (List.replicate i z0).flatMap Sec.cells=Y0 at *;generalize ACode.loop code555L0=LL;simp (disch:=omega) [code555L0,-du,-sget,sgetN,sgetH,sgetT,-el,g7,g8,fq,bi,h564,g1,g2,hg3,hg4,hg5,hg6,happ,hsb,hni,hids,hl4,hgq,us,hqne,hqc,hqs]
end
end
end Go.Abs.AbsBlo

namespace Go.Abs.AbsBlo
open Go.Abs.AbsBlb hiding T
open Go.Abs.Short
theorem finish_cases2 {h0 h:Heap} {v:AVal} (hv:v.under h0.size=false) :
  (∃ w,dg h0 v h=(v,⟨h.objs,h.base,w⟩)∧(w=min h0.wmin h.wmin∨(w=h0.wmin∧h0.size≤h.wmin))) ∨
  (h0.size≤h.wmin∧∃ f I X,dg h0 v h=(v.ren f,⟨h0.objs++X,h0.base,h0.wmin⟩)∧Moves f I h0.size h.objs (h0.objs++X)∧(∀ j ∈ v.ids,h0.size≤j→I j)∧∀ i,i < h0.size→f i=i):=by
 unfold dg;by_cases hw:h.wmin < h0.size
 ·rw [if_pos hw]; exact .inl ⟨_,rfl,.inl rfl⟩
 ·rw [if_neg hw,hv];simp only [cd,if_false];generalize hk:reach h h0.size 1000 v.ids []=k;have hge:∀ i ∈ k,h0.size≤i:=by rw [← hk]; exact rt _ _ _ (by simp)
  split
  ·rename_i hok;refine .inr ⟨by omega,fun i=>if i < h0.size then i else h0.size+idxIn i k,fun i=>i ∈ k,_,rfl,⟨fun i obj hi ho=>?_,fun i obj hi ho j hj hn=>?_,fun i hi=>?_⟩,fun j hj hn=>?_,fun i hi=>if_pos hi⟩
   ·have h1:=hge i hi;obtain ⟨h2,h3⟩:=zac hi;have h4:¬ i < h0.size:=by omega
    simp only [if_neg h4];have h5:h0.size=h0.objs.length:=rfl;rw [h5,az (by omega),iy,br,h3];have h6:h.get i=some obj:=ho;simp only [bv,h6,fm]
   ·rw [ai] at hok;have h6:h.get i=some obj:=ho;have:=hok j (gd _ (df.2 ⟨i,hi,by rw [h6]; exact hj⟩));simp only [c7,decide_eq_true_eq] at this;rcases this with h7 | h7
    ·omega
    ·simpa using h7
   ·show h0.size≤if i < h0.size then i else h0.size+idxIn i k
    rw [if_neg (by omega)]; omega
   ·rw [ai] at hok;have:=hok j (e9 _ hj);simp only [c7,decide_eq_true_eq] at this;rcases this with h7 | h7
    ·omega
    ·simpa using h7
  ·exact .inl ⟨_,rfl,.inr ⟨rfl,by omega⟩⟩
theorem finish_any2 {O P:List AObj} {b w':Nat} {v:AVal} (hv:v.under O.length=false) (hw:O.length≤w') :
  (∀ w,dg ⟨O,b,w⟩ v ⟨P,b,w'⟩=(v,⟨P,b,w⟩)) ∨
  (∃ f I X,(∀ w,dg ⟨O,b,w⟩ v ⟨P,b,w'⟩=(v.ren f,⟨O++X,b,w⟩))∧Moves f I O.length P (O++X)∧(∀ j ∈ v.ids,O.length≤j→I j)∧∀ i,i < O.length→f i=i):=by
 rcases finish_cases2 (h0:=⟨O,b,0⟩) (h:=⟨P,b,w'⟩) hv with ⟨w1,e,-⟩ | ⟨-,f,I,X,e,hm,hi,hf⟩
 ·exact .inl fun w=>by rw [tz hw,e]
 ·exact .inr ⟨f,I,X,fun w=>by rw [tz hw,e],hm,hi,hf⟩
section
variable {H:List AObj} {b w:Nat} {fi:FI} {F:Fl}
section
attribute [-simp] getElem?_pos getElem?_neg List.all_eq_true
attribute [local simp] qZ qS nltT nltF iltT iltF ileT nleT dz
theorem s572 {g:Nat} {am cm:List AVal}:xCall T 572 [.slice none 0 (some 0),.func g am cm] ⟨H,b,w⟩=some (.tuple [],⟨H,b,w⟩):=by
 have h606:∀ w,xCall T 606 [.slice none 0 (some 0),.int .i64 0,.int .i64 0,.func g am cm] ⟨H,b,w⟩=some (.tuple [],⟨H,b,w⟩):=fun w=>by simp (disch:=omega) [ba (sub _ _ AbsBlb.t606),code606,c8,code606L1]
 have h590:∀ w,xCall T 590 [.slice none 0 (some 0),.int .i64 0,.func g am cm] ⟨H,b,w⟩=some (.tuple [],⟨H,b,w⟩):=fun w=>by simp (disch:=omega) [ba (sub _ _ AbsBlb.t590),code590,c8,code590L1,code590L2,h606]
 simp (disch:=omega) [ba (sub _ _ AbsBlb.t572),code572,h590]
theorem s570 {fl n z lim m s:Nat} {x:AVal} (hs:H[s]? = some (.cells 11 (mtC fl n z lim m x))) (hb:b≤s):xCall T 570 [.ptr (some (s,0)),.slice none 0 (some 0)] ⟨H,b,w⟩=some (.int .i64 0,⟨(H++[AObj.map [] 0]).set s (.cells 11 (mtC fl n z lim H.length x)),b,min w s⟩):=by
 have hsl:=ah hs;unfold mtC at hs ⊢;have hs2:=(ag (l₂:=[AObj.map [] 0]) hsl).trans hs;have hs3:∀ o X,(H.set s o++X)[s]? = some o:=fun o X=>by rw [ag (by rw [bf]; exact hsl),jc hsl]
 have hs4:∀ o o' X,(H.set s o++X).set s o'=H.set s o'++X:=fun o o' X=>by rw [nr _ _ (by rw [bf]; exact hsl),List.set_set]
 have hs5:∀ o' X,(H++X).set s o'=H.set s o'++X:=fun o' X=>by rw [nr _ _ hsl]
 rw [hs5];simp (disch:=omega) [ba t570,code570,c8,code570L0,hs,hs2,hb,hs3,hs4,hs5]
end
def K0 (n:Nat):StU:=⟨List.replicate n z0,[],0,-1,0,0,0,false⟩
theorem cnt_rep (lim:Int) (n:Nat):∀ i,i≤n→cnt (opn lim) (List.replicate n z0) i=i
 | 0,_=>rfl
 | i+1,hi=>by
  have ih:=cnt_rep lim n i (by omega);have hx:(List.replicate n z0)[i]? = some z0:=by rw [f9,if_pos (by omega)]
  have ho:opn lim z0=true:=by simp [opn,z0]
  simp only [cnt,hx,ho,if_true,ih]
theorem p555 (h:FlA H fi F) (hbk:∀ j,j < F.b.length→F.b[j]? = some 255) (hw:∀ i,i < F.n→F.w[i]? = some 0) (hz:12≤F.z) (hn0:0 < F.n) (hb:b≤H.length) :
  ∃ H' I,Pre H H'∧I.fi=fi∧H.length≤I.s∧H.length≤I.sa∧H.length≤I.m∧StA H' I F (K0 F.n)∧∀ w,xCall T 555 [.ptr (some (fi.fl,0))] ⟨H,b,w⟩=some (.tuple [.ptr (some (I.s,0)),.int .i64 0],⟨H',b,w⟩):=by
 have hnb:=h.nb.1;have hfl:=ah h.f;have h573:=fun X w=>fe sub (s573 (H:=H++X) (b:=b) (w:=w) (h.app X))
 have g0:=fo H [AObj.cells 1 [.ptr (some (H.length+2,0))],.map [] 0,.cells 11 (mtC fi.fl F.n F.z F.lim (H.length+1) (.slice none 0 (some 0)))];have gm:=j9 H [AObj.cells 1 [.ptr (some (H.length+2,0))],.map [] 0,.cells 11 (mtC fi.fl F.n F.z F.lim (H.length+1) (.slice none 0 (some 0)))] 1;have gs:=j9 H [AObj.cells 1 [.ptr (some (H.length+2,0))],.map [] 0,.cells 11 (mtC fi.fl F.n F.z F.lim (H.length+1) (.slice none 0 (some 0)))] 2
 obtain ⟨P1,x1,w1,i1,i2,i3⟩:=l555 (b:=b) h hbk hw hz hb (c2:=H.length) (s:=H.length+2) (m:=H.length+1) F.n 0 (H++[AObj.cells 1 [.ptr (some (H.length+2,0))],.map [] 0,.cells 11 (mtC fi.fl F.n F.z F.lim (H.length+1) (.slice none 0 (some 0)))]) (.slice none 0 (some 0)) H.length (by omega)
  ⟨fun k o hk=>by rw [ag (ah hk)]; exact hk,g0,gs,gm,.inl ⟨rfl,rfl⟩,aj _,by omega,by omega⟩ (aj _)
 have hP1l:=i1.pre.len;have hcl:=ah i1.hc;have hsl:=ah i1.hs;have h570:=fun w=>s570 (b:=b) (w:=w) i1.hs (by omega)
 have h572:=fun P w=>s572 (H:=P) (b:=b) (w:=w) (g:=571) (am:=[]) (cm:=[.ptr (some (H.length,0))])
 let P2:=(P1++[AObj.map [] 0]).set (H.length+2) (.cells 11 (mtC fi.fl F.n F.z F.lim P1.length x1))
 have hP2:(P1++[AObj.map [] 0]).set (H.length+2) (.cells 11 (mtC fi.fl F.n F.z F.lim P1.length x1))=P2:=rfl
 have up:∀ k o,k≠H.length+2→P1[k]? = some o→P2[k]? = some o:=fun k o hk ho=>by
  show ((P1++_).set _ _)[k]? = _
  rw [av (fun e=>hk e.symm),ag (ah ho)]; exact ho
 have k0:P2[H.length]? = some (.cells 1 [.ptr (some (H.length+2,0))]):=up _ _ (by omega) i1.hc;have ks:P2[H.length+2]? = some (.cells 11 (mtC fi.fl F.n F.z F.lim P1.length x1)):=jc (by rw [au]; omega)
 have km:P2[P1.length]? = some (.map [] 0):=by
  show ((P1++[AObj.map [] 0]).set _ _)[_]? = _
  rw [av (by omega),fo]; rfl
 rcases i1.hx with ⟨e,-⟩ | ⟨-,q,hq,rfl,hrow⟩
 ·have:=congrArg List.length e;simp at this;omega
 ·rw [bn] at ks hP2 h570;have hqs:q≠H.length+2:=fun e=>by rw [e,i1.hs] at hrow; simp [mtC] at hrow
  have kq:P2[q]? = some (.cells 3 ((List.replicate F.n z0).flatMap Sec.cells)):=up _ _ hqs hrow;have hpre2:Pre H P2:=fun k o hk=>up k o (by have:=ah hk; omega) (i1.pre k o hk)
  have hset0:P2.set H.length (.cells 1 [.ptr (some (H.length+2,0))])=P2:=qw k0;have hR:Row P2 3 Sec.cells (List.replicate F.n z0) (some (q,0)):=Row.mk0 (fun _=>rfl) kq;have h0:=fun c w=>fe sub (s0 (os:=P2) (b:=b) (w:=w) (c:=c) (lim:=F.lim) hR (by rw [bn]; omega))
  simp only [bn,cnt_rep F.lim F.n F.n (aj _)] at h0;have hv:AVal.under H.length (.tuple [.ptr (some (H.length+2,0)),.int .i64 0])=false:=by simp [AVal.under,AVal.unders]
  have hx0:xCall T 555 [.ptr (some (fi.fl,0))]=fun h=>xCall T 555 [.ptr (some (fi.fl,0))] h:=rfl
  have hrun:∀ w,xCall T 555 [.ptr (some (fi.fl,0))] ⟨H,b,w⟩=some (dg ⟨H,b,w⟩ (.tuple [.ptr (some (H.length+2,0)),.int .i64 0]) ⟨P2,b,min (min w1 (H.length+2)) H.length⟩):=fun w=>by
   have ks':=ks;have k1:=i1.hc;unfold mtC at ks' g0 gs i3 ;simp only [bg] at i3;have hne0:¬ (F.n=0):=by omega
   simp (disch:=omega) [-getElem?_pos,-getElem?_neg,-List.all_eq_true,qZ,qS,nltT,nltF,iltT,iltF,ileT,nleT,dz,ba t555,code555,-dg,h573,i3,h572,h570,hP2,k0,k1,ks',h0,hset0,hne0]
  have key:∀ (O:List AObj) (f:Nat→Nat),Pre H O→f fi.fl=fi.fl→O[f (H.length+2)]? = some ((AObj.cells 11 (mtC fi.fl F.n F.z F.lim P1.length (.slice (some (q,0)) F.n none))).ren f)→O[f q]? = some ((AObj.cells 3 ((List.replicate F.n z0).flatMap Sec.cells)).ren f)→O[f P1.length]? = some ((AObj.map [] 0).ren f)→StA O ⟨f (H.length+2),f q,none,f P1.length,fi⟩ F (K0 F.n):=fun O f hp hf o1 o2 o3=>by
   refine ⟨h.keep fun k o ho _=>hp k o ho,?_,?_,?_,bn,.inl rfl,gv _,by show 0 < 4294967296; decide,by show 0 < 4294967296; decide⟩
   ·rw [o1];simp [mtC,AObj.ren,AVal.renL,AVal.ren,hf,StU.cells,K0]
   ·rw [o2];show some (AObj.cells 3 (AVal.renL f _))=_;rw [yh]; rfl
   ·rw [o3]; rfl
  rcases finish_any2 (b:=b) (P:=P2) hv (w':=min (min w1 (H.length+2)) H.length) (by omega) with e | ⟨f,Ic,X,e,hm,hi,hf⟩
  ·refine ⟨P2,⟨H.length+2,q,none,P1.length,fi⟩,hpre2,rfl,by show H.length≤H.length+2; omega,hq,by show H.length≤P1.length; omega,?_,fun w=>by rw [hrun w,e w]⟩;refine key P2 id hpre2 rfl ?_ ?_ ?_
   ·show P2[H.length+2]? = _
    rw [ks];simp [mtC,AObj.ren,AVal.renL,AVal.ren]
   ·show P2[q]? = _
    rw [kq];show _=some (AObj.cells 3 (AVal.renL id _));rw [yh]
   ·show P2[P1.length]? = _
    rw [km]; rfl
  ·have hIs:Ic (H.length+2):=hi _ (by simp [AVal.ids,AVal.idsL]) (by omega);have hcl:=hm.cl _ _ hIs ks;have hIq:Ic q:=hcl q (by simp [mtC,AObj.ids,AVal.idsL,AVal.ids]) hq;have hIm:Ic P1.length:=hcl _ (by simp [mtC,AObj.ids,AVal.idsL,AVal.ids]) (by omega)
   refine ⟨H++X,⟨f (H.length+2),f q,none,f P1.length,fi⟩,fun k o hk=>by rw [ag (ah hk)]; exact hk,rfl,hm.up _ (by omega),hm.up _ hq,hm.up _ (by omega),?_,fun w=>by rw [hrun w,e w];simp [AVal.ren,AVal.renL]⟩
   exact key _ f (fun k o hk=>by rw [ag (ah hk)]; exact hk) (hf _ hfl) (hm.at' _ _ hIs ks) (hm.at' _ _ hIq kq) (hm.at' _ _ hIm km)
end
end Go.Abs.AbsBlo

namespace Go.Abs.AbsBlo
open Go.Abs.AbsBlb hiding T
open Go.Abs.Short
section
variable {H:List AObj} {b w:Nat} {I:SI} {F:Fl} {K:StU}
end
end Go.Abs.AbsBlo

namespace Go.Abs.AbsBlo
open Go.Abs.AbsBlb hiding T
open Go.Abs.Short
def F0 (n z lim:Nat):Fl:=⟨n,z,lim,List.replicate (n*z) 255,List.replicate n 0⟩
def newO (N n z lim:Nat):List AObj:=[.cells 9 [.int .i64 n,.int .i64 z,.int .i64 lim,.slice (some (N+1,0)) (n*z) (some (n*z)),.slice (some (N+2,0)) n (some n),.bool false,.int .i64 (-1),.int .i64 0,.int .u8 0],.cells 1 ((List.replicate (n*z) (255:UInt8)).map u8V),.cells 1 (List.replicate n (.int .i64 0))]
section
variable {E:Env} {H:List AObj} {b w:Nat} {kl:List Bs}
theorem flash0 {n z lim:Nat} (hn:1≤n∧n≤64) (hz:64≤z∧z≤65536) (hl:1≤lim∧lim≤1048576):FlA (H++newO H.length n z lim) ⟨H.length,H.length+1,H.length+2,some (n*z),some n⟩ (F0 n z lim):=by
 refine ⟨?_,?_,?_,bn,bn,⟨hn.2,hz.2⟩,hl.2,fun x hx=>?_,by show H.length+1≠H.length+2; omega,fun c hc=>?_,fun c hc=>?_⟩
 ·show (H++newO H.length n z lim)[H.length]? = _
  rw [fo];simp [newO,Fl.cells,F0]
 ·show (H++newO H.length n z lim)[H.length+1]? = _
  rw [j9]; rfl
 ·show (H++newO H.length n z lim)[H.length+2]? = _
  rw [j9];show some (AObj.cells 1 (List.replicate n (.int .i64 0)))=_;show _=some (AObj.cells 1 ((List.replicate n 0).map natV));rw [List.map_replicate]; rfl
 ·have:x ∈ List.replicate n 0:=hx;rw [List.eq_of_mem_replicate this]; exact gv _
 ·cases hc;exact bn.symm
 ·cases hc;exact bn.symm
theorem inv0 {fi:FI} {n z lim:Nat} (h:FlA H fi (F0 n z lim)) (hz:12≤z):AbsBlb.Inv kl (F0 n z lim) (K0 n):=by
 have hb:∀ j,j < (F0 n z lim).b.length→(F0 n z lim).b[j]? = some 255:=fun j hj=>by have hj:j < (List.replicate (n*z) (255:UInt8)).length:=hj;rw [bn] at hj;show (List.replicate (n*z) (255:UInt8))[j]? = _;rw [f9,if_pos hj]
 have hw:∀ i,i < (F0 n z lim).n→(F0 n z lim).w[i]? = some 0:=fun i hi=>by have hi:i < n:=hi;show (List.replicate n 0)[i]? = _;rw [f9,if_pos hi]
 refine ⟨hz,bn,bn,bn,fun i hi=>?_,rfl,.inl rfl,⟨by simp [K0],by simp [K0],fun e he=>by cases he⟩,fun e he=>(by cases he),fun i hi=>absurd rfl hi⟩;rw [zai h hb hw hi];have hi:i < n:=hi;show (List.replicate n z0)[i]? = _;rw [f9,if_pos hi]
end
end Go.Abs.AbsBlo

namespace Go.Abs.AbsBlo
open Go.Abs.AbsBlb hiding T
open Go.Abs.Short
section
variable {E:Env} {H:List AObj} {b:Nat}
end
end Go.Abs.AbsBlo

namespace Go.Abs
section
variable {E:Env} {lo nt:Nat} {μ0:MM} {w0:World} {ds:List Deferred}
end
end Go.Abs
