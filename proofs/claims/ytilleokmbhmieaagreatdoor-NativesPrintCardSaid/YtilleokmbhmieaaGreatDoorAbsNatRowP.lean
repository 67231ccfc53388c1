/-
  The law NativesPrint: true of any numbers; they read as they did. The listed table starts as the program text lays it.
-/
import Derived.Test.YtilleokmbhmieaaGreatDoorP11
import Derived.Test.YtilleokmbhmieaaGreatDoorP16
import Derived.Test.YtilleokmbhmieaaGreatDoorP14
import Derived.Lay
import Derived.Handed
import Derived.LaidHandle
import Derived.LaidLaws
import Derived.MakeChecks
import Derived.SevenTiedAt
import Derived.Test.YtilleokmbhmieaaGreatDoorRows
import Derived.Test.YtilleokmbhmieaaGreatDoorCards
import Derived.Test.YtilleokmbhmieaaGreatDoorTie
set_option linter.unusedVariables false
set_option linter.unusedSimpArgs false
set_option maxRecDepth 100000
namespace Go.Proofs.YtilleokmbhmieaaGreatDoor
open Go.Abs Go.Abs.AbsNat Go.Abs.AbsNatP Go.ChangeShapes Go.WideShapes Go.ChangeAt Go.RowKit
theorem own:ownKnob Tryz.prog.godebug=none:=by kernel_rfl
theorem laidOut:laidOutB Tryz.prog=true:=by kernel_rfl
theorem boolType:∃ tb,Tryz.f3.resultTypes = #[tb]∧Tryz.prog.underlying tb=some .bool:=⟨_,rfl,by kernel_rfl⟩
abbrev laids:List (String × DataW Unit):=[("math/bits.deBruijn32tab", Rows.laid_math_bits_deBruijn32tab),("math/bits.deBruijn64tab", Rows.laid_math_bits_deBruijn64tab),("internal/strconv.uint64pow10", Rows.laid_internal_strconv_uint64pow10)]
theorem laids_met (os:Os) (args:Array Value):laidMetH Tryz.prog laids ((World.laidAll Tryz.prog os laids).forCall (fun _ _=>0) ⟨#[],args,[]⟩).memory:=by rw [MakeChecks.laidMetH_plain _ _ _ (by kernel_rfl)];exact laidMet_laidAll _ (by kernel_rfl) (by kernel_rfl)
theorem codesN:CodesN E:=⟨⟨agrees.x,mixed⟩,.of_k _ rfl (by decide) Tryz.func67 kk680 trivial,.of_k _ rfl (by decide) Tryz.func41 kk671 trivial,.of_k _ rfl (by decide) Tryz.func22 kk666 trivial,.of_k _ rfl (by decide) Tryz.func42 kk673 trivial,.of_k _ rfl (by decide) Tryz.func23 kk665 trivial,.of_k _ rfl (by decide) Tryz.func11 kk660 trivial⟩
theorem is655:IsCode E 655 code655:=.of_k _ rfl (by decide) Tryz.func5 kk655 trivial
theorem is652:IsCode E 652 code652:=.of_k _ rfl (by decide) Tryz.func3 kk652 trivial
theorem uy (h:Heap) (l:List Dat) (vs:List AVal) (ha:HasArgs h [.slice (.int .i64)] l vs) (hb:h.base=h.size):CallD E 652 vs h fun v h'=>v = .bool true∧h'=h:=by obtain ⟨os,b,w⟩:=h;obtain ⟨_,_,_,_,rfl,rfl,h1,ha⟩:=ha.cons;obtain ⟨rfl,rfl⟩:=ha.nil;obtain ⟨a,L,c,rfl,hR,-,hL,-⟩:=h1.row (f:=AbsNat.intC) (ok:=AbsNat.okN) (fun d c hh=>by obtain ⟨x,_,rfl,a1,a2⟩:=hh.int; exact ⟨x,rfl,a1,a2⟩);exact AbsNat.c652 codesN is655 is652 hR hL hb w
set_option maxRecDepth 100000 in
theorem sg (os:Os) (started:os.Started) (H:Type) (enc:TypeId × Value→H) :
  ReturnsInHanded {} Tryz.checked os 3 .any (fun w args=>(Rows.nativesPrintSpec.pre enc Tryz.prog Tryz.f3 [] false w args∧laidMetH Tryz.prog laids w)∧sizedMet enc Tryz.prog Tryz.f3 (OpenSpec.ofChange Rows.nativesPrintSpec) false w args)
   (Rows.nativesPrintSpec.post enc Tryz.prog Tryz.f3 false true false false):=by
 refine returnsInHanded_of_change_and (C:=Tryz.checked) (X:=fun w _=>laidMetH Tryz.prog laids w) (fun _ _ _ hh h=>h.of_heap hh) own started (by kernel_rfl) Tryz.func3
  (ChangeSpec.witness_shaped (enc:=enc) (C:=Tryz.checked) (os:=os) (X:=fun w _=>laidMetH Tryz.prog laids w) false (World.laidAll Tryz.prog os laids) #[.slice none 0 0] 8 (World.laidAll_os _ _ _)
   (World.shaped_of_ZipB (by kernel_rfl) (by kernel_rfl)) (by kernel_rfl) (by kernel_rfl) (by kernel_rfl) (laids_met os _)) ?_
 intro W base args ds gs before hval hW _ hz hX _;obtain ⟨tb,hr,htb⟩:=boolType
 exact law_contractD (E:=E) (f:=3) (g:=652) (n:=10) (fn:=Tryz.f3) (ss:=[.slice (.int .i64)]) rfl (by kernel_rfl) (fun h l vs ha e _=>uy h l vs ha e) rfl
  (fun ds hl=>by
   match ds,hl with
   | [_],_=>rfl) laidOut (by kernel_rfl) hr htb hval hW hz (tabs_of laids (show Rows.laid_internal_strconv_uint64pow10=_ by kernel_rfl) rfl (by have h:=hX; rw [MakeChecks.laidMetH_plain _ _ _ (by kernel_rfl)] at h; exact h))
theorem sk:Rows.NativesPrintSaid :=
 OpenClaim.holds_of_wide 3 Tryz.f3 rfl rfl rfl rfl rfl rfl rfl ⟨rfl,rfl,rfl,rfl,rfl⟩ rfl rfl rfl rfl rfl (by kernel_rfl) Tryz.func3 (by kernel_rfl)
  (of_decide_eq_true (by kernel_rfl)) (by unfold Func.isWrapper; first | (rw [if_pos (by decide +kernel)]; kernel_rfl) | (rw [if_neg (by decide +kernel)]; exact ⟨rfl,rfl⟩))
  (fun os started H enc _=>sg os started H enc)
theorem nativesPrintCard_holds:Rows.NativesPrintCardSaid :=
 Claim7.holds_tied_plain_at .later [] [.data,.data,.data] true (true, "04b861e59d0f02f70e28e3c9db1e319c734e41b9bfea44caac85633bca04910c") false
  sk (fun _ h=>by cases h) (by kernel_rfl) (fun _ h=>by cases h) nativesPrint_row_tie rfl ⟨rfl,rfl⟩ (by kernel_rfl) rfl
  (fun f fn hf hfn=>by
   obtain rfl:f=3:=Option.some.inj ((show Tryz.prog.funcNamed "carpetbag/carpetbaglaw28.NativesPrint" = some 3 by kernel_rfl).symm.trans hf) |>.symm;obtain rfl:fn=Tryz.f3:=(Option.some.inj (Tryz.func3.symm.trans hfn)).symm;refine ⟨by kernel_rfl,fun j t ht=>?_⟩;have hm:t ∈ Tryz.f3.params.toList:=Array.mem_toList_iff.2 (Array.mem_of_getElem? ht);have hall:(Tryz.f3.params.toList.all fun u=>!Tryz.prog.wantsStandIn u)=true:=by kernel_rfl
   exact (show Tryz.prog.wantsStandIn t=false by simpa using List.all_eq_true.1 hall t hm))
  (by kernel_rfl)
end Go.Proofs.YtilleokmbhmieaaGreatDoor
