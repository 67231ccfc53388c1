/-
  The law NativesNames: true of any text, number and bytes; they read as they did. The listed table starts as the program text lays it.
-/
import Derived.Test.YtilleokmbhmieaaGreatDoorQ11
import Derived.Test.YtilleokmbhmieaaGreatDoorQ16
import Derived.Test.YtilleokmbhmieaaGreatDoorQ14
import Derived.Lay
import Derived.Handed
import Derived.LaidHandle
import Derived.LaidLaws
import Derived.MakeChecks
import Derived.SevenTiedAt
import Derived.Test.YtilleokmbhmieaaGreatDoorRows
import Derived.Test.YtilleokmbhmieaaGreatDoorCards
import Derived.Test.YtilleokmbhmieaaGreatDoorTie
set_option linter.unusedVariables false
set_option linter.unusedSimpArgs false
set_option maxRecDepth 100000
namespace Go.Proofs.YtilleokmbhmieaaGreatDoor
open Go.Abs Go.Abs.AbsNat Go.Abs.AbsNatN Go.ChangeShapes Go.WideShapes Go.ChangeAt Go.RowKit
theorem own:ownKnob Tryz.prog.godebug=none:=by kernel_rfl
theorem laidOut:laidOutB Tryz.prog=true:=by kernel_rfl
theorem boolType:∃ tb,Tryz.f4.resultTypes = #[tb]∧Tryz.prog.underlying tb=some .bool:=⟨_,rfl,by kernel_rfl⟩
abbrev laids:List (String × DataW Unit):=[("math/bits.deBruijn32tab", Rows.laid_math_bits_deBruijn32tab),("math/bits.deBruijn64tab", Rows.laid_math_bits_deBruijn64tab),("internal/strconv.uint64pow10", Rows.laid_internal_strconv_uint64pow10)]
theorem laids_met (os:Os) (args:Array Value):laidMetH Tryz.prog laids ((World.laidAll Tryz.prog os laids).forCall (fun _ _=>0) ⟨#[],args,[]⟩).memory:=by rw [MakeChecks.laidMetH_plain _ _ _ (by kernel_rfl)];exact laidMet_laidAll _ (by kernel_rfl) (by kernel_rfl)
theorem codesN:CodesN E:=⟨⟨agrees.x,mixed⟩,.of_k _ rfl (by decide) Tryz.func67 kk680 trivial,.of_k _ rfl (by decide) Tryz.func41 kk671 trivial,.of_k _ rfl (by decide) Tryz.func22 kk666 trivial,.of_k _ rfl (by decide) Tryz.func42 kk673 trivial,.of_k _ rfl (by decide) Tryz.func23 kk665 trivial,.of_k _ rfl (by decide) Tryz.func11 kk660 trivial⟩
theorem is655:IsCode E 655 code655:=.of_k _ rfl (by decide) Tryz.func5 kk655 trivial
theorem is664:IsCode E 664 code664:=.of_k _ rfl (by decide) Tryz.func4 kk664 trivial
theorem u5 (h:Heap) (l:List Dat) (vs:List AVal) (ha:HasArgs h [.str,.int .i32,.slice (.int .u8)] l vs) (hb:h.base=h.size):CallD E 664 vs h fun v h'=>v = .bool true∧h'=h:=by
 obtain ⟨os,b,w⟩:=h;have hb':b=os.length:=hb;obtain ⟨_,_,_,_,rfl,rfl,h1,ha⟩:=ha.cons;obtain ⟨_,_,_,_,rfl,rfl,h2,ha⟩:=ha.cons;obtain ⟨_,_,_,_,rfl,rfl,h3,ha⟩:=ha.cons;obtain ⟨rfl,rfl⟩:=ha.nil;obtain ⟨s,_,rfl,-⟩:=h1.str;obtain ⟨x,_,rfl,-,a2⟩:=h2.int
 have hx:x < 4294967296:=by have e:IntKind.i32.max=2147483647:=rfl;rw [e] at a2; omega
 obtain ⟨a,c,B,rfl,hB,-⟩:=AbsBlo.blob_in (Nat.le_of_eq hb') h3;exact AbsNat.c664 codesN is655 is664 hx hB hb' w
set_option maxRecDepth 100000 in
theorem sg (os:Os) (started:os.Started) (H:Type) (enc:TypeId × Value→H) :
  ReturnsInHanded {} Tryz.checked os 4 .any (fun w args=>(Rows.nativesNamesSpec.pre enc Tryz.prog Tryz.f4 [] false w args∧laidMetH Tryz.prog laids w)∧sizedMet enc Tryz.prog Tryz.f4 (OpenSpec.ofChange Rows.nativesNamesSpec) false w args)
   (Rows.nativesNamesSpec.post enc Tryz.prog Tryz.f4 false true false false):=by
 refine returnsInHanded_of_change_and (C:=Tryz.checked) (X:=fun w _=>laidMetH Tryz.prog laids w) (fun _ _ _ hh h=>h.of_heap hh) own started (by kernel_rfl) Tryz.func4
  (ChangeSpec.witness_shaped (enc:=enc) (C:=Tryz.checked) (os:=os) (X:=fun w _=>laidMetH Tryz.prog laids w) false (World.laidAll Tryz.prog os laids) #[.string ⟨#[]⟩,.int .i32 0,.slice none 0 0] 8 (World.laidAll_os _ _ _)
   (World.shaped_of_ZipB (by kernel_rfl) (by kernel_rfl)) (by kernel_rfl) (by kernel_rfl) (by kernel_rfl) (laids_met os _)) ?_
 intro W base args ds gs before hval hW _ hz hX _;obtain ⟨tb,hr,htb⟩:=boolType
 exact law_contractD (E:=E) (f:=4) (g:=664) (n:=10) (fn:=Tryz.f4) (ss:=[.str,.int .i32,.slice (.int .u8)]) rfl (by kernel_rfl) (fun h l vs ha e _=>u5 h l vs ha e) rfl
  (fun ds hl=>by
   match ds,hl with
   | [_,_,_],_=>rfl) laidOut (by kernel_rfl) hr htb hval hW hz (tabs_of laids (show Rows.laid_internal_strconv_uint64pow10=_ by kernel_rfl) rfl (by have h:=hX; rw [MakeChecks.laidMetH_plain _ _ _ (by kernel_rfl)] at h; exact h))
theorem sm:Rows.NativesNamesSaid :=
 OpenClaim.holds_of_wide 4 Tryz.f4 rfl rfl rfl rfl rfl rfl rfl ⟨rfl,rfl,rfl,rfl,rfl⟩ rfl rfl rfl rfl rfl (by kernel_rfl) Tryz.func4 (by kernel_rfl)
  (of_decide_eq_true (by kernel_rfl)) (by unfold Func.isWrapper; first | (rw [if_pos (by decide +kernel)]; kernel_rfl) | (rw [if_neg (by decide +kernel)]; exact ⟨rfl,rfl⟩))
  (fun os started H enc _=>sg os started H enc)
theorem nativesNamesCard_holds:Rows.NativesNamesCardSaid :=
 Claim7.holds_tied_plain_at .later [] [.data,.data,.data] true (true, "04b861e59d0f02f70e28e3c9db1e319c734e41b9bfea44caac85633bca04910c") false
  sm (fun _ h=>by cases h) (by kernel_rfl) (fun _ h=>by cases h) nativesNames_row_tie rfl ⟨rfl,rfl⟩ (by kernel_rfl) rfl
  (fun f fn hf hfn=>by
   obtain rfl:f=4:=Option.some.inj ((show Tryz.prog.funcNamed "carpetbag/carpetbaglaw28.NativesNames" = some 4 by kernel_rfl).symm.trans hf) |>.symm;obtain rfl:fn=Tryz.f4:=(Option.some.inj (Tryz.func4.symm.trans hfn)).symm;refine ⟨by kernel_rfl,fun j t ht=>?_⟩;have hm:t ∈ Tryz.f4.params.toList:=Array.mem_toList_iff.2 (Array.mem_of_getElem? ht);have hall:(Tryz.f4.params.toList.all fun u=>!Tryz.prog.wantsStandIn u)=true:=by kernel_rfl
   exact (show Tryz.prog.wantsStandIn t=false by simpa using List.all_eq_true.1 hall t hm))
  (by kernel_rfl)
end Go.Proofs.YtilleokmbhmieaaGreatDoor
