/-
  The law SlotsGrow: true of any units; the units read as they did. The two listed tables start as the program text lays them.
-/
import Derived.Test.YtonhonjfkbembaaDoorP11
import Derived.Test.YtonhonjfkbembaaDoorP12
import Derived.Test.YtonhonjfkbembaaDoorP13
import Derived.Lay
import Derived.Handed
import Derived.LaidHandle
import Derived.LaidLaws
import Derived.MakeChecks
import Derived.SevenTiedAt
import Derived.Test.YtonhonjfkbembaaDoorRows
import Derived.Test.YtonhonjfkbembaaDoorCards
import Derived.Test.YtonhonjfkbembaaDoorTie
set_option linter.unusedVariables false
set_option linter.unusedSimpArgs false
set_option maxRecDepth 100000
namespace Go.Proofs.YtonhonjfkbembaaDoor
open Go.Abs Go.Abs.AbsSlot Go.Abs.AbsSlotG Go.ChangeShapes Go.WideShapes Go.ChangeAt Go.RowKit
theorem own:ownKnob Tryd.prog.godebug=none:=by kernel_rfl
theorem laidOut:laidOutB Tryd.prog=true:=by kernel_rfl
theorem boolType:∃ tb,Tryd.f3.resultTypes = #[tb]∧Tryd.prog.underlying tb=some .bool:=⟨_,rfl,by kernel_rfl⟩
abbrev laids:List (String × DataW Unit):=[("unicode/utf8.acceptRanges", Rows.laid_unicode_utf8_acceptRanges),("unicode/utf8.first", Rows.laid_unicode_utf8_first)]
theorem laids_met (os:Os) (args:Array Value):laidMetH Tryd.prog laids ((World.laidAll Tryd.prog os laids).forCall (fun _ _=>0) ⟨#[],args,[]⟩).memory:=by
 rw [MakeChecks.laidMetH_plain _ _ _ (by kernel_rfl)]
 exact laidMet_laidAll _ (by kernel_rfl) (by kernel_rfl)
theorem is116:IsCode E 116 code116:=.of_k _ rfl (by decide) Tryd.func13 c116 trivial
theorem is161:IsCode E 161 code161:=.of_k _ rfl (by decide) Tryd.func30 c161 trivial
theorem is59:IsCode E 59 code59:=.of_k _ rfl (by decide) Tryd.func6 c59 trivial
theorem is61:IsCode E 61 code61:=.of_k _ rfl (by decide) Tryd.func4 c61 trivial
theorem is57:IsCode E 57 code57:=.of_k _ rfl (by decide) Tryd.func3 c57 trivial
theorem slotsGrow_run (h:Heap) (l:List Dat) (vs:List AVal) (ha:HasArgs h [.slice shUnit] l vs) (hb:h.base≤h.size):CallD E 57 vs h fun v h'=>v = .bool true∧h'=h:=by
 obtain ⟨os,b,w⟩:=h
 obtain ⟨_,_,_,_,rfl,rfl,h1,ha⟩:=ha.cons
 obtain ⟨rfl,rfl⟩:=ha.nil
 obtain ⟨a,L,c,rfl,hR,hL,hok,_⟩:=has_units hb h1
 exact AbsSlot.c57 agrees mixed is116 is161 is59 is61 is57 hR hL (fun x hx=>(hok x hx).1) (fun x hx=>(hok x hx).2) hb w
set_option maxRecDepth 100000 in
theorem slotsGrow_lifted (os:Os) (started:os.Started) (H:Type) (enc:TypeId × Value→H) :
  ReturnsInHanded {} Tryd.checked os 3 .any (fun w args=>(Rows.slotsGrowSpec.pre enc Tryd.prog Tryd.f3 [] false w args∧laidMetH Tryd.prog laids w)∧sizedMet enc Tryd.prog Tryd.f3 (OpenSpec.ofChange Rows.slotsGrowSpec) false w args)
   (Rows.slotsGrowSpec.post enc Tryd.prog Tryd.f3 false true false false):=by
 refine returnsInHanded_of_change_and (C:=Tryd.checked) (X:=fun w _=>laidMetH Tryd.prog laids w) (fun _ _ _ hh h=>h.of_heap hh) own started (by kernel_rfl) Tryd.func3
  (ChangeSpec.witness_shaped (enc:=enc) (C:=Tryd.checked) (os:=os) (X:=fun w _=>laidMetH Tryd.prog laids w) false (World.laidAll Tryd.prog os laids) #[.slice none 0 0] 8 (World.laidAll_os _ _ _)
   (World.shaped_of_ZipB (by kernel_rfl) (by kernel_rfl)) (by kernel_rfl) (by kernel_rfl) (by kernel_rfl) (laids_met os _)) ?_
 intro W base args ds gs before hval hW _ hz _ _
 obtain ⟨tb,hr,htb⟩:=boolType
 exact law_contractD (E:=E) (f:=3) (g:=57) (n:=10) (fn:=Tryd.f3) (ss:=[.slice shUnit]) rfl (by kernel_rfl) (fun h l vs ha e _=>slotsGrow_run h l vs ha (Nat.le_of_eq e)) rfl
  (fun ds hl=>by
   match ds,hl with
   | [_],_=>rfl) laidOut (by kernel_rfl) hr htb hval hW hz
theorem slotsGrow_holds:Rows.SlotsGrowSaid :=
 OpenClaim.holds_of_wide 3 Tryd.f3 rfl rfl rfl rfl rfl rfl rfl ⟨rfl,rfl,rfl,rfl,rfl⟩ rfl rfl rfl rfl rfl (by kernel_rfl) Tryd.func3 (by kernel_rfl)
  (of_decide_eq_true (by kernel_rfl)) (by unfold Func.isWrapper; first | (rw [if_pos (by decide +kernel)]; kernel_rfl) | (rw [if_neg (by decide +kernel)]; exact ⟨rfl,rfl⟩))
  (fun os started H enc _=>slotsGrow_lifted os started H enc)
theorem slotsGrowCard_holds:Rows.SlotsGrowCardSaid :=
 Claim7.holds_tied_plain_at .later [] [.data,.pinned] true (true, "0516d919d3fbc83e380047be9a7585742bf0a788e2a36a004126ecb06c3cdd3e") false
  slotsGrow_holds (fun _ h=>by cases h) (by kernel_rfl) (fun _ h=>by cases h) slotsGrow_row_tie rfl ⟨rfl,rfl⟩ (by kernel_rfl) rfl
  (fun f fn hf hfn=>by
   obtain rfl:f=3:=Option.some.inj ((show Tryd.prog.funcNamed "carpetbag/carpetbaglaw24.SlotsGrow" = some 3 by kernel_rfl).symm.trans hf) |>.symm
   obtain rfl:fn=Tryd.f3:=(Option.some.inj (Tryd.func3.symm.trans hfn)).symm
   refine ⟨by kernel_rfl,fun j t ht=>?_⟩
   have hm:t ∈ Tryd.f3.params.toList:=Array.mem_toList_iff.2 (Array.mem_of_getElem? ht)
   have hall:(Tryd.f3.params.toList.all fun u=>!Tryd.prog.wantsStandIn u)=true:=by kernel_rfl
   exact (show Tryd.prog.wantsStandIn t=false by simpa using List.all_eq_true.1 hall t hm))
  (by kernel_rfl)
end Go.Proofs.YtonhonjfkbembaaDoor
