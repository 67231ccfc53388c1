/-
  The law FlowMade: methods that are made are in shape, whatever the tape. The listed tables start as the program text lays them.
-/
import Derived.Test.YtjmnbfijplhkfaaDoorR7
import Derived.Test.YtjmnbfijplhkfaaDoorR10
import Derived.Test.YtjmnbfijplhkfaaDoorR12
import Derived.Test.YtjmnbfijplhkfaaDoorR13
import Derived.Lay
import Derived.Handed
import Derived.LaidHandle
import Derived.LaidLaws
import Derived.MakeChecks
import Derived.SevenTiedAt
import Derived.Test.YtjmnbfijplhkfaaDoorRows
import Derived.Test.YtjmnbfijplhkfaaDoorCards
import Derived.Test.YtjmnbfijplhkfaaDoorTie
set_option linter.unusedVariables false
set_option linter.unusedSimpArgs false
set_option maxRecDepth 100000
namespace Go.Proofs.YtjmnbfijplhkfaaDoor
open Go.Abs Go.Abs.AbsFlow Go.Abs.AbsFlowM Go.ChangeShapes Go.WideShapes Go.ChangeAt Go.RowKit
theorem own:ownKnob Tryd.prog.godebug=none:=by kernel_rfl
theorem laidOut:laidOutB Tryd.prog=true:=by kernel_rfl
theorem boolType:∃ tb,Tryd.f4.resultTypes = #[tb]∧Tryd.prog.underlying tb=some .bool:=⟨_,rfl,by kernel_rfl⟩
abbrev laids:List (String × DataW Unit):=[("unicode/utf8.acceptRanges", Rows.laid_unicode_utf8_acceptRanges),("unicode/utf8.first", Rows.laid_unicode_utf8_first)]
theorem laids_met (os:Os) (args:Array Value):laidMetH Tryd.prog laids ((World.laidAll Tryd.prog os laids).forCall (fun _ _=>0) ⟨#[],args,[]⟩).memory:=by
 rw [MakeChecks.laidMetH_plain _ _ _ (by kernel_rfl)]
 exact laidMet_laidAll _ (by kernel_rfl) (by kernel_rfl)
theorem flowMade_run (h:Heap) (l:List Dat) (vs:List AVal) (ha:HasArgs h [.slice (.int .u8)] l vs) (hb:h.base≤h.size):xCall AbsFlow.T 78 vs h=some (.bool true,h):=by
 obtain ⟨os,b,w⟩:=h
 obtain ⟨_,_,_,_,rfl,rfl,h1,ha⟩:=ha.cons
 obtain ⟨rfl,rfl⟩:=ha.nil
 obtain ⟨a,L,c,rfl,hR,hL,hu⟩:=has_bytes hb h1
 exact AbsFlow.s78 hR hu hL hb
set_option maxRecDepth 100000 in
theorem flowMade_lifted (os:Os) (started:os.Started) (H:Type) (enc:TypeId × Value→H) :
  ReturnsInHanded {} Tryd.checked os 4 .any (fun w args=>(Rows.flowMadeSpec.pre enc Tryd.prog Tryd.f4 [] false w args∧laidMetH Tryd.prog laids w)∧sizedMet enc Tryd.prog Tryd.f4 (OpenSpec.ofChange Rows.flowMadeSpec) false w args)
   (Rows.flowMadeSpec.post enc Tryd.prog Tryd.f4 false true false false):=by
 refine returnsInHanded_of_change_and (C:=Tryd.checked) (X:=fun w _=>laidMetH Tryd.prog laids w) (fun _ _ _ hh h=>h.of_heap hh) own started (by kernel_rfl) Tryd.func4
  (ChangeSpec.witness_shaped (enc:=enc) (C:=Tryd.checked) (os:=os) (X:=fun w _=>laidMetH Tryd.prog laids w) false (World.laidAll Tryd.prog os laids) #[.slice none 0 0] 8 (World.laidAll_os _ _ _)
   (World.shaped_of_ZipB (by kernel_rfl) (by kernel_rfl)) (by kernel_rfl) (by kernel_rfl) (by kernel_rfl) (laids_met os _)) ?_
 intro W base args ds gs before hval hW _ hz _ _
 obtain ⟨tb,hr,htb⟩:=boolType
 exact law_contract (E:=E) agrees mixed (f:=4) (g:=78) (n:=10) (fn:=Tryd.f4) (ss:=[.slice (.int .u8)]) rfl (by kernel_rfl) (fun h l vs ha e _=>flowMade_run h l vs ha (Nat.le_of_eq e)) rfl
  (fun ds hl=>by
   match ds,hl with
   | [_],_=>rfl) laidOut (by kernel_rfl) hr htb hval hW hz
theorem flowMade_holds:Rows.FlowMadeSaid :=
 OpenClaim.holds_of_wide 4 Tryd.f4 rfl rfl rfl rfl rfl rfl rfl ⟨rfl,rfl,rfl,rfl,rfl⟩ rfl rfl rfl rfl rfl (by kernel_rfl) Tryd.func4 (by kernel_rfl)
  (of_decide_eq_true (by kernel_rfl)) (by unfold Func.isWrapper; first | (rw [if_pos (by decide +kernel)]; kernel_rfl) | (rw [if_neg (by decide +kernel)]; exact ⟨rfl,rfl⟩))
  (fun os started H enc _=>flowMade_lifted os started H enc)
theorem flowMadeCard_holds:Rows.FlowMadeCardSaid :=
 Claim7.holds_tied_plain_at .later [] [.data,.pinned] true (true, "31ce86936cca1b218a40150e44b55be81d5d2631bafae149f81cc49e94f29faf") false
  flowMade_holds (fun _ h=>by cases h) (by kernel_rfl) (fun _ h=>by cases h) flowMade_row_tie rfl ⟨rfl,rfl⟩ (by kernel_rfl) rfl
  (fun f fn hf hfn=>by
   obtain rfl:f=4:=Option.some.inj ((show Tryd.prog.funcNamed "carpetbag/carpetbaglaw18.FlowMade" = some 4 by kernel_rfl).symm.trans hf) |>.symm
   obtain rfl:fn=Tryd.f4:=(Option.some.inj (Tryd.func4.symm.trans hfn)).symm
   refine ⟨by kernel_rfl,fun j t ht=>?_⟩
   have hm:t ∈ Tryd.f4.params.toList:=Array.mem_toList_iff.2 (Array.mem_of_getElem? ht)
   have hall:(Tryd.f4.params.toList.all fun u=>!Tryd.prog.wantsStandIn u)=true:=by kernel_rfl
   exact (show Tryd.prog.wantsStandIn t=false by simpa using List.all_eq_true.1 hall t hm))
  (by kernel_rfl)
end Go.Proofs.YtjmnbfijplhkfaaDoor
