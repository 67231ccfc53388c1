/-
  The law FlowShape: true of any method; what is handed in is read as it was. The two listed tables start as the program text lays them.
-/
import Derived.Test.YtnpknimahijmfaaDoorP11
import Derived.Test.YtnpknimahijmfaaDoorP12
import Derived.Test.YtnpknimahijmfaaDoorP13
import Derived.Lay
import Derived.Handed
import Derived.LaidHandle
import Derived.LaidLaws
import Derived.MakeChecks
import Derived.SevenTiedAt
import Derived.Test.YtnpknimahijmfaaDoorRows
import Derived.Test.YtnpknimahijmfaaDoorCards
import Derived.Test.YtnpknimahijmfaaDoorTie
set_option linter.unusedVariables false
set_option linter.unusedSimpArgs false
set_option maxRecDepth 100000
namespace Go.Proofs.YtnpknimahijmfaaDoor
open Go.Abs Go.Abs.AbsFlowS Go.Abs.AbsFlow Go.ChangeShapes Go.WideShapes Go.ChangeAt Go.RowKit
theorem own:ownKnob Tryd.prog.godebug=none:=by kernel_rfl
theorem laidOut:laidOutB Tryd.prog=true:=by kernel_rfl
theorem boolType:∃ tb,Tryd.f4.resultTypes = #[tb]∧Tryd.prog.underlying tb=some .bool:=⟨_,rfl,by kernel_rfl⟩
abbrev laids:List (String × DataW Unit):=[("unicode/utf8.acceptRanges", Rows.laid_unicode_utf8_acceptRanges),("unicode/utf8.first", Rows.laid_unicode_utf8_first)]
theorem laids_met (os:Os) (args:Array Value):laidMetH Tryd.prog laids ((World.laidAll Tryd.prog os laids).forCall (fun _ _=>0) ⟨#[],args,[]⟩).memory:=by
 rw [MakeChecks.laidMetH_plain _ _ _ (by kernel_rfl)]
 exact laidMet_laidAll _ (by kernel_rfl) (by kernel_rfl)
theorem flowShape_run (h:Heap) (l:List Dat) (vs:List AVal) (ha:HasArgs h [shMeth] l vs) (hb:h.base≤h.size):xCall AbsFlow.T 72 vs h=some (.bool true,h):=by
 obtain ⟨os,b,w⟩:=h
 obtain ⟨_,_,_,_,rfl,rfl,h1,ha⟩:=ha.cons
 obtain ⟨rfl,rfl⟩:=ha.nil
 obtain ⟨m,rfl,hm,hf,ho⟩:=has_meth2 hb h1
 exact AbsFlow.s72 hm hf ho hb
set_option maxRecDepth 100000 in
theorem flowShape_lifted (os:Os) (started:os.Started) (H:Type) (enc:TypeId × Value→H) :
  ReturnsInHanded {} Tryd.checked os 4 .any (fun w args=>(Rows.flowShapeSpec.pre enc Tryd.prog Tryd.f4 [] false w args∧laidMetH Tryd.prog laids w)∧sizedMet enc Tryd.prog Tryd.f4 (OpenSpec.ofChange Rows.flowShapeSpec) false w args)
   (Rows.flowShapeSpec.post enc Tryd.prog Tryd.f4 false true false false):=by
 refine returnsInHanded_of_change_and (C:=Tryd.checked) (X:=fun w _=>laidMetH Tryd.prog laids w) (fun _ _ _ hh h=>h.of_heap hh) own started (by kernel_rfl) Tryd.func4
  (ChangeSpec.witness_shaped (enc:=enc) (C:=Tryd.checked) (os:=os) (X:=fun w _=>laidMetH Tryd.prog laids w) false (World.laidAll Tryd.prog os laids) #[.agg #[.bool false,.string ⟨#[]⟩,.string ⟨#[]⟩,.int .i64 0,.int .i64 0,.slice none 0 0,.slice none 0 0,.slice none 0 0]] 8 (World.laidAll_os _ _ _)
   (World.shaped_of_ZipB (by kernel_rfl) (by kernel_rfl)) (by kernel_rfl) (by kernel_rfl) (by kernel_rfl) (laids_met os _)) ?_
 intro W base args ds gs before hval hW _ hz _ _
 obtain ⟨tb,hr,htb⟩:=boolType
 exact law_contract (E:=E) agrees mixed (f:=4) (g:=72) (n:=10) (fn:=Tryd.f4) (ss:=[shMeth]) rfl (by kernel_rfl) (fun h l vs ha e _=>flowShape_run h l vs ha (Nat.le_of_eq e)) rfl
  (fun ds hl=>by
   match ds,hl with
   | [_],_=>rfl) laidOut (by kernel_rfl) hr htb hval hW hz
theorem flowShape_holds:Rows.FlowShapeSaid :=
 OpenClaim.holds_of_wide 4 Tryd.f4 rfl rfl rfl rfl rfl rfl rfl ⟨rfl,rfl,rfl,rfl,rfl⟩ rfl rfl rfl rfl rfl (by kernel_rfl) Tryd.func4 (by kernel_rfl)
  (of_decide_eq_true (by kernel_rfl)) (by unfold Func.isWrapper; first | (rw [if_pos (by decide +kernel)]; kernel_rfl) | (rw [if_neg (by decide +kernel)]; exact ⟨rfl,rfl⟩))
  (fun os started H enc _=>flowShape_lifted os started H enc)
theorem flowShapeCard_holds:Rows.FlowShapeCardSaid :=
 Claim7.holds_tied_plain_at .later [] [.data,.pinned] true (true, "77cd571cecb8ee27120e655b118d09d4d9a4712238f96f17383093dc76e55e33") false
  flowShape_holds (fun _ h=>by cases h) (by kernel_rfl) (fun _ h=>by cases h) flowShape_row_tie rfl ⟨rfl,rfl⟩ (by kernel_rfl) rfl
  (fun f fn hf hfn=>by
   obtain rfl:f=4:=Option.some.inj ((show Tryd.prog.funcNamed "carpetbag/carpetbaglaw18.FlowShape" = some 4 by kernel_rfl).symm.trans hf) |>.symm
   obtain rfl:fn=Tryd.f4:=(Option.some.inj (Tryd.func4.symm.trans hfn)).symm
   refine ⟨by kernel_rfl,fun j t ht=>?_⟩
   have hm:t ∈ Tryd.f4.params.toList:=Array.mem_toList_iff.2 (Array.mem_of_getElem? ht)
   have hall:(Tryd.f4.params.toList.all fun u=>!Tryd.prog.wantsStandIn u)=true:=by kernel_rfl
   exact (show Tryd.prog.wantsStandIn t=false by simpa using List.all_eq_true.1 hall t hm))
  (by kernel_rfl)
end Go.Proofs.YtnpknimahijmfaaDoor
