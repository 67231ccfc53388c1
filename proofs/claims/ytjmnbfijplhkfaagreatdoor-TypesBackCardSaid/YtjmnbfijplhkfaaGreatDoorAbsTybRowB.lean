/-
  The law TypesBack: true of any tape, frame, place and type; what is handed in is read as it was. The two listed tables start as the program text lays them.
-/
import Derived.Test.YtjmnbfijplhkfaaGreatDoorP7
import Derived.Test.YtjmnbfijplhkfaaGreatDoorP8
import Derived.Test.YtjmnbfijplhkfaaGreatDoorP10
import Derived.Test.YtjmnbfijplhkfaaGreatDoorP11
import Derived.Lay
import Derived.Handed
import Derived.LaidHandle
import Derived.LaidLaws
import Derived.MakeChecks
import Derived.SevenTiedAt
import Derived.Test.YtjmnbfijplhkfaaGreatDoorRows
import Derived.Test.YtjmnbfijplhkfaaGreatDoorCards
import Derived.Test.YtjmnbfijplhkfaaGreatDoorTie
set_option linter.unusedVariables false
set_option linter.unusedSimpArgs false
set_option maxRecDepth 100000
namespace Go.Proofs.YtjmnbfijplhkfaaGreatDoor
open Go.Abs Go.Abs.AbsTyb Go.Abs.AbsTybB Go.ChangeShapes Go.WideShapes Go.ChangeAt Go.RowKit
theorem own:ownKnob Tryz.prog.godebug=none:=by kernel_rfl
theorem laidOut:laidOutB Tryz.prog=true:=by kernel_rfl
theorem boolType:∃ tb,Tryz.f4.resultTypes = #[tb]∧Tryz.prog.underlying tb=some .bool:=⟨_,rfl,by kernel_rfl⟩
abbrev laids:List (String × DataW Unit):=[("unicode/utf8.acceptRanges", Rows.laid_unicode_utf8_acceptRanges),("unicode/utf8.first", Rows.laid_unicode_utf8_first)]
theorem laids_met (os:Os) (args:Array Value):laidMetH Tryz.prog laids ((World.laidAll Tryz.prog os laids).forCall (fun _ _=>0) ⟨#[],args,[]⟩).memory:=by rw [MakeChecks.laidMetH_plain _ _ _ (by kernel_rfl)];exact laidMet_laidAll _ (by kernel_rfl) (by kernel_rfl)
theorem typesBack_run (h:Heap) (l:List Dat) (vs:List AVal) (ha:HasArgs h [.slice (.int .u8),Zt.shFrame,.int .i64,.str] l vs) (hb:h.base≤h.size):xCall AbsTyb.T 255 vs h=some (.bool true,h):=by obtain ⟨os,b,w⟩:=h;obtain ⟨_,_,_,_,rfl,rfl,h1,ha⟩:=ha.cons;obtain ⟨_,_,_,_,rfl,rfl,h2,ha⟩:=ha.cons;obtain ⟨_,_,_,_,rfl,rfl,h3,ha⟩:=ha.cons;obtain ⟨_,_,_,_,rfl,rfl,h4,ha⟩:=ha.cons;obtain ⟨rfl,rfl⟩:=ha.nil;obtain ⟨a,L,c,rfl,hR,hL,hu⟩:=has_bytes hb h1;obtain ⟨f,rfl,k1,l1⟩:=Zt.has_frame hb h2;obtain ⟨i,_,rfl,_⟩:=h3.int;obtain ⟨t,_,rfl,ht⟩:=h4.str;exact AbsTyb.s255 hR hu hL hb k1 l1 (big_of ht)
set_option maxRecDepth 100000 in
theorem xy (os:Os) (started:os.Started) (H:Type) (enc:TypeId × Value→H) :
  ReturnsInHanded {} Tryz.checked os 4 .any (fun w args=>(Rows.typesBackSpec.pre enc Tryz.prog Tryz.f4 [] false w args∧laidMetH Tryz.prog laids w)∧sizedMet enc Tryz.prog Tryz.f4 (OpenSpec.ofChange Rows.typesBackSpec) false w args)
   (Rows.typesBackSpec.post enc Tryz.prog Tryz.f4 false true false false):=by
 refine returnsInHanded_of_change_and (C:=Tryz.checked) (X:=fun w _=>laidMetH Tryz.prog laids w) (fun _ _ _ hh h=>h.of_heap hh) own started (by kernel_rfl) Tryz.func4
  (ChangeSpec.witness_shaped (enc:=enc) (C:=Tryz.checked) (os:=os) (X:=fun w _=>laidMetH Tryz.prog laids w) false (World.laidAll Tryz.prog os laids) #[.slice none 0 0,.agg #[.slice none 0 0,.slice none 0 0],.int .i64 0,.string ⟨#[]⟩] 8 (World.laidAll_os _ _ _)
   (World.shaped_of_ZipB (by kernel_rfl) (by kernel_rfl)) (by kernel_rfl) (by kernel_rfl) (by kernel_rfl) (laids_met os _)) ?_
 intro W base args ds gs before hval hW _ hz _ _;obtain ⟨tb,hr,htb⟩:=boolType
 exact law_contract (E:=E) agrees mixed (f:=4) (g:=255) (n:=10) (fn:=Tryz.f4) (ss:=[.slice (.int .u8),Zt.shFrame,.int .i64,.str]) rfl (by kernel_rfl) (fun h l vs ha e _=>typesBack_run h l vs ha (Nat.le_of_eq e)) rfl
  (fun ds hl=>by
   match ds,hl with
   | [_,_,_,_],_=>rfl) laidOut (by kernel_rfl) hr htb hval hW hz
theorem zt:Rows.TypesBackSaid :=
 OpenClaim.holds_of_wide 4 Tryz.f4 rfl rfl rfl rfl rfl rfl rfl ⟨rfl,rfl,rfl,rfl,rfl⟩ rfl rfl rfl rfl rfl (by kernel_rfl) Tryz.func4 (by kernel_rfl)
  (of_decide_eq_true (by kernel_rfl)) (by unfold Func.isWrapper; first | (rw [if_pos (by decide +kernel)]; kernel_rfl) | (rw [if_neg (by decide +kernel)]; exact ⟨rfl,rfl⟩))
  (fun os started H enc _=>xy os started H enc)
theorem typesBackCard_holds:Rows.TypesBackCardSaid :=
 Claim7.holds_tied_plain_at .later [] [.data,.pinned] true (true, "76cff29f61da7df90393b0f3e2e1ffb3d39ecb5882a13ceaf7f6c57637fb5a25") false
  zt (fun _ h=>by cases h) (by kernel_rfl) (fun _ h=>by cases h) typesBack_row_tie rfl ⟨rfl,rfl⟩ (by kernel_rfl) rfl
  (fun f fn hf hfn=>by
   obtain rfl:f=4:=Option.some.inj ((show Tryz.prog.funcNamed "carpetbag/carpetbaglaw17.TypesBack" = some 4 by kernel_rfl).symm.trans hf) |>.symm;obtain rfl:fn=Tryz.f4:=(Option.some.inj (Tryz.func4.symm.trans hfn)).symm;refine ⟨by kernel_rfl,fun j t ht=>?_⟩;have hm:t ∈ Tryz.f4.params.toList:=Array.mem_toList_iff.2 (Array.mem_of_getElem? ht);have hall:(Tryz.f4.params.toList.all fun u=>!Tryz.prog.wantsStandIn u)=true:=by kernel_rfl
   exact (show Tryz.prog.wantsStandIn t=false by simpa using List.all_eq_true.1 hall t hm))
  (by kernel_rfl)
end Go.Proofs.YtjmnbfijplhkfaaGreatDoor
