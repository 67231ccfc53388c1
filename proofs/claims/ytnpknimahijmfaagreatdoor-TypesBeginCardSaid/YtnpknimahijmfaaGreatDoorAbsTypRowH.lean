/-
  The law TypesBegin: true of any tape, name, method and map; what is handed in is read as it was. The two listed tables start as the program text lays them.
-/
import Derived.Test.YtnpknimahijmfaaGreatDoorR12
import Derived.Test.YtnpknimahijmfaaGreatDoorR13
import Derived.Test.YtnpknimahijmfaaGreatDoorR15
import Derived.Test.YtnpknimahijmfaaGreatDoorR16
import Derived.Lay
import Derived.Handed
import Derived.LaidHandle
import Derived.LaidLaws
import Derived.MakeChecks
import Derived.SevenTiedAt
import Derived.Test.YtnpknimahijmfaaGreatDoorRows
import Derived.Test.YtnpknimahijmfaaGreatDoorCards
import Derived.Test.YtnpknimahijmfaaGreatDoorTie
set_option linter.unusedVariables false
set_option linter.unusedSimpArgs false
set_option maxRecDepth 100000
namespace Go.Proofs.YtnpknimahijmfaaGreatDoor
open Go.Abs Go.Abs.Zt Go.Abs.AbsTypH Go.ChangeShapes Go.WideShapes Go.ChangeAt Go.RowKit
theorem own:ownKnob Tryz.prog.godebug=none:=by kernel_rfl
theorem laidOut:laidOutB Tryz.prog=true:=by kernel_rfl
theorem boolType:∃ tb,Tryz.f4.resultTypes = #[tb]∧Tryz.prog.underlying tb=some .bool:=⟨_,rfl,by kernel_rfl⟩
abbrev laids:List (String × DataW Unit):=[("unicode/utf8.acceptRanges", Rows.laid_unicode_utf8_acceptRanges),("unicode/utf8.first", Rows.laid_unicode_utf8_first)]
theorem laids_met (os:Os) (args:Array Value):laidMetH Tryz.prog laids ((World.laidAll Tryz.prog os laids).forCall (fun _ _=>0) ⟨#[],args,[]⟩).memory:=by rw [MakeChecks.laidMetH_plain _ _ _ (by kernel_rfl)];exact laidMet_laidAll _ (by kernel_rfl) (by kernel_rfl)
theorem zx (h:Heap) (l:List Dat) (vs:List AVal) (ha:HasArgs h [.slice (.int .u8),.str,shMeth,shMap] l vs) (hb:h.base≤h.size):xCall Zt.T 244 vs h=some (.bool true,h):=by obtain ⟨os,b,w⟩:=h;obtain ⟨_,_,_,_,rfl,rfl,h1,ha⟩:=ha.cons;obtain ⟨_,_,_,_,rfl,rfl,h2,ha⟩:=ha.cons;obtain ⟨_,_,_,_,rfl,rfl,h3,ha⟩:=ha.cons;obtain ⟨_,_,_,_,rfl,rfl,h4,ha⟩:=ha.cons;obtain ⟨rfl,rfl⟩:=ha.nil;obtain ⟨a,L,c,rfl,hR,hL,hu⟩:=has_bytes hb h1;obtain ⟨n,rfl,hn⟩:=zbj h2;obtain ⟨m,rfl,_,hm⟩:=has_meth hb h3;obtain ⟨x,rfl,hx,hxf⟩:=has_map hb h4;exact Zt.s244 hR hu hL hb hn hm.desc hx hxf
set_option maxRecDepth 100000 in
theorem wb (os:Os) (started:os.Started) (H:Type) (enc:TypeId × Value→H) :
  ReturnsInHanded {} Tryz.checked os 4 .any (fun w args=>(Rows.typesBeginSpec.pre enc Tryz.prog Tryz.f4 [] false w args∧laidMetH Tryz.prog laids w)∧sizedMet enc Tryz.prog Tryz.f4 (OpenSpec.ofChange Rows.typesBeginSpec) false w args)
   (Rows.typesBeginSpec.post enc Tryz.prog Tryz.f4 false true false false):=by
 refine returnsInHanded_of_change_and (C:=Tryz.checked) (X:=fun w _=>laidMetH Tryz.prog laids w) (fun _ _ _ hh h=>h.of_heap hh) own started (by kernel_rfl) Tryz.func4
  (ChangeSpec.witness_shaped (enc:=enc) (C:=Tryz.checked) (os:=os) (X:=fun w _=>laidMetH Tryz.prog laids w) false (World.laidAll Tryz.prog os laids) #[.slice none 0 0,.string ⟨#[]⟩,.agg #[.bool false,.string ⟨#[]⟩,.string ⟨#[]⟩,.int .i64 0,.int .i64 0,.slice none 0 0,.slice none 0 0,.slice none 0 0],.agg #[.int .i64 0,.slice none 0 0,.slice none 0 0]] 8 (World.laidAll_os _ _ _)
   (World.shaped_of_ZipB (by kernel_rfl) (by kernel_rfl)) (by kernel_rfl) (by kernel_rfl) (by kernel_rfl) (laids_met os _)) ?_
 intro W base args ds gs before hval hW _ hz _ _;obtain ⟨tb,hr,htb⟩:=boolType
 exact law_contract (E:=E) agrees mixed (f:=4) (g:=244) (n:=10) (fn:=Tryz.f4) (ss:=[.slice (.int .u8),.str,shMeth,shMap]) rfl (by kernel_rfl) (fun h l vs ha e _=>zx h l vs ha (Nat.le_of_eq e)) rfl
  (fun ds hl=>by
   match ds,hl with
   | [_,_,_,_],_=>rfl) laidOut (by kernel_rfl) hr htb hval hW hz
theorem xt:Rows.TypesBeginSaid :=
 OpenClaim.holds_of_wide 4 Tryz.f4 rfl rfl rfl rfl rfl rfl rfl ⟨rfl,rfl,rfl,rfl,rfl⟩ rfl rfl rfl rfl rfl (by kernel_rfl) Tryz.func4 (by kernel_rfl)
  (of_decide_eq_true (by kernel_rfl)) (by unfold Func.isWrapper; first | (rw [if_pos (by decide +kernel)]; kernel_rfl) | (rw [if_neg (by decide +kernel)]; exact ⟨rfl,rfl⟩))
  (fun os started H enc _=>wb os started H enc)
theorem typesBeginCard_holds:Rows.TypesBeginCardSaid :=
 Claim7.holds_tied_plain_at .later [] [.data,.pinned] true (true, "7f85c6b1da46ddff56fa5c941c665303e34cf505fd9f5bcb829c011ac499596e") false
  xt (fun _ h=>by cases h) (by kernel_rfl) (fun _ h=>by cases h) typesBegin_row_tie rfl ⟨rfl,rfl⟩ (by kernel_rfl) rfl
  (fun f fn hf hfn=>by
   obtain rfl:f=4:=Option.some.inj ((show Tryz.prog.funcNamed "carpetbag/carpetbaglaw17.TypesBegin" = some 4 by kernel_rfl).symm.trans hf) |>.symm;obtain rfl:fn=Tryz.f4:=(Option.some.inj (Tryz.func4.symm.trans hfn)).symm;refine ⟨by kernel_rfl,fun j t ht=>?_⟩;have hm:t ∈ Tryz.f4.params.toList:=Array.mem_toList_iff.2 (Array.mem_of_getElem? ht);have hall:(Tryz.f4.params.toList.all fun u=>!Tryz.prog.wantsStandIn u)=true:=by kernel_rfl
   exact (show Tryz.prog.wantsStandIn t=false by simpa using List.all_eq_true.1 hall t hm))
  (by kernel_rfl)
end Go.Proofs.YtnpknimahijmfaaGreatDoor
