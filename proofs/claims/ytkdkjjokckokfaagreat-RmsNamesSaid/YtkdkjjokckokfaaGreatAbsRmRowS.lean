/-
  The law RmsNames: true of any names and suite; the input reads as it did.
-/
import Derived.Test.YtkdkjjokckokfaaGreatQ12
import Derived.Test.YtkdkjjokckokfaaGreatQ16
import Derived.Test.YtkdkjjokckokfaaGreatQ15
import Derived.SizedLaws
import Derived.Handed
import Derived.MakeChecks
import Derived.Test.YtkdkjjokckokfaaGreatRows
set_option linter.unusedVariables false
set_option linter.unusedSimpArgs false
set_option maxRecDepth 100000
namespace Go.Proofs.YtkdkjjokckokfaaGreat
open Go.Abs Go.Abs.AbsRmS Go.ChangeShapes Go.WideShapes Go.ChangeAt Go.RowKit
theorem own:ownKnob Tryz.prog.godebug=none:=by kernel_rfl
theorem laidOut:laidOutB Tryz.prog=true:=by kernel_rfl
theorem boolType:∃ tb,Tryz.f3.resultTypes = #[tb]∧Tryz.prog.underlying tb=some .bool:=⟨_,rfl,by kernel_rfl⟩
theorem codesC:AbsNat.Codes E:=⟨agrees.x.sub AbsRm.sub,mixed⟩
theorem codesK:AbsBlo.CodesK E:=⟨codesC.b,mixed,.of_k _ rfl (by decide) Tryz.func101 AbsRmS.kk507 trivial,.of_k _ rfl (by decide) Tryz.func129 AbsRmS.kk512 AbsRmS.r512,.of_k _ rfl (by decide) Tryz.func99 AbsRmS.kk506 trivial,.of_k _ rfl (by decide) Tryz.func60 AbsRmS.kk497 trivial,.of_k _ rfl (by decide) Tryz.func25 AbsRmS.kk480 trivial⟩
theorem codesR:AbsNat.CodesR E:=⟨codesC,codesK,.of_k _ rfl (by decide) Tryz.func10 AbsRmS.kk681 trivial,.of_k _ rfl (by decide) Tryz.func7 AbsRmS.kk671 trivial⟩
theorem codesM:AbsRm.CodesM E:=⟨codesR,agrees.x,.of_k _ rfl (by decide) Tryz.func45 AbsRmS.kk673 trivial,.of_k _ rfl (by decide) Tryz.func17 AbsRmS.kk665 trivial⟩
theorem is923:IsCode E 923 AbsRm.code923:=.of_k _ rfl (by decide) Tryz.func5 AbsRmS.kk923 trivial
theorem is920:IsCode E 920 AbsRm.code920:=.of_k _ rfl (by decide) Tryz.func3 AbsRmS.kk920 trivial
theorem text_conv {h:Heap} {d:Dat} {c:List AVal} (hh:Has h .str d c):∃ x:List UInt8,c=AbsBlo.keyC x∧x.length≤ja:=by obtain ⟨s,_,rfl,h2⟩:=hh.str;exact ⟨s,rfl,h2⟩
theorem rmsNames_run (h:Heap) (l:List Dat) (vs:List AVal) (ha:HasArgs h [.slice .str,.slice .str,.str] l vs) (hb:h.base=h.size):CallD E 920 vs h fun v h'=>v = .bool true∧h'=h:=by
 obtain ⟨os,b,w⟩:=h;have hb':b=os.length:=hb;have hr:ja≤140737488355328:=by decide
 obtain ⟨_,_,_,_,rfl,rfl,h1,ha⟩:=ha.cons;obtain ⟨_,_,_,_,rfl,rfl,h2,ha⟩:=ha.cons;obtain ⟨_,_,_,_,rfl,rfl,h3,ha⟩:=ha.cons;obtain ⟨rfl,rfl⟩:=ha.nil;obtain ⟨la,L,lc,rfl,hL,l1,-⟩:=h1.row (f:=AbsBlo.keyC) (fun d c hh=>text_conv hh);obtain ⟨da,D,dc,rfl,hD,d1,d2,-⟩:=h2.row (f:=AbsBlo.keyC) (fun d c hh=>text_conv hh);obtain ⟨s,_,rfl,s1⟩:=h3.str;exact AbsRm.c920 codesM is923 is920 hL hD (fun n hn=>Nat.le_trans (d2 n hn) hr) hb' ⟨by omega,by omega,by omega⟩ w
set_option maxRecDepth 100000 in
theorem yz (os:Os) (started:os.Started) (H:Type) (enc:TypeId × Value→H) :
  ReturnsInHanded {} Tryz.checked os 3 .any (Rows.rmsNamesSpec.pre6 enc Tryz.prog Tryz.f3 Rows.rmsNamesRow.domain false) (Rows.rmsNamesSpec.post enc Tryz.prog Tryz.f3 false true false false):=by
 refine returnsInHanded_of_change_sized (C:=Tryz.checked) own started (by kernel_rfl) Tryz.func3
  (ChangeSpec.witness6 (enc:=enc) (C:=Tryz.checked) false ⟨#[],#[.slice none 0 0,.slice none 0 0,.string ⟨#[]⟩],[]⟩ 8 (by kernel_rfl) (by kernel_rfl) (by kernel_rfl) (by kernel_rfl)) ?_
 intro W base args ds gs before hval hW _ hz _;obtain ⟨tb,hr,htb⟩:=boolType
 exact law_contractD (E:=E) (f:=3) (g:=920) (n:=10) (fn:=Tryz.f3) (ss:=[.slice .str,.slice .str,.str]) rfl (by kernel_rfl) (fun h l vs ha e _=>rmsNames_run h l vs ha e) rfl
  (fun ds hl=>by
   match ds,hl with
   | [_,_,_],_=>rfl) laidOut (by kernel_rfl) hr htb hval hW hz
theorem rmsNames_holds:Rows.RmsNamesSaid :=
 OpenClaim.holds_of_wide 3 Tryz.f3 rfl rfl rfl rfl rfl rfl rfl ⟨rfl,rfl,rfl,rfl,rfl⟩ rfl rfl rfl rfl rfl (by kernel_rfl) Tryz.func3 (by kernel_rfl)
  (of_decide_eq_true (by kernel_rfl)) (by unfold Func.isWrapper; first | (rw [if_pos (by decide +kernel)]; kernel_rfl) | (rw [if_neg (by decide +kernel)]; exact ⟨rfl,rfl⟩))
  (fun os started H enc _=>yz os started H enc)
end Go.Proofs.YtkdkjjokckokfaaGreat
