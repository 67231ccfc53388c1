/-
  The law BlobSectors: true of any tape; the input reads as it did.
-/
import Derived.Test.YtilleokmbhmieaaGreatP11
import Derived.Test.YtilleokmbhmieaaGreatP13
import Derived.Test.YtilleokmbhmieaaGreatP12
import Derived.SizedLaws
import Derived.Handed
import Derived.MakeChecks
import Derived.Test.YtilleokmbhmieaaGreatRows
set_option linter.unusedVariables false
set_option linter.unusedSimpArgs false
set_option maxRecDepth 100000
namespace Go.Proofs.YtilleokmbhmieaaGreat
open Go.Abs Go.Abs.AbsBloS Go.ChangeShapes Go.WideShapes Go.ChangeAt Go.RowKit
theorem own:ownKnob Tryz.prog.godebug=none:=by kernel_rfl
theorem laidOut:laidOutB Tryz.prog=true:=by kernel_rfl
theorem boolType:∃ tb,Tryz.f5.resultTypes = #[tb]∧Tryz.prog.underlying tb=some .bool:=⟨_,rfl,by kernel_rfl⟩
theorem is617:IsCode E 617 AbsBlo.code617:=.of_k _ rfl (by decide) Tryz.func98 AbsBloS.c617 trivial
theorem is599:IsCode E 599 AbsBlo.code599:=.of_k _ rfl (by decide) Tryz.func68 AbsBloS.c599 AbsBloS.r599
theorem is580:IsCode E 580 AbsBlo.code580:=.of_k _ rfl (by decide) Tryz.func40 AbsBloS.c580 trivial
theorem is549:IsCode E 549 AbsBlo.code549:=.of_k _ rfl (by decide) Tryz.func13 AbsBloS.c549 trivial
theorem is557:IsCode E 557 AbsBlo.code557:=.of_k _ rfl (by decide) Tryz.func6 AbsBloS.c557 trivial
theorem is565:IsCode E 565 AbsBlo.code565:=.of_k _ rfl (by decide) Tryz.func5 AbsBloS.c565 trivial
theorem blobSectors_run (h:Heap) (l:List Dat) (vs:List AVal) (ha:HasArgs h [.slice (.int .u8)] l vs) (hb:h.base=h.size):CallD E 565 vs h fun v h'=>v = .bool true∧h'=h:=by
 obtain ⟨os,b,w⟩:=h
 have hb':b=os.length:=hb
 obtain ⟨_,_,_,_,rfl,rfl,h1,ha⟩:=ha.cons
 obtain ⟨rfl,rfl⟩:=ha.nil
 obtain ⟨a,c,B,rfl,hB,hv⟩:=AbsBlo.blob_in (Nat.le_of_eq hb') h1
 exact AbsBlo.c565 agrees mixed is617 is599 is580 is549 is557 is565 hb' hB hv w
set_option maxRecDepth 100000 in
theorem blobSectors_lifted (os:Os) (started:os.Started) (H:Type) (enc:TypeId × Value→H) :
  ReturnsInHanded {} Tryz.checked os 5 .any (Rows.blobSectorsSpec.pre6 enc Tryz.prog Tryz.f5 Rows.blobSectorsRow.domain false) (Rows.blobSectorsSpec.post enc Tryz.prog Tryz.f5 false true false false):=by
 refine returnsInHanded_of_change_sized (C:=Tryz.checked) own started (by kernel_rfl) Tryz.func5
  (ChangeSpec.witness6 (enc:=enc) (C:=Tryz.checked) false ⟨#[],#[.slice none 0 0],[]⟩ 8 (by kernel_rfl) (by kernel_rfl) (by kernel_rfl) (by kernel_rfl)) ?_
 intro W base args ds gs before hval hW _ hz _
 obtain ⟨tb,hr,htb⟩:=boolType
 exact law_contractD (E:=E) (f:=5) (g:=565) (n:=10) (fn:=Tryz.f5) (ss:=[.slice (.int .u8)]) rfl (by kernel_rfl) (fun h l vs ha e _=>blobSectors_run h l vs ha e) rfl
  (fun ds hl=>by
   match ds,hl with
   | [_],_=>rfl) laidOut (by kernel_rfl) hr htb hval hW hz
theorem blobSectors_holds:Rows.BlobSectorsSaid :=
 OpenClaim.holds_of_wide 5 Tryz.f5 rfl rfl rfl rfl rfl rfl rfl ⟨rfl,rfl,rfl,rfl,rfl⟩ rfl rfl rfl rfl rfl (by kernel_rfl) Tryz.func5 (by kernel_rfl)
  (of_decide_eq_true (by kernel_rfl)) (by unfold Func.isWrapper; first | (rw [if_pos (by decide +kernel)]; kernel_rfl) | (rw [if_neg (by decide +kernel)]; exact ⟨rfl,rfl⟩))
  (fun os started H enc _=>blobSectors_lifted os started H enc)
#print axioms blobSectors_holds
end Go.Proofs.YtilleokmbhmieaaGreat
