/-
  The law BlobRoom: true of any numbers; the input reads as it did.
-/
import Derived.Test.YtfjiakbhdjcceaaGreatQ11
import Derived.Test.YtfjiakbhdjcceaaGreatQ14
import Derived.Test.YtfjiakbhdjcceaaGreatQ13
import Derived.SizedLaws
import Derived.Handed
import Derived.MakeChecks
import Derived.Test.YtfjiakbhdjcceaaGreatRows
set_option linter.unusedVariables false
set_option linter.unusedSimpArgs false
set_option maxRecDepth 100000
namespace Go.Proofs.YtfjiakbhdjcceaaGreat
open Go.Abs Go.Abs.AbsBrmS Go.ChangeShapes Go.WideShapes Go.ChangeAt Go.RowKit
theorem own:ownKnob Tryz.prog.godebug=none:=by kernel_rfl
theorem laidOut:laidOutB Tryz.prog=true:=by kernel_rfl
theorem boolType:∃ tb,Tryz.f3.resultTypes = #[tb]∧Tryz.prog.underlying tb=some .bool:=⟨_,rfl,by kernel_rfl⟩
theorem is617:IsCode E 617 AbsBlo.code617:=.of_k _ rfl (by decide) Tryz.func85 kk617 trivial
theorem is599:IsCode E 599 AbsBlo.code599:=.of_k _ rfl (by decide) Tryz.func54 kk599 r599
theorem is580:IsCode E 580 AbsBlo.code580:=.of_k _ rfl (by decide) Tryz.func34 kk580 trivial
theorem is549:IsCode E 549 AbsBlo.code549:=.of_k _ rfl (by decide) Tryz.func11 kk549 trivial
theorem is557:IsCode E 557 AbsBlo.code557:=.of_k _ rfl (by decide) Tryz.func4 kk557 trivial
theorem is507:IsCode E 507 AbsBlo.code507:=.of_k _ rfl (by decide) Tryz.func92 kk507 trivial
theorem is512:IsCode E 512 AbsBlo.code512:=.of_k _ rfl (by decide) Tryz.func116 kk512 r512
theorem is506:IsCode E 506 AbsBlo.code506:=.of_k _ rfl (by decide) Tryz.func90 kk506 trivial
theorem is497:IsCode E 497 AbsBlo.code497:=.of_k _ rfl (by decide) Tryz.func59 kk497 trivial
theorem is480:IsCode E 480 AbsBlo.code480:=.of_k _ rfl (by decide) Tryz.func37 kk480 trivial
theorem is546:IsCode E 546 AbsBrm.code546:=.of_k _ rfl (by decide) Tryz.func14 kk546 trivial
theorem is554:IsCode E 554 AbsBrm.code554:=.of_k _ rfl (by decide) Tryz.func3 kk554 trivial
theorem codesB:AbsBrm.CodesB E:=⟨agrees.x,mixed,is617,is599,is580,is549⟩
theorem codesK:AbsBlo.CodesK E:=⟨agrees.x.sub AbsBrm.sub,mixed,is507,is512,is506,is497,is480⟩
theorem u8_in {h:Heap} {d:Dat} {cs:List AVal} (hh:Has h (.int .u8) d cs):∃ x:Nat,cs=[.int .u8 x]∧x < 256:=by obtain ⟨x,_,rfl,a1,a2⟩:=hh.int;have e1:IntKind.u8.min=0:=rfl;have e2:IntKind.u8.max=255:=rfl;rw [e1] at a1;rw [e2] at a2;obtain ⟨n,rfl⟩:=Int.eq_ofNat_of_zero_le a1;exact ⟨n,rfl,by omega⟩
theorem blobRoom_run (h:Heap) (l:List Dat) (vs:List AVal) (ha:HasArgs h [.int .u8,.int .u8,.slice (.int .u8),.int .u8] l vs) (hb:h.base=h.size):CallD E 554 vs h fun v h'=>v = .bool true∧h'=h:=by obtain ⟨os,b,w⟩:=h;have hb':b=os.length:=hb;obtain ⟨_,_,_,_,rfl,rfl,h1,ha⟩:=ha.cons;obtain ⟨_,_,_,_,rfl,rfl,h2,ha⟩:=ha.cons;obtain ⟨_,_,_,_,rfl,rfl,h3,ha⟩:=ha.cons;obtain ⟨_,_,_,_,rfl,rfl,h4,ha⟩:=ha.cons;obtain ⟨rfl,rfl⟩:=ha.nil;obtain ⟨x0,rfl,g0⟩:=u8_in h1;obtain ⟨x1,rfl,g1⟩:=u8_in h2;obtain ⟨x3,rfl,g3⟩:=u8_in h4;obtain ⟨a,c,B,rfl,hB,hv⟩:=AbsBlo.blob_in (Nat.le_of_eq hb') h3;exact AbsBrm.c554 codesB codesK is557 is546 is554 hb' g0 g1 g3 hB hv w
set_option maxRecDepth 100000 in
theorem zu (os:Os) (started:os.Started) (H:Type) (enc:TypeId × Value→H) :
  ReturnsInHanded {} Tryz.checked os 3 .any (Rows.blobRoomSpec.pre6 enc Tryz.prog Tryz.f3 Rows.blobRoomRow.domain false) (Rows.blobRoomSpec.post enc Tryz.prog Tryz.f3 false true false false):=by
 refine returnsInHanded_of_change_sized (C:=Tryz.checked) own started (by kernel_rfl) Tryz.func3
  (ChangeSpec.witness6 (enc:=enc) (C:=Tryz.checked) false ⟨#[],#[.int .u8 0,.int .u8 0,.slice none 0 0,.int .u8 0],[]⟩ 8 (by kernel_rfl) (by kernel_rfl) (by kernel_rfl) (by kernel_rfl)) ?_
 intro W base args ds gs before hval hW _ hz _;obtain ⟨tb,hr,htb⟩:=boolType
 exact law_contractD (E:=E) (f:=3) (g:=554) (n:=10) (fn:=Tryz.f3) (ss:=[.int .u8,.int .u8,.slice (.int .u8),.int .u8]) rfl (by kernel_rfl) (fun h l vs ha e _=>blobRoom_run h l vs ha e) rfl
  (fun ds hl=>by
   match ds,hl with
   | [_,_,_,_],_=>rfl) laidOut (by kernel_rfl) hr htb hval hW hz
theorem blobRoom_holds:Rows.BlobRoomSaid :=
 OpenClaim.holds_of_wide 3 Tryz.f3 rfl rfl rfl rfl rfl rfl rfl ⟨rfl,rfl,rfl,rfl,rfl⟩ rfl rfl rfl rfl rfl (by kernel_rfl) Tryz.func3 (by kernel_rfl)
  (of_decide_eq_true (by kernel_rfl)) (by unfold Func.isWrapper; first | (rw [if_pos (by decide +kernel)]; kernel_rfl) | (rw [if_neg (by decide +kernel)]; exact ⟨rfl,rfl⟩))
  (fun os started H enc _=>zu os started H enc)
end Go.Proofs.YtfjiakbhdjcceaaGreat
