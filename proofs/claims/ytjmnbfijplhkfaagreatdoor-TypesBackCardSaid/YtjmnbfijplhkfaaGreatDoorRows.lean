/-
  NARROWER THAN 'FOR EVERY INPUT', by the rows' own cells (each row's printed sentence says how): SlotsLay: laid · TypesBack: laid · VerifyAll: laid · VerifyMade: laid · VerifyMore: laid.
  DERIVED. THE GIVEN ROWS OF THIS SEAT. 5 by the template 'for every input the law returns true; each argument reads behind the call as it read before'; 0 by the template 'total and deterministic' (their statements: YtjmnbfijplhkfaaGreatDoorTotals.lean).
  GIVEN WITH THE SEED: the statements are not yours to turn. If you find one false, say at which input.
  Laid BY PROGRAM, IN A SANDBOX (cutbox-rows.mjs): the forced cells as the released guide's own fill.sh prints them over the translation 60f2dbac148b5b01… (all of the seat's roots in one cut). By AI agents, Wed Nov 11 2026. No macro, syntax, notation, axiom, sorry.
-/
import Derived.Test.YtjmnbfijplhkfaaGreatDoorChecked
import GoSem.PinnedTables
import GoSem.Claim
import GoSem.ClaimJoined
import GoSem.ClaimMapViews
import Derived.JoinedTies
import Derived.KernelRfl
namespace Go.Proofs.YtjmnbfijplhkfaaGreatDoor
/- THE CELL 'sum', in the pinned program and in every row, IS THE sha256 OF THE DUMP (.gsa) THAT YtjmnbfijplhkfaaGreatDoorProg.lean LOADS. Nothing in Lean hashes anything: it is a label: what it is worth is what the hold of that sum in a sandbox is worth. -/
noncomputable def Tryz.pinned : Pinned := { name := "ytjmnbfijplhkfaagreatdoor", sum := "60f2dbac148b5b0197ddeb7e091aeadf093bf38632c04f238894baf3b47193c0", checked := Tryz.checked }
namespace Rows
def none {H : Type} : Left H := { results := [], args := [] }

/- WHAT THE LISTED PACKAGE-LEVEL VARIABLES READ AS WHEN THE CALL BEGINS. Each datum BY PROGRAM (the guide's laid-datum.mjs) off the statement by which the dump's own 'gosem.cut.vars' lays the variable. In a bare row this is a premise. The card (YtjmnbfijplhkfaaGreatDoorCards.lean) ties it to the program's text. -/
def laid_unicode_utf8_acceptRanges {H : Type} : DataW H := .agg [.agg [.lit (.int .u8 128), .lit (.int .u8 191)], .agg [.lit (.int .u8 160), .lit (.int .u8 191)], .agg [.lit (.int .u8 128), .lit (.int .u8 159)], .agg [.lit (.int .u8 144), .lit (.int .u8 191)], .agg [.lit (.int .u8 128), .lit (.int .u8 143)], .agg [.lit (.int .u8 0), .lit (.int .u8 0)], .agg [.lit (.int .u8 0), .lit (.int .u8 0)], .agg [.lit (.int .u8 0), .lit (.int .u8 0)], .agg [.lit (.int .u8 0), .lit (.int .u8 0)], .agg [.lit (.int .u8 0), .lit (.int .u8 0)], .agg [.lit (.int .u8 0), .lit (.int .u8 0)], .agg [.lit (.int .u8 0), .lit (.int .u8 0)], .agg [.lit (.int .u8 0), .lit (.int .u8 0)], .agg [.lit (.int .u8 0), .lit (.int .u8 0)], .agg [.lit (.int .u8 0), .lit (.int .u8 0)], .agg [.lit (.int .u8 0), .lit (.int .u8 0)]]
/-- One of Go's own tables, pinned by name: the form's constant. -/
def laid_unicode_utf8_first : DataW Unit := Go.Pinned.utf8First

/-- 'carpetbaglaw24.SlotsLay': WHATEVER THE INPUT: true; the input reads as it did. -/
def slotsLaySpec : ChangeSpec := { name := "slotsLay", fn := fun _ => fun
  | [d1, d2, d3, d4] => { results := [.lit (.bool true)], args := [d1, d2, d3, d4] }
  | _ => none }
def slotsLayRow : OpenClaim := { program := "ytjmnbfijplhkfaagreatdoor", sum := "60f2dbac148b5b0197ddeb7e091aeadf093bf38632c04f238894baf3b47193c0", func := "carpetbag/carpetbaglaw24.SlotsLay", spec := "slotsLay", inPlace := ["internal/bytealg.CountString", "internal/bytealg.IndexByteString", "internal/bytealg.IndexString"], unfollowed := true, recurses := true, named := ["unicode/utf8.first", "unicode/utf8.acceptRanges", "internal/bytealg.MaxLen"], plainKeys := false, apart := false, laid := [("unicode/utf8.acceptRanges", laid_unicode_utf8_acceptRanges), ("unicode/utf8.first", laid_unicode_utf8_first)] }
def SlotsLaySaid : Prop := slotsLayRow.holds Tryz.pinned (OpenSpec.ofChange slotsLaySpec)

/-- ITS FALSE NEIGHBOUR: 'it returns false'. Refute it at one input. -/
def slotsLayWrong : ChangeSpec := { name := "slotsLay", fn := fun _ => fun
  | [d1, d2, d3, d4] => { results := [.lit (.bool false)], args := [d1, d2, d3, d4] }
  | _ => none }
def SlotsLayWrongFalsely : Prop := slotsLayRow.holds Tryz.pinned (OpenSpec.ofChange slotsLayWrong)

/-- 'carpetbaglaw17.TypesBack': WHATEVER THE INPUT: true; the input reads as it did. -/
def typesBackSpec : ChangeSpec := { name := "typesBack", fn := fun _ => fun
  | [d1, d2, d3, d4] => { results := [.lit (.bool true)], args := [d1, d2, d3, d4] }
  | _ => none }
def typesBackRow : OpenClaim := { program := "ytjmnbfijplhkfaagreatdoor", sum := "60f2dbac148b5b0197ddeb7e091aeadf093bf38632c04f238894baf3b47193c0", func := "carpetbag/carpetbaglaw17.TypesBack", spec := "typesBack", inPlace := ["internal/bytealg.IndexByteString", "internal/bytealg.IndexString", "internal/bytealg.CountString", "slices.overlaps[string]"], unfollowed := true, recurses := true, named := ["unicode/utf8.first", "unicode/utf8.acceptRanges", "internal/bytealg.MaxLen"], plainKeys := false, apart := false, laid := [("unicode/utf8.acceptRanges", laid_unicode_utf8_acceptRanges), ("unicode/utf8.first", laid_unicode_utf8_first)] }
def TypesBackSaid : Prop := typesBackRow.holds Tryz.pinned (OpenSpec.ofChange typesBackSpec)

/-- ITS FALSE NEIGHBOUR: 'it returns false'. Refute it at one input. -/
def typesBackWrong : ChangeSpec := { name := "typesBack", fn := fun _ => fun
  | [d1, d2, d3, d4] => { results := [.lit (.bool false)], args := [d1, d2, d3, d4] }
  | _ => none }
def TypesBackWrongFalsely : Prop := typesBackRow.holds Tryz.pinned (OpenSpec.ofChange typesBackWrong)

/-- 'carpetbaglaw19.VerifyAll': WHATEVER THE INPUT: true; the input reads as it did. -/
def verifyAllSpec : ChangeSpec := { name := "verifyAll", fn := fun _ => fun
  | [d] => { results := [.lit (.bool true)], args := [d] }
  | _ => none }
def verifyAllRow : OpenClaim := { program := "ytjmnbfijplhkfaagreatdoor", sum := "60f2dbac148b5b0197ddeb7e091aeadf093bf38632c04f238894baf3b47193c0", func := "carpetbag/carpetbaglaw19.VerifyAll", spec := "verifyAll", inPlace := ["internal/bytealg.CountString", "internal/bytealg.IndexByteString", "internal/bytealg.IndexString", "slices.overlaps[string]"], unfollowed := true, recurses := true, named := ["unicode/utf8.first", "unicode/utf8.acceptRanges", "internal/bytealg.MaxLen"], plainKeys := false, apart := false, laid := [("unicode/utf8.acceptRanges", laid_unicode_utf8_acceptRanges), ("unicode/utf8.first", laid_unicode_utf8_first)] }
def VerifyAllSaid : Prop := verifyAllRow.holds Tryz.pinned (OpenSpec.ofChange verifyAllSpec)

/-- ITS FALSE NEIGHBOUR: 'it returns false'. Refute it at one input. -/
def verifyAllWrong : ChangeSpec := { name := "verifyAll", fn := fun _ => fun
  | [d] => { results := [.lit (.bool false)], args := [d] }
  | _ => none }
def VerifyAllWrongFalsely : Prop := verifyAllRow.holds Tryz.pinned (OpenSpec.ofChange verifyAllWrong)

/-- 'carpetbaglaw19.VerifyMade': WHATEVER THE INPUT: true; the input reads as it did. -/
def verifyMadeSpec : ChangeSpec := { name := "verifyMade", fn := fun _ => fun
  | [d] => { results := [.lit (.bool true)], args := [d] }
  | _ => none }
def verifyMadeRow : OpenClaim := { program := "ytjmnbfijplhkfaagreatdoor", sum := "60f2dbac148b5b0197ddeb7e091aeadf093bf38632c04f238894baf3b47193c0", func := "carpetbag/carpetbaglaw19.VerifyMade", spec := "verifyMade", inPlace := ["internal/bytealg.CountString", "internal/bytealg.IndexByteString", "internal/bytealg.IndexString", "slices.overlaps[string]"], unfollowed := true, recurses := true, named := ["unicode/utf8.first", "unicode/utf8.acceptRanges", "internal/bytealg.MaxLen"], plainKeys := false, apart := false, laid := [("unicode/utf8.acceptRanges", laid_unicode_utf8_acceptRanges), ("unicode/utf8.first", laid_unicode_utf8_first)] }
def VerifyMadeSaid : Prop := verifyMadeRow.holds Tryz.pinned (OpenSpec.ofChange verifyMadeSpec)

/-- ITS FALSE NEIGHBOUR: 'it returns false'. Refute it at one input. -/
def verifyMadeWrong : ChangeSpec := { name := "verifyMade", fn := fun _ => fun
  | [d] => { results := [.lit (.bool false)], args := [d] }
  | _ => none }
def VerifyMadeWrongFalsely : Prop := verifyMadeRow.holds Tryz.pinned (OpenSpec.ofChange verifyMadeWrong)

/-- 'carpetbaglaw19.VerifyMore': WHATEVER THE INPUT: true; the input reads as it did. -/
def verifyMoreSpec : ChangeSpec := { name := "verifyMore", fn := fun _ => fun
  | [d1, d2, d3, d4] => { results := [.lit (.bool true)], args := [d1, d2, d3, d4] }
  | _ => none }
def verifyMoreRow : OpenClaim := { program := "ytjmnbfijplhkfaagreatdoor", sum := "60f2dbac148b5b0197ddeb7e091aeadf093bf38632c04f238894baf3b47193c0", func := "carpetbag/carpetbaglaw19.VerifyMore", spec := "verifyMore", inPlace := ["internal/bytealg.CountString", "internal/bytealg.IndexByteString", "internal/bytealg.IndexString", "slices.overlaps[string]"], unfollowed := true, recurses := true, named := ["unicode/utf8.first", "unicode/utf8.acceptRanges", "internal/bytealg.MaxLen"], plainKeys := false, apart := false, laid := [("unicode/utf8.acceptRanges", laid_unicode_utf8_acceptRanges), ("unicode/utf8.first", laid_unicode_utf8_first)] }
def VerifyMoreSaid : Prop := verifyMoreRow.holds Tryz.pinned (OpenSpec.ofChange verifyMoreSpec)

/-- ITS FALSE NEIGHBOUR: 'it returns false'. Refute it at one input. -/
def verifyMoreWrong : ChangeSpec := { name := "verifyMore", fn := fun _ => fun
  | [d1, d2, d3, d4] => { results := [.lit (.bool false)], args := [d1, d2, d3, d4] }
  | _ => none }
def VerifyMoreWrongFalsely : Prop := verifyMoreRow.holds Tryz.pinned (OpenSpec.ofChange verifyMoreWrong)

/- THE SECOND FORM. 'bulk': how many values and letters a reading holds, each counted each time it is reached (what is shared counts as often as it is met; a slice's spare places count too). A statement '..UptoSaid' is the law's where the arguments, and the package variables that the reading takes, are together of bulk at most 1048576: NARROWER than '..Said'. Prove '..Said' where nothing that the law and all that it calls make is longer than what came in: it says more and counts as full. Else prove '..UptoSaid'. A law counts once. -/
mutual
def uptoBulk {H : Type} : DataW H → Nat
  | .lit (.string bytes) => bytes.length + 1
  | .lit _ => 1
  | .nil => 1
  | .ptr d => uptoBulk d + 1
  | .slice elems spare => uptoBulkAll elems + uptoBulkAll spare + 1
  | .agg parts => uptoBulkAll parts + 1
  | .iface _ d => uptoBulk d + 1
  | .map entries => uptoBulkEntries entries + 1
  | .held _ => 1
def uptoBulkAll {H : Type} : List (DataW H) → Nat
  | [] => 0
  | d :: r => uptoBulk d + uptoBulkAll r
def uptoBulkEntries {H : Type} : List (Lit × DataW H) → Nat
  | [] => 0
  | x :: r => uptoBulkEntry x + uptoBulkEntries r
def uptoBulkEntry {H : Type} : Lit × DataW H → Nat
  | (.string bytes, d) => bytes.length + uptoBulk d + 1
  | (_, d) => uptoBulk d + 1
 end
def uptoSmall : (H : Type) → List (DataW H) → Bool := fun _ ds => decide (uptoBulkAll ds ≤ 1048576)
def OpenSpec.upto (s : _root_.Go.ChangeSpec) : _root_.Go.OpenSpec := { _root_.Go.OpenSpec.ofChange s with cond := some uptoSmall }

/-- 'carpetbaglaw24.SlotsLay', WHERE WHAT IT READS IS OF BULK AT MOST 1048576: true; the input reads as it did. -/
def slotsLayUptoRow : OpenClaim := { program := "ytjmnbfijplhkfaagreatdoor", sum := "60f2dbac148b5b0197ddeb7e091aeadf093bf38632c04f238894baf3b47193c0", func := "carpetbag/carpetbaglaw24.SlotsLay", spec := "slotsLay", inPlace := ["internal/bytealg.CountString", "internal/bytealg.IndexByteString", "internal/bytealg.IndexString"], unfollowed := true, recurses := true, named := ["unicode/utf8.first", "unicode/utf8.acceptRanges", "internal/bytealg.MaxLen"], plainKeys := false, apart := false, laid := [("unicode/utf8.acceptRanges", laid_unicode_utf8_acceptRanges), ("unicode/utf8.first", laid_unicode_utf8_first)], narrowed := true }
def SlotsLayUptoSaid : Prop := slotsLayUptoRow.holds Tryz.pinned (OpenSpec.upto slotsLaySpec)

/-- 'carpetbaglaw17.TypesBack', WHERE WHAT IT READS IS OF BULK AT MOST 1048576: true; the input reads as it did. -/
def typesBackUptoRow : OpenClaim := { program := "ytjmnbfijplhkfaagreatdoor", sum := "60f2dbac148b5b0197ddeb7e091aeadf093bf38632c04f238894baf3b47193c0", func := "carpetbag/carpetbaglaw17.TypesBack", spec := "typesBack", inPlace := ["internal/bytealg.IndexByteString", "internal/bytealg.IndexString", "internal/bytealg.CountString", "slices.overlaps[string]"], unfollowed := true, recurses := true, named := ["unicode/utf8.first", "unicode/utf8.acceptRanges", "internal/bytealg.MaxLen"], plainKeys := false, apart := false, laid := [("unicode/utf8.acceptRanges", laid_unicode_utf8_acceptRanges), ("unicode/utf8.first", laid_unicode_utf8_first)], narrowed := true }
def TypesBackUptoSaid : Prop := typesBackUptoRow.holds Tryz.pinned (OpenSpec.upto typesBackSpec)

/-- 'carpetbaglaw19.VerifyAll', WHERE WHAT IT READS IS OF BULK AT MOST 1048576: true; the input reads as it did. -/
def verifyAllUptoRow : OpenClaim := { program := "ytjmnbfijplhkfaagreatdoor", sum := "60f2dbac148b5b0197ddeb7e091aeadf093bf38632c04f238894baf3b47193c0", func := "carpetbag/carpetbaglaw19.VerifyAll", spec := "verifyAll", inPlace := ["internal/bytealg.CountString", "internal/bytealg.IndexByteString", "internal/bytealg.IndexString", "slices.overlaps[string]"], unfollowed := true, recurses := true, named := ["unicode/utf8.first", "unicode/utf8.acceptRanges", "internal/bytealg.MaxLen"], plainKeys := false, apart := false, laid := [("unicode/utf8.acceptRanges", laid_unicode_utf8_acceptRanges), ("unicode/utf8.first", laid_unicode_utf8_first)], narrowed := true }
def VerifyAllUptoSaid : Prop := verifyAllUptoRow.holds Tryz.pinned (OpenSpec.upto verifyAllSpec)

/-- 'carpetbaglaw19.VerifyMade', WHERE WHAT IT READS IS OF BULK AT MOST 1048576: true; the input reads as it did. -/
def verifyMadeUptoRow : OpenClaim := { program := "ytjmnbfijplhkfaagreatdoor", sum := "60f2dbac148b5b0197ddeb7e091aeadf093bf38632c04f238894baf3b47193c0", func := "carpetbag/carpetbaglaw19.VerifyMade", spec := "verifyMade", inPlace := ["internal/bytealg.CountString", "internal/bytealg.IndexByteString", "internal/bytealg.IndexString", "slices.overlaps[string]"], unfollowed := true, recurses := true, named := ["unicode/utf8.first", "unicode/utf8.acceptRanges", "internal/bytealg.MaxLen"], plainKeys := false, apart := false, laid := [("unicode/utf8.acceptRanges", laid_unicode_utf8_acceptRanges), ("unicode/utf8.first", laid_unicode_utf8_first)], narrowed := true }
def VerifyMadeUptoSaid : Prop := verifyMadeUptoRow.holds Tryz.pinned (OpenSpec.upto verifyMadeSpec)

/-- 'carpetbaglaw19.VerifyMore', WHERE WHAT IT READS IS OF BULK AT MOST 1048576: true; the input reads as it did. -/
def verifyMoreUptoRow : OpenClaim := { program := "ytjmnbfijplhkfaagreatdoor", sum := "60f2dbac148b5b0197ddeb7e091aeadf093bf38632c04f238894baf3b47193c0", func := "carpetbag/carpetbaglaw19.VerifyMore", spec := "verifyMore", inPlace := ["internal/bytealg.CountString", "internal/bytealg.IndexByteString", "internal/bytealg.IndexString", "slices.overlaps[string]"], unfollowed := true, recurses := true, named := ["unicode/utf8.first", "unicode/utf8.acceptRanges", "internal/bytealg.MaxLen"], plainKeys := false, apart := false, laid := [("unicode/utf8.acceptRanges", laid_unicode_utf8_acceptRanges), ("unicode/utf8.first", laid_unicode_utf8_first)], narrowed := true }
def VerifyMoreUptoSaid : Prop := verifyMoreUptoRow.holds Tryz.pinned (OpenSpec.upto verifyMoreSpec)

end Rows
end Go.Proofs.YtjmnbfijplhkfaaGreatDoor
