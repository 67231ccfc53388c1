/-
  NARROWER THAN 'FOR EVERY INPUT', by the rows' own cells (each row's printed sentence says how): HierOrder: laid · HierCommon: laid · SlotsGrow: laid · SlotsFind: laid.
  DERIVED. THE GIVEN ROWS OF THIS SEAT. 4 by the template 'for every input the law returns true; each argument reads behind the call as it read before'; 0 by the template 'total and deterministic' (their statements: YtknncfpfhjnjpaaDoorTotals.lean).
  GIVEN WITH THE SEED: the statements are not yours to turn. If you find one false, say at which input.
  Laid BY PROGRAM, IN A SANDBOX (cutbox-rows.mjs): the forced cells as the released guide's own fill.sh prints them over the translation ececca77b1de9cf3… (all of the seat's roots in one cut). By AI agents, Wed Nov 11 2026. No macro, syntax, notation, axiom, sorry.
-/
import Derived.Test.YtknncfpfhjnjpaaDoorChecked
import GoSem.PinnedTables
import GoSem.Claim
import GoSem.ClaimJoined
import GoSem.ClaimMapViews
import Derived.JoinedTies
import Derived.KernelRfl
namespace Go.Proofs.YtknncfpfhjnjpaaDoor
/- THE CELL 'sum', in the pinned program and in every row, IS THE sha256 OF THE DUMP (.gsa) THAT YtknncfpfhjnjpaaDoorProg.lean LOADS. Nothing in Lean hashes anything: it is a label: what it is worth is what the hold of that sum in a sandbox is worth. -/
noncomputable def Tryd.pinned : Pinned := { name := "ytknncfpfhjnjpaadoor", sum := "ececca77b1de9cf3ebc5862d1f74ba7473017013e557b890312744ad7d6377d9", checked := Tryd.checked }
namespace Rows
def none {H : Type} : Left H := { results := [], args := [] }

/- WHAT THE LISTED PACKAGE-LEVEL VARIABLES READ AS WHEN THE CALL BEGINS. Each datum BY PROGRAM (the guide's laid-datum.mjs) off the statement by which the dump's own 'gosem.cut.vars' lays the variable. In a bare row this is a premise. The card (YtknncfpfhjnjpaaDoorCards.lean) ties it to the program's text. -/
def laid_unicode_utf8_acceptRanges {H : Type} : DataW H := .agg [.agg [.lit (.int .u8 128), .lit (.int .u8 191)], .agg [.lit (.int .u8 160), .lit (.int .u8 191)], .agg [.lit (.int .u8 128), .lit (.int .u8 159)], .agg [.lit (.int .u8 144), .lit (.int .u8 191)], .agg [.lit (.int .u8 128), .lit (.int .u8 143)], .agg [.lit (.int .u8 0), .lit (.int .u8 0)], .agg [.lit (.int .u8 0), .lit (.int .u8 0)], .agg [.lit (.int .u8 0), .lit (.int .u8 0)], .agg [.lit (.int .u8 0), .lit (.int .u8 0)], .agg [.lit (.int .u8 0), .lit (.int .u8 0)], .agg [.lit (.int .u8 0), .lit (.int .u8 0)], .agg [.lit (.int .u8 0), .lit (.int .u8 0)], .agg [.lit (.int .u8 0), .lit (.int .u8 0)], .agg [.lit (.int .u8 0), .lit (.int .u8 0)], .agg [.lit (.int .u8 0), .lit (.int .u8 0)], .agg [.lit (.int .u8 0), .lit (.int .u8 0)]]
/-- One of Go's own tables, pinned by name: the form's constant. -/
def laid_unicode_utf8_first : DataW Unit := Go.Pinned.utf8First

/-- 'carpetbaglaw16.HierOrder': WHATEVER THE INPUT: true; the input reads as it did. -/
def hierOrderSpec : ChangeSpec := { name := "hierOrder", fn := fun _ => fun
  | [d1, d2, d3, d4] => { results := [.lit (.bool true)], args := [d1, d2, d3, d4] }
  | _ => none }
def hierOrderRow : OpenClaim := { program := "ytknncfpfhjnjpaadoor", sum := "ececca77b1de9cf3ebc5862d1f74ba7473017013e557b890312744ad7d6377d9", func := "carpetbag/carpetbaglaw16.HierOrder", spec := "hierOrder", inPlace := ["internal/bytealg.CountString", "internal/bytealg.IndexByteString", "internal/bytealg.IndexString"], unfollowed := true, recurses := true, named := ["unicode/utf8.first", "unicode/utf8.acceptRanges", "internal/bytealg.MaxLen"], plainKeys := false, apart := false, laid := [("unicode/utf8.acceptRanges", laid_unicode_utf8_acceptRanges), ("unicode/utf8.first", laid_unicode_utf8_first)] }
def HierOrderSaid : Prop := hierOrderRow.holds Tryd.pinned (OpenSpec.ofChange hierOrderSpec)

/-- ITS FALSE NEIGHBOUR: 'it returns false'. Refute it at one input. -/
def hierOrderWrong : ChangeSpec := { name := "hierOrder", fn := fun _ => fun
  | [d1, d2, d3, d4] => { results := [.lit (.bool false)], args := [d1, d2, d3, d4] }
  | _ => none }
def HierOrderWrongFalsely : Prop := hierOrderRow.holds Tryd.pinned (OpenSpec.ofChange hierOrderWrong)

/-- 'carpetbaglaw16.HierCommon': WHATEVER THE INPUT: true; the input reads as it did. -/
def hierCommonSpec : ChangeSpec := { name := "hierCommon", fn := fun _ => fun
  | [d1, d2, d3, d4] => { results := [.lit (.bool true)], args := [d1, d2, d3, d4] }
  | _ => none }
def hierCommonRow : OpenClaim := { program := "ytknncfpfhjnjpaadoor", sum := "ececca77b1de9cf3ebc5862d1f74ba7473017013e557b890312744ad7d6377d9", func := "carpetbag/carpetbaglaw16.HierCommon", spec := "hierCommon", inPlace := ["internal/bytealg.CountString", "internal/bytealg.IndexByteString", "internal/bytealg.IndexString"], unfollowed := true, recurses := true, named := ["unicode/utf8.first", "unicode/utf8.acceptRanges", "internal/bytealg.MaxLen"], plainKeys := false, apart := false, laid := [("unicode/utf8.acceptRanges", laid_unicode_utf8_acceptRanges), ("unicode/utf8.first", laid_unicode_utf8_first)] }
def HierCommonSaid : Prop := hierCommonRow.holds Tryd.pinned (OpenSpec.ofChange hierCommonSpec)

/-- ITS FALSE NEIGHBOUR: 'it returns false'. Refute it at one input. -/
def hierCommonWrong : ChangeSpec := { name := "hierCommon", fn := fun _ => fun
  | [d1, d2, d3, d4] => { results := [.lit (.bool false)], args := [d1, d2, d3, d4] }
  | _ => none }
def HierCommonWrongFalsely : Prop := hierCommonRow.holds Tryd.pinned (OpenSpec.ofChange hierCommonWrong)

/-- 'carpetbaglaw24.SlotsGrow': WHATEVER THE INPUT: true; the input reads as it did. -/
def slotsGrowSpec : ChangeSpec := { name := "slotsGrow", fn := fun _ => fun
  | [d] => { results := [.lit (.bool true)], args := [d] }
  | _ => none }
def slotsGrowRow : OpenClaim := { program := "ytknncfpfhjnjpaadoor", sum := "ececca77b1de9cf3ebc5862d1f74ba7473017013e557b890312744ad7d6377d9", func := "carpetbag/carpetbaglaw24.SlotsGrow", spec := "slotsGrow", inPlace := ["internal/bytealg.CountString", "internal/bytealg.IndexByteString", "internal/bytealg.IndexString"], unfollowed := true, recurses := true, named := ["unicode/utf8.first", "unicode/utf8.acceptRanges", "internal/bytealg.MaxLen"], plainKeys := false, apart := false, laid := [("unicode/utf8.acceptRanges", laid_unicode_utf8_acceptRanges), ("unicode/utf8.first", laid_unicode_utf8_first)] }
def SlotsGrowSaid : Prop := slotsGrowRow.holds Tryd.pinned (OpenSpec.ofChange slotsGrowSpec)

/-- ITS FALSE NEIGHBOUR: 'it returns false'. Refute it at one input. -/
def slotsGrowWrong : ChangeSpec := { name := "slotsGrow", fn := fun _ => fun
  | [d] => { results := [.lit (.bool false)], args := [d] }
  | _ => none }
def SlotsGrowWrongFalsely : Prop := slotsGrowRow.holds Tryd.pinned (OpenSpec.ofChange slotsGrowWrong)

/-- 'carpetbaglaw24.SlotsFind': WHATEVER THE INPUT: true; the input reads as it did. -/
def slotsFindSpec : ChangeSpec := { name := "slotsFind", fn := fun _ => fun
  | [d1, d2, d3, d4, d5, d6] => { results := [.lit (.bool true)], args := [d1, d2, d3, d4, d5, d6] }
  | _ => none }
def slotsFindRow : OpenClaim := { program := "ytknncfpfhjnjpaadoor", sum := "ececca77b1de9cf3ebc5862d1f74ba7473017013e557b890312744ad7d6377d9", func := "carpetbag/carpetbaglaw24.SlotsFind", spec := "slotsFind", inPlace := ["internal/bytealg.CountString", "internal/bytealg.IndexByteString", "internal/bytealg.IndexString"], unfollowed := true, recurses := true, named := ["unicode/utf8.first", "unicode/utf8.acceptRanges", "internal/bytealg.MaxLen"], plainKeys := false, apart := false, laid := [("unicode/utf8.acceptRanges", laid_unicode_utf8_acceptRanges), ("unicode/utf8.first", laid_unicode_utf8_first)] }
def SlotsFindSaid : Prop := slotsFindRow.holds Tryd.pinned (OpenSpec.ofChange slotsFindSpec)

/-- ITS FALSE NEIGHBOUR: 'it returns false'. Refute it at one input. -/
def slotsFindWrong : ChangeSpec := { name := "slotsFind", fn := fun _ => fun
  | [d1, d2, d3, d4, d5, d6] => { results := [.lit (.bool false)], args := [d1, d2, d3, d4, d5, d6] }
  | _ => none }
def SlotsFindWrongFalsely : Prop := slotsFindRow.holds Tryd.pinned (OpenSpec.ofChange slotsFindWrong)

/- THE SECOND FORM. 'bulk': how many values and letters a reading holds, each counted each time it is reached (what is shared counts as often as it is met; a slice's spare places count too). A statement '..UptoSaid' is the law's where the arguments, and the package variables that the reading takes, are together of bulk at most 1048576: NARROWER than '..Said'. Prove '..Said' where nothing that the law and all that it calls make is longer than what came in: it says more and counts as full. Else prove '..UptoSaid'. A law counts once. -/
mutual
def uptoBulk {H : Type} : DataW H → Nat
  | .lit (.string bytes) => bytes.length + 1
  | .lit _ => 1
  | .nil => 1
  | .ptr d => uptoBulk d + 1
  | .slice elems spare => uptoBulkAll elems + uptoBulkAll spare + 1
  | .agg parts => uptoBulkAll parts + 1
  | .iface _ d => uptoBulk d + 1
  | .map entries => uptoBulkEntries entries + 1
  | .held _ => 1
def uptoBulkAll {H : Type} : List (DataW H) → Nat
  | [] => 0
  | d :: r => uptoBulk d + uptoBulkAll r
def uptoBulkEntries {H : Type} : List (Lit × DataW H) → Nat
  | [] => 0
  | x :: r => uptoBulkEntry x + uptoBulkEntries r
def uptoBulkEntry {H : Type} : Lit × DataW H → Nat
  | (.string bytes, d) => bytes.length + uptoBulk d + 1
  | (_, d) => uptoBulk d + 1
 end
def uptoSmall : (H : Type) → List (DataW H) → Bool := fun _ ds => decide (uptoBulkAll ds ≤ 1048576)
def OpenSpec.upto (s : _root_.Go.ChangeSpec) : _root_.Go.OpenSpec := { _root_.Go.OpenSpec.ofChange s with cond := some uptoSmall }

/-- 'carpetbaglaw16.HierOrder', WHERE WHAT IT READS IS OF BULK AT MOST 1048576: true; the input reads as it did. -/
def hierOrderUptoRow : OpenClaim := { program := "ytknncfpfhjnjpaadoor", sum := "ececca77b1de9cf3ebc5862d1f74ba7473017013e557b890312744ad7d6377d9", func := "carpetbag/carpetbaglaw16.HierOrder", spec := "hierOrder", inPlace := ["internal/bytealg.CountString", "internal/bytealg.IndexByteString", "internal/bytealg.IndexString"], unfollowed := true, recurses := true, named := ["unicode/utf8.first", "unicode/utf8.acceptRanges", "internal/bytealg.MaxLen"], plainKeys := false, apart := false, laid := [("unicode/utf8.acceptRanges", laid_unicode_utf8_acceptRanges), ("unicode/utf8.first", laid_unicode_utf8_first)], narrowed := true }
def HierOrderUptoSaid : Prop := hierOrderUptoRow.holds Tryd.pinned (OpenSpec.upto hierOrderSpec)

/-- 'carpetbaglaw16.HierCommon', WHERE WHAT IT READS IS OF BULK AT MOST 1048576: true; the input reads as it did. -/
def hierCommonUptoRow : OpenClaim := { program := "ytknncfpfhjnjpaadoor", sum := "ececca77b1de9cf3ebc5862d1f74ba7473017013e557b890312744ad7d6377d9", func := "carpetbag/carpetbaglaw16.HierCommon", spec := "hierCommon", inPlace := ["internal/bytealg.CountString", "internal/bytealg.IndexByteString", "internal/bytealg.IndexString"], unfollowed := true, recurses := true, named := ["unicode/utf8.first", "unicode/utf8.acceptRanges", "internal/bytealg.MaxLen"], plainKeys := false, apart := false, laid := [("unicode/utf8.acceptRanges", laid_unicode_utf8_acceptRanges), ("unicode/utf8.first", laid_unicode_utf8_first)], narrowed := true }
def HierCommonUptoSaid : Prop := hierCommonUptoRow.holds Tryd.pinned (OpenSpec.upto hierCommonSpec)

/-- 'carpetbaglaw24.SlotsGrow', WHERE WHAT IT READS IS OF BULK AT MOST 1048576: true; the input reads as it did. -/
def slotsGrowUptoRow : OpenClaim := { program := "ytknncfpfhjnjpaadoor", sum := "ececca77b1de9cf3ebc5862d1f74ba7473017013e557b890312744ad7d6377d9", func := "carpetbag/carpetbaglaw24.SlotsGrow", spec := "slotsGrow", inPlace := ["internal/bytealg.CountString", "internal/bytealg.IndexByteString", "internal/bytealg.IndexString"], unfollowed := true, recurses := true, named := ["unicode/utf8.first", "unicode/utf8.acceptRanges", "internal/bytealg.MaxLen"], plainKeys := false, apart := false, laid := [("unicode/utf8.acceptRanges", laid_unicode_utf8_acceptRanges), ("unicode/utf8.first", laid_unicode_utf8_first)], narrowed := true }
def SlotsGrowUptoSaid : Prop := slotsGrowUptoRow.holds Tryd.pinned (OpenSpec.upto slotsGrowSpec)

/-- 'carpetbaglaw24.SlotsFind', WHERE WHAT IT READS IS OF BULK AT MOST 1048576: true; the input reads as it did. -/
def slotsFindUptoRow : OpenClaim := { program := "ytknncfpfhjnjpaadoor", sum := "ececca77b1de9cf3ebc5862d1f74ba7473017013e557b890312744ad7d6377d9", func := "carpetbag/carpetbaglaw24.SlotsFind", spec := "slotsFind", inPlace := ["internal/bytealg.CountString", "internal/bytealg.IndexByteString", "internal/bytealg.IndexString"], unfollowed := true, recurses := true, named := ["unicode/utf8.first", "unicode/utf8.acceptRanges", "internal/bytealg.MaxLen"], plainKeys := false, apart := false, laid := [("unicode/utf8.acceptRanges", laid_unicode_utf8_acceptRanges), ("unicode/utf8.first", laid_unicode_utf8_first)], narrowed := true }
def SlotsFindUptoSaid : Prop := slotsFindUptoRow.holds Tryd.pinned (OpenSpec.upto slotsFindSpec)

end Rows
end Go.Proofs.YtknncfpfhjnjpaaDoor
