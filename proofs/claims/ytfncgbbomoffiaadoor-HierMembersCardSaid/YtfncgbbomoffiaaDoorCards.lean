/-
  DERIVED. GIVEN WITH THE SEED: THE CARDS: each row of YtfncgbbomoffiaaDoorRows.lean that lists a variable, with what it lists TIED to the program's text (the seventh form; the later family's looks); each row that meets fmt, with fmt's text TOLD by the authors' own Lean function (tested against real Go, not proved from fmt's source: count such statements apart). THE CARD IS WHAT COUNTS. Prove the row's statement (the work); the ties are given (YtfncgbbomoffiaaDoorTie.lean); close each card by the builder's one call (the guide's Derived/Test/ToyasCard.lean, 'card_holds'). Laid BY PROGRAM, IN A SANDBOX (cutbox-door.mjs). By AI agents, Wed Nov 11 2026. No macro, syntax, notation, axiom, sorry.
-/
import Derived.Test.YtfncgbbomoffiaaDoorRows
import GoSem.ClaimSeven
namespace Go.Proofs.YtfncgbbomoffiaaDoor
namespace Rows

/-- THE TIED CARD OF 'carpetbaglaw16.HierOrder'. -/
def hierOrderCard : Claim7 := { stood := { row := hierOrderRow, standIns := [], harness := (true, "661e5a3caee12ae06ee4cb233977f3ea91a7590bf44ad6933ca4af794def4ffd"), looks := false }, kinds := [], alts := [], laidByText := true, laidKinds := [.data, .pinned], laidTests := true, laidLooks := .later }
def HierOrderCardSaid : Prop := Claim7.holds Tryd.pinned (.plain (OpenSpec.ofChange hierOrderSpec)) hierOrderCard

/-- THE TIED CARD OF 'carpetbaglaw16.HierCommon'. -/
def hierCommonCard : Claim7 := { stood := { row := hierCommonRow, standIns := [], harness := (true, "661e5a3caee12ae06ee4cb233977f3ea91a7590bf44ad6933ca4af794def4ffd"), looks := false }, kinds := [], alts := [], laidByText := true, laidKinds := [.data, .pinned], laidTests := true, laidLooks := .later }
def HierCommonCardSaid : Prop := Claim7.holds Tryd.pinned (.plain (OpenSpec.ofChange hierCommonSpec)) hierCommonCard

/-- THE TIED CARD OF 'carpetbaglaw16.HierMembers'. -/
def hierMembersCard : Claim7 := { stood := { row := hierMembersRow, standIns := [], harness := (true, "661e5a3caee12ae06ee4cb233977f3ea91a7590bf44ad6933ca4af794def4ffd"), looks := false }, kinds := [], alts := [], laidByText := true, laidKinds := [.data, .pinned], laidTests := true, laidLooks := .later }
def HierMembersCardSaid : Prop := Claim7.holds Tryd.pinned (.plain (OpenSpec.ofChange hierMembersSpec)) hierMembersCard

/-- THE SECOND FORM's CARD OF 'carpetbaglaw16.HierOrder'. -/
def hierOrderUptoCard : Claim7 := { stood := { row := hierOrderUptoRow, standIns := [], harness := (true, "661e5a3caee12ae06ee4cb233977f3ea91a7590bf44ad6933ca4af794def4ffd"), looks := false }, kinds := [], alts := [], laidByText := true, laidKinds := [.data, .pinned], laidTests := true, laidLooks := .later }
def HierOrderUptoCardSaid : Prop := Claim7.holds Tryd.pinned (.plain (OpenSpec.upto hierOrderSpec)) hierOrderUptoCard

/-- THE SECOND FORM's CARD OF 'carpetbaglaw16.HierCommon'. -/
def hierCommonUptoCard : Claim7 := { stood := { row := hierCommonUptoRow, standIns := [], harness := (true, "661e5a3caee12ae06ee4cb233977f3ea91a7590bf44ad6933ca4af794def4ffd"), looks := false }, kinds := [], alts := [], laidByText := true, laidKinds := [.data, .pinned], laidTests := true, laidLooks := .later }
def HierCommonUptoCardSaid : Prop := Claim7.holds Tryd.pinned (.plain (OpenSpec.upto hierCommonSpec)) hierCommonUptoCard

/-- THE SECOND FORM's CARD OF 'carpetbaglaw16.HierMembers'. -/
def hierMembersUptoCard : Claim7 := { stood := { row := hierMembersUptoRow, standIns := [], harness := (true, "661e5a3caee12ae06ee4cb233977f3ea91a7590bf44ad6933ca4af794def4ffd"), looks := false }, kinds := [], alts := [], laidByText := true, laidKinds := [.data, .pinned], laidTests := true, laidLooks := .later }
def HierMembersUptoCardSaid : Prop := Claim7.holds Tryd.pinned (.plain (OpenSpec.upto hierMembersSpec)) hierMembersUptoCard
end Rows
end Go.Proofs.YtfncgbbomoffiaaDoor
