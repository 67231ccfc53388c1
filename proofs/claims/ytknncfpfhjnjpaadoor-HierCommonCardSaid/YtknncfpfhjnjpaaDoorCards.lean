/-
  DERIVED. GIVEN WITH THE SEED: THE CARDS: each row of YtknncfpfhjnjpaaDoorRows.lean that lists a variable, with what it lists TIED to the program's text (the seventh form; the later family's looks); each row that meets fmt, with fmt's text TOLD by the authors' own Lean function (tested against real Go, not proved from fmt's source: count such statements apart). THE CARD IS WHAT COUNTS. Prove the row's statement (the work); the ties are given (YtknncfpfhjnjpaaDoorTie.lean); close each card by the builder's one call (the guide's Derived/Test/ToyasCard.lean, 'card_holds'). Laid BY PROGRAM, IN A SANDBOX (cutbox-door.mjs). By AI agents, Wed Nov 11 2026. No macro, syntax, notation, axiom, sorry.
-/
import Derived.Test.YtknncfpfhjnjpaaDoorRows
import GoSem.ClaimSeven
namespace Go.Proofs.YtknncfpfhjnjpaaDoor
namespace Rows

/-- THE TIED CARD OF 'carpetbaglaw16.HierOrder'. -/
def hierOrderCard : Claim7 := { stood := { row := hierOrderRow, standIns := [], harness := (true, "c279b68b0586e4f22f43f7eb896e1df96c93af1bb0358665f790fc996fd9fe40"), looks := false }, kinds := [], alts := [], laidByText := true, laidKinds := [.data, .pinned], laidTests := true, laidLooks := .later }
def HierOrderCardSaid : Prop := Claim7.holds Tryd.pinned (.plain (OpenSpec.ofChange hierOrderSpec)) hierOrderCard

/-- THE TIED CARD OF 'carpetbaglaw16.HierCommon'. -/
def hierCommonCard : Claim7 := { stood := { row := hierCommonRow, standIns := [], harness := (true, "c279b68b0586e4f22f43f7eb896e1df96c93af1bb0358665f790fc996fd9fe40"), looks := false }, kinds := [], alts := [], laidByText := true, laidKinds := [.data, .pinned], laidTests := true, laidLooks := .later }
def HierCommonCardSaid : Prop := Claim7.holds Tryd.pinned (.plain (OpenSpec.ofChange hierCommonSpec)) hierCommonCard

/-- THE TIED CARD OF 'carpetbaglaw24.SlotsGrow'. -/
def slotsGrowCard : Claim7 := { stood := { row := slotsGrowRow, standIns := [], harness := (true, "c279b68b0586e4f22f43f7eb896e1df96c93af1bb0358665f790fc996fd9fe40"), looks := false }, kinds := [], alts := [], laidByText := true, laidKinds := [.data, .pinned], laidTests := true, laidLooks := .later }
def SlotsGrowCardSaid : Prop := Claim7.holds Tryd.pinned (.plain (OpenSpec.ofChange slotsGrowSpec)) slotsGrowCard

/-- THE TIED CARD OF 'carpetbaglaw24.SlotsFind'. -/
def slotsFindCard : Claim7 := { stood := { row := slotsFindRow, standIns := [], harness := (true, "c279b68b0586e4f22f43f7eb896e1df96c93af1bb0358665f790fc996fd9fe40"), looks := false }, kinds := [], alts := [], laidByText := true, laidKinds := [.data, .pinned], laidTests := true, laidLooks := .later }
def SlotsFindCardSaid : Prop := Claim7.holds Tryd.pinned (.plain (OpenSpec.ofChange slotsFindSpec)) slotsFindCard

/-- THE SECOND FORM's CARD OF 'carpetbaglaw16.HierOrder'. -/
def hierOrderUptoCard : Claim7 := { stood := { row := hierOrderUptoRow, standIns := [], harness := (true, "c279b68b0586e4f22f43f7eb896e1df96c93af1bb0358665f790fc996fd9fe40"), looks := false }, kinds := [], alts := [], laidByText := true, laidKinds := [.data, .pinned], laidTests := true, laidLooks := .later }
def HierOrderUptoCardSaid : Prop := Claim7.holds Tryd.pinned (.plain (OpenSpec.upto hierOrderSpec)) hierOrderUptoCard

/-- THE SECOND FORM's CARD OF 'carpetbaglaw16.HierCommon'. -/
def hierCommonUptoCard : Claim7 := { stood := { row := hierCommonUptoRow, standIns := [], harness := (true, "c279b68b0586e4f22f43f7eb896e1df96c93af1bb0358665f790fc996fd9fe40"), looks := false }, kinds := [], alts := [], laidByText := true, laidKinds := [.data, .pinned], laidTests := true, laidLooks := .later }
def HierCommonUptoCardSaid : Prop := Claim7.holds Tryd.pinned (.plain (OpenSpec.upto hierCommonSpec)) hierCommonUptoCard

/-- THE SECOND FORM's CARD OF 'carpetbaglaw24.SlotsGrow'. -/
def slotsGrowUptoCard : Claim7 := { stood := { row := slotsGrowUptoRow, standIns := [], harness := (true, "c279b68b0586e4f22f43f7eb896e1df96c93af1bb0358665f790fc996fd9fe40"), looks := false }, kinds := [], alts := [], laidByText := true, laidKinds := [.data, .pinned], laidTests := true, laidLooks := .later }
def SlotsGrowUptoCardSaid : Prop := Claim7.holds Tryd.pinned (.plain (OpenSpec.upto slotsGrowSpec)) slotsGrowUptoCard

/-- THE SECOND FORM's CARD OF 'carpetbaglaw24.SlotsFind'. -/
def slotsFindUptoCard : Claim7 := { stood := { row := slotsFindUptoRow, standIns := [], harness := (true, "c279b68b0586e4f22f43f7eb896e1df96c93af1bb0358665f790fc996fd9fe40"), looks := false }, kinds := [], alts := [], laidByText := true, laidKinds := [.data, .pinned], laidTests := true, laidLooks := .later }
def SlotsFindUptoCardSaid : Prop := Claim7.holds Tryd.pinned (.plain (OpenSpec.upto slotsFindSpec)) slotsFindUptoCard
end Rows
end Go.Proofs.YtknncfpfhjnjpaaDoor
