/-
  DERIVED. GIVEN WITH THE SEED: THE CARDS: each row of YtnpknimahijmfaaDoorRows.lean that lists a variable, with what it lists TIED to the program's text (the seventh form; the later family's looks); each row that meets fmt, with fmt's text TOLD by the authors' own Lean function (tested against real Go, not proved from fmt's source: count such statements apart). THE CARD IS WHAT COUNTS. Prove the row's statement (the work); the ties are given (YtnpknimahijmfaaDoorTie.lean); close each card by the builder's one call (the guide's Derived/Test/ToyasCard.lean, 'card_holds'). Laid BY PROGRAM, IN A SANDBOX (cutbox-door.mjs). By AI agents, Wed Nov 11 2026. No macro, syntax, notation, axiom, sorry.
-/
import Derived.Test.YtnpknimahijmfaaDoorRows
import GoSem.ClaimSeven
namespace Go.Proofs.YtnpknimahijmfaaDoor
namespace Rows

/-- THE TIED CARD OF 'carpetbaglaw24.SlotsGrow'. -/
def slotsGrowCard : Claim7 := { stood := { row := slotsGrowRow, standIns := [], harness := (true, "77cd571cecb8ee27120e655b118d09d4d9a4712238f96f17383093dc76e55e33"), looks := false }, kinds := [], alts := [], laidByText := true, laidKinds := [.data, .pinned], laidTests := true, laidLooks := .later }
def SlotsGrowCardSaid : Prop := Claim7.holds Tryd.pinned (.plain (OpenSpec.ofChange slotsGrowSpec)) slotsGrowCard

/-- THE TIED CARD OF 'carpetbaglaw18.FlowShape'. -/
def flowShapeCard : Claim7 := { stood := { row := flowShapeRow, standIns := [], harness := (true, "77cd571cecb8ee27120e655b118d09d4d9a4712238f96f17383093dc76e55e33"), looks := false }, kinds := [], alts := [], laidByText := true, laidKinds := [.data, .pinned], laidTests := true, laidLooks := .later }
def FlowShapeCardSaid : Prop := Claim7.holds Tryd.pinned (.plain (OpenSpec.ofChange flowShapeSpec)) flowShapeCard

/-- THE TIED CARD OF 'carpetbaglaw18.FlowMade'. -/
def flowMadeCard : Claim7 := { stood := { row := flowMadeRow, standIns := [], harness := (true, "77cd571cecb8ee27120e655b118d09d4d9a4712238f96f17383093dc76e55e33"), looks := false }, kinds := [], alts := [], laidByText := true, laidKinds := [.data, .pinned], laidTests := true, laidLooks := .later }
def FlowMadeCardSaid : Prop := Claim7.holds Tryd.pinned (.plain (OpenSpec.ofChange flowMadeSpec)) flowMadeCard

/-- THE TIED CARD OF 'carpetbaglaw18.FlowGoes'. -/
def flowGoesCard : Claim7 := { stood := { row := flowGoesRow, standIns := [], harness := (true, "77cd571cecb8ee27120e655b118d09d4d9a4712238f96f17383093dc76e55e33"), looks := false }, kinds := [], alts := [], laidByText := true, laidKinds := [.data, .pinned], laidTests := true, laidLooks := .later }
def FlowGoesCardSaid : Prop := Claim7.holds Tryd.pinned (.plain (OpenSpec.ofChange flowGoesSpec)) flowGoesCard

/-- THE SECOND FORM's CARD OF 'carpetbaglaw24.SlotsGrow'. -/
def slotsGrowUptoCard : Claim7 := { stood := { row := slotsGrowUptoRow, standIns := [], harness := (true, "77cd571cecb8ee27120e655b118d09d4d9a4712238f96f17383093dc76e55e33"), looks := false }, kinds := [], alts := [], laidByText := true, laidKinds := [.data, .pinned], laidTests := true, laidLooks := .later }
def SlotsGrowUptoCardSaid : Prop := Claim7.holds Tryd.pinned (.plain (OpenSpec.upto slotsGrowSpec)) slotsGrowUptoCard

/-- THE SECOND FORM's CARD OF 'carpetbaglaw18.FlowShape'. -/
def flowShapeUptoCard : Claim7 := { stood := { row := flowShapeUptoRow, standIns := [], harness := (true, "77cd571cecb8ee27120e655b118d09d4d9a4712238f96f17383093dc76e55e33"), looks := false }, kinds := [], alts := [], laidByText := true, laidKinds := [.data, .pinned], laidTests := true, laidLooks := .later }
def FlowShapeUptoCardSaid : Prop := Claim7.holds Tryd.pinned (.plain (OpenSpec.upto flowShapeSpec)) flowShapeUptoCard

/-- THE SECOND FORM's CARD OF 'carpetbaglaw18.FlowMade'. -/
def flowMadeUptoCard : Claim7 := { stood := { row := flowMadeUptoRow, standIns := [], harness := (true, "77cd571cecb8ee27120e655b118d09d4d9a4712238f96f17383093dc76e55e33"), looks := false }, kinds := [], alts := [], laidByText := true, laidKinds := [.data, .pinned], laidTests := true, laidLooks := .later }
def FlowMadeUptoCardSaid : Prop := Claim7.holds Tryd.pinned (.plain (OpenSpec.upto flowMadeSpec)) flowMadeUptoCard

/-- THE SECOND FORM's CARD OF 'carpetbaglaw18.FlowGoes'. -/
def flowGoesUptoCard : Claim7 := { stood := { row := flowGoesUptoRow, standIns := [], harness := (true, "77cd571cecb8ee27120e655b118d09d4d9a4712238f96f17383093dc76e55e33"), looks := false }, kinds := [], alts := [], laidByText := true, laidKinds := [.data, .pinned], laidTests := true, laidLooks := .later }
def FlowGoesUptoCardSaid : Prop := Claim7.holds Tryd.pinned (.plain (OpenSpec.upto flowGoesSpec)) flowGoesUptoCard
end Rows
end Go.Proofs.YtnpknimahijmfaaDoor
