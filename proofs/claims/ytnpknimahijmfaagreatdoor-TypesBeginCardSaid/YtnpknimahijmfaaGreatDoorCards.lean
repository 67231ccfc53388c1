/-
  DERIVED. GIVEN WITH THE SEED: THE CARDS: each row of YtnpknimahijmfaaGreatDoorRows.lean that lists a variable, with what it lists TIED to the program's text (the seventh form; the later family's looks); each row that meets fmt, with fmt's text TOLD by the authors' own Lean function (tested against real Go, not proved from fmt's source: count such statements apart). THE CARD IS WHAT COUNTS. Prove the row's statement (the work); the ties are given (YtnpknimahijmfaaGreatDoorTie.lean); close each card by the builder's one call (the guide's Derived/Test/ToyasCard.lean, 'card_holds'). Laid BY PROGRAM, IN A SANDBOX (cutbox-door.mjs). By AI agents, Wed Nov 11 2026. No macro, syntax, notation, axiom, sorry.
-/
import Derived.Test.YtnpknimahijmfaaGreatDoorRows
import GoSem.ClaimSeven
namespace Go.Proofs.YtnpknimahijmfaaGreatDoor
namespace Rows

/-- THE TIED CARD OF 'carpetbaglaw24.SlotsLay'. -/
def slotsLayCard : Claim7 := { stood := { row := slotsLayRow, standIns := [], harness := (true, "7f85c6b1da46ddff56fa5c941c665303e34cf505fd9f5bcb829c011ac499596e"), looks := false }, kinds := [], alts := [], laidByText := true, laidKinds := [.data, .pinned], laidTests := true, laidLooks := .later }
def SlotsLayCardSaid : Prop := Claim7.holds Tryz.pinned (.plain (OpenSpec.ofChange slotsLaySpec)) slotsLayCard

/-- THE TIED CARD OF 'carpetbaglaw17.TypesBegin'. -/
def typesBeginCard : Claim7 := { stood := { row := typesBeginRow, standIns := [], harness := (true, "7f85c6b1da46ddff56fa5c941c665303e34cf505fd9f5bcb829c011ac499596e"), looks := false }, kinds := [], alts := [], laidByText := true, laidKinds := [.data, .pinned], laidTests := true, laidLooks := .later }
def TypesBeginCardSaid : Prop := Claim7.holds Tryz.pinned (.plain (OpenSpec.ofChange typesBeginSpec)) typesBeginCard

/-- THE TIED CARD OF 'carpetbaglaw17.TypesGo'. -/
def typesGoCard : Claim7 := { stood := { row := typesGoRow, standIns := [], harness := (true, "7f85c6b1da46ddff56fa5c941c665303e34cf505fd9f5bcb829c011ac499596e"), looks := false }, kinds := [], alts := [], laidByText := true, laidKinds := [.data, .pinned], laidTests := true, laidLooks := .later }
def TypesGoCardSaid : Prop := Claim7.holds Tryz.pinned (.plain (OpenSpec.ofChange typesGoSpec)) typesGoCard

/-- THE TIED CARD OF 'carpetbaglaw17.TypesOrder'. -/
def typesOrderCard : Claim7 := { stood := { row := typesOrderRow, standIns := [], harness := (true, "7f85c6b1da46ddff56fa5c941c665303e34cf505fd9f5bcb829c011ac499596e"), looks := false }, kinds := [], alts := [], laidByText := true, laidKinds := [.data, .pinned], laidTests := true, laidLooks := .later }
def TypesOrderCardSaid : Prop := Claim7.holds Tryz.pinned (.plain (OpenSpec.ofChange typesOrderSpec)) typesOrderCard

/-- THE TIED CARD OF 'carpetbaglaw17.TypesBack'. -/
def typesBackCard : Claim7 := { stood := { row := typesBackRow, standIns := [], harness := (true, "7f85c6b1da46ddff56fa5c941c665303e34cf505fd9f5bcb829c011ac499596e"), looks := false }, kinds := [], alts := [], laidByText := true, laidKinds := [.data, .pinned], laidTests := true, laidLooks := .later }
def TypesBackCardSaid : Prop := Claim7.holds Tryz.pinned (.plain (OpenSpec.ofChange typesBackSpec)) typesBackCard

/-- THE SECOND FORM's CARD OF 'carpetbaglaw24.SlotsLay'. -/
def slotsLayUptoCard : Claim7 := { stood := { row := slotsLayUptoRow, standIns := [], harness := (true, "7f85c6b1da46ddff56fa5c941c665303e34cf505fd9f5bcb829c011ac499596e"), looks := false }, kinds := [], alts := [], laidByText := true, laidKinds := [.data, .pinned], laidTests := true, laidLooks := .later }
def SlotsLayUptoCardSaid : Prop := Claim7.holds Tryz.pinned (.plain (OpenSpec.upto slotsLaySpec)) slotsLayUptoCard

/-- THE SECOND FORM's CARD OF 'carpetbaglaw17.TypesBegin'. -/
def typesBeginUptoCard : Claim7 := { stood := { row := typesBeginUptoRow, standIns := [], harness := (true, "7f85c6b1da46ddff56fa5c941c665303e34cf505fd9f5bcb829c011ac499596e"), looks := false }, kinds := [], alts := [], laidByText := true, laidKinds := [.data, .pinned], laidTests := true, laidLooks := .later }
def TypesBeginUptoCardSaid : Prop := Claim7.holds Tryz.pinned (.plain (OpenSpec.upto typesBeginSpec)) typesBeginUptoCard

/-- THE SECOND FORM's CARD OF 'carpetbaglaw17.TypesGo'. -/
def typesGoUptoCard : Claim7 := { stood := { row := typesGoUptoRow, standIns := [], harness := (true, "7f85c6b1da46ddff56fa5c941c665303e34cf505fd9f5bcb829c011ac499596e"), looks := false }, kinds := [], alts := [], laidByText := true, laidKinds := [.data, .pinned], laidTests := true, laidLooks := .later }
def TypesGoUptoCardSaid : Prop := Claim7.holds Tryz.pinned (.plain (OpenSpec.upto typesGoSpec)) typesGoUptoCard

/-- THE SECOND FORM's CARD OF 'carpetbaglaw17.TypesOrder'. -/
def typesOrderUptoCard : Claim7 := { stood := { row := typesOrderUptoRow, standIns := [], harness := (true, "7f85c6b1da46ddff56fa5c941c665303e34cf505fd9f5bcb829c011ac499596e"), looks := false }, kinds := [], alts := [], laidByText := true, laidKinds := [.data, .pinned], laidTests := true, laidLooks := .later }
def TypesOrderUptoCardSaid : Prop := Claim7.holds Tryz.pinned (.plain (OpenSpec.upto typesOrderSpec)) typesOrderUptoCard

/-- THE SECOND FORM's CARD OF 'carpetbaglaw17.TypesBack'. -/
def typesBackUptoCard : Claim7 := { stood := { row := typesBackUptoRow, standIns := [], harness := (true, "7f85c6b1da46ddff56fa5c941c665303e34cf505fd9f5bcb829c011ac499596e"), looks := false }, kinds := [], alts := [], laidByText := true, laidKinds := [.data, .pinned], laidTests := true, laidLooks := .later }
def TypesBackUptoCardSaid : Prop := Claim7.holds Tryz.pinned (.plain (OpenSpec.upto typesBackSpec)) typesBackUptoCard
end Rows
end Go.Proofs.YtnpknimahijmfaaGreatDoor
