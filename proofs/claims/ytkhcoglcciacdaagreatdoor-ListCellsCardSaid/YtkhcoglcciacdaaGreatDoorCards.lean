/-
  DERIVED. GIVEN WITH THE SEED: THE CARDS: each row of YtkhcoglcciacdaaGreatDoorRows.lean that lists a variable, with what it lists TIED to the program's text (the seventh form; the later family's looks); each row that meets fmt, with fmt's text TOLD by the authors' own Lean function (tested against real Go, not proved from fmt's source: count such statements apart). THE CARD IS WHAT COUNTS. Prove the row's statement (the work); the ties are given (YtkhcoglcciacdaaGreatDoorTie.lean); close each card by the builder's one call (the guide's Derived/Test/ToyasCard.lean, 'card_holds'). Laid BY PROGRAM, IN A SANDBOX (cutbox-door.mjs). By AI agents, Wed Nov 11 2026. No macro, syntax, notation, axiom, sorry.
-/
import Derived.Test.YtkhcoglcciacdaaGreatDoorRows
import GoSem.ClaimSeven
namespace Go.Proofs.YtkhcoglcciacdaaGreatDoor
namespace Rows

/-- THE TIED CARD OF 'carpetbaglaw33.ListTables'. -/
def listTablesCard : Claim7 := { stood := { row := listTablesRow, standIns := [], harness := (true, "e10137f7cae4a8ff9469d17791bc0ed6cfdd974fbc2ed4e09189e745f4e94c19"), looks := true }, kinds := [], alts := [], laidByText := true, laidKinds := [.data, .data, .data, .data, .sentinel, .sentinel, .pinned], laidTests := true, laidLooks := .later }
def ListTablesCardSaid : Prop := Claim7.holds Tryz.pinned (.plain (OpenSpec.ofChange listTablesSpec)) listTablesCard

/-- THE TIED CARD OF 'carpetbaglaw33.ListNumbers'. -/
def listNumbersCard : Claim7 := { stood := { row := listNumbersRow, standIns := [], harness := (true, "e10137f7cae4a8ff9469d17791bc0ed6cfdd974fbc2ed4e09189e745f4e94c19"), looks := true }, kinds := [], alts := [], laidByText := true, laidKinds := [.data, .data, .data, .data, .sentinel, .sentinel, .pinned], laidTests := true, laidLooks := .later }
def ListNumbersCardSaid : Prop := Claim7.holds Tryz.pinned (.plain (OpenSpec.ofChange listNumbersSpec)) listNumbersCard

/-- THE TIED CARD OF 'carpetbaglaw33.ListCells'. -/
def listCellsCard : Claim7 := { stood := { row := listCellsRow, standIns := [], harness := (true, "e10137f7cae4a8ff9469d17791bc0ed6cfdd974fbc2ed4e09189e745f4e94c19"), looks := true }, kinds := [], alts := [], laidByText := true, laidKinds := [.data, .data, .data, .data, .sentinel, .sentinel, .pinned], laidTests := true, laidLooks := .later }
def ListCellsCardSaid : Prop := Claim7.holds Tryz.pinned (.plain (OpenSpec.ofChange listCellsSpec)) listCellsCard

/-- THE SECOND FORM's CARD OF 'carpetbaglaw33.ListTables'. -/
def listTablesUptoCard : Claim7 := { stood := { row := listTablesUptoRow, standIns := [], harness := (true, "e10137f7cae4a8ff9469d17791bc0ed6cfdd974fbc2ed4e09189e745f4e94c19"), looks := true }, kinds := [], alts := [], laidByText := true, laidKinds := [.data, .data, .data, .data, .sentinel, .sentinel, .pinned], laidTests := true, laidLooks := .later }
def ListTablesUptoCardSaid : Prop := Claim7.holds Tryz.pinned (.plain (OpenSpec.upto listTablesSpec)) listTablesUptoCard

/-- THE SECOND FORM's CARD OF 'carpetbaglaw33.ListNumbers'. -/
def listNumbersUptoCard : Claim7 := { stood := { row := listNumbersUptoRow, standIns := [], harness := (true, "e10137f7cae4a8ff9469d17791bc0ed6cfdd974fbc2ed4e09189e745f4e94c19"), looks := true }, kinds := [], alts := [], laidByText := true, laidKinds := [.data, .data, .data, .data, .sentinel, .sentinel, .pinned], laidTests := true, laidLooks := .later }
def ListNumbersUptoCardSaid : Prop := Claim7.holds Tryz.pinned (.plain (OpenSpec.upto listNumbersSpec)) listNumbersUptoCard

/-- THE SECOND FORM's CARD OF 'carpetbaglaw33.ListCells'. -/
def listCellsUptoCard : Claim7 := { stood := { row := listCellsUptoRow, standIns := [], harness := (true, "e10137f7cae4a8ff9469d17791bc0ed6cfdd974fbc2ed4e09189e745f4e94c19"), looks := true }, kinds := [], alts := [], laidByText := true, laidKinds := [.data, .data, .data, .data, .sentinel, .sentinel, .pinned], laidTests := true, laidLooks := .later }
def ListCellsUptoCardSaid : Prop := Claim7.holds Tryz.pinned (.plain (OpenSpec.upto listCellsSpec)) listCellsUptoCard
end Rows
end Go.Proofs.YtkhcoglcciacdaaGreatDoor
