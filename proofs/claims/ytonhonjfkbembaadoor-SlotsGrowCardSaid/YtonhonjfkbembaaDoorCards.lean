/-
  DERIVED. GIVEN WITH THE SEED: THE CARDS: each row of YtonhonjfkbembaaDoorRows.lean that lists a variable, with what it lists TIED to the program's text (the seventh form; the later family's looks); each row that meets fmt, with fmt's text TOLD by the authors' own Lean function (tested against real Go, not proved from fmt's source: count such statements apart). THE CARD IS WHAT COUNTS. Prove the row's statement (the work); the ties are given (YtonhonjfkbembaaDoorTie.lean); close each card by the builder's one call (the guide's Derived/Test/ToyasCard.lean, 'card_holds'). Laid BY PROGRAM, IN A SANDBOX (cutbox-door.mjs). By AI agents, Wed Nov 11 2026. No macro, syntax, notation, axiom, sorry.
-/
import Derived.Test.YtonhonjfkbembaaDoorRows
import GoSem.ClaimSeven
namespace Go.Proofs.YtonhonjfkbembaaDoor
namespace Rows

/-- THE TIED CARD OF 'carpetbaglaw24.SlotsGrow'. -/
def slotsGrowCard : Claim7 := { stood := { row := slotsGrowRow, standIns := [], harness := (true, "0516d919d3fbc83e380047be9a7585742bf0a788e2a36a004126ecb06c3cdd3e"), looks := false }, kinds := [], alts := [], laidByText := true, laidKinds := [.data, .pinned], laidTests := true, laidLooks := .later }
def SlotsGrowCardSaid : Prop := Claim7.holds Tryd.pinned (.plain (OpenSpec.ofChange slotsGrowSpec)) slotsGrowCard

/-- THE SECOND FORM's CARD OF 'carpetbaglaw24.SlotsGrow'. -/
def slotsGrowUptoCard : Claim7 := { stood := { row := slotsGrowUptoRow, standIns := [], harness := (true, "0516d919d3fbc83e380047be9a7585742bf0a788e2a36a004126ecb06c3cdd3e"), looks := false }, kinds := [], alts := [], laidByText := true, laidKinds := [.data, .pinned], laidTests := true, laidLooks := .later }
def SlotsGrowUptoCardSaid : Prop := Claim7.holds Tryd.pinned (.plain (OpenSpec.upto slotsGrowSpec)) slotsGrowUptoCard
end Rows
end Go.Proofs.YtonhonjfkbembaaDoor
