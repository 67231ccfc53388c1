/-
  DERIVED. GIVEN WITH THE SEED: THE CARDS: each row of YtjmnbfijplhkfaaDoorRows.lean that lists a variable, with what it lists TIED to the program's text (the seventh form; the later family's looks); each row that meets fmt, with fmt's text TOLD by the authors' own Lean function (tested against real Go, not proved from fmt's source: count such statements apart). THE CARD IS WHAT COUNTS. Prove the row's statement (the work); the ties are given (YtjmnbfijplhkfaaDoorTie.lean); close each card by the builder's one call (the guide's Derived/Test/ToyasCard.lean, 'card_holds'). Laid BY PROGRAM, IN A SANDBOX (cutbox-door.mjs). By AI agents, Wed Nov 11 2026. No macro, syntax, notation, axiom, sorry.
-/
import Derived.Test.YtjmnbfijplhkfaaDoorRows
import GoSem.ClaimSeven
namespace Go.Proofs.YtjmnbfijplhkfaaDoor
namespace Rows

/-- THE TIED CARD OF 'carpetbaglaw24.SlotsGrow'. -/
def slotsGrowCard : Claim7 := { stood := { row := slotsGrowRow, standIns := [], harness := (true, "31ce86936cca1b218a40150e44b55be81d5d2631bafae149f81cc49e94f29faf"), looks := false }, kinds := [], alts := [], laidByText := true, laidKinds := [.data, .pinned], laidTests := true, laidLooks := .later }
def SlotsGrowCardSaid : Prop := Claim7.holds Tryd.pinned (.plain (OpenSpec.ofChange slotsGrowSpec)) slotsGrowCard

/-- THE TIED CARD OF 'carpetbaglaw18.FlowMade'. -/
def flowMadeCard : Claim7 := { stood := { row := flowMadeRow, standIns := [], harness := (true, "31ce86936cca1b218a40150e44b55be81d5d2631bafae149f81cc49e94f29faf"), looks := false }, kinds := [], alts := [], laidByText := true, laidKinds := [.data, .pinned], laidTests := true, laidLooks := .later }
def FlowMadeCardSaid : Prop := Claim7.holds Tryd.pinned (.plain (OpenSpec.ofChange flowMadeSpec)) flowMadeCard

/-- THE TIED CARD OF 'carpetbaglaw18.FlowGoes'. -/
def flowGoesCard : Claim7 := { stood := { row := flowGoesRow, standIns := [], harness := (true, "31ce86936cca1b218a40150e44b55be81d5d2631bafae149f81cc49e94f29faf"), looks := false }, kinds := [], alts := [], laidByText := true, laidKinds := [.data, .pinned], laidTests := true, laidLooks := .later }
def FlowGoesCardSaid : Prop := Claim7.holds Tryd.pinned (.plain (OpenSpec.ofChange flowGoesSpec)) flowGoesCard

/-- THE SECOND FORM's CARD OF 'carpetbaglaw24.SlotsGrow'. -/
def slotsGrowUptoCard : Claim7 := { stood := { row := slotsGrowUptoRow, standIns := [], harness := (true, "31ce86936cca1b218a40150e44b55be81d5d2631bafae149f81cc49e94f29faf"), looks := false }, kinds := [], alts := [], laidByText := true, laidKinds := [.data, .pinned], laidTests := true, laidLooks := .later }
def SlotsGrowUptoCardSaid : Prop := Claim7.holds Tryd.pinned (.plain (OpenSpec.upto slotsGrowSpec)) slotsGrowUptoCard

/-- THE SECOND FORM's CARD OF 'carpetbaglaw18.FlowMade'. -/
def flowMadeUptoCard : Claim7 := { stood := { row := flowMadeUptoRow, standIns := [], harness := (true, "31ce86936cca1b218a40150e44b55be81d5d2631bafae149f81cc49e94f29faf"), looks := false }, kinds := [], alts := [], laidByText := true, laidKinds := [.data, .pinned], laidTests := true, laidLooks := .later }
def FlowMadeUptoCardSaid : Prop := Claim7.holds Tryd.pinned (.plain (OpenSpec.upto flowMadeSpec)) flowMadeUptoCard

/-- THE SECOND FORM's CARD OF 'carpetbaglaw18.FlowGoes'. -/
def flowGoesUptoCard : Claim7 := { stood := { row := flowGoesUptoRow, standIns := [], harness := (true, "31ce86936cca1b218a40150e44b55be81d5d2631bafae149f81cc49e94f29faf"), looks := false }, kinds := [], alts := [], laidByText := true, laidKinds := [.data, .pinned], laidTests := true, laidLooks := .later }
def FlowGoesUptoCardSaid : Prop := Claim7.holds Tryd.pinned (.plain (OpenSpec.upto flowGoesSpec)) flowGoesUptoCard
end Rows
end Go.Proofs.YtjmnbfijplhkfaaDoor
