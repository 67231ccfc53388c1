/-
  DERIVED. GIVEN WITH THE SEED: THE CARDS: each row of YtilleokmbhmieaaGreatDoorRows.lean that lists a variable, with what it lists TIED to the program's text (the seventh form; the later family's looks); each row that meets fmt, with fmt's text TOLD by the authors' own Lean function (tested against real Go, not proved from fmt's source: count such statements apart). THE CARD IS WHAT COUNTS. Prove the row's statement (the work); the ties are given (YtilleokmbhmieaaGreatDoorTie.lean); close each card by the builder's one call (the guide's Derived/Test/ToyasCard.lean, 'card_holds'). Laid BY PROGRAM, IN A SANDBOX (cutbox-door.mjs). By AI agents, Wed Nov 11 2026. No macro, syntax, notation, axiom, sorry.
-/
import Derived.Test.YtilleokmbhmieaaGreatDoorRows
import GoSem.ClaimSeven
namespace Go.Proofs.YtilleokmbhmieaaGreatDoor
namespace Rows

/-- THE TIED CARD OF 'carpetbaglaw28.NativesPrint'. -/
def nativesPrintCard : Claim7 := { stood := { row := nativesPrintRow, standIns := [], harness := (true, "04b861e59d0f02f70e28e3c9db1e319c734e41b9bfea44caac85633bca04910c"), looks := false }, kinds := [], alts := [], laidByText := true, laidKinds := [.data, .data, .data], laidTests := true, laidLooks := .later }
def NativesPrintCardSaid : Prop := Claim7.holds Tryz.pinned (.plain (OpenSpec.ofChange nativesPrintSpec)) nativesPrintCard

/-- THE TIED CARD OF 'carpetbaglaw28.NativesNames'. -/
def nativesNamesCard : Claim7 := { stood := { row := nativesNamesRow, standIns := [], harness := (true, "04b861e59d0f02f70e28e3c9db1e319c734e41b9bfea44caac85633bca04910c"), looks := false }, kinds := [], alts := [], laidByText := true, laidKinds := [.data, .data, .data], laidTests := true, laidLooks := .later }
def NativesNamesCardSaid : Prop := Claim7.holds Tryz.pinned (.plain (OpenSpec.ofChange nativesNamesSpec)) nativesNamesCard

/-- THE SECOND FORM's CARD OF 'carpetbaglaw28.NativesPrint'. -/
def nativesPrintUptoCard : Claim7 := { stood := { row := nativesPrintUptoRow, standIns := [], harness := (true, "04b861e59d0f02f70e28e3c9db1e319c734e41b9bfea44caac85633bca04910c"), looks := false }, kinds := [], alts := [], laidByText := true, laidKinds := [.data, .data, .data], laidTests := true, laidLooks := .later }
def NativesPrintUptoCardSaid : Prop := Claim7.holds Tryz.pinned (.plain (OpenSpec.upto nativesPrintSpec)) nativesPrintUptoCard

/-- THE SECOND FORM's CARD OF 'carpetbaglaw28.NativesNames'. -/
def nativesNamesUptoCard : Claim7 := { stood := { row := nativesNamesUptoRow, standIns := [], harness := (true, "04b861e59d0f02f70e28e3c9db1e319c734e41b9bfea44caac85633bca04910c"), looks := false }, kinds := [], alts := [], laidByText := true, laidKinds := [.data, .data, .data], laidTests := true, laidLooks := .later }
def NativesNamesUptoCardSaid : Prop := Claim7.holds Tryz.pinned (.plain (OpenSpec.upto nativesNamesSpec)) nativesNamesUptoCard
end Rows
end Go.Proofs.YtilleokmbhmieaaGreatDoor
