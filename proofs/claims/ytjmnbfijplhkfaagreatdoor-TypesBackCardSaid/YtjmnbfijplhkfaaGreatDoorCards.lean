/-
  DERIVED. GIVEN WITH THE SEED: THE CARDS: each row of YtjmnbfijplhkfaaGreatDoorRows.lean that lists a variable, with what it lists TIED to the program's text (the seventh form; the later family's looks); each row that meets fmt, with fmt's text TOLD by the authors' own Lean function (tested against real Go, not proved from fmt's source: count such statements apart). THE CARD IS WHAT COUNTS. Prove the row's statement (the work); the ties are given (YtjmnbfijplhkfaaGreatDoorTie.lean); close each card by the builder's one call (the guide's Derived/Test/ToyasCard.lean, 'card_holds'). Laid BY PROGRAM, IN A SANDBOX (cutbox-door.mjs). By AI agents, Wed Nov 11 2026. No macro, syntax, notation, axiom, sorry.
-/
import Derived.Test.YtjmnbfijplhkfaaGreatDoorRows
import GoSem.ClaimSeven
namespace Go.Proofs.YtjmnbfijplhkfaaGreatDoor
namespace Rows

/-- THE TIED CARD OF 'carpetbaglaw24.SlotsLay'. -/
def slotsLayCard : Claim7 := { stood := { row := slotsLayRow, standIns := [], harness := (true, "76cff29f61da7df90393b0f3e2e1ffb3d39ecb5882a13ceaf7f6c57637fb5a25"), looks := false }, kinds := [], alts := [], laidByText := true, laidKinds := [.data, .pinned], laidTests := true, laidLooks := .later }
def SlotsLayCardSaid : Prop := Claim7.holds Tryz.pinned (.plain (OpenSpec.ofChange slotsLaySpec)) slotsLayCard

/-- THE TIED CARD OF 'carpetbaglaw17.TypesBack'. -/
def typesBackCard : Claim7 := { stood := { row := typesBackRow, standIns := [], harness := (true, "76cff29f61da7df90393b0f3e2e1ffb3d39ecb5882a13ceaf7f6c57637fb5a25"), looks := false }, kinds := [], alts := [], laidByText := true, laidKinds := [.data, .pinned], laidTests := true, laidLooks := .later }
def TypesBackCardSaid : Prop := Claim7.holds Tryz.pinned (.plain (OpenSpec.ofChange typesBackSpec)) typesBackCard

/-- THE TIED CARD OF 'carpetbaglaw19.VerifyAll'. -/
def verifyAllCard : Claim7 := { stood := { row := verifyAllRow, standIns := [], harness := (true, "76cff29f61da7df90393b0f3e2e1ffb3d39ecb5882a13ceaf7f6c57637fb5a25"), looks := false }, kinds := [], alts := [], laidByText := true, laidKinds := [.data, .pinned], laidTests := true, laidLooks := .later }
def VerifyAllCardSaid : Prop := Claim7.holds Tryz.pinned (.plain (OpenSpec.ofChange verifyAllSpec)) verifyAllCard

/-- THE TIED CARD OF 'carpetbaglaw19.VerifyMade'. -/
def verifyMadeCard : Claim7 := { stood := { row := verifyMadeRow, standIns := [], harness := (true, "76cff29f61da7df90393b0f3e2e1ffb3d39ecb5882a13ceaf7f6c57637fb5a25"), looks := false }, kinds := [], alts := [], laidByText := true, laidKinds := [.data, .pinned], laidTests := true, laidLooks := .later }
def VerifyMadeCardSaid : Prop := Claim7.holds Tryz.pinned (.plain (OpenSpec.ofChange verifyMadeSpec)) verifyMadeCard

/-- THE TIED CARD OF 'carpetbaglaw19.VerifyMore'. -/
def verifyMoreCard : Claim7 := { stood := { row := verifyMoreRow, standIns := [], harness := (true, "76cff29f61da7df90393b0f3e2e1ffb3d39ecb5882a13ceaf7f6c57637fb5a25"), looks := false }, kinds := [], alts := [], laidByText := true, laidKinds := [.data, .pinned], laidTests := true, laidLooks := .later }
def VerifyMoreCardSaid : Prop := Claim7.holds Tryz.pinned (.plain (OpenSpec.ofChange verifyMoreSpec)) verifyMoreCard

/-- THE SECOND FORM's CARD OF 'carpetbaglaw24.SlotsLay'. -/
def slotsLayUptoCard : Claim7 := { stood := { row := slotsLayUptoRow, standIns := [], harness := (true, "76cff29f61da7df90393b0f3e2e1ffb3d39ecb5882a13ceaf7f6c57637fb5a25"), looks := false }, kinds := [], alts := [], laidByText := true, laidKinds := [.data, .pinned], laidTests := true, laidLooks := .later }
def SlotsLayUptoCardSaid : Prop := Claim7.holds Tryz.pinned (.plain (OpenSpec.upto slotsLaySpec)) slotsLayUptoCard

/-- THE SECOND FORM's CARD OF 'carpetbaglaw17.TypesBack'. -/
def typesBackUptoCard : Claim7 := { stood := { row := typesBackUptoRow, standIns := [], harness := (true, "76cff29f61da7df90393b0f3e2e1ffb3d39ecb5882a13ceaf7f6c57637fb5a25"), looks := false }, kinds := [], alts := [], laidByText := true, laidKinds := [.data, .pinned], laidTests := true, laidLooks := .later }
def TypesBackUptoCardSaid : Prop := Claim7.holds Tryz.pinned (.plain (OpenSpec.upto typesBackSpec)) typesBackUptoCard

/-- THE SECOND FORM's CARD OF 'carpetbaglaw19.VerifyAll'. -/
def verifyAllUptoCard : Claim7 := { stood := { row := verifyAllUptoRow, standIns := [], harness := (true, "76cff29f61da7df90393b0f3e2e1ffb3d39ecb5882a13ceaf7f6c57637fb5a25"), looks := false }, kinds := [], alts := [], laidByText := true, laidKinds := [.data, .pinned], laidTests := true, laidLooks := .later }
def VerifyAllUptoCardSaid : Prop := Claim7.holds Tryz.pinned (.plain (OpenSpec.upto verifyAllSpec)) verifyAllUptoCard

/-- THE SECOND FORM's CARD OF 'carpetbaglaw19.VerifyMade'. -/
def verifyMadeUptoCard : Claim7 := { stood := { row := verifyMadeUptoRow, standIns := [], harness := (true, "76cff29f61da7df90393b0f3e2e1ffb3d39ecb5882a13ceaf7f6c57637fb5a25"), looks := false }, kinds := [], alts := [], laidByText := true, laidKinds := [.data, .pinned], laidTests := true, laidLooks := .later }
def VerifyMadeUptoCardSaid : Prop := Claim7.holds Tryz.pinned (.plain (OpenSpec.upto verifyMadeSpec)) verifyMadeUptoCard

/-- THE SECOND FORM's CARD OF 'carpetbaglaw19.VerifyMore'. -/
def verifyMoreUptoCard : Claim7 := { stood := { row := verifyMoreUptoRow, standIns := [], harness := (true, "76cff29f61da7df90393b0f3e2e1ffb3d39ecb5882a13ceaf7f6c57637fb5a25"), looks := false }, kinds := [], alts := [], laidByText := true, laidKinds := [.data, .pinned], laidTests := true, laidLooks := .later }
def VerifyMoreUptoCardSaid : Prop := Claim7.holds Tryz.pinned (.plain (OpenSpec.upto verifyMoreSpec)) verifyMoreUptoCard
end Rows
end Go.Proofs.YtjmnbfijplhkfaaGreatDoor
