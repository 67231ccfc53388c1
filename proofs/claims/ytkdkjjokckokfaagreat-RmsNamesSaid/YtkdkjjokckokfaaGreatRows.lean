/-
  No cell of these rows narrows 'for every input' (looked for: loops, veiled, ifaces, maps, wideKeys, modest, calm, conditions, laid).
  DERIVED. THE GIVEN ROWS OF THIS SEAT. 2 by the template 'for every input the law returns true; each argument reads behind the call as it read before'; 0 by the template 'total and deterministic' (their statements: YtkdkjjokckokfaaGreatTotals.lean).
  GIVEN WITH THE SEED: the statements are not yours to turn. If you find one false, say at which input.
  Laid BY PROGRAM, IN A SANDBOX (cutbox-rows.mjs): the forced cells as the released guide's own fill.sh prints them over the translation 19ab7a86e9e0c4ff… (all of the seat's roots in one cut). By AI agents, Wed Nov 11 2026. No macro, syntax, notation, axiom, sorry.
-/
import Derived.Test.YtkdkjjokckokfaaGreatChecked
import GoSem.Claim
import GoSem.ClaimJoined
import GoSem.ClaimMapViews
import Derived.JoinedTies
import Derived.KernelRfl
namespace Go.Proofs.YtkdkjjokckokfaaGreat
/- THE CELL 'sum', in the pinned program and in every row, IS THE sha256 OF THE DUMP (.gsa) THAT YtkdkjjokckokfaaGreatProg.lean LOADS. Nothing in Lean hashes anything: it is a label: what it is worth is what the hold of that sum in a sandbox is worth. -/
noncomputable def Tryz.pinned : Pinned := { name := "ytkdkjjokckokfaagreat", sum := "19ab7a86e9e0c4ff3c7ee346d4259616a92edc7951a9cd1b36ee74d1afd6e13e", checked := Tryz.checked }
namespace Rows
def none {H : Type} : Left H := { results := [], args := [] }

/-- 'carpetbaglaw09.RmsNames': WHATEVER THE INPUT: true; the input reads as it did. -/
def rmsNamesSpec : ChangeSpec := { name := "rmsNames", fn := fun _ => fun
  | [d1, d2, d3] => { results := [.lit (.bool true)], args := [d1, d2, d3] }
  | _ => none }
def rmsNamesRow : OpenClaim := { program := "ytkdkjjokckokfaagreat", sum := "19ab7a86e9e0c4ff3c7ee346d4259616a92edc7951a9cd1b36ee74d1afd6e13e", func := "carpetbag/carpetbaglaw09.RmsNames", spec := "rmsNames", inPlace := ["internal/bytealg.MakeNoZero"], unfollowed := true, recurses := true, apart := false }
def RmsNamesSaid : Prop := rmsNamesRow.holds Tryz.pinned (OpenSpec.ofChange rmsNamesSpec)

/-- ITS FALSE NEIGHBOUR: 'it returns false'. Refute it at one input. -/
def rmsNamesWrong : ChangeSpec := { name := "rmsNames", fn := fun _ => fun
  | [d1, d2, d3] => { results := [.lit (.bool false)], args := [d1, d2, d3] }
  | _ => none }
def RmsNamesWrongFalsely : Prop := rmsNamesRow.holds Tryz.pinned (OpenSpec.ofChange rmsNamesWrong)

/-- 'carpetbaglaw09.RmsPlays': WHATEVER THE INPUT: true; the input reads as it did. -/
def rmsPlaysSpec : ChangeSpec := { name := "rmsPlays", fn := fun _ => fun
  | [d] => { results := [.lit (.bool true)], args := [d] }
  | _ => none }
def rmsPlaysRow : OpenClaim := { program := "ytkdkjjokckokfaagreat", sum := "19ab7a86e9e0c4ff3c7ee346d4259616a92edc7951a9cd1b36ee74d1afd6e13e", func := "carpetbag/carpetbaglaw09.RmsPlays", spec := "rmsPlays", inPlace := ["internal/bytealg.MakeNoZero"], unfollowed := true, recurses := true, apart := false }
def RmsPlaysSaid : Prop := rmsPlaysRow.holds Tryz.pinned (OpenSpec.ofChange rmsPlaysSpec)

/-- ITS FALSE NEIGHBOUR: 'it returns false'. Refute it at one input. -/
def rmsPlaysWrong : ChangeSpec := { name := "rmsPlays", fn := fun _ => fun
  | [d] => { results := [.lit (.bool false)], args := [d] }
  | _ => none }
def RmsPlaysWrongFalsely : Prop := rmsPlaysRow.holds Tryz.pinned (OpenSpec.ofChange rmsPlaysWrong)

/- THE SECOND FORM. 'bulk': how many values and letters a reading holds, each counted each time it is reached (what is shared counts as often as it is met; a slice's spare places count too). A statement '..UptoSaid' is the law's where the arguments, and the package variables that the reading takes, are together of bulk at most 1048576: NARROWER than '..Said'. Prove '..Said' where nothing that the law and all that it calls make is longer than what came in: it says more and counts as full. Else prove '..UptoSaid'. A law counts once. -/
mutual
def uptoBulk {H : Type} : DataW H → Nat
  | .lit (.string bytes) => bytes.length + 1
  | .lit _ => 1
  | .nil => 1
  | .ptr d => uptoBulk d + 1
  | .slice elems spare => uptoBulkAll elems + uptoBulkAll spare + 1
  | .agg parts => uptoBulkAll parts + 1
  | .iface _ d => uptoBulk d + 1
  | .map entries => uptoBulkEntries entries + 1
  | .held _ => 1
def uptoBulkAll {H : Type} : List (DataW H) → Nat
  | [] => 0
  | d :: r => uptoBulk d + uptoBulkAll r
def uptoBulkEntries {H : Type} : List (Lit × DataW H) → Nat
  | [] => 0
  | x :: r => uptoBulkEntry x + uptoBulkEntries r
def uptoBulkEntry {H : Type} : Lit × DataW H → Nat
  | (.string bytes, d) => bytes.length + uptoBulk d + 1
  | (_, d) => uptoBulk d + 1
 end
def uptoSmall : (H : Type) → List (DataW H) → Bool := fun _ ds => decide (uptoBulkAll ds ≤ 1048576)
def OpenSpec.upto (s : _root_.Go.ChangeSpec) : _root_.Go.OpenSpec := { _root_.Go.OpenSpec.ofChange s with cond := some uptoSmall }

/-- 'carpetbaglaw09.RmsNames', WHERE WHAT IT READS IS OF BULK AT MOST 1048576: true; the input reads as it did. -/
def rmsNamesUptoRow : OpenClaim := { program := "ytkdkjjokckokfaagreat", sum := "19ab7a86e9e0c4ff3c7ee346d4259616a92edc7951a9cd1b36ee74d1afd6e13e", func := "carpetbag/carpetbaglaw09.RmsNames", spec := "rmsNames", inPlace := ["internal/bytealg.MakeNoZero"], unfollowed := true, recurses := true, apart := false, narrowed := true }
def RmsNamesUptoSaid : Prop := rmsNamesUptoRow.holds Tryz.pinned (OpenSpec.upto rmsNamesSpec)

/-- 'carpetbaglaw09.RmsPlays', WHERE WHAT IT READS IS OF BULK AT MOST 1048576: true; the input reads as it did. -/
def rmsPlaysUptoRow : OpenClaim := { program := "ytkdkjjokckokfaagreat", sum := "19ab7a86e9e0c4ff3c7ee346d4259616a92edc7951a9cd1b36ee74d1afd6e13e", func := "carpetbag/carpetbaglaw09.RmsPlays", spec := "rmsPlays", inPlace := ["internal/bytealg.MakeNoZero"], unfollowed := true, recurses := true, apart := false, narrowed := true }
def RmsPlaysUptoSaid : Prop := rmsPlaysUptoRow.holds Tryz.pinned (OpenSpec.upto rmsPlaysSpec)

end Rows
end Go.Proofs.YtkdkjjokckokfaaGreat
