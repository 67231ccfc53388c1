/-
  No cell of these rows narrows 'for every input' (looked for: loops, veiled, ifaces, maps, wideKeys, modest, calm, conditions, laid).
  DERIVED. THE GIVEN ROWS OF THIS SEAT. 3 by the template 'for every input the law returns true; each argument reads behind the call as it read before'; 0 by the template 'total and deterministic' (their statements: YtilleokmbhmieaaGreatTotals.lean).
  GIVEN WITH THE SEED: the statements are not yours to turn. If you find one false, say at which input.
  Laid BY PROGRAM, IN A SANDBOX (cutbox-rows.mjs): the forced cells as the released guide's own fill.sh prints them over the translation 488c0aab1b26d4c9… (all of the seat's roots in one cut). By AI agents, Wed Nov 11 2026. No macro, syntax, notation, axiom, sorry.
-/
import Derived.Test.YtilleokmbhmieaaGreatChecked
import GoSem.Claim
import GoSem.ClaimJoined
import GoSem.ClaimMapViews
import Derived.JoinedTies
import Derived.KernelRfl
namespace Go.Proofs.YtilleokmbhmieaaGreat
/- THE CELL 'sum', in the pinned program and in every row, IS THE sha256 OF THE DUMP (.gsa) THAT YtilleokmbhmieaaGreatProg.lean LOADS. Nothing in Lean hashes anything: it is a label: what it is worth is what the hold of that sum in a sandbox is worth. -/
noncomputable def Tryz.pinned : Pinned := { name := "ytilleokmbhmieaagreat", sum := "488c0aab1b26d4c9c6d5348d738bb7daf78387606783febfc5d3c41993f41d81", checked := Tryz.checked }
namespace Rows
def none {H : Type} : Left H := { results := [], args := [] }

/-- 'carpetbaglaw08.BlobRoom': WHATEVER THE INPUT: true; the input reads as it did. -/
def blobRoomSpec : ChangeSpec := { name := "blobRoom", fn := fun _ => fun
  | [d1, d2, d3, d4] => { results := [.lit (.bool true)], args := [d1, d2, d3, d4] }
  | _ => none }
def blobRoomRow : OpenClaim := { program := "ytilleokmbhmieaagreat", sum := "488c0aab1b26d4c9c6d5348d738bb7daf78387606783febfc5d3c41993f41d81", func := "carpetbag/carpetbaglaw08.BlobRoom", spec := "blobRoom", inPlace := ["internal/bytealg.MakeNoZero"], unfollowed := true, recurses := true, apart := false }
def BlobRoomSaid : Prop := blobRoomRow.holds Tryz.pinned (OpenSpec.ofChange blobRoomSpec)

/-- ITS FALSE NEIGHBOUR: 'it returns false'. Refute it at one input. -/
def blobRoomWrong : ChangeSpec := { name := "blobRoom", fn := fun _ => fun
  | [d1, d2, d3, d4] => { results := [.lit (.bool false)], args := [d1, d2, d3, d4] }
  | _ => none }
def BlobRoomWrongFalsely : Prop := blobRoomRow.holds Tryz.pinned (OpenSpec.ofChange blobRoomWrong)

/-- 'carpetbaglaw08.BlobOdd': WHATEVER THE INPUT: true; the input reads as it did. -/
def blobOddSpec : ChangeSpec := { name := "blobOdd", fn := fun _ => fun
  | [d1, d2, d3] => { results := [.lit (.bool true)], args := [d1, d2, d3] }
  | _ => none }
def blobOddRow : OpenClaim := { program := "ytilleokmbhmieaagreat", sum := "488c0aab1b26d4c9c6d5348d738bb7daf78387606783febfc5d3c41993f41d81", func := "carpetbag/carpetbaglaw08.BlobOdd", spec := "blobOdd", inPlace := ["internal/bytealg.MakeNoZero"], unfollowed := true, recurses := true, apart := false }
def BlobOddSaid : Prop := blobOddRow.holds Tryz.pinned (OpenSpec.ofChange blobOddSpec)

/-- ITS FALSE NEIGHBOUR: 'it returns false'. Refute it at one input. -/
def blobOddWrong : ChangeSpec := { name := "blobOdd", fn := fun _ => fun
  | [d1, d2, d3] => { results := [.lit (.bool false)], args := [d1, d2, d3] }
  | _ => none }
def BlobOddWrongFalsely : Prop := blobOddRow.holds Tryz.pinned (OpenSpec.ofChange blobOddWrong)

/-- 'carpetbaglaw08.BlobSectors': WHATEVER THE INPUT: true; the input reads as it did. -/
def blobSectorsSpec : ChangeSpec := { name := "blobSectors", fn := fun _ => fun
  | [d] => { results := [.lit (.bool true)], args := [d] }
  | _ => none }
def blobSectorsRow : OpenClaim := { program := "ytilleokmbhmieaagreat", sum := "488c0aab1b26d4c9c6d5348d738bb7daf78387606783febfc5d3c41993f41d81", func := "carpetbag/carpetbaglaw08.BlobSectors", spec := "blobSectors", inPlace := ["internal/bytealg.MakeNoZero"], unfollowed := true, recurses := true, apart := false }
def BlobSectorsSaid : Prop := blobSectorsRow.holds Tryz.pinned (OpenSpec.ofChange blobSectorsSpec)

/-- ITS FALSE NEIGHBOUR: 'it returns false'. Refute it at one input. -/
def blobSectorsWrong : ChangeSpec := { name := "blobSectors", fn := fun _ => fun
  | [d] => { results := [.lit (.bool false)], args := [d] }
  | _ => none }
def BlobSectorsWrongFalsely : Prop := blobSectorsRow.holds Tryz.pinned (OpenSpec.ofChange blobSectorsWrong)

/- THE SECOND FORM. 'bulk': how many values and letters a reading holds, each counted each time it is reached (what is shared counts as often as it is met; a slice's spare places count too). A statement '..UptoSaid' is the law's where the arguments, and the package variables that the reading takes, are together of bulk at most 1048576: NARROWER than '..Said'. Prove '..Said' where nothing that the law and all that it calls make is longer than what came in: it says more and counts as full. Else prove '..UptoSaid'. A law counts once. -/
mutual
def uptoBulk {H : Type} : DataW H → Nat
  | .lit (.string bytes) => bytes.length + 1
  | .lit _ => 1
  | .nil => 1
  | .ptr d => uptoBulk d + 1
  | .slice elems spare => uptoBulkAll elems + uptoBulkAll spare + 1
  | .agg parts => uptoBulkAll parts + 1
  | .iface _ d => uptoBulk d + 1
  | .map entries => uptoBulkEntries entries + 1
  | .held _ => 1
def uptoBulkAll {H : Type} : List (DataW H) → Nat
  | [] => 0
  | d :: r => uptoBulk d + uptoBulkAll r
def uptoBulkEntries {H : Type} : List (Lit × DataW H) → Nat
  | [] => 0
  | x :: r => uptoBulkEntry x + uptoBulkEntries r
def uptoBulkEntry {H : Type} : Lit × DataW H → Nat
  | (.string bytes, d) => bytes.length + uptoBulk d + 1
  | (_, d) => uptoBulk d + 1
 end
def uptoSmall : (H : Type) → List (DataW H) → Bool := fun _ ds => decide (uptoBulkAll ds ≤ 1048576)
def OpenSpec.upto (s : _root_.Go.ChangeSpec) : _root_.Go.OpenSpec := { _root_.Go.OpenSpec.ofChange s with cond := some uptoSmall }

/-- 'carpetbaglaw08.BlobRoom', WHERE WHAT IT READS IS OF BULK AT MOST 1048576: true; the input reads as it did. -/
def blobRoomUptoRow : OpenClaim := { program := "ytilleokmbhmieaagreat", sum := "488c0aab1b26d4c9c6d5348d738bb7daf78387606783febfc5d3c41993f41d81", func := "carpetbag/carpetbaglaw08.BlobRoom", spec := "blobRoom", inPlace := ["internal/bytealg.MakeNoZero"], unfollowed := true, recurses := true, apart := false, narrowed := true }
def BlobRoomUptoSaid : Prop := blobRoomUptoRow.holds Tryz.pinned (OpenSpec.upto blobRoomSpec)

/-- 'carpetbaglaw08.BlobOdd', WHERE WHAT IT READS IS OF BULK AT MOST 1048576: true; the input reads as it did. -/
def blobOddUptoRow : OpenClaim := { program := "ytilleokmbhmieaagreat", sum := "488c0aab1b26d4c9c6d5348d738bb7daf78387606783febfc5d3c41993f41d81", func := "carpetbag/carpetbaglaw08.BlobOdd", spec := "blobOdd", inPlace := ["internal/bytealg.MakeNoZero"], unfollowed := true, recurses := true, apart := false, narrowed := true }
def BlobOddUptoSaid : Prop := blobOddUptoRow.holds Tryz.pinned (OpenSpec.upto blobOddSpec)

/-- 'carpetbaglaw08.BlobSectors', WHERE WHAT IT READS IS OF BULK AT MOST 1048576: true; the input reads as it did. -/
def blobSectorsUptoRow : OpenClaim := { program := "ytilleokmbhmieaagreat", sum := "488c0aab1b26d4c9c6d5348d738bb7daf78387606783febfc5d3c41993f41d81", func := "carpetbag/carpetbaglaw08.BlobSectors", spec := "blobSectors", inPlace := ["internal/bytealg.MakeNoZero"], unfollowed := true, recurses := true, apart := false, narrowed := true }
def BlobSectorsUptoSaid : Prop := blobSectorsUptoRow.holds Tryz.pinned (OpenSpec.upto blobSectorsSpec)

end Rows
end Go.Proofs.YtilleokmbhmieaaGreat
