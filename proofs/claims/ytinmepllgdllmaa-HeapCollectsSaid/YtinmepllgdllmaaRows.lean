/-
  No cell of these rows narrows 'for every input' (looked for: loops, veiled, ifaces, maps, wideKeys, modest, calm, conditions, laid).
  DERIVED. THE GIVEN ROWS OF THIS SEAT. 4 by the template 'for every input the law returns true; each argument reads behind the call as it read before'; 0 by the template 'total and deterministic' (their statements: YtinmepllgdllmaaTotals.lean).
  GIVEN WITH THE SEED: the statements are not yours to turn. If you find one false, say at which input.
  Laid BY PROGRAM, IN A SANDBOX (cutbox-rows.mjs): the forced cells as the released guide's own fill.sh prints them over the translation 915de718b0567abb… (all of the seat's roots in one cut). By AI agents, Wed Nov 11 2026. No macro, syntax, notation, axiom, sorry.
-/
import Derived.Test.YtinmepllgdllmaaChecked
import GoSem.Claim
import GoSem.ClaimJoined
import GoSem.ClaimMapViews
import Derived.JoinedTies
import Derived.KernelRfl
namespace Go.Proofs.Ytinmepllgdllmaa
/- THE CELL 'sum', in the pinned program and in every row, IS THE sha256 OF THE DUMP (.gsa) THAT YtinmepllgdllmaaProg.lean LOADS. Nothing in Lean hashes anything: it is a label: what it is worth is what the hold of that sum in a sandbox is worth. -/
noncomputable def Try.pinned : Pinned := { name := "ytinmepllgdllmaa", sum := "915de718b0567abb097e4af4d2c872734bb1187bdd4523949ede83a82e5d8231", checked := Try.checked }
namespace Rows
def none {H : Type} : Left H := { results := [], args := [] }

/-- 'carpetbaglaw27.HeapCollects': WHATEVER THE INPUT: true; the input reads as it did. -/
def heapCollectsSpec : ChangeSpec := { name := "heapCollects", fn := fun _ => fun
  | [d1, d2, d3] => { results := [.lit (.bool true)], args := [d1, d2, d3] }
  | _ => none }
def heapCollectsRow : OpenClaim := { program := "ytinmepllgdllmaa", sum := "915de718b0567abb097e4af4d2c872734bb1187bdd4523949ede83a82e5d8231", func := "carpetbag/carpetbaglaw27.HeapCollects", spec := "heapCollects", unfollowed := true, recurses := true, apart := false }
def HeapCollectsSaid : Prop := heapCollectsRow.holds Try.pinned (OpenSpec.ofChange heapCollectsSpec)

/-- ITS FALSE NEIGHBOUR: 'it returns false'. Refute it at one input. -/
def heapCollectsWrong : ChangeSpec := { name := "heapCollects", fn := fun _ => fun
  | [d1, d2, d3] => { results := [.lit (.bool false)], args := [d1, d2, d3] }
  | _ => none }
def HeapCollectsWrongFalsely : Prop := heapCollectsRow.holds Try.pinned (OpenSpec.ofChange heapCollectsWrong)

/-- 'carpetbaglaw27.HeapPlays': WHATEVER THE INPUT: true; the input reads as it did. -/
def heapPlaysSpec : ChangeSpec := { name := "heapPlays", fn := fun _ => fun
  | [d1, d2] => { results := [.lit (.bool true)], args := [d1, d2] }
  | _ => none }
def heapPlaysRow : OpenClaim := { program := "ytinmepllgdllmaa", sum := "915de718b0567abb097e4af4d2c872734bb1187bdd4523949ede83a82e5d8231", func := "carpetbag/carpetbaglaw27.HeapPlays", spec := "heapPlays", unfollowed := true, recurses := true, apart := false }
def HeapPlaysSaid : Prop := heapPlaysRow.holds Try.pinned (OpenSpec.ofChange heapPlaysSpec)

/-- ITS FALSE NEIGHBOUR: 'it returns false'. Refute it at one input. -/
def heapPlaysWrong : ChangeSpec := { name := "heapPlays", fn := fun _ => fun
  | [d1, d2] => { results := [.lit (.bool false)], args := [d1, d2] }
  | _ => none }
def HeapPlaysWrongFalsely : Prop := heapPlaysRow.holds Try.pinned (OpenSpec.ofChange heapPlaysWrong)

/-- 'carpetbaglaw27.HeapKeeps': WHATEVER THE INPUT: true; the input reads as it did. -/
def heapKeepsSpec : ChangeSpec := { name := "heapKeeps", fn := fun _ => fun
  | [d1, d2] => { results := [.lit (.bool true)], args := [d1, d2] }
  | _ => none }
def heapKeepsRow : OpenClaim := { program := "ytinmepllgdllmaa", sum := "915de718b0567abb097e4af4d2c872734bb1187bdd4523949ede83a82e5d8231", func := "carpetbag/carpetbaglaw27.HeapKeeps", spec := "heapKeeps", unfollowed := true, recurses := true, apart := false }
def HeapKeepsSaid : Prop := heapKeepsRow.holds Try.pinned (OpenSpec.ofChange heapKeepsSpec)

/-- ITS FALSE NEIGHBOUR: 'it returns false'. Refute it at one input. -/
def heapKeepsWrong : ChangeSpec := { name := "heapKeeps", fn := fun _ => fun
  | [d1, d2] => { results := [.lit (.bool false)], args := [d1, d2] }
  | _ => none }
def HeapKeepsWrongFalsely : Prop := heapKeepsRow.holds Try.pinned (OpenSpec.ofChange heapKeepsWrong)

/-- 'carpetbaglaw27.HeapOdd': WHATEVER THE INPUT: true; the input reads as it did. -/
def heapOddSpec : ChangeSpec := { name := "heapOdd", fn := fun _ => fun
  | [d1, d2, d3, d4, d5, d6] => { results := [.lit (.bool true)], args := [d1, d2, d3, d4, d5, d6] }
  | _ => none }
def heapOddRow : OpenClaim := { program := "ytinmepllgdllmaa", sum := "915de718b0567abb097e4af4d2c872734bb1187bdd4523949ede83a82e5d8231", func := "carpetbag/carpetbaglaw27.HeapOdd", spec := "heapOdd", unfollowed := true, recurses := true, apart := false }
def HeapOddSaid : Prop := heapOddRow.holds Try.pinned (OpenSpec.ofChange heapOddSpec)

/-- ITS FALSE NEIGHBOUR: 'it returns false'. Refute it at one input. -/
def heapOddWrong : ChangeSpec := { name := "heapOdd", fn := fun _ => fun
  | [d1, d2, d3, d4, d5, d6] => { results := [.lit (.bool false)], args := [d1, d2, d3, d4, d5, d6] }
  | _ => none }
def HeapOddWrongFalsely : Prop := heapOddRow.holds Try.pinned (OpenSpec.ofChange heapOddWrong)

/- THE SECOND FORM. 'bulk': how many values and letters a reading holds, each counted each time it is reached (what is shared counts as often as it is met; a slice's spare places count too). A statement '..UptoSaid' is the law's where the arguments, and the package variables that the reading takes, are together of bulk at most 1048576: NARROWER than '..Said'. Prove '..Said' where nothing that the law and all that it calls make is longer than what came in: it says more and counts as full. Else prove '..UptoSaid'. A law counts once. -/
mutual
def uptoBulk {H : Type} : DataW H → Nat
  | .lit (.string bytes) => bytes.length + 1
  | .lit _ => 1
  | .nil => 1
  | .ptr d => uptoBulk d + 1
  | .slice elems spare => uptoBulkAll elems + uptoBulkAll spare + 1
  | .agg parts => uptoBulkAll parts + 1
  | .iface _ d => uptoBulk d + 1
  | .map entries => uptoBulkEntries entries + 1
  | .held _ => 1
def uptoBulkAll {H : Type} : List (DataW H) → Nat
  | [] => 0
  | d :: r => uptoBulk d + uptoBulkAll r
def uptoBulkEntries {H : Type} : List (Lit × DataW H) → Nat
  | [] => 0
  | x :: r => uptoBulkEntry x + uptoBulkEntries r
def uptoBulkEntry {H : Type} : Lit × DataW H → Nat
  | (.string bytes, d) => bytes.length + uptoBulk d + 1
  | (_, d) => uptoBulk d + 1
 end
def uptoSmall : (H : Type) → List (DataW H) → Bool := fun _ ds => decide (uptoBulkAll ds ≤ 1048576)
def OpenSpec.upto (s : _root_.Go.ChangeSpec) : _root_.Go.OpenSpec := { _root_.Go.OpenSpec.ofChange s with cond := some uptoSmall }

/-- 'carpetbaglaw27.HeapCollects', WHERE WHAT IT READS IS OF BULK AT MOST 1048576: true; the input reads as it did. -/
def heapCollectsUptoRow : OpenClaim := { program := "ytinmepllgdllmaa", sum := "915de718b0567abb097e4af4d2c872734bb1187bdd4523949ede83a82e5d8231", func := "carpetbag/carpetbaglaw27.HeapCollects", spec := "heapCollects", unfollowed := true, recurses := true, apart := false, narrowed := true }
def HeapCollectsUptoSaid : Prop := heapCollectsUptoRow.holds Try.pinned (OpenSpec.upto heapCollectsSpec)

/-- 'carpetbaglaw27.HeapPlays', WHERE WHAT IT READS IS OF BULK AT MOST 1048576: true; the input reads as it did. -/
def heapPlaysUptoRow : OpenClaim := { program := "ytinmepllgdllmaa", sum := "915de718b0567abb097e4af4d2c872734bb1187bdd4523949ede83a82e5d8231", func := "carpetbag/carpetbaglaw27.HeapPlays", spec := "heapPlays", unfollowed := true, recurses := true, apart := false, narrowed := true }
def HeapPlaysUptoSaid : Prop := heapPlaysUptoRow.holds Try.pinned (OpenSpec.upto heapPlaysSpec)

/-- 'carpetbaglaw27.HeapKeeps', WHERE WHAT IT READS IS OF BULK AT MOST 1048576: true; the input reads as it did. -/
def heapKeepsUptoRow : OpenClaim := { program := "ytinmepllgdllmaa", sum := "915de718b0567abb097e4af4d2c872734bb1187bdd4523949ede83a82e5d8231", func := "carpetbag/carpetbaglaw27.HeapKeeps", spec := "heapKeeps", unfollowed := true, recurses := true, apart := false, narrowed := true }
def HeapKeepsUptoSaid : Prop := heapKeepsUptoRow.holds Try.pinned (OpenSpec.upto heapKeepsSpec)

/-- 'carpetbaglaw27.HeapOdd', WHERE WHAT IT READS IS OF BULK AT MOST 1048576: true; the input reads as it did. -/
def heapOddUptoRow : OpenClaim := { program := "ytinmepllgdllmaa", sum := "915de718b0567abb097e4af4d2c872734bb1187bdd4523949ede83a82e5d8231", func := "carpetbag/carpetbaglaw27.HeapOdd", spec := "heapOdd", unfollowed := true, recurses := true, apart := false, narrowed := true }
def HeapOddUptoSaid : Prop := heapOddUptoRow.holds Try.pinned (OpenSpec.upto heapOddSpec)

end Rows
end Go.Proofs.Ytinmepllgdllmaa
