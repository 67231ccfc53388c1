/-
  The rows of layer 27: what they share.
-/
import Derived.Test.YtinmepllgdllmaaP6
import Derived.Test.YtinmepllgdllmaaP8
import Derived.Test.YtinmepllgdllmaaP9
import Derived.Test.YtinmepllgdllmaaRows
namespace Go.Proofs.Ytinmepllgdllmaa
open Go.Abs Go.Abs.AbsHeap Go.ChangeShapes Go.WideShapes Go.ChangeAt Go.RowKit

def valSh : Sh := .struct [.int .i64, .bool]

theorem val_conv {h : Heap} {d : Dat} {c : List AVal} (hh : Has h valSh d c) : ∃ x : V, c = x.cs ∧ True := by
  obtain ⟨l, rfl, h1⟩ := hh.struct
  obtain ⟨_, _, _, _, rfl, rfl, h2, h3⟩ := h1.cons
  obtain ⟨_, _, _, _, rfl, rfl, h4, h5⟩ := h3.cons
  obtain ⟨rfl, rfl⟩ := h5.nil
  obtain ⟨a, _, rfl, _⟩ := h2.int
  obtain ⟨r, _, rfl⟩ := h4.bool
  exact ⟨⟨a, r⟩, rfl, trivial⟩

theorem own : ownKnob Try.prog.godebug = none := by kernel_rfl
theorem laidOut : laidOutB Try.prog = true := by kernel_rfl
theorem boolType : ∃ tb, Try.f3.resultTypes = #[tb] ∧ Try.f4.resultTypes = #[tb] ∧ Try.f5.resultTypes = #[tb] ∧ Try.f6.resultTypes = #[tb] ∧ Try.prog.underlying tb = some .bool := ⟨_, rfl, rfl, rfl, rfl, by kernel_rfl⟩

end Go.Proofs.Ytinmepllgdllmaa
