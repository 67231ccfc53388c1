/-
  The rows of layer 7: what they share.
-/
import Derived.Test.YtnpjncdnlacmeaaAbsWear2
import Derived.Test.YtnpjncdnlacmeaaAbsWearK
import Derived.Test.YtnpjncdnlacmeaaAbsLaw
import Derived.Test.YtnpjncdnlacmeaaRows
namespace Go.Proofs.Ytnpjncdnlacmeaa
open Go.Abs Go.Abs.AbsWear Go.ChangeShapes Go.WideShapes Go.ChangeAt Go.RowKit

def secSh : Sh := .struct [.int .i64, .int .u32, .int .i64]

theorem sec_conv {h : Heap} {d : Dat} {c : List AVal} (hh : Has h secSh d c) : ∃ x : Sec, c = x.cells ∧ True := by
  obtain ⟨l, rfl, h1⟩ := hh.struct
  obtain ⟨_, _, _, _, rfl, rfl, h2, h3⟩ := h1.cons
  obtain ⟨_, _, _, _, rfl, rfl, h4, h5⟩ := h3.cons
  obtain ⟨_, _, _, _, rfl, rfl, h6, h7⟩ := h5.cons
  obtain ⟨rfl, rfl⟩ := h7.nil
  obtain ⟨a, _, rfl, _⟩ := h2.int
  obtain ⟨b, _, rfl, _⟩ := h4.int
  obtain ⟨e, _, rfl, _⟩ := h6.int
  exact ⟨⟨a, b, e⟩, rfl, trivial⟩

theorem own : ownKnob Try.prog.godebug = none := by kernel_rfl
theorem laidOut : laidOutB Try.prog = true := by kernel_rfl
theorem boolType : ∃ tb, Try.f3.resultTypes = #[tb] ∧ Try.f4.resultTypes = #[tb] ∧ Try.f5.resultTypes = #[tb] ∧ Try.prog.underlying tb = some .bool := ⟨_, rfl, rfl, rfl, by kernel_rfl⟩

end Go.Proofs.Ytnpjncdnlacmeaa
