/-
  The rows of layer 12: what they share.
-/
import Derived.Test.YtepjcennipobhaaDoorP6
import Derived.Test.YtepjcennipobhaaDoorP8
import Derived.Test.YtepjcennipobhaaDoorP9
import Derived.Lay
import Derived.Handed
import Derived.LaidHandle
import Derived.LaidLaws
import Derived.MakeChecks
import Derived.SevenTiedAt
import Derived.Test.YtepjcennipobhaaDoorRows
import Derived.Test.YtepjcennipobhaaDoorCards
import Derived.Test.YtepjcennipobhaaDoorTie
namespace Go.Proofs.YtepjcennipobhaaDoor
open Go.Abs Go.Abs.AbsDesc Go.ChangeShapes Go.WideShapes Go.ChangeAt Go.RowKit

theorem own : ownKnob Tryd.prog.godebug = none := by kernel_rfl
theorem laidOut : laidOutB Tryd.prog = true := by kernel_rfl
theorem boolType : ∃ tb, Tryd.f3.resultTypes = #[tb] ∧ Tryd.f4.resultTypes = #[tb] ∧ Tryd.f5.resultTypes = #[tb] ∧ Tryd.prog.underlying tb = some .bool := ⟨_, rfl, rfl, rfl, by kernel_rfl⟩

/-- The variables that are laid. -/
abbrev laids : List (String × DataW Unit) := [("unicode/utf8.acceptRanges", Rows.laid_unicode_utf8_acceptRanges), ("unicode/utf8.first", Rows.laid_unicode_utf8_first)]

theorem laids_met (os : Os) (args : Array Value) : laidMetH Tryd.prog laids ((World.laidAll Tryd.prog os laids).forCall (fun _ _ => 0) ⟨#[], args, []⟩).memory := by
  rw [MakeChecks.laidMetH_plain _ _ _ (by kernel_rfl)]
  exact laidMet_laidAll _ (by kernel_rfl) (by kernel_rfl)

end Go.Proofs.YtepjcennipobhaaDoor
