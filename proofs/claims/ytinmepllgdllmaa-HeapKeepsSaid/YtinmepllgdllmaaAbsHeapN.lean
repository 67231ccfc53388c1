/-
  The law HeapKeeps: true of any acts; the input reads as it did.
-/
import Derived.Test.YtinmepllgdllmaaP10
namespace Go.Proofs.Ytinmepllgdllmaa
open Go.Abs Go.Abs.AbsHeap Go.ChangeShapes Go.WideShapes Go.ChangeAt Go.RowKit

set_option maxRecDepth 100000 in
theorem heapKeeps_lifted (os : Os) (started : os.Started) (H : Type) (enc : TypeId × Value → H) :
    ReturnsInHanded {} Try.checked os 5 .any (Rows.heapKeepsSpec.pre6 enc Try.prog Try.f5 Rows.heapKeepsRow.domain false) (Rows.heapKeepsSpec.post enc Try.prog Try.f5 false true false false) := by
  refine returnsInHanded_of_change (C := Try.checked) own started (by kernel_rfl) Try.func5
    (ChangeSpec.witness6 (enc := enc) (C := Try.checked) false ⟨#[], #[.int .u16 0, .slice none 0 0], []⟩ 8 (by kernel_rfl) (by kernel_rfl) (by kernel_rfl) (by kernel_rfl)) ?_
  intro W base args ds gs before hval hW _ _
  obtain ⟨tb, _, _, hr, _, htb⟩ := boolType
  exact law_contract (E := E) agrees mixed (f := 5) (g := 302) (n := 10) (fn := Try.f5) (ss := [.int .u16, .slice actSh]) rfl (by kernel_rfl) (fun h l vs ha hb _ => (heapPlays_run h l vs ha hb).2) rfl
    (fun ds hl => by
      match ds, hl with
      | [_, _], _ => rfl) laidOut (by kernel_rfl) hr htb hval hW

theorem heapKeeps_holds : Rows.HeapKeepsSaid :=
  OpenClaim.holds_of_wide 5 Try.f5 rfl rfl rfl rfl rfl rfl rfl ⟨rfl, rfl, rfl, rfl, rfl⟩ rfl rfl rfl rfl rfl (by kernel_rfl) Try.func5 (by kernel_rfl)
    (of_decide_eq_true (by kernel_rfl)) (by unfold Func.isWrapper; first | (rw [if_pos (by decide +kernel)]; kernel_rfl) | (rw [if_neg (by decide +kernel)]; exact ⟨rfl, rfl⟩))
    (fun os started H enc _ => heapKeeps_lifted os started H enc)

end Go.Proofs.Ytinmepllgdllmaa
