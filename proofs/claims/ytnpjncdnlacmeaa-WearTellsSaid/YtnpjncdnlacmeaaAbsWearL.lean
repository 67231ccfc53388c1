/-
  The law WearTells: true of all sectors and limits; the input reads as it did.
-/
import Derived.Test.YtnpjncdnlacmeaaAbsWear3
import Derived.Test.YtnpjncdnlacmeaaAbsWearR
namespace Go.Proofs.Ytnpjncdnlacmeaa
open Go.Abs Go.Abs.AbsWear Go.ChangeShapes Go.WideShapes Go.ChangeAt Go.RowKit

theorem wearTells_run (h : Heap) (l : List Dat) (vs : List AVal) (ha : HasArgs h [.slice secSh, .int .i64] l vs) : xCall T 10 vs h = some (.bool true, h) := by
  obtain ⟨os, b, w⟩ := h
  obtain ⟨d, _, c, _, rfl, rfl, h1, h2⟩ := ha.cons
  obtain ⟨_, _, _, _, rfl, rfl, h3, h4⟩ := h2.cons
  obtain ⟨rfl, rfl⟩ := h4.nil
  obtain ⟨n, _, rfl, _⟩ := h3.int
  obtain ⟨a, L, c', rfl, hR, hn, _⟩ := h1.row (f := Sec.cells) (fun d c hh => sec_conv hh)
  exact s10 hR hn

set_option maxRecDepth 100000 in
theorem wearTells_lifted (os : Os) (started : os.Started) (H : Type) (enc : TypeId × Value → H) :
    ReturnsInHanded {} Try.checked os 3 .any (Rows.wearTellsSpec.pre6 enc Try.prog Try.f3 Rows.wearTellsRow.domain false) (Rows.wearTellsSpec.post enc Try.prog Try.f3 false true false false) := by
  refine returnsInHanded_of_change (C := Try.checked) own started (by kernel_rfl) Try.func3
    (ChangeSpec.witness6 (enc := enc) (C := Try.checked) false ⟨#[], #[.slice none 0 0, .int .i64 0], []⟩ 8 (by kernel_rfl) (by kernel_rfl) (by kernel_rfl) (by kernel_rfl)) ?_
  intro W base args ds gs before hval hW _ _
  obtain ⟨tb, hr, _, _, htb⟩ := boolType
  exact law_contract (E := E) agrees mixed (f := 3) (g := 10) (n := 10) (fn := Try.f3) (ss := [.slice secSh, .int .i64]) rfl (by kernel_rfl) (fun h l vs ha _ _ => wearTells_run h l vs ha) rfl
    (fun ds hl => by
      match ds, hl with
      | [_, _], _ => rfl) laidOut (by kernel_rfl) hr htb hval hW

theorem wearTells_holds : Rows.WearTellsSaid :=
  OpenClaim.holds_of_wide 3 Try.f3 rfl rfl rfl rfl rfl rfl rfl ⟨rfl, rfl, rfl, rfl, rfl⟩ rfl rfl rfl rfl rfl (by kernel_rfl) Try.func3 (by kernel_rfl)
    (of_decide_eq_true (by kernel_rfl)) (by unfold Func.isWrapper; first | (rw [if_pos (by decide +kernel)]; kernel_rfl) | (rw [if_neg (by decide +kernel)]; exact ⟨rfl, rfl⟩))
    (fun os started H enc _ => wearTells_lifted os started H enc)

end Go.Proofs.Ytnpjncdnlacmeaa
