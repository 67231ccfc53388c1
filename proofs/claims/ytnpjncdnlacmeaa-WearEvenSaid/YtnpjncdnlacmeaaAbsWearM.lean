/-
  The law WearEven: true of all sectors and numbers; the input reads as it did.
-/
import Derived.Test.YtnpjncdnlacmeaaAbsWear5
import Derived.Test.YtnpjncdnlacmeaaAbsWearR
namespace Go.Proofs.Ytnpjncdnlacmeaa
open Go.Abs Go.Abs.AbsWear Go.ChangeShapes Go.WideShapes Go.ChangeAt Go.RowKit

theorem wearEven_run (h : Heap) (l : List Dat) (vs : List AVal) (ha : HasArgs h [.slice secSh, .int .u8] l vs) (hb : h.base = h.size) : xCall T 11 vs h = some (.bool true, h) := by
  obtain ⟨os, b, w⟩ := h
  obtain ⟨d, _, c, _, rfl, rfl, h1, h2⟩ := ha.cons
  obtain ⟨_, _, _, _, rfl, rfl, h3, h4⟩ := h2.cons
  obtain ⟨rfl, rfl⟩ := h4.nil
  obtain ⟨n, _, rfl, h5, h6⟩ := h3.int
  obtain ⟨a, L, c', rfl, hR, hn, _⟩ := h1.row (f := Sec.cells) (fun d c hh => sec_conv hh)
  have h5' : (0 : Int) ≤ n := h5
  have h6' : n ≤ 255 := h6
  obtain ⟨k, rfl⟩ := Int.eq_ofNat_of_zero_le h5'
  exact s11 hR hn (Nat.le_of_eq hb) (by omega)

set_option maxRecDepth 100000 in
theorem wearEven_lifted (os : Os) (started : os.Started) (H : Type) (enc : TypeId × Value → H) :
    ReturnsInHanded {} Try.checked os 4 .any (Rows.wearEvenSpec.pre6 enc Try.prog Try.f4 Rows.wearEvenRow.domain false) (Rows.wearEvenSpec.post enc Try.prog Try.f4 false true false false) := by
  refine returnsInHanded_of_change (C := Try.checked) own started (by kernel_rfl) Try.func4
    (ChangeSpec.witness6 (enc := enc) (C := Try.checked) false ⟨#[], #[.slice none 0 0, .int .u8 0], []⟩ 8 (by kernel_rfl) (by kernel_rfl) (by kernel_rfl) (by kernel_rfl)) ?_
  intro W base args ds gs before hval hW _ _
  obtain ⟨tb, _, hr, _, htb⟩ := boolType
  exact law_contract (E := E) agrees mixed (f := 4) (g := 11) (n := 10) (fn := Try.f4) (ss := [.slice secSh, .int .u8]) rfl (by kernel_rfl) (fun h l vs ha hb _ => wearEven_run h l vs ha hb) rfl
    (fun ds hl => by
      match ds, hl with
      | [_, _], _ => rfl) laidOut (by kernel_rfl) hr htb hval hW

theorem wearEven_holds : Rows.WearEvenSaid :=
  OpenClaim.holds_of_wide 4 Try.f4 rfl rfl rfl rfl rfl rfl rfl ⟨rfl, rfl, rfl, rfl, rfl⟩ rfl rfl rfl rfl rfl (by kernel_rfl) Try.func4 (by kernel_rfl)
    (of_decide_eq_true (by kernel_rfl)) (by unfold Func.isWrapper; first | (rw [if_pos (by decide +kernel)]; kernel_rfl) | (rw [if_neg (by decide +kernel)]; exact ⟨rfl, rfl⟩))
    (fun os started H enc _ => wearEven_lifted os started H enc)

end Go.Proofs.Ytnpjncdnlacmeaa
