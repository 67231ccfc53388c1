/-
  The law WearFree: true of all sectors, limits and a sector more; the input reads as it did.
-/
import Derived.Test.YtnpjncdnlacmeaaAbsWear6
import Derived.Test.YtnpjncdnlacmeaaAbsWearR
namespace Go.Proofs.Ytnpjncdnlacmeaa
open Go.Abs Go.Abs.AbsWear Go.ChangeShapes Go.WideShapes Go.ChangeAt Go.RowKit

theorem has_in {os : List AObj} {b w : Nat} {e : Sh} {d : Dat} {i o n : Nat} {c : Option Nat} (h : Has ⟨os, b, w⟩ (.slice e) d [.slice (some (i, o)) n c]) : i < b := by
  cases d <;> simp only [Has] at h
  · simp at h
  · obtain ⟨_, j, _, e1, e2, _⟩ := h
    simp at e1
    obtain ⟨⟨rfl, _⟩, _⟩ := e1
    exact e2

theorem wearFree_run (h : Heap) (l : List Dat) (vs : List AVal) (ha : HasArgs h [.slice secSh, .int .i64, secSh] l vs) (hb : h.base = h.size) : xCall T 12 vs h = some (.bool true, h) := by
  obtain ⟨os, b, w⟩ := h
  obtain ⟨d, _, c, _, rfl, rfl, h1, h2⟩ := ha.cons
  obtain ⟨_, _, _, _, rfl, rfl, h3, h4⟩ := h2.cons
  obtain ⟨_, _, _, _, rfl, rfl, h5, h6⟩ := h4.cons
  obtain ⟨rfl, rfl⟩ := h6.nil
  obtain ⟨n, _, rfl, _⟩ := h3.int
  obtain ⟨x, rfl, _⟩ := sec_conv h5
  obtain ⟨a, L, c', rfl, hR, hn, _⟩ := h1.row (f := Sec.cells) (fun d c hh => sec_conv hh)
  have hb' : b = os.length := hb
  exact s12 hR hn (fun i o e => by subst e; rw [← hb']; exact has_in h1) (Nat.le_of_eq hb')

set_option maxRecDepth 100000 in
theorem wearFree_lifted (os : Os) (started : os.Started) (H : Type) (enc : TypeId × Value → H) :
    ReturnsInHanded {} Try.checked os 5 .any (Rows.wearFreeSpec.pre6 enc Try.prog Try.f5 Rows.wearFreeRow.domain false) (Rows.wearFreeSpec.post enc Try.prog Try.f5 false true false false) := by
  refine returnsInHanded_of_change (C := Try.checked) own started (by kernel_rfl) Try.func5
    (ChangeSpec.witness6 (enc := enc) (C := Try.checked) false ⟨#[], #[.slice none 0 0, .int .i64 0, .agg #[.int .i64 0, .int .u32 0, .int .i64 0]], []⟩ 8 (by kernel_rfl) (by kernel_rfl) (by kernel_rfl) (by kernel_rfl)) ?_
  intro W base args ds gs before hval hW _ _
  obtain ⟨tb, _, _, hr, htb⟩ := boolType
  exact law_contract (E := E) agrees mixed (f := 5) (g := 12) (n := 10) (fn := Try.f5) (ss := [.slice secSh, .int .i64, secSh]) rfl (by kernel_rfl) (fun h l vs ha hb _ => wearFree_run h l vs ha hb) rfl
    (fun ds hl => by
      match ds, hl with
      | [_, _, _], _ => rfl) laidOut (by kernel_rfl) hr htb hval hW

theorem wearFree_holds : Rows.WearFreeSaid :=
  OpenClaim.holds_of_wide 5 Try.f5 rfl rfl rfl rfl rfl rfl rfl ⟨rfl, rfl, rfl, rfl, rfl⟩ rfl rfl rfl rfl rfl (by kernel_rfl) Try.func5 (by kernel_rfl)
    (of_decide_eq_true (by kernel_rfl)) (by unfold Func.isWrapper; first | (rw [if_pos (by decide +kernel)]; kernel_rfl) | (rw [if_neg (by decide +kernel)]; exact ⟨rfl, rfl⟩))
    (fun os started H enc _ => wearFree_lifted os started H enc)

end Go.Proofs.Ytnpjncdnlacmeaa
