/-
  The law HeapCollects: true of any three rows; the input reads as it did.
-/
import Derived.Test.YtinmepllgdllmaaP7
import Derived.Test.YtinmepllgdllmaaP10
namespace Go.Proofs.Ytinmepllgdllmaa
open Go.Abs Go.Abs.AbsHeap Go.ChangeShapes Go.WideShapes Go.ChangeAt Go.RowKit

theorem byte_conv {h : Heap} {d : Dat} {c : List AVal} (hh : Has h (.int .u8) d c) : ∃ x : Int, c = byteC x ∧ (0 ≤ x ∧ x ≤ 255) := by
  obtain ⟨a, _, rfl, a1, a2⟩ := hh.int
  simp only [IntKind.min, IntKind.max, IntKind.signed, IntKind.bits] at a1 a2
  exact ⟨a, rfl, by simpa using a1, by simpa using a2⟩

theorem heapCollects_run (h : Heap) (l : List Dat) (vs : List AVal) (ha : HasArgs h [.slice (.int .u8), .slice (.int .u8), .slice (.int .u8)] l vs) (hb : h.base = h.size) : xCall T 291 vs h = some (.bool true, h) := by
  obtain ⟨os, b, w⟩ := h
  obtain ⟨d, _, c, _, rfl, rfl, h1, h2⟩ := ha.cons
  obtain ⟨_, _, _, _, rfl, rfl, h3, h4⟩ := h2.cons
  obtain ⟨_, _, _, _, rfl, rfl, h5, h6⟩ := h4.cons
  obtain ⟨rfl, rfl⟩ := h6.nil
  obtain ⟨a0, L0, c0, rfl, hR0, _, hok0, _⟩ := h1.row (f := byteC) (fun d c hh => byte_conv hh)
  obtain ⟨a1, L1, c1, rfl, hR1, _, hok1, _⟩ := h3.row (f := byteC) (fun d c hh => byte_conv hh)
  obtain ⟨a2, L2, c2, rfl, hR2, _, hok2, _⟩ := h5.row (f := byteC) (fun d c hh => byte_conv hh)
  have hb' : b = os.length := hb
  exact s291 (Nat.le_of_eq hb') hR0 hR1 hR2 hok0 hok1 hok2 (fun i o e => by subst e; rw [← hb']; exact has_in h1) (fun i o e => by subst e; rw [← hb']; exact has_in h3) (fun i o e => by subst e; rw [← hb']; exact has_in h5)

set_option maxRecDepth 100000 in
theorem heapCollects_lifted (os : Os) (started : os.Started) (H : Type) (enc : TypeId × Value → H) :
    ReturnsInHanded {} Try.checked os 3 .any (Rows.heapCollectsSpec.pre6 enc Try.prog Try.f3 Rows.heapCollectsRow.domain false) (Rows.heapCollectsSpec.post enc Try.prog Try.f3 false true false false) := by
  refine returnsInHanded_of_change (C := Try.checked) own started (by kernel_rfl) Try.func3
    (ChangeSpec.witness6 (enc := enc) (C := Try.checked) false ⟨#[], #[.slice none 0 0, .slice none 0 0, .slice none 0 0], []⟩ 8 (by kernel_rfl) (by kernel_rfl) (by kernel_rfl) (by kernel_rfl)) ?_
  intro W base args ds gs before hval hW _ _
  obtain ⟨tb, hr, _, _, _, htb⟩ := boolType
  exact law_contract (E := E) agrees mixed (f := 3) (g := 291) (n := 10) (fn := Try.f3) (ss := [.slice (.int .u8), .slice (.int .u8), .slice (.int .u8)]) rfl (by kernel_rfl) (fun h l vs ha hb _ => heapCollects_run h l vs ha hb) rfl
    (fun ds hl => by
      match ds, hl with
      | [_, _, _], _ => rfl) laidOut (by kernel_rfl) hr htb hval hW

theorem heapCollects_holds : Rows.HeapCollectsSaid :=
  OpenClaim.holds_of_wide 3 Try.f3 rfl rfl rfl rfl rfl rfl rfl ⟨rfl, rfl, rfl, rfl, rfl⟩ rfl rfl rfl rfl rfl (by kernel_rfl) Try.func3 (by kernel_rfl)
    (of_decide_eq_true (by kernel_rfl)) (by unfold Func.isWrapper; first | (rw [if_pos (by decide +kernel)]; kernel_rfl) | (rw [if_neg (by decide +kernel)]; exact ⟨rfl, rfl⟩))
    (fun os started H enc _ => heapCollects_lifted os started H enc)

end Go.Proofs.Ytinmepllgdllmaa
