/-
  The law HeapOdd: true of any numbers and texts; the input reads as it did.
-/
import Derived.Test.YtinmepllgdllmaaP9
namespace Go.Proofs.Ytinmepllgdllmaa
open Go.Abs Go.Abs.AbsHeap Go.ChangeShapes Go.WideShapes Go.ChangeAt Go.RowKit

theorem heapOdd_run (h : Heap) (l : List Dat) (vs : List AVal) (ha : HasArgs h [.int .i64, .int .i64, .int .i64, .int .i64, valSh, .str] l vs) (hb : h.base = h.size) : xCall T 307 vs h = some (.bool true, h) := by
  obtain ⟨os, b, w⟩ := h
  obtain ⟨d, _, c, _, rfl, rfl, h1, h2⟩ := ha.cons
  obtain ⟨_, _, _, _, rfl, rfl, h3, h4⟩ := h2.cons
  obtain ⟨_, _, _, _, rfl, rfl, h5, h6⟩ := h4.cons
  obtain ⟨_, _, _, _, rfl, rfl, h7, h8⟩ := h6.cons
  obtain ⟨_, _, _, _, rfl, rfl, h9, h10⟩ := h8.cons
  obtain ⟨_, _, _, _, rfl, rfl, h11, h12⟩ := h10.cons
  obtain ⟨rfl, rfl⟩ := h12.nil
  obtain ⟨n1, _, rfl, k1, _⟩ := h1.int
  obtain ⟨n2, _, rfl, _⟩ := h3.int
  obtain ⟨n3, _, rfl, _⟩ := h5.int
  obtain ⟨n4, _, rfl, _⟩ := h7.int
  obtain ⟨x, rfl, _⟩ := val_conv h9
  obtain ⟨s, _, rfl, hs⟩ := h11.str
  have hb' : b = os.length := hb
  exact s307 (Nat.le_of_eq hb') (by simpa [IntKind.min, IntKind.signed, IntKind.bits] using k1) hs

set_option maxRecDepth 100000 in
theorem heapOdd_lifted (os : Os) (started : os.Started) (H : Type) (enc : TypeId × Value → H) :
    ReturnsInHanded {} Try.checked os 6 .any (Rows.heapOddSpec.pre6 enc Try.prog Try.f6 Rows.heapOddRow.domain false) (Rows.heapOddSpec.post enc Try.prog Try.f6 false true false false) := by
  refine returnsInHanded_of_change (C := Try.checked) own started (by kernel_rfl) Try.func6
    (ChangeSpec.witness6 (enc := enc) (C := Try.checked) false ⟨#[], #[.int .i64 0, .int .i64 0, .int .i64 0, .int .i64 0, .agg #[.int .i64 0, .bool false], .string ⟨#[]⟩], []⟩ 8 (by kernel_rfl) (by kernel_rfl) (by kernel_rfl) (by kernel_rfl)) ?_
  intro W base args ds gs before hval hW _ _
  obtain ⟨tb, _, _, _, hr, htb⟩ := boolType
  exact law_contract (E := E) agrees mixed (f := 6) (g := 307) (n := 10) (fn := Try.f6) (ss := [.int .i64, .int .i64, .int .i64, .int .i64, valSh, .str]) rfl (by kernel_rfl) (fun h l vs ha hb _ => heapOdd_run h l vs ha hb) rfl
    (fun ds hl => by
      match ds, hl with
      | [_, _, _, _, _, _], _ => rfl) laidOut (by kernel_rfl) hr htb hval hW

theorem heapOdd_holds : Rows.HeapOddSaid :=
  OpenClaim.holds_of_wide 6 Try.f6 rfl rfl rfl rfl rfl rfl rfl ⟨rfl, rfl, rfl, rfl, rfl⟩ rfl rfl rfl rfl rfl (by kernel_rfl) Try.func6 (by kernel_rfl)
    (of_decide_eq_true (by kernel_rfl)) (by unfold Func.isWrapper; first | (rw [if_pos (by decide +kernel)]; kernel_rfl) | (rw [if_neg (by decide +kernel)]; exact ⟨rfl, rfl⟩))
    (fun os started H enc _ => heapOdd_lifted os started H enc)

#print axioms heapOdd_holds
end Go.Proofs.Ytinmepllgdllmaa
