/-
  The rows of layer 27: what they share.
-/
import Derived.Test.YtinmepllgdllmaaP6
import Derived.Test.YtinmepllgdllmaaP8
import Derived.Test.YtinmepllgdllmaaP9
import Derived.Test.YtinmepllgdllmaaRows
import Derived.Test.YtinmepllgdllmaaP7
namespace Go.Proofs.Ytinmepllgdllmaa
open Go.Abs Go.Abs.AbsHeap Go.ChangeShapes Go.WideShapes Go.ChangeAt Go.RowKit

def valSh : Sh := .struct [.int .i64, .bool]

theorem val_conv {h : Heap} {d : Dat} {c : List AVal} (hh : Has h valSh d c) : ∃ x : V, c = x.cs ∧ True := by
  obtain ⟨l, rfl, h1⟩ := hh.struct
  obtain ⟨_, _, _, _, rfl, rfl, h2, h3⟩ := h1.cons
  obtain ⟨_, _, _, _, rfl, rfl, h4, h5⟩ := h3.cons
  obtain ⟨rfl, rfl⟩ := h5.nil
  obtain ⟨a, _, rfl, _⟩ := h2.int
  obtain ⟨r, _, rfl⟩ := h4.bool
  exact ⟨⟨a, r⟩, rfl, trivial⟩

theorem own : ownKnob Try.prog.godebug = none := by kernel_rfl
theorem laidOut : laidOutB Try.prog = true := by kernel_rfl
theorem boolType : ∃ tb, Try.f3.resultTypes = #[tb] ∧ Try.f4.resultTypes = #[tb] ∧ Try.f5.resultTypes = #[tb] ∧ Try.f6.resultTypes = #[tb] ∧ Try.prog.underlying tb = some .bool := ⟨_, rfl, rfl, rfl, rfl, by kernel_rfl⟩

end Go.Proofs.Ytinmepllgdllmaa

/-
  The law HeapPlays: true of any acts; the input reads as it did.
-/
namespace Go.Proofs.Ytinmepllgdllmaa
open Go.Abs Go.Abs.AbsHeap Go.ChangeShapes Go.WideShapes Go.ChangeAt Go.RowKit

def actSh : Sh := .struct [.int .u8, .int .u8, .int .i64, .int .u8, .int .u8, .bool]

theorem act_conv {h : Heap} {d : Dat} {c : List AVal} (hh : Has h actSh d c) : ∃ x : AbsHeap.Act, c = x.cs ∧ x.Ok := by
  obtain ⟨l, rfl, h1⟩ := hh.struct
  obtain ⟨_, _, _, _, rfl, rfl, h2, h3⟩ := h1.cons
  obtain ⟨_, _, _, _, rfl, rfl, h4, h5⟩ := h3.cons
  obtain ⟨_, _, _, _, rfl, rfl, h6, h7⟩ := h5.cons
  obtain ⟨_, _, _, _, rfl, rfl, h8, h9⟩ := h7.cons
  obtain ⟨_, _, _, _, rfl, rfl, h10, h11⟩ := h9.cons
  obtain ⟨_, _, _, _, rfl, rfl, h12, h13⟩ := h11.cons
  obtain ⟨rfl, rfl⟩ := h13.nil
  obtain ⟨a, _, rfl, a1, a2⟩ := h2.int
  obtain ⟨b, _, rfl, b1, b2⟩ := h4.int
  obtain ⟨n, _, rfl, _⟩ := h6.int
  obtain ⟨e, _, rfl, e1, e2⟩ := h8.int
  obtain ⟨f, _, rfl, f1, f2⟩ := h10.int
  obtain ⟨r, _, rfl⟩ := h12.bool
  simp only [IntKind.min, IntKind.max, IntKind.signed, IntKind.bits] at a1 a2 b1 b2 e1 e2 f1 f2
  exact ⟨⟨a, b, n, e, f, r⟩, rfl, ⟨⟨by simpa using a1, by simpa using a2⟩, ⟨by simpa using b1, by simpa using b2⟩, ⟨by simpa using e1, by simpa using e2⟩, ⟨by simpa using f1, by simpa using f2⟩⟩⟩

theorem has_in {os : List AObj} {b w : Nat} {e : Sh} {d : Dat} {i o n : Nat} {c : Option Nat} (h : Has ⟨os, b, w⟩ (.slice e) d [.slice (some (i, o)) n c]) : i < b := by
  cases d <;> simp only [Has] at h
  · simp at h
  · obtain ⟨_, j, _, e1, e2, _⟩ := h
    simp at e1
    obtain ⟨⟨rfl, _⟩, _⟩ := e1
    exact e2

theorem heapPlays_run (h : Heap) (l : List Dat) (vs : List AVal) (ha : HasArgs h [.int .u16, .slice actSh] l vs) (hb : h.base = h.size) : xCall T 301 vs h = some (.bool true, h) ∧ xCall T 302 vs h = some (.bool true, h) := by
  obtain ⟨os, b, w⟩ := h
  obtain ⟨d, _, c, _, rfl, rfl, h1, h2⟩ := ha.cons
  obtain ⟨_, _, _, _, rfl, rfl, h3, h4⟩ := h2.cons
  obtain ⟨rfl, rfl⟩ := h4.nil
  obtain ⟨n, _, rfl, n1, n2⟩ := h1.int
  obtain ⟨a, L, c', rfl, hR, hn, hok, _⟩ := h3.row (f := AbsHeap.Act.cs) (fun d c hh => act_conv hh)
  simp only [IntKind.min, IntKind.signed] at n1
  have hb' : b = os.length := hb
  exact s301 hR hok (fun i o e => by subst e; rw [← hb']; exact has_in h3) (Nat.le_of_eq hb') (by simpa using n1)

set_option maxRecDepth 100000 in
theorem heapPlays_lifted (os : Os) (started : os.Started) (H : Type) (enc : TypeId × Value → H) :
    ReturnsInHanded {} Try.checked os 4 .any (Rows.heapPlaysSpec.pre6 enc Try.prog Try.f4 Rows.heapPlaysRow.domain false) (Rows.heapPlaysSpec.post enc Try.prog Try.f4 false true false false) := by
  refine returnsInHanded_of_change (C := Try.checked) own started (by kernel_rfl) Try.func4
    (ChangeSpec.witness6 (enc := enc) (C := Try.checked) false ⟨#[], #[.int .u16 0, .slice none 0 0], []⟩ 8 (by kernel_rfl) (by kernel_rfl) (by kernel_rfl) (by kernel_rfl)) ?_
  intro W base args ds gs before hval hW _ _
  obtain ⟨tb, _, hr, _, _, htb⟩ := boolType
  exact law_contract (E := E) agrees mixed (f := 4) (g := 301) (n := 10) (fn := Try.f4) (ss := [.int .u16, .slice actSh]) rfl (by kernel_rfl) (fun h l vs ha hb _ => (heapPlays_run h l vs ha hb).1) rfl
    (fun ds hl => by
      match ds, hl with
      | [_, _], _ => rfl) laidOut (by kernel_rfl) hr htb hval hW

theorem heapPlays_holds : Rows.HeapPlaysSaid :=
  OpenClaim.holds_of_wide 4 Try.f4 rfl rfl rfl rfl rfl rfl rfl ⟨rfl, rfl, rfl, rfl, rfl⟩ rfl rfl rfl rfl rfl (by kernel_rfl) Try.func4 (by kernel_rfl)
    (of_decide_eq_true (by kernel_rfl)) (by unfold Func.isWrapper; first | (rw [if_pos (by decide +kernel)]; kernel_rfl) | (rw [if_neg (by decide +kernel)]; exact ⟨rfl, rfl⟩))
    (fun os started H enc _ => heapPlays_lifted os started H enc)

end Go.Proofs.Ytinmepllgdllmaa
