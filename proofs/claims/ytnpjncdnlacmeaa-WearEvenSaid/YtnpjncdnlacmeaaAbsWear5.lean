/-
  Layer 7: the law WearEven, whole.
-/
import Derived.Test.YtnpjncdnlacmeaaAbsWear4
namespace Go.Abs.AbsWear
set_option maxRecDepth 100000
set_option linter.unusedSimpArgs false
variable {os : List AObj} {b w : Nat}

theorem marks_dirty {L : List Sec} (hg : ∀ x ∈ L, good x) : ∀ x ∈ marks L L.length, x.st = 1 ∧ 0 ≤ x.er ∧ x.er ≤ 1048576 := by
  intro x hx
  obtain ⟨j, hj⟩ := List.getElem?_of_mem hx
  have hlt := get_lt hj
  rw [marks_length] at hlt
  obtain ⟨y, hy⟩ : ∃ y, L[j]? = some y := ⟨_, List.getElem?_eq_getElem hlt⟩
  have := marks_get L L.length j y hy
  rw [hj, if_pos hlt] at this
  cases this
  have := hg y (List.mem_of_getElem? hy)
  exact ⟨rfl, this.1, this.2⟩

theorem s11 {L : List Sec} {a : Option (Nat × Nat)} {c : Option Nat} {times : Nat} (hR : Row os 3 Sec.cells L a) (hn : L.length ≤ 9223372036854775807) (hb : b ≤ os.length) (ht : times ≤ 255) :
    xCall T 11 [.slice a L.length c, .int .u8 times] ⟨os, b, w⟩ = some (.bool true, ⟨os, b, w⟩) := by
  obtain ⟨r, h8, hr⟩ := s8 (b := b) (w := os.length) (c := c) hR hn
  cases r with
  | false => simp [xCall_eq T t11, code11, s9, h8]
  | true =>
    obtain ⟨h100, hg⟩ := hr rfl
    by_cases hL : L = []
    · subst hL
      simp only [List.length_nil] at h8
      simp [xCall_eq T t11, code11, s9, h8]
    · have hpos : 0 < L.length := List.length_pos_iff.2 hL
      have hne : ¬ ((L.length : Int) = 0) := by omega
      have hne' : ¬ (L.length = 0) := by omega
      obtain ⟨bb, o, cs, rfl, hrow, hle, htk⟩ := Row.all hR hL
      have hbb := lt_of_get hrow
      have hrow2 : (os ++ [AObj.cells 3 []])[bb]? = some (.cells 3 cs) := by rw [List.getElem?_append_left hbb]; exact hrow
      have h24 : L.length * 24 ≤ 140737488355328 := by omega
      have hml := mark_loop (os := os) (b := b) (L := L) hn hb (.int .u8 times)
      have hml2 := marks_length L L.length
      have hd := marks_dirty hg
      generalize marks L L.length = M at *
      have hfine : ∀ x ∈ M, fine x := fun x hx => by
        obtain ⟨_, a2, a3⟩ := hd x hx
        exact ⟨a2, by omega⟩
      have h2 := fun w => s2 (b := b) (w := w) (c := none) (ownRow os M) (by omega) hfine
      rw [hml2] at h2
      have hel := even_loop (os := os) (b := b) (M := M) (n := L.length) hpos (by omega) (most := if spread M < 1 then 1 else spread M) (by split <;> omega)
        ⟨hml2, fun x hx => by obtain ⟨a1, a2, a3⟩ := hd x hx; exact ⟨a1, a2, by omega⟩, by split <;> omega⟩ hb ht
      simp only [ownO, ownV, Int.cast_ofNat_Int] at hml h2 hel
      simp [xCall_eq T t11, code11, s9, h8, hne, hne', hrow2, hle, htk, h24, hn, hml, h2, hel]

end Go.Abs.AbsWear
