/-
  Open parts: what one operation can't see of another.
-/
import Derived.Test.YtnpjncdnlacmeaaAbsOpen
namespace Go.Abs

section

theorem seenBy_iff {m : Nat} {i : Nat} : ∀ (ds : List Did) (k : Nat), seenBy m k ds i = true ↔ ∃ y d, ds[y]? = some d ∧ m.testBit (k + y) = true ∧ d.lo ≤ i ∧ i < d.hi
  | [], k => by simp [seenBy]
  | d :: ds, k => by
    simp only [seenBy, Bool.or_eq_true, Bool.and_eq_true, decide_eq_true_eq, seenBy_iff ds (k + 1)]
    constructor
    · rintro (⟨⟨h1, h2⟩, h3⟩ | ⟨y, d', h1, h2, h3⟩)
      · exact ⟨0, d, rfl, h1, h2, h3⟩
      · exact ⟨y + 1, d', by simpa using h1, by rw [show k + (y + 1) = k + 1 + y by omega]; exact h2, h3⟩
    · rintro ⟨y, d', h1, h2, h3⟩
      cases y with
      | zero => simp at h1; subst h1; exact .inl ⟨⟨h2, h3.1⟩, h3.2⟩
      | succ y => exact .inr ⟨y, d', by simpa using h1, by rw [show k + 1 + y = k + (y + 1) by omega]; exact h2, h3⟩

theorem allSeen_get {m : Nat} : ∀ (ds : List Did) (k : Nat), allSeen m k ds = true → ∀ y d, ds[y]? = some d → m.testBit (k + y) = true ∨ d.hi ≤ d.lo
  | [], k, _, y, d, h => by simp at h
  | d :: ds, k, h, y, d', hy => by
    simp only [allSeen, Bool.and_eq_true, Bool.or_eq_true, decide_eq_true_eq] at h
    cases y with
    | zero => simp at hy; subst hy; exact h.1
    | succ y =>
      rw [show k + (y + 1) = k + 1 + y by omega]
      exact allSeen_get ds (k + 1) h.2 y d' (by simpa using hy)

theorem noClash_get {m : Nat} {x : Did} : ∀ (ds : List Did) (k : Nat), noClash m x k ds = true → ∀ y d, ds[y]? = some d → m.testBit (k + y) = true ∨ clash x d = false
  | [], k, _, y, d, h => by simp at h
  | d :: ds, k, h, y, d', hy => by
    simp only [noClash, Bool.and_eq_true, Bool.or_eq_true, Bool.not_eq_true'] at h
    cases y with
    | zero => simp at hy; subst hy; exact h.1
    | succ y =>
      rw [show k + (y + 1) = k + 1 + y by omega]
      exact noClash_get ds (k + 1) h.2 y d' (by simpa using hy)

/-- Object i is hidden from one that waits for those in m. -/
def Hid (m k : Nat) (ds : List Did) (i : Nat) : Prop := ∃ y d, ds[y]? = some d ∧ m.testBit (k + y) = false ∧ d.lo ≤ i ∧ i < d.hi

theorem hide_get {m : Nat} {i : Nat} : ∀ (ds : List Did) (k : Nat) (os : List AObj), (Hid m k ds i → (hide m k ds os)[i]? = (os[i]?).map fun _ => .dead) ∧ (¬ Hid m k ds i → (hide m k ds os)[i]? = os[i]?)
  | [], k, os => ⟨fun ⟨y, d, h, _⟩ => by simp at h, fun _ => rfl⟩
  | d :: ds, k, os => by
    simp only [hide]
    have ih := hide_get (m := m) (i := i) ds (k + 1) (if (m.testBit k || decide (d.hi ≤ d.lo)) = true then os else killRange d.lo d.hi os)
    have hstep : Hid m k (d :: ds) i ↔ (m.testBit k = false ∧ d.lo ≤ i ∧ i < d.hi) ∨ Hid m (k + 1) ds i := by
      constructor
      · rintro ⟨y, d', h1, h2, h3⟩
        cases y with
        | zero => simp at h1; subst h1; exact .inl ⟨h2, h3⟩
        | succ y => exact .inr ⟨y, d', by simpa using h1, by rw [show k + 1 + y = k + (y + 1) by omega]; exact h2, h3⟩
      · rintro (⟨h1, h2⟩ | ⟨y, d', h1, h2, h3⟩)
        · exact ⟨0, d, rfl, h1, h2⟩
        · exact ⟨y + 1, d', by simpa using h1, by rw [show k + (y + 1) = k + 1 + y by omega]; exact h2, h3⟩
    by_cases h1 : m.testBit k = false ∧ d.lo ≤ i ∧ i < d.hi
    · have hc : ¬ ((m.testBit k || decide (d.hi ≤ d.lo)) = true) := by simp [h1.1]; omega
      rw [if_neg hc] at ih ⊢
      have hk : (killRange d.lo d.hi os)[i]? = (os[i]?).map fun _ => .dead := by
        simp only [killRange, List.getElem?_mapIdx]
        cases os[i]? with
        | none => rfl
        | some o => simp [h1.2.1, h1.2.2]
      refine ⟨fun _ => ?_, fun h => absurd (hstep.2 (.inl h1)) h⟩
      by_cases h2 : Hid m (k + 1) ds i
      · rw [ih.1 h2, hk]; cases os[i]? <;> rfl
      · rw [ih.2 h2, hk]
    · have hk : (if (m.testBit k || decide (d.hi ≤ d.lo)) = true then os else killRange d.lo d.hi os)[i]? = os[i]? := by
        split
        · rfl
        · rename_i hh
          simp only [Bool.or_eq_true, decide_eq_true_eq, not_or, Bool.not_eq_true] at hh
          simp only [killRange, List.getElem?_mapIdx]
          cases os[i]? with
          | none => rfl
          | some o =>
            have : ¬ (d.lo ≤ i ∧ i < d.hi) := fun h2 => h1 ⟨hh.1, h2⟩
            simp [this]
      rw [hk] at ih
      exact ⟨fun h => ih.1 ((hstep.1 h).resolve_left h1), fun h => ih.2 fun h2 => h (hstep.2 (.inr h2))⟩

/-- An open part's run in the order of the text. -/
structure Txt (call : CallSem) (n : Nat) (ops : Nat → Option AOper) (ms : Nat → Nat) (S : Nat → Slots) (H : Nat → Heap) (r : Nat → Slot) (D : Nat → Did) : Prop where
  one : ∀ x o, x < n → ops x = some o → openOne call (H 0).size (ms x) (dsl D x) o (S x) (H x) = some (r x, H (x + 1), D x) ∧ S (x + 1) = setSlot o.dst (r x) (S x) ∧ (∀ d, o.dst = some d → isVar (S x) d = false) ∧ noClash (ms x) (D x) 0 (dsl D x) = true
  all : ∀ x, x < n → ∃ o, ops x = some o
  soft : ∀ x o, x < n → ops x = some o → soft o.op = true
  back : ∀ x y, x < n → (ms x).testBit y = true → y < x
  trans : ∀ x y z, x < n → (ms x).testBit y = true → (ms y).testBit z = true → (ms x).testBit z = true

variable {call : CallSem} {n : Nat} {ops : Nat → Option AOper} {ms : Nat → Nat} {S : Nat → Slots} {H : Nat → Heap} {r : Nat → Slot} {D : Nat → Did}

/-- What one that waits for those in m may name. -/
def Vis (ms : Nat → Nat) (H : Nat → Heap) (x i : Nat) : Prop := i < (H 0).size ∨ ∃ y, y < x ∧ (ms x).testBit y = true ∧ (H y).size ≤ i ∧ i < (H (y + 1)).size

namespace Txt
variable (T : Txt call n ops ms S H r D) (hev0 : CallEvol call)
include T hev0

theorem spec {x : Nat} {o : AOper} (hx : x < n) (ho : ops x = some o) : ((∀ t ∈ o.reads, ∀ i ∈ slotIds (S x) t, okId (H 0).size (ms x) (dsl D x) i = true) ∧ ∀ i ∈ rdIds o.op (S x), okId (H 0).size (ms x) (dsl D x) i = true) ∧ (D x).lo = (H x).size ∧ (D x).hi = (H (x + 1)).size ∧ (H (x + 1)).base = (H x).base ∧
    (OneCall call (H 0).size (ms x) (dsl D x) o (S x) (H x) (r x) (H (x + 1)) (D x) ∨ OneSoft (H 0).size (ms x) (dsl D x) o (S x) (H x) (r x) (H (x + 1)) (D x)) :=
  openOne_spec hev0 (T.one x o hx ho).1

theorem evol {x : Nat} (hx : x < n) : Evol (H x) (H (x + 1)) := by
  obtain ⟨o, ho⟩ := T.all x hx
  exact openOne_evol hev0 (T.one x o hx ho).1

theorem lo {x : Nat} (hx : x < n) : (D x).lo = (H x).size := by
  obtain ⟨o, ho⟩ := T.all x hx
  exact (T.spec hev0 hx ho).2.1
theorem hi {x : Nat} (hx : x < n) : (D x).hi = (H (x + 1)).size := by
  obtain ⟨o, ho⟩ := T.all x hx
  exact (T.spec hev0 hx ho).2.2.1

theorem mono : ∀ {x y : Nat}, x ≤ y → y ≤ n → (H x).size ≤ (H y).size := by
  intro x y hxy
  induction hxy with
  | refl => intro _; exact Nat.le_refl _
  | step _ ih => intro h; exact Nat.le_trans (ih (by omega)) (T.evol hev0 (by omega)).size

theorem base : ∀ {x : Nat}, x ≤ n → (H x).base = (H 0).base
  | 0, _ => rfl
  | x + 1, h => (T.evol hev0 (by omega)).base.trans (base (by omega))

theorem wmin : ∀ {x y : Nat}, x ≤ y → y ≤ n → (H y).wmin ≤ (H x).wmin := by
  intro x y hxy
  induction hxy with
  | refl => intro _; exact Nat.le_refl _
  | step _ ih => intro h; exact Nat.le_trans (T.evol hev0 (by omega)).wmin (ih (by omega))

theorem okId_iff {x i : Nat} (hx : x < n) : okId (H 0).size (ms x) (dsl D x) i = true ↔ Vis ms H x i := by
  unfold okId Vis
  simp only [Bool.or_eq_true, decide_eq_true_eq, seenBy_iff, Nat.zero_add]
  constructor
  · rintro (h | ⟨y, d, h1, h2, h3, h4⟩)
    · exact .inl h
    · have hy : y < x := by have := lt_of_get h1; rwa [dsl_length] at this
      rw [dsl_get hy] at h1; cases h1
      exact .inr ⟨y, hy, h2, by rw [← T.lo hev0 (by omega)]; exact h3, by rw [← T.hi hev0 (by omega)]; exact h4⟩
  · rintro (h | ⟨y, hy, h2, h3, h4⟩)
    · exact .inl h
    · exact .inr ⟨y, D y, dsl_get hy, h2, by rw [T.lo hev0 (by omega)]; exact h3, by rw [T.hi hev0 (by omega)]; exact h4⟩

/-- Ranges lie apart. -/
theorem apart {x y i : Nat} (hx : x < n) (hy : y < n) (h1 : (H x).size ≤ i) (h2 : i < (H (x + 1)).size) (h3 : (H y).size ≤ i) (h4 : i < (H (y + 1)).size) : x = y := by
  rcases Nat.lt_trichotomy x y with h | h | h
  · have := T.mono hev0 (show x + 1 ≤ y from h) (by omega); omega
  · exact h
  · have := T.mono hev0 (show y + 1 ≤ x from h) (by omega); omega

omit T hev0 in
theorem inRange {i : Nat} (h0 : (H 0).size ≤ i) : ∀ {x : Nat}, x ≤ n → i < (H x).size → ∃ y, y < x ∧ (H y).size ≤ i ∧ i < (H (y + 1)).size
  | 0, _, h => by omega
  | x + 1, hx, h => by
    rcases Nat.lt_or_ge i (H x).size with h1 | h1
    · obtain ⟨y, hy, h2⟩ := inRange h0 (by omega) h1
      exact ⟨y, by omega, h2⟩
    · exact ⟨x, by omega, h1, h⟩

omit hev0 in
/-- Neither waits for the other. -/
theorem noclash {x y : Nat} (hx : x < n) (hyx : y < x) (h : (ms x).testBit y = false) : clash (D x) (D y) = false := by
  obtain ⟨o, ho⟩ := T.all x hx
  rcases noClash_get _ 0 (T.one x o hx ho).2.2.2 y (D y) (dsl_get hyx) with h1 | h1
  · rw [Nat.zero_add, h] at h1; cases h1
  · exact h1

/-- A call that writes has seen all that was made ahead of it. -/
theorem writer {x y : Nat} (hx : x < n) (hw : (D x).wr ≠ none) (hyx : y < x) (hy : (H y).size < (H (y + 1)).size) : (ms x).testBit y = true := by
  obtain ⟨o, ho⟩ := T.all x hx
  obtain ⟨_, _, _, _, hs | hs⟩ := T.spec hev0 hx ho
  · obtain ⟨s1, g, _, _, _, h1 | h1 | h1⟩ := hs.run
    · have := allSeen_get _ 0 h1.1 y (D y) (dsl_get hyx)
      rw [Nat.zero_add, T.lo hev0 (by omega), T.hi hev0 (by omega)] at this
      rcases this with h2 | h2
      · exact h2
      · omega
    · exact absurd h1.2.2.1 hw
    · exact absurd h1.2.1 hw
  · exact absurd hs.did.2.2 hw

end Txt
end
end Go.Abs
