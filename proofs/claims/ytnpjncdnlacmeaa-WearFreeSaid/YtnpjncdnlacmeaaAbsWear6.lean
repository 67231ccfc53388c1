/-
  Layer 7: the law WearFree, whole.
-/
import Derived.Test.YtnpjncdnlacmeaaAbsWear4
namespace Go.Abs.AbsWear
set_option maxRecDepth 100000
set_option linter.unusedSimpArgs false
variable {os : List AObj} {b w : Nat}

theorem least_some {m : Sec → Bool} {k : Sec → Int} {L : List Sec} : ∀ i, i ≤ L.length → (least m k L i).2 = decide (0 < cnt m L i)
  | 0, _ => rfl
  | i + 1, hi => by
    have ih := least_some (m := m) (k := k) (L := L) i (by omega)
    obtain ⟨x, hx⟩ : ∃ x, L[i]? = some x := ⟨_, List.getElem?_eq_getElem (by omega)⟩
    simp only [least, cnt, hx]
    by_cases hm : m x = true
    · simp only [hm, if_true, Bool.true_and, Nat.succ_pos]
      split
      · rfl
      · rename_i hne
        simp at hne
        simp [hne.1]
    · simp [hm, ih]

theorem least_is {m : Sec → Bool} {k : Sec → Int} {L : List Sec} : ∀ i, i ≤ L.length → (least m k L i).2 = true → ∃ x, L[(least m k L i).1]? = some x ∧ m x = true
  | 0, _, h => by simp [least] at h
  | i + 1, hi, h => by
    obtain ⟨x, hx⟩ : ∃ x, L[i]? = some x := ⟨_, List.getElem?_eq_getElem (by omega)⟩
    simp only [least, hx] at h ⊢
    split
    · rename_i hc
      simp only [Bool.and_eq_true] at hc
      exact ⟨x, hx, hc.1⟩
    · rename_i hc
      rw [if_neg hc] at h
      exact least_is i (by omega) h

theorem least_app {m : Sec → Bool} {k : Sec → Int} {L : List Sec} {y : Sec} : ∀ i, i ≤ L.length → least m k (L ++ [y]) i = least m k L i
  | 0, _ => rfl
  | i + 1, hi => by
    have ih := least_app (m := m) (k := k) (L := L) (y := y) i (by omega)
    simp only [least, ih, List.getElem?_append_left (show i < L.length by omega)]
    split
    · rename_i x hx
      by_cases h2 : (least m k L i).2 = true
      · have h3 := least_lt m k L i (by omega) h2
        rw [List.getElem?_append_left h3]
      · simp [h2]
    · rfl

theorem least_snoc {m : Sec → Bool} {k : Sec → Int} {L : List Sec} {y : Sec} (hy : m y = false) : least m k (L ++ [y]) (L.length + 1) = least m k L L.length := by
  simp only [least, least_app L.length (Nat.le_refl _)]
  simp [hy]

theorem ids_cells : ∀ (L : List Sec) (r : List AVal), AVal.idsL (L.flatMap Sec.cells ++ r) = AVal.idsL r
  | [], r => rfl
  | x :: L, r => by
    rw [List.flatMap_cons, List.append_assoc]
    simp only [Sec.cells, List.cons_append, List.nil_append, AVal.idsL, AVal.ids]
    exact ids_cells L r
theorem ids_cells0 (L : List Sec) : AVal.idsL (L.flatMap Sec.cells) = [] := by
  have := ids_cells L []
  simpa [AVal.idsL] using this

theorem len_cells (L : List Sec) : (L.flatMap Sec.cells).length = L.length * 3 := flat_len Sec.cells 3 (fun _ => rfl) L

theorem s12 {lim : Int} {L : List Sec} {x : Sec} {a : Option (Nat × Nat)} {c : Option Nat} (hR : Row os 3 Sec.cells L a) (hn : L.length ≤ 9223372036854775807) (ha : ∀ i o, a = some (i, o) → i < os.length) (hb : b ≤ os.length) :
    xCall T 12 [.slice a L.length c, .int .i64 lim, .agg x.cells] ⟨os, b, w⟩ = some (.bool true, ⟨os, b, w⟩) := by
  obtain ⟨r, h8, hr⟩ := s8 (b := b) (w := os.length) (c := c) hR hn
  cases r with
  | false => simp [xCall_eq T t12, code12, s9, h8, Sec.cells]
  | true =>
    obtain ⟨h100, hg⟩ := hr rfl
    have h7 := fun w => s7 (b := b) (w := w) (lim := lim) (c := c) hR hn
    have h0 := fun w => s0 (b := b) (w := w) (lim := lim) (c := c) hR hn
    have hs := least_some (m := opn lim) (k := Sec.er) (L := L) L.length (Nat.le_refl _)
    have hi := least_is (m := opn lim) (k := Sec.er) (L := L) L.length (Nat.le_refl _)
    have hlt := least_lt (opn lim) Sec.er L L.length (Nat.le_refl _)
    have hy : opn lim ⟨2, x.seq, x.er⟩ = false := by simp [opn]
    have hsn := least_snoc (k := Sec.er) (L := L) hy
    by_cases hL : L = []
    · subst hL
      simp only [List.length_nil] at h8 h7 h0
      have hz : ∀ (w : Nat) (c' : Option Nat) (i : Nat) (os' : List AObj), os'[i]? = some (.cells 3 [.int .i64 2, .int .u32 x.seq, .int .i64 x.er]) → xCall T 7 [.slice (some (i, 0)) 1 c', .int .i64 lim] ⟨os', b, w⟩ = some (.tuple [.int .i64 0, .bool false], ⟨os', b, w⟩) := fun w c' i os' hk => by
        have := s7 (b := b) (w := w) (lim := lim) (c := c') (Row.mk0 (f := Sec.cells) (L := [⟨2, x.seq, x.er⟩]) (fun _ => rfl) (by simpa [Sec.cells] using hk)) (by simp)
        simpa [least, hy] using this
      cases a with
      | none => simp [xCall_eq T t12, code12, s9, h8, h7, h0, Sec.cells, least, cnt, Nat.testBit_eq_decide_div_mod_eq, hz]
      | some p =>
        obtain ⟨i, o⟩ := p
        have hio := ha i o rfl
        simp [xCall_eq T t12, code12, s9, h8, h7, h0, Sec.cells, least, cnt, Nat.testBit_eq_decide_div_mod_eq, hio, hz]
    · obtain ⟨bb, o, cs, rfl, hrow, hle, htk⟩ := Row.all hR hL
      have hpart : ∀ (j : Nat) (x : Sec), L[j]? = some x → o + j * 3 + 3 ≤ cs.length ∧ (cs.drop (o + j * 3)).take 3 = x.cells := by
        obtain ⟨bb', o', cs', e, hrow', hp⟩ := hR.at' hL
        cases e
        rw [hrow] at hrow'
        cases hrow'
        exact hp
      have hbb := lt_of_get hrow
      have hpos : 0 < L.length := List.length_pos_iff.2 hL
      have hne : ¬ (L.length = 0) := by omega
      have h24 : L.length * 24 ≤ 140737488355328 := by omega
      have hgb : os[bb] = .cells 3 cs := (List.getElem?_eq_some_iff.1 hrow).2
      have hb1 : b ≤ os.length + 1 := by omega
      have h24' : (L.length + 1) * 24 ≤ 140737488355328 := by omega
      have hn' : L.length + 1 ≤ 9223372036854775807 := by omega
      have hlen : (L.flatMap Sec.cells).length = L.length * 3 := len_cells L
      have htk2 : List.take (L.length * 3) (L.flatMap Sec.cells) = L.flatMap Sec.cells := by rw [← hlen, List.take_length]
      have i1 := ids_cells L
      have i2 := ids_cells0 L
      have hrow2 : (os ++ [AObj.cells 3 []])[bb]? = some (.cells 3 cs) := by rw [List.getElem?_append_left hbb]; exact hrow
      have hz : ∀ (w : Nat) (c' : Option Nat) (i : Nat) (os' : List AObj), os'[i]? = some (.cells 3 (L.flatMap Sec.cells ++ [.int .i64 2, .int .u32 x.seq, .int .i64 x.er])) → xCall T 7 [.slice (some (i, 0)) (L.length + 1) c', .int .i64 lim] ⟨os', b, w⟩ = some (.tuple [.int .i64 (least (opn lim) Sec.er L L.length).1, .bool (least (opn lim) Sec.er L L.length).2], ⟨os', b, w⟩) := fun w c' i os' hk => by
        have := s7 (b := b) (w := w) (lim := lim) (c := c') (Row.mk0 (f := Sec.cells) (L := L ++ [⟨2, x.seq, x.er⟩]) (fun _ => rfl) (by simpa [Sec.cells] using hk)) (by simp; omega)
        simpa [hsn] using this
      by_cases hc : 0 < cnt (opn lim) L L.length
      · simp only [hc, decide_true] at hs
        obtain ⟨y, hy1, hy2⟩ := hi hs
        have hlt' := hlt hs
        generalize least (opn lim) Sec.er L L.length = p at *
        obtain ⟨p1, p2⟩ := p
        simp only at hs hy1 hlt'
        subst hs
        obtain ⟨q1, q2⟩ := hpart p1 y hy1
        have hst : ¬ (y.st = 2) := by
          simp [opn] at hy2
          rcases hy2 with e | ⟨e, _⟩ <;> omega
        have hlti : (p1 : Int) < (L.length : Int) := by omega
        have hge : (0 : Int) ≤ p1 := by omega
        have q3 : (List.take 3 (List.drop (o + p1 * 3) cs))[0]? = some (.int .i64 y.st) := by rw [q2]; rfl
        have q4 : cs[o + p1 * 3]? = some (.int .i64 y.st) := by simpa using q3
        simp [xCall_eq T t12, code12, s9, h8, h7, h0, Sec.cells, hc, hrow, hbb, hle, htk, h24, hne, hrow2, Nat.testBit_eq_decide_div_mod_eq, hn, hn', h24', i1, i2, hlen, htk2, hb, hb1, hgb, hz, hlti, hge, q1, q2, q4, hst]
        done
      · simp only [hc, decide_false] at hs
        generalize least (opn lim) Sec.er L L.length = p at *
        obtain ⟨p1, p2⟩ := p
        simp only at hs
        subst hs
        simp [xCall_eq T t12, code12, s9, h8, h7, h0, Sec.cells, hc, hrow, hbb, hle, htk, h24, hne, hrow2, Nat.testBit_eq_decide_div_mod_eq, hn, hn', h24', i1, i2, hlen, htk2, hb, hb1, hgb, hz]
        done

end Go.Abs.AbsWear
