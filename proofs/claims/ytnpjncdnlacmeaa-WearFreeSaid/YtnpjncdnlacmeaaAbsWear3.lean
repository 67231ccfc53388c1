/-
  Layer 7: Spread; the law WearTells.
-/
import Derived.Test.YtnpjncdnlacmeaaAbsWear2
namespace Go.Abs.AbsWear
set_option maxRecDepth 100000
set_option linter.unusedSimpArgs false
variable {os : List AObj} {b w : Nat}

def lowF (L : List Sec) : Nat → Int
  | 0 => (L[0]?.map Sec.er).getD 0
  | i + 1 => match L[i]? with
    | some x => if x.er < lowF L i then x.er else lowF L i
    | none => lowF L i
def highF (L : List Sec) : Nat → Int
  | 0 => (L[0]?.map Sec.er).getD 0
  | i + 1 => match L[i]? with
    | some x => if highF L i < x.er then x.er else highF L i
    | none => highF L i

theorem least_low (L : List Sec) : ∀ i, 0 < i → i ≤ L.length → (least (fun _ => true) Sec.er L i).2 = true ∧ ∃ y, L[(least (fun _ => true) Sec.er L i).1]? = some y ∧ y.er = lowF L i
  | 0, h, _ => absurd h (by omega)
  | i + 1, _, hi => by
    obtain ⟨x, hx⟩ : ∃ x, L[i]? = some x := ⟨_, List.getElem?_eq_getElem (by omega)⟩
    rcases Nat.eq_zero_or_pos i with h0 | h0
    · subst h0
      simp [least, lowF, hx]
    · obtain ⟨h1, y, h2, h3⟩ := least_low L i h0 (by omega)
      simp only [least, lowF, hx, h2, ← h3, h1]
      by_cases h : x.er < y.er
      · simp [h, hx]
      · simp [h, h1, h2]

theorem least_high (k : Sec → Int) (L : List Sec) (hk : ∀ x ∈ L, k x = -x.er) : ∀ i, 0 < i → i ≤ L.length → (least (fun _ => true) k L i).2 = true ∧ ∃ y, L[(least (fun _ => true) k L i).1]? = some y ∧ y.er = highF L i
  | 0, h, _ => absurd h (by omega)
  | i + 1, _, hi => by
    obtain ⟨x, hx⟩ : ∃ x, L[i]? = some x := ⟨_, List.getElem?_eq_getElem (by omega)⟩
    rcases Nat.eq_zero_or_pos i with h0 | h0
    · subst h0
      simp [least, highF, hx]
    · obtain ⟨h1, y, h2, h3⟩ := least_high k L hk i h0 (by omega)
      simp only [least, highF, hx, h2, ← h3, h1, hk x (List.mem_of_getElem? hx)]
      have hy := hk y (List.mem_of_getElem? h2)
      by_cases h : y.er < x.er
      · have : -x.er < -y.er := by omega
        simp [h, this, hx, hy]
      · have : ¬ -x.er < -y.er := by omega
        simp [h, this, h1, h2, hy]

def fine (x : Sec) : Prop := 0 ≤ x.er ∧ x.er ≤ 4611686018427387904
theorem good.fine {x : Sec} (h : good x) : fine x := ⟨h.1, by have := h.2; omega⟩

def spread (L : List Sec) : Int := if L = [] then 0 else highF L L.length - lowF L L.length

theorem lowF_good (L : List Sec) (hg : ∀ x ∈ L, fine x) : ∀ i, 0 ≤ lowF L i ∧ lowF L i ≤ 4611686018427387904
  | 0 => by
    simp only [lowF]
    cases h : L[0]? with
    | none => simp
    | some x => exact hg x (List.mem_of_getElem? h)
  | i + 1 => by
    simp only [lowF]
    split
    · rename_i x hx
      split
      · exact hg x (List.mem_of_getElem? hx)
      · exact lowF_good L hg i
    · exact lowF_good L hg i

theorem highF_good (L : List Sec) (hg : ∀ x ∈ L, fine x) : ∀ i, 0 ≤ highF L i ∧ highF L i ≤ 4611686018427387904
  | 0 => by
    simp only [highF]
    cases h : L[0]? with
    | none => simp
    | some x => exact hg x (List.mem_of_getElem? h)
  | i + 1 => by
    simp only [highF]
    split
    · rename_i x hx
      split
      · exact hg x (List.mem_of_getElem? hx)
      · exact highF_good L hg i
    · exact highF_good L hg i

theorem s2 {L : List Sec} {a : Option (Nat × Nat)} {c : Option Nat} (hR : Row os 3 Sec.cells L a) (hn : L.length ≤ 9223372036854775807) (hg : ∀ x ∈ L, fine x) :
    xCall T 2 [.slice a L.length c] ⟨os, b, w⟩ = some (.int .i64 (spread L), ⟨os, b, w⟩) := by
  by_cases hL : L = []
  · subst hL
    simp [xCall_eq T t2, code2, spread]
  · have hlen : 0 < L.length := List.length_pos_iff.2 hL
    have hne : ¬ ((L.length : Int) = 0) := by omega
    have h1 := fun w => s14 (os := os) (b := b) (w := w) (c := c) (m := fun _ => true) (k := Sec.er) (gm := 21) (gk := 15) (am := []) (ak := []) (cm := []) (ck := []) hR hn (fun x w => s21) (fun x w => s15)
    have h2 := fun w => s14 (os := os) (b := b) (w := w) (c := c) (m := fun _ => true) (k := fun x => IntKind.i64.wrap (-x.er)) (gm := 21) (gk := 20) (am := []) (ak := []) (cm := []) (ck := []) hR hn (fun x w => s21) (fun x w => s20)
    obtain ⟨k1, y, k2, k3⟩ := least_low L L.length hlen (Nat.le_refl _)
    obtain ⟨k4, z, k5, k6⟩ := least_high (fun x => IntKind.i64.wrap (-x.er)) L (fun x hx => by have := hg x hx; unfold fine at this; exact wrap64 (by omega) (by omega)) L.length hlen (Nat.le_refl _)
    obtain ⟨bb, o, cs, rfl, hrow, hpart⟩ := hR.at' hL
    generalize least (fun _ => true) Sec.er L L.length = p at *
    generalize least (fun _ => true) (fun x => IntKind.i64.wrap (-x.er)) L L.length = q at *
    obtain ⟨p1, p2⟩ := p
    obtain ⟨q1, q2⟩ := q
    simp only at k1 k2 k4 k5
    subst k1; subst k4
    obtain ⟨m1, m2⟩ := hpart _ _ k2
    obtain ⟨m3, m4⟩ := hpart _ _ k5
    have e1 : cs[o + p1 * 3 + 2]? = some (.int .i64 (lowF L L.length)) := by
      have := congrArg (fun l => l[2]?) m2
      simpa [List.getElem?_take, List.getElem?_drop, Sec.cells, k3] using this
    have e2 : cs[o + q1 * 3 + 2]? = some (.int .i64 (highF L L.length)) := by
      have := congrArg (fun l => l[2]?) m4
      simpa [List.getElem?_take, List.getElem?_drop, Sec.cells, k6] using this
    have l1 : (p1 : Int) < (L.length : Int) := by have := get_lt k2; omega
    have l2 : (q1 : Int) < (L.length : Int) := by have := get_lt k5; omega
    have g1 : (0 : Int) ≤ p1 := by omega
    have g2 : (0 : Int) ≤ q1 := by omega
    have hlo := lowF_good L hg L.length
    have hhi := highF_good L hg L.length
    have hw : IntKind.i64.wrap (highF L L.length - lowF L L.length) = highF L L.length - lowF L L.length := wrap64 (by omega) (by omega)
    simp [xCall_eq T t2, code2, spread, hL, hne, h1, h2, hrow, e1, e2, l1, l2, g1, g2, hw]

theorem s3 {L : List Sec} {a : Option (Nat × Nat)} {c : Option Nat} (hR : Row os 3 Sec.cells L a) (hn : L.length ≤ 9223372036854775807) (hg : ∀ x ∈ L, fine x) :
    xCall T 3 [.slice a L.length c] ⟨os, b, w⟩ = some (.int .i64 (spread L), ⟨os, b, w⟩) := by
  by_cases hL : L = []
  · subst hL
    simp [xCall_eq T t3, code3, spread]
  · have hlen : 0 < L.length := List.length_pos_iff.2 hL
    have hne : ¬ ((L.length : Int) = 0) := by omega
    obtain ⟨bb, o, cs, rfl, hrow, hpart⟩ := hR.at' hL
    obtain ⟨y, hy⟩ : ∃ x, L[0]? = some x := ⟨_, List.getElem?_eq_getElem hlen⟩
    have hloop : ∀ w, xCode T (.loop code3L0) ⟨[(3, .val (.int .i64 (lowF L 0))), (4, .val (.int .i64 (highF L 0))), (18, .val (.slice (some (bb, o)) L.length c)), (19, .val (.int .i64 L.length)), (20, .val (.int .i64 (0 : Nat)))], ⟨os, b, w⟩⟩ =
        some (.exit 0, ⟨[(3, .val (.int .i64 (lowF L L.length))), (4, .val (.int .i64 (highF L L.length)))], ⟨os, b, w⟩⟩) := by
      intro w
      refine loop_all (e := .exit 0) (fun i => ⟨[(3, .val (.int .i64 (lowF L i))), (4, .val (.int .i64 (highF L i))), (18, .val (.slice (some (bb, o)) L.length c)), (19, .val (.int .i64 L.length)), (20, .val (.int .i64 i))], ⟨os, b, w⟩⟩) L.length ?_ (by simp) ?_
      · intro i hi
        obtain ⟨x, hx⟩ : ∃ x, L[i]? = some x := ⟨_, List.getElem?_eq_getElem hi⟩
        obtain ⟨p1, p2⟩ := hpart i x hx
        have hw := wrap_next hi hn
        have hi' : (i : Int) < (L.length : Int) := by omega
        have hge : (0 : Int) ≤ i := by omega
        have hxc : x.cells[2]? = some (.int .i64 x.er) := rfl
        simp only [lowF, highF, hx]
        by_cases h1 : x.er < lowF L i <;> by_cases h2 : highF L i < x.er <;>
          simp [code3L0, hi', hge, hrow, p1, p2, hxc, hw, h1, h2]
      · simp [code3L0]
    have e0 : lowF L 0 = y.er := by simp [lowF, hy]
    have e00 : highF L 0 = y.er := by simp [highF, hy]
    rw [e0, e00] at hloop
    simp only [Int.cast_ofNat_Int] at hloop
    obtain ⟨p1, p2⟩ := hpart 0 y hy
    simp only [Nat.zero_mul, Nat.add_zero] at p1 p2
    have e1 : cs[o + 2]? = some (.int .i64 y.er) := by
      have := congrArg (fun l => l[2]?) p2
      simpa [List.getElem?_take, List.getElem?_drop, Sec.cells] using this
    have l1 : (0 : Int) < (L.length : Int) := by omega
    have hlo := lowF_good L hg L.length
    have hhi := highF_good L hg L.length
    have hw : IntKind.i64.wrap (highF L L.length - lowF L L.length) = highF L L.length - lowF L L.length := wrap64 (by omega) (by omega)
    simp [xCall_eq T t3, code3, spread, hL, hne, hrow, e1, l1, hlen, hloop, hw]

theorem least_none (m : Sec → Bool) (k : Sec → Int) (L : List Sec) : ∀ i, (least m k L i).2 = false → (least m k L i).1 = 0
  | 0, _ => rfl
  | i + 1, h => by
    simp only [least] at h ⊢
    split
    · rename_i x hx
      rw [hx] at h
      simp only at h
      split
      · rename_i hc; rw [if_pos hc] at h; cases h
      · rename_i hc; rw [if_neg hc] at h; exact least_none m k L i h
    · rename_i hx
      rw [hx] at h
      exact least_none m k L i h

theorem pick_same (m : Sec → Bool) (k : Sec → Int) (L : List Sec) (i : Nat) : (if (least m k L i).2 = true then ((least m k L i).1 : Int) else 0) = ((least m k L i).1 : Int) := by
  split
  · rfl
  · rename_i h
    rw [least_none m k L i (by simpa using h)]; rfl

/-- The law WearTells. -/
theorem s10 {L : List Sec} {a : Option (Nat × Nat)} {c : Option Nat} {lim : Int} (hR : Row os 3 Sec.cells L a) (hn : L.length ≤ 9223372036854775807) :
    xCall T 10 [.slice a L.length c, .int .i64 lim] ⟨os, b, w⟩ = some (.bool true, ⟨os, b, w⟩) := by
  obtain ⟨r, h8, hr⟩ := s8 (b := b) (w := os.length) (c := c) hR hn
  cases r with
  | false => simp [xCall_eq T t10, code10, s9, h8]
  | true =>
    obtain ⟨_, hg⟩ := hr rfl
    have h7 := fun w => s7 (b := b) (w := w) (c := c) (lim := lim) hR hn
    have h6 := fun w => s6 (b := b) (w := w) (c := c) (lim := lim) hR hn
    have h5 := fun w => s5 (b := b) (w := w) (c := c) hR hn
    have h4 := fun w => s4 (b := b) (w := w) (c := c) hR hn
    have h0 := fun w => s0 (b := b) (w := w) (c := c) (lim := lim) hR hn
    have h1 := fun w => s1 (b := b) (w := w) (c := c) (lim := lim) hR hn
    have h2 := fun w => s2 (b := b) (w := w) (c := c) hR hn fun x hx => (hg x hx).fine
    have h3 := fun w => s3 (b := b) (w := w) (c := c) hR hn fun x hx => (hg x hx).fine
    simp only [pick_same] at h6 h4
    simp [xCall_eq T t10, code10, s9, h8, h7, h6, h5, h4, h0, h1, h2, h3]

end Go.Abs.AbsWear
