/-
  Layer 7, more: Oldest, Free, Spread, and what a law asks first.
-/
import Derived.Test.YtnpjncdnlacmeaaAbsWear
namespace Go.Abs.AbsWear
set_option maxRecDepth 100000
set_option linter.unusedSimpArgs false
variable {os : List AObj} {b w : Nat}

def stO (v : AVal) (n : Nat) (os : List AObj) (b w : Nat) (i : Nat) (p : Nat × Bool) : St :=
  ⟨[(0, .val v), (4, .val (.int .i64 (best p))), (7, .val v), (8, .val (.int .i64 n)), (9, .val (.int .i64 i))], ⟨os, b, w⟩⟩

theorem s4 {L : List Sec} {a : Option (Nat × Nat)} {c : Option Nat} (hR : Row os 3 Sec.cells L a) (hn : L.length ≤ 9223372036854775807) :
    xCall T 4 [.slice a L.length c] ⟨os, b, w⟩ = some (.tuple [.int .i64 (if (least (fun x => decide (x.st = 2)) Sec.seq L L.length).2 then (least (fun x => decide (x.st = 2)) Sec.seq L L.length).1 else 0), .bool (least (fun x => decide (x.st = 2)) Sec.seq L L.length).2], ⟨os, b, w⟩) := by
  have hloop : ∀ w, xCode T (.loop code4L0) (stO (.slice a L.length c) L.length os b w 0 (0, false)) =
      some (.exit 0, ⟨[(4, .val (.int .i64 (best (least (fun x => decide (x.st = 2)) Sec.seq L L.length))))], ⟨os, b, w⟩⟩) := by
    intro w
    refine loop_all (fun i => stO (.slice a L.length c) L.length os b w i (least (fun x => decide (x.st = 2)) Sec.seq L i)) L.length ?_ (by simp) ?_
    · intro i hi
      obtain ⟨x, hx⟩ : ∃ x, L[i]? = some x := ⟨_, List.getElem?_eq_getElem hi⟩
      obtain ⟨bb, o, cs, rfl, hrow, hpart⟩ := hR.at' (ne_of_get hx)
      obtain ⟨p1, p2⟩ := hpart i x hx
      have hlt := least_lt (fun x => decide (x.st = 2)) Sec.seq L i (by omega)
      have hw := wrap_next hi hn
      have hi' : (i : Int) < (L.length : Int) := by omega
      have hge : (0 : Int) ≤ i := by omega
      simp only [least, hx]
      generalize least (fun x => decide (x.st = 2)) Sec.seq L i = p at hlt
      obtain ⟨at_, f⟩ := p
      have hxc : x.cells[1]? = some (.int .u32 x.seq) := rfl
      have hx0 : x.cells[0]? = some (.int .i64 x.st) := rfl
      by_cases hmx : x.st = 2
      · cases f with
        | false =>
          simp [stO, code4L0, best, hi', hge, hrow, p1, p2, hmx, hx0, hw]
        | true =>
          have hat := hlt rfl
          simp only at hat
          obtain ⟨y, hy⟩ : ∃ y, L[at_]? = some y := ⟨_, List.getElem?_eq_getElem hat⟩
          obtain ⟨q1, q2⟩ := hpart at_ y hy
          have ha' : (at_ : Int) < (L.length : Int) := by omega
          have hage : (0 : Int) ≤ at_ := by omega
          have hnl : ¬ ((at_ : Int) < 0) := by omega
          have q3 : cs[o + at_ * 3 + 1]? = some (.int .u32 y.seq) := by
            have := congrArg (fun l => l[1]?) q2
            simpa [List.getElem?_take, List.getElem?_drop, Sec.cells] using this
          by_cases hlt : x.seq < y.seq
          · simp [stO, code4L0, best, hi', hge, hrow, p1, p2, q1, q2, q3, ha', hage, hnl, hmx, hw, hy, hlt, hxc, hx0]
          · simp [stO, code4L0, best, hi', hge, hrow, p1, p2, q1, q2, q3, ha', hage, hnl, hmx, hw, hy, hlt, hxc, hx0]
      · simp [stO, code4L0, hi', hge, hrow, p1, p2, hmx, hx0, hw]
    · simp [stO, code4L0]
  simp only [stO, best, Int.cast_ofNat_Int, Bool.false_eq_true, if_false] at hloop
  simp [xCall_eq T t4, code4, hloop]
  generalize least (fun x => decide (x.st = 2)) Sec.seq L L.length = p
  obtain ⟨at_, f⟩ := p
  cases f <;> simp
  omega

/-! ## Free -/

def cnt (m : Sec → Bool) (L : List Sec) : Nat → Nat
  | 0 => 0
  | i + 1 => match L[i]? with
    | some x => if m x then cnt m L i + 1 else cnt m L i
    | none => cnt m L i

theorem cnt_le (m : Sec → Bool) (L : List Sec) : ∀ i, cnt m L i ≤ i
  | 0 => Nat.le_refl _
  | i + 1 => by
    have := cnt_le m L i
    simp only [cnt]
    split
    · split <;> omega
    · omega

theorem s0 {lim : Int} {L : List Sec} {a : Option (Nat × Nat)} {c : Option Nat} (hR : Row os 3 Sec.cells L a) (hn : L.length ≤ 9223372036854775807) :
    xCall T 0 [.slice a L.length c, .int .i64 lim] ⟨os, b, w⟩ = some (.int .i64 (cnt (opn lim) L L.length), ⟨os, b, w⟩) := by
  have hloop : ∀ w, xCode T (.loop code0L0) ⟨[(5, .val (.int .i64 0)), (6, .val (.func 22 [] [.ptr (some (os.length, 0))])), (11, .val (.slice a L.length c)), (12, .val (.int .i64 L.length)), (13, .val (.int .i64 0))], ⟨os ++ [.cells 1 [.int .i64 lim]], b, w⟩⟩ =
      some (.exit 0, ⟨[(5, .val (.int .i64 (cnt (opn lim) L L.length)))], ⟨os ++ [.cells 1 [.int .i64 lim]], b, w⟩⟩) := by
    intro w
    refine loop_all (e := .exit 0) (fun i => ⟨[(5, .val (.int .i64 (cnt (opn lim) L i))), (6, .val (.func 22 [] [.ptr (some (os.length, 0))])), (11, .val (.slice a L.length c)), (12, .val (.int .i64 L.length)), (13, .val (.int .i64 i))], ⟨os ++ [.cells 1 [.int .i64 lim]], b, w⟩⟩) L.length ?_ (by simp) ?_
    · intro i hi
      obtain ⟨x, hx⟩ : ∃ x, L[i]? = some x := ⟨_, List.getElem?_eq_getElem hi⟩
      obtain ⟨bb, o, cs, rfl, hrow, hpart⟩ := (hR.ext [.cells 1 [.int .i64 lim]]).at' (ne_of_get hx)
      obtain ⟨p1, p2⟩ := hpart i x hx
      have hw := wrap_next hi hn
      have hi' : (i : Int) < (L.length : Int) := by omega
      have hge : (0 : Int) ≤ i := by omega
      have hc := cnt_le (opn lim) L i
      have hw2 := wrap_next (i := cnt (opn lim) L i) (n := L.length) (by omega) hn
      have h22 : ∀ w, xCall T 22 [.agg x.cells, .ptr (some (os.length, 0))] ⟨os ++ [.cells 1 [.int .i64 lim]], b, w⟩ = some (.bool (opn lim x), ⟨os ++ [.cells 1 [.int .i64 lim]], b, w⟩) := fun w => s22 (by simp)
      simp only [cnt, hx]
      by_cases hmx : opn lim x = true
      · simp [code0L0, hi', hge, hrow, p1, p2, h22, hmx, hw, hw2]
      · simp [code0L0, hi', hge, hrow, p1, p2, h22, hmx, hw]
    · simp [code0L0]
  simp [xCall_eq T t0, code0, s13, hloop]

theorem s1 {lim : Int} {L : List Sec} {a : Option (Nat × Nat)} {c : Option Nat} (hR : Row os 3 Sec.cells L a) (hn : L.length ≤ 9223372036854775807) :
    xCall T 1 [.slice a L.length c, .int .i64 lim] ⟨os, b, w⟩ = some (.int .i64 (cnt (opn lim) L L.length), ⟨os, b, w⟩) := by
  have hloop : ∀ w, xCode T (.loop code1L0) ⟨[(1, .val (.int .i64 lim)), (5, .val (.int .i64 0)), (8, .val (.slice a L.length c)), (9, .val (.int .i64 L.length)), (10, .val (.int .i64 0))], ⟨os, b, w⟩⟩ =
      some (.exit 0, ⟨[(5, .val (.int .i64 (cnt (opn lim) L L.length)))], ⟨os, b, w⟩⟩) := by
    intro w
    refine loop_all (e := .exit 0) (fun i => ⟨[(1, .val (.int .i64 lim)), (5, .val (.int .i64 (cnt (opn lim) L i))), (8, .val (.slice a L.length c)), (9, .val (.int .i64 L.length)), (10, .val (.int .i64 i))], ⟨os, b, w⟩⟩) L.length ?_ (by simp) ?_
    · intro i hi
      obtain ⟨x, hx⟩ : ∃ x, L[i]? = some x := ⟨_, List.getElem?_eq_getElem hi⟩
      obtain ⟨bb, o, cs, rfl, hrow, hpart⟩ := hR.at' (ne_of_get hx)
      obtain ⟨p1, p2⟩ := hpart i x hx
      have hw := wrap_next hi hn
      have hi' : (i : Int) < (L.length : Int) := by omega
      have hge : (0 : Int) ≤ i := by omega
      have hc := cnt_le (opn lim) L i
      have hw2 := wrap_next (i := cnt (opn lim) L i) (n := L.length) (by omega) hn
      simp only [cnt, hx]
      by_cases hmx : opn lim x = true
      · simp [code1L0, hi', hge, hrow, p1, p2, s16, hmx, hw, hw2]
      · simp [code1L0, hi', hge, hrow, p1, p2, s16, hmx, hw]
    · simp [code1L0]
  simp [xCall_eq T t1, code1, hloop]

/-! ## right -/

def good (x : Sec) : Prop := 0 ≤ x.er ∧ x.er ≤ 1048576
instance (x : Sec) : Decidable (good x) := inferInstanceAs (Decidable (_ ∧ _))

theorem s8 {L : List Sec} {a : Option (Nat × Nat)} {c : Option Nat} (hR : Row os 3 Sec.cells L a) (hn : L.length ≤ 9223372036854775807) :
    ∃ r, xCall T 8 [.slice a L.length c] ⟨os, b, w⟩ = some (.bool r, ⟨os, b, w⟩) ∧ (r = true → L.length ≤ 100 ∧ ∀ x ∈ L, good x) := by
  have body : ∀ (w i : Nat) (x : Sec), L[i]? = some x → xCode T code8L0 ⟨[(0, .val (.slice a L.length c)), (5, .val (.slice a L.length c)), (6, .val (.int .i64 L.length)), (7, .val (.int .i64 i))], ⟨os, b, w⟩⟩ =
      if good x then some (.normal, ⟨[(0, .val (.slice a L.length c)), (5, .val (.slice a L.length c)), (6, .val (.int .i64 L.length)), (7, .val (.int .i64 (i + 1 : Nat)))], ⟨os, b, w⟩⟩)
      else some (.ret, ⟨[(2, .val (.bool false))], ⟨os, b, w⟩⟩) := by
    intro w i x hx
    have hi := get_lt hx
    obtain ⟨bb, o, cs, rfl, hrow, hpart⟩ := hR.at' (ne_of_get hx)
    obtain ⟨p1, p2⟩ := hpart i x hx
    have hw := wrap_next hi hn
    have hi' : (i : Int) < (L.length : Int) := by omega
    have hge : (0 : Int) ≤ i := by omega
    have hxc : x.cells[2]? = some (.int .i64 x.er) := rfl
    by_cases h1 : x.er < 0
    · have : ¬ good x := fun h => by have := h.1; omega
      simp [code8L0, hi', hge, hrow, p1, p2, hxc, h1, this]
    · by_cases h2 : x.er > 1048576
      · have : ¬ good x := fun h => by have := h.2; omega
        simp [code8L0, hi', hge, hrow, p1, p2, hxc, h1, h2, this]
      · have : good x := ⟨by omega, by omega⟩
        simp [code8L0, hi', hge, hrow, p1, p2, hxc, h1, h2, this, hw]
  rcases first_bad good L with hall | ⟨j, x, hx, hbad, hpre⟩
  · have hloop : ∀ w, xCode T (.loop code8L0) ⟨[(0, .val (.slice a L.length c)), (5, .val (.slice a L.length c)), (6, .val (.int .i64 L.length)), (7, .val (.int .i64 0))], ⟨os, b, w⟩⟩ = some (.exit 0, ⟨[(0, .val (.slice a L.length c))], ⟨os, b, w⟩⟩) := by
      intro w
      refine loop_all (e := .exit 0) (fun i => ⟨[(0, .val (.slice a L.length c)), (5, .val (.slice a L.length c)), (6, .val (.int .i64 L.length)), (7, .val (.int .i64 i))], ⟨os, b, w⟩⟩) L.length ?_ (by simp) ?_
      · intro i hi
        obtain ⟨x, hx⟩ : ∃ x, L[i]? = some x := ⟨_, List.getElem?_eq_getElem hi⟩
        rw [body w i x hx, if_pos (hall x (List.mem_of_getElem? hx))]
      · simp [code8L0]
    refine ⟨decide ((L.length : Int) ≤ 100), by simp [xCall_eq T t8, code8, hloop], fun h => ⟨?_, hall⟩⟩
    simp at h; omega
  · have hloop : ∀ w, xCode T (.loop code8L0) ⟨[(0, .val (.slice a L.length c)), (5, .val (.slice a L.length c)), (6, .val (.int .i64 L.length)), (7, .val (.int .i64 0))], ⟨os, b, w⟩⟩ = some (.ret, ⟨[(2, .val (.bool false))], ⟨os, b, w⟩⟩) := by
      intro w
      refine loop_all (e := .ret) (fun i => ⟨[(0, .val (.slice a L.length c)), (5, .val (.slice a L.length c)), (6, .val (.int .i64 L.length)), (7, .val (.int .i64 i))], ⟨os, b, w⟩⟩) j ?_ (by simp) ?_
      · intro i hi
        obtain ⟨y, hy⟩ : ∃ y, L[i]? = some y := ⟨_, List.getElem?_eq_getElem (by have := get_lt hx; omega)⟩
        rw [body w i y hy, if_pos (hpre i hi y hy)]
      · rw [body w j x hx, if_neg hbad]
    exact ⟨false, by simp [xCall_eq T t8, code8, hloop], by simp⟩

/-- The calls whose answers the document fixes. -/
theorem s9 (h : Heap) : xCall T 9 [] h = some (.bool true, h) :=
  closed_run (f := code9) t9 rfl 60 rfl rfl (h' := ⟨[], 0, 0⟩) (by kernel_rfl) h

end Go.Abs.AbsWear
