/-
  Layer 7: what its functions compute.
-/
import Derived.Test.YtnpjncdnlacmeaaAbsSym
import Derived.Test.YtnpjncdnlacmeaaAbsWearC
namespace Go.Abs.AbsWear
set_option maxRecDepth 100000
set_option linter.unusedSimpArgs false

structure Sec where
  st : Int
  seq : Int
  er : Int

def Sec.cells (s : Sec) : List AVal := [.int .i64 s.st, .int .u32 s.seq, .int .i64 s.er]
@[simp] theorem Sec.len (s : Sec) : s.cells.length = 3 := rfl
@[simp] theorem Sec.take3 (s : Sec) : s.cells.take 3 = s.cells := rfl

def opn (lim : Int) (x : Sec) : Bool := decide (x.st = 0) || (decide (x.st = 1) && decide (x.er < lim))

variable {os : List AObj} {b w : Nat}

/-- what wear.opens gives -/
theorem s22 {lim : Int} {x : Sec} {p : Nat} (hp : os[p]? = some (.cells 1 [.int .i64 lim])) :
    xCall T 22 [.agg x.cells, .ptr (some (p, 0))] ⟨os, b, w⟩ = some (.bool (opn lim x), ⟨os, b, w⟩) := by
  by_cases h0 : x.st = 0
  · simp [xCall_eq T t22, code22, Sec.cells, opn, hp, h0]
  · by_cases h1 : x.st = 1
    · simp [xCall_eq T t22, code22, Sec.cells, opn, hp, h0, h1]
    · simp [xCall_eq T t22, code22, Sec.cells, opn, hp, h0, h1]

/-- wear.opens -/
theorem s13 {lim : Int} : xCall T 13 [.int .i64 lim] ⟨os, b, w⟩ = some (.func 22 [] [.ptr (some (os.length, 0))], ⟨os ++ [.cells 1 [.int .i64 lim]], b, w⟩) := by
  simp [xCall_eq T t13, code13, reach_step, reach_done]

/-- wear.erases -/
theorem s15 {x : Sec} : xCall T 15 [.agg x.cells] ⟨os, b, w⟩ = some (.int .i64 x.er, ⟨os, b, w⟩) := by
  simp [xCall_eq T t15, code15, Sec.cells]

/-- carpetbagref07.opens -/
theorem s16 {lim : Int} {x : Sec} : xCall T 16 [.agg x.cells, .int .i64 lim] ⟨os, b, w⟩ = some (.bool (opn lim x), ⟨os, b, w⟩) := by
  by_cases h0 : x.st = 0
  · simp [xCall_eq T t16, code16, Sec.cells, opn, h0]
  · by_cases h1 : x.st = 1
    · simp [xCall_eq T t16, code16, Sec.cells, opn, h0, h1]
    · simp [xCall_eq T t16, code16, Sec.cells, opn, h0, h1]

theorem s18 {x : Sec} : xCall T 18 [.agg x.cells] ⟨os, b, w⟩ = some (.bool (decide (x.st = 2)), ⟨os, b, w⟩) := by
  simp [xCall_eq T t18, code18, Sec.cells]
theorem s19 {x : Sec} : xCall T 19 [.agg x.cells] ⟨os, b, w⟩ = some (.int .u32 x.seq, ⟨os, b, w⟩) := by
  simp [xCall_eq T t19, code19, Sec.cells]
theorem s21 {x : Sec} : xCall T 21 [.agg x.cells] ⟨os, b, w⟩ = some (.bool true, ⟨os, b, w⟩) := by
  simp [xCall_eq T t21, code21, Sec.cells]
theorem s20 {x : Sec} : xCall T 20 [.agg x.cells] ⟨os, b, w⟩ = some (.int .i64 (IntKind.i64.wrap (-x.er)), ⟨os, b, w⟩) := by
  simp [xCall_eq T t20, code20, Sec.cells]

/-! ## least -/

/-- The place of the first of those that may be taken with the least measure, among the first i. -/
def least (m : Sec → Bool) (k : Sec → Int) (L : List Sec) : Nat → Nat × Bool
  | 0 => (0, false)
  | i + 1 => match L[i]? with
    | some x => if m x && (!(least m k L i).2 || (L[(least m k L i).1]?).any fun y => decide (k x < k y)) then (i, true) else least m k L i
    | none => least m k L i

theorem least_lt (m : Sec → Bool) (k : Sec → Int) (L : List Sec) : ∀ i, i ≤ L.length → (least m k L i).2 = true → (least m k L i).1 < L.length
  | 0, _, h => by simp [least] at h
  | i + 1, hi, h => by
    simp only [least] at h ⊢
    split
    · split
      · show i < _; omega
      · rename_i hx hc
        rw [hx] at h
        simp only at h
        rw [if_neg hc] at h
        exact least_lt m k L i (by omega) h
    · rename_i hx
      rw [hx] at h
      exact least_lt m k L i (by omega) h

def stL (v mf kf : AVal) (n : Nat) (os : List AObj) (b w : Nat) (i : Nat) (p : Nat × Bool) : St :=
  ⟨[(0, .val v), (1, .val mf), (2, .val kf), (8, .val (.int .i64 p.1)), (9, .val (.bool p.2)), (12, .val v), (13, .val (.int .i64 n)), (14, .val (.int .i64 i))], ⟨os, b, w⟩⟩

theorem least_loop {kd : IntKind} {m : Sec → Bool} {k : Sec → Int} {L : List Sec} {a : Option (Nat × Nat)} {c : Option Nat} {gm gk : Nat} {am ak cm ck : List AVal} (hR : Row os 3 Sec.cells L a) (hn : L.length ≤ 9223372036854775807)
    (hm : ∀ (x : Sec) (w : Nat), xCall T gm (am ++ .agg x.cells :: cm) ⟨os, b, w⟩ = some (.bool (m x), ⟨os, b, w⟩))
    (hk : ∀ (x : Sec) (w : Nat), xCall T gk (ak ++ .agg x.cells :: ck) ⟨os, b, w⟩ = some (.int kd (k x), ⟨os, b, w⟩)) :
    xCode T (.loop code14L0) (stL (.slice a L.length c) (.func gm am cm) (.func gk ak ck) L.length os b w 0 (0, false)) =
      some (.exit 0, ⟨[(8, .val (.int .i64 (least m k L L.length).1)), (9, .val (.bool (least m k L L.length).2))], ⟨os, b, w⟩⟩) := by
  refine loop_all (fun i => stL (.slice a L.length c) (.func gm am cm) (.func gk ak ck) L.length os b w i (least m k L i)) L.length ?_ (by simp) ?_
  · intro i hi
    obtain ⟨x, hx⟩ : ∃ x, L[i]? = some x := ⟨_, List.getElem?_eq_getElem hi⟩
    obtain ⟨bb, o, cs, rfl, hrow, hpart⟩ := hR.at' (ne_of_get hx)
    obtain ⟨p1, p2⟩ := hpart i x hx
    have hlt := least_lt m k L i (by omega)
    have hw := wrap_next hi hn
    have hi' : (i : Int) < (L.length : Int) := by omega
    have hge : (0 : Int) ≤ i := by omega
    simp only [least, hx]
    generalize least m k L i = p at hlt
    obtain ⟨at_, f⟩ := p
    by_cases hmx : m x = true
    · cases f with
      | false =>
        simp [stL, code14L0, hi', hge, hrow, p1, p2, hm, hk, hmx, hw]
      | true =>
        have hat := hlt rfl
        simp only at hat
        obtain ⟨y, hy⟩ : ∃ y, L[at_]? = some y := ⟨_, List.getElem?_eq_getElem hat⟩
        obtain ⟨q1, q2⟩ := hpart at_ y hy
        have ha' : (at_ : Int) < (L.length : Int) := by omega
        have hage : (0 : Int) ≤ at_ := by omega
        by_cases hlt : k x < k y
        · simp [stL, code14L0, hi', hge, hrow, p1, p2, q1, q2, ha', hage, hm, hk, hmx, hw, hy, hlt]
        · simp [stL, code14L0, hi', hge, hrow, p1, p2, q1, q2, ha', hage, hm, hk, hmx, hw, hy, hlt]
    · simp [stL, code14L0, hi', hge, hrow, p1, p2, hm, hk, hmx, hw]
  · simp [stL, code14L0]

theorem s14 {m : Sec → Bool} {k : Sec → Int} {L : List Sec} {a : Option (Nat × Nat)} {c : Option Nat} {gm gk : Nat} {am ak cm ck : List AVal} (hR : Row os 3 Sec.cells L a) (hn : L.length ≤ 9223372036854775807)
    (hm : ∀ (x : Sec) (w : Nat), xCall T gm (am ++ .agg x.cells :: cm) ⟨os, b, w⟩ = some (.bool (m x), ⟨os, b, w⟩))
    (hk : ∀ (x : Sec) (w : Nat), xCall T gk (ak ++ .agg x.cells :: ck) ⟨os, b, w⟩ = some (.int .i64 (k x), ⟨os, b, w⟩)) :
    xCall T 14 [.slice a L.length c, .func gm am cm, .func gk ak ck] ⟨os, b, w⟩ = some (.tuple [.int .i64 (least m k L L.length).1, .bool (least m k L L.length).2], ⟨os, b, w⟩) := by
  have := least_loop (c := c) (w := os.length) hR hn hm hk
  simp only [stL, Int.cast_ofNat_Int] at this
  simp [xCall_eq T t14, code14, this]

theorem s17 {m : Sec → Bool} {k : Sec → Int} {L : List Sec} {a : Option (Nat × Nat)} {c : Option Nat} {gm gk : Nat} {am ak cm ck : List AVal} (hR : Row os 3 Sec.cells L a) (hn : L.length ≤ 9223372036854775807)
    (hm : ∀ (x : Sec) (w : Nat), xCall T gm (am ++ .agg x.cells :: cm) ⟨os, b, w⟩ = some (.bool (m x), ⟨os, b, w⟩))
    (hk : ∀ (x : Sec) (w : Nat), xCall T gk (ak ++ .agg x.cells :: ck) ⟨os, b, w⟩ = some (.int .u32 (k x), ⟨os, b, w⟩)) :
    xCall T 17 [.slice a L.length c, .func gm am cm, .func gk ak ck] ⟨os, b, w⟩ = some (.tuple [.int .i64 (least m k L L.length).1, .bool (least m k L L.length).2], ⟨os, b, w⟩) := by
  have := least_loop (c := c) (w := os.length) hR hn hm hk
  simp only [stL, Int.cast_ofNat_Int] at this
  have e : code17L0 = code14L0 := rfl
  simp [xCall_eq T t17, code17, e, this]

/-! ## Next, Oldest -/

theorem s7 {lim : Int} {L : List Sec} {a : Option (Nat × Nat)} {c : Option Nat} (hR : Row os 3 Sec.cells L a) (hn : L.length ≤ 9223372036854775807) :
    xCall T 7 [.slice a L.length c, .int .i64 lim] ⟨os, b, w⟩ = some (.tuple [.int .i64 (least (opn lim) Sec.er L L.length).1, .bool (least (opn lim) Sec.er L L.length).2], ⟨os, b, w⟩) := by
  have h1 := fun w => s14 (os := os ++ [.cells 1 [.int .i64 lim]]) (b := b) (w := w) (c := c) (m := opn lim) (k := Sec.er) (gm := 22) (gk := 15) (am := []) (ak := []) (cm := [.ptr (some (os.length, 0))]) (ck := []) (hR.ext _) hn
    (fun x w => s22 (by simp)) (fun x w => s15)
  simp [xCall_eq T t7, code7, s13, h1]

theorem s5 {L : List Sec} {a : Option (Nat × Nat)} {c : Option Nat} (hR : Row os 3 Sec.cells L a) (hn : L.length ≤ 9223372036854775807) :
    xCall T 5 [.slice a L.length c] ⟨os, b, w⟩ = some (.tuple [.int .i64 (least (fun x => decide (x.st = 2)) Sec.seq L L.length).1, .bool (least (fun x => decide (x.st = 2)) Sec.seq L L.length).2], ⟨os, b, w⟩) := by
  have h1 := fun w => s17 (os := os) (b := b) (w := w) (c := c) (m := fun x => decide (x.st = 2)) (k := Sec.seq) (gm := 18) (gk := 19) (am := []) (ak := []) (cm := []) (ck := []) hR hn
    (fun x w => s18) (fun x w => s19)
  simp [xCall_eq T t5, code5, h1]

/-- The document's: -1 where there is none. -/
def best (p : Nat × Bool) : Int := if p.2 then p.1 else -1

def stN (v lim : AVal) (n : Nat) (os : List AObj) (b w : Nat) (i : Nat) (p : Nat × Bool) : St :=
  ⟨[(0, .val v), (1, .val lim), (6, .val (.int .i64 (best p))), (9, .val v), (10, .val (.int .i64 n)), (11, .val (.int .i64 i))], ⟨os, b, w⟩⟩

theorem s6 {lim : Int} {L : List Sec} {a : Option (Nat × Nat)} {c : Option Nat} (hR : Row os 3 Sec.cells L a) (hn : L.length ≤ 9223372036854775807) :
    xCall T 6 [.slice a L.length c, .int .i64 lim] ⟨os, b, w⟩ = some (.tuple [.int .i64 (if (least (opn lim) Sec.er L L.length).2 then (least (opn lim) Sec.er L L.length).1 else 0), .bool (least (opn lim) Sec.er L L.length).2], ⟨os, b, w⟩) := by
  have hloop : ∀ w, xCode T (.loop code6L0) (stN (.slice a L.length c) (.int .i64 lim) L.length os b w 0 (0, false)) =
      some (.exit 0, ⟨[(6, .val (.int .i64 (best (least (opn lim) Sec.er L L.length))))], ⟨os, b, w⟩⟩) := by
    intro w
    refine loop_all (fun i => stN (.slice a L.length c) (.int .i64 lim) L.length os b w i (least (opn lim) Sec.er L i)) L.length ?_ (by simp) ?_
    · intro i hi
      obtain ⟨x, hx⟩ : ∃ x, L[i]? = some x := ⟨_, List.getElem?_eq_getElem hi⟩
      obtain ⟨bb, o, cs, rfl, hrow, hpart⟩ := hR.at' (ne_of_get hx)
      obtain ⟨p1, p2⟩ := hpart i x hx
      have hlt := least_lt (opn lim) Sec.er L i (by omega)
      have hw := wrap_next hi hn
      have hi' : (i : Int) < (L.length : Int) := by omega
      have hge : (0 : Int) ≤ i := by omega
      simp only [least, hx]
      generalize least (opn lim) Sec.er L i = p at hlt
      obtain ⟨at_, f⟩ := p
      have hxc : x.cells[2]? = some (.int .i64 x.er) := rfl
      by_cases hmx : opn lim x = true
      · cases f with
        | false =>
          simp [stN, code6L0, best, hi', hge, hrow, p1, p2, s16, hmx, hw]
        | true =>
          have hat := hlt rfl
          simp only at hat
          obtain ⟨y, hy⟩ : ∃ y, L[at_]? = some y := ⟨_, List.getElem?_eq_getElem hat⟩
          obtain ⟨q1, q2⟩ := hpart at_ y hy
          have ha' : (at_ : Int) < (L.length : Int) := by omega
          have hage : (0 : Int) ≤ at_ := by omega
          have hnl : ¬ ((at_ : Int) < 0) := by omega
          have q3 : cs[o + at_ * 3 + 2]? = some (.int .i64 y.er) := by
            have := congrArg (fun l => l[2]?) q2
            simpa [List.getElem?_take, List.getElem?_drop, Sec.cells] using this
          by_cases hlt : x.er < y.er
          · simp [stN, code6L0, best, hi', hge, hrow, p1, p2, q1, q2, q3, ha', hage, hnl, s16, hmx, hw, hy, hlt, hxc]
          · simp [stN, code6L0, best, hi', hge, hrow, p1, p2, q1, q2, q3, ha', hage, hnl, s16, hmx, hw, hy, hlt, hxc]
      · simp [stN, code6L0, hi', hge, hrow, p1, p2, s16, hmx, hw]
    · simp [stN, code6L0]
  simp only [stN, best, Int.cast_ofNat_Int, Bool.false_eq_true, if_false] at hloop
  simp [xCall_eq T t6, code6, hloop]
  generalize least (opn lim) Sec.er L L.length = p
  obtain ⟨at_, f⟩ := p
  cases f <;> simp
  omega

end Go.Abs.AbsWear
