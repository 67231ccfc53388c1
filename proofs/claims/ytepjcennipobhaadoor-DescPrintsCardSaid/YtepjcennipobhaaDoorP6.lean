/-
  Layer 12: strings.Split at one byte, desc.IsClass.
-/
import Derived.Test.YtepjcennipobhaaDoorP5
import Derived.Test.YtepjcennipobhaaDoorP4
namespace Go.Abs.AbsDesc
set_option maxRecDepth 100000
set_option linter.unusedSimpArgs false
variable {os : List AObj} {b w : Nat}

theorem ids_strs : ∀ L : List (List UInt8), AVal.idsL (L.map AVal.str) = []
  | [] => rfl
  | x :: L => by
    rw [List.map_cons]
    simp only [AVal.idsL, AVal.ids, ids_strs L]
    rfl

theorem ren_strs (f : Nat → Nat) : ∀ L : List (List UInt8), AVal.renL f (L.map AVal.str) = L.map AVal.str
  | [] => rfl
  | x :: L => by
    rw [List.map_cons]
    simp only [AVal.renL, AVal.ren, ren_strs f L]

theorem s143 {s : List UInt8} {c : UInt8} (hn : s.length ≤ 1000000) (hb : b ≤ os.length) :
    xCall T 143 [.str s, .str [c], .int .i64 0, .int .i64 (-1)] ⟨os, b, w⟩ =
      some (.slice (some (os.length, 0)) (parts c s).length (some (parts c s).length), ⟨os ++ [.cells 1 ((parts c s).map AVal.str)], b, w⟩) := by
  have hlen := parts_length c s
  have hcnt := count_le c s
  have hl := split_loop (os := os) (c := c) hn hb
  have hz := mem_zero (Lib.countByte s c + 1) (parts c s) hlen
  have hlast := mem_set (rest_last (c := c) (s := s) (i := Lib.countByte s c) hlen.symm)
  rw [← hlen, mem_all] at hlast
  have hml := mem_len (L := parts c s) (i := Lib.countByte s c) (by omega)
  have hlast' : List.take (Lib.countByte s c) (mem (parts c s) (Lib.countByte s c)) ++ AVal.str (rest c s (Lib.countByte s c)) :: List.drop (Lib.countByte s c + 1) (mem (parts c s) (Lib.countByte s c)) = (parts c s).map AVal.str := by simpa [splice] using hlast
  have h174 := fun h => s174 (s := s) (c := c) (h := h)
  rw [hlen]
  generalize Lib.countByte s c = n at *
  have hw1 : IntKind.i64.wrap ((n : Int) + 1) = ((n + 1 : Nat) : Int) := by rw [wrap64 (by omega) (by omega)]; omega
  have hw2 : IntKind.i64.wrap ((s.length : Int) + 1) = ((s.length + 1 : Nat) : Int) := by rw [wrap64 (by omega) (by omega)]; omega
  have hw3 : IntKind.i64.wrap (((n : Int) + 1) - 1) = (n : Int) := by rw [wrap64 (by omega) (by omega)]; omega
  have hw4 : IntKind.i64.wrap (n : Int) = (n : Int) := by rw [wrap64 (by omega) (by omega)]
  have hle : (n : Int) + 1 ≤ (s.length : Int) + 1 := by omega
  have hnlt : ¬ ((s.length : Int) + 1 < (n : Int) + 1) := by omega
  have g1 : (0 : Int) ≤ (n : Int) + 1 := by omega
  have g2 : ((n : Int) + 1) * 16 ≤ 140737488355328 := by omega
  have g3 : (n : Int) + 1 ≤ 9223372036854775807 := by omega
  have g4 : ((n : Int) + 1).toNat = n + 1 := by omega
  have g5 : (n : Int) < (n : Int) + 1 := by omega
  have g6 : n + 1 ≤ (parts c s).length := by omega
  have hz' : List.replicate (n + 1) (AVal.str []) = mem (parts c s) 0 := by simpa [rep] using hz
  simp only [Int.cast_ofNat_Int] at hl
  simp [xCall_eq T t143, code143, h174, hw1, hw2, hw3, hw4, hle, hnlt, g1, g2, g3, g4, g5, g6, hz', hl, hml, hlast', hb, reach_step, reach_done, ids_strs, ren_strs]
  done

/-- strings.Split -/
theorem s90 {s : List UInt8} {c : UInt8} (hn : s.length ≤ 1000000) (hb : b ≤ os.length) :
    xCall T 90 [.str s, .str [c]] ⟨os, b, w⟩ = some (.slice (some (os.length, 0)) (parts c s).length (some (parts c s).length), ⟨os ++ [.cells 1 ((parts c s).map AVal.str)], b, w⟩) := by
  have h := s143 (w := os.length) (c := c) hn hb
  simp [xCall_eq T t90, code90, h, reach_step, reach_done, ids_strs, ren_strs]

theorem parts_le {c : UInt8} : ∀ {s : List UInt8}, ∀ x ∈ parts c s, x.length ≤ s.length
  | [], x, h => by simp [parts] at h; simp [h]
  | y :: r, x, h => by
    have ih := fun z hz => parts_le (c := c) (s := r) z hz
    simp only [parts] at h
    split at h
    · rcases List.mem_cons.1 h with rfl | h
      · simp
      · have := ih x h; simp; omega
    · split at h
      · rename_i p ps hp
        rw [hp] at ih
        rcases List.mem_cons.1 h with rfl | h
        · have := ih p (List.mem_cons_self ..); simp; exact this
        · have := ih x (List.mem_cons_of_mem _ h); simp; omega
      · simp at h; simp [h]

/-- Is it a class's name? -/
def isClass (s : List UInt8) : Bool := decide (s.length ≤ 64) && (parts 47 s).all wordL

theorem flat_strs : ∀ L : List (List UInt8), L.map AVal.str = L.flatMap strCell
  | [] => rfl
  | c :: s => by
    rw [List.map_cons, List.flatMap_cons, flat_strs s]
    rfl

/-- desc.IsClass -/
theorem s25 {s : List UInt8} (hb : b ≤ os.length) : xCall T 25 [.str s] ⟨os, b, w⟩ = some (.bool (isClass s), ⟨os, b, w⟩) := by
  by_cases h64 : s.length ≤ 64
  · have h1 := s90 (os := os) (b := b) (w := os.length) (s := s) (c := 47) (by omega) hb
    have hlen := parts_length 47 s
    have hcnt := count_le 47 s
    have hall := fun x hx => parts_le (c := 47) (s := s) x hx
    have h2 := s91 (os := os ++ [.cells 1 ((parts 47 s).map AVal.str)]) (b := b) (w := os.length) (L := parts 47 s) (a := some (os.length, 0)) (c := some (parts 47 s).length) (g := 92) (p := fun x => !wordL x)
      (Row.mk0 (fun _ => rfl) (by rw [← flat_strs]; simp)) (by omega) (fun x hx w => s92 (by have := hall x hx; omega))
    have h64' : (s.length : Int) ≤ 64 := by omega
    simp [xCall_eq T t25, code25, isClass, h64, h64', h1, h2, any_not]
  · have h64' : ¬ ((s.length : Int) ≤ 64) := by omega
    simp [xCall_eq T t25, code25, isClass, h64, h64']

end Go.Abs.AbsDesc

/-
  Layer 12: the reference's way to tell a class's name: byte by byte.
-/
namespace Go.Abs.AbsDesc
set_option maxRecDepth 100000
set_option linter.unusedSimpArgs false

/-- Byte by byte, with the one before. -/
def okFrom : UInt8 → List UInt8 → Bool
  | last, [] => last != 47
  | last, c :: r => (wordN c.toNat || (c == 47 && last != 47)) && okFrom c r

/-- All parts words; the first may go on a word that is begun. -/
def restOk (s : List UInt8) : Bool := match parts 47 s with
  | p :: ps => (p.all fun c => wordN c.toNat) && ps.all wordL
  | [] => false

theorem okFrom_is : ∀ (s : List UInt8) (last : UInt8), okFrom last s = if last == 47 then (parts 47 s).all wordL else restOk s
  | [], last => by
    simp only [okFrom, restOk, parts]
    by_cases h : (last == 47) = true
    · simp [h, wordL, bne]
    · simp [h, bne]
  | c :: r, last => by
    have ih := okFrom_is r c
    simp only [okFrom]
    by_cases hc : (c == 47) = true
    · have e : c = 47 := by simpa using hc
      subst e
      rw [ih]
      simp only [restOk, parts, beq_self_eq_true, if_true]
      by_cases h : (last == 47) = true
      · simp [h, wordL, bne, wordN]
      · simp [h, wordL, bne, wordN]
    · rw [ih]
      rw [if_neg hc]
      cases hp : parts 47 r with
      | nil => exact absurd hp (parts_ne 47 r)
      | cons p ps =>
        simp only [restOk, parts, hp, if_neg hc]
        simp only [Bool.not_eq_true] at hc
        simp only [hc, Bool.false_and, Bool.or_false, List.all_cons, wordL, List.isEmpty_cons, Bool.not_false, Bool.true_and, ite_self, Bool.and_assoc]

theorem isClass_ok (s : List UInt8) : isClass s = (decide (s.length ≤ 64) && okFrom 47 s) := by
  rw [okFrom_is]
  simp [isClass]

end Go.Abs.AbsDesc

/-
  Layer 12: the reference's IsClass.
-/
namespace Go.Abs.AbsDesc
set_option maxRecDepth 100000
set_option linter.unusedSimpArgs false
variable {os : List AObj} {b w : Nat}

/-- The byte ahead of place i. -/
def ahead (s : List UInt8) (i : Nat) : UInt8 := ((47 :: s)[i]?).getD 0

def badAt (s : List UInt8) (i : Nat) (c : UInt8) : Bool := !(wordN c.toNat || (c == 47 && ahead s i != 47))

def st26 (s : List UInt8) (os : List AObj) (b : Nat) (i : Nat) : St := ⟨[(0, .val (.str s)), (3, .val (.int .u8 (ahead s i).toNat)), (4, .val (.int .i64 i))], ⟨os, b, os.length⟩⟩

theorem ahead_next {s : List UInt8} {i : Nat} {c : UInt8} (h : s[i]? = some c) : ahead s (i + 1) = c := by
  simp [ahead, h]

theorem body26 {s : List UInt8} {i : Nat} {c : UInt8} (hn : s.length ≤ 9223372036854775807) (hc : s[i]? = some c) :
    xCode T code26L0 (st26 s os b i) = some (if badAt s i c then (.ret, ⟨[(2, .val (.bool false))], ⟨os, b, os.length⟩⟩) else (.normal, st26 s os b (i + 1))) := by
  have hlt := lt_of_get hc
  have hi' : (i : Int) < (s.length : Int) := by omega
  have hge : (0 : Int) ≤ i := by omega
  have hw := wrap_next hlt hn
  have hnx := ahead_next hc
  unfold badAt st26
  rw [hnx]
  generalize ahead s i = l
  have hl : (l == 47) = decide (l.toNat = 47) := by
    by_cases h : l = 47
    · subst h; rfl
    · have : ¬ l.toNat = 47 := fun e => h (UInt8.toNat_inj.1 e)
      simp [h, this]
  have hcc : (c == 47) = decide (c.toNat = 47) := by
    by_cases h : c = 47
    · subst h; rfl
    · have : ¬ c.toNat = 47 := fun e => h (UInt8.toNat_inj.1 e)
      simp [h, this]
  have hbl : (l != 47) = !decide (l.toNat = 47) := by rw [← hl]; rfl
  rw [hcc, hbl]
  generalize hm : l.toNat = m
  generalize hnn : c.toNat = n
  have e1 : ((97 : Int) ≤ n) = (97 ≤ n) := by apply propext; omega
  have e2 : ((n : Int) ≤ 122) = (n ≤ 122) := by apply propext; omega
  have e3 : ((65 : Int) ≤ n) = (65 ≤ n) := by apply propext; omega
  have e4 : ((n : Int) ≤ 90) = (n ≤ 90) := by apply propext; omega
  have e5 : ((48 : Int) ≤ n) = (48 ≤ n) := by apply propext; omega
  have e6 : ((n : Int) ≤ 57) = (n ≤ 57) := by apply propext; omega
  have e7 : ((n : Int) = 95) = (n = 95) := by apply propext; omega
  have e8 : ((n : Int) = 36) = (n = 36) := by apply propext; omega
  have e9 : ((n : Int) = 47) = (n = 47) := by apply propext; omega
  have e10 : ((m : Int) = 47) = (m = 47) := by apply propext; omega
  by_cases c1 : 97 ≤ n <;> by_cases c2 : n ≤ 122 <;> by_cases c3 : 65 ≤ n <;> by_cases c4 : n ≤ 90 <;> by_cases c5 : 48 ≤ n <;> by_cases c6 : n ≤ 57 <;> (try (exfalso; omega)) <;> by_cases c7 : n = 95 <;> (try (exfalso; omega)) <;> by_cases c8 : n = 36 <;> (try (exfalso; omega)) <;> by_cases c9 : n = 47 <;> (try (exfalso; omega)) <;> by_cases c10 : m = 47
  all_goals simp [code26L0, hi', hge, hc, hnn, hw, wordN, e1, e2, e3, e4, e5, e6, e7, e8, e9, e10, c1, c2, c3, c4, c5, c6, c7, c8, c9, c10]

def badPair (x : UInt8 × UInt8) : Bool := !(wordN x.2.toNat || (x.2 == 47 && x.1 != 47))

theorem okFrom_all : ∀ (s : List UInt8) (l : UInt8), okFrom l s = (!(((l :: s).zip s).any badPair) && (((l :: s)[s.length]?).getD 0 != 47))
  | [], l => by simp [okFrom]
  | c :: r, l => by
    have ih := okFrom_all r c
    simp only [okFrom, List.zip_cons_cons, List.any_cons, List.length_cons, List.getElem?_cons_succ, badPair, Bool.not_or, Bool.not_not] at ih ⊢
    have hh : ∀ a b : Bool, (!(!a && !b)) = (a || b) := by decide
    rw [ih, Bool.and_assoc, hh]

theorem pair_at {s : List UInt8} {i : Nat} {x : UInt8 × UInt8} (h : ((47 :: s).zip s)[i]? = some x) : s[i]? = some x.2 ∧ ahead s i = x.1 := by
  rw [List.getElem?_zip_eq_some] at h
  exact ⟨h.2, by simp [ahead, h.1]⟩

/-- The reference's IsClass. -/
theorem s26 {s : List UInt8} (hn : s.length ≤ 9223372036854775807) : xCall T 26 [.str s] ⟨os, b, w⟩ = some (.bool (isClass s), ⟨os, b, w⟩) := by
  rw [isClass_ok, okFrom_all]
  have hzl : ((47 :: s).zip s).length = s.length := by simp
  have hl := loop_find (T := T) (c := code26L0) badPair ((47 :: s).zip s) (st26 s os b) (fun _ => ⟨[(2, .val (.bool false))], ⟨os, b, os.length⟩⟩) .ret (.exit 0)
    ⟨[(0, .val (.str s)), (3, .val (.int .u8 (ahead s s.length).toNat))], ⟨os, b, os.length⟩⟩ ?_ (by simp) (by simp) (by rw [hzl]; simp [code26L0, st26])
  · have h0 : st26 s os b 0 = ⟨[(0, .val (.str s)), (3, .val (.int .u8 47)), (4, .val (.int .i64 0))], ⟨os, b, os.length⟩⟩ := rfl
    rw [h0] at hl
    rcases hl with ⟨h1, h2⟩ | ⟨j, x, h1, h2, _, h4⟩
    · rw [h1]
      have hl47 : ((ahead s s.length).toNat = 47) = (ahead s s.length = 47) := by
        apply propext
        exact ⟨fun e => UInt8.toNat_inj.1 e, fun e => by rw [e]; rfl⟩
      have hah : ((47 :: s)[s.length]?).getD 0 = ahead s s.length := rfl
      rw [hah]
      have e1 : (((ahead s s.length).toNat : Int) = 47) = (ahead s s.length = 47) := by rw [← hl47]; apply propext; omega
      by_cases h64 : s.length ≤ 64
      · have h64' : (s.length : Int) ≤ 64 := by omega
        by_cases h47 : ahead s s.length = 47
        · simp [xCall_eq T t26, code26, h2, h64, h64', e1, h47]
        · simp [xCall_eq T t26, code26, h2, h64, h64', e1, h47]
      · have h64' : ¬ ((s.length : Int) ≤ 64) := by omega
        simp [xCall_eq T t26, code26, h2, h64, h64']
    · have hany : ((47 :: s).zip s).any badPair = true := List.any_eq_true.2 ⟨x, List.mem_of_getElem? h1, h2⟩
      rw [hany]
      simp [xCall_eq T t26, code26, h4]
  · intro i x hx
    obtain ⟨h1, h2⟩ := pair_at hx
    have := body26 (os := os) (b := b) hn h1
    have hb : badAt s i x.2 = badPair x := by simp only [badAt, badPair, h2]
    rw [hb] at this
    exact this

end Go.Abs.AbsDesc

/-
  Layer 12: beginnings and ends of texts, elements, classes of types.
-/
namespace Go.Abs.AbsDesc
set_option maxRecDepth 100000
set_option linter.unusedSimpArgs false
variable {os : List AObj} {b w : Nat}

/-- Does a text begin with a byte? -/
def begins (c : UInt8) : List UInt8 → Bool
  | [] => false
  | x :: _ => decide (x = c)

theorem s140 {s : List UInt8} {c : UInt8} : xCall T 140 [.str s, .str [c]] ⟨os, b, w⟩ = some (.bool (begins c s), ⟨os, b, w⟩) := by
  cases s with
  | nil => simp [xCall_eq T t140, code140, begins]
  | cons x r =>
    have h1 : (1 : Int) ≤ (r.length : Int) + 1 := by omega
    simp [xCall_eq T t140, code140, begins, h1]

theorem s88 {s : List UInt8} {c : UInt8} : xCall T 88 [.str s, .str [c]] ⟨os, b, w⟩ = some (.bool (begins c s), ⟨os, b, w⟩) := by
  have h := s140 (os := os) (b := b) (w := os.length) (s := s) (c := c)
  simp [xCall_eq T t88, code88, h]

/-- stringslite.CutPrefix of one byte -/
theorem s137 {s : List UInt8} {c : UInt8} (hn : s.length ≤ 9223372036854775807) : xCall T 137 [.str s, .str [c]] ⟨os, b, w⟩ = some (.tuple [.str (if begins c s then s.tail else s), .bool (begins c s)], ⟨os, b, w⟩) := by
  have h := s140 (os := os) (b := b) (w := os.length) (s := s) (c := c)
  cases s with
  | nil => simp [xCall_eq T t137, code137, begins] at h ⊢; simp [h]
  | cons x r =>
    by_cases e : x = c
    · have h1 : (1 : Int) ≤ (r.length : Int) + 1 := by omega
      simp [xCall_eq T t137, code137, begins, e, h1] at h ⊢
      simp [h, h1]
    · simp [xCall_eq T t137, code137, begins, e] at h ⊢
      simp [h]

theorem s85 {s : List UInt8} {c : UInt8} (hn : s.length ≤ 9223372036854775807) : xCall T 85 [.str s, .str [c]] ⟨os, b, w⟩ = some (.tuple [.str (if begins c s then s.tail else s), .bool (begins c s)], ⟨os, b, w⟩) := by
  have h := s137 (os := os) (b := b) (w := os.length) (c := c) hn
  simp [xCall_eq T t85, code85, h]

end Go.Abs.AbsDesc

/-
  Layer 12: elements of arrays; references; the type of a class.
-/
namespace Go.Abs.AbsDesc
set_option maxRecDepth 100000
set_option linter.unusedSimpArgs false
variable {os : List AObj} {b w : Nat}

/-- What an array has, and whether it is one. -/
def elemV (s : List UInt8) : AVal := .tuple [.str (if begins 91 s then s.tail else []), .bool (begins 91 s)]

theorem s36 {s : List UInt8} (hn : s.length ≤ 9223372036854775807) : xCall T 36 [.str s] ⟨os, b, w⟩ = some (elemV s, ⟨os, b, w⟩) := by
  have h := s85 (os := os) (b := b) (w := os.length) (c := 91) hn
  by_cases e : begins 91 s = true
  · simp [xCall_eq T t36, code36, h, elemV, e]
  · simp [xCall_eq T t36, code36, h, elemV, e]

theorem s35 {s : List UInt8} (hn : s.length ≤ 9223372036854775807) : xCall T 35 [.str s] ⟨os, b, w⟩ = some (elemV s, ⟨os, b, w⟩) := by
  cases s with
  | nil => simp [xCall_eq T t35, code35, elemV, begins]
  | cons x r =>
    have h1 : (1 : Int) ≤ (r.length : Int) + 1 := by omega
    by_cases e : x = 91
    · subst e
      simp [xCall_eq T t35, code35, elemV, begins, h1]
    · have e' : ¬ ((x.toNat : Int) = 91) := fun h => e (UInt8.toNat_inj.1 (by have : x.toNat = 91 := by omega
                                                                              exact this))
      simp [xCall_eq T t35, code35, elemV, begins, h1, e, e']

theorem s32 {s : List UInt8} (hn : s.length ≤ 1000000) : xCall T 32 [.str s] ⟨os, b, w⟩ = some (.str (76 :: s ++ [59]), ⟨os, b, w⟩) := by
  have h1 : s.length + 1 + 1 ≤ 9223372036854775807 := by omega
  have h2 : s.length + 1 ≤ 9223372036854775807 := by omega
  have h3 : 1 + s.length ≤ 9223372036854775807 := by omega
  simp [xCall_eq T t32, code32, h1, h2, h3]

end Go.Abs.AbsDesc

/-
  Layer 12: references.
-/
namespace Go.Abs.AbsDesc
set_option maxRecDepth 100000
set_option linter.unusedSimpArgs false
variable {os : List AObj} {b w : Nat}

theorem u8_eq (x : UInt8) (n : Nat) (hn : n < 256) : ((x.toNat : Int) = (n : Int)) = (x = UInt8.ofNat n) := by
  apply propext
  constructor
  · intro h
    apply UInt8.toNat_inj.1
    have e : (UInt8.ofNat n).toNat = n := by simp; omega
    omega
  · intro h
    subst h
    have e : (UInt8.ofNat n).toNat = n := by simp; omega
    omega

def isRef (s : List UInt8) : Bool := begins 76 s || begins 91 s

theorem s30 {s : List UInt8} : xCall T 30 [.str s] ⟨os, b, w⟩ = some (.bool (isRef s), ⟨os, b, w⟩) := by
  have h1 := s88 (os := os) (b := b) (w := os.length) (s := s) (c := 76)
  have h2 := s88 (os := os) (b := b) (w := os.length) (s := s) (c := 91)
  by_cases e : begins 76 s = true
  · simp [xCall_eq T t30, code30, h1, h2, isRef, e]
  · simp [xCall_eq T t30, code30, h1, h2, isRef, e]

theorem s31 {s : List UInt8} (hn : s.length ≤ 9223372036854775807) : xCall T 31 [.str s] ⟨os, b, w⟩ = some (.bool (isRef s), ⟨os, b, w⟩) := by
  cases s with
  | nil => simp [xCall_eq T t31, code31, isRef, begins]
  | cons x r =>
    have h1 : (1 : Int) ≤ (r.length : Int) + 1 := by omega
    have h0 : (0 : Int) < (r.length : Int) + 1 := by omega
    have e1 : ((x.toNat : Int) = 76) = (x = 76) := u8_eq x 76 (by omega)
    have e2 : ((x.toNat : Int) = 91) = (x = 91) := u8_eq x 91 (by omega)
    by_cases c1 : x = 76 <;> by_cases c2 : x = 91
    · subst c1; cases c2
    all_goals simp [xCall_eq T t31, code31, isRef, begins, h0, h1, e1, e2, c1, c2]

end Go.Abs.AbsDesc

/-
  Layer 12: ends of texts; the class of a type.
-/
namespace Go.Abs.AbsDesc
set_option maxRecDepth 100000
set_option linter.unusedSimpArgs false
variable {os : List AObj} {b w : Nat}

/-- Does a text end with a byte? -/
def ends (c : UInt8) (s : List UInt8) : Bool := decide (1 ≤ s.length) && decide (s.drop (s.length - 1) = [c])

theorem s141 {s : List UInt8} {c : UInt8} (hn : s.length ≤ 1000000) : xCall T 141 [.str s, .str [c]] ⟨os, b, w⟩ = some (.bool (ends c s), ⟨os, b, w⟩) := by
  by_cases h : 1 ≤ s.length
  · have h1 : (1 : Int) ≤ (s.length : Int) := by omega
    have h2 : IntKind.i64.wrap ((s.length : Int) - 1) = ((s.length - 1 : Nat) : Int) := by rw [wrap64 (by omega) (by omega)]; omega
    have h3 : ((s.length - 1 : Nat) : Int) ≤ (s.length : Int) := by omega
    have h4 : List.take (s.length - (s.length - 1)) (s.drop (s.length - 1)) = s.drop (s.length - 1) := List.take_of_length_le (by simp)
    simp [xCall_eq T t141, code141, ends, h, h1, h2, h3, h4]
  · have h1 : ¬ ((1 : Int) ≤ (s.length : Int)) := by omega
    simp [xCall_eq T t141, code141, ends, h, h1]

theorem s89 {s : List UInt8} {c : UInt8} (hn : s.length ≤ 1000000) : xCall T 89 [.str s, .str [c]] ⟨os, b, w⟩ = some (.bool (ends c s), ⟨os, b, w⟩) := by
  have h := s141 (os := os) (b := b) (w := os.length) (c := c) hn
  simp [xCall_eq T t89, code89, h]

end Go.Abs.AbsDesc

/-
  Layer 12: the class of a type.
-/
namespace Go.Abs.AbsDesc
set_option maxRecDepth 100000
set_option linter.unusedSimpArgs false
variable {os : List AObj} {b w : Nat}

def isObj (s : List UInt8) : Bool := decide (2 ≤ s.length) && begins 76 s && ends 59 s

def classV (s : List UInt8) : AVal := if isObj s then .tuple [.str ((s.drop 1).take (s.length - 2)), .bool true] else .tuple [.str [], .bool false]

theorem s34 {s : List UInt8} (hn : s.length ≤ 1000000) : xCall T 34 [.str s] ⟨os, b, w⟩ = some (classV s, ⟨os, b, w⟩) := by
  have h1 := s88 (os := os) (b := b) (w := os.length) (s := s) (c := 76)
  have h2 := s89 (os := os) (b := b) (w := os.length) (c := 59) hn
  by_cases h : 2 ≤ s.length
  · have c1 : ¬ ((s.length : Int) < 2) := by omega
    have c2 : IntKind.i64.wrap ((s.length : Int) - 1) = ((s.length - 1 : Nat) : Int) := by rw [wrap64 (by omega) (by omega)]; omega
    have c3 : ((s.length - 1 : Nat) : Int) ≤ (s.length : Int) := by omega
    have c4 : (1 : Int) ≤ ((s.length - 1 : Nat) : Int) := by omega
    have c5 : s.length - 1 - 1 = s.length - 2 := by omega
    by_cases e1 : begins 76 s = true <;> by_cases e2 : ends 59 s = true
    all_goals simp [xCall_eq T t34, code34, classV, isObj, h, c1, c2, c3, c4, c5, h1, h2, e1, e2]
  · have c1 : (s.length : Int) < 2 := by omega
    simp [xCall_eq T t34, code34, classV, isObj, h, c1]

end Go.Abs.AbsDesc

/-
  Layer 12: the reference's ClassOf.
-/
namespace Go.Abs.AbsDesc
set_option maxRecDepth 100000
set_option linter.unusedSimpArgs false
variable {os : List AObj} {b w : Nat}

theorem begins_get {s : List UInt8} {x c : UInt8} (h : s[0]? = some x) : begins c s = decide (x = c) := by
  cases s with
  | nil => simp at h
  | cons y r => simp at h; subst h; rfl

theorem ends_get {s : List UInt8} {x c : UInt8} (h : s[s.length - 1]? = some x) : ends c s = decide (x = c) := by
  have hl := lt_of_get h
  unfold ends
  have : s.drop (s.length - 1) = [x] := by
    rw [List.drop_eq_getElem_cons hl, List.drop_of_length_le (by omega)]
    rw [List.getElem?_eq_getElem hl] at h
    cases h; rfl
  rw [this]
  simp; omega

theorem s33 {s : List UInt8} (hn : s.length ≤ 1000000) : xCall T 33 [.str s] ⟨os, b, w⟩ = some (classV s, ⟨os, b, w⟩) := by
  by_cases h : 2 ≤ s.length
  · obtain ⟨x, hx⟩ : ∃ x, s[0]? = some x := ⟨_, List.getElem?_eq_getElem (by omega)⟩
    obtain ⟨y, hy⟩ : ∃ y, s[s.length - 1]? = some y := ⟨_, List.getElem?_eq_getElem (by omega)⟩
    have b1 := begins_get (c := 76) hx
    have e1 := ends_get (c := 59) hy
    have u1 : ((x.toNat : Int) = 76) = (x = 76) := u8_eq x 76 (by omega)
    have u2 : ((y.toNat : Int) = 59) = (y = 59) := u8_eq y 59 (by omega)
    have ht : ((s.length : Int) - 1).toNat = s.length - 1 := by omega
    have hq : s.length - 1 - 1 = s.length - 2 := by omega
    by_cases c1 : x = 76 <;> by_cases c2 : y = 59
    all_goals simp (disch := omega) [-getElem?_pos, -getElem?_neg, xCallK t33, code33, classV, isObj, iltT, iltF, ileT, ileF, nltT, nltF, nleT, nleF, wrapI, h, hx, hy, b1, e1, u1, u2, c1, c2, ht, hq]
  · simp (disch := omega) [-getElem?_pos, -getElem?_neg, xCallK t33, code33, classV, isObj, iltT, h]

end Go.Abs.AbsDesc

/-
  Layer 12, plain: a type cut off a text; the reference's first type is the same.
-/
namespace Go.Abs.AbsDesc
set_option linter.unusedSimpArgs false

def bare (s : List UInt8) : List UInt8 := s.dropWhile (· == 91)
def dims (s : List UInt8) : Nat := s.length - (bare s).length

theorem bare_len (s : List UInt8) : (bare s).length ≤ s.length := by
  unfold bare
  induction s with
  | nil => simp
  | cons x r ih =>
    rw [List.dropWhile_cons]
    split
    · simp; omega
    · simp

/-- Brackets, and what is behind them. -/
theorem bare_split : ∀ s : List UInt8, s = List.replicate (dims s) 91 ++ bare s
  | [] => rfl
  | x :: r => by
    have ih := bare_split r
    have hl := bare_len r
    unfold dims bare at *
    rw [List.dropWhile_cons]
    split
    · rename_i h
      have : x = 91 := by simpa using h
      subst this
      have e : (91 :: r).length - (List.dropWhile (· == 91) r).length = (r.length - (List.dropWhile (· == 91) r).length) + 1 := by simp only [List.length_cons]; omega
      rw [e, List.replicate_succ, List.cons_append, ← ih]
    · simp

theorem bare_head {s r : List UInt8} {c : UInt8} (h : bare s = c :: r) : c ≠ 91 := by
  have := List.head?_dropWhile_not (fun x : UInt8 => x == 91) s
  unfold bare at h
  rw [h] at this
  simpa using this

theorem bare_of {n : Nat} {c : UInt8} {r : List UInt8} (h : c ≠ 91) : bare (List.replicate n 91 ++ c :: r) = c :: r := by
  unfold bare
  induction n with
  | zero => simp [h]
  | succ n ih => rw [List.replicate_succ, List.cons_append, List.dropWhile_cons]; simpa using ih

theorem dims_of {n : Nat} {c : UInt8} {r : List UInt8} (h : c ≠ 91) : dims (List.replicate n 91 ++ c :: r) = n := by
  unfold dims
  rw [bare_of h]
  simp

/-- The name behind L, if there is one: how long it is. -/
def nameL (r : List UInt8) : Option Nat := if 0 ≤ Lib.indexByte r 59 then (if isClass (r.take (Lib.indexByte r 59).toNat) then some (Lib.indexByte r 59).toNat else none) else none

/-- How long the type is with which a text begins: 0: there is none. -/
def cutN (s : List UInt8) : Nat := match bare s with
  | [] => 0
  | c :: r => if 8 < dims s then 0
    else if c = 73 ∨ (c = 74 ∧ dims s = 0) ∨ (c = 66 ∧ 0 < dims s) then dims s + 1
    else if c = 76 then (match nameL r with | some k => dims s + k + 2 | none => 0) else 0

theorem ib_take {c : UInt8} : ∀ {r : List UInt8} {k : Nat}, Lib.indexByte r c = k → k < r.length ∧ r.take k ++ c :: r.drop (k + 1) = r ∧ c ∉ r.take k
  | [], k, h => by simp [Lib.indexByte] at h
  | x :: r, k, h => by
    unfold Lib.indexByte at h
    split at h
    · rename_i hx
      have hx : x = c := by simpa using hx
      have : k = 0 := by omega
      subst this; subst hx
      simp
    · rename_i hx
      have hx : ¬ x = c := by simpa using hx
      have hge := Lib.indexByte_ge r c
      split at h
      · omega
      · cases k with
        | zero => rename_i e; simp at e; omega
        | succ k =>
          obtain ⟨h1, h2, h3⟩ := ib_take (r := r) (k := k) (c := c) (by omega)
          refine ⟨by simp; omega, by simpa using h2, ?_⟩
          simp only [List.take_succ_cons, List.mem_cons, not_or]
          exact ⟨fun e => hx e.symm, h3⟩

theorem ib_of {c : UInt8} : ∀ {a b : List UInt8}, c ∉ a → Lib.indexByte (a ++ c :: b) c = a.length
  | [], b, _ => by simp [Lib.indexByte]
  | x :: a, b, h => by
    have h1 : ¬ x = c := fun e => h (by simp [e])
    have ih := ib_of (a := a) (b := b) (c := c) fun h' => h (List.mem_cons_of_mem _ h')
    simp only [List.cons_append]
    unfold Lib.indexByte
    simp [h1, ih]

theorem parts_mem {c y : UInt8} : ∀ {s : List UInt8}, y ∈ s → y ≠ c → ∃ p ∈ parts c s, y ∈ p
  | [], h, _ => by cases h
  | x :: r, h, hy => by
    simp only [parts]
    rcases List.mem_cons.1 h with rfl | h
    · rw [if_neg (by simpa using hy)]
      cases hp : parts c r with
      | nil => exact ⟨_, List.mem_singleton_self _, List.mem_singleton_self _⟩
      | cons p ps => exact ⟨_, List.mem_cons_self .., List.mem_cons_self ..⟩
    · obtain ⟨p, hp, hyp⟩ := parts_mem h hy
      split
      · exact ⟨p, List.mem_cons_of_mem _ hp, hyp⟩
      · cases hq : parts c r with
        | nil => rw [hq] at hp; cases hp
        | cons q ps =>
          rw [hq] at hp
          rcases List.mem_cons.1 hp with rfl | hp
          · exact ⟨_, List.mem_cons_self .., List.mem_cons_of_mem _ hyp⟩
          · exact ⟨p, List.mem_cons_of_mem _ hp, hyp⟩

/-- No class's name has a semicolon. -/
theorem isClass_semi {s : List UInt8} (h : isClass s = true) : (59 : UInt8) ∉ s := by
  intro hm
  obtain ⟨p, hp, hy⟩ := parts_mem (c := 47) hm (by decide)
  simp only [isClass, Bool.and_eq_true, List.all_eq_true] at h
  have := h.2 p hp
  simp only [wordL, Bool.and_eq_true, List.all_eq_true] at this
  have := this.2 59 hy
  simp [wordN] at this

theorem isClass_ne {s : List UInt8} (h : isClass s = true) : s ≠ [] := by
  rintro rfl
  simp [isClass, parts, wordL] at h

theorem nameL_some {r : List UInt8} {k : Nat} (h : nameL r = some k) : k < r.length ∧ r = r.take k ++ 59 :: r.drop (k + 1) ∧ isClass (r.take k) = true := by
  unfold nameL at h
  split at h
  · rename_i h0
    obtain ⟨j, hj⟩ := Int.eq_ofNat_of_zero_le h0
    rw [hj] at h
    simp only [Int.toNat_natCast] at h
    split at h
    · rename_i hc
      cases h
      obtain ⟨h1, h2, _⟩ := ib_take hj
      exact ⟨h1, h2.symm, hc⟩
    · cases h
  · cases h

theorem nameL_of {a b : List UInt8} (h : isClass a = true) : nameL (a ++ 59 :: b) = some a.length := by
  have := ib_of (b := b) (isClass_semi h)
  unfold nameL
  rw [this, if_pos (by omega)]
  simp only [Int.toNat_natCast, List.take_left', h, if_true]

theorem cutN_le (s : List UInt8) : cutN s ≤ s.length := by
  have hb := bare_split s
  have hl := congrArg List.length hb
  simp only [List.length_append, List.length_replicate] at hl
  unfold cutN
  cases hbs : bare s with
  | nil => simp
  | cons c r =>
    rw [hbs] at hl
    simp only [List.length_cons] at hl
    simp only
    split
    · omega
    · split
      · omega
      · split
        · cases hn : nameL r with
          | none => simp
          | some k => have := (nameL_some hn).1; simp only; omega
        · omega

/-- The forms that a type has. -/
inductive Ty : List UInt8 → Prop
  | one (n : Nat) (c : UInt8) (h : n ≤ 8) (hc : c = 73 ∨ (c = 74 ∧ n = 0) ∨ (c = 66 ∧ 0 < n)) : Ty (List.replicate n 91 ++ [c])
  | obj (n : Nat) (a : List UInt8) (h : n ≤ 8) (ha : isClass a = true) : Ty (List.replicate n 91 ++ 76 :: (a ++ [59]))

theorem ty_cut {t : List UInt8} (ht : Ty t) (u : List UInt8) : cutN (t ++ u) = t.length := by
  cases ht with
  | one n c h hc =>
    have hc91 : c ≠ 91 := by rcases hc with e | ⟨e, _⟩ | ⟨e, _⟩ <;> (subst e; decide)
    have hb := bare_of (n := n) (r := u) hc91
    have hd := dims_of (n := n) (r := u) hc91
    rw [show List.replicate n 91 ++ [c] ++ u = List.replicate n 91 ++ c :: u by simp]
    unfold cutN
    rw [hb, hd]
    simp only
    rw [if_neg (by omega), if_pos hc]
    simp
  | obj n a h ha =>
    have hb := bare_of (n := n) (c := 76) (r := a ++ 59 :: u) (by decide)
    have hd := dims_of (n := n) (c := 76) (r := a ++ 59 :: u) (by decide)
    rw [show List.replicate n 91 ++ 76 :: (a ++ [59]) ++ u = List.replicate n 91 ++ 76 :: (a ++ 59 :: u) by simp]
    unfold cutN
    rw [hb, hd]
    simp only
    rw [if_neg (by omega), if_neg (by simp)]
    simp only [if_true, nameL_of ha]
    simp
    omega

theorem cut_ty {s : List UInt8} (h : cutN s ≠ 0) : Ty (s.take (cutN s)) := by
  have hb := bare_split s
  revert h
  unfold cutN
  cases hbs : bare s with
  | nil => simp
  | cons c r =>
    rw [hbs] at hb
    simp only
    generalize hn : dims s = n at *
    split
    · simp
    · rename_i h8
      split
      · rename_i hc
        intro _
        have : s.take (n + 1) = List.replicate n 91 ++ [c] := by
          rw [hb, List.take_append, List.length_replicate, List.take_of_length_le (by simp), show n + 1 - n = 1 by omega]
          rfl
        rw [this]
        exact .one n c (by omega) hc
      · split
        · rename_i hc
          subst hc
          cases hn' : nameL r with
          | none => simp
          | some k =>
            intro _
            obtain ⟨k1, k2, k3⟩ := nameL_some hn'
            simp only
            have : s.take (n + k + 2) = List.replicate n 91 ++ 76 :: (r.take k ++ [59]) := by
              rw [hb, List.take_append, List.length_replicate, List.take_of_length_le (by simp; omega), show n + k + 2 - n = (k + 1) + 1 by omega, List.take_succ_cons]
              congr 2
              conv => lhs; rw [k2]
              rw [List.take_append]
              have hk : (r.take k).length = k := by simp; omega
              rw [hk, List.take_of_length_le (by omega), show k + 1 - k = 1 by omega]
              rfl
            rw [this]
            exact .obj n _ (by omega) k3
        · simp

theorem ty_ne {t : List UInt8} (ht : Ty t) : t ≠ [] := by
  cases ht <;> simp

/-- Is it a type? -/
def isTy (s : List UInt8) : Bool := decide (s ≠ []) && decide (cutN s = s.length)

theorem isTy_iff (s : List UInt8) : isTy s = true ↔ Ty s := by
  simp only [isTy, Bool.and_eq_true, decide_eq_true_eq]
  constructor
  · rintro ⟨h1, h2⟩
    have h3 : cutN s ≠ 0 := by
      rw [h2]
      intro e
      exact h1 (List.eq_nil_of_length_eq_zero e)
    have := cut_ty h3
    rwa [h2, List.take_length] at this
  · intro h
    have := ty_cut h []
    rw [List.append_nil] at this
    exact ⟨ty_ne h, this⟩

/-- The beginnings that are types: just the one that is cut off. -/
theorem isTy_take {s : List UInt8} {n : Nat} (hn : n ≤ s.length) (h : isTy (s.take n) = true) : n = cutN s := by
  have h1 := ty_cut ((isTy_iff _).1 h) (s.drop n)
  rw [List.take_append_drop] at h1
  rw [h1]; simp; omega

theorem isTy_cut {s : List UInt8} (h : cutN s ≠ 0) : isTy (s.take (cutN s)) = true := (isTy_iff _).2 (cut_ty h)

end Go.Abs.AbsDesc

/-
  Layer 12: what is cut off; types.
-/
namespace Go.Abs.AbsDesc
set_option maxRecDepth 100000
set_option linter.unusedSimpArgs false
variable {os : List AObj} {b w : Nat} {β : Type}

theorem u8i (x : UInt8) (n : Nat) (hn : n < 256) : ((x.toNat : Int) = (n : Int)) = (x = UInt8.ofNat n) := u8_eq x n hn

/-- strings.trimLeftByte -/
theorem l171 {h : Heap} (k : AExit → St → Option β) : ∀ s : List UInt8, xK T (.loop code171L0) ⟨[(0, .val (.str s)), (1, .val (.int .u8 91))], h⟩ (k := ⟨k⟩) = k (.exit 0) ⟨[(0, .val (.str (bare s)))], h⟩
  | [] => by
    rw [xK_loop]
    simp [code171L0, bare]
  | x :: r => by
    have ih := l171 (h := h) k r
    have e : ((x.toNat : Int) = 91) = (x = 91) := u8_eq x 91 (by omega)
    rw [xK_loop]
    generalize ACode.loop code171L0 = L at ih ⊢
    by_cases c : x = 91
    · simp (disch := omega) [-getElem?_pos, -getElem?_neg, code171L0, iltT, ileT, nltT, e, c, ih, bare, List.dropWhile_cons, List.getElem?_cons_zero]
    · simp (disch := omega) [-getElem?_pos, -getElem?_neg, code171L0, iltT, ileT, nltT, e, c, bare, List.dropWhile_cons, List.getElem?_cons_zero]

theorem s171 {s : List UInt8} : xCall T 171 [.str s, .int .u8 91] ⟨os, b, w⟩ = some (.str (bare s), ⟨os, b, w⟩) := by
  simp [xCallK t171, code171, l171]

theorem s139 {s : List UInt8} : xCall T 139 [.str s, .str [91]] ⟨os, b, w⟩ = some (.str (bare s), ⟨os, b, w⟩) := by
  by_cases h : s = []
  · subst h
    simp [xCallK t139, code139, bare]
  · simp [xCallK t139, code139, h, s171]

/-- strings.Cut at one byte -/
def cutV (c : UInt8) (s : List UInt8) : AVal := if 0 ≤ Lib.indexByte s c then .tuple [.str (s.take (Lib.indexByte s c).toNat), .str (s.drop ((Lib.indexByte s c).toNat + 1)), .bool true] else .tuple [.str s, .str [], .bool false]

theorem s172 {s : List UInt8} {c : UInt8} (hn : s.length ≤ 1000000) : xCall T 172 [.str s, .str [c]] ⟨os, b, w⟩ = some (cutV c s, ⟨os, b, w⟩) := by
  have h5 := fun h => s205 (s := s) (c := c) (h := h)
  by_cases h : 0 ≤ Lib.indexByte s c
  · obtain ⟨k, hk⟩ := Int.eq_ofNat_of_zero_le h
    obtain ⟨k1, _⟩ := ib_take hk
    have e3 : ((k : Int) + 1).toNat = k + 1 := by omega
    have hv : cutV c s = .tuple [.str (s.take k), .str (s.drop (k + 1)), .bool true] := by
      unfold cutV; rw [hk, if_pos (by omega)]; rfl
    rw [hv]
    simp (disch := omega) [-getElem?_pos, -getElem?_neg, xCallK t172, code172, h5, hk, iltT, ileT, nltT, nleT, wrapI, e3]
  · have hv : cutV c s = .tuple [.str s, .str [], .bool false] := by
      unfold cutV; rw [if_neg h]
    rw [hv]
    simp (disch := omega) [xCallK t172, code172, h5, h]

theorem s138 {s : List UInt8} {c : UInt8} (hn : s.length ≤ 1000000) : xCall T 138 [.str s, .str [c]] ⟨os, b, w⟩ = some (cutV c s, ⟨os, b, w⟩) := by
  have h := fun w => s172 (os := os) (b := b) (w := w) (c := c) hn
  unfold cutV at h ⊢
  by_cases h0 : 0 ≤ Lib.indexByte s c
  · simp only [if_pos h0] at h ⊢
    simp [xCallK t138, code138, h]
  · simp only [if_neg h0] at h ⊢
    simp [xCallK t138, code138, h]

theorem dims_eq {s r : List UInt8} {c : UInt8} (h : bare s = c :: r) : s.length = dims s + (r.length + 1) := by
  have := congrArg List.length (bare_split s)
  simpa [h] using this

/-- desc.cut -/
theorem s86 {s : List UInt8} (hn : s.length ≤ 1000000) (hb : b ≤ os.length) : xCall T 86 [.str s] ⟨os, b, w⟩ = some (.str (s.take (cutN s)), ⟨os, b, w⟩) := by
  have h139 := fun w => s139 (os := os) (b := b) (w := w) (s := s)
  have hl := bare_len s
  have hd : ((s.length : Int) - (bare s).length) = (dims s : Nat) := by unfold dims; omega
  have hle : dims s ≤ s.length := by unfold dims; omega
  cases hbs : bare s with
  | nil =>
    simp only [hbs] at h139
    simp [xCallK t86, code86, List.getElem?_cons_zero, h139, cutN, hbs]
  | cons c r =>
    simp only [hbs] at h139
    clear hd
    have hlen := dims_eq hbs
    have hcut : cutN s = if 8 < dims s then 0 else if c = 73 ∨ (c = 74 ∧ dims s = 0) ∨ (c = 66 ∧ 0 < dims s) then dims s + 1 else if c = 76 then (match nameL r with | some k => dims s + k + 2 | none => 0) else 0 := by
      unfold cutN; rw [hbs] <;> rfl
    rw [hcut]
    clear hl hcut
    generalize dims s = d at hlen hle ⊢
    have hd : (s.length : Int) - ((r.length : Int) + 1) = d := by omega
    have e73 : ((c.toNat : Int) = 73) = (c = 73) := u8_eq c 73 (by omega)
    have e74 : ((c.toNat : Int) = 74) = (c = 74) := u8_eq c 74 (by omega)
    have e66 : ((c.toNat : Int) = 66) = (c = 66) := u8_eq c 66 (by omega)
    have e76 : ((c.toNat : Int) = 76) = (c = 76) := u8_eq c 76 (by omega)
    have ht1 : ((d : Int) + 1).toNat = d + 1 := by omega
    by_cases h8 : 8 < d
    · simp (disch := omega) [-getElem?_pos, -getElem?_neg, xCallK t86, code86, List.getElem?_cons_zero, h139, hd, wrapI, iltT, h8]
    · by_cases c73 : c = 73
      · simp (disch := omega) [-getElem?_pos, -getElem?_neg, xCallK t86, code86, List.getElem?_cons_zero, h139, hd, wrapI, iltT, iltF, ileT, nltT, nleT, h8, e73, c73, ht1]
      · by_cases c74 : c = 74
        · subst c74
          by_cases d0 : d = 0
          · simp (disch := omega) [-getElem?_pos, -getElem?_neg, xCallK t86, code86, List.getElem?_cons_zero, h139, hd, wrapI, iltT, iltF, ileT, nltT, nleT, h8, d0, ht1]
          · simp (disch := omega) [-getElem?_pos, -getElem?_neg, xCallK t86, code86, List.getElem?_cons_zero, h139, hd, wrapI, iltT, iltF, ileT, nltT, nleT, h8, d0, ieqF, ht1]
        · by_cases c66 : c = 66
          · subst c66
            by_cases d0 : 0 < d
            · simp (disch := omega) [-getElem?_pos, -getElem?_neg, xCallK t86, code86, List.getElem?_cons_zero, h139, hd, wrapI, iltT, iltF, ileT, nltT, nleT, h8, d0, ht1]
            · simp (disch := omega) [-getElem?_pos, -getElem?_neg, xCallK t86, code86, List.getElem?_cons_zero, h139, hd, wrapI, iltT, iltF, ileT, nltT, nleT, h8, d0, ht1]
          · by_cases c76 : c = 76
            · subst c76
              have h138 := fun w => s138 (os := os) (b := b) (w := w) (s := r) (c := 59) (by omega)
              have htr : List.take (r.length + 1 - 1) r = r := by simp
              by_cases hi : 0 ≤ Lib.indexByte r 59
              · obtain ⟨k, hk⟩ := Int.eq_ofNat_of_zero_le hi
                obtain ⟨k1, _⟩ := ib_take hk
                have h25 := fun w => s25 (w := w) (s := r.take k) hb
                have hmin : min k r.length = k := by omega
                simp only [cutV, hk, Int.natCast_nonneg, if_true, Int.toNat_natCast] at h138
                have ht2 : ((d : Int) + k + 2).toNat = d + k + 2 := by omega
                have hnm : nameL r = if isClass (r.take k) = true then some k else none := by
                  unfold nameL; rw [hk, if_pos (by omega)]; rfl
                by_cases hc : isClass (r.take k) = true
                · simp (disch := omega) [-getElem?_pos, -getElem?_neg, xCallK t86, code86, List.getElem?_cons_zero, h139, hd, wrapI, iltT, iltF, ileT, nltT, nleT, h8, h138, h25, hc, hnm, hmin, ht2]
                · simp (disch := omega) [-getElem?_pos, -getElem?_neg, xCallK t86, code86, List.getElem?_cons_zero, h139, hd, wrapI, iltT, iltF, ileT, nltT, nleT, h8, h138, h25, hc, hnm]
              · have hnm : nameL r = none := by unfold nameL; rw [if_neg hi]
                simp only [cutV, if_neg hi] at h138
                simp (disch := omega) [-getElem?_pos, -getElem?_neg, xCallK t86, code86, List.getElem?_cons_zero, h139, hd, wrapI, iltT, iltF, ileT, nltT, nleT, h8, h138, hnm]
            · simp (disch := omega) [-getElem?_pos, -getElem?_neg, xCallK t86, code86, List.getElem?_cons_zero, h139, hd, wrapI, iltT, iltF, ileT, nltT, nleT, h8, e73, e74, e66, e76, c73, c74, c66, c76]

/-- desc.IsType -/
theorem s27 {s : List UInt8} (hn : s.length ≤ 1000000) (hb : b ≤ os.length) : xCall T 27 [.str s] ⟨os, b, w⟩ = some (.bool (isTy s), ⟨os, b, w⟩) := by
  have h := fun w => s86 (w := w) hn hb
  have hc := cutN_le s
  have e : (s.take (cutN s) = s) = (cutN s = s.length) := by
    apply propext
    constructor
    · intro e
      have := congrArg List.length e
      simp at this; omega
    · intro e; rw [e, List.take_length]
  by_cases h0 : s = []
  · simp [xCallK t27, code27, isTy, h0]
  · simp [xCallK t27, code27, isTy, h0, h, e]

end Go.Abs.AbsDesc

/-
  Layer 12: the reference's types.
-/
namespace Go.Abs.AbsDesc
set_option maxRecDepth 100000
set_option linter.unusedSimpArgs false
variable {os : List AObj} {b w : Nat} {β : Type}

/-- L, a class's name, a semicolon? -/
def objR (s : List UInt8) : Bool := decide (3 ≤ s.length) && begins 76 s && ends 59 s && isClass ((s.drop 1).take (s.length - 2))

theorem ends_app {a : List UInt8} {c x : UInt8} : ends c (a ++ [x]) = decide (x = c) := by
  apply ends_get
  simp

theorem objR_name (r : List UInt8) : objR (76 :: r) = match nameL r with | some k => decide (k + 1 = r.length) | none => false := by
  cases hn : nameL r with
  | some k =>
    obtain ⟨h1, h2, h3⟩ := nameL_some hn
    simp only
    by_cases hk : k + 1 = r.length
    · have hd : r.drop (k + 1) = [] := List.drop_of_length_le (by omega)
      rw [hd] at h2
      have hne : r.take k ≠ [] := isClass_ne h3
      have hk0 : k ≠ 0 := by rintro rfl; simp at hne
      have e1 : ends 59 (76 :: r) = true := by
        rw [h2, show (76 : UInt8) :: (r.take k ++ [59]) = (76 :: r.take k) ++ [59] by rfl, ends_app]; rfl
      have e2 : ((76 :: r).drop 1).take ((76 :: r).length - 2) = r.take k := by
        simp only [List.drop_succ_cons, List.drop_zero, List.length_cons]
        congr 1; omega
      unfold objR
      rw [e1, e2, h3]
      simp [begins, hk]
      omega
    · simp only [hk, decide_false]
      unfold objR
      rw [Bool.eq_false_iff]
      intro hc
      simp only [Bool.and_eq_true, decide_eq_true_eq] at hc
      obtain ⟨⟨⟨c1, _⟩, c2⟩, c3⟩ := hc
      have e2 : ((76 :: r).drop 1).take ((76 :: r).length - 2) = r.take (r.length - 1) := by
        simp only [List.drop_succ_cons, List.drop_zero, List.length_cons]
        congr 1
      rw [e2] at c3
      refine isClass_semi c3 ?_
      have : (r.take (r.length - 1))[k]? = some 59 := by
        rw [List.getElem?_take_of_lt (by omega), h2, List.getElem?_append_right (by simp; omega)]
        simp [show min k r.length = k by omega]
      exact List.mem_of_getElem? this
  | none =>
    simp only
    unfold objR
    rw [Bool.eq_false_iff]
    intro hc
    simp only [Bool.and_eq_true, decide_eq_true_eq] at hc
    obtain ⟨⟨⟨c1, _⟩, c2⟩, c3⟩ := hc
    simp only [List.length_cons] at c1
    have e2 : ((76 :: r).drop 1).take ((76 :: r).length - 2) = r.take (r.length - 1) := by
      simp only [List.drop_succ_cons, List.drop_zero, List.length_cons]
      congr 1
    rw [e2] at c3
    obtain ⟨y, hy⟩ : ∃ y, r[r.length - 1]? = some y := ⟨_, List.getElem?_eq_getElem (by omega)⟩
    have hl : (76 :: r)[(76 :: r).length - 1]? = some y := by
      rw [show (76 :: r).length - 1 = (r.length - 1) + 1 by simp; omega, List.getElem?_cons_succ]; exact hy
    rw [ends_get hl] at c2
    simp only [decide_eq_true_eq] at c2
    subst c2
    have hr : r = r.take (r.length - 1) ++ 59 :: [] := by
      have : r.drop (r.length - 1) = [59] := by
        have hlt := lt_of_get hy
        rw [List.drop_eq_getElem_cons hlt, List.drop_of_length_le (by omega)]
        rw [List.getElem?_eq_getElem hlt] at hy
        rw [Option.some.inj hy]
      rw [← this, List.take_append_drop]
    rw [hr, nameL_of c3] at hn
    cases hn

theorem cutN_eq {s r : List UInt8} {c : UInt8} (hbs : bare s = c :: r) : cutN s = if 8 < dims s then 0 else if c = 73 ∨ (c = 74 ∧ dims s = 0) ∨ (c = 66 ∧ 0 < dims s) then dims s + 1 else if c = 76 then (match nameL r with | some k => dims s + k + 2 | none => 0) else 0 := by
  unfold cutN; rw [hbs] <;> rfl

theorem refTy_eq (s : List UInt8) : isTy s = (!decide (8 < dims s) && ((decide (0 < dims s) && decide (bare s = [66])) || (decide (bare s = [73]) || ((decide (dims s = 0) && decide (bare s = [74])) || objR (bare s))))) := by
  cases hbs : bare s with
  | nil =>
    have : cutN s = 0 := by unfold cutN; rw [hbs]
    have ho : objR [] = false := rfl
    unfold isTy
    rw [this, ho]
    cases s <;> simp
  | cons c r =>
    have hlen := dims_eq hbs
    have hcut := cutN_eq hbs
    have hne : s ≠ [] := by rintro rfl; simp [bare] at hbs
    unfold isTy
    rw [hcut, hlen]
    generalize dims s = d at *
    have hr0 : (r = []) ↔ r.length = 0 := by cases r <;> simp
    by_cases h8 : 8 < d
    · simp [h8, hne]
    · by_cases c73 : c = 73
      · subst c73
        have : objR (73 :: r) = false := by simp [objR, begins]
        by_cases hr : r = []
        · simp [h8, hne, this, hr]
        · have : r.length ≠ 0 := by rwa [Ne, ← hr0]
          simp [h8, hne, *]
      · by_cases c76 : c = 76
        · subst c76
          rw [objR_name]
          cases hn : nameL r with
          | none => simp [h8, hne]
          | some k =>
            simp only [h8, hne, ne_eq, not_false_iff, decide_true, Bool.true_and, if_false, if_true]
            have : (d + k + 2 = d + (r.length + 1)) = (k + 1 = r.length) := by apply propext; omega
            simp [this]
        · have hob : objR (c :: r) = false := by simp [objR, begins, c76]
          by_cases c74 : c = 74
          · subst c74
            by_cases d0 : d = 0 <;> by_cases hr : r = []
            · subst d0; subst hr; simp [hne]
            · have : r.length ≠ 0 := by rwa [Ne, ← hr0]
              subst d0; simp [hne, hob, hr, this]
            · simp [h8, hne, hob, d0]
            · simp [h8, hne, hob, d0]
          · by_cases c66 : c = 66
            · subst c66
              by_cases d0 : 0 < d <;> by_cases hr : r = []
              · subst hr; simp [h8, hne, hob, d0]
              · have : r.length ≠ 0 := by rwa [Ne, ← hr0]
                simp [h8, hne, hob, d0, hr, this]
              · simp [h8, hne, hob, d0]
              · simp [h8, hne, hob, d0]
            · simp [h8, hne, hob, c73, c74, c66, c76]

theorem dims_get {s : List UInt8} {i : Nat} (h : i < dims s) : s[i]? = some 91 := by
  rw [bare_split s, List.getElem?_append_left (by simpa using h), List.getElem?_replicate, if_pos h]

theorem dims_drop (s : List UInt8) : s.drop (dims s) = bare s := by
  refine (congrArg (List.drop (dims s)) (bare_split s)).trans ?_
  rw [List.drop_append, List.length_replicate]
  simp

theorem l28 {h : Heap} (k : AExit → St → Option β) {s : List UInt8} (hn : s.length ≤ 1000000) : ∀ j i, i + j = dims s →
    xK T (.loop code28L0) ⟨[(0, .val (.str s)), (3, .val (.int .i64 (i : Nat)))], h⟩ (k := ⟨k⟩) = k (.exit 0) ⟨[(0, .val (.str s)), (3, .val (.int .i64 (dims s : Nat)))], h⟩
  | 0, i, hi => by
    have hi : i = dims s := by omega
    rw [xK_loop]
    have hl := bare_len s
    have hd : dims s = s.length - (bare s).length := rfl
    cases hbs : bare s with
    | nil =>
      rw [hbs] at hd
      simp only [List.length_nil, Nat.sub_zero] at hd
      simp (disch := omega) [-getElem?_pos, -getElem?_neg, code28L0, iltF, hi, hd]
    | cons c r =>
      have hlen := dims_eq hbs
      have hc := bare_head hbs
      have e : ((c.toNat : Int) = 91) = (c = 91) := u8_eq c 91 (by omega)
      have hg : s[dims s]? = some c := by
        have := dims_drop s
        rw [hbs] at this
        have h0 := congrArg (fun l => l[0]?) this
        simpa using h0
      simp (disch := omega) [-getElem?_pos, -getElem?_neg, code28L0, iltT, ileT, hi, hg, e, hc]
  | j + 1, i, hi => by
    have hg := dims_get (s := s) (i := i) (by omega)
    have hle : dims s ≤ s.length := by unfold dims; omega
    have ih := l28 (h := h) k hn j (i + 1) (by omega)
    have e : ((i + 1 : Nat) : Int) = (i : Int) + 1 := by omega
    rw [e] at ih
    rw [xK_loop]
    generalize ACode.loop code28L0 = L at ih ⊢
    simp (disch := omega) [-getElem?_pos, -getElem?_neg, code28L0, iltT, ileT, wrapI, hg, ih]

/-- object -/
theorem s93 {s : List UInt8} (hn : s.length ≤ 1000000) : xCall T 93 [.str s] ⟨os, b, w⟩ = some (.bool (objR s), ⟨os, b, w⟩) := by
  by_cases h : 3 ≤ s.length
  · obtain ⟨x, hx⟩ : ∃ x, s[0]? = some x := ⟨_, List.getElem?_eq_getElem (by omega)⟩
    obtain ⟨y, hy⟩ : ∃ y, s[s.length - 1]? = some y := ⟨_, List.getElem?_eq_getElem (by omega)⟩
    have b1 := begins_get (c := 76) hx
    have e1 := ends_get (c := 59) hy
    have u1 : ((x.toNat : Int) = 76) = (x = 76) := u8_eq x 76 (by omega)
    have u2 : ((y.toNat : Int) = 59) = (y = 59) := u8_eq y 59 (by omega)
    have ht : ((s.length : Int) - 1).toNat = s.length - 1 := by omega
    have hq : s.length - 1 - 1 = s.length - 2 := by omega
    have h26 := fun w => s26 (os := os) (b := b) (w := w) (s := List.take (s.length - 2) s.tail) (by simp; omega)
    by_cases c1 : x = 76 <;> by_cases c2 : y = 59
    all_goals simp (disch := omega) [-getElem?_pos, -getElem?_neg, xCallK t93, code93, objR, iltT, iltF, ileT, ileF, nltT, nltF, nleT, nleF, wrapI, h, hx, hy, b1, e1, u1, u2, c1, c2, ht, hq, h26]
  · simp (disch := omega) [xCallK t93, code93, objR, ileF, h]

/-- The reference's IsType -/
theorem s28 {s : List UInt8} (hn : s.length ≤ 1000000) : xCall T 28 [.str s] ⟨os, b, w⟩ = some (.bool (isTy s), ⟨os, b, w⟩) := by
  have hl := fun h (k : AExit → St → Option (AVal × Heap)) => l28 (h := h) k hn (dims s) 0 (by omega)
  simp only [Int.cast_ofNat_Int] at hl
  have hle : dims s ≤ s.length := by unfold dims; omega
  have hb := dims_drop s
  have hbl := bare_len s
  have h93 := fun w => s93 (os := os) (b := b) (w := w) (s := bare s) (by omega)
  rw [refTy_eq]
  have ht : List.take (s.length - dims s) (bare s) = bare s := by rw [← hb, take_drop_len]
  generalize dims s = d at *
  generalize bare s = r at *
  by_cases h8 : 8 < d
  · simp (disch := omega) [xCallK t28, code28, hl, iltT, iltF, ileT, nleT, hb, h8]
  · have hd0 : (d = 0) = ¬ 0 < d := by apply propext; omega
    by_cases d0 : 0 < d <;> cases c66 : decide (r = [66]) <;> cases c73 : decide (r = [73]) <;> cases c74 : decide (r = [74])
    all_goals simp (disch := omega) [xCallK t28, code28, hl, iltT, iltF, ileT, nleT, ieqT, ieqF, neqT, hb, ht, h8, hd0, d0, c66, c73, c74, h93]

end Go.Abs.AbsDesc

/-
  Layer 12: a method's types, by both texts.
-/
namespace Go.Abs.AbsDesc
set_option maxRecDepth 100000
set_option linter.unusedSimpArgs false
variable {os : List AObj} {b w : Nat} {β : Type}

/-- first: what the reference cuts off -/
theorem l87 {O : List AObj} (k : AExit → St → Option β) {s : List UInt8} (hn : s.length ≤ 1000000) : ∀ j i, 0 < i → i + j = s.length + 1 → (cutN s = 0 ∨ i ≤ cutN s) →
    xK T (.loop code87L0) ⟨[(0, .val (.str s)), (3, .val (.int .i64 (i : Nat)))], ⟨O, b, w⟩⟩ (k := ⟨k⟩) = if cutN s = 0 then k (.exit 0) ⟨[], ⟨O, b, w⟩⟩ else k .ret ⟨[(2, .val (.str (s.take (cutN s))))], ⟨O, b, w⟩⟩
  | 0, i, h0, hi, hc => by
    have hle := cutN_le s
    have hc : cutN s = 0 := by omega
    rw [xK_loop]
    simp (disch := omega) [-getElem?_pos, -getElem?_neg, code87L0, ileF, hc]
  | j + 1, i, h0, hi, hc => by
    have hle := cutN_le s
    have h28 := fun w => s28 (os := O) (b := b) (w := w) (s := s.take i) (by simp; omega)
    rw [xK_loop]
    by_cases hi' : i = cutN s
    · subst hi'
      have ht : isTy (s.take (cutN s)) = true := isTy_cut (by omega)
      have hc0 : ¬ cutN s = 0 := by omega
      simp (disch := omega) [-getElem?_pos, -getElem?_neg, code87L0, ileT, nleT, h28, ht, hc0]
      done
    · have ht : isTy (s.take i) = false := by
        rw [Bool.eq_false_iff]
        intro h
        exact hi' (isTy_take (by omega) h)
      have ih := l87 (O := O) k hn j (i + 1) (by omega) (by omega) (by omega)
      have e : ((i + 1 : Nat) : Int) = (i : Int) + 1 := by omega
      rw [e] at ih
      generalize ACode.loop code87L0 = L at ih ⊢
      simp (disch := omega) [-getElem?_pos, -getElem?_neg, code87L0, ileT, nleT, wrapI, h28, ht, ih]

theorem s87 {s : List UInt8} (hn : s.length ≤ 1000000) : xCall T 87 [.str s] ⟨os, b, w⟩ = some (.str (s.take (cutN s)), ⟨os, b, w⟩) := by
  have hl := fun w (k : AExit → St → Option (AVal × Heap)) => l87 (O := os) (b := b) (w := w) k hn s.length 1 (by omega) (by omega) (by omega)
  simp only [Int.cast_ofNat_Int] at hl
  by_cases h : cutN s = 0
  · simp [xCallK t87, code87, hl, h]
  · simp [xCallK t87, code87, hl, h]

/-- The types ahead of a method's closing bracket; what is behind them; at most so many. -/
def methA : Nat → List UInt8 → Option (List (List UInt8) × List UInt8)
  | m, s => if s = [] ∨ begins 41 s = true then some ([], s) else if cutN s = 0 then none else match m with
    | 0 => none
    | m + 1 => (methA m (s.drop (cutN s))).map fun p => (s.take (cutN s) :: p.1, p.2)

theorem methA_len : ∀ {m : Nat} {s : List UInt8} {A : List (List UInt8)} {r : List UInt8}, methA m s = some (A, r) → A.length ≤ m ∧ r.length ≤ s.length ∧ ∀ t ∈ A, t.length ≤ s.length
  | m, s, A, r, h => by
    unfold methA at h
    split at h
    · cases h; simp
    · split at h
      · cases h
      · cases m with
        | zero => cases h
        | succ m =>
          simp only at h
          rw [Option.map_eq_some_iff] at h
          obtain ⟨p, h1, h2⟩ := h
          obtain ⟨rfl, rfl⟩ := Prod.mk.inj h2
          obtain ⟨k1, k2, k3⟩ := methA_len (A := p.1) (r := p.2) h1
          simp only [List.length_drop] at k2 k3
          refine ⟨by simp; omega, by omega, fun t ht => ?_⟩
          rcases List.mem_cons.1 ht with rfl | ht
          · simp; omega
          · have := k3 t ht; omega

/-- What the loop over a method's types leaves, from a row that is there. -/
def Meth38 (b w : Nat) (k : AExit → St → Option β) (x : Option β) (O : List AObj) (L : List (List UInt8)) (a2 a3 : Nat) : Option (List (List UInt8) × List UInt8) → Prop
  | none => ∃ O', O.length ≤ O'.length ∧ x = k .ret ⟨[(2, .val (.slice none 0 (some 0))), (3, .val (.str [])), (4, .val (.int .i64 8))], ⟨O', b, w⟩⟩
  | some (A, r) => ∃ O', O.length ≤ O'.length ∧ x = k (.exit 0) ⟨if a2 < a3 then [(a2, .val (.str r)), (a3, .val (.slice (some (O'.length, 0)) (L.length + A.length) none))] else [(a3, .val (.slice (some (O'.length, 0)) (L.length + A.length) none)), (a2, .val (.str r))], ⟨O' ++ [.cells 1 ((L ++ A).map AVal.str)], b, w⟩⟩

set_option maxHeartbeats 1000000 in
theorem l38 (k : AExit → St → Option β) : ∀ (m : Nat) (s : List UInt8) (O : List AObj) (L : List (List UInt8)), s.length ≤ 1000000 → L.length + m = 16 → L ≠ [] → b ≤ O.length → w ≤ O.length →
    Meth38 b w k (xK T (.loop code38L0) ⟨[(5, .val (.str s)), (7, .val (.slice (some (O.length, 0)) L.length none))], ⟨O ++ [.cells 1 (L.map AVal.str)], b, w⟩⟩ (k := ⟨k⟩)) O L 5 7 (methA m s) := by
  intro m
  induction m with
  | zero =>
    intro s O L hn hL hne hb hw
    unfold methA
    rw [xK_loop]
    cases s with
    | nil =>
      simp only [true_or, if_true]
      refine ⟨O, Nat.le_refl _, ?_⟩
      simp [code38L0]
    | cons x r =>
      have e : ((x.toNat : Int) = 41) = (x = 41) := u8_eq x 41 (by omega)
      by_cases hx : x = 41
      · simp only [begins, hx, decide_true, or_true, if_true]
        refine ⟨O, Nat.le_refl _, ?_⟩
        simp (disch := omega) [-getElem?_pos, -getElem?_neg, code38L0, e, hx, List.getElem?_cons_zero, iltT]
      · have h86 := fun w => s86 (os := O ++ [.cells 1 (L.map AVal.str)]) (b := b) (w := w) hn (by simp; omega)
        have hL16 : (L.length : Int) = 16 := by omega
        have h0 : ∀ n : Nat, n ≠ 0 → List.take n (x :: r) ≠ [] := fun n hn => by cases n <;> simp_all
        by_cases hc : cutN (x :: r) = 0
        · simp only [begins, hx, decide_false, reduceCtorEq, Bool.false_eq_true, or_self, if_false, hc, if_true]
          refine ⟨O ++ [.cells 1 (L.map AVal.str)], by simp, ?_⟩
          simp (disch := omega) [-getElem?_pos, -getElem?_neg, code38L0, e, hx, List.getElem?_cons_zero, iltT, h86, hc]
        · simp only [begins, hx, decide_false, reduceCtorEq, Bool.false_eq_true, or_self, if_false, hc]
          refine ⟨O ++ [.cells 1 (L.map AVal.str)], by simp, ?_⟩
          simp (disch := omega) [-getElem?_pos, -getElem?_neg, code38L0, e, hx, List.getElem?_cons_zero, iltT, h86, h0 _ hc, hL16]
  | succ m ih =>
    intro s O L hn hL hne hb hw
    unfold methA
    rw [xK_loop]
    cases s with
    | nil =>
      simp only [true_or, if_true]
      refine ⟨O, Nat.le_refl _, ?_⟩
      simp [code38L0]
    | cons x r =>
      have e : ((x.toNat : Int) = 41) = (x = 41) := u8_eq x 41 (by omega)
      by_cases hx : x = 41
      · simp only [begins, hx, decide_true, or_true, if_true]
        refine ⟨O, Nat.le_refl _, ?_⟩
        simp (disch := omega) [-getElem?_pos, -getElem?_neg, code38L0, e, hx, List.getElem?_cons_zero, iltT]
      · have h86 := fun w => s86 (os := O ++ [.cells 1 (L.map AVal.str)]) (b := b) (w := w) hn (by simp; omega)
        have hL16 : ¬ (L.length : Int) = 16 := by omega
        have h0 : ∀ n : Nat, n ≠ 0 → List.take n (x :: r) ≠ [] := fun n hn => by cases n <;> simp_all
        by_cases hc : cutN (x :: r) = 0
        · simp only [begins, hx, decide_false, reduceCtorEq, Bool.false_eq_true, or_self, if_false, hc, if_true]
          refine ⟨O ++ [.cells 1 (L.map AVal.str)], by simp, ?_⟩
          simp (disch := omega) [-getElem?_pos, -getElem?_neg, code38L0, e, hx, List.getElem?_cons_zero, iltT, h86, hc]
        · simp only [begins, hx, decide_false, reduceCtorEq, Bool.false_eq_true, or_self, if_false, hc]
          have hle := cutN_le (x :: r)
          have h0' := h0 _ hc
          have hlt : (List.take (cutN (x :: r)) (x :: r)).length = cutN (x :: r) := by simp at hle ⊢; omega
          generalize ht : List.take (cutN (x :: r)) (x :: r) = t at *
          have hdr : List.take ((x :: r).length - cutN (x :: r)) (List.drop (cutN (x :: r)) (x :: r)) = List.drop (cutN (x :: r)) (x :: r) := take_drop_len ..
          have hle2 : (List.drop (cutN (x :: r)) (x :: r)).length ≤ 1000000 := by simp only [List.length_drop]; omega
          have ih := ih (List.drop (cutN (x :: r)) (x :: r)) (O ++ [.dead, .cells 1 [.str t]]) (L ++ [t]) hle2 (by simp; omega) (by simp) (by simp; omega) (by simp; omega)
          simp only [List.length_append, List.length_cons, List.length_nil, List.append_assoc, List.cons_append, List.nil_append, List.map_append, List.map_cons, List.map_nil] at ih
          generalize cutN (x :: r) = n at *
          generalize ACode.loop code38L0 = LL at ih ⊢
          have hle' : n ≤ r.length + 1 := by simpa using hle
          have hdr' : List.take (r.length + 1 - n) (List.drop n (x :: r)) = List.drop n (x :: r) := by simpa using hdr
          have key : Meth38 b w k (xK T code38L0 ⟨[(5, .val (.str (x :: r))), (7, .val (.slice (some (O.length, 0)) L.length none))], ⟨O ++ [.cells 1 (L.map AVal.str)], b, w⟩⟩ (k := ⟨fun e st => nxK e st (f := ⟨fun st => xK T LL st (k := ⟨k⟩)⟩) (k := ⟨k⟩)⟩)) (O ++ [.dead, .cells 1 [.str t]]) (L ++ [t]) 5 7 (methA m (List.drop n (x :: r))) := by
            simp (maxSteps := 2000000) (disch := omega) [-getElem?_pos, -getElem?_neg, code38L0, e, hx, List.getElem?_cons_zero, iltT, h86, h0', hL16, hne, Nat.testBit_eq_decide_div_mod_eq, hlt, Nat.min_eq_left, ileT, nleT, nltT, hdr', ht]
            simpa using ih
          cases hm : methA m (List.drop n (x :: r)) with
          | none =>
            rw [hm] at key
            obtain ⟨O', h1, h2⟩ := key
            exact ⟨O', by simp at h1; omega, h2⟩
          | some p =>
            obtain ⟨A, q⟩ := p
            rw [hm] at key
            obtain ⟨O', h1, h2⟩ := key
            refine ⟨O', by simp at h1; omega, h2.trans ?_⟩
            simp [Nat.add_comm 1, Nat.add_assoc]

end Go.Abs.AbsDesc

/-
  Layer 12: a method's types, by both texts, from the beginning.
-/
namespace Go.Abs.AbsDesc
set_option maxRecDepth 100000
set_option linter.unusedSimpArgs false
variable {os : List AObj} {b w : Nat} {β : Type}

/-- What the loop over a method's types leaves, from nothing. -/
def Meth0 (b w : Nat) (k : AExit → St → Option β) (x : Option β) (O : List AObj) (a2 a3 : Nat) : Option (List (List UInt8) × List UInt8) → Prop
  | none => ∃ O', O.length ≤ O'.length ∧ x = k .ret ⟨[(2, .val (.slice none 0 (some 0))), (3, .val (.str [])), (4, .val (.int .i64 8))], ⟨O', b, w⟩⟩
  | some ([], r) => x = k (.exit 0) ⟨if a2 < a3 then [(a2, .val (.str r)), (a3, .val (.slice none 0 (some 0)))] else [(a3, .val (.slice none 0 (some 0))), (a2, .val (.str r))], ⟨O, b, w⟩⟩
  | some (a :: A, r) => ∃ O', O.length ≤ O'.length ∧ x = k (.exit 0) ⟨if a2 < a3 then [(a2, .val (.str r)), (a3, .val (.slice (some (O'.length, 0)) (A.length + 1) none))] else [(a3, .val (.slice (some (O'.length, 0)) (A.length + 1) none)), (a2, .val (.str r))], ⟨O' ++ [.cells 1 ((a :: A).map AVal.str)], b, w⟩⟩
set_option maxHeartbeats 1000000 in
theorem l38z (k : AExit → St → Option β) (s : List UInt8) (O : List AObj) (hn : s.length ≤ 1000000) (hb : b ≤ O.length) (hw : w ≤ O.length) :
    Meth0 b w k (xK T (.loop code38L0) ⟨[(5, .val (.str s)), (7, .val (.slice none 0 (some 0)))], ⟨O, b, w⟩⟩ (k := ⟨k⟩)) O 5 7 (methA 16 s) := by
  unfold methA
  rw [xK_loop]
  cases s with
  | nil =>
    simp only [true_or, if_true]
    simp [Meth0, code38L0]
  | cons x r =>
    have e : ((x.toNat : Int) = 41) = (x = 41) := u8_eq x 41 (by omega)
    by_cases hx : x = 41
    · simp only [begins, hx, decide_true, or_true, if_true]
      simp (disch := omega) [-getElem?_pos, -getElem?_neg, Meth0, code38L0, e, hx, List.getElem?_cons_zero, iltT]
    · have h86 := fun w => s86 (os := O) (b := b) (w := w) hn hb
      have h0 : ∀ n : Nat, n ≠ 0 → List.take n (x :: r) ≠ [] := fun n hn => by cases n <;> simp_all
      by_cases hc : cutN (x :: r) = 0
      · simp only [begins, hx, decide_false, reduceCtorEq, Bool.false_eq_true, or_self, if_false, hc, if_true]
        refine ⟨O, Nat.le_refl _, ?_⟩
        simp (disch := omega) [-getElem?_pos, -getElem?_neg, code38L0, e, hx, List.getElem?_cons_zero, iltT, h86, hc]
      · simp only [begins, hx, decide_false, reduceCtorEq, Bool.false_eq_true, or_self, if_false, hc]
        have hle := cutN_le (x :: r)
        have h0' := h0 _ hc
        have hlt : (List.take (cutN (x :: r)) (x :: r)).length = cutN (x :: r) := by simp at hle ⊢; omega
        generalize ht : List.take (cutN (x :: r)) (x :: r) = t at *
        have hle2 : (List.drop (cutN (x :: r)) (x :: r)).length ≤ 1000000 := by simp only [List.length_drop]; omega
        have hdr : List.take ((x :: r).length - cutN (x :: r)) (List.drop (cutN (x :: r)) (x :: r)) = List.drop (cutN (x :: r)) (x :: r) := take_drop_len ..
        have ih := l38 (b := b) (w := w) k 15 (List.drop (cutN (x :: r)) (x :: r)) (O ++ [.cells 1 [.str t]]) [t] hle2 rfl (by simp) (by simp; omega) (by simp; omega)
        generalize cutN (x :: r) = n at *
        generalize ACode.loop code38L0 = LL at ih ⊢
        have hle' : n ≤ r.length + 1 := by simpa using hle
        have hdr' : List.take (r.length + 1 - n) (List.drop n (x :: r)) = List.drop n (x :: r) := by simpa using hdr
        have key : Meth38 b w k (xK T code38L0 ⟨[(5, .val (.str (x :: r))), (7, .val (.slice none 0 (some 0)))], ⟨O, b, w⟩⟩ (k := ⟨fun e st => nxK e st (f := ⟨fun st => xK T LL st (k := ⟨k⟩)⟩) (k := ⟨k⟩)⟩)) (O ++ [.cells 1 [.str t]]) [t] 5 7 (methA 15 (List.drop n (x :: r))) := by
          simp (maxSteps := 2000000) (disch := omega) [-getElem?_pos, -getElem?_neg, code38L0, e, hx, List.getElem?_cons_zero, iltT, h86, h0', Nat.testBit_eq_decide_div_mod_eq, hlt, Nat.min_eq_left, ileT, nleT, nltT, hdr', ht]
          simpa using ih
        cases hm : methA 15 (List.drop n (x :: r)) with
        | none =>
          rw [hm] at key
          obtain ⟨O', h1, h2⟩ := key
          exact ⟨O', by simp at h1; omega, h2⟩
        | some p =>
          obtain ⟨A, q⟩ := p
          rw [hm] at key
          obtain ⟨O', h1, h2⟩ := key
          refine ⟨O', by simp at h1; omega, h2.trans ?_⟩
          simp [Nat.add_comm 1, Nat.add_assoc]

set_option maxHeartbeats 1000000 in
theorem l37 (k : AExit → St → Option β) : ∀ (m : Nat) (s : List UInt8) (O : List AObj) (L : List (List UInt8)), s.length ≤ 1000000 → L.length + m = 16 → L ≠ [] → b ≤ O.length → w ≤ O.length →
    Meth38 b w k (xK T (.loop code37L0) ⟨[(5, .val (.slice (some (O.length, 0)) L.length none)), (6, .val (.str s))], ⟨O ++ [.cells 1 (L.map AVal.str)], b, w⟩⟩ (k := ⟨k⟩)) O L 6 5 (methA m s) := by
  intro m
  induction m with
  | zero =>
    intro s O L hn hL hne hb hw
    unfold methA
    rw [xK_loop]
    cases s with
    | nil =>
      simp only [true_or, if_true]
      refine ⟨O, Nat.le_refl _, ?_⟩
      simp [code37L0]
    | cons x r =>
      have e : ((x.toNat : Int) = 41) = (x = 41) := u8_eq x 41 (by omega)
      by_cases hx : x = 41
      · simp only [begins, hx, decide_true, or_true, if_true]
        refine ⟨O, Nat.le_refl _, ?_⟩
        simp (disch := omega) [-getElem?_pos, -getElem?_neg, code37L0, e, hx, List.getElem?_cons_zero, iltT]
      · have h86 := fun w => s87 (os := O ++ [.cells 1 (L.map AVal.str)]) (b := b) (w := w) hn
        have hL16 : (L.length : Int) = 16 := by omega
        have h0 : ∀ n : Nat, n ≠ 0 → List.take n (x :: r) ≠ [] := fun n hn => by cases n <;> simp_all
        by_cases hc : cutN (x :: r) = 0
        · simp only [begins, hx, decide_false, reduceCtorEq, Bool.false_eq_true, or_self, if_false, hc, if_true]
          refine ⟨O ++ [.cells 1 (L.map AVal.str)], by simp, ?_⟩
          simp (disch := omega) [-getElem?_pos, -getElem?_neg, code37L0, e, hx, List.getElem?_cons_zero, iltT, h86, hc]
        · simp only [begins, hx, decide_false, reduceCtorEq, Bool.false_eq_true, or_self, if_false, hc]
          refine ⟨O ++ [.cells 1 (L.map AVal.str)], by simp, ?_⟩
          simp (disch := omega) [-getElem?_pos, -getElem?_neg, code37L0, e, hx, List.getElem?_cons_zero, iltT, h86, h0 _ hc, hL16]
  | succ m ih =>
    intro s O L hn hL hne hb hw
    unfold methA
    rw [xK_loop]
    cases s with
    | nil =>
      simp only [true_or, if_true]
      refine ⟨O, Nat.le_refl _, ?_⟩
      simp [code37L0]
    | cons x r =>
      have e : ((x.toNat : Int) = 41) = (x = 41) := u8_eq x 41 (by omega)
      by_cases hx : x = 41
      · simp only [begins, hx, decide_true, or_true, if_true]
        refine ⟨O, Nat.le_refl _, ?_⟩
        simp (disch := omega) [-getElem?_pos, -getElem?_neg, code37L0, e, hx, List.getElem?_cons_zero, iltT]
      · have h86 := fun w => s87 (os := O ++ [.cells 1 (L.map AVal.str)]) (b := b) (w := w) hn
        have hL16 : ¬ (L.length : Int) = 16 := by omega
        have h0 : ∀ n : Nat, n ≠ 0 → List.take n (x :: r) ≠ [] := fun n hn => by cases n <;> simp_all
        by_cases hc : cutN (x :: r) = 0
        · simp only [begins, hx, decide_false, reduceCtorEq, Bool.false_eq_true, or_self, if_false, hc, if_true]
          refine ⟨O ++ [.cells 1 (L.map AVal.str)], by simp, ?_⟩
          simp (disch := omega) [-getElem?_pos, -getElem?_neg, code37L0, e, hx, List.getElem?_cons_zero, iltT, h86, hc]
        · simp only [begins, hx, decide_false, reduceCtorEq, Bool.false_eq_true, or_self, if_false, hc]
          have hle := cutN_le (x :: r)
          have h0' := h0 _ hc
          have hlt : (List.take (cutN (x :: r)) (x :: r)).length = cutN (x :: r) := by simp at hle ⊢; omega
          generalize ht : List.take (cutN (x :: r)) (x :: r) = t at *
          have hdr : List.take ((x :: r).length - cutN (x :: r)) (List.drop (cutN (x :: r)) (x :: r)) = List.drop (cutN (x :: r)) (x :: r) := take_drop_len ..
          have hle2 : (List.drop (cutN (x :: r)) (x :: r)).length ≤ 1000000 := by simp only [List.length_drop]; omega
          have ih := ih (List.drop (cutN (x :: r)) (x :: r)) (O ++ [.dead, .cells 1 [.str t]]) (L ++ [t]) hle2 (by simp; omega) (by simp) (by simp; omega) (by simp; omega)
          simp only [List.length_append, List.length_cons, List.length_nil, List.append_assoc, List.cons_append, List.nil_append, List.map_append, List.map_cons, List.map_nil] at ih
          generalize cutN (x :: r) = n at *
          generalize ACode.loop code37L0 = LL at ih ⊢
          have hle' : n ≤ r.length + 1 := by simpa using hle
          have hdr' : List.take (r.length + 1 - n) (List.drop n (x :: r)) = List.drop n (x :: r) := by simpa using hdr
          have key : Meth38 b w k (xK T code37L0 ⟨[(5, .val (.slice (some (O.length, 0)) L.length none)), (6, .val (.str (x :: r)))], ⟨O ++ [.cells 1 (L.map AVal.str)], b, w⟩⟩ (k := ⟨fun e st => nxK e st (f := ⟨fun st => xK T LL st (k := ⟨k⟩)⟩) (k := ⟨k⟩)⟩)) (O ++ [.dead, .cells 1 [.str t]]) (L ++ [t]) 6 5 (methA m (List.drop n (x :: r))) := by
            simp (maxSteps := 2000000) (disch := omega) [-getElem?_pos, -getElem?_neg, code37L0, e, hx, List.getElem?_cons_zero, iltT, h86, h0', hL16, hne, Nat.testBit_eq_decide_div_mod_eq, hlt, Nat.min_eq_left, ileT, nleT, nltT, hdr', ht]
            simpa using ih
          cases hm : methA m (List.drop n (x :: r)) with
          | none =>
            rw [hm] at key
            obtain ⟨O', h1, h2⟩ := key
            exact ⟨O', by simp at h1; omega, h2⟩
          | some p =>
            obtain ⟨A, q⟩ := p
            rw [hm] at key
            obtain ⟨O', h1, h2⟩ := key
            refine ⟨O', by simp at h1; omega, h2.trans ?_⟩
            simp [Nat.add_comm 1, Nat.add_assoc]


set_option maxHeartbeats 1000000 in
theorem l37z (k : AExit → St → Option β) (s : List UInt8) (O : List AObj) (hn : s.length ≤ 1000000) (hb : b ≤ O.length) (hw : w ≤ O.length) :
    Meth0 b w k (xK T (.loop code37L0) ⟨[(5, .val (.slice none 0 (some 0))), (6, .val (.str s))], ⟨O, b, w⟩⟩ (k := ⟨k⟩)) O 6 5 (methA 16 s) := by
  unfold methA
  rw [xK_loop]
  cases s with
  | nil =>
    simp only [true_or, if_true]
    simp [Meth0, code37L0]
  | cons x r =>
    have e : ((x.toNat : Int) = 41) = (x = 41) := u8_eq x 41 (by omega)
    by_cases hx : x = 41
    · simp only [begins, hx, decide_true, or_true, if_true]
      simp (disch := omega) [-getElem?_pos, -getElem?_neg, Meth0, code37L0, e, hx, List.getElem?_cons_zero, iltT]
    · have h86 := fun w => s87 (os := O) (b := b) (w := w) hn
      have h0 : ∀ n : Nat, n ≠ 0 → List.take n (x :: r) ≠ [] := fun n hn => by cases n <;> simp_all
      by_cases hc : cutN (x :: r) = 0
      · simp only [begins, hx, decide_false, reduceCtorEq, Bool.false_eq_true, or_self, if_false, hc, if_true]
        refine ⟨O, Nat.le_refl _, ?_⟩
        simp (disch := omega) [-getElem?_pos, -getElem?_neg, code37L0, e, hx, List.getElem?_cons_zero, iltT, h86, hc]
      · simp only [begins, hx, decide_false, reduceCtorEq, Bool.false_eq_true, or_self, if_false, hc]
        have hle := cutN_le (x :: r)
        have h0' := h0 _ hc
        have hlt : (List.take (cutN (x :: r)) (x :: r)).length = cutN (x :: r) := by simp at hle ⊢; omega
        generalize ht : List.take (cutN (x :: r)) (x :: r) = t at *
        have hle2 : (List.drop (cutN (x :: r)) (x :: r)).length ≤ 1000000 := by simp only [List.length_drop]; omega
        have hdr : List.take ((x :: r).length - cutN (x :: r)) (List.drop (cutN (x :: r)) (x :: r)) = List.drop (cutN (x :: r)) (x :: r) := take_drop_len ..
        have ih := l37 (b := b) (w := w) k 15 (List.drop (cutN (x :: r)) (x :: r)) (O ++ [.cells 1 [.str t]]) [t] hle2 rfl (by simp) (by simp; omega) (by simp; omega)
        generalize cutN (x :: r) = n at *
        generalize ACode.loop code37L0 = LL at ih ⊢
        have hle' : n ≤ r.length + 1 := by simpa using hle
        have hdr' : List.take (r.length + 1 - n) (List.drop n (x :: r)) = List.drop n (x :: r) := by simpa using hdr
        have key : Meth38 b w k (xK T code37L0 ⟨[(5, .val (.slice none 0 (some 0))), (6, .val (.str (x :: r)))], ⟨O, b, w⟩⟩ (k := ⟨fun e st => nxK e st (f := ⟨fun st => xK T LL st (k := ⟨k⟩)⟩) (k := ⟨k⟩)⟩)) (O ++ [.cells 1 [.str t]]) [t] 6 5 (methA 15 (List.drop n (x :: r))) := by
          simp (maxSteps := 2000000) (disch := omega) [-getElem?_pos, -getElem?_neg, code37L0, e, hx, List.getElem?_cons_zero, iltT, h86, h0', Nat.testBit_eq_decide_div_mod_eq, hlt, Nat.min_eq_left, ileT, nleT, nltT, hdr', ht]
          simpa using ih
        cases hm : methA 15 (List.drop n (x :: r)) with
        | none =>
          rw [hm] at key
          obtain ⟨O', h1, h2⟩ := key
          exact ⟨O', by simp at h1; omega, h2⟩
        | some p =>
          obtain ⟨A, q⟩ := p
          rw [hm] at key
          obtain ⟨O', h1, h2⟩ := key
          refine ⟨O', by simp at h1; omega, h2.trans ?_⟩
          simp [Nat.add_comm 1, Nat.add_assoc]

end Go.Abs.AbsDesc

/-
  Layer 12: Method, by both texts: the same.
-/
namespace Go.Abs.AbsDesc
set_option maxRecDepth 100000
set_option linter.unusedSimpArgs false
variable {os : List AObj} {b w : Nat} {β : Type}

theorem Meth0.elim {k : AExit → St → Option β} {x y : Option β} {O : List AObj} {a2 a3 : Nat} {m : Option (List (List UInt8) × List UInt8)} (h : Meth0 b w k x O a2 a3 m)
    (h1 : ∀ O', m = none → O.length ≤ O'.length → k .ret ⟨[(2, .val (.slice none 0 (some 0))), (3, .val (.str [])), (4, .val (.int .i64 8))], ⟨O', b, w⟩⟩ = y)
    (h2 : ∀ r, m = some ([], r) → k (.exit 0) ⟨if a2 < a3 then [(a2, .val (.str r)), (a3, .val (.slice none 0 (some 0)))] else [(a3, .val (.slice none 0 (some 0))), (a2, .val (.str r))], ⟨O, b, w⟩⟩ = y)
    (h3 : ∀ O' a A r, m = some (a :: A, r) → O.length ≤ O'.length → k (.exit 0) ⟨if a2 < a3 then [(a2, .val (.str r)), (a3, .val (.slice (some (O'.length, 0)) (A.length + 1) none))] else [(a3, .val (.slice (some (O'.length, 0)) (A.length + 1) none)), (a2, .val (.str r))], ⟨O' ++ [.cells 1 ((a :: A).map AVal.str)], b, w⟩⟩ = y) : x = y := by
  cases m with
  | none =>
    obtain ⟨O', e1, e2⟩ := h
    exact e2.trans (h1 O' rfl e1)
  | some p =>
    obtain ⟨A, r⟩ := p
    cases A with
    | nil => exact (show x = _ from h).trans (h2 r rfl)
    | cons a A =>
      obtain ⟨O', e1, e2⟩ := h
      exact e2.trans (h3 O' a A r rfl e1)

/-- A method's types and what it gives. -/
def methL (s : List UInt8) : Option (List (List UInt8) × List UInt8) :=
  if begins 40 s then (match methA 16 s.tail with
    | some (A, r) => if begins 41 r && (decide (r.tail = [86]) || isTy r.tail) then some (A, r.tail) else none
    | none => none)
  else none

def methV (n : Nat) : Option (List (List UInt8) × List UInt8) → AVal
  | none => .tuple [.slice none 0 (some 0), .str [], .int .i64 8]
  | some ([], r) => .tuple [.slice none 0 (some 0), .str r, .int .i64 0]
  | some (a :: A, r) => .tuple [.slice (some (n, 0)) (A.length + 1) none, .str r, .int .i64 0]

def methO (os : List AObj) : Option (List (List UInt8) × List UInt8) → List AObj
  | some (a :: A, _) => os ++ [.cells 1 ((a :: A).map AVal.str)]
  | _ => os

theorem s38 {s : List UInt8} (hn : s.length ≤ 1000000) (hb : b ≤ os.length) : xCall T 38 [.str s] ⟨os, b, w⟩ = some (methV os.length (methL s), ⟨methO os (methL s), b, w⟩) := by
  have h85 := fun w => s85 (os := os) (b := b) (w := w) (s := s) (c := 40) (by omega)
  by_cases h : begins 40 s = true
  · cases s with
    | nil => simp [begins] at h
    | cons x q =>
      simp only [h, if_true, List.tail_cons] at h85
      simp only [List.length_cons] at hn
      have hm : methL (x :: q) = (match methA 16 q with
          | some (A, r) => if begins 41 r && (decide (r.tail = [86]) || isTy r.tail) then some (A, r.tail) else none
          | none => none) := by
        unfold methL; rw [if_pos h]; rfl
      rw [hm]
      simp (disch := omega) [-getElem?_pos, -getElem?_neg, List.getElem?_cons_zero, List.getElem?_cons_succ, xCallK t38, code38, h85]
      refine Meth0.elim (l38z _ q os (by omega) hb (Nat.le_refl _)) ?_ ?_ ?_
      · intro O' h1 h2
        simp (disch := omega) [-getElem?_pos, -getElem?_neg, List.getElem?_cons_zero, List.getElem?_cons_succ, code38, h1, methV, methO]
      · intro r h1
        have hr := (methA_len h1).2.1
        have h2 := fun w => s85 (os := os) (b := b) (w := w) (s := r) (c := 41) (by omega)
        have h3 := fun w => s27 (b := b) (w := w) (s := r.tail) (by simp; omega) hb
        by_cases c1 : begins 41 r = true <;> by_cases c2 : r.tail = [86] <;> by_cases c3 : isTy r.tail = true
        all_goals simp (disch := omega) [-getElem?_pos, -getElem?_neg, List.getElem?_cons_zero, List.getElem?_cons_succ, code38, h1, h2, h3, c1, c2, c3, methV, methO]
      · intro O' a A r h1 h2
        have hr := (methA_len h1).2.1
        have hb' : b ≤ (O' ++ [AObj.cells 1 ((a :: A).map AVal.str)]).length := by simp; omega
        have h4 := fun w => s85 (os := O' ++ [.cells 1 ((a :: A).map AVal.str)]) (b := b) (w := w) (s := r) (c := 41) (by omega)
        have h3 := fun w => s27 (os := O' ++ [.cells 1 ((a :: A).map AVal.str)]) (b := b) (w := w) (s := r.tail) (by simp; omega) hb'
        simp only [List.map_cons] at h4 h3
        by_cases c1 : begins 41 r = true <;> by_cases c2 : r.tail = [86] <;> by_cases c3 : isTy r.tail = true
        all_goals simp (disch := omega) [-getElem?_pos, -getElem?_neg, List.getElem?_cons_zero, List.getElem?_cons_succ, code38, h1, h4, h3, c1, c2, c3, methV, methO, nltF, reach_step, reach_done]
  · have hm : methL s = none := by unfold methL; rw [if_neg h]
    rw [hm]
    simp only [Bool.not_eq_true] at h
    simp only [h, Bool.false_eq_true, if_false] at h85
    simp (disch := omega) [-getElem?_pos, -getElem?_neg, List.getElem?_cons_zero, List.getElem?_cons_succ, xCallK t38, code38, h85, methV, methO]

end Go.Abs.AbsDesc

/-
  Layer 12: the reference's Method; rows of texts held against each other.
-/
namespace Go.Abs.AbsDesc
set_option maxRecDepth 100000
set_option linter.unusedSimpArgs false
variable {os : List AObj} {b w : Nat} {β : Type}

theorem methA_end : ∀ {m : Nat} {s : List UInt8} {A : List (List UInt8)} {r : List UInt8}, methA m s = some (A, r) → r = [] ∨ begins 41 r = true
  | m, s, A, r, h => by
    unfold methA at h
    split at h
    · rename_i hc
      cases h; exact hc
    · split at h
      · cases h
      · cases m with
        | zero => cases h
        | succ m =>
          simp only at h
          rw [Option.map_eq_some_iff] at h
          obtain ⟨p, h1, h2⟩ := h
          obtain ⟨rfl, rfl⟩ := Prod.mk.inj h2
          exact methA_end (A := p.1) (r := p.2) h1

theorem s37 {s : List UInt8} (hn : s.length ≤ 1000000) (hb : b ≤ os.length) : xCall T 37 [.str s] ⟨os, b, w⟩ = some (methV os.length (methL s), ⟨methO os (methL s), b, w⟩) := by
  cases s with
  | nil =>
    simp (disch := omega) [-getElem?_pos, -getElem?_neg, List.getElem?_cons_zero, List.getElem?_cons_succ, xCallK t37, code37, methL, begins, methV, methO]
  | cons x q =>
    have e : ((x.toNat : Int) = 40) = (x = 40) := u8_eq x 40 (by omega)
    simp only [List.length_cons] at hn
    by_cases h : x = 40
    · have hm : methL (x :: q) = (match methA 16 q with
          | some (A, r) => if begins 41 r && (decide (r.tail = [86]) || isTy r.tail) then some (A, r.tail) else none
          | none => none) := by
        unfold methL; rw [if_pos (by simp [begins, h])]; rfl
      rw [hm]
      simp (disch := omega) [-getElem?_pos, -getElem?_neg, List.getElem?_cons_zero, List.getElem?_cons_succ, xCallK t37, code37, e, h, iltT, ileT, nltT, nleT]
      refine Meth0.elim (l37z _ q os (by omega) hb (Nat.le_refl _)) ?_ ?_ ?_
      · intro O' h1 h2
        simp (disch := omega) [code37, h1, methV, methO]
      · intro r h1
        have hr := (methA_len h1).2.1
        rcases methA_end h1 with c0 | c1
        · subst c0
          simp (disch := omega) [-getElem?_pos, -getElem?_neg, List.getElem?_cons_zero, List.getElem?_cons_succ, code37, h1, begins, methV, methO]
        · cases r with
          | nil => simp [begins] at c1
          | cons y r =>
            simp only [List.length_cons] at hr
            have h3 := fun w => s28 (os := os) (b := b) (w := w) (s := r) (by omega)
            rcases Decidable.em (r = [86]) with c2 | c2
            · subst c2
              cases c3 : isTy [86]
              all_goals simp (disch := omega) [-getElem?_pos, -getElem?_neg, List.getElem?_cons_zero, List.getElem?_cons_succ, code37, h1, h3, c1, c3, methV, methO, iltT, ileT, nltT, nleT]
            by_cases c3 : isTy r = true
            all_goals simp (disch := omega) [-getElem?_pos, -getElem?_neg, List.getElem?_cons_zero, List.getElem?_cons_succ, code37, h1, h3, c1, c2, c3, methV, methO, iltT, ileT, nltT, nleT]
      · intro O' a A r h1 h2
        have hr := (methA_len h1).2.1
        rcases methA_end h1 with c0 | c1
        · subst c0
          simp (disch := omega) [-getElem?_pos, -getElem?_neg, List.getElem?_cons_zero, List.getElem?_cons_succ, code37, h1, begins, methV, methO]
        · cases r with
          | nil => simp [begins] at c1
          | cons y r =>
            simp only [List.length_cons] at hr
            have h3 := fun w => s28 (os := O' ++ [.cells 1 ((a :: A).map AVal.str)]) (b := b) (w := w) (s := r) (by omega)
            simp only [List.map_cons] at h3
            rcases Decidable.em (r = [86]) with c2 | c2
            · subst c2
              cases c3 : isTy [86]
              all_goals simp (disch := omega) [-getElem?_pos, -getElem?_neg, List.getElem?_cons_zero, List.getElem?_cons_succ, code37, h1, h3, c1, c3, methV, methO, nltF, nltT, iltT, ileT, nleT, reach_step, reach_done]
            by_cases c3 : isTy r = true
            all_goals simp (disch := omega) [-getElem?_pos, -getElem?_neg, List.getElem?_cons_zero, List.getElem?_cons_succ, code37, h1, h3, c1, c2, c3, methV, methO, nltF, nltT, iltT, ileT, nleT, reach_step, reach_done]
    · have hm : methL (x :: q) = none := by unfold methL; rw [if_neg (by simp [begins, h])]
      rw [hm]
      simp (disch := omega) [-getElem?_pos, -getElem?_neg, List.getElem?_cons_zero, List.getElem?_cons_succ, xCallK t37, code37, e, h, methV, methO, iltT, ileT, nltT, nleT]

/-- same -/
theorem l29 {L1 L2 : List (List UInt8)} {a1 a2 : Option (Nat × Nat)} {c1 c2 : Option Nat} (h1 : Row os 1 strCell L1 a1) (h2 : Row os 1 strCell L2 a2) (hl : L1.length = L2.length) (hn : L1.length ≤ 1000000) (k : AExit → St → Option β) : ∀ j i, i + j = L1.length →
    xK T (.loop code29L0) ⟨[(0, .val (.slice a1 L1.length c1)), (1, .val (.slice a2 L2.length c2)), (12, .val (.int .i64 (L1.length : Nat))), (13, .val (.int .i64 (i : Nat)))], ⟨os, b, w⟩⟩ (k := ⟨k⟩) =
      if L1.drop i = L2.drop i then k (.exit 0) ⟨[], ⟨os, b, w⟩⟩ else k .ret ⟨[(4, .val (.bool false))], ⟨os, b, w⟩⟩
  | 0, i, hi => by
    rw [xK_loop, if_pos (by rw [List.drop_of_length_le (by omega), List.drop_of_length_le (by omega)])]
    simp (disch := omega) [-getElem?_pos, -getElem?_neg, code29L0, iltF, nltF]
  | j + 1, i, hi => by
    obtain ⟨x, hx⟩ : ∃ x, L1[i]? = some x := ⟨_, List.getElem?_eq_getElem (by omega)⟩
    obtain ⟨y, hy⟩ : ∃ y, L2[i]? = some y := ⟨_, List.getElem?_eq_getElem (by omega)⟩
    have d1 : L1.drop i = x :: L1.drop (i + 1) := by
      have := lt_of_get hx
      rw [List.getElem?_eq_getElem this] at hx
      rw [List.drop_eq_getElem_cons this, Option.some.inj hx]
    have d2 : L2.drop i = y :: L2.drop (i + 1) := by
      have := lt_of_get hy
      rw [List.getElem?_eq_getElem this] at hy
      rw [List.drop_eq_getElem_cons this, Option.some.inj hy]
    obtain ⟨p1, o1, cs1, rfl, r1, q1⟩ := h1.at' (ne_of_get hx)
    obtain ⟨p2, o2, cs2, rfl, r2, q2⟩ := h2.at' (ne_of_get hy)
    have g1 : cs1[o1 + i]? = some (.str x) := by
      have : (List.take 1 (List.drop (o1 + i * 1) cs1))[0]? = some (.str x) := by rw [(q1 i x hx).2]; rfl
      simpa using this
    have g2 : cs2[o2 + i]? = some (.str y) := by
      have : (List.take 1 (List.drop (o2 + i * 1) cs2))[0]? = some (.str y) := by rw [(q2 i y hy).2]; rfl
      simpa using this
    have ih := l29 (c1 := c1) (c2 := c2) h1 h2 hl hn k j (i + 1) (by omega)
    have e : ((i + 1 : Nat) : Int) = (i : Int) + 1 := by omega
    rw [e] at ih
    rw [xK_loop, d1, d2]
    generalize ACode.loop code29L0 = L at ih ⊢
    by_cases hxy : x = y
    · subst hxy
      simp (disch := omega) [-getElem?_pos, -getElem?_neg, code29L0, iltT, ileT, nltT, nleT, wrapI, g1, g2, r1, r2, ih]
    · simp (disch := omega) [-getElem?_pos, -getElem?_neg, code29L0, iltT, ileT, nltT, nleT, wrapI, g1, g2, r1, r2, hxy]

theorem s29 {L1 L2 : List (List UInt8)} {a1 a2 : Option (Nat × Nat)} {c1 c2 : Option Nat} (h1 : Row os 1 strCell L1 a1) (h2 : Row os 1 strCell L2 a2) (hn : L1.length ≤ 1000000) :
    xCall T 29 [.slice a1 L1.length c1, .slice a2 L2.length c2] ⟨os, b, w⟩ = some (.bool (decide (L1 = L2)), ⟨os, b, w⟩) := by
  by_cases hl : L1.length = L2.length
  · have h := fun w (k : AExit → St → Option (AVal × Heap)) => l29 (b := b) (w := w) (c1 := c1) (c2 := c2) h1 h2 hl hn k L1.length 0 (by omega)
    simp only [Int.cast_ofNat_Int, List.drop_zero] at h
    by_cases e : L1 = L2
    · subst e
      simp (disch := omega) [-getElem?_pos, -getElem?_neg, xCallK t29, code29, h]
    · rw [hl] at h
      simp (disch := omega) [-getElem?_pos, -getElem?_neg, xCallK t29, code29, h, e, hl]
  · have e : ¬ L1 = L2 := fun e => hl (by rw [e])
    simp (disch := omega) [-getElem?_pos, -getElem?_neg, xCallK t29, code29, e, ieqF, neqF]

end Go.Abs.AbsDesc

/-
  Layer 12: the laws' functions: DescTells, DescNested.
-/
namespace Go.Abs.AbsDesc
set_option maxRecDepth 100000
set_option linter.unusedSimpArgs false
variable {os : List AObj} {b w : Nat} {β : Type}

theorem s39 (h : Heap) : xCall T 39 [] h = some (.bool true, h) :=
  closed_run (f := code39) t39 rfl 60 rfl rfl (h' := ⟨[], 0, 0⟩) (by kernel_rfl) h

theorem row_new (os : List AObj) (A : List (List UInt8)) (zs : List AObj) : Row (os ++ .cells 1 (A.map AVal.str) :: zs) 1 strCell A (some (os.length, 0)) :=
  Row.mk0 (fun _ => rfl) (by rw [← flat_strs]; simp)

theorem row_nil (os : List AObj) : Row os 1 strCell [] none := ⟨fun h => absurd rfl h⟩

theorem s40 {s : List UInt8} (hb : b ≤ os.length) : xCall T 40 [.str s] ⟨os, b, w⟩ = some (.bool true, ⟨os, b, w⟩) := by
  by_cases hn : s.length ≤ 400
  · have h38 := fun w => s38 (os := os) (b := b) (w := w) (s := s) (by omega) hb
    have h37 := fun w => s37 (os := methO os (methL s)) (b := b) (w := w) (s := s) (by omega) (by cases methL s with | none => exact hb | some p => obtain ⟨A, r⟩ := p; cases A <;> simp [methO] <;> omega)
    have h36 := fun os w => s36 (os := os) (b := b) (w := w) (s := s) (by omega)
    have h35 := fun os w => s35 (os := os) (b := b) (w := w) (s := s) (by omega)
    have h34 := fun os w => s34 (os := os) (b := b) (w := w) (s := s) (by omega)
    have h33 := fun os w => s33 (os := os) (b := b) (w := w) (s := s) (by omega)
    have h26 := fun os w => s26 (os := os) (b := b) (w := w) (s := s) (by omega)
    have h28 := fun os w => s28 (os := os) (b := b) (w := w) (s := s) (by omega)
    have h30 := fun os w => s30 (os := os) (b := b) (w := w) (s := s)
    have h31 := fun os w => s31 (os := os) (b := b) (w := w) (s := s) (by omega)
    have h32 := fun os w => s32 (os := os) (b := b) (w := w) (s := s) (by omega)
    obtain ⟨v1, v2, hv⟩ : ∃ v1 v2, elemV s = .tuple [.str v1, .bool v2] := ⟨_, _, rfl⟩
    obtain ⟨c1, c2, hc⟩ : ∃ v1 v2, classV s = .tuple [.str v1, .bool v2] := by unfold classV; split <;> exact ⟨_, _, rfl⟩
    simp only [hv] at h36 h35
    simp only [hc] at h34 h33
    have z1 : 1 + s.length ≤ 9223372036854775807 := by omega
    have z2 : s.length + 1 + 1 ≤ 9223372036854775807 := by omega
    have z3 : s.length + 1 ≤ 9223372036854775807 := by omega
    cases hm : methL s with
    | none =>
      simp only [hm, methV, methO] at h38 h37
      have h25 := fun w => s25 (os := os) (b := b) (w := w) (s := s) hb
      have h27 := fun w => s27 (os := os) (b := b) (w := w) (s := s) (by omega) hb
      have h29 := fun w => s29 (b := b) (w := w) (c1 := some 0) (c2 := some 0) (row_nil os) (row_nil os) (by simp)
      simp only [List.length_nil] at h29
      simp (disch := omega) [-getElem?_pos, -getElem?_neg, List.getElem?_cons_zero, List.getElem?_cons_succ, xCallK t40, code40, s39, iltF, h38, h37, h36, h35, h34, h33, h25, h26, h27, h28, h29, h30, h31, h32, z1, z2, z3]
    | some p =>
      obtain ⟨A, r⟩ := p
      cases A with
      | nil =>
        simp only [hm, methV, methO] at h38 h37
        have h25 := fun w => s25 (os := os) (b := b) (w := w) (s := s) hb
        have h27 := fun w => s27 (os := os) (b := b) (w := w) (s := s) (by omega) hb
        have h29 := fun w => s29 (b := b) (w := w) (c1 := some 0) (c2 := some 0) (row_nil os) (row_nil os) (by simp)
        simp only [List.length_nil] at h29
        simp (disch := omega) [-getElem?_pos, -getElem?_neg, List.getElem?_cons_zero, List.getElem?_cons_succ, xCallK t40, code40, s39, iltF, h38, h37, h36, h35, h34, h33, h25, h26, h27, h28, h29, h30, h31, h32, z1, z2, z3]
      | cons a A =>
        have hA : (a :: A).length ≤ 16 := by
          unfold methL at hm
          split at hm
          · split at hm
            · rename_i h1
              split at hm
              · cases hm; exact (methA_len h1).1
              · cases hm
            · cases hm
          · cases hm
        simp only [hm, methV, methO] at h38 h37
        have hb' : b ≤ (os ++ AObj.cells 1 ((a :: A).map AVal.str) :: [AObj.cells 1 ((a :: A).map AVal.str)]).length := by simp; omega
        have h25 := fun w => s25 (b := b) (w := w) (s := s) hb'
        have h27 := fun w => s27 (b := b) (w := w) (s := s) (by omega) hb'
        have r1 := row_new os (a :: A) [AObj.cells 1 ((a :: A).map AVal.str)]
        have r2 := row_new (os ++ [AObj.cells 1 ((a :: A).map AVal.str)]) (a :: A) []
        simp only [List.append_assoc, List.cons_append, List.nil_append, List.length_append, List.length_cons, List.length_nil] at r2
        have h29 := fun w => s29 (b := b) (w := w) (c1 := none) (c2 := none) r1 r2 (by omega)
        simp only [List.length_cons, List.map_cons, List.append_assoc, List.cons_append, List.nil_append, List.length_append, List.length_nil, Nat.zero_add] at h38 h37 h25 h27 h29
        simp (disch := omega) [-getElem?_pos, -getElem?_neg, List.getElem?_cons_zero, List.getElem?_cons_succ, xCallK t40, code40, s39, iltF, h38, h37, h36, h35, h34, h33, h25, h26, h27, h28, h29, h30, h31, h32, z1, z2, z3]
  · simp (disch := omega) [-getElem?_pos, -getElem?_neg, List.getElem?_cons_zero, List.getElem?_cons_succ, xCallK t40, code40, s39, iltT]

/-- A type, or a byte of an array, behind so many brackets. -/
def Nest (n : Nat) (t : List UInt8) : Prop := n ≤ 8 ∧ ((∃ c, t = List.replicate n 91 ++ [c] ∧ (c = 73 ∨ c = 66 ∨ (c = 74 ∧ n = 0))) ∨ (∃ a, isClass a = true ∧ t = List.replicate n 91 ++ 76 :: (a ++ [59])))

theorem nest_ty {t : List UInt8} (h : isTy t = true) : ∃ n, Nest n t := by
  rcases (isTy_iff t).1 h with ⟨n, c, h8, hc⟩ | ⟨n, a, h8, ha⟩
  · exact ⟨n, h8, .inl ⟨c, rfl, by rcases hc with e | e | ⟨e, _⟩ <;> simp_all⟩⟩
  · exact ⟨n, h8, .inr ⟨a, ha, rfl⟩⟩

theorem nest_next {n : Nat} {t : List UInt8} (h : Nest (n + 1) t) : ∃ e, t = 91 :: e ∧ Nest n e ∧ (isTy e = true ∨ e = [66]) := by
  obtain ⟨h8, ⟨c, rfl, hc⟩ | ⟨a, ha, rfl⟩⟩ := h
  · refine ⟨List.replicate n 91 ++ [c], by rw [List.replicate_succ]; rfl, ⟨by omega, .inl ⟨c, rfl, by rcases hc with e | e | ⟨_, e⟩ <;> simp_all⟩⟩, ?_⟩
    by_cases hn : n = 0 ∧ c = 66
    · obtain ⟨rfl, rfl⟩ := hn
      exact .inr rfl
    · refine .inl ((isTy_iff _).2 (.one n c (by omega) ?_))
      rcases hc with e | e | ⟨_, e⟩
      · exact .inl e
      · exact .inr (.inr ⟨e, by simp [e] at hn; omega⟩)
      · omega
  · exact ⟨List.replicate n 91 ++ 76 :: (a ++ [59]), by rw [List.replicate_succ]; rfl, ⟨by omega, .inr ⟨a, ha, rfl⟩⟩, .inl ((isTy_iff _).2 (.obj n a (by omega) ha))⟩

theorem l41 (hb : b ≤ os.length) (k : AExit → St → Option β) : ∀ (n : Nat) (t : List UInt8) (i : Nat), t.length ≤ 300 → i + n ≤ 8 → Nest n t →
    xK T (.loop code41L0) ⟨[(0, .val (.str t)), (17, .val (.int .i64 (i : Nat)))], ⟨os, b, w⟩⟩ (k := ⟨k⟩) = k .ret ⟨[(2, .val (.bool true))], ⟨os, b, w⟩⟩
  | 0, t, i, ht, hi, h => by
    have h36 := s36 (os := os) (b := b) (w := w) (s := t) (by omega)
    have h34 := s34 (os := os) (b := b) (w := w) (s := t) (by omega)
    have h30 := s30 (os := os) (b := b) (w := w) (s := t)
    rw [xK_loop]
    obtain ⟨_, ⟨c, rfl, hc⟩ | ⟨a, ha, rfl⟩⟩ := h
    · have hc91 : ¬ c = 91 := by rcases hc with e | e | ⟨e, _⟩ <;> (subst e; decide)
      have hc76 : ¬ c = 76 := by rcases hc with e | e | ⟨e, _⟩ <;> (subst e; decide)
      simp only [List.replicate_zero, List.nil_append] at h36 h34 ⊢
      simp [elemV, begins, hc91] at h36
      simp [classV, isObj] at h34
      simp (disch := omega) [-getElem?_pos, -getElem?_neg, List.getElem?_cons_zero, List.getElem?_cons_succ, code41L0, iltT, h36, h34]
    · simp only [List.replicate_zero, List.nil_append] at h36 h34 h30 ht ⊢
      have hne := isClass_ne ha
      simp [elemV, begins] at h36
      have he : ends 59 (76 :: (a ++ [59])) = true := by
        rw [show (76 : UInt8) :: (a ++ [59]) = (76 :: a) ++ [59] from rfl, ends_app]; rfl
      have hta : List.take a.length (a ++ [59]) = a := List.take_left' rfl
      simp [classV, isObj, begins, he, hta] at h34
      simp [isRef, begins] at h30
      have h25 := s25 (os := os) (b := b) (w := w) (s := a) hb
      have h32 := s32 (os := os) (b := b) (w := w) (s := a) (by simp at ht; omega)
      simp only [List.cons_append] at h32
      simp (disch := omega) [-getElem?_pos, -getElem?_neg, List.getElem?_cons_zero, List.getElem?_cons_succ, code41L0, iltT, h36, h34, h25, ha, h32, h30]
  | n + 1, t, i, ht, hi, h => by
    obtain ⟨e, rfl, h1, h2⟩ := nest_next h
    simp only [List.length_cons] at ht
    have h36 := s36 (os := os) (b := b) (w := w) (s := 91 :: e) (by simp; omega)
    simp [elemV, begins] at h36
    have h27 := s27 (os := os) (b := b) (w := w) (s := e) (by omega) hb
    have ih := l41 hb k n e (i + 1) (by omega) (by omega) h1
    have e1 : ((i + 1 : Nat) : Int) = (i : Int) + 1 := by omega
    rw [e1] at ih
    rw [xK_loop]
    generalize ACode.loop code41L0 = L at ih ⊢
    cases hq : isTy e with
    | true => simp (disch := omega) [-getElem?_pos, -getElem?_neg, List.getElem?_cons_zero, List.getElem?_cons_succ, code41L0, iltT, h36, h27, hq, wrapI, ih]
    | false =>
      rw [hq] at h2
      have h2 : e = [66] := by simpa using h2
      subst h2
      simp (disch := omega) [-getElem?_pos, -getElem?_neg, List.getElem?_cons_zero, List.getElem?_cons_succ, code41L0, iltT, h36, h27, hq, wrapI, ih]

theorem s41 {t : List UInt8} (hb : b ≤ os.length) : xCall T 41 [.str t] ⟨os, b, w⟩ = some (.bool true, ⟨os, b, w⟩) := by
  by_cases hn : t.length ≤ 300
  · have h27 := fun w => s27 (os := os) (b := b) (w := w) (s := t) (by omega) hb
    cases hq : isTy t with
    | true =>
      obtain ⟨n, h⟩ := nest_ty hq
      have hl := fun w (k : AExit → St → Option (AVal × Heap)) => l41 (w := w) hb k n t 0 hn (by have := h.1; omega) h
      simp only [Int.cast_ofNat_Int] at hl
      simp (disch := omega) [-getElem?_pos, -getElem?_neg, List.getElem?_cons_zero, List.getElem?_cons_succ, xCallK t41, code41, s39, iltF, h27, hq, hl]
    | false => simp (disch := omega) [-getElem?_pos, -getElem?_neg, List.getElem?_cons_zero, List.getElem?_cons_succ, xCallK t41, code41, s39, iltF, h27, hq]
  · simp (disch := omega) [-getElem?_pos, -getElem?_neg, List.getElem?_cons_zero, List.getElem?_cons_succ, xCallK t41, code41, s39, iltT]

end Go.Abs.AbsDesc

/-
  Layer 12: what is printed, how many places types have; the law's function DescPrints.
-/
namespace Go.Abs.AbsDesc
set_option maxRecDepth 100000
set_option linter.unusedSimpArgs false
variable {os : List AObj} {b w : Nat} {β : Type}

theorem strsOf_of : ∀ {L : List (List UInt8)} {X : List AVal}, X.length = L.length → (∀ (j : Nat) (s : List UInt8), L[j]? = some s → X[j]? = some (.str s)) → strsOf X = some L
  | [], X, hl, _ => by
    have : X = [] := List.eq_nil_of_length_eq_zero hl
    subst this; rfl
  | s :: L, X, hl, h => by
    cases X with
    | nil => simp at hl
    | cons x X =>
      have h0 := h 0 s rfl
      simp at h0
      subst h0
      simp only [strsOf]
      rw [strsOf_of (by simpa using hl) fun j t hj => by simpa using h (j + 1) t (by simpa using hj)]
      rfl

theorem row_str_at {L : List (List UInt8)} {a : Option (Nat × Nat)} (h : Row os 1 strCell L a) {i : Nat} {x : List UInt8} (hx : L[i]? = some x) : ∃ p o cs, a = some (p, o) ∧ os[p]? = some (.cells 1 cs) ∧ cs[o + i]? = some (.str x) ∧ o + i + 1 ≤ cs.length := by
  obtain ⟨p1, o1, cs1, rfl, r1, q1⟩ := h.at' (ne_of_get hx)
  refine ⟨p1, o1, cs1, rfl, r1, ?_, by have := (q1 i x hx).1; omega⟩
  have : (List.take 1 (List.drop (o1 + i * 1) cs1))[0]? = some (.str x) := by rw [(q1 i x hx).2]; rfl
  simpa using this

theorem rowStrs_row {L : List (List UInt8)} {a : Option (Nat × Nat)} (h : Row os 1 strCell L a) : rowStrs a L.length ⟨os, b, w⟩ = some L := by
  unfold rowStrs
  by_cases hz : L.length = 0
  · rw [if_pos hz, List.eq_nil_of_length_eq_zero hz]
  · rw [if_neg hz]
    obtain ⟨x, hx⟩ : ∃ x, L[L.length - 1]? = some x := ⟨_, List.getElem?_eq_getElem (by omega)⟩
    obtain ⟨p, o, cs, rfl, r1, r2, r3⟩ := row_str_at h hx
    simp only [r1]
    rw [if_pos (by omega)]
    refine strsOf_of (by simp; omega) fun j s hj => ?_
    obtain ⟨p', o', cs', e1, e2, e3, _⟩ := row_str_at h hj
    cases e1
    rw [r1] at e2
    cases e2
    have := lt_of_get hj
    rw [List.getElem?_take, if_pos this, List.getElem?_drop]
    exact e3

theorem join_flat (L : List (List UInt8)) : Lib.join L [] = L.flatten := by
  cases L with
  | nil => rfl
  | cons x r =>
    rw [Lib.join_cons, Lib.joinTail, List.flatten_cons]
    simp

theorem s94 {L : List (List UInt8)} {a : Option (Nat × Nat)} {c : Option Nat} (h : Row os 1 strCell L a) (hn : L.length ≤ 1000000) (hf : L.flatten.length ≤ 1000000) : xCall T 94 [.slice a L.length c, .str []] ⟨os, b, w⟩ = some (.str L.flatten, ⟨os, b, w⟩) := by
  rw [xLib_eq T t94 _ _ (F := joinF)]
  simp only [joinF, rowStrs_row h, join_flat]
  rw [if_pos ⟨by omega, by omega⟩]
  rfl

/-- What is printed. -/
def printS (L : List (List UInt8)) (r : List UInt8) : List UInt8 := 40 :: (L.flatten ++ 41 :: r)

theorem s45 {L : List (List UInt8)} {a : Option (Nat × Nat)} {c : Option Nat} {r : List UInt8} (h : Row os 1 strCell L a) (hn : L.length ≤ 1000000) (hf : L.flatten.length ≤ 1000000) (hr : r.length ≤ 1000000) : xCall T 45 [.slice a L.length c, .str r] ⟨os, b, w⟩ = some (.str (printS L r), ⟨os, b, w⟩) := by
  have h94 := fun w => s94 (b := b) (w := w) (c := c) h hn hf
  have z1 : 1 + L.flatten.length ≤ 9223372036854775807 := by omega
  have z2 : L.flatten.length + 1 + 1 ≤ 9223372036854775807 := by omega
  have z3 : L.flatten.length + 1 + 1 + r.length ≤ 9223372036854775807 := by omega
  generalize hg : L.flatten = F at h94 z1 z2 z3
  simp (disch := omega) [-getElem?_pos, -getElem?_neg, xCallK t45, code45, h94, printS, hg, z1, z2, z3]

theorem drop_at {α : Type} {L : List α} {i : Nat} {x : α} (hx : L[i]? = some x) : L.drop i = x :: L.drop (i + 1) := by
  have := lt_of_get hx
  rw [List.getElem?_eq_getElem this] at hx
  rw [List.drop_eq_getElem_cons this, Option.some.inj hx]

theorem l42 {L : List (List UInt8)} {a : Option (Nat × Nat)} {c : Option Nat} {r : List UInt8} (h : Row os 1 strCell L a) (hn : L.length ≤ 1000000) (k : AExit → St → Option β) : ∀ j i (acc : List UInt8), i + j = L.length → acc.length + (L.drop i).flatten.length ≤ 1000001 →
    xK T (.loop code42L0) ⟨[(1, .val (.str r)), (5, .val (.str acc)), (8, .val (.slice a L.length c)), (9, .val (.int .i64 (L.length : Nat))), (10, .val (.int .i64 (i : Nat)))], ⟨os, b, w⟩⟩ (k := ⟨k⟩) =
      k (.exit 0) ⟨[(1, .val (.str r)), (5, .val (.str (acc ++ (L.drop i).flatten)))], ⟨os, b, w⟩⟩
  | 0, i, acc, hi, ha => by
    rw [xK_loop, List.drop_of_length_le (by omega)]
    simp (disch := omega) [-getElem?_pos, -getElem?_neg, code42L0, iltF]
  | j + 1, i, acc, hi, ha => by
    obtain ⟨x, hx⟩ : ∃ x, L[i]? = some x := ⟨_, List.getElem?_eq_getElem (by omega)⟩
    obtain ⟨p, o, cs, rfl, r1, g1, _⟩ := row_str_at h hx
    rw [drop_at hx, List.flatten_cons, List.length_append] at ha
    have ih := l42 (c := c) (r := r) h hn k j (i + 1) (acc ++ x) (by omega) (by rw [List.length_append]; omega)
    have e : ((i + 1 : Nat) : Int) = (i : Int) + 1 := by omega
    rw [e] at ih
    rw [xK_loop, drop_at hx, List.flatten_cons, ← List.append_assoc]
    have hil : (i : Int) < (L.length : Int) := by omega
    have z1 : acc.length + x.length ≤ 9223372036854775807 := by omega
    generalize ACode.loop code42L0 = Lp at ih ⊢
    simp (disch := omega) [-getElem?_pos, -getElem?_neg, code42L0, iltT, wrapI, hil, g1, r1, z1, ih]

theorem s42 {L : List (List UInt8)} {a : Option (Nat × Nat)} {c : Option Nat} {r : List UInt8} (h : Row os 1 strCell L a) (hn : L.length ≤ 1000000) (hf : L.flatten.length ≤ 1000000) (hr : r.length ≤ 1000000) : xCall T 42 [.slice a L.length c, .str r] ⟨os, b, w⟩ = some (.str (printS L r), ⟨os, b, w⟩) := by
  have hl := fun w (k : AExit → St → Option (AVal × Heap)) => l42 (b := b) (w := w) (c := c) (r := r) h hn k L.length 0 [40] (by omega) (by rw [List.drop_zero]; simp only [List.length_singleton]; omega)
  simp only [Int.cast_ofNat_Int, List.drop_zero] at hl
  generalize hg : L.flatten = F at hl hf
  have z1 : F.length + 1 ≤ 9223372036854775807 := by omega
  have z2 : F.length + 1 + 1 ≤ 9223372036854775807 := by omega
  have z3 : F.length + 1 + 1 + r.length ≤ 9223372036854775807 := by omega
  simp (disch := omega) [-getElem?_pos, -getElem?_neg, xCallK t42, code42, hl, printS, hg, z1, z2, z3]

/-- How many places a type has. -/
def placesT (t : List UInt8) : Int := if t = [86] then 0 else if t = [74] then 2 else 1
def places (L : List (List UInt8)) : Int := (L.map placesT).sum

theorem placesT_le (t : List UInt8) : 0 ≤ placesT t ∧ placesT t ≤ 2 := by unfold placesT; (repeat' split) <;> omega

theorem l43 {L : List (List UInt8)} {a : Option (Nat × Nat)} {c : Option Nat} (h : Row os 1 strCell L a) (hn : L.length ≤ 1000000) (k : AExit → St → Option β) : ∀ j i (n : Int), i + j = L.length → 0 ≤ n → n ≤ 2 * i →
    xK T (.loop code43L0) ⟨[(3, .val (.int .i64 n)), (6, .val (.slice a L.length c)), (7, .val (.int .i64 (L.length : Nat))), (8, .val (.int .i64 (i : Nat)))], ⟨os, b, w⟩⟩ (k := ⟨k⟩) =
      k (.exit 0) ⟨[(3, .val (.int .i64 (n + places (L.drop i))))], ⟨os, b, w⟩⟩
  | 0, i, n, hi, h0, h2 => by
    rw [xK_loop, List.drop_of_length_le (by omega)]
    simp (disch := omega) [-getElem?_pos, -getElem?_neg, code43L0, iltF, places]
  | j + 1, i, n, hi, h0, h2 => by
    obtain ⟨x, hx⟩ : ∃ x, L[i]? = some x := ⟨_, List.getElem?_eq_getElem (by omega)⟩
    obtain ⟨p, o, cs, rfl, r1, g1, _⟩ := row_str_at h hx
    have hp := placesT_le x
    have ih := l43 (c := c) h hn k j (i + 1) (n + placesT x) (by omega) (by omega) (by omega)
    have e : ((i + 1 : Nat) : Int) = (i : Int) + 1 := by omega
    rw [e] at ih
    have hpl : n + places (L.drop i) = n + placesT x + places (L.drop (i + 1)) := by
      rw [drop_at hx]; simp only [places, List.map_cons, List.sum_cons]; omega
    rw [xK_loop, hpl]
    have hil : (i : Int) < (L.length : Int) := by omega
    generalize ACode.loop code43L0 = Lp at ih ⊢
    unfold placesT at ih ⊢
    by_cases c1 : x = [86]
    · subst c1
      simp at ih
      simp (disch := omega) [-getElem?_pos, -getElem?_neg, code43L0, iltT, wrapI, hil, g1, r1, ih]
    · by_cases c2 : x = [74]
      · subst c2
        simp at ih
        simp (disch := omega) [-getElem?_pos, -getElem?_neg, code43L0, iltT, wrapI, hil, g1, r1, ih]
      · simp [c1, c2] at ih
        simp (disch := omega) [-getElem?_pos, -getElem?_neg, code43L0, iltT, wrapI, hil, g1, r1, ih, c1, c2]

theorem s43 {L : List (List UInt8)} {a : Option (Nat × Nat)} {c : Option Nat} (h : Row os 1 strCell L a) (hn : L.length ≤ 1000000) : xCall T 43 [.slice a L.length c] ⟨os, b, w⟩ = some (.int .i64 (places L), ⟨os, b, w⟩) := by
  have hl := fun w (k : AExit → St → Option (AVal × Heap)) => l43 (b := b) (w := w) (c := c) h hn k L.length 0 0 (by omega) (by omega) (by omega)
  simp only [Int.cast_ofNat_Int, List.drop_zero, Int.zero_add] at hl
  simp (disch := omega) [-getElem?_pos, -getElem?_neg, xCallK t43, code43, hl]

theorem l44 {L : List (List UInt8)} {a : Option (Nat × Nat)} {c : Option Nat} (h : Row os 1 strCell L a) (hn : L.length ≤ 1000000) (k : AExit → St → Option β) : ∀ j i (n : Int), i + j = L.length → 0 ≤ n → n ≤ 2 * i →
    xK T (.loop code44L0) ⟨[(3, .val (.int .i64 n)), (6, .val (.slice a L.length c)), (7, .val (.int .i64 (L.length : Nat))), (8, .val (.int .i64 (i : Nat)))], ⟨os, b, w⟩⟩ (k := ⟨k⟩) =
      k (.exit 0) ⟨[(3, .val (.int .i64 (n + places (L.drop i))))], ⟨os, b, w⟩⟩
  | 0, i, n, hi, h0, h2 => by
    rw [xK_loop, List.drop_of_length_le (by omega)]
    simp (disch := omega) [-getElem?_pos, -getElem?_neg, code44L0, iltF, places]
  | j + 1, i, n, hi, h0, h2 => by
    obtain ⟨x, hx⟩ : ∃ x, L[i]? = some x := ⟨_, List.getElem?_eq_getElem (by omega)⟩
    obtain ⟨p, o, cs, rfl, r1, g1, _⟩ := row_str_at h hx
    have hp := placesT_le x
    have ih := l44 (c := c) h hn k j (i + 1) (n + placesT x) (by omega) (by omega) (by omega)
    have e : ((i + 1 : Nat) : Int) = (i : Int) + 1 := by omega
    rw [e] at ih
    have hpl : n + places (L.drop i) = n + placesT x + places (L.drop (i + 1)) := by
      rw [drop_at hx]; simp only [places, List.map_cons, List.sum_cons]; omega
    rw [xK_loop, hpl]
    have hil : (i : Int) < (L.length : Int) := by omega
    have e2 : n + 1 + 1 = n + 2 := by omega
    have e3 : n + 1 - 1 = n := by omega
    generalize ACode.loop code44L0 = Lp at ih ⊢
    unfold placesT at ih ⊢
    by_cases c1 : x = [86]
    · subst c1
      simp at ih
      simp (disch := omega) [-getElem?_pos, -getElem?_neg, code44L0, iltT, wrapI, hil, g1, r1, ih, e3]
    · by_cases c2 : x = [74]
      · subst c2
        simp at ih
        simp (disch := omega) [-getElem?_pos, -getElem?_neg, code44L0, iltT, wrapI, hil, g1, r1, ih, e2]
      · simp [c1, c2] at ih
        simp (disch := omega) [-getElem?_pos, -getElem?_neg, code44L0, iltT, wrapI, hil, g1, r1, ih, c1, c2]

theorem s44 {L : List (List UInt8)} {a : Option (Nat × Nat)} {c : Option Nat} (h : Row os 1 strCell L a) (hn : L.length ≤ 1000000) : xCall T 44 [.slice a L.length c] ⟨os, b, w⟩ = some (.int .i64 (places L), ⟨os, b, w⟩) := by
  have hl := fun w (k : AExit → St → Option (AVal × Heap)) => l44 (b := b) (w := w) (c := c) h hn k L.length 0 0 (by omega) (by omega) (by omega)
  simp only [Int.cast_ofNat_Int, List.drop_zero, Int.zero_add] at hl
  simp (disch := omega) [-getElem?_pos, -getElem?_neg, xCallK t44, code44, hl]

/-! ## What is printed is read -/

theorem ty_begins {t : List UInt8} (h : Ty t) (u : List UInt8) : begins 41 (t ++ u) = false := by
  cases h with
  | one n c h8 hc =>
    cases n with
    | zero => rcases hc with e | ⟨e, _⟩ | ⟨e, h0⟩ <;> subst e <;> simp [begins]
    | succ n => simp [List.replicate_succ, begins]
  | obj n a h8 ha =>
    cases n with
    | zero => simp [begins]
    | succ n => simp [List.replicate_succ, begins]

theorem methA_print {r : List UInt8} : ∀ (L : List (List UInt8)) (m : Nat), L.length ≤ m → (∀ t ∈ L, isTy t = true) → methA m (L.flatten ++ 41 :: r) = some (L, 41 :: r)
  | [], m, _, _ => by
    unfold methA
    rw [if_pos (.inr (by simp [begins]))]; rfl
  | t :: L, m, hm, ht => by
    have h := (isTy_iff t).1 (ht t (List.mem_cons_self ..))
    have hne := ty_ne h
    rw [List.flatten_cons, List.append_assoc]
    unfold methA
    have hb := ty_begins h (L.flatten ++ 41 :: r)
    have hc := ty_cut h (L.flatten ++ 41 :: r)
    have hl : t.length ≠ 0 := fun e => hne (List.eq_nil_of_length_eq_zero e)
    rw [if_neg (by rw [hb]; simp [hne]), if_neg (by rw [hc]; exact hl)]
    cases m with
    | zero => simp at hm
    | succ m =>
      simp only [hc, List.drop_left', List.take_left']
      rw [methA_print L m (by simpa using hm) fun t ht' => ht t (List.mem_cons_of_mem _ ht')]
      rfl

theorem methL_print {L : List (List UInt8)} {r : List UInt8} (hm : L.length ≤ 16) (ht : ∀ t ∈ L, isTy t = true) (hr : isTy r = true ∨ r = [86]) : methL (printS L r) = some (L, r) := by
  unfold methL printS
  rw [if_pos (by simp [begins]), List.tail_cons, methA_print L 16 hm ht]
  rcases hr with hr | hr <;> simp [begins, hr]

end Go.Abs.AbsDesc

/-
  Layer 12: the law's function DescPrints.
-/
namespace Go.Abs.AbsDesc
set_option maxRecDepth 100000
set_option linter.unusedSimpArgs false
variable {os : List AObj} {b w : Nat} {β : Type}

theorem l46 {L : List (List UInt8)} {a : Option (Nat × Nat)} {c : Option Nat} {r : List UInt8} (h : Row os 1 strCell L a) (hn : L.length ≤ 30) (k : AExit → St → Option β) : ∀ j i (g : Bool), i + j = L.length →
    xK T (.loop code46L0) ⟨[(0, .val (.slice a L.length c)), (1, .val (.str r)), (5, .val (.bool g)), (28, .val (.slice a L.length c)), (29, .val (.int .i64 (L.length : Nat))), (30, .val (.int .i64 (i : Nat)))], ⟨os, b, w⟩⟩ (k := ⟨k⟩) =
      if (L.drop i).all (fun t => decide (t.length ≤ 200)) then k (.exit 0) ⟨[(0, .val (.slice a L.length c)), (1, .val (.str r)), (5, .val (.bool (g && (L.drop i).all isTy)))], ⟨os, b, w⟩⟩ else k .ret ⟨[(4, .val (.bool true))], ⟨os, b, w⟩⟩
  | 0, i, g, hi => by
    rw [xK_loop, List.drop_of_length_le (by omega), if_pos (by rfl)]
    simp (disch := omega) [-getElem?_pos, -getElem?_neg, code46L0, iltF]
  | j + 1, i, g, hi => by
    obtain ⟨x, hx⟩ : ∃ x, L[i]? = some x := ⟨_, List.getElem?_eq_getElem (by omega)⟩
    obtain ⟨p, o, cs, rfl, r1, g1, _⟩ := row_str_at h hx
    have e : ((i + 1 : Nat) : Int) = (i : Int) + 1 := by omega
    have hil : (i : Int) < (L.length : Int) := by omega
    rw [xK_loop, drop_at hx, List.all_cons, List.all_cons]
    by_cases hxl : x.length ≤ 200
    · have h28 := fun w => s28 (os := os) (b := b) (w := w) (s := x) (by omega)
      have hxl' : ¬ (200 : Int) < (x.length : Int) := by omega
      have ih := l46 (c := c) (r := r) h hn k j (i + 1) (g && isTy x) (by omega)
      rw [e, Bool.and_assoc] at ih
      generalize ACode.loop code46L0 = Lp at ih ⊢
      cases g <;> simp (disch := omega) [-getElem?_pos, -getElem?_neg, code46L0, iltT, wrapI, hil, g1, r1, hxl, hxl', h28] <;> simpa using ih
    · have hxl' : (200 : Int) < (x.length : Int) := by omega
      simp (disch := omega) [-getElem?_pos, -getElem?_neg, code46L0, iltT, wrapI, hil, g1, r1, hxl, hxl']

theorem flat_le : ∀ {L : List (List UInt8)}, L.all (fun t => decide (t.length ≤ 200)) = true → L.flatten.length ≤ 200 * L.length
  | [], _ => by simp
  | x :: L, h => by
    rw [List.all_cons, Bool.and_eq_true, decide_eq_true_eq] at h
    have := flat_le h.2
    rw [List.flatten_cons, List.length_append, List.length_cons]
    omega

set_option maxHeartbeats 1000000 in
theorem s46 {L : List (List UInt8)} {a : Option (Nat × Nat)} {c : Option Nat} {r : List UInt8} (h : Row os 1 strCell L a) (hb : b ≤ os.length) : xCall T 46 [.slice a L.length c, .str r] ⟨os, b, w⟩ = some (.bool true, ⟨os, b, w⟩) := by
  by_cases g1 : (30 : Int) < (L.length : Int)
  · simp (disch := omega) [-getElem?_pos, -getElem?_neg, List.getElem?_cons_zero, List.getElem?_cons_succ, xCallK t46, code46, s39, g1, iltT]
  by_cases g2 : (200 : Int) < (r.length : Int)
  · simp (disch := omega) [-getElem?_pos, -getElem?_neg, List.getElem?_cons_zero, List.getElem?_cons_succ, xCallK t46, code46, s39, g1, g2, iltT]
  have h28 := fun w => s28 (os := os) (b := b) (w := w) (s := r) (by omega)
  have hl := fun w (g : Bool) (k : AExit → St → Option (AVal × Heap)) => l46 (b := b) (w := w) (c := c) (r := r) h (by omega) k L.length 0 g (by omega)
  simp only [Int.cast_ofNat_Int, List.drop_zero] at hl
  by_cases g3 : L.all (fun t => decide (t.length ≤ 200)) = true
  · have hfl := flat_le g3
    simp only [g3, if_true] at hl
    have h45 := fun w => s45 (b := b) (w := w) (c := c) (r := r) h (by omega) (by omega) (by omega)
    have h42 := fun w => s42 (b := b) (w := w) (c := c) (r := r) h (by omega) (by omega) (by omega)
    have h43 := fun w => s43 (b := b) (w := w) (c := c) h (by omega)
    have h44 := fun w => s44 (b := b) (w := w) (c := c) h (by omega)
    have hg : ∀ w, (List.all L isTy = true → (isTy r = true ∨ r = [86]) → (L.length : Int) ≤ 16 → xCall T 46 [.slice a L.length c, .str r] ⟨os, b, w⟩ = some (.bool true, ⟨os, b, w⟩)) := fun w ha hr g5 => by
      have g5' : ¬ (16 : Int) < (L.length : Int) := by omega
      have hm := methL_print (L := L) (r := r) (by omega) (fun t ht => List.all_eq_true.1 ha t ht) hr
      have hps : (printS L r).length ≤ 1000000 := by simp only [printS, List.length_cons, List.length_append]; omega
      have h38 := fun w => s38 (os := os) (b := b) (w := w) (s := printS L r) hps hb
      rw [hm] at h38
      have hgood : (isTy r || decide (r = [86])) = true := by rcases hr with h | h <;> simp [h]
      cases L with
      | nil =>
        simp only [methV, methO] at h38
        have h29 := fun w => s29 (b := b) (w := w) (c1 := some 0) (c2 := c) (row_nil os) h (by simp)
        simp only [List.length_nil, Int.cast_ofNat_Int] at h29 hl h45 h42 h43 h44
        rcases hr with hr | hr
        · simp (disch := omega) [-getElem?_pos, -getElem?_neg, List.getElem?_cons_zero, List.getElem?_cons_succ, xCallK t46, code46, s39, g2, h28, hl, h45, h42, h43, h44, h38, h29, hr]
        · subst hr
          cases hq : isTy [86] <;> simp (disch := omega) [-getElem?_pos, -getElem?_neg, List.getElem?_cons_zero, List.getElem?_cons_succ, xCallK t46, code46, s39, g2, h28, hl, h45, h42, h43, h44, h38, h29, hq]
      | cons t L =>
        simp only [methV, methO] at h38
        have h29 := fun w => s29 (b := b) (w := w) (c1 := none) (c2 := c) (row_new os (t :: L) []) (h.ext [.cells 1 ((t :: L).map AVal.str)]) (by omega)
        simp only [List.length_cons, List.map_cons, Int.natCast_add, Int.cast_ofNat_Int] at h29 hl h45 h42 h43 h44 h38 g1 g5'
        rw [ha] at hl
        generalize printS (t :: L) r = s at *
        generalize places (t :: L) = pl at *
        rcases hr with hr | hr
        · simp (disch := omega) [-getElem?_pos, -getElem?_neg, List.getElem?_cons_zero, List.getElem?_cons_succ, xCallK t46, code46, s39, g1, g2, g5', h28, hl, h45, h42, h43, h44, h38, h29, hr]
        · subst hr
          cases hq : isTy [86] <;> simp (disch := omega) [-getElem?_pos, -getElem?_neg, List.getElem?_cons_zero, List.getElem?_cons_succ, xCallK t46, code46, s39, g1, g2, g5', h28, hl, h45, h42, h43, h44, h38, h29, hq]
    by_cases g5 : (16 : Int) < (L.length : Int)
    · by_cases hv : r = [86]
      · subst hv
        cases hq : isTy [86] <;> cases ha : L.all isTy <;> simp (disch := omega) [-getElem?_pos, -getElem?_neg, List.getElem?_cons_zero, List.getElem?_cons_succ, -List.all_eq_true, -List.all_eq_false, xCallK t46, code46, s39, g1, g2, h28, hl, h45, h42, h43, h44, hq, ha, g5]
      · cases hq : isTy r <;> cases ha : L.all isTy <;> simp (disch := omega) [-getElem?_pos, -getElem?_neg, List.getElem?_cons_zero, List.getElem?_cons_succ, -List.all_eq_true, -List.all_eq_false, xCallK t46, code46, s39, g1, g2, h28, hl, h45, h42, h43, h44, hq, hv, ha, g5]
    · cases ha : L.all isTy with
      | false =>
        by_cases hv : r = [86]
        · subst hv
          cases hq : isTy [86] <;> simp (disch := omega) [-getElem?_pos, -getElem?_neg, List.getElem?_cons_zero, List.getElem?_cons_succ, -List.all_eq_true, -List.all_eq_false, xCallK t46, code46, s39, g1, g2, h28, hl, h45, h42, h43, h44, hq, ha, g5]
        · cases hq : isTy r <;> simp (disch := omega) [-getElem?_pos, -getElem?_neg, List.getElem?_cons_zero, List.getElem?_cons_succ, -List.all_eq_true, -List.all_eq_false, xCallK t46, code46, s39, g1, g2, h28, hl, h45, h42, h43, h44, hq, hv, ha, g5]
      | true =>
        by_cases hr : isTy r = true ∨ r = [86]
        · exact hg w ha hr (by omega)
        · have hq : isTy r = false := by simpa using fun h => hr (.inl h)
          have hv : ¬ r = [86] := fun h => hr (.inr h)
          simp (disch := omega) [-getElem?_pos, -getElem?_neg, List.getElem?_cons_zero, List.getElem?_cons_succ, -List.all_eq_true, -List.all_eq_false, xCallK t46, code46, s39, g1, g2, h28, hl, h45, h42, h43, h44, hq, hv, ha, g5]
  · simp only [if_neg g3] at hl
    by_cases hv : r = [86]
    · subst hv
      cases hq : isTy [86] <;> simp (disch := omega) [-getElem?_pos, -getElem?_neg, List.getElem?_cons_zero, List.getElem?_cons_succ, xCallK t46, code46, s39, g1, g2, h28, hl, hq]
    · cases hq : isTy r <;> simp (disch := omega) [-getElem?_pos, -getElem?_neg, List.getElem?_cons_zero, List.getElem?_cons_succ, xCallK t46, code46, s39, g1, g2, h28, hl, hq, hv]

end Go.Abs.AbsDesc
