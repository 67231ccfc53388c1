/-
  Layer 12: what its functions compute: a text split at a byte.
-/
import Derived.Test.YtknncfpfhjnjpaaDoorP6
namespace Go.Abs.AbsDesc
set_option linter.unusedVariables false
set_option linter.unusedSimpArgs false
set_option maxRecDepth 100000
variable {os : List AObj} {b w : Nat}
def parts (c : UInt8) : List UInt8 → List (List UInt8)
  | [] => [[]]
  | x :: r => if x == c then [] :: parts c r else match parts c r with
    | p :: ps => (x :: p) :: ps
    | [] => [[x]]
theorem parts_ne (c : UInt8) : ∀ s, parts c s ≠ []
  | [] => by simp [parts]
  | x :: r => by
    simp only [parts]
    split
    · simp
    · split <;> simp
theorem parts_length (c : UInt8) : ∀ s, (parts c s).length = Lib.countByte s c + 1
  | [] => rfl
  | x :: r => by
    have ih := parts_length c r
    simp only [parts, Lib.countByte, List.count_cons] at ih ⊢
    split
    · rw [List.length_cons, ih]
    · split
      · rename_i p ps hp
        rw [hp] at ih
        simpa using ih
      · rename_i hp
        exact absurd hp (parts_ne c r)
theorem parts_none {c : UInt8} : ∀ {s : List UInt8}, Lib.indexByte s c < 0 → parts c s = [s]
  | [], _ => rfl
  | x :: r, h => by
    unfold Lib.indexByte at h
    simp only [parts]
    split at h
    · omega
    · rename_i hx
      rw [if_neg hx]
      have : Lib.indexByte r c < 0 := by
        split at h
        · rename_i e; simp at e; omega
        · have := Lib.indexByte_ge r c; rename_i e; simp at e; omega
      rw [parts_none this]
theorem parts_some {c : UInt8} : ∀ {s : List UInt8} {k : Nat}, Lib.indexByte s c = k → k < s.length ∧ parts c s = s.take k :: parts c (s.drop (k + 1))
  | [], k, h => by simp [Lib.indexByte] at h
  | x :: r, k, h => by
    unfold Lib.indexByte at h
    simp only [parts]
    split at h
    · rename_i hx
      have : k = 0 := by omega
      subst this
      rw [if_pos hx]
      simp
    · rename_i hx
      rw [if_neg hx]
      have hge := Lib.indexByte_ge r c
      split at h
      · omega
      · cases k with
        | zero => rename_i e; simp at e; omega
        | succ k =>
          obtain ⟨h1, h2⟩ := parts_some (s := r) (k := k) (c := c) (by omega)
          rw [h2]
          simp [h1]
def rest (c : UInt8) (s : List UInt8) : Nat → List UInt8
  | 0 => s
  | i + 1 => (rest c s i).drop ((Lib.indexByte (rest c s i) c).toNat + 1)
theorem rest_parts {c : UInt8} {s : List UInt8} : ∀ i, i < (parts c s).length → parts c (rest c s i) = (parts c s).drop i ∧ (rest c s i).length ≤ s.length
  | 0, _ => ⟨rfl, Nat.le_refl _⟩
  | i + 1, hi => by
    obtain ⟨h1, h2⟩ := rest_parts (c := c) (s := s) i (by omega)
    rcases (show Lib.indexByte (rest c s i) c < 0 ∨ 0 ≤ Lib.indexByte (rest c s i) c by omega) with h | h
    · rw [parts_none h] at h1
      have := congrArg List.length h1
      simp at this
      omega
    · obtain ⟨k, hk⟩ := Int.eq_ofNat_of_zero_le h
      obtain ⟨h3, h4⟩ := parts_some hk
      rw [h4] at h1
      have h5 := congrArg List.tail h1
      simp only [List.tail_cons, List.tail_drop] at h5
      refine ⟨?_, ?_⟩
      · simp only [rest, hk, Int.toNat_natCast]
        exact h5
      · simp only [rest, List.length_drop]; omega
theorem rest_next {c : UInt8} {s : List UInt8} {i : Nat} (hi : i + 1 < (parts c s).length) : ∃ k : Nat, Lib.indexByte (rest c s i) c = k ∧ k < (rest c s i).length ∧ (parts c s)[i]? = some ((rest c s i).take k) ∧ rest c s (i + 1) = (rest c s i).drop (k + 1) := by
  obtain ⟨h1, h2⟩ := rest_parts (c := c) (s := s) i (by omega)
  rcases (show Lib.indexByte (rest c s i) c < 0 ∨ 0 ≤ Lib.indexByte (rest c s i) c by omega) with h | h
  · rw [parts_none h] at h1
    have := congrArg List.length h1
    simp at this
    omega
  · obtain ⟨k, hk⟩ := Int.eq_ofNat_of_zero_le h
    obtain ⟨h3, h4⟩ := parts_some hk
    rw [h4] at h1
    refine ⟨k, hk, h3, ?_, by simp [rest, hk]⟩
    have := congrArg (fun l => l[0]?) h1
    simp only [List.getElem?_cons_zero, List.getElem?_drop, Nat.add_zero] at this
    exact this.symm
theorem rest_last {c : UInt8} {s : List UInt8} {i : Nat} (hi : i + 1 = (parts c s).length) : (parts c s)[i]? = some (rest c s i) := by
  obtain ⟨h1, h2⟩ := rest_parts (c := c) (s := s) i (by omega)
  rcases (show Lib.indexByte (rest c s i) c < 0 ∨ 0 ≤ Lib.indexByte (rest c s i) c by omega) with h | h
  · rw [parts_none h] at h1
    have := congrArg (fun l => l[0]?) h1
    simp only [List.getElem?_cons_zero, List.getElem?_drop, Nat.add_zero] at this
    exact this.symm
  · obtain ⟨k, hk⟩ := Int.eq_ofNat_of_zero_le h
    obtain ⟨h3, h4⟩ := parts_some hk
    rw [h4] at h1
    have hlen := congrArg List.length h1
    have hpos : 0 < (parts c ((rest c s i).drop (k + 1))).length := List.length_pos_iff.2 (parts_ne c _)
    simp only [List.length_cons, List.length_drop] at hlen
    omega
end Go.Abs.AbsDesc

/-
  Layer 12: strings.Split at one byte.
-/
namespace Go.Abs.AbsDesc
set_option linter.unusedVariables false
set_option linter.unusedSimpArgs false
set_option maxRecDepth 100000
variable {os : List AObj} {b w : Nat}
def mem (L : List (List UInt8)) (i : Nat) : List AVal := (L.take i).map AVal.str ++ List.replicate (L.length - i) (.str [])
theorem mem_len {L : List (List UInt8)} {i : Nat} (h : i ≤ L.length) : (mem L i).length = L.length := by
  simp [mem]; omega
theorem mem_set {L : List (List UInt8)} {i : Nat} {x : List UInt8} (h : L[i]? = some x) : splice (mem L i) i [.str x] = mem L (i + 1) := by
  have hi := lt_of_get h
  have h1 : ((L.take i).map AVal.str).length = i := by simp; omega
  have h2 : L.length - i = (L.length - (i + 1)) + 1 := by omega
  unfold splice mem
  rw [List.take_left' h1, h2, List.replicate_succ, List.drop_append, h1]
  rw [List.drop_of_length_le (by rw [h1]; simp), List.take_add_one, h]
  simp
theorem mem_all (L : List (List UInt8)) : mem L L.length = L.map AVal.str := by simp [mem]
theorem mem_zero (n : Nat) (L : List (List UInt8)) (h : L.length = n) : rep n [.str []] = mem L 0 := by
  subst h
  have : ∀ n : Nat, (List.replicate n [AVal.str []]).flatten = List.replicate n (.str []) := by
    intro n
    induction n with
    | zero => rfl
    | succ n ih => rw [List.replicate_succ, List.flatten_cons, ih]; rfl
  unfold rep mem
  rw [this]
  simp
theorem count_le (c : UInt8) (s : List UInt8) : Lib.countByte s c ≤ s.length := List.count_le_length
theorem split_loop {s : List UInt8} {c : UInt8} (hn : s.length ≤ 1000000) (hb : b ≤ os.length) :
    xCode T (.loop code143L0) ⟨[(0, .val (.str s)), (1, .val (.str [c])), (2, .val (.int .i64 0)), (3, .val (.int .i64 (Lib.countByte s c))), (9, .val (.slice (some (os.length, 0)) (Lib.countByte s c + 1) (some (Lib.countByte s c + 1)))), (10, .val (.int .i64 (0 : Nat)))], ⟨os ++ [.cells 1 (mem (parts c s) 0)], b, os.length⟩⟩ =
      some (.exit 0, ⟨[(0, .val (.str (rest c s (Lib.countByte s c)))), (9, .val (.slice (some (os.length, 0)) (Lib.countByte s c + 1) (some (Lib.countByte s c + 1)))), (10, .val (.int .i64 (Lib.countByte s c)))], ⟨os ++ [.cells 1 (mem (parts c s) (Lib.countByte s c))], b, os.length⟩⟩) := by
  have hlen := parts_length c s
  have hcnt := count_le c s
  refine loop_all (e := .exit 0) (fun i => ⟨[(0, .val (.str (rest c s i))), (1, .val (.str [c])), (2, .val (.int .i64 0)), (3, .val (.int .i64 (Lib.countByte s c))), (9, .val (.slice (some (os.length, 0)) (Lib.countByte s c + 1) (some (Lib.countByte s c + 1)))), (10, .val (.int .i64 i))], ⟨os ++ [.cells 1 (mem (parts c s) i)], b, os.length⟩⟩) (Lib.countByte s c) ?_ (by simp) ?_
  · intro i hi
    obtain ⟨k, h1, h2, h3, h4⟩ := rest_next (c := c) (s := s) (i := i) (by omega)
    have hrl := (rest_parts (c := c) (s := s) i (by omega)).2
    have hm := mem_set h3
    have hml := mem_len (L := parts c s) (i := i) (by omega)
    have hi' : (i : Int) < (Lib.countByte s c : Int) := by omega
    have hge : (0 : Int) ≤ i := by omega
    have hk0 : ¬ ((k : Int) < 0) := by omega
    have hk1 : (k : Int) ≤ ((rest c s i).length : Int) := by omega
    have hk2 : IntKind.i64.wrap ((k : Int) + 0) = (k : Int) := by rw [wrap64 (by omega) (by omega)]; omega
    have hk3 : IntKind.i64.wrap ((k : Int) + 1) = ((k + 1 : Nat) : Int) := by rw [wrap64 (by omega) (by omega)]; omega
    have hk3' : IntKind.i64.wrap ((k : Int)) = (k : Int) := by rw [wrap64 (by omega) (by omega)]
    have hw := wrap_next (i := i) (n := Lib.countByte s c) hi (by omega)
    have hi1 : (i : Int) < (Lib.countByte s c : Int) + 1 := by omega
    have hil : i + 1 ≤ (parts c s).length := by omega
    have hk4 : (k : Int) + 1 ≤ ((rest c s i).length : Int) := by omega
    have hk5 : (0 : Int) ≤ (k : Int) + 1 := by omega
    have htk : List.take ((rest c s i).length - (k + 1)) (List.drop (k + 1) (rest c s i)) = List.drop (k + 1) (rest c s i) := List.take_of_length_le (by simp)
    have hm' : List.take i (mem (parts c s) i) ++ AVal.str (List.take k (rest c s i)) :: List.drop (i + 1) (mem (parts c s) i) = mem (parts c s) (i + 1) := by simpa [splice] using hm
    simp only [h4]
    simp [code143L0, hi', hge, s173, h1, hk0, hk1, hk2, hk3, hk3', hw, hi1, hb, hil, hml, hm', hk4, hk5, htk]
    done
  · simp [code143L0]
end Go.Abs.AbsDesc

/-
  Layer 12: strings.Split at one byte, desc.IsClass.
-/
namespace Go.Abs.AbsDesc
set_option linter.unusedVariables false
set_option linter.unusedSimpArgs false
set_option maxRecDepth 100000
variable {os : List AObj} {b w : Nat}
theorem ids_strs : ∀ L : List (List UInt8), AVal.idsL (L.map AVal.str) = []
  | [] => rfl
  | x :: L => by
    rw [List.map_cons]
    simp only [AVal.idsL, AVal.ids, ids_strs L]
    rfl
theorem ren_strs (f : Nat → Nat) : ∀ L : List (List UInt8), AVal.renL f (L.map AVal.str) = L.map AVal.str
  | [] => rfl
  | x :: L => by
    rw [List.map_cons]
    simp only [AVal.renL, AVal.ren, ren_strs f L]
theorem s143 {s : List UInt8} {c : UInt8} (hn : s.length ≤ 1000000) (hb : b ≤ os.length) :
    xCall T 143 [.str s, .str [c], .int .i64 0, .int .i64 (-1)] ⟨os, b, w⟩ =
      some (.slice (some (os.length, 0)) (parts c s).length (some (parts c s).length), ⟨os ++ [.cells 1 ((parts c s).map AVal.str)], b, w⟩) := by
  have hlen := parts_length c s
  have hcnt := count_le c s
  have hl := split_loop (os := os) (c := c) hn hb
  have hz := mem_zero (Lib.countByte s c + 1) (parts c s) hlen
  have hlast := mem_set (rest_last (c := c) (s := s) (i := Lib.countByte s c) hlen.symm)
  rw [← hlen, mem_all] at hlast
  have hml := mem_len (L := parts c s) (i := Lib.countByte s c) (by omega)
  have hlast' : List.take (Lib.countByte s c) (mem (parts c s) (Lib.countByte s c)) ++ AVal.str (rest c s (Lib.countByte s c)) :: List.drop (Lib.countByte s c + 1) (mem (parts c s) (Lib.countByte s c)) = (parts c s).map AVal.str := by simpa [splice] using hlast
  have h174 := fun h => s174 (s := s) (c := c) (h := h)
  rw [hlen]
  generalize Lib.countByte s c = n at *
  have hw1 : IntKind.i64.wrap ((n : Int) + 1) = ((n + 1 : Nat) : Int) := by rw [wrap64 (by omega) (by omega)]; omega
  have hw2 : IntKind.i64.wrap ((s.length : Int) + 1) = ((s.length + 1 : Nat) : Int) := by rw [wrap64 (by omega) (by omega)]; omega
  have hw3 : IntKind.i64.wrap (((n : Int) + 1) - 1) = (n : Int) := by rw [wrap64 (by omega) (by omega)]; omega
  have hw4 : IntKind.i64.wrap (n : Int) = (n : Int) := by rw [wrap64 (by omega) (by omega)]
  have hle : (n : Int) + 1 ≤ (s.length : Int) + 1 := by omega
  have hnlt : ¬ ((s.length : Int) + 1 < (n : Int) + 1) := by omega
  have g1 : (0 : Int) ≤ (n : Int) + 1 := by omega
  have g2 : ((n : Int) + 1) * 16 ≤ 140737488355328 := by omega
  have g3 : (n : Int) + 1 ≤ 9223372036854775807 := by omega
  have g4 : ((n : Int) + 1).toNat = n + 1 := by omega
  have g5 : (n : Int) < (n : Int) + 1 := by omega
  have g6 : n + 1 ≤ (parts c s).length := by omega
  have hz' : List.replicate (n + 1) (AVal.str []) = mem (parts c s) 0 := by simpa [rep] using hz
  simp only [Int.cast_ofNat_Int] at hl
  simp [xCall_eq T t143, code143, h174, hw1, hw2, hw3, hw4, hle, hnlt, g1, g2, g3, g4, g5, g6, hz', hl, hml, hlast', hb, reach_step, reach_done, ids_strs, ren_strs]
  done
theorem s90 {s : List UInt8} {c : UInt8} (hn : s.length ≤ 1000000) (hb : b ≤ os.length) :
    xCall T 90 [.str s, .str [c]] ⟨os, b, w⟩ = some (.slice (some (os.length, 0)) (parts c s).length (some (parts c s).length), ⟨os ++ [.cells 1 ((parts c s).map AVal.str)], b, w⟩) := by
  have h := s143 (w := os.length) (c := c) hn hb
  simp [xCall_eq T t90, code90, h, reach_step, reach_done, ids_strs, ren_strs]
theorem parts_le {c : UInt8} : ∀ {s : List UInt8}, ∀ x ∈ parts c s, x.length ≤ s.length
  | [], x, h => by simp [parts] at h; simp [h]
  | y :: r, x, h => by
    have ih := fun z hz => parts_le (c := c) (s := r) z hz
    simp only [parts] at h
    split at h
    · rcases List.mem_cons.1 h with rfl | h
      · simp
      · have := ih x h; simp; omega
    · split at h
      · rename_i p ps hp
        rw [hp] at ih
        rcases List.mem_cons.1 h with rfl | h
        · have := ih p (List.mem_cons_self ..); simp; exact this
        · have := ih x (List.mem_cons_of_mem _ h); simp; omega
      · simp at h; simp [h]
def isClass (s : List UInt8) : Bool := decide (s.length ≤ 64) && (parts 47 s).all wordL
theorem flat_strs : ∀ L : List (List UInt8), L.map AVal.str = L.flatMap strCell
  | [] => rfl
  | c :: s => by
    rw [List.map_cons, List.flatMap_cons, flat_strs s]
    rfl
theorem s25 {s : List UInt8} (hb : b ≤ os.length) : xCall T 25 [.str s] ⟨os, b, w⟩ = some (.bool (isClass s), ⟨os, b, w⟩) := by
  by_cases h64 : s.length ≤ 64
  · have h1 := s90 (os := os) (b := b) (w := os.length) (s := s) (c := 47) (by omega) hb
    have hlen := parts_length 47 s
    have hcnt := count_le 47 s
    have hall := fun x hx => parts_le (c := 47) (s := s) x hx
    have h2 := s91 (os := os ++ [.cells 1 ((parts 47 s).map AVal.str)]) (b := b) (w := os.length) (L := parts 47 s) (a := some (os.length, 0)) (c := some (parts 47 s).length) (g := 92) (p := fun x => !wordL x)
      (Row.mk0 (fun _ => rfl) (by rw [← flat_strs]; simp)) (by omega) (fun x hx w => s92 (by have := hall x hx; omega))
    have h64' : (s.length : Int) ≤ 64 := by omega
    simp [xCall_eq T t25, code25, isClass, h64, h64', h1, h2, any_not]
  · have h64' : ¬ ((s.length : Int) ≤ 64) := by omega
    simp [xCall_eq T t25, code25, isClass, h64, h64']
end Go.Abs.AbsDesc

/-
  Layer 12: the reference's way to tell a class's name: byte by byte.
-/
namespace Go.Abs.AbsDesc
set_option linter.unusedVariables false
set_option linter.unusedSimpArgs false
set_option maxRecDepth 100000
end Go.Abs.AbsDesc

/-
  Layer 12: the reference's IsClass.
-/
namespace Go.Abs.AbsDesc
set_option linter.unusedVariables false
set_option linter.unusedSimpArgs false
set_option maxRecDepth 100000
variable {os : List AObj} {b w : Nat}
end Go.Abs.AbsDesc

/-
  Layer 12: beginnings and ends of texts, elements, classes of types.
-/
namespace Go.Abs.AbsDesc
set_option linter.unusedVariables false
set_option linter.unusedSimpArgs false
set_option maxRecDepth 100000
variable {os : List AObj} {b w : Nat}
def begins (c : UInt8) : List UInt8 → Bool
  | [] => false
  | x :: _ => decide (x = c)
theorem s140 {s : List UInt8} {c : UInt8} : xCall T 140 [.str s, .str [c]] ⟨os, b, w⟩ = some (.bool (begins c s), ⟨os, b, w⟩) := by
  cases s with
  | nil => simp [xCall_eq T t140, code140, begins]
  | cons x r =>
    have h1 : (1 : Int) ≤ (r.length : Int) + 1 := by omega
    simp [xCall_eq T t140, code140, begins, h1]
theorem s88 {s : List UInt8} {c : UInt8} : xCall T 88 [.str s, .str [c]] ⟨os, b, w⟩ = some (.bool (begins c s), ⟨os, b, w⟩) := by
  have h := s140 (os := os) (b := b) (w := os.length) (s := s) (c := c)
  simp [xCall_eq T t88, code88, h]
theorem s137 {s : List UInt8} {c : UInt8} (hn : s.length ≤ 9223372036854775807) : xCall T 137 [.str s, .str [c]] ⟨os, b, w⟩ = some (.tuple [.str (if begins c s then s.tail else s), .bool (begins c s)], ⟨os, b, w⟩) := by
  have h := s140 (os := os) (b := b) (w := os.length) (s := s) (c := c)
  cases s with
  | nil => simp [xCall_eq T t137, code137, begins] at h ⊢; simp [h]
  | cons x r =>
    by_cases e : x = c
    · have h1 : (1 : Int) ≤ (r.length : Int) + 1 := by omega
      simp [xCall_eq T t137, code137, begins, e, h1] at h ⊢
      simp [h, h1]
    · simp [xCall_eq T t137, code137, begins, e] at h ⊢
      simp [h]
theorem s85 {s : List UInt8} {c : UInt8} (hn : s.length ≤ 9223372036854775807) : xCall T 85 [.str s, .str [c]] ⟨os, b, w⟩ = some (.tuple [.str (if begins c s then s.tail else s), .bool (begins c s)], ⟨os, b, w⟩) := by
  have h := s137 (os := os) (b := b) (w := os.length) (c := c) hn
  simp [xCall_eq T t85, code85, h]
end Go.Abs.AbsDesc

/-
  Layer 12: elements of arrays; references; the type of a class.
-/
namespace Go.Abs.AbsDesc
set_option linter.unusedVariables false
set_option linter.unusedSimpArgs false
set_option maxRecDepth 100000
variable {os : List AObj} {b w : Nat}
end Go.Abs.AbsDesc

/-
  Layer 12: references.
-/
namespace Go.Abs.AbsDesc
set_option linter.unusedVariables false
set_option linter.unusedSimpArgs false
set_option maxRecDepth 100000
variable {os : List AObj} {b w : Nat}
theorem u8_eq (x : UInt8) (n : Nat) (hn : n < 256) : ((x.toNat : Int) = (n : Int)) = (x = UInt8.ofNat n) := by
  apply propext
  constructor
  · intro h
    apply UInt8.toNat_inj.1
    have e : (UInt8.ofNat n).toNat = n := by simp; omega
    omega
  · intro h
    subst h
    have e : (UInt8.ofNat n).toNat = n := by simp; omega
    omega
end Go.Abs.AbsDesc

/-
  Layer 12: ends of texts; the class of a type.
-/
namespace Go.Abs.AbsDesc
set_option linter.unusedVariables false
set_option linter.unusedSimpArgs false
set_option maxRecDepth 100000
variable {os : List AObj} {b w : Nat}
def ends (c : UInt8) (s : List UInt8) : Bool := decide (1 ≤ s.length) && decide (s.drop (s.length - 1) = [c])
theorem s141 {s : List UInt8} {c : UInt8} (hn : s.length ≤ 9223372036854775807) : xCall T 141 [.str s, .str [c]] ⟨os, b, w⟩ = some (.bool (ends c s), ⟨os, b, w⟩) := by
  by_cases h : 1 ≤ s.length
  · have h1 : (1 : Int) ≤ (s.length : Int) := by omega
    have h2 : IntKind.i64.wrap ((s.length : Int) - 1) = ((s.length - 1 : Nat) : Int) := by rw [wrap64 (by omega) (by omega)]; omega
    have h3 : ((s.length - 1 : Nat) : Int) ≤ (s.length : Int) := by omega
    have h4 : List.take (s.length - (s.length - 1)) (s.drop (s.length - 1)) = s.drop (s.length - 1) := List.take_of_length_le (by simp)
    simp [xCall_eq T t141, code141, ends, h, h1, h2, h3, h4]
  · have h1 : ¬ ((1 : Int) ≤ (s.length : Int)) := by omega
    simp [xCall_eq T t141, code141, ends, h, h1]
theorem s89 {s : List UInt8} {c : UInt8} (hn : s.length ≤ 9223372036854775807) : xCall T 89 [.str s, .str [c]] ⟨os, b, w⟩ = some (.bool (ends c s), ⟨os, b, w⟩) := by
  have h := s141 (os := os) (b := b) (w := os.length) (c := c) hn
  simp [xCall_eq T t89, code89, h]
end Go.Abs.AbsDesc

/-
  Layer 12: the class of a type.
-/
namespace Go.Abs.AbsDesc
set_option linter.unusedVariables false
set_option linter.unusedSimpArgs false
set_option maxRecDepth 100000
variable {os : List AObj} {b w : Nat}
def isObj (s : List UInt8) : Bool := decide (2 ≤ s.length) && begins 76 s && ends 59 s
def classV (s : List UInt8) : AVal := if isObj s then .tuple [.str ((s.drop 1).take (s.length - 2)), .bool true] else .tuple [.str [], .bool false]
theorem s34 {s : List UInt8} (hn : s.length ≤ 9223372036854775807) : xCall T 34 [.str s] ⟨os, b, w⟩ = some (classV s, ⟨os, b, w⟩) := by
  have h1 := s88 (os := os) (b := b) (w := os.length) (s := s) (c := 76)
  have h2 := s89 (os := os) (b := b) (w := os.length) (c := 59) hn
  by_cases h : 2 ≤ s.length
  · have c1 : ¬ ((s.length : Int) < 2) := by omega
    have c2 : IntKind.i64.wrap ((s.length : Int) - 1) = ((s.length - 1 : Nat) : Int) := by rw [wrap64 (by omega) (by omega)]; omega
    have c3 : ((s.length - 1 : Nat) : Int) ≤ (s.length : Int) := by omega
    have c4 : (1 : Int) ≤ ((s.length - 1 : Nat) : Int) := by omega
    have c5 : s.length - 1 - 1 = s.length - 2 := by omega
    by_cases e1 : begins 76 s = true <;> by_cases e2 : ends 59 s = true
    all_goals simp [xCall_eq T t34, code34, classV, isObj, h, c1, c2, c3, c4, c5, h1, h2, e1, e2]
  · have c1 : (s.length : Int) < 2 := by omega
    simp [xCall_eq T t34, code34, classV, isObj, h, c1]
end Go.Abs.AbsDesc

/-
  Layer 12: the reference's ClassOf.
-/
namespace Go.Abs.AbsDesc
set_option linter.unusedVariables false
set_option linter.unusedSimpArgs false
set_option maxRecDepth 100000
variable {os : List AObj} {b w : Nat}
end Go.Abs.AbsDesc

/-
  Layer 12, plain: a type cut off a text; the reference's first type is the same.
-/
namespace Go.Abs.AbsDesc
set_option linter.unusedVariables false
set_option linter.unusedSimpArgs false
set_option linter.unusedSimpArgs false
def bare (s : List UInt8) : List UInt8 := s.dropWhile (· == 91)
def dims (s : List UInt8) : Nat := s.length - (bare s).length
theorem bare_len (s : List UInt8) : (bare s).length ≤ s.length := by
  unfold bare
  induction s with
  | nil => simp
  | cons x r ih =>
    rw [List.dropWhile_cons]
    split
    · simp; omega
    · simp
theorem bare_split : ∀ s : List UInt8, s = List.replicate (dims s) 91 ++ bare s
  | [] => rfl
  | x :: r => by
    have ih := bare_split r
    have hl := bare_len r
    unfold dims bare at *
    rw [List.dropWhile_cons]
    split
    · rename_i h
      have : x = 91 := by simpa using h
      subst this
      have e : (91 :: r).length - (List.dropWhile (· == 91) r).length = (r.length - (List.dropWhile (· == 91) r).length) + 1 := by simp only [List.length_cons]; omega
      rw [e, List.replicate_succ, List.cons_append, ← ih]
    · simp
def nameL (r : List UInt8) : Option Nat := if 0 ≤ Lib.indexByte r 59 then (if isClass (r.take (Lib.indexByte r 59).toNat) then some (Lib.indexByte r 59).toNat else none) else none
def cutN (s : List UInt8) : Nat := match bare s with
  | [] => 0
  | c :: r => if 8 < dims s then 0
    else if c = 73 ∨ (c = 74 ∧ dims s = 0) ∨ (c = 66 ∧ 0 < dims s) then dims s + 1
    else if c = 76 then (match nameL r with | some k => dims s + k + 2 | none => 0) else 0
theorem ib_take {c : UInt8} : ∀ {r : List UInt8} {k : Nat}, Lib.indexByte r c = k → k < r.length ∧ r.take k ++ c :: r.drop (k + 1) = r ∧ c ∉ r.take k
  | [], k, h => by simp [Lib.indexByte] at h
  | x :: r, k, h => by
    unfold Lib.indexByte at h
    split at h
    · rename_i hx
      have hx : x = c := by simpa using hx
      have : k = 0 := by omega
      subst this; subst hx
      simp
    · rename_i hx
      have hx : ¬ x = c := by simpa using hx
      have hge := Lib.indexByte_ge r c
      split at h
      · omega
      · cases k with
        | zero => rename_i e; simp at e; omega
        | succ k =>
          obtain ⟨h1, h2, h3⟩ := ib_take (r := r) (k := k) (c := c) (by omega)
          refine ⟨by simp; omega, by simpa using h2, ?_⟩
          simp only [List.take_succ_cons, List.mem_cons, not_or]
          exact ⟨fun e => hx e.symm, h3⟩
theorem nameL_some {r : List UInt8} {k : Nat} (h : nameL r = some k) : k < r.length ∧ r = r.take k ++ 59 :: r.drop (k + 1) ∧ isClass (r.take k) = true := by
  unfold nameL at h
  split at h
  · rename_i h0
    obtain ⟨j, hj⟩ := Int.eq_ofNat_of_zero_le h0
    rw [hj] at h
    simp only [Int.toNat_natCast] at h
    split at h
    · rename_i hc
      cases h
      obtain ⟨h1, h2, _⟩ := ib_take hj
      exact ⟨h1, h2.symm, hc⟩
    · cases h
  · cases h
theorem cutN_le (s : List UInt8) : cutN s ≤ s.length := by
  have hb := bare_split s
  have hl := congrArg List.length hb
  simp only [List.length_append, List.length_replicate] at hl
  unfold cutN
  cases hbs : bare s with
  | nil => simp
  | cons c r =>
    rw [hbs] at hl
    simp only [List.length_cons] at hl
    simp only
    split
    · omega
    · split
      · omega
      · split
        · cases hn : nameL r with
          | none => simp
          | some k => have := (nameL_some hn).1; simp only; omega
        · omega
inductive Ty : List UInt8 → Prop
  | one (n : Nat) (c : UInt8) (h : n ≤ 8) (hc : c = 73 ∨ (c = 74 ∧ n = 0) ∨ (c = 66 ∧ 0 < n)) : Ty (List.replicate n 91 ++ [c])
  | obj (n : Nat) (a : List UInt8) (h : n ≤ 8) (ha : isClass a = true) : Ty (List.replicate n 91 ++ 76 :: (a ++ [59]))
def isTy (s : List UInt8) : Bool := decide (s ≠ []) && decide (cutN s = s.length)
end Go.Abs.AbsDesc

/-
  Layer 12: what is cut off; types.
-/
namespace Go.Abs.AbsDesc
set_option linter.unusedVariables false
set_option linter.unusedSimpArgs false
set_option maxRecDepth 100000
variable {os : List AObj} {b w : Nat} {β : Type}
theorem l171 {h : Heap} (k : AExit → St → Option β) : ∀ s : List UInt8, xK T (.loop code171L0) ⟨[(0, .val (.str s)), (1, .val (.int .u8 91))], h⟩ (k := ⟨k⟩) = k (.exit 0) ⟨[(0, .val (.str (bare s)))], h⟩
  | [] => by
    rw [xK_loop]
    simp [code171L0, bare]
  | x :: r => by
    have ih := l171 (h := h) k r
    have e : ((x.toNat : Int) = 91) = (x = 91) := u8_eq x 91 (by omega)
    rw [xK_loop]
    generalize ACode.loop code171L0 = L at ih ⊢
    by_cases c : x = 91
    · simp (disch := omega) [-getElem?_pos, -getElem?_neg, code171L0, iltT, ileT, nltT, e, c, ih, bare, List.dropWhile_cons, List.getElem?_cons_zero]
    · simp (disch := omega) [-getElem?_pos, -getElem?_neg, code171L0, iltT, ileT, nltT, e, c, bare, List.dropWhile_cons, List.getElem?_cons_zero]
theorem s171 {s : List UInt8} : xCall T 171 [.str s, .int .u8 91] ⟨os, b, w⟩ = some (.str (bare s), ⟨os, b, w⟩) := by
  simp [xCallK t171, code171, l171]
theorem s139 {s : List UInt8} : xCall T 139 [.str s, .str [91]] ⟨os, b, w⟩ = some (.str (bare s), ⟨os, b, w⟩) := by
  by_cases h : s = []
  · subst h
    simp [xCallK t139, code139, bare]
  · simp [xCallK t139, code139, h, s171]
def cutV (c : UInt8) (s : List UInt8) : AVal := if 0 ≤ Lib.indexByte s c then .tuple [.str (s.take (Lib.indexByte s c).toNat), .str (s.drop ((Lib.indexByte s c).toNat + 1)), .bool true] else .tuple [.str s, .str [], .bool false]
theorem s172 {s : List UInt8} {c : UInt8} (hn : s.length ≤ 9223372036854775807) : xCall T 172 [.str s, .str [c]] ⟨os, b, w⟩ = some (cutV c s, ⟨os, b, w⟩) := by
  have h5 := fun h => s205 (s := s) (c := c) (h := h)
  by_cases h : 0 ≤ Lib.indexByte s c
  · obtain ⟨k, hk⟩ := Int.eq_ofNat_of_zero_le h
    obtain ⟨k1, _⟩ := ib_take hk
    have e3 : ((k : Int) + 1).toNat = k + 1 := by omega
    have hv : cutV c s = .tuple [.str (s.take k), .str (s.drop (k + 1)), .bool true] := by
      unfold cutV; rw [hk, if_pos (by omega)]; rfl
    rw [hv]
    simp (disch := omega) [-getElem?_pos, -getElem?_neg, xCallK t172, code172, h5, hk, iltT, ileT, nltT, nleT, wrapI, e3]
  · have hv : cutV c s = .tuple [.str s, .str [], .bool false] := by
      unfold cutV; rw [if_neg h]
    rw [hv]
    simp (disch := omega) [xCallK t172, code172, h5, h]
theorem s138 {s : List UInt8} {c : UInt8} (hn : s.length ≤ 9223372036854775807) : xCall T 138 [.str s, .str [c]] ⟨os, b, w⟩ = some (cutV c s, ⟨os, b, w⟩) := by
  have h := fun w => s172 (os := os) (b := b) (w := w) (c := c) hn
  unfold cutV at h ⊢
  by_cases h0 : 0 ≤ Lib.indexByte s c
  · simp only [if_pos h0] at h ⊢
    simp [xCallK t138, code138, h]
  · simp only [if_neg h0] at h ⊢
    simp [xCallK t138, code138, h]
theorem dims_eq {s r : List UInt8} {c : UInt8} (h : bare s = c :: r) : s.length = dims s + (r.length + 1) := by
  have := congrArg List.length (bare_split s)
  simpa [h] using this
theorem s86 {s : List UInt8} (hn : s.length ≤ 9223372036854775807) (hb : b ≤ os.length) : xCall T 86 [.str s] ⟨os, b, w⟩ = some (.str (s.take (cutN s)), ⟨os, b, w⟩) := by
  have h139 := fun w => s139 (os := os) (b := b) (w := w) (s := s)
  have hl := bare_len s
  have hd : ((s.length : Int) - (bare s).length) = (dims s : Nat) := by unfold dims; omega
  have hle : dims s ≤ s.length := by unfold dims; omega
  cases hbs : bare s with
  | nil =>
    simp only [hbs] at h139
    simp [xCallK t86, code86, List.getElem?_cons_zero, h139, cutN, hbs]
  | cons c r =>
    simp only [hbs] at h139
    clear hd
    have hlen := dims_eq hbs
    have hcut : cutN s = if 8 < dims s then 0 else if c = 73 ∨ (c = 74 ∧ dims s = 0) ∨ (c = 66 ∧ 0 < dims s) then dims s + 1 else if c = 76 then (match nameL r with | some k => dims s + k + 2 | none => 0) else 0 := by
      unfold cutN; rw [hbs] <;> rfl
    rw [hcut]
    clear hl hcut
    generalize dims s = d at hlen hle ⊢
    have hd : (s.length : Int) - ((r.length : Int) + 1) = d := by omega
    have e73 : ((c.toNat : Int) = 73) = (c = 73) := u8_eq c 73 (by omega)
    have e74 : ((c.toNat : Int) = 74) = (c = 74) := u8_eq c 74 (by omega)
    have e66 : ((c.toNat : Int) = 66) = (c = 66) := u8_eq c 66 (by omega)
    have e76 : ((c.toNat : Int) = 76) = (c = 76) := u8_eq c 76 (by omega)
    have ht1 : ((d : Int) + 1).toNat = d + 1 := by omega
    by_cases h8 : 8 < d
    · simp (disch := omega) [-getElem?_pos, -getElem?_neg, xCallK t86, code86, List.getElem?_cons_zero, h139, hd, wrapI, iltT, h8]
    · by_cases c73 : c = 73
      · simp (disch := omega) [-getElem?_pos, -getElem?_neg, xCallK t86, code86, List.getElem?_cons_zero, h139, hd, wrapI, iltT, iltF, ileT, nltT, nleT, h8, e73, c73, ht1]
      · by_cases c74 : c = 74
        · subst c74
          by_cases d0 : d = 0
          · simp (disch := omega) [-getElem?_pos, -getElem?_neg, xCallK t86, code86, List.getElem?_cons_zero, h139, hd, wrapI, iltT, iltF, ileT, nltT, nleT, h8, d0, ht1]
          · simp (disch := omega) [-getElem?_pos, -getElem?_neg, xCallK t86, code86, List.getElem?_cons_zero, h139, hd, wrapI, iltT, iltF, ileT, nltT, nleT, h8, d0, ieqF, ht1]
        · by_cases c66 : c = 66
          · subst c66
            by_cases d0 : 0 < d
            · simp (disch := omega) [-getElem?_pos, -getElem?_neg, xCallK t86, code86, List.getElem?_cons_zero, h139, hd, wrapI, iltT, iltF, ileT, nltT, nleT, h8, d0, ht1]
            · simp (disch := omega) [-getElem?_pos, -getElem?_neg, xCallK t86, code86, List.getElem?_cons_zero, h139, hd, wrapI, iltT, iltF, ileT, nltT, nleT, h8, d0, ht1]
          · by_cases c76 : c = 76
            · subst c76
              have h138 := fun w => s138 (os := os) (b := b) (w := w) (s := r) (c := 59) (by omega)
              have htr : List.take (r.length + 1 - 1) r = r := by simp
              by_cases hi : 0 ≤ Lib.indexByte r 59
              · obtain ⟨k, hk⟩ := Int.eq_ofNat_of_zero_le hi
                obtain ⟨k1, _⟩ := ib_take hk
                have h25 := fun w => s25 (w := w) (s := r.take k) hb
                have hmin : min k r.length = k := by omega
                simp only [cutV, hk, Int.natCast_nonneg, if_true, Int.toNat_natCast] at h138
                have ht2 : ((d : Int) + k + 2).toNat = d + k + 2 := by omega
                have hnm : nameL r = if isClass (r.take k) = true then some k else none := by
                  unfold nameL; rw [hk, if_pos (by omega)]; rfl
                by_cases hc : isClass (r.take k) = true
                · simp (disch := omega) [-getElem?_pos, -getElem?_neg, xCallK t86, code86, List.getElem?_cons_zero, h139, hd, wrapI, iltT, iltF, ileT, nltT, nleT, h8, h138, h25, hc, hnm, hmin, ht2]
                · simp (disch := omega) [-getElem?_pos, -getElem?_neg, xCallK t86, code86, List.getElem?_cons_zero, h139, hd, wrapI, iltT, iltF, ileT, nltT, nleT, h8, h138, h25, hc, hnm]
              · have hnm : nameL r = none := by unfold nameL; rw [if_neg hi]
                simp only [cutV, if_neg hi] at h138
                simp (disch := omega) [-getElem?_pos, -getElem?_neg, xCallK t86, code86, List.getElem?_cons_zero, h139, hd, wrapI, iltT, iltF, ileT, nltT, nleT, h8, h138, hnm]
            · simp (disch := omega) [-getElem?_pos, -getElem?_neg, xCallK t86, code86, List.getElem?_cons_zero, h139, hd, wrapI, iltT, iltF, ileT, nltT, nleT, h8, e73, e74, e66, e76, c73, c74, c66, c76]
theorem s27 {s : List UInt8} (hn : s.length ≤ 9223372036854775807) (hb : b ≤ os.length) : xCall T 27 [.str s] ⟨os, b, w⟩ = some (.bool (isTy s), ⟨os, b, w⟩) := by
  have h := fun w => s86 (w := w) hn hb
  have hc := cutN_le s
  have e : (s.take (cutN s) = s) = (cutN s = s.length) := by
    apply propext
    constructor
    · intro e
      have := congrArg List.length e
      simp at this; omega
    · intro e; rw [e, List.take_length]
  by_cases h0 : s = []
  · simp [xCallK t27, code27, isTy, h0]
  · simp [xCallK t27, code27, isTy, h0, h, e]
end Go.Abs.AbsDesc

/-
  Layer 12: the reference's types.
-/
namespace Go.Abs.AbsDesc
set_option linter.unusedVariables false
set_option linter.unusedSimpArgs false
set_option maxRecDepth 100000
variable {os : List AObj} {b w : Nat} {β : Type}
end Go.Abs.AbsDesc

/-
  Layer 12: a method's types, by both texts.
-/
namespace Go.Abs.AbsDesc
set_option linter.unusedVariables false
set_option linter.unusedSimpArgs false
set_option maxRecDepth 100000
variable {os : List AObj} {b w : Nat} {β : Type}
def methA : Nat → List UInt8 → Option (List (List UInt8) × List UInt8)
  | m, s => if s = [] ∨ begins 41 s = true then some ([], s) else if cutN s = 0 then none else match m with
    | 0 => none
    | m + 1 => (methA m (s.drop (cutN s))).map fun p => (s.take (cutN s) :: p.1, p.2)
theorem methA_len : ∀ {m : Nat} {s : List UInt8} {A : List (List UInt8)} {r : List UInt8}, methA m s = some (A, r) → A.length ≤ m ∧ r.length ≤ s.length ∧ ∀ t ∈ A, t.length ≤ s.length
  | m, s, A, r, h => by
    unfold methA at h
    split at h
    · cases h; simp
    · split at h
      · cases h
      · cases m with
        | zero => cases h
        | succ m =>
          simp only at h
          rw [Option.map_eq_some_iff] at h
          obtain ⟨p, h1, h2⟩ := h
          obtain ⟨rfl, rfl⟩ := Prod.mk.inj h2
          obtain ⟨k1, k2, k3⟩ := methA_len (A := p.1) (r := p.2) h1
          simp only [List.length_drop] at k2 k3
          refine ⟨by simp; omega, by omega, fun t ht => ?_⟩
          rcases List.mem_cons.1 ht with rfl | ht
          · simp; omega
          · have := k3 t ht; omega
def Meth38 (b w : Nat) (k : AExit → St → Option β) (x : Option β) (O : List AObj) (L : List (List UInt8)) (a2 a3 : Nat) : Option (List (List UInt8) × List UInt8) → Prop
  | none => ∃ O', O.length ≤ O'.length ∧ x = k .ret ⟨[(2, .val (.slice none 0 (some 0))), (3, .val (.str [])), (4, .val (.int .i64 8))], ⟨O', b, w⟩⟩
  | some (A, r) => ∃ O', O.length ≤ O'.length ∧ x = k (.exit 0) ⟨if a2 < a3 then [(a2, .val (.str r)), (a3, .val (.slice (some (O'.length, 0)) (L.length + A.length) none))] else [(a3, .val (.slice (some (O'.length, 0)) (L.length + A.length) none)), (a2, .val (.str r))], ⟨O' ++ [.cells 1 ((L ++ A).map AVal.str)], b, w⟩⟩
set_option maxHeartbeats 1000000 in
theorem l38 (k : AExit → St → Option β) : ∀ (m : Nat) (s : List UInt8) (O : List AObj) (L : List (List UInt8)), s.length ≤ 9223372036854775807 → L.length + m = 16 → L ≠ [] → b ≤ O.length → w ≤ O.length →
    Meth38 b w k (xK T (.loop code38L0) ⟨[(5, .val (.str s)), (7, .val (.slice (some (O.length, 0)) L.length none))], ⟨O ++ [.cells 1 (L.map AVal.str)], b, w⟩⟩ (k := ⟨k⟩)) O L 5 7 (methA m s) := by
  intro m
  induction m with
  | zero =>
    intro s O L hn hL hne hb hw
    unfold methA
    rw [xK_loop]
    cases s with
    | nil =>
      simp only [true_or, if_true]
      refine ⟨O, Nat.le_refl _, ?_⟩
      simp [code38L0]
    | cons x r =>
      have e : ((x.toNat : Int) = 41) = (x = 41) := u8_eq x 41 (by omega)
      by_cases hx : x = 41
      · simp only [begins, hx, decide_true, or_true, if_true]
        refine ⟨O, Nat.le_refl _, ?_⟩
        simp (disch := omega) [-getElem?_pos, -getElem?_neg, code38L0, e, hx, List.getElem?_cons_zero, iltT]
      · have h86 := fun w => s86 (os := O ++ [.cells 1 (L.map AVal.str)]) (b := b) (w := w) hn (by simp; omega)
        have hL16 : (L.length : Int) = 16 := by omega
        have h0 : ∀ n : Nat, n ≠ 0 → List.take n (x :: r) ≠ [] := fun n hn => by cases n <;> simp_all
        by_cases hc : cutN (x :: r) = 0
        · simp only [begins, hx, decide_false, reduceCtorEq, Bool.false_eq_true, or_self, if_false, hc, if_true]
          refine ⟨O ++ [.cells 1 (L.map AVal.str)], by simp, ?_⟩
          simp (disch := omega) [-getElem?_pos, -getElem?_neg, code38L0, e, hx, List.getElem?_cons_zero, iltT, h86, hc]
        · simp only [begins, hx, decide_false, reduceCtorEq, Bool.false_eq_true, or_self, if_false, hc]
          refine ⟨O ++ [.cells 1 (L.map AVal.str)], by simp, ?_⟩
          simp (disch := omega) [-getElem?_pos, -getElem?_neg, code38L0, e, hx, List.getElem?_cons_zero, iltT, h86, h0 _ hc, hL16]
  | succ m ih =>
    intro s O L hn hL hne hb hw
    unfold methA
    rw [xK_loop]
    cases s with
    | nil =>
      simp only [true_or, if_true]
      refine ⟨O, Nat.le_refl _, ?_⟩
      simp [code38L0]
    | cons x r =>
      have e : ((x.toNat : Int) = 41) = (x = 41) := u8_eq x 41 (by omega)
      by_cases hx : x = 41
      · simp only [begins, hx, decide_true, or_true, if_true]
        refine ⟨O, Nat.le_refl _, ?_⟩
        simp (disch := omega) [-getElem?_pos, -getElem?_neg, code38L0, e, hx, List.getElem?_cons_zero, iltT]
      · have h86 := fun w => s86 (os := O ++ [.cells 1 (L.map AVal.str)]) (b := b) (w := w) hn (by simp; omega)
        have hL16 : ¬ (L.length : Int) = 16 := by omega
        have h0 : ∀ n : Nat, n ≠ 0 → List.take n (x :: r) ≠ [] := fun n hn => by cases n <;> simp_all
        by_cases hc : cutN (x :: r) = 0
        · simp only [begins, hx, decide_false, reduceCtorEq, Bool.false_eq_true, or_self, if_false, hc, if_true]
          refine ⟨O ++ [.cells 1 (L.map AVal.str)], by simp, ?_⟩
          simp (disch := omega) [-getElem?_pos, -getElem?_neg, code38L0, e, hx, List.getElem?_cons_zero, iltT, h86, hc]
        · simp only [begins, hx, decide_false, reduceCtorEq, Bool.false_eq_true, or_self, if_false, hc]
          have hle := cutN_le (x :: r)
          have h0' := h0 _ hc
          have hlt : (List.take (cutN (x :: r)) (x :: r)).length = cutN (x :: r) := by simp at hle ⊢; omega
          generalize ht : List.take (cutN (x :: r)) (x :: r) = t at *
          have hdr : List.take ((x :: r).length - cutN (x :: r)) (List.drop (cutN (x :: r)) (x :: r)) = List.drop (cutN (x :: r)) (x :: r) := take_drop_len ..
          have hle2 : (List.drop (cutN (x :: r)) (x :: r)).length ≤ 9223372036854775807 := by simp only [List.length_drop]; omega
          have ih := ih (List.drop (cutN (x :: r)) (x :: r)) (O ++ [.dead, .cells 1 [.str t]]) (L ++ [t]) hle2 (by simp; omega) (by simp) (by simp; omega) (by simp; omega)
          simp only [List.length_append, List.length_cons, List.length_nil, List.append_assoc, List.cons_append, List.nil_append, List.map_append, List.map_cons, List.map_nil] at ih
          generalize cutN (x :: r) = n at *
          generalize ACode.loop code38L0 = LL at ih ⊢
          have hle' : n ≤ r.length + 1 := by simpa using hle
          have hdr' : List.take (r.length + 1 - n) (List.drop n (x :: r)) = List.drop n (x :: r) := by simpa using hdr
          have key : Meth38 b w k (xK T code38L0 ⟨[(5, .val (.str (x :: r))), (7, .val (.slice (some (O.length, 0)) L.length none))], ⟨O ++ [.cells 1 (L.map AVal.str)], b, w⟩⟩ (k := ⟨fun e st => nxK e st (f := ⟨fun st => xK T LL st (k := ⟨k⟩)⟩) (k := ⟨k⟩)⟩)) (O ++ [.dead, .cells 1 [.str t]]) (L ++ [t]) 5 7 (methA m (List.drop n (x :: r))) := by
            simp (maxSteps := 2000000) (disch := omega) [-getElem?_pos, -getElem?_neg, code38L0, e, hx, List.getElem?_cons_zero, iltT, h86, h0', hL16, hne, Nat.testBit_eq_decide_div_mod_eq, hlt, Nat.min_eq_left, ileT, nleT, nltT, hdr', ht]
            simpa using ih
          cases hm : methA m (List.drop n (x :: r)) with
          | none =>
            rw [hm] at key
            obtain ⟨O', h1, h2⟩ := key
            exact ⟨O', by simp at h1; omega, h2⟩
          | some p =>
            obtain ⟨A, q⟩ := p
            rw [hm] at key
            obtain ⟨O', h1, h2⟩ := key
            refine ⟨O', by simp at h1; omega, h2.trans ?_⟩
            simp [Nat.add_comm 1, Nat.add_assoc]
end Go.Abs.AbsDesc

/-
  Layer 12: a method's types, by both texts, from the beginning.
-/
namespace Go.Abs.AbsDesc
set_option linter.unusedVariables false
set_option linter.unusedSimpArgs false
set_option maxRecDepth 100000
variable {os : List AObj} {b w : Nat} {β : Type}
def Meth0 (b w : Nat) (k : AExit → St → Option β) (x : Option β) (O : List AObj) (a2 a3 : Nat) : Option (List (List UInt8) × List UInt8) → Prop
  | none => ∃ O', O.length ≤ O'.length ∧ x = k .ret ⟨[(2, .val (.slice none 0 (some 0))), (3, .val (.str [])), (4, .val (.int .i64 8))], ⟨O', b, w⟩⟩
  | some ([], r) => x = k (.exit 0) ⟨if a2 < a3 then [(a2, .val (.str r)), (a3, .val (.slice none 0 (some 0)))] else [(a3, .val (.slice none 0 (some 0))), (a2, .val (.str r))], ⟨O, b, w⟩⟩
  | some (a :: A, r) => ∃ O', O.length ≤ O'.length ∧ x = k (.exit 0) ⟨if a2 < a3 then [(a2, .val (.str r)), (a3, .val (.slice (some (O'.length, 0)) (A.length + 1) none))] else [(a3, .val (.slice (some (O'.length, 0)) (A.length + 1) none)), (a2, .val (.str r))], ⟨O' ++ [.cells 1 ((a :: A).map AVal.str)], b, w⟩⟩
set_option maxHeartbeats 1000000 in
theorem l38z (k : AExit → St → Option β) (s : List UInt8) (O : List AObj) (hn : s.length ≤ 9223372036854775807) (hb : b ≤ O.length) (hw : w ≤ O.length) :
    Meth0 b w k (xK T (.loop code38L0) ⟨[(5, .val (.str s)), (7, .val (.slice none 0 (some 0)))], ⟨O, b, w⟩⟩ (k := ⟨k⟩)) O 5 7 (methA 16 s) := by
  unfold methA
  rw [xK_loop]
  cases s with
  | nil =>
    simp only [true_or, if_true]
    simp [Meth0, code38L0]
  | cons x r =>
    have e : ((x.toNat : Int) = 41) = (x = 41) := u8_eq x 41 (by omega)
    by_cases hx : x = 41
    · simp only [begins, hx, decide_true, or_true, if_true]
      simp (disch := omega) [-getElem?_pos, -getElem?_neg, Meth0, code38L0, e, hx, List.getElem?_cons_zero, iltT]
    · have h86 := fun w => s86 (os := O) (b := b) (w := w) hn hb
      have h0 : ∀ n : Nat, n ≠ 0 → List.take n (x :: r) ≠ [] := fun n hn => by cases n <;> simp_all
      by_cases hc : cutN (x :: r) = 0
      · simp only [begins, hx, decide_false, reduceCtorEq, Bool.false_eq_true, or_self, if_false, hc, if_true]
        refine ⟨O, Nat.le_refl _, ?_⟩
        simp (disch := omega) [-getElem?_pos, -getElem?_neg, code38L0, e, hx, List.getElem?_cons_zero, iltT, h86, hc]
      · simp only [begins, hx, decide_false, reduceCtorEq, Bool.false_eq_true, or_self, if_false, hc]
        have hle := cutN_le (x :: r)
        have h0' := h0 _ hc
        have hlt : (List.take (cutN (x :: r)) (x :: r)).length = cutN (x :: r) := by simp at hle ⊢; omega
        generalize ht : List.take (cutN (x :: r)) (x :: r) = t at *
        have hle2 : (List.drop (cutN (x :: r)) (x :: r)).length ≤ 9223372036854775807 := by simp only [List.length_drop]; omega
        have hdr : List.take ((x :: r).length - cutN (x :: r)) (List.drop (cutN (x :: r)) (x :: r)) = List.drop (cutN (x :: r)) (x :: r) := take_drop_len ..
        have ih := l38 (b := b) (w := w) k 15 (List.drop (cutN (x :: r)) (x :: r)) (O ++ [.cells 1 [.str t]]) [t] hle2 rfl (by simp) (by simp; omega) (by simp; omega)
        generalize cutN (x :: r) = n at *
        generalize ACode.loop code38L0 = LL at ih ⊢
        have hle' : n ≤ r.length + 1 := by simpa using hle
        have hdr' : List.take (r.length + 1 - n) (List.drop n (x :: r)) = List.drop n (x :: r) := by simpa using hdr
        have key : Meth38 b w k (xK T code38L0 ⟨[(5, .val (.str (x :: r))), (7, .val (.slice none 0 (some 0)))], ⟨O, b, w⟩⟩ (k := ⟨fun e st => nxK e st (f := ⟨fun st => xK T LL st (k := ⟨k⟩)⟩) (k := ⟨k⟩)⟩)) (O ++ [.cells 1 [.str t]]) [t] 5 7 (methA 15 (List.drop n (x :: r))) := by
          simp (maxSteps := 2000000) (disch := omega) [-getElem?_pos, -getElem?_neg, code38L0, e, hx, List.getElem?_cons_zero, iltT, h86, h0', Nat.testBit_eq_decide_div_mod_eq, hlt, Nat.min_eq_left, ileT, nleT, nltT, hdr', ht]
          simpa using ih
        cases hm : methA 15 (List.drop n (x :: r)) with
        | none =>
          rw [hm] at key
          obtain ⟨O', h1, h2⟩ := key
          exact ⟨O', by simp at h1; omega, h2⟩
        | some p =>
          obtain ⟨A, q⟩ := p
          rw [hm] at key
          obtain ⟨O', h1, h2⟩ := key
          refine ⟨O', by simp at h1; omega, h2.trans ?_⟩
          simp [Nat.add_comm 1, Nat.add_assoc]
end Go.Abs.AbsDesc

/-
  Layer 12: Method, by both texts: the same.
-/
namespace Go.Abs.AbsDesc
set_option linter.unusedVariables false
set_option linter.unusedSimpArgs false
set_option maxRecDepth 100000
variable {os : List AObj} {b w : Nat} {β : Type}
theorem Meth0.elim {k : AExit → St → Option β} {x y : Option β} {O : List AObj} {a2 a3 : Nat} {m : Option (List (List UInt8) × List UInt8)} (h : Meth0 b w k x O a2 a3 m)
    (h1 : ∀ O', m = none → O.length ≤ O'.length → k .ret ⟨[(2, .val (.slice none 0 (some 0))), (3, .val (.str [])), (4, .val (.int .i64 8))], ⟨O', b, w⟩⟩ = y)
    (h2 : ∀ r, m = some ([], r) → k (.exit 0) ⟨if a2 < a3 then [(a2, .val (.str r)), (a3, .val (.slice none 0 (some 0)))] else [(a3, .val (.slice none 0 (some 0))), (a2, .val (.str r))], ⟨O, b, w⟩⟩ = y)
    (h3 : ∀ O' a A r, m = some (a :: A, r) → O.length ≤ O'.length → k (.exit 0) ⟨if a2 < a3 then [(a2, .val (.str r)), (a3, .val (.slice (some (O'.length, 0)) (A.length + 1) none))] else [(a3, .val (.slice (some (O'.length, 0)) (A.length + 1) none)), (a2, .val (.str r))], ⟨O' ++ [.cells 1 ((a :: A).map AVal.str)], b, w⟩⟩ = y) : x = y := by
  cases m with
  | none =>
    obtain ⟨O', e1, e2⟩ := h
    exact e2.trans (h1 O' rfl e1)
  | some p =>
    obtain ⟨A, r⟩ := p
    cases A with
    | nil => exact (show x = _ from h).trans (h2 r rfl)
    | cons a A =>
      obtain ⟨O', e1, e2⟩ := h
      exact e2.trans (h3 O' a A r rfl e1)
def methL (s : List UInt8) : Option (List (List UInt8) × List UInt8) :=
  if begins 40 s then (match methA 16 s.tail with
    | some (A, r) => if begins 41 r && (decide (r.tail = [86]) || isTy r.tail) then some (A, r.tail) else none
    | none => none)
  else none
def methV (n : Nat) : Option (List (List UInt8) × List UInt8) → AVal
  | none => .tuple [.slice none 0 (some 0), .str [], .int .i64 8]
  | some ([], r) => .tuple [.slice none 0 (some 0), .str r, .int .i64 0]
  | some (a :: A, r) => .tuple [.slice (some (n, 0)) (A.length + 1) none, .str r, .int .i64 0]
def methO (os : List AObj) : Option (List (List UInt8) × List UInt8) → List AObj
  | some (a :: A, _) => os ++ [.cells 1 ((a :: A).map AVal.str)]
  | _ => os
theorem s38 {s : List UInt8} (hn : s.length ≤ 9223372036854775807) (hb : b ≤ os.length) : xCall T 38 [.str s] ⟨os, b, w⟩ = some (methV os.length (methL s), ⟨methO os (methL s), b, w⟩) := by
  have h85 := fun w => s85 (os := os) (b := b) (w := w) (s := s) (c := 40) (by omega)
  by_cases h : begins 40 s = true
  · cases s with
    | nil => simp [begins] at h
    | cons x q =>
      simp only [h, if_true, List.tail_cons] at h85
      simp only [List.length_cons] at hn
      have hm : methL (x :: q) = (match methA 16 q with
          | some (A, r) => if begins 41 r && (decide (r.tail = [86]) || isTy r.tail) then some (A, r.tail) else none
          | none => none) := by
        unfold methL; rw [if_pos h]; rfl
      rw [hm]
      simp (disch := omega) [-getElem?_pos, -getElem?_neg, gz, gs, xCallK t38, code38, h85]
      refine Meth0.elim (l38z _ q os (by omega) hb (Nat.le_refl _)) ?_ ?_ ?_
      · intro O' h1 h2
        simp (disch := omega) [-getElem?_pos, -getElem?_neg, gz, gs, code38, h1, methV, methO]
      · intro r h1
        have hr := (methA_len h1).2.1
        have h2 := fun w => s85 (os := os) (b := b) (w := w) (s := r) (c := 41) (by omega)
        have h3 := fun w => s27 (b := b) (w := w) (s := r.tail) (by simp; omega) hb
        by_cases c1 : begins 41 r = true <;> by_cases c2 : r.tail = [86] <;> by_cases c3 : isTy r.tail = true
        all_goals simp (disch := omega) [-getElem?_pos, -getElem?_neg, gz, gs, code38, h1, h2, h3, c1, c2, c3, methV, methO]
      · intro O' a A r h1 h2
        have hr := (methA_len h1).2.1
        have hb' : b ≤ (O' ++ [AObj.cells 1 ((a :: A).map AVal.str)]).length := by simp; omega
        have h4 := fun w => s85 (os := O' ++ [.cells 1 ((a :: A).map AVal.str)]) (b := b) (w := w) (s := r) (c := 41) (by omega)
        have h3 := fun w => s27 (os := O' ++ [.cells 1 ((a :: A).map AVal.str)]) (b := b) (w := w) (s := r.tail) (by simp; omega) hb'
        simp only [List.map_cons] at h4 h3
        by_cases c1 : begins 41 r = true <;> by_cases c2 : r.tail = [86] <;> by_cases c3 : isTy r.tail = true
        all_goals simp (disch := omega) [-getElem?_pos, -getElem?_neg, gz, gs, code38, h1, h4, h3, c1, c2, c3, methV, methO, nltF, reach_step, reach_done]
  · have hm : methL s = none := by unfold methL; rw [if_neg h]
    rw [hm]
    simp only [Bool.not_eq_true] at h
    simp only [h, Bool.false_eq_true, if_false] at h85
    simp (disch := omega) [-getElem?_pos, -getElem?_neg, gz, gs, xCallK t38, code38, h85, methV, methO]
end Go.Abs.AbsDesc

/-
  Layer 12: the reference's Method; rows of texts held against each other.
-/
namespace Go.Abs.AbsDesc
set_option linter.unusedVariables false
set_option linter.unusedSimpArgs false
set_option maxRecDepth 100000
variable {os : List AObj} {b w : Nat} {β : Type}
end Go.Abs.AbsDesc

/-
  What runs over some functions runs so over more of them.
-/
namespace Go.Abs
set_option linter.unusedVariables false
set_option linter.unusedSimpArgs false
theorem evCall_sub {T T' : Nat → Option AFunc} (hs : ∀ g f, T g = some f → T' g = some f) : ∀ n, CallLe (evCall T n) (evCall T' n)
  | 0 => fun _ _ _ r hr => by simp [evCall] at hr
  | n + 1 => fun g args h => by
    intro r hr
    have ih := evCall_sub hs n
    simp only [evCall] at hr ⊢
    cases hT : T g with
    | none => rw [hT] at hr; cases hr
    | some f =>
      rw [hT] at hr
      rw [hs g f hT]
      simp only at hr ⊢
      split at hr
      · exact evRound_mono ih (Nat.le_refl _) _ _ _ _ r hr
      · exact hr
      · exact wrapC_mono (fun args h => evFunc_mono ih (Nat.le_refl _) f args h) _ _ _ r hr
theorem xCall_sub {T T' : Nat → Option AFunc} (hs : ∀ g f, T g = some f → T' g = some f) {g : Nat} {args : List AVal} {h : Heap} {r : AVal × Heap} (he : xCall T g args h = some r) : xCall T' g args h = some r := by
  rw [xCall_iff] at he ⊢
  obtain ⟨n, hn⟩ := he
  exact ⟨n, evCall_sub hs n _ _ _ _ hn⟩
end Go.Abs

/-
  Maps whose entries are told by a list of pairs; loops over functions, symbolically.
-/
namespace Go.Abs
set_option linter.unusedVariables false
set_option linter.unusedSimpArgs false
abbrev Str := List UInt8
section
variable {κ ν : Type} [DecidableEq κ]
def ents (kf : κ → AVal) (vf : ν → AVal) : Nat → List (κ × ν) → List (AVal × AVal × Nat)
  | _, [] => []
  | i, x :: r => (kf x.1, vf x.2, i) :: ents kf vf (i + 1) r
def getE : List (κ × ν) → κ → Option ν
  | [], _ => none
  | x :: r, k => if x.1 = k then some x.2 else getE r k
def KeyF (kf : κ → AVal) : Prop := ∀ a b, akey (kf a) (kf b) = some (decide (a = b))
theorem keyStr : KeyF (AVal.str : Str → AVal) := fun _ _ => rfl
omit [DecidableEq κ] in
theorem ents_app (kf : κ → AVal) (vf : ν → AVal) : ∀ (A B : List (κ × ν)) (i : Nat), ents kf vf i (A ++ B) = ents kf vf i A ++ ents kf vf (i + A.length) B
  | [], B, i => by simp [ents]
  | x :: A, B, i => by
    have e : i + 1 + A.length = i + (A.length + 1) := by omega
    simp [ents, ents_app kf vf A B (i + 1), e]
omit [DecidableEq κ] in
theorem ents_length (kf : κ → AVal) (vf : ν → AVal) : ∀ (A : List (κ × ν)) (i : Nat), (ents kf vf i A).length = A.length
  | [], _ => rfl
  | x :: A, i => by simp [ents, ents_length kf vf A (i + 1)]
theorem getE_app (A B : List (κ × ν)) (k : κ) : getE (A ++ B) k = (getE A k).or (getE B k) := by
  induction A with
  | nil => rfl
  | cons x A ih =>
    rw [List.cons_append]
    simp only [getE]
    split
    · rfl
    · exact ih
theorem getE_mem {A : List (κ × ν)} {k : κ} {v : ν} (h : getE A k = some v) : (k, v) ∈ A := by
  induction A with
  | nil => cases h
  | cons x A ih =>
    simp only [getE] at h
    split at h
    · rename_i e; cases h; subst e; exact List.mem_cons_self ..
    · exact List.mem_cons_of_mem _ (ih h)
theorem findA_none {kf : κ → AVal} {vf : ν → AVal} (hk : KeyF kf) {k : κ} : ∀ (A : List (κ × ν)) (i : Nat), getE A k = none → findA (kf k) (ents kf vf i A) = some none
  | [], _, _ => rfl
  | x :: A, i, h => by
    simp only [getE] at h
    split at h
    · cases h
    · rename_i e
      simp only [ents, findA, hk k x.1, decide_eq_false (show ¬ k = x.1 from fun e' => e e'.symm)]
      rw [findA_none hk A (i + 1) h]
      rfl
theorem findA_some {kf : κ → AVal} {vf : ν → AVal} (hk : KeyF kf) {k : κ} {v : ν} : ∀ (A : List (κ × ν)) (i : Nat), getE A k = some v → ∃ j, findA (kf k) (ents kf vf i A) = some (some (j, vf v))
  | [], _, h => by cases h
  | x :: A, i, h => by
    simp only [getE] at h
    split at h
    · rename_i e
      cases h
      exact ⟨0, by simp only [ents, findA, hk k x.1, decide_eq_true (show k = x.1 from e.symm)]⟩
    · rename_i e
      obtain ⟨j, hj⟩ := findA_some (vf := vf) hk A (i + 1) h
      exact ⟨j + 1, by simp only [ents, findA, hk k x.1, decide_eq_false (show ¬ k = x.1 from fun e' => e e'.symm), hj]; rfl⟩
def mObj (kf : κ → AVal) (vf : ν → AVal) (A : List (κ × ν)) : AObj := .map (ents kf vf 0 A) A.length
variable {os : List AObj} {b w r : Nat} {A : List (κ × ν)} {kf : κ → AVal} {vf : ν → AVal}
theorem lookup_ok (hk : KeyF kf) (h : os[r]? = some (mObj kf vf A)) {kn : KeyT} {zero : AVal} {k : κ} (hi : isKey kn (kf k) = true) :
    evExt (.lookup kn zero true) [.map (some r), kf k] ⟨os, b, w⟩ = some (.tuple [((getE A k).map vf).getD zero, .bool (getE A k).isSome], ⟨os, b, w⟩) := by
  simp only [evExt, hi, entriesOf, Heap.get, h, mObj, if_true]
  cases hg : getE A k with
  | none => simp only [findA_none hk A 0 hg]; rfl
  | some v =>
    obtain ⟨j, hj⟩ := findA_some (vf := vf) hk A 0 hg
    simp only [hj]; rfl
theorem lookup_v (hk : KeyF kf) (h : os[r]? = some (mObj kf vf A)) {kn : KeyT} {zero : AVal} {k : κ} (hi : isKey kn (kf k) = true) :
    evExt (.lookup kn zero false) [.map (some r), kf k] ⟨os, b, w⟩ = some (((getE A k).map vf).getD zero, ⟨os, b, w⟩) := by
  simp only [evExt, hi, entriesOf, Heap.get, h, mObj, if_true]
  cases hg : getE A k with
  | none => simp only [findA_none hk A 0 hg]; rfl
  | some v =>
    obtain ⟨j, hj⟩ := findA_some (vf := vf) hk A 0 hg
    simp only [hj]; rfl
theorem upd_new (hk : KeyF kf) (h : os[r]? = some (mObj kf vf A)) {kn : KeyT} {k : κ} (v : ν) (hi : isKey kn (kf k) = true) (hb : b ≤ r) (hg : getE A k = none) :
    evExt (.mapupd kn) [.map (some r), kf k, vf v] ⟨os, b, w⟩ = some (.tuple [], ⟨os.set r (mObj kf vf (A ++ [(k, v)])), b, min w r⟩) := by
  simp only [evExt, hi, Heap.get, h, mObj, hb, and_self, if_true]
  simp only [findA_none hk A 0 hg, Heap.put]
  rw [ents_app, Nat.zero_add, List.length_append]
  rfl
omit [DecidableEq κ] in
theorem len_map (h : os[r]? = some (mObj kf vf A)) : evLen .map (.map (some r)) ⟨os, b, w⟩ = some (.int .i64 A.length) := by
  simp only [evLen, Heap.get, h, mObj, ents_length]
end
theorem get_k {α : Type} (a c : List α) (k : Nat) : (a ++ c)[a.length + k]? = c[k]? := by
  rw [List.getElem?_append_right (by omega)]; congr 1; omega
theorem get_k0 {α : Type} (a c : List α) : (a ++ c)[a.length]? = c[0]? := get_k a c 0
theorem set_k {α : Type} (a c : List α) (k : Nat) (y : α) : (a ++ c).set (a.length + k) y = a ++ c.set k y := by
  rw [List.set_append_right _ _ (by omega)]; congr 2; omega
theorem set_k0 {α : Type} (a c : List α) (y : α) : (a ++ c).set a.length y = a ++ c.set 0 y := set_k a c 0 y
theorem xRoundK {T : Nat → Option AFunc} {g : Nat} {f : AFunc} {rd : ARound} (hT : T g = some f) (hr : f.round = some (.round rd)) (i j : Nat) (as : List AVal) (h : Heap) :
    xCall T g (.ptr (some (i, j)) :: as) h = mustK (as.length = rd.params.length ∧ h.base ≤ i) (f := ⟨fun _ => andThen (roundSlots i rd.params as h) (f := ⟨fun s => xK T rd.assign ⟨s, { h with wmin := h.size }⟩
      (k := ⟨fun e st => andThen (roundIn g i (some (e, st))) (f := ⟨fun st => xK T rd.body st (k := ⟨fun e st => roundOut h g i (some (e, st))⟩)⟩)⟩)⟩)⟩) := by
  rw [xRound_eq T hT hr]
  unfold xRound mustK
  simp only
  split
  · cases roundSlots i rd.params as h with
    | none => rfl
    | some s =>
      simp only [andThen_some]
      unfold xK
      cases xCode T rd.assign ⟨s, { h with wmin := h.size }⟩ with
      | none => rfl
      | some x =>
        obtain ⟨e, st⟩ := x
        simp only [andThen_some]
        cases roundIn g i (some (e, st)) with
        | none => rfl
        | some st =>
          simp only [andThen_some]
          cases xCode T rd.body st with
          | none => rfl
          | some y => rfl
  · rfl
theorem finish_keep {h0 h : Heap} {v : AVal} {k : List Nat} (hw : h0.size ≤ h.wmin) (hv : v.under h0.size = false) (hr : reach h h0.size 1000 v.ids [] = k) (hok : ∀ i ∈ v.ids ++ k.flatMap fun i => ((h.get i).map AObj.ids).getD [], i < h0.size ∨ i ∈ k) :
    finish h0 v h = (v.ren (fun i => if i < h0.size then i else h0.size + idxIn i k), { h0 with objs := h0.objs ++ k.map fun i => ((h.get i).map (AObj.ren fun i => if i < h0.size then i else h0.size + idxIn i k)).getD .dead }) := by
  unfold finish
  rw [if_neg (by omega), hv]
  simp only [Bool.false_eq_true, if_false, hr]
  rw [if_pos]
  rw [List.all_eq_true]
  intro i hi
  rcases hok i hi with h1 | h1
  · rw [decide_eq_true h1]; rfl
  · simp [h1]
end Go.Abs

/-
  Units, as data, and where they lie.
-/
namespace Go.Abs
set_option linter.unusedVariables false
set_option linter.unusedSimpArgs false
structure FieldU where
  st : Bool
  name : Str
  desc : Str
structure InsU where
  op : Int
  n : Int
  m : Int
  cls : Str
  name : Str
  desc : Str
  text : Str
structure TrapU where
  lo : Int
  hi : Int
  at' : Int
  cls : Str
structure MapU where
  at' : Int
  locals : List Str
  la : Option (Nat × Nat)
  lc : Option Nat
  stack : List Str
  sa : Option (Nat × Nat)
  sc : Option Nat
structure MethU where
  st : Bool
  name : Str
  desc : Str
  stack : Int
  locals : Int
  code : List InsU
  ca : Option (Nat × Nat)
  cc : Option Nat
  traps : List TrapU
  ta : Option (Nat × Nat)
  tc : Option Nat
  maps : List MapU
  xa : Option (Nat × Nat)
  xc : Option Nat
structure UnitU where
  name : Str
  super : Str
  fields : List FieldU
  fa : Option (Nat × Nat)
  fc : Option Nat
  meths : List MethU
  ma : Option (Nat × Nat)
  mc : Option Nat
def FieldU.cells (f : FieldU) : List AVal := [.bool f.st, .str f.name, .str f.desc]
def InsU.cells (x : InsU) : List AVal := [.int .u8 x.op, .int .i64 x.n, .int .i64 x.m, .str x.cls, .str x.name, .str x.desc, .str x.text]
def TrapU.cells (x : TrapU) : List AVal := [.int .i64 x.lo, .int .i64 x.hi, .int .i64 x.at', .str x.cls]
def MapU.cells (x : MapU) : List AVal := [.int .i64 x.at', .slice x.la x.locals.length x.lc, .slice x.sa x.stack.length x.sc]
def MethU.cells (m : MethU) : List AVal := [.bool m.st, .str m.name, .str m.desc, .int .i64 m.stack, .int .i64 m.locals, .slice m.ca m.code.length m.cc, .slice m.ta m.traps.length m.tc, .slice m.xa m.maps.length m.xc]
def UnitU.cells (u : UnitU) : List AVal := [.str u.name, .str u.super, .slice u.fa u.fields.length u.fc, .slice u.ma u.meths.length u.mc]
def strC (s : Str) : List AVal := [.str s]
abbrev big : Nat := 9223372036854775807
def under (n : Nat) (a : Option (Nat × Nat)) : Prop := ∀ i o, a = some (i, o) → i < n
structure MapU.ok (os : List AObj) (x : MapU) : Prop where
  l : Row os 1 strC x.locals x.la
  ln : x.locals.length ≤ big
  lu : under os.length x.la
  s : Row os 1 strC x.stack x.sa
  sn : x.stack.length ≤ big
  su : under os.length x.sa
  ls : ∀ t ∈ x.locals ++ x.stack, t.length ≤ big
structure MethU.ok (os : List AObj) (m : MethU) : Prop where
  name : m.name.length ≤ big
  desc : m.desc.length ≤ big
  c : Row os 7 InsU.cells m.code m.ca
  cn : m.code.length ≤ big
  cu : under os.length m.ca
  cok : ∀ x ∈ m.code, x.cls.length ≤ big ∧ x.name.length ≤ big ∧ x.desc.length ≤ big ∧ x.text.length ≤ big
  t : Row os 4 TrapU.cells m.traps m.ta
  tn : m.traps.length ≤ big
  tu : under os.length m.ta
  tok : ∀ x ∈ m.traps, x.cls.length ≤ big
  x : Row os 3 MapU.cells m.maps m.xa
  xn : m.maps.length ≤ big
  xu : under os.length m.xa
  xok : ∀ x ∈ m.maps, x.ok os
structure UnitU.ok (os : List AObj) (u : UnitU) : Prop where
  name : u.name.length ≤ big
  super : u.super.length ≤ big
  f : Row os 3 FieldU.cells u.fields u.fa
  fn : u.fields.length ≤ big
  fu : under os.length u.fa
  fok : ∀ x ∈ u.fields, x.name.length ≤ big ∧ x.desc.length ≤ big
  m : Row os 8 MethU.cells u.meths u.ma
  mn : u.meths.length ≤ big
  mu : under os.length u.ma
  mok : ∀ x ∈ u.meths, x.ok os
def Pre (os O : List AObj) : Prop := ∀ (i : Nat) (o : AObj), os[i]? = some o → O[i]? = some o
theorem Pre.refl (os : List AObj) : Pre os os := fun _ _ h => h
theorem Pre.trans {A B C : List AObj} (h : Pre A B) (k : Pre B C) : Pre A C := fun i o ho => k i o (h i o ho)
theorem Pre.app (os X : List AObj) : Pre os (os ++ X) := fun i o h => by rw [List.getElem?_append_left (lt_of_get h)]; exact h
theorem Pre.set {A B : List AObj} (h : Pre A B) {i : Nat} (o : AObj) (hi : A.length ≤ i) : Pre A (B.set i o) := fun j p hj => by
  have := lt_of_get hj
  rw [List.getElem?_set_ne (by omega)]; exact h j p hj
theorem Pre.len {A B : List AObj} (h : Pre A B) : A.length ≤ B.length := by
  rcases Nat.lt_or_ge B.length A.length with h1 | h1
  · have h2 : B.length < A.length := h1
    have := lt_of_get (h B.length A[B.length] (by simp [h2]))
    omega
  · exact h1
theorem Pre.row {os O : List AObj} {α : Type} {e : Nat} {f : α → List AVal} {L : List α} {a : Option (Nat × Nat)} (hp : Pre os O) (h : Row os e f L a) : Row O e f L a :=
  ⟨fun hne => by
    obtain ⟨b, o, cs, h1, h2, h3⟩ := h.at' hne
    exact ⟨b, o, cs, h1, hp _ _ h2, h3⟩⟩
theorem under.le {n m : Nat} {a : Option (Nat × Nat)} (h : under n a) (hm : n ≤ m) : under m a := fun i o e => Nat.lt_of_lt_of_le (h i o e) hm
theorem MapU.ok.pre {os O : List AObj} (hp : Pre os O) {x : MapU} (h : x.ok os) : x.ok O := ⟨hp.row h.l, h.ln, h.lu.le hp.len, hp.row h.s, h.sn, h.su.le hp.len, h.ls⟩
theorem MethU.ok.pre {os O : List AObj} (hp : Pre os O) {m : MethU} (h : m.ok os) : m.ok O :=
  ⟨h.name, h.desc, hp.row h.c, h.cn, h.cu.le hp.len, h.cok, hp.row h.t, h.tn, h.tu.le hp.len, h.tok, hp.row h.x, h.xn, h.xu.le hp.len, fun x hx => (h.xok x hx).pre hp⟩
theorem UnitU.ok.pre {os O : List AObj} (hp : Pre os O) {u : UnitU} (h : u.ok os) : u.ok O :=
  ⟨h.name, h.super, hp.row h.f, h.fn, h.fu.le hp.len, h.fok, hp.row h.m, h.mn, h.mu.le hp.len, fun x hx => (h.mok x hx).pre hp⟩
structure UnitU.low (n : Nat) (u : UnitU) : Prop where
  f : under n u.fa
  m : under n u.ma
theorem UnitU.ok.low {O : List AObj} {u : UnitU} (h : u.ok O) : u.low O.length := ⟨h.fu, h.mu⟩
section
variable {os : List AObj} {w : Nat}
end
end Go.Abs

/-
  Layer 16: what layer 12 tells, here; a world in memory; small functions.
-/
namespace Go.Abs.AbsHier
set_option linter.unusedVariables false
set_option linter.unusedSimpArgs false
open Go.Abs.AbsDesc
set_option maxRecDepth 100000
set_option linter.unusedSimpArgs false
variable {os O : List AObj} {b w : Nat}
theorem s27 {s : Str} (hn : s.length ≤ 9223372036854775807) (hb : b ≤ os.length) : xCall T 27 [.str s] ⟨os, b, w⟩ = some (.bool (isTy s), ⟨os, b, w⟩) := xCall_sub sub (AbsDesc.s27 hn hb)
theorem s25 {s : Str} (hb : b ≤ os.length) : xCall T 25 [.str s] ⟨os, b, w⟩ = some (.bool (isClass s), ⟨os, b, w⟩) := xCall_sub sub (AbsDesc.s25 hb)
theorem s34 {s : Str} (hn : s.length ≤ 9223372036854775807) : xCall T 34 [.str s] ⟨os, b, w⟩ = some (classV s, ⟨os, b, w⟩) := xCall_sub sub (AbsDesc.s34 hn)
theorem s38 {s : Str} (hn : s.length ≤ 9223372036854775807) (hb : b ≤ os.length) : xCall T 38 [.str s] ⟨os, b, w⟩ = some (methV os.length (methL s), ⟨methO os (methL s), b, w⟩) := xCall_sub sub (AbsDesc.s38 hn hb)
theorem s139 {s : Str} : xCall T 139 [.str s, .str [91]] ⟨os, b, w⟩ = some (.str (bare s), ⟨os, b, w⟩) := xCall_sub sub AbsDesc.s139
theorem s173 {s : Str} {c : UInt8} {h : Heap} : xCall T 173 [.str s, .str [c]] h = some (.int .i64 (Lib.indexByte s c), h) := xCall_sub sub AbsDesc.s173
theorem d180 {s : Str} {c : UInt8} : xCall AbsDesc.T 180 [.str s, .str [c]] ⟨os, b, w⟩ = some (.bool (decide (0 ≤ Lib.indexByte s c)), ⟨os, b, w⟩) := by
  simp [xCallK AbsDesc.t180, code180, AbsDesc.s173]
theorem s180 {s : Str} {c : UInt8} : xCall T 180 [.str s, .str [c]] ⟨os, b, w⟩ = some (.bool (decide (0 ≤ Lib.indexByte s c)), ⟨os, b, w⟩) := xCall_sub sub d180
abbrev Key := Str × Str × Str
structure Mem where
  cls : Str
  st : Bool
  deriving DecidableEq
def keyF (k : Key) : AVal := .agg [.str k.1, .str k.2.1, .str k.2.2]
def memF (m : Mem) : AVal := .agg [.str m.cls, .bool m.st]
theorem keyKey : KeyF keyF := fun a c => by
  obtain ⟨a1, a2, a3⟩ := a
  obtain ⟨c1, c2, c3⟩ := c
  simp only [keyF, akey, List.length_cons, List.length_nil, if_true, akeyL, akey1]
  by_cases h1 : a1 = c1
  · by_cases h2 : a2 = c2
    · by_cases h3 : a3 = c3 <;> simp [h1, h2, h3]
    · simp [h1, h2]
  · simp [h1]
structure World (O : List AObj) (N : Nat) (S : List (Str × Str)) (F M : List (Key × Mem)) (V : List (Key × Bool)) : Prop where
  w0 : O[N]? = some (.cells 4 [.map (some (N + 1)), .map (some (N + 2)), .map (some (N + 3)), .map (some (N + 4))])
  m1 : O[N + 1]? = some (mObj .str .str S)
  m2 : O[N + 2]? = some (mObj keyF memF F)
  m3 : O[N + 3]? = some (mObj keyF memF M)
  m4 : O[N + 4]? = some (mObj keyF .bool V)
variable {N : Nat} {S : List (Str × Str)} {F M : List (Key × Mem)} {V : List (Key × Bool)}
theorem World.lt (h : World O N S F M V) : N + 4 < O.length := lt_of_get h.m4
theorem World.app (h : World O N S F M V) (X : List AObj) : World (O ++ X) N S F M V := by
  have := h.lt
  constructor <;> (rw [List.getElem?_append_left (by omega)])
  · exact h.w0
  · exact h.m1
  · exact h.m2
  · exact h.m3
  · exact h.m4
theorem s96 (h : World O N S F M V) {c : Str} : xCall T 96 [.ptr (some (N, 0)), .str c] ⟨O, b, w⟩ = some (.tuple [.str ((getE S c).getD []), .bool (getE S c).isSome], ⟨O, b, w⟩) := by
  have hl := fun w => lookup_ok (b := b) (w := w) (kn := .one .s) (zero := .str []) keyStr h.m1 (k := c) rfl
  have e : ((getE S c).map AVal.str).getD (.str []) = .str ((getE S c).getD []) := by cases getE S c <;> rfl
  rw [e] at hl
  simp [-evExt, xCallK t96, code96, h.w0, hl]
theorem s54 (h : World O N S F M V) {c : Str} : xCall T 54 [.ptr (some (N, 0)), .str c] ⟨O, b, w⟩ = some (.bool (getE S c).isSome, ⟨O, b, w⟩) := by
  have hl := fun w => s96 (b := b) (w := w) h (c := c)
  simp [xCallK t54, code54, hl]
def classOf (s : Str) : Option Str := if isObj s then some ((s.drop 1).take (s.length - 2)) else none
theorem classV_eq (s : Str) : classV s = .tuple [.str ((classOf s).getD []), .bool (classOf s).isSome] := by
  unfold classV classOf
  cases isObj s <;> rfl
def thereS (S : List (Str × Str)) (t : Str) : Bool := match classOf (bare t) with
  | some c => (getE S c).isSome
  | none => true
theorem s103 (h : World O N S F M V) {t : Str} (hn : t.length ≤ 9223372036854775807) : xCall T 103 [.ptr (some (N, 0)), .str t] ⟨O, b, w⟩ = some (.bool (thereS S t), ⟨O, b, w⟩) := by
  have h1 := fun w => s139 (os := O) (b := b) (w := w) (s := t)
  have hb := bare_len t
  have h2 := fun w => s34 (os := O) (b := b) (w := w) (s := bare t) (by omega)
  have h3 := fun w c => s54 (b := b) (w := w) h (c := c)
  rw [classV_eq] at h2
  unfold thereS
  cases hc : classOf (bare t) with
  | none => rw [hc] at h2; simp [xCallK t103, code103, h1, h2, h3]
  | some c => rw [hc] at h2; simp [xCallK t103, code103, h1, h2, h3]
def isName (s : Str) : Bool := !decide (0 ≤ Lib.indexByte s 47) && isClass s
theorem s181 {s : Str} (hb : b ≤ O.length) : xCall T 181 [.str s] ⟨O, b, w⟩ = some (.bool (isName s), ⟨O, b, w⟩) := by
  have h1 := fun w => s180 (os := O) (b := b) (w := w) (s := s) (c := 47)
  have h2 := fun w => s25 (os := O) (b := b) (w := w) (s := s) hb
  unfold isName
  by_cases c : 0 ≤ Lib.indexByte s 47
  · simp [xCallK t181, code181, h1, h2, c]
  · simp [xCallK t181, code181, h1, h2, c]
end Go.Abs.AbsHier

/-
  Layer 16: a class's line, stepped through by whatever is done with each class.
-/
namespace Go.Abs.AbsHier
set_option linter.unusedVariables false
set_option linter.unusedSimpArgs false
open Go.Abs.AbsDesc
set_option maxRecDepth 100000
set_option linter.unusedSimpArgs false
variable {os O : List AObj} {b w : Nat} {N : Nat} {S : List (Str × Str)} {F M : List (Key × Mem)} {V : List (Key × Bool)}
def lineS (S : List (Str × Str)) : Nat → Str → List Str
  | 0, _ => []
  | k + 1, c => match getE S c with
    | some d => c :: lineS S k d
    | none => []
def runL {σ : Type} (step : σ → Str → σ × Option AExit) : σ → List Str → σ × Option AExit
  | x, [] => (x, none)
  | x, c :: r => match step x c with
    | (y, none) => runL step y r
    | (y, some e) => (y, some e)
theorem s156 {c : Str} (hN : N < O.length) : xCall T 156 [.ptr (some (N, 0)), .str c] ⟨O, b, w⟩ =
    some (.func 155 [] [.ptr (some (O.length, 0)), .ptr (some (O.length + 1, 0))], ⟨O ++ [.cells 1 [.ptr (some (N, 0))], .cells 1 [.str c]], b, w⟩) := by
  simp (disch := omega) [xCallK t156, code156, reach_step, reach_done, nltT, nltF, hN]
structure LineB {σ : Type} (B : σ → Str → AObj → List AObj) (N n i g lo : Nat) (sl : List (Nat × AVal)) (S : List (Str × Str)) (step : σ → Str → σ × Option AExit) (b : Nat) : Prop where
  bn : b ≤ n
  lon : lo ≤ n
  c0 : ∀ x c o, (B x c o)[n]? = some (.cells 1 [.ptr (some (N, 0))])
  c1 : ∀ x c o, (B x c o)[n + 1]? = some (.cells 1 [.str c])
  set : ∀ x c d o, (B x c o).set (n + 1) (.cells 1 [.str d]) = B x d o
  loop : ∀ x c o, (B x c o)[i]? = some o
  w0 : ∀ x c o, ∃ r, (B x c o)[N]? = some (.cells 4 (.map (some (N + 1)) :: r))
  m1 : ∀ x c o, (B x c o)[N + 1]? = some (mObj .str .str S)
  body : ∀ x c w, lo ≤ w → ∃ w', lo ≤ w' ∧ w' ≤ i ∧ xCall T g [.ptr (some (i, 0)), .str c] ⟨B x c (.loop g .ready none sl), b, w⟩ =
    some (.bool (step x c).2.isNone, ⟨B (step x c).1 c (match (step x c).2 with | none => .loop g .ready none sl | some e => .loop g .done (some e) sl), b, w'⟩)
def endO (g : Nat) (sl : List (Nat × AVal)) : Option AExit → AObj
  | none => .loop g .ready none sl
  | some e => .loop g .done (some e) sl
section
variable {σ : Type} {B : σ → Str → AObj → List AObj} {n i g lo : Nat} {sl : List (Nat × AVal)} {step : σ → Str → σ × Option AExit}
theorem l155 (h : LineB B N n i g lo sl S step b) (hS : S.length ≤ 9223372036854775807) : ∀ (j q : Nat) (x : σ) (c : Str) (w : Nat), q + j = S.length → lo ≤ w →
    ∃ c' w' e, lo ≤ w' ∧ (w' ≤ i ∨ (lineS S j c = [] ∧ c' = c ∧ w' = w)) ∧ (e = .ret ∨ e = .exit 0) ∧ ∀ (k : AExit → St → Option (AVal × Heap)), xK T (.loop code155L0) ⟨[(0, .val (.yield i)), (1, .val (.ptr (some (n, 0)))), (2, .val (.ptr (some (n + 1, 0)))), (10, .val (.int .i64 S.length)), (11, .val (.int .i64 q))], ⟨B x c (.loop g .ready none sl), b, w⟩⟩ (k := ⟨k⟩) =
      k e ⟨[], ⟨B (runL step x (lineS S j c)).1 c' (endO g sl (runL step x (lineS S j c)).2), b, w'⟩⟩
  | 0, q, x, c, w, hq, hw => by
    refine ⟨c, w, .exit 0, hw, .inr ⟨rfl, rfl, rfl⟩, .inr rfl, fun k => ?_⟩
    rw [xK_loop]
    simp (disch := omega) [-getElem?_pos, -getElem?_neg, code155L0, iltF, lineS, runL, endO]
  | j + 1, q, x, c, w, hq, hw => by
    obtain ⟨r, hr⟩ := h.w0 x c (.loop g .ready none sl)
    have h0 := h.c0 x c (.loop g .ready none sl)
    have h1 := h.c1 x c (.loop g .ready none sl)
    have hl := h.loop x c (.loop g .ready none sl)
    have hlk := lookup_ok (b := b) (w := (B x c (.loop g .ready none sl)).length) (kn := .one .s) (zero := .str []) keyStr (h.m1 x c (.loop g .ready none sl)) (k := c) rfl
    have hlk2 := lookup_ok (b := b) (w := w) (kn := .one .s) (zero := .str []) keyStr (h.m1 x c (.loop g .ready none sl)) (k := c) rfl
    have e : ((getE S c).map AVal.str).getD (.str []) = .str ((getE S c).getD []) := by cases getE S c <;> rfl
    rw [e] at hlk hlk2
    cases hg : getE S c with
    | none =>
      refine ⟨c, w, .ret, hw, .inr ⟨by simp only [lineS, hg], rfl, rfl⟩, .inl rfl, fun k => ?_⟩
      rw [hg] at hlk hlk2
      simp only [Option.getD_none, Option.isSome_none, Option.getD_some, Option.isSome_some] at hlk hlk2
      rw [xK_loop]
      simp (disch := omega) [-getElem?_pos, -getElem?_neg, -evExt, gz, gs, code155L0, iltT, h0, h1, hr, hlk, hlk2, lineS, runL, endO, hg]
    | some d =>
      rw [hg] at hlk hlk2
      simp only [Option.getD_none, Option.isSome_none, Option.getD_some, Option.isSome_some] at hlk hlk2
      obtain ⟨w1, hw1, hwi, hb⟩ := h.body x c w hw
      have hbn := h.bn
      have hlon := h.lon
      cases hst : step x c with
      | mk y e =>
        rw [hst] at hb
        simp only at hb
        cases e with
        | some e =>
          refine ⟨c, w1, .ret, hw1, .inl hwi, .inl rfl, fun k => ?_⟩
          rw [xK_loop]
          simp (disch := omega) [-getElem?_pos, -getElem?_neg, -evExt, gz, gs, code155L0, iltT, h0, h1, hr, hl, hlk, hlk2, hb, lineS, runL, endO, hg, hst]
        | none =>
          obtain ⟨c', w', e', hw', hwj, he', ih⟩ := l155 h hS j (q + 1) y d (min w1 (n + 1)) (by omega) (by omega)
          refine ⟨c', w', e', hw', ?_, he', fun k => ?_⟩
          · rcases hwj with h2 | ⟨_, _, h2⟩
            · exact .inl h2
            · exact .inl (by omega)
          have ih := ih k
          have e2 : ((q + 1 : Nat) : Int) = (q : Int) + 1 := by omega
          rw [e2] at ih
          have h1' := h.c1 y c (.loop g .ready none sl)
          have hs := h.set y c d (.loop g .ready none sl)
          rw [xK_loop]
          generalize ACode.loop code155L0 = L at ih ⊢
          simp (disch := omega) [-getElem?_pos, -getElem?_neg, -evExt, gz, gs, code155L0, iltT, nleT, wrapI, h0, h1, h1', hr, hl, hlk, hlk2, hb, hs, lineS, runL, hg, hst, ih]
theorem s155 (h : LineB B N n i g lo sl S step b) (hS : S.length ≤ 9223372036854775807) (x : σ) (c : Str) (w : Nat) (hw : lo ≤ w) (hlo : lo ≤ (B x c (.loop g .ready none sl)).length) :
    ∃ c' w', lo ≤ w' ∧ xCall T 155 [.yield i, .ptr (some (n, 0)), .ptr (some (n + 1, 0))] ⟨B x c (.loop g .ready none sl), b, w⟩ =
      some (.tuple [], ⟨B (runL step x (lineS S S.length c)).1 c' (endO g sl (runL step x (lineS S S.length c)).2), b, w'⟩) := by
  have h0 := h.c0 x c (.loop g .ready none sl)
  obtain ⟨r, hr⟩ := h.w0 x c (.loop g .ready none sl)
  have hlen := fun w => len_map (b := b) (w := w) (h.m1 x c (.loop g .ready none sl))
  obtain ⟨c', w', e, hw', hwi, he, hl⟩ := l155 h hS S.length 0 x c (B x c (.loop g .ready none sl)).length (by omega) hlo
  simp only [Int.cast_ofNat_Int] at hl
  have hil := lt_of_get (h.loop x c (.loop g .ready none sl))
  refine ⟨c', if w' < (B x c (.loop g .ready none sl)).length then min w w' else w, by split <;> omega, ?_⟩
  rcases he with rfl | rfl
  all_goals
    simp (disch := omega) [-getElem?_pos, -getElem?_neg, -evLen, gz, gs, xCallK t155, code155, h0, hr, hlen, hl]
    rcases hwi with hwi | ⟨h1, h2, _⟩
    · rw [if_pos (by omega), if_pos (by omega)]
    · subst h2
      rw [h1]
      split <;> simp [runL, endO]
end
end Go.Abs.AbsHier

/-
  Layer 16: does a line end with Object?
-/
namespace Go.Abs.AbsHier
set_option linter.unusedVariables false
set_option linter.unusedSimpArgs false
open Go.Abs.AbsDesc
set_option maxRecDepth 100000
set_option linter.unusedSimpArgs false
variable {os O : List AObj} {b w : Nat} {N : Nat} {S : List (Str × Str)} {F M : List (Key × Mem)} {V : List (Key × Bool)}
def objectT : Str := [79, 98, 106, 101, 99, 116]
def lineEndB (O : List AObj) (N : Nat) (x : Str × Int) (c : Str) (o : AObj) : List AObj :=
  O ++ [.cells 1 [.str x.1], .cells 1 [.int .i64 x.2], .cells 1 [.ptr (some (N, 0))], .cells 1 [.str c], o]
def lineEndStep (x : Str × Int) (c : Str) : (Str × Int) × Option AExit := ((c, IntKind.i64.wrap (x.2 + 1)), none)
theorem lineEnd_at (h : World O N S F M V) (hb : b ≤ O.length) : LineB (lineEndB O N) N (O.length + 2) (O.length + 4) 321 O.length [(5, .ptr (some (O.length, 0))), (6, .ptr (some (O.length + 1, 0)))] S lineEndStep b where
  bn := by omega
  lon := by omega
  c0 := fun x c o => by unfold lineEndB; rw [get_k]; rfl
  c1 := fun x c o => by unfold lineEndB; rw [Nat.add_assoc, get_k]; rfl
  set := fun x c d o => by unfold lineEndB; rw [Nat.add_assoc, set_k]; rfl
  loop := fun x c o => by unfold lineEndB; rw [get_k]; rfl
  w0 := fun x c o => ⟨_, by unfold lineEndB; rw [List.getElem?_append_left (by have := h.lt; omega)]; exact h.w0⟩
  m1 := fun x c o => by unfold lineEndB; rw [List.getElem?_append_left (by have := h.lt; omega)]; exact h.m1
  body := fun x c w hw => by
    have hb1 : b ≤ O.length + 1 := by omega
    have hb4 : b ≤ O.length + 4 := by omega
    refine ⟨O.length, Nat.le_refl _, by omega, ?_⟩
    simp (disch := omega) [-getElem?_pos, -getElem?_neg, gz, gs, xRoundK t321 rfl, round321, rcode321a, rcode321b, roundSlots, roundIn, roundOut, setArgs, ofCaps, lineEndB, lineEndStep, nltT, nltF, get_k, get_k0, set_k, set_k0, hb, hb1, hb4]
theorem lineS_len (S : List (Str × Str)) : ∀ (k : Nat) (c : Str), (lineS S k c).length ≤ k
  | 0, _ => Nat.le_refl _
  | k + 1, c => by
    simp only [lineS]
    split
    · rename_i d _
      have := lineS_len S k d
      simp only [List.length_cons]; omega
    · simp
theorem lineEnd_run : ∀ (L : List Str) (l : Str) (k : Nat), k + L.length ≤ 9223372036854775807 → runL lineEndStep (l, (k : Int)) L = ((L.getLastD l, ((k + L.length : Nat) : Int)), none)
  | [], l, k, _ => rfl
  | c :: L, l, k, h => by
    simp only [List.length_cons] at h
    simp only [runL, lineEndStep]
    rw [wrap_next (n := k + 1) (by omega) (by omega), lineEnd_run L c (k + 1) (by omega)]
    simp only [List.getLastD_cons, List.length_cons]
    congr 3
    omega
def endsS (S : List (Str × Str)) (c : Str) : Bool := decide ((lineS S S.length c).getLastD [] = objectT) && decide (1 < (lineS S S.length c).length)
theorem s98 (h : World O N S F M V) (hb : b ≤ O.length) (hS : S.length ≤ 9223372036854775807) {c : Str} : xCall T 98 [.ptr (some (N, 0)), .str c] ⟨O, b, w⟩ = some (.bool (endsS S c), ⟨O, b, w⟩) := by
  have hN := h.lt
  have hN2 : N < O.length + 2 := by omega
  have hb1 : b ≤ O.length + 1 := by omega
  have hb4 : b ≤ O.length + 4 := by omega
  have h1 := fun w => s156 (O := O ++ [.cells 1 [.str []], .cells 1 [.int .i64 0]]) (b := b) (w := w) (N := N) (c := c) (by simp; omega)
  simp only [List.length_append, List.length_cons, List.length_nil, Nat.zero_add, List.append_assoc, List.cons_append, List.nil_append, Nat.reduceAdd, Nat.add_assoc] at h1
  obtain ⟨c', w', hw', h2⟩ := s155 (lineEnd_at h hb) hS ([], 0) c O.length (Nat.le_refl _) (by simp [lineEndB])
  have hrun := lineEnd_run (lineS S S.length c) [] 0 (by have := lineS_len S S.length c; omega)
  simp only [Int.cast_ofNat_Int, Nat.zero_add] at hrun
  rw [hrun] at h2
  simp only [lineEndB, endO, Nat.add_assoc, Nat.reduceAdd] at h2
  unfold endsS objectT
  generalize (lineS S S.length c).getLastD [] = l at h2 ⊢
  by_cases e : l = [79, 98, 106, 101, 99, 116]
  · simp (disch := omega) [-getElem?_pos, -getElem?_neg, gz, gs, xCallK t98, code98, capsOf, callVal, h1, h2, loopEnd, nltT, nltF, get_k, get_k0, set_k, set_k0, hb, hb1, hb4, e]
    omega
  · simp (disch := omega) [-getElem?_pos, -getElem?_neg, gz, gs, xCallK t98, code98, capsOf, callVal, h1, h2, loopEnd, nltT, nltF, get_k, get_k0, set_k, set_k0, hb, hb1, hb4, e]
end Go.Abs.AbsHier

/-
  Rows, read whole.
-/
namespace Go.Abs
set_option linter.unusedVariables false
set_option linter.unusedSimpArgs false
set_option maxRecDepth 100000
theorem rowOf0 {e : Nat} {h : Heap} {a : Option (Nat × Nat)} {c : Option Nat} : rowOf e h (.slice a 0 c) = some [] := by
  cases a with
  | none => rfl
  | some p => rfl
theorem rowOfC {e n : Nat} {h : Heap} {i : Nat} {cs : List AVal} {c : Option Nat} (hg : h.objs[i]? = some (.cells e cs)) (hn : cs.length = n * e) : rowOf e h (.slice (some (i, 0)) n c) = some cs := by
  unfold rowOf
  simp only
  split
  · rename_i h0
    subst h0
    rw [Nat.zero_mul] at hn
    rw [List.eq_nil_of_length_eq_zero hn]
  · have hg' : h.get i = some (.cells e cs) := hg
    rw [hg']
    simp only
    have h2 : True ∧ 0 + n * e ≤ cs.length := ⟨trivial, by omega⟩
    rw [if_pos h2, List.drop_zero, ← hn, List.take_length]
theorem sgetN (t : Nat) : sget [] t = none := by simp
theorem sgetH (t : Nat) (x : Slot) (r : Slots) : sget ((t, x) :: r) t = some x := by simp
theorem sgetT (u t : Nat) (x : Slot) (r : Slots) (h : u ≠ t) : sget ((u, x) :: r) t = sget r t := by simp [h]
end Go.Abs

/-
  Layer 16: is a class another one? Does a type go for another one?
-/
namespace Go.Abs.AbsHier
set_option linter.unusedVariables false
set_option linter.unusedSimpArgs false
open Go.Abs.AbsDesc
set_option maxRecDepth 100000
set_option linter.unusedSimpArgs false
variable {os O : List AObj} {b w : Nat} {N : Nat} {S : List (Str × Str)} {F M : List (Key × Mem)} {V : List (Key × Bool)}
def isB (O : List AObj) (N : Nat) (d : Str) (x : Bool) (c : Str) (o : AObj) : List AObj :=
  O ++ [.cells 1 [.str d], .cells 1 [.bool x], .cells 1 [.ptr (some (N, 0))], .cells 1 [.str c], o]
def isStep (d : Str) (x : Bool) (c : Str) : Bool × Option AExit := if c = d then (true, some .ret) else (x, none)
theorem is_at {d : Str} (h : World O N S F M V) (hb : b ≤ O.length) : LineB (isB O N d) N (O.length + 2) (O.length + 4) 320 O.length [(5, .ptr (some (O.length, 0))), (6, .ptr (some (O.length + 1, 0)))] S (isStep d) b where
  bn := by omega
  lon := by omega
  c0 := fun x c o => by unfold isB; rw [get_k]; rfl
  c1 := fun x c o => by unfold isB; rw [Nat.add_assoc, get_k]; rfl
  set := fun x c d o => by unfold isB; rw [Nat.add_assoc, set_k]; rfl
  loop := fun x c o => by unfold isB; rw [get_k]; rfl
  w0 := fun x c o => ⟨_, by unfold isB; rw [List.getElem?_append_left (by have := h.lt; omega)]; exact h.w0⟩
  m1 := fun x c o => by unfold isB; rw [List.getElem?_append_left (by have := h.lt; omega)]; exact h.m1
  body := fun x c w hw => by
    have hb1 : b ≤ O.length + 1 := by omega
    have hb4 : b ≤ O.length + 4 := by omega
    by_cases e : c = d
    · refine ⟨min w (O.length + 1), by omega, by omega, ?_⟩
      simp (disch := omega) [-getElem?_pos, -getElem?_neg, gz, gs, xRoundK t320 rfl, round320, rcode320a, rcode320b, roundSlots, roundIn, roundOut, setArgs, ofCaps, isB, isStep, nltT, nltF, get_k, get_k0, set_k, set_k0, hb, hb1, hb4, e]
    · refine ⟨min w (O.length + 4), by omega, by omega, ?_⟩
      simp (disch := omega) [-getElem?_pos, -getElem?_neg, gz, gs, xRoundK t320 rfl, round320, rcode320a, rcode320b, roundSlots, roundIn, roundOut, setArgs, ofCaps, isB, isStep, nltT, nltF, get_k, get_k0, set_k, set_k0, hb, hb1, hb4, e]
theorem is_run (d : Str) : ∀ L : List Str, runL (isStep d) false L = if L.any (fun c => decide (c = d)) then (true, some .ret) else (false, none)
  | [] => rfl
  | c :: L => by
    have ih := is_run d L
    by_cases e : c = d
    · simp [runL, isStep, e]
    · simp only [runL, isStep, e, if_false, ih, List.any_cons, decide_false, Bool.false_or]
def isS (S : List (Str × Str)) (c d : Str) : Bool := (lineS S S.length c).any fun x => decide (x = d)
theorem s52 (h : World O N S F M V) (hb : b ≤ O.length) (hS : S.length ≤ 9223372036854775807) {c d : Str} : xCall T 52 [.ptr (some (N, 0)), .str c, .str d] ⟨O, b, w⟩ = some (.bool (isS S c d), ⟨O, b, w⟩) := by
  have hN := h.lt
  have hN2 : N < O.length + 2 := by omega
  have hb1 : b ≤ O.length + 1 := by omega
  have hb4 : b ≤ O.length + 4 := by omega
  have h1 := fun w => s156 (O := O ++ [.cells 1 [.str d], .cells 1 [.bool false]]) (b := b) (w := w) (N := N) (c := c) (by simp; omega)
  simp only [List.length_append, List.length_cons, List.length_nil, Nat.zero_add, List.append_assoc, List.cons_append, List.nil_append, Nat.reduceAdd, Nat.add_assoc] at h1
  obtain ⟨c', w', hw', h2⟩ := s155 (is_at (d := d) h hb) hS false c O.length (Nat.le_refl _) (by simp [isB])
  rw [is_run] at h2
  unfold isS
  generalize (lineS S S.length c).any (fun x => decide (x = d)) = r at h2 ⊢
  cases r with
  | true =>
    simp only [if_true, isB, endO, Nat.add_assoc, Nat.reduceAdd] at h2
    simp (disch := omega) [-getElem?_pos, -getElem?_neg, gz, gs, xCallK t52, code52, capsOf, callVal, h1, h2, loopEnd, nltT, nltF, get_k, get_k0, set_k, set_k0, hb, hb1, hb4]
  | false =>
    simp only [Bool.false_eq_true, if_false, isB, endO, Nat.add_assoc, Nat.reduceAdd] at h2
    simp (disch := omega) [-getElem?_pos, -getElem?_neg, gz, gs, xCallK t52, code52, capsOf, callVal, h1, h2, loopEnd, nltT, nltF, get_k, get_k0, set_k, set_k0, hb, hb1, hb4]
end Go.Abs.AbsHier

/-
  Layer 16: where a member stands.
-/
namespace Go.Abs.AbsHier
set_option linter.unusedVariables false
set_option linter.unusedSimpArgs false
open Go.Abs.AbsDesc
set_option maxRecDepth 100000
set_option linter.unusedSimpArgs false
variable {os O : List AObj} {b w : Nat} {N : Nat} {S : List (Str × Str)} {F M : List (Key × Mem)} {V : List (Key × Bool)}
end Go.Abs.AbsHier

/-
  Layer 16: do a unit's methods go with those of its superclasses?
-/
namespace Go.Abs.AbsHier
set_option linter.unusedVariables false
set_option linter.unusedSimpArgs false
open Go.Abs.AbsDesc
set_option maxRecDepth 100000
set_option linter.unusedSimpArgs false
variable {os O : List AObj} {b w : Nat} {N : Nat} {S : List (Str × Str)} {F M : List (Key × Mem)} {V : List (Key × Bool)}
def overB (O G : List AObj) (N : Nat) (m : MethU) (x : Bool) (c : Str) (o : AObj) : List AObj :=
  O ++ .cells 1 [.ptr (some (N, 0))] :: .cells 1 [.bool x] :: (G ++ [.cells 8 m.cells, .cells 1 [.ptr (some (N, 0))], .cells 1 [.str c], o])
def overOk (M : List (Key × Mem)) (m : MethU) (c : Str) : Bool := match getE M (c, m.name, m.desc) with
  | some y => y.st == m.st
  | none => true
def overStep (M : List (Key × Mem)) (m : MethU) (x : Bool) (c : Str) : Bool × Option AExit := if overOk M m c then (x, none) else (false, some .ret)
theorem over_at {G : List AObj} {m : MethU} (h : World O N S F M V) (hb : b ≤ O.length) :
    LineB (overB O G N m) N (O.length + (G.length + 3)) (O.length + (G.length + 5)) 322 O.length [(2, .ptr (some (O.length, 0))), (4, .ptr (some (O.length + 1, 0))), (6, .ptr (some (O.length + (G.length + 2), 0)))] S (overStep M m) b where
  bn := by omega
  lon := by omega
  c0 := fun x c o => by unfold overB; rw [get_k]; simp only [List.getElem?_cons_succ, get_k]; rfl
  c1 := fun x c o => by unfold overB; rw [Nat.add_assoc, get_k]; simp only [List.getElem?_cons_succ, Nat.add_assoc, get_k]; rfl
  set := fun x c d o => by unfold overB; rw [Nat.add_assoc, set_k]; simp only [List.set_cons_succ, Nat.add_assoc, set_k]; rfl
  loop := fun x c o => by unfold overB; rw [get_k]; simp only [List.getElem?_cons_succ, get_k]; rfl
  w0 := fun x c o => ⟨_, by unfold overB; rw [List.getElem?_append_left (by have := h.lt; omega)]; exact h.w0⟩
  m1 := fun x c o => by unfold overB; rw [List.getElem?_append_left (by have := h.lt; omega)]; exact h.m1
  body := fun x c w hw => by
    have hl := h.lt
    have hw0 : ∀ X, (O ++ X)[N]? = _ := fun X => (List.getElem?_append_left (l₂ := X) (show N < O.length by omega)).trans h.w0
    have hb1 : b ≤ O.length + 1 := by omega
    have hb5 : b ≤ O.length + (G.length + 5) := by omega
    have hlk := fun X w => lookup_ok (os := O ++ X) (b := b) (w := w) (r := N + 3) (A := M) (vf := memF) (kn := .agg [.s, .s, .s]) (zero := .agg [.str [], .bool false]) keyKey (by rw [List.getElem?_append_left (by omega)]; exact h.m3) (k := (c, m.name, m.desc)) rfl
    simp only [keyF] at hlk
    cases hg : getE M (c, m.name, m.desc) with
    | none =>
      rw [hg] at hlk
      simp only [Option.map_none, Option.getD_none, Option.isSome_none] at hlk
      refine ⟨min w (O.length + (G.length + 5)), by omega, by omega, ?_⟩
      simp (config := { maxSteps := 1000000 }) (disch := omega) [-getElem?_pos, -getElem?_neg, -evExt, gz, gs, xRoundK t322 rfl, round322, rcode322a, rcode322b, roundSlots, roundIn, roundOut, setArgs, ofCaps, overB, overStep, overOk, nltT, nltF, get_k, get_k0, set_k, set_k0, hb, hb1, hb5, hlk, hg, hw0, MethU.cells]
    | some y =>
      rw [hg] at hlk
      simp only [Option.map_some, Option.getD_some, Option.isSome_some, memF] at hlk
      by_cases e : y.st = m.st
      · refine ⟨min w (O.length + (G.length + 5)), by omega, by omega, ?_⟩
        simp (config := { maxSteps := 1000000 }) (disch := omega) [-getElem?_pos, -getElem?_neg, -evExt, gz, gs, xRoundK t322 rfl, round322, rcode322a, rcode322b, roundSlots, roundIn, roundOut, setArgs, ofCaps, overB, overStep, overOk, nltT, nltF, get_k, get_k0, set_k, set_k0, hb, hb1, hb5, hlk, hg, hw0, MethU.cells, e]
      · refine ⟨min w (O.length + 1), by omega, by omega, ?_⟩
        simp (config := { maxSteps := 1000000 }) (disch := omega) [-getElem?_pos, -getElem?_neg, -evExt, gz, gs, xRoundK t322 rfl, round322, rcode322a, rcode322b, roundSlots, roundIn, roundOut, setArgs, ofCaps, overB, overStep, overOk, nltT, nltF, get_k, get_k0, set_k, set_k0, hb, hb1, hb5, hlk, hg, hw0, MethU.cells, e]
def overM (S : List (Str × Str)) (M : List (Key × Mem)) (c : Str) (m : MethU) : Bool := (lineS S S.length c).all (overOk M m)
theorem over_run (M : List (Key × Mem)) (m : MethU) : ∀ L : List Str, runL (overStep M m) false L = (false, if L.all (overOk M m) then none else some .ret)
  | [] => rfl
  | c :: L => by
    simp only [runL, overStep, List.all_cons]
    by_cases e : overOk M m c = true
    · simp only [e, if_true, Bool.true_and]; exact over_run M m L
    · simp [e]
theorem row_at {α : Type} {e : Nat} {f : α → List AVal} {L : List α} {a : Option (Nat × Nat)} (h : Row os e f L a) {i : Nat} {x : α} (hx : L[i]? = some x) :
    ∃ p o cs, a = some (p, o) ∧ os[p]? = some (.cells e cs) ∧ p < os.length ∧ o + i * e + e ≤ cs.length ∧ (cs.drop (o + i * e)).take e = f x := by
  obtain ⟨p, o, cs, h1, h2, h3⟩ := h.at' (ne_of_get hx)
  exact ⟨p, o, cs, h1, h2, lt_of_get h2, h3 i x hx⟩
theorem l97 {u : UnitU} (hu : u.ok O) (h : World O N S F M V) (hb : b ≤ O.length) (hS : S.length ≤ 9223372036854775807) : ∀ (j i : Nat) (G : List AObj) (w : Nat), i + j = u.meths.length → O.length ≤ w →
    ∃ G' w' s', O.length ≤ w' ∧ sget s' 4 = some (.val (.ptr (some (O.length + 1, 0)))) ∧ ∀ (k : AExit → St → Option (AVal × Heap)),
      xK T (.loop code97L1) ⟨[(2, .val (.ptr (some (O.length, 0)))), (3, .var u.cells), (4, .val (.ptr (some (O.length + 1, 0)))), (11, .val (.slice u.ma u.meths.length u.mc)), (12, .val (.int .i64 u.meths.length)), (13, .val (.int .i64 i))],
        ⟨O ++ .cells 1 [.ptr (some (N, 0))] :: .cells 1 [.bool false] :: G, b, w⟩⟩ (k := ⟨k⟩) =
      if (u.meths.drop i).all (overM S M u.name) then k (.exit 0) ⟨[(4, .val (.ptr (some (O.length + 1, 0))))], ⟨O ++ .cells 1 [.ptr (some (N, 0))] :: .cells 1 [.bool false] :: G', b, w'⟩⟩
      else k .ret ⟨s', ⟨O ++ .cells 1 [.ptr (some (N, 0))] :: .cells 1 [.bool false] :: G', b, w'⟩⟩
  | 0, i, G, w, hi, hw => by
    refine ⟨G, w, [(4, .val (.ptr (some (O.length + 1, 0))))], hw, rfl, fun k => ?_⟩
    rw [xK_loop, List.drop_of_length_le (by omega)]
    simp (disch := omega) [-getElem?_pos, -getElem?_neg, code97L1, iltF]
  | j + 1, i, G, w, hi, hw => by
    obtain ⟨m, hm⟩ : ∃ m, u.meths[i]? = some m := ⟨_, List.getElem?_eq_getElem (by omega)⟩
    obtain ⟨p, o, cs, ha, hp, hpl, hcs, ht⟩ := row_at hu.m hm
    have hmn : u.meths.length ≤ 9223372036854775807 := hu.mn
    have hml : m.cells.length = 8 := rfl
    have hd : u.meths.drop i = m :: u.meths.drop (i + 1) := by
      have := lt_of_get hm
      rw [List.getElem?_eq_getElem this] at hm
      rw [List.drop_eq_getElem_cons this, Option.some.inj hm]
    have hb2 : b ≤ O.length + (G.length + 2) := by omega
    have hb5 : b ≤ O.length + (G.length + 5) := by omega
    have hp' : ∀ X, (O ++ X)[p]? = _ := fun X => (List.getElem?_append_left (l₂ := X) hpl).trans hp
    have hl := h.lt
    have h1 := fun w => s156 (O := O ++ .cells 1 [.ptr (some (N, 0))] :: .cells 1 [.bool false] :: (G ++ [.cells 8 m.cells])) (b := b) (w := w) (N := N) (c := u.name) (by simp; omega)
    simp only [List.length_append, List.length_cons, List.length_nil, Nat.zero_add, List.append_assoc, List.cons_append, List.nil_append, Nat.reduceAdd, Nat.add_assoc] at h1
    obtain ⟨c', w', hw', h2⟩ := s155 (over_at (G := G) (m := m) h hb) hS false u.name (min w (O.length + (G.length + 2))) (by omega) (by simp [overB])
    rw [over_run] at h2
    have hov : overM S M u.name m = (lineS S S.length u.name).all (overOk M m) := rfl
    rw [← hov] at h2
    by_cases e : overM S M u.name m = true
    · rw [if_pos e] at h2
      simp only [overB, endO, Nat.add_assoc, Nat.reduceAdd] at h2
      obtain ⟨G', w2, s', k1, k2, ih⟩ := l97 hu h hb hS j (i + 1) (G ++ [.cells 8 m.cells, .cells 1 [.ptr (some (N, 0))], .cells 1 [.str c'], .dead]) (min w' (O.length + (G.length + 5))) (by omega) (by omega)
      refine ⟨G', w2, s', k1, k2, fun k => ?_⟩
      have ih := ih k
      have e2 : ((i + 1 : Nat) : Int) = (i : Int) + 1 := by omega
      rw [e2] at ih
      rw [xK_loop, hd]
      simp only [List.all_cons, e, Bool.true_and]
      rw [← ih]
      generalize ACode.loop code97L1 = L
      simp (disch := omega) [-getElem?_pos, -getElem?_neg, gz, gs, code97L1, capsOf, callVal, h1, h2, loopEnd, nltT, nltF, iltT, ileT, nleT, wrapI, get_k, get_k0, set_k, set_k0, hb, hb2, hb5, hp', ht, ha, hml, UnitU.cells, Nat.add_assoc]
    · rw [if_neg e] at h2
      simp only [overB, endO, Nat.add_assoc, Nat.reduceAdd] at h2
      refine ⟨G ++ [.cells 8 m.cells, .cells 1 [.ptr (some (N, 0))], .cells 1 [.str c'], .dead], min w' (O.length + (G.length + 5)), ?_, by omega, ?_, fun k => ?_⟩
      rotate_left 2
      · rw [xK_loop, hd]
        simp only [List.all_cons, e, Bool.false_and, Bool.false_eq_true, if_false]
        generalize ACode.loop code97L1 = L
        simp (disch := omega) [-getElem?_pos, -getElem?_neg, gz, gs, code97L1, capsOf, callVal, h1, h2, loopEnd, nltT, nltF, iltT, ileT, nleT, wrapI, get_k, get_k0, set_k, set_k0, hb, hb2, hb5, hp', ht, ha, hml, UnitU.cells, Nat.add_assoc]
        rfl
      · rfl
def overS (S : List (Str × Str)) (M : List (Key × Mem)) (u : UnitU) : Bool := u.meths.all (overM S M u.name)
theorem s97 {u : UnitU} (hu : u.ok O) (h : World O N S F M V) (hb : b ≤ O.length) (hS : S.length ≤ 9223372036854775807) : xCall T 97 [.ptr (some (N, 0)), .agg u.cells] ⟨O, b, w⟩ = some (.bool (overS S M u), ⟨O, b, w⟩) := by
  have hl := h.lt
  have hb1 : b ≤ O.length + 1 := by omega
  obtain ⟨G', w', s', k1, k2, hk⟩ := l97 hu h hb hS u.meths.length 0 [] O.length (by omega) (Nat.le_refl _)
  simp only [Int.cast_ofNat_Int, List.drop_zero] at hk
  unfold overS
  by_cases e : u.meths.all (overM S M u.name) = true
  · simp only [e, if_true] at hk ⊢
    unfold UnitU.cells at hk ⊢
    simp (disch := omega) [-getElem?_pos, -getElem?_neg, gz, gs, xCallK t97, code97, hk, nltT, nltF, get_k, get_k0, set_k, set_k0, hb, hb1]
  · simp only [e, if_false] at hk ⊢
    unfold UnitU.cells at hk ⊢
    simp (disch := omega) [-getElem?_pos, -getElem?_neg, gz, gs, xCallK t97, code97, hk, k2, nltT, nltF, get_k, get_k0, set_k, set_k0, hb, hb1]
end Go.Abs.AbsHier

/-
  Layer 16: a unit's fields are put.
-/
namespace Go.Abs.AbsHier
set_option linter.unusedVariables false
set_option linter.unusedSimpArgs false
open Go.Abs.AbsDesc
set_option maxRecDepth 100000
set_option linter.unusedSimpArgs false
variable {os O : List AObj} {b w : Nat} {N : Nat} {S : List (Str × Str)} {F M : List (Key × Mem)} {V : List (Key × Bool)}
theorem World.setF (h : World O N S F M V) (F' : List (Key × Mem)) : World (O.set (N + 2) (mObj keyF memF F')) N S F' M V := by
  have hl := h.lt
  constructor
  · rw [List.getElem?_set_ne (by omega)]; exact h.w0
  · rw [List.getElem?_set_ne (by omega)]; exact h.m1
  · rw [List.getElem?_set, if_pos rfl, if_pos (by omega)]
  · rw [List.getElem?_set_ne (by omega)]; exact h.m3
  · rw [List.getElem?_set_ne (by omega)]; exact h.m4
theorem World.setM (h : World O N S F M V) (M' : List (Key × Mem)) : World (O.set (N + 3) (mObj keyF memF M')) N S F M' V := by
  have hl := h.lt
  constructor
  · rw [List.getElem?_set_ne (by omega)]; exact h.w0
  · rw [List.getElem?_set_ne (by omega)]; exact h.m1
  · rw [List.getElem?_set_ne (by omega)]; exact h.m2
  · rw [List.getElem?_set, if_pos rfl, if_pos (by omega)]
  · rw [List.getElem?_set_ne (by omega)]; exact h.m4
def fieldOk (S : List (Str × Str)) (A : List (Str × Bool)) (f : FieldU) : Bool := isName f.name && isTy f.desc && thereS S f.desc && !(getE A f.name).getD false
def fieldsS (S : List (Str × Str)) : List (Str × Bool) → List FieldU → Bool
  | _, [] => true
  | A, f :: r => fieldOk S A f && fieldsS S (A ++ [(f.name, true)]) r
def fieldE (c : Str) (f : FieldU) : Key × Mem := ((c, f.name, f.desc), ⟨c, f.st⟩)
theorem l99 {u : UnitU} (hu : u.ok os) (hp : Pre os O) (hN : os.length ≤ N) (h : World O N S F M V) (hb : b ≤ N) : ∀ (j i : Nat) (F' : List (Key × Mem)) (A : List (Str × Bool)) (w : Nat), i + j = u.fields.length → N + 2 ≤ w →
    (∀ x ∈ F', x.1.1 = u.name → (getE A x.1.2.1).isSome = true) → (∀ x ∈ A, x.2 = true) →
    ∃ O' w' e s', N + 2 ≤ w' ∧ (if fieldsS S A (u.fields.drop i) then e = .exit 0 ∧ s' = [] ∧ (w' ≤ N + 2 ∨ (u.fields.drop i = [] ∧ w' = w)) ∧ ∃ X, O' = O.set (N + 2) (mObj keyF memF (F' ++ (u.fields.drop i).map (fieldE u.name))) ++ X else e = .ret ∧ s' = [(4, .val (.bool false))]) ∧
      ∀ (k : AExit → St → Option (AVal × Heap)),
      xK T (.loop code99L0) ⟨[(0, .val (.ptr (some (N, 0)))), (3, .var u.cells), (5, .val (.map (some O.length))), (10, .val (.slice u.fa u.fields.length u.fc)), (11, .val (.int .i64 u.fields.length)), (12, .val (.int .i64 i))],
        ⟨O.set (N + 2) (mObj keyF memF F') ++ [mObj .str .bool A], b, w⟩⟩ (k := ⟨k⟩) = k e ⟨s', ⟨O', b, w'⟩⟩
  | 0, i, F', A, w, hi, hw, hF, hA => by
    refine ⟨O.set (N + 2) (mObj keyF memF F') ++ [mObj .str .bool A], w, .exit 0, [], hw, ?_, fun k => ?_⟩
    · rw [List.drop_of_length_le (by omega)]
      simp only [fieldsS, if_true, List.map_nil, List.append_nil]
      exact ⟨trivial, trivial, .inr ⟨trivial, trivial⟩, _, rfl⟩
    · rw [xK_loop]
      simp (disch := omega) [-getElem?_pos, -getElem?_neg, code99L0, iltF]
  | j + 1, i, F', A, w, hi, hw, hF, hA => by
    obtain ⟨f, hf⟩ : ∃ f, u.fields[i]? = some f := ⟨_, List.getElem?_eq_getElem (by omega)⟩
    obtain ⟨p, o, cs, ha, hpp, hpl, hcs, ht⟩ := row_at hu.f hf
    have hfn : u.fields.length ≤ 9223372036854775807 := hu.fn
    obtain ⟨hn1, hn2⟩ := hu.fok f (List.mem_of_getElem? hf)
    have hd : u.fields.drop i = f :: u.fields.drop (i + 1) := by
      have := lt_of_get hf
      rw [List.getElem?_eq_getElem this] at hf
      rw [List.drop_eq_getElem_cons this, Option.some.inj hf]
    have hl := h.lt
    have hW := (h.setF F').app [mObj .str .bool A]
    have hpO : (O.set (N + 2) (mObj keyF memF F') ++ [mObj .str .bool A])[p]? = some (.cells 3 cs) := by
      rw [List.getElem?_append_left (by simp; omega), List.getElem?_set_ne (by omega)]; exact hp _ _ hpp
    have hAl : (O.set (N + 2) (mObj keyF memF F') ++ [mObj .str .bool A])[O.length]? = some (mObj .str .bool A) := by
      rw [List.getElem?_append_right (by simp)]; simp
    have hbO : b ≤ (O.set (N + 2) (mObj keyF memF F') ++ [mObj .str .bool A]).length := by simp; omega
    have h181 := fun w => s181 (O := O.set (N + 2) (mObj keyF memF F') ++ [mObj .str .bool A]) (b := b) (w := w) (s := f.name) hbO
    have h27 := fun w => s27 (os := O.set (N + 2) (mObj keyF memF F') ++ [mObj .str .bool A]) (b := b) (w := w) (s := f.desc) hn2 hbO
    have h103 := fun w => s103 (b := b) (w := w) hW (t := f.desc) hn2
    have hlk := fun w => lookup_v (b := b) (w := w) (kn := .one .s) (zero := .bool false) keyStr hAl (k := f.name) rfl
    have hlv : ((getE A f.name).map AVal.bool).getD (.bool false) = .bool ((getE A f.name).getD false) := by cases getE A f.name <;> rfl
    rw [hlv] at hlk
    have hm1 := hW.w0
    have hc0 : f.cells = [.bool f.st, .str f.name, .str f.desc] := rfl
    rw [hc0] at ht
    by_cases c : fieldOk S A f = true
    · have hc := c
      unfold fieldOk at hc
      simp only [Bool.and_eq_true, Bool.not_eq_true'] at hc
      obtain ⟨⟨⟨c1, c2⟩, c3⟩, c4⟩ := hc
      have hgA : getE A f.name = none := by
        cases hg : getE A f.name with
        | none => rfl
        | some v =>
          have := hA _ (getE_mem hg)
          simp only at this
          rw [hg, this] at c4; cases c4
      have hgF : getE F' (u.name, f.name, f.desc) = none := by
        cases hg : getE F' (u.name, f.name, f.desc) with
        | none => rfl
        | some v =>
          have := hF _ (getE_mem hg) rfl
          simp only at this
          rw [hgA] at this; cases this
      have hup1 := fun w => upd_new (b := b) (w := w) (kn := .one .s) keyStr hAl (k := f.name) true rfl (by omega) hgA
      have hs1 : (O.set (N + 2) (mObj keyF memF F') ++ [mObj .str .bool A]).set O.length (mObj .str .bool (A ++ [(f.name, true)])) = O.set (N + 2) (mObj keyF memF F') ++ [mObj .str .bool (A ++ [(f.name, true)])] := by
        rw [List.set_append_right _ _ (by simp)]; simp
      simp only [hs1] at hup1
      have hW2 := (h.setF F').app [mObj .str .bool (A ++ [(f.name, true)])]
      have hup2 := fun w => upd_new (b := b) (w := w) (kn := .agg [.s, .s, .s]) keyKey hW2.m2 (k := (u.name, f.name, f.desc)) ⟨u.name, f.st⟩ rfl (by omega) hgF
      have hs2 : (O.set (N + 2) (mObj keyF memF F') ++ [mObj .str .bool (A ++ [(f.name, true)])]).set (N + 2) (mObj keyF memF (F' ++ [((u.name, f.name, f.desc), ⟨u.name, f.st⟩)])) = O.set (N + 2) (mObj keyF memF (F' ++ [fieldE u.name f])) ++ [mObj .str .bool (A ++ [(f.name, true)])] := by
        rw [List.set_append_left _ _ (by simp; omega), List.set_set]; rfl
      simp only [hs2, keyF, memF] at hup2
      have hm2 := hW2.w0
      obtain ⟨O', w', e, s', r1, r2, ih⟩ := l99 hu hp hN h hb j (i + 1) (F' ++ [fieldE u.name f]) (A ++ [(f.name, true)]) (min (min w O.length) (N + 2)) (by omega) (by omega) (fun x hx hn => by
          rcases List.mem_append.1 hx with hx | hx
          · rw [getE_app]
            have := hF x hx hn
            cases hg : getE A x.1.2.1 with
            | none => rw [hg] at this; cases this
            | some v => rfl
          · rw [List.mem_singleton] at hx
            subst hx
            rw [getE_app]
            simp only [fieldE, hgA, Option.none_or, getE, if_true]
            rfl) (fun x hx => by
          rcases List.mem_append.1 hx with hx | hx
          · exact hA x hx
          · rw [List.mem_singleton] at hx; subst hx; rfl)
      refine ⟨O', w', e, s', r1, ?_, fun k => ?_⟩
      · rw [hd]
        simp only [fieldsS, c, Bool.true_and]
        rw [List.map_cons]
        rw [List.append_assoc, List.singleton_append] at r2
        split at r2
        · rename_i hff
          obtain ⟨q1, q2, q3, q4⟩ := r2
          rw [if_pos hff]
          refine ⟨q1, q2, .inl ?_, q4⟩
          rcases q3 with q3 | ⟨_, q3⟩ <;> omega
        · rename_i hff
          rw [if_neg hff]; exact r2
      have ih := ih k
      have e2 : ((i + 1 : Nat) : Int) = (i : Int) + 1 := by omega
      rw [e2] at ih
      rw [xK_loop, ← ih]
      generalize ACode.loop code99L0 = L
      generalize O.set (N + 2) (mObj keyF memF F') ++ [mObj .str .bool A] = H at hpO hAl hW hbO h181 h27 h103 hlk hup1 hm1 hs1 ⊢
      generalize O.set (N + 2) (mObj keyF memF F') ++ [mObj .str .bool (A ++ [(f.name, true)])] = H2 at hup1 hW2 hup2 hs1 hs2 hm2 ⊢
      generalize O.set (N + 2) (mObj keyF memF (F' ++ [fieldE u.name f])) ++ [mObj .str .bool (A ++ [(f.name, true)])] = H3 at hup2 hs2 ⊢
      simp (disch := omega) [-getElem?_pos, -getElem?_neg, -evExt, gz, gs, code99L0, h181, h27, h103, hlk, nltT, nltF, iltT, ileT, nleT, wrapI, hb, hpO, ht, ha, c1, c2, c3, c4, hup1, hup2, hm1, hm2, keyF, memF, UnitU.cells]
    · have hfl : fieldsS S A (u.fields.drop i) = false := by rw [hd]; simp only [fieldsS, Bool.and_eq_false_iff]; left; simpa using c
      rw [hfl]
      refine ⟨O.set (N + 2) (mObj keyF memF F') ++ [mObj .str .bool A], w, .ret, [(4, .val (.bool false))], hw, by simp, fun k => ?_⟩
      rw [xK_loop]
      generalize ACode.loop code99L0 = L
      generalize O.set (N + 2) (mObj keyF memF F') ++ [mObj .str .bool A] = H at hpO hAl hW hbO h181 h27 h103 hlk hm1 ⊢
      unfold fieldOk at c
      cases c1 : isName f.name with
      | false => simp (disch := omega) [-getElem?_pos, -getElem?_neg, -evExt, gz, gs, code99L0, h181, h27, h103, hlk, nltT, nltF, iltT, ileT, nleT, wrapI, hb, hpO, ht, ha, c1, UnitU.cells]
      | true =>
        cases c2 : isTy f.desc with
        | false => simp (disch := omega) [-getElem?_pos, -getElem?_neg, -evExt, gz, gs, code99L0, h181, h27, h103, hlk, nltT, nltF, iltT, ileT, nleT, wrapI, hb, hpO, ht, ha, c1, c2, UnitU.cells]
        | true =>
          cases c3 : thereS S f.desc with
          | false => simp (disch := omega) [-getElem?_pos, -getElem?_neg, -evExt, gz, gs, code99L0, h181, h27, h103, hlk, nltT, nltF, iltT, ileT, nleT, wrapI, hb, hpO, ht, ha, c1, c2, c3, UnitU.cells]
          | true =>
            cases c4 : (getE A f.name).getD false with
            | false => rw [c1, c2, c3, c4] at c; exact absurd rfl c
            | true => simp (disch := omega) [-getElem?_pos, -getElem?_neg, -evExt, gz, gs, code99L0, h181, h27, h103, hlk, nltT, nltF, iltT, ileT, nleT, wrapI, hb, hpO, ht, ha, c1, c2, c3, c4, UnitU.cells]
theorem mObj_set (h : World O N S F M V) : O.set (N + 2) (mObj keyF memF F) = O := by
  have := h.lt
  refine List.ext_getElem? fun i => ?_
  by_cases e : N + 2 = i
  · subst e; rw [List.getElem?_set, if_pos rfl, if_pos (by omega), h.m2]
  · rw [List.getElem?_set_ne e]
theorem s99 {u : UnitU} (hu : u.ok os) (hp : Pre os O) (hN : os.length ≤ N) (h : World O N S F M V) (hb : b ≤ N) (hF : ∀ x ∈ F, x.1.1 ≠ u.name) :
    ∃ O' w', min w (N + 2) ≤ w' ∧ (fieldsS S [] u.fields = true → ∃ X, O' = O.set (N + 2) (mObj keyF memF (F ++ u.fields.map (fieldE u.name))) ++ X) ∧
      xCall T 99 [.ptr (some (N, 0)), .agg u.cells] ⟨O, b, w⟩ = some (.bool (fieldsS S [] u.fields), ⟨O', b, w'⟩) := by
  have hl := h.lt
  obtain ⟨O', w', e, s', r1, r2, hk⟩ := l99 hu hp hN h hb u.fields.length 0 F [] O.length (by omega) (by omega) (fun x hx hn => absurd hn (hF x hx)) (fun _ h => by cases h)
  rw [mObj_set h] at hk
  have hm0 : mObj AVal.str AVal.bool [] = .map [] 0 := rfl
  simp only [Int.cast_ofNat_Int, List.drop_zero, hm0] at hk r2
  by_cases c : fieldsS S [] u.fields = true
  · rw [if_pos c] at r2
    obtain ⟨rfl, rfl, q3, X, q4⟩ := r2
    rw [c]
    rcases q3 with q3 | ⟨q3, q5⟩
    · refine ⟨O', min w w', by omega, fun _ => ⟨X, q4⟩, ?_⟩
      unfold UnitU.cells at hk ⊢
      simp (disch := omega) [-getElem?_pos, -getElem?_neg, gz, gs, xCallK t99, code99, hk, nltT]
    · refine ⟨O, w, by omega, fun _ => ⟨[], by rw [q3, List.map_nil, List.append_nil, List.append_nil, mObj_set h]⟩, ?_⟩
      unfold UnitU.cells at hk ⊢
      simp (disch := omega) [-getElem?_pos, -getElem?_neg, gz, gs, xCallK t99, code99, hk, nltF]
  · rw [if_neg c] at r2
    obtain ⟨rfl, rfl⟩ := r2
    have c' : fieldsS S [] u.fields = false := by simpa using c
    rw [c']
    refine ⟨if w' < O.length then O' else O, if w' < O.length then min w w' else w, by split <;> omega, by simp, ?_⟩
    unfold UnitU.cells at hk ⊢
    simp (disch := omega) [-getElem?_pos, -getElem?_neg, gz, gs, xCallK t99, code99, hk]
    split <;> rfl
end Go.Abs.AbsHier

/-
  Layer 16: are the names of a method there?
-/
namespace Go.Abs.AbsHier
set_option linter.unusedVariables false
set_option linter.unusedSimpArgs false
open Go.Abs.AbsDesc
set_option maxRecDepth 100000
set_option linter.unusedSimpArgs false
variable {os O : List AObj} {b w : Nat} {N : Nat} {S : List (Str × Str)} {F M : List (Key × Mem)} {V : List (Key × Bool)}
theorem methL_len {s : Str} {A : List Str} {r : Str} (h : methL s = some (A, r)) : A.length ≤ 16 ∧ r.length ≤ s.length ∧ ∀ t ∈ A, t.length ≤ s.length := by
  unfold methL at h
  split at h
  · split at h
    · rename_i A' r' hm
      split at h
      · cases h
        obtain ⟨h1, h2, h3⟩ := methA_len hm
        simp only [List.length_tail] at h2 h3
        exact ⟨h1, by simp only [List.length_tail]; omega, fun t ht => by have := h3 t ht; omega⟩
      · cases h
    · cases h
  · cases h
theorem l182 {H : List AObj} {L : List Str} {a : Option (Nat × Nat)} {c : Option Nat} {m : MethU} (h : World H N S F M V) (hR : Row H 1 strC L a) (hL : L.length ≤ 9223372036854775807) (ht : ∀ t ∈ L, t.length ≤ 9223372036854775807) :
    ∀ (j i : Nat) (w : Nat), i + j = L.length → ∀ (k : AExit → St → Option (AVal × Heap)),
    xK T (.loop code182L1) ⟨[(0, .val (.ptr (some (N, 0)))), (3, .var m.cells), (30, .val (.slice a L.length c)), (31, .val (.int .i64 L.length)), (32, .val (.int .i64 i))], ⟨H, b, w⟩⟩ (k := ⟨k⟩) =
      if (L.drop i).all (thereS S) then k (.exit 0) ⟨[(0, .val (.ptr (some (N, 0)))), (3, .var m.cells)], ⟨H, b, w⟩⟩ else k .ret ⟨[(4, .val (.bool false))], ⟨H, b, w⟩⟩
  | 0, i, w, hi, k => by
    rw [xK_loop, List.drop_of_length_le (by omega)]
    simp (disch := omega) [-getElem?_pos, -getElem?_neg, code182L1, iltF]
  | j + 1, i, w, hi, k => by
    obtain ⟨t, hx⟩ : ∃ t, L[i]? = some t := ⟨_, List.getElem?_eq_getElem (by omega)⟩
    obtain ⟨p, o, cs, rfl, hp, hpl, hcs, hv⟩ := row_at hR hx
    have hg : cs[o + i]? = some (.str t) := by
      have : (List.take 1 (List.drop (o + i * 1) cs))[0]? = some (.str t) := by rw [hv]; rfl
      simpa using this
    have hd : L.drop i = t :: L.drop (i + 1) := by
      have := lt_of_get hx
      rw [List.getElem?_eq_getElem this] at hx
      rw [List.drop_eq_getElem_cons this, Option.some.inj hx]
    have h103 := fun w => s103 (b := b) (w := w) h (t := t) (ht t (List.mem_of_getElem? hx))
    have ih := l182 (m := m) (c := c) h hR hL ht j (i + 1) w (by omega) k
    have e2 : ((i + 1 : Nat) : Int) = (i : Int) + 1 := by omega
    rw [e2] at ih
    rw [xK_loop, hd]
    simp only [List.all_cons]
    generalize ACode.loop code182L1 = L' at ih ⊢
    rcases Bool.eq_false_or_eq_true (thereS S t) with c1 | c1
    · simp (disch := omega) [-getElem?_pos, -getElem?_neg, gz, gs, code182L1, h103, iltT, ileT, nltT, nleT, wrapI, hp, hg, c1, ih]
    · simp (disch := omega) [-getElem?_pos, -getElem?_neg, gz, gs, code182L1, h103, iltT, ileT, nltT, nleT, wrapI, hp, hg, c1]
def trapOk (S : List (Str × Str)) (t : TrapU) : Bool := decide (t.cls = []) || (getE S t.cls).isSome
theorem l182t {H : List AObj} {L : List TrapU} {a : Option (Nat × Nat)} {c : Option Nat} (h : World H N S F M V) (hR : Row H 4 TrapU.cells L a) (hL : L.length ≤ 9223372036854775807) :
    ∀ (j i : Nat) (w : Nat), i + j = L.length → ∀ (k : AExit → St → Option (AVal × Heap)),
    xK T (.loop code182L0) ⟨[(0, .val (.ptr (some (N, 0)))), (42, .val (.slice a L.length c)), (43, .val (.int .i64 L.length)), (44, .val (.int .i64 i))], ⟨H, b, w⟩⟩ (k := ⟨k⟩) =
      if (L.drop i).all (trapOk S) then k (.exit 2) ⟨[], ⟨H, b, w⟩⟩ else k .ret ⟨[(4, .val (.bool false))], ⟨H, b, w⟩⟩
  | 0, i, w, hi, k => by
    rw [xK_loop, List.drop_of_length_le (by omega)]
    simp (disch := omega) [-getElem?_pos, -getElem?_neg, code182L0, iltF]
  | j + 1, i, w, hi, k => by
    obtain ⟨t, hx⟩ : ∃ t, L[i]? = some t := ⟨_, List.getElem?_eq_getElem (by omega)⟩
    obtain ⟨p, o, cs, rfl, hp, hpl, hcs, hv⟩ := row_at hR hx
    have hd : L.drop i = t :: L.drop (i + 1) := by
      have := lt_of_get hx
      rw [List.getElem?_eq_getElem this] at hx
      rw [List.drop_eq_getElem_cons this, Option.some.inj hx]
    have h54 := fun w => s54 (b := b) (w := w) h (c := t.cls)
    have ih := l182t (c := c) h hR hL j (i + 1) w (by omega) k
    have e2 : ((i + 1 : Nat) : Int) = (i : Int) + 1 := by omega
    rw [e2] at ih
    rw [xK_loop, hd]
    simp only [List.all_cons]
    generalize ACode.loop code182L0 = L' at ih ⊢
    unfold TrapU.cells at hv
    have ho : trapOk S t = (decide (t.cls = []) || (getE S t.cls).isSome) := rfl
    by_cases c0 : t.cls = []
    · have ho : trapOk S t = true := by rw [ho, c0]; rfl
      simp (disch := omega) [-getElem?_pos, -getElem?_neg, -List.all_eq_true, gz, gs, code182L0, iltT, ileT, nltT, nleT, wrapI, hp, hv, c0, ho, ih]
    · obtain ⟨x, c1⟩ | c1 : (∃ x, getE S t.cls = some x) ∨ getE S t.cls = none := by cases getE S t.cls <;> simp
      · have ho : trapOk S t = true := by rw [ho, c1]; simp
        simp (disch := omega) [-getElem?_pos, -getElem?_neg, -List.all_eq_true, gz, gs, code182L0, h54, iltT, ileT, nltT, nleT, wrapI, hp, hv, c0, c1, ho, ih]
      · have ho : trapOk S t = false := by rw [ho, c1]; simp [c0]
        simp (disch := omega) [-getElem?_pos, -getElem?_neg, -List.all_eq_true, gz, gs, code182L0, h54, iltT, ileT, nltT, nleT, wrapI, hp, hv, c0, c1, ho]
def rightS (S : List (Str × Str)) (m : MethU) : Bool := match methL m.desc with
  | some (A, r) => isName m.name && ((A ++ [r]).all (thereS S) && m.traps.all (trapOk S))
  | none => false
theorem s182 {m : MethU} (hm : m.ok O) (h : World O N S F M V) (hb : b ≤ O.length) : xCall T 182 [.ptr (some (N, 0)), .agg m.cells] ⟨O, b, w⟩ = some (.bool (rightS S m), ⟨O, b, w⟩) := by
  have hmd : m.desc.length ≤ 9223372036854775807 := hm.desc
  have h38 := fun w => s38 (os := O) (b := b) (w := w) (s := m.desc) hmd hb
  have hml : m.traps.length ≤ 9223372036854775807 := hm.tn
  unfold rightS
  cases hq : methL m.desc with
  | none =>
    rw [hq] at h38
    simp only [methV, methO] at h38
    unfold MethU.cells
    simp (disch := omega) [-getElem?_pos, -getElem?_neg, gz, gs, xCallK t182, code182, h38]
  | some q =>
    obtain ⟨A, r⟩ := q
    obtain ⟨q1, q2, q3⟩ := methL_len hq
    have h181 := fun w X (hX : b ≤ (O ++ X).length) => s181 (O := O ++ X) (b := b) (w := w) (s := m.name) hX
    simp only
    cases A with
    | nil =>
      rw [hq] at h38
      simp only [methV, methO] at h38
      have h181 := fun w => s181 (O := O) (b := b) (w := w) (s := m.name) hb
      have hl1 := fun w => l182 (b := b) (m := m) (c := none) (H := O ++ [.cells 1 [.str r], .cells 1 [.str r]]) (L := [r]) (a := some (O.length + 1, 0)) (h.app _)
        ⟨fun _ => ⟨_, _, _, rfl, by rw [get_k]; rfl, fun j x hx => by
          cases j with
          | zero => simp at hx; subst hx; simp [strC]
          | succ j => simp at hx⟩⟩ (by simp) (fun t ht => by simp at ht; subst ht; omega) 1 0 w rfl
      have hl2 := fun w => l182t (b := b) (c := m.tc) (H := O ++ [.cells 1 [.str r], .cells 1 [.str r]]) (a := m.ta) (h.app _) ((hm.pre (Pre.app _ _)).t) hml m.traps.length 0 w (by omega)
      simp only [Int.cast_ofNat_Int, List.drop_zero, List.length_singleton, List.length_cons, List.length_nil, Nat.zero_add, Int.natCast_one] at hl1 hl2
      simp only [List.nil_append]
      unfold MethU.cells at hl1 ⊢
      cases c0 : isName m.name with
      | false => simp (disch := omega) [-getElem?_pos, -getElem?_neg, gz, gs, -List.all_cons, -List.all_append, -List.all_eq_true, xCallK t182, code182, h38, h181, get_k, get_k0, set_k, set_k0, hb, c0, ]
      | true =>
        cases c1 : ([r] : List Str).all (thereS S) with
        | false =>
          simp only [c1, Bool.false_eq_true, if_false] at hl1
          simp (disch := omega) [-getElem?_pos, -getElem?_neg, gz, gs, -List.all_cons, -List.all_append, -List.all_eq_true, xCallK t182, code182, h38, h181, get_k, get_k0, set_k, set_k0, hb, c0, c1, hl1, ]
        | true =>
          simp only [c1, if_true] at hl1
          cases c2 : m.traps.all (trapOk S) with
          | false =>
            simp only [c2, Bool.false_eq_true, if_false] at hl2
            simp (disch := omega) [-getElem?_pos, -getElem?_neg, gz, gs, -List.all_cons, -List.all_append, -List.all_eq_true, xCallK t182, code182, h38, h181, get_k, get_k0, set_k, set_k0, hb, c0, c1, c2, hl1, hl2, ]
          | true =>
            simp only [c2, if_true] at hl2
            simp (disch := omega) [-getElem?_pos, -getElem?_neg, gz, gs, -List.all_cons, -List.all_append, -List.all_eq_true, xCallK t182, code182, h38, h181, get_k, get_k0, set_k, set_k0, hb, c0, c1, c2, hl1, hl2, ]
    | cons a A =>
      rw [hq] at h38
      simp only [methV, methO] at h38
      have h181 := fun w => s181 (O := O ++ [.cells 1 ((a :: A).map AVal.str)]) (b := b) (w := w) (s := m.name) (by simp; omega)
      have hAl : A.length + 1 ≤ 16 := by simpa using q1
      have hl1 := fun w => l182 (b := b) (m := m) (c := none) (H := O ++ [.dead, .cells 1 [.str r], .cells 1 ((a :: A).map AVal.str ++ [.str r])]) (L := a :: A ++ [r]) (a := some (O.length + 2, 0)) (h.app _)
        (Row.mk0 (fun _ => rfl) (by rw [get_k, List.flatMap_append, flat_strs]; rfl)) (by simp; omega) (fun t ht => by
          rcases List.mem_append.1 ht with ht | ht
          · have := q3 t ht; omega
          · simp at ht; subst ht; omega) (A.length + 2) 0 w (by simp)
      have hl2 := fun w => l182t (b := b) (c := m.tc) (H := O ++ [.dead, .cells 1 [.str r], .cells 1 ((a :: A).map AVal.str ++ [.str r])]) (a := m.ta) (h.app _) ((hm.pre (Pre.app _ _)).t) hml m.traps.length 0 w (by omega)
      simp only [Int.cast_ofNat_Int, List.drop_zero, List.length_append, List.length_cons, List.length_nil, Nat.add_assoc, Nat.reduceAdd] at hl1 hl2
      have hC : ((a :: A).map AVal.str).length = A.length + 1 := by simp
      have hT : ((a :: A).map AVal.str).take (A.length + 1) = (a :: A).map AVal.str := List.take_of_length_le (by simp)
      have z1 : (A.length + 2) * 16 ≤ 140737488355328 := by omega
      have z2 : A.length ≤ 9223372036854775805 := by omega
      have hi2 : ((A.length + 2 : Nat) : Int) = (A.length : Int) + 2 := by omega
      rw [hi2] at hl1
      generalize (a :: A).map AVal.str = C at h38 h181 hl1 hl2 hC hT
      generalize a :: A ++ [r] = L at hl1 ⊢
      unfold MethU.cells at hl1 ⊢
      cases c0 : isName m.name with
      | false => simp (disch := omega) [-getElem?_pos, -getElem?_neg, gz, gs, -List.all_cons, -List.all_append, -List.all_eq_true, xCallK t182, code182, h38, h181, get_k, get_k0, set_k, set_k0, hb, c0, hAl, hC, hT, z1, z2, nltT, nltF, Nat.add_assoc]
      | true =>
        cases c1 : L.all (thereS S) with
        | false =>
          simp only [c1, Bool.false_eq_true, if_false] at hl1
          simp (disch := omega) [-getElem?_pos, -getElem?_neg, gz, gs, -List.all_cons, -List.all_append, -List.all_eq_true, xCallK t182, code182, h38, h181, get_k, get_k0, set_k, set_k0, hb, c0, c1, hl1, hAl, hC, hT, z1, z2, nltT, nltF, Nat.add_assoc]
        | true =>
          simp only [c1, if_true] at hl1
          cases c2 : m.traps.all (trapOk S) with
          | false =>
            simp only [c2, Bool.false_eq_true, if_false] at hl2
            simp (disch := omega) [-getElem?_pos, -getElem?_neg, gz, gs, -List.all_cons, -List.all_append, -List.all_eq_true, xCallK t182, code182, h38, h181, get_k, get_k0, set_k, set_k0, hb, c0, c1, c2, hl1, hl2, hAl, hC, hT, z1, z2, nltT, nltF, Nat.add_assoc]
          | true =>
            simp only [c2, if_true] at hl2
            simp (disch := omega) [-getElem?_pos, -getElem?_neg, gz, gs, -List.all_cons, -List.all_append, -List.all_eq_true, xCallK t182, code182, h38, h181, get_k, get_k0, set_k, set_k0, hb, c0, c1, c2, hl1, hl2, hAl, hC, hT, z1, z2, nltT, nltF, Nat.add_assoc]
end Go.Abs.AbsHier

/-
  Layer 16: a unit's methods are put.
-/
namespace Go.Abs.AbsHier
set_option linter.unusedVariables false
set_option linter.unusedSimpArgs false
open Go.Abs.AbsDesc
set_option maxRecDepth 100000
set_option linter.unusedSimpArgs false
variable {os O : List AObj} {b w : Nat} {N : Nat} {S : List (Str × Str)} {F M : List (Key × Mem)} {V : List (Key × Bool)}
def methE (c : Str) (m : MethU) : Key × Mem := ((c, m.name, m.desc), ⟨c, m.st⟩)
def methOk (S : List (Str × Str)) (M : List (Key × Mem)) (c : Str) (m : MethU) : Bool := !(getE M (c, m.name, m.desc)).isSome && rightS S m
def methsS (S : List (Str × Str)) (c : Str) : List (Key × Mem) → List MethU → Bool
  | _, [] => true
  | M, m :: r => methOk S M c m && methsS S c (M ++ [methE c m]) r
theorem l100 {u : UnitU} (hu : u.ok os) (hp : Pre os O) (hN : os.length ≤ N) (h : World O N S F M V) (hb : b ≤ N) : ∀ (j i : Nat) (M' : List (Key × Mem)) (w : Nat), i + j = u.meths.length → N + 3 ≤ w →
    ∃ M2 w' e s', N + 3 ≤ w' ∧ (if methsS S u.name M' (u.meths.drop i) then e = .exit 0 ∧ s' = [] ∧ (w' ≤ N + 3 ∨ (u.meths.drop i = [] ∧ w' = w)) ∧ M2 = M' ++ (u.meths.drop i).map (methE u.name) else e = .ret ∧ s' = [(4, .val (.bool false))]) ∧
      ∀ (k : AExit → St → Option (AVal × Heap)),
      xK T (.loop code100L0) ⟨[(0, .val (.ptr (some (N, 0)))), (3, .var u.cells), (11, .val (.slice u.ma u.meths.length u.mc)), (12, .val (.int .i64 u.meths.length)), (13, .val (.int .i64 i))],
        ⟨O.set (N + 3) (mObj keyF memF M'), b, w⟩⟩ (k := ⟨k⟩) = k e ⟨s', ⟨O.set (N + 3) (mObj keyF memF M2), b, w'⟩⟩
  | 0, i, M', w, hi, hw => by
    refine ⟨M', w, .exit 0, [], hw, ?_, fun k => ?_⟩
    · rw [List.drop_of_length_le (by omega)]
      simp only [methsS, if_true, List.map_nil, List.append_nil]
      exact ⟨trivial, trivial, .inr ⟨trivial, trivial⟩, trivial⟩
    · rw [xK_loop]
      simp (disch := omega) [-getElem?_pos, -getElem?_neg, code100L0, iltF]
  | j + 1, i, M', w, hi, hw => by
    obtain ⟨m, hm⟩ : ∃ m, u.meths[i]? = some m := ⟨_, List.getElem?_eq_getElem (by omega)⟩
    obtain ⟨p, o, cs, ha, hpp, hpl, hcs, ht⟩ := row_at hu.m hm
    have hmn : u.meths.length ≤ 9223372036854775807 := hu.mn
    have hd : u.meths.drop i = m :: u.meths.drop (i + 1) := by
      have := lt_of_get hm
      rw [List.getElem?_eq_getElem this] at hm
      rw [List.drop_eq_getElem_cons this, Option.some.inj hm]
    have hl := h.lt
    have hW := h.setM M'
    have hpO : (O.set (N + 3) (mObj keyF memF M'))[p]? = some (.cells 8 cs) := by
      rw [List.getElem?_set_ne (by omega)]; exact hp _ _ hpp
    have hbO : b ≤ (O.set (N + 3) (mObj keyF memF M')).length := by simp; omega
    have hmo : m.ok (O.set (N + 3) (mObj keyF memF M')) := (hu.mok m (List.mem_of_getElem? hm)).pre (hp.set _ (by omega))
    have h182 := fun w => s182 (b := b) (w := w) hmo hW hbO
    have hlk := fun w => lookup_ok (b := b) (w := w) (kn := .agg [.s, .s, .s]) (zero := .agg [.str [], .bool false]) keyKey hW.m3 (k := (u.name, m.name, m.desc)) rfl
    have hm1 := hW.w0
    have hml : m.cells.length = 8 := rfl
    have hup2 := fun w hg => upd_new (b := b) (w := w) (kn := .agg [.s, .s, .s]) keyKey hW.m3 (k := (u.name, m.name, m.desc)) ⟨u.name, m.st⟩ rfl (by omega) hg
    have hs2 : (O.set (N + 3) (mObj keyF memF M')).set (N + 3) (mObj keyF memF (M' ++ [((u.name, m.name, m.desc), ⟨u.name, m.st⟩)])) = O.set (N + 3) (mObj keyF memF (M' ++ [methE u.name m])) := by
      rw [List.set_set]; rfl
    simp only [hs2, keyF, memF] at hup2
    simp only [keyF] at hlk
    have hcm : m.cells = [.bool m.st, .str m.name, .str m.desc, .int .i64 m.stack, .int .i64 m.locals, .slice m.ca m.code.length m.cc, .slice m.ta m.traps.length m.tc, .slice m.xa m.maps.length m.xc] := rfl
    obtain ⟨y, hg⟩ | hg : (∃ y, getE M' (u.name, m.name, m.desc) = some y) ∨ getE M' (u.name, m.name, m.desc) = none := by cases getE M' (u.name, m.name, m.desc) <;> simp
    · rw [hg] at hlk
      simp only [Option.map_some, Option.getD_some, Option.isSome_some, memF] at hlk
      have hfl : methsS S u.name M' (u.meths.drop i) = false := by rw [hd]; simp [methsS, methOk, hg]
      rw [hfl]
      refine ⟨M', w, .ret, [(4, .val (.bool false))], hw, by simp, fun k => ?_⟩
      rw [xK_loop]
      generalize ACode.loop code100L0 = L
      generalize O.set (N + 3) (mObj keyF memF M') = H at hpO hW hbO h182 hlk hm1 ⊢
      rw [hcm] at h182 ht
      simp (disch := omega) [-getElem?_pos, -getElem?_neg, -evExt, gz, gs, code100L0, hlk, nltT, nltF, iltT, ileT, nleT, wrapI, hb, hpO, ht, ha, hm1, UnitU.cells]
    · rw [hg] at hlk
      have hup2 := fun w => hup2 w hg
      simp only [Option.map_none, Option.getD_none, Option.isSome_none] at hlk
      rcases Bool.eq_false_or_eq_true (rightS S m) with c | c
      · obtain ⟨M2, w', e, s', r1, r2, ih⟩ := l100 hu hp hN h hb j (i + 1) (M' ++ [methE u.name m]) (min w (N + 3)) (by omega) (by omega)
        refine ⟨M2, w', e, s', r1, ?_, fun k => ?_⟩
        · rw [hd]
          have c1 : methOk S M' u.name m = true := by simp [methOk, hg, c]
          simp only [methsS, c1, Bool.true_and]
          rw [List.map_cons]
          rw [List.append_assoc, List.singleton_append] at r2
          split at r2
          · rename_i hff
            obtain ⟨q1, q2, q3, q4⟩ := r2
            rw [if_pos hff]
            refine ⟨q1, q2, .inl ?_, q4⟩
            rcases q3 with q3 | ⟨_, q3⟩ <;> omega
          · rename_i hff
            rw [if_neg hff]; exact r2
        have ih := ih k
        have e2 : ((i + 1 : Nat) : Int) = (i : Int) + 1 := by omega
        rw [e2] at ih
        rw [xK_loop, ← ih]
        generalize ACode.loop code100L0 = L
        generalize O.set (N + 3) (mObj keyF memF M') = H at hpO hW hbO h182 hlk hm1 hup2 hs2 ⊢
        generalize O.set (N + 3) (mObj keyF memF (M' ++ [methE u.name m])) = H2 at hup2 hs2 ⊢
        rw [hcm] at h182 ht
        simp (disch := omega) [-getElem?_pos, -getElem?_neg, -evExt, gz, gs, code100L0, h182, hlk, hup2, c, nltT, nltF, iltT, ileT, nleT, wrapI, hb, hpO, ht, ha, hm1, UnitU.cells]
      · have hfl : methsS S u.name M' (u.meths.drop i) = false := by rw [hd]; simp [methsS, methOk, c]
        rw [hfl]
        refine ⟨M', w, .ret, [(4, .val (.bool false))], hw, by simp, fun k => ?_⟩
        rw [xK_loop]
        generalize ACode.loop code100L0 = L
        generalize O.set (N + 3) (mObj keyF memF M') = H at hpO hW hbO h182 hlk hm1 ⊢
        rw [hcm] at h182 ht
        simp (disch := omega) [-getElem?_pos, -getElem?_neg, -evExt, gz, gs, code100L0, h182, hlk, nltT, nltF, iltT, ileT, nleT, wrapI, hb, hpO, ht, ha, hm1, c, UnitU.cells]
theorem mObj_set3 (h : World O N S F M V) : O.set (N + 3) (mObj keyF memF M) = O := by
  have := h.lt
  refine List.ext_getElem? fun i => ?_
  by_cases e : N + 3 = i
  · subst e; rw [List.getElem?_set, if_pos rfl, if_pos (by omega), h.m3]
  · rw [List.getElem?_set_ne e]
theorem s100 {u : UnitU} (hu : u.ok os) (hp : Pre os O) (hN : os.length ≤ N) (h : World O N S F M V) (hb : b ≤ N) :
    ∃ O' w', min w (N + 3) ≤ w' ∧ (methsS S u.name M u.meths = true → O' = O.set (N + 3) (mObj keyF memF (M ++ u.meths.map (methE u.name)))) ∧
      xCall T 100 [.ptr (some (N, 0)), .agg u.cells] ⟨O, b, w⟩ = some (.bool (methsS S u.name M u.meths), ⟨O', b, w'⟩) := by
  have hl := h.lt
  obtain ⟨M2, w', e, s', r1, r2, hk⟩ := l100 hu hp hN h hb u.meths.length 0 M O.length (by omega) (by omega)
  rw [mObj_set3 h] at hk
  simp only [Int.cast_ofNat_Int, List.drop_zero] at hk r2
  by_cases c : methsS S u.name M u.meths = true
  · rw [if_pos c] at r2
    obtain ⟨rfl, rfl, q3, q4⟩ := r2
    rw [c]
    rcases q3 with q3 | ⟨q3, q5⟩
    · refine ⟨O.set (N + 3) (mObj keyF memF M2), min w w', by omega, fun _ => by rw [q4], ?_⟩
      unfold UnitU.cells at hk ⊢
      simp (disch := omega) [-getElem?_pos, -getElem?_neg, gz, gs, xCallK t100, code100, hk, nltT]
    · refine ⟨O, w, by omega, fun _ => by rw [q3, List.map_nil, List.append_nil, mObj_set3 h], ?_⟩
      unfold UnitU.cells at hk ⊢
      simp (disch := omega) [-getElem?_pos, -getElem?_neg, gz, gs, xCallK t100, code100, hk, nltF]
  · rw [if_neg c] at r2
    obtain ⟨rfl, rfl⟩ := r2
    have c' : methsS S u.name M u.meths = false := by simpa using c
    rw [c']
    generalize O.set (N + 3) (mObj keyF memF M2) = O2 at hk
    refine ⟨if w' < O.length then O2 else O, if w' < O.length then min w w' else w, by split <;> omega, by simp, ?_⟩
    unfold UnitU.cells at hk ⊢
    simp (disch := omega) [-getElem?_pos, -getElem?_neg, gz, gs, xCallK t100, code100, hk]
    split <;> rfl
end Go.Abs.AbsHier

/-
  Layer 16: the world without units.
-/
namespace Go.Abs.AbsHier
set_option linter.unusedVariables false
set_option linter.unusedSimpArgs false
open Go.Abs.AbsDesc
set_option maxRecDepth 100000
set_option linter.unusedSimpArgs false
variable {os O : List AObj} {b w : Nat} {N : Nat}
def sysT : Str := [115, 121, 115]
def throwT : Str := [84, 104, 114, 111, 119, 97, 98, 108, 101]
def faultsL : List Str := [[78, 117, 108, 108, 70, 97, 117, 108, 116], [66, 111, 117, 110, 100, 115, 70, 97, 117, 108, 116], [77, 97, 116, 104, 70, 97, 117, 108, 116], [67, 97, 115, 116, 70, 97, 117, 108, 116], [83, 105, 122, 101, 70, 97, 117, 108, 116], [83, 116, 111, 114, 101, 70, 97, 117, 108, 116]]
def natL : List (Str × Str) := [([112, 114, 105, 110, 116], [40, 73, 41, 86]), ([112, 114, 105, 110, 116, 76, 111, 110, 103], [40, 74, 41, 86]), ([112, 114, 105, 110, 116, 84, 101, 120, 116], [40, 91, 66, 41, 86]), ([97, 100, 100], [40, 91, 66, 41, 73]),
  ([103, 101, 116], [40, 73, 41, 91, 66]), ([115, 101, 116], [40, 73, 91, 66, 41, 86]), ([100, 101, 108], [40, 73, 41, 86]), ([99, 111, 117, 110, 116], [40, 41, 73])]
def builtS : List (Str × Str) := [(objectT, []), (throwT, objectT), (sysT, objectT)] ++ faultsL.map fun n => (n, throwT)
def builtM : List (Key × Mem) := natL.map fun x => ((sysT, x.1, x.2), ⟨sysT, true⟩)
def builtV : List (Key × Bool) := natL.map fun x => ((sysT, x.1, x.2), true)
theorem s179 {h : Heap} : xCall T 179 [] h = some (.agg (natL.flatMap fun x => [.str x.1, .str x.2]), h) := by
  obtain ⟨os, b, w⟩ := h
  simp [xCallK t179, code179, natL]
def S0 : List (Str × Str) := [(objectT, []), (throwT, objectT), (sysT, objectT)]
def fE (n : Str) : Str × Str := (n, throwT)
def nE (x : Str × Str) : Key × Mem := ((sysT, x.1, x.2), ⟨sysT, true⟩)
def vE (x : Str × Str) : Key × Bool := ((sysT, x.1, x.2), true)
def bO (os : List AObj) (S : List (Str × Str)) (M : List (Key × Mem)) (V : List (Key × Bool)) : List AObj :=
  os ++ [mObj .str .str S, mObj keyF memF [], mObj keyF memF M, mObj keyF .bool V, .cells 4 [.map (some os.length), .map (some (os.length + 1)), .map (some (os.length + 2)), .map (some (os.length + 3))]]
theorem faults_new : ∀ i, i < 6 → getE (S0 ++ (faultsL.take i).map fE) (faultsL.getD i []) = none := by decide +kernel
theorem nats_newM : ∀ i, i < 8 → getE ((natL.take i).map nE) (sysT, (natL.getD i ([], [])).1, (natL.getD i ([], [])).2) = none := by decide +kernel
theorem nats_newV : ∀ i, i < 8 → getE ((natL.take i).map vE) (sysT, (natL.getD i ([], [])).1, (natL.getD i ([], [])).2) = none := by decide +kernel
theorem take_next {α : Type} {L : List α} {i : Nat} {x : α} (h : L[i]? = some x) : L.take (i + 1) = L.take i ++ [x] := by
  rw [List.take_add_one, h]; rfl
theorem bO_upS {S : List (Str × Str)} {M : List (Key × Mem)} {V : List (Key × Bool)} {x y : Str} (hb : b ≤ os.length) (hg : getE S x = none) :
    evExt (.mapupd (.one .s)) [.map (some os.length), .str x, .str y] ⟨bO os S M V, b, w⟩ = some (.tuple [], ⟨bO os (S ++ [(x, y)]) M V, b, min w os.length⟩) := by
  have := upd_new (os := bO os S M V) (b := b) (w := w) (r := os.length) (A := S) (vf := AVal.str) (kn := .one .s) keyStr (by unfold bO; rw [get_k0]; rfl) (k := x) y rfl hb hg
  rw [this]
  unfold bO
  rw [set_k0]; rfl
theorem bO_upM {S : List (Str × Str)} {M : List (Key × Mem)} {V : List (Key × Bool)} {x : Str × Str} (hb : b ≤ os.length) (hg : getE M (sysT, x.1, x.2) = none) :
    evExt (.mapupd (.agg [.s, .s, .s])) [.map (some (os.length + 2)), .agg [.str sysT, .str x.1, .str x.2], .agg [.str sysT, .bool true]] ⟨bO os S M V, b, w⟩ = some (.tuple [], ⟨bO os S (M ++ [nE x]) V, b, min w (os.length + 2)⟩) := by
  have := upd_new (os := bO os S M V) (b := b) (w := w) (r := os.length + 2) (A := M) (vf := memF) (kn := .agg [.s, .s, .s]) keyKey (by unfold bO; rw [get_k]; rfl) (k := (sysT, x.1, x.2)) ⟨sysT, true⟩ rfl (by omega) hg
  rw [show AVal.agg [.str sysT, .str x.1, .str x.2] = keyF (sysT, x.1, x.2) from rfl, show AVal.agg [.str sysT, .bool true] = memF ⟨sysT, true⟩ from rfl, this]
  unfold bO
  rw [set_k]; rfl
theorem bO_upV {S : List (Str × Str)} {M : List (Key × Mem)} {V : List (Key × Bool)} {x : Str × Str} (hb : b ≤ os.length) (hg : getE V (sysT, x.1, x.2) = none) :
    evExt (.mapupd (.agg [.s, .s, .s])) [.map (some (os.length + 3)), .agg [.str sysT, .str x.1, .str x.2], .bool true] ⟨bO os S M V, b, w⟩ = some (.tuple [], ⟨bO os S M (V ++ [vE x]), b, min w (os.length + 3)⟩) := by
  have := upd_new (os := bO os S M V) (b := b) (w := w) (r := os.length + 3) (A := V) (vf := AVal.bool) (kn := .agg [.s, .s, .s]) keyKey (by unfold bO; rw [get_k]; rfl) (k := (sysT, x.1, x.2)) true rfl (by omega) hg
  rw [show AVal.agg [.str sysT, .str x.1, .str x.2] = keyF (sysT, x.1, x.2) from rfl, this]
  unfold bO
  rw [set_k]; rfl
theorem bO_w {S : List (Str × Str)} {M : List (Key × Mem)} {V : List (Key × Bool)} : (bO os S M V)[os.length + 4]? = some (.cells 4 [.map (some os.length), .map (some (os.length + 1)), .map (some (os.length + 2)), .map (some (os.length + 3))]) := by
  unfold bO; rw [get_k]; rfl
theorem l284a (hb : b ≤ os.length) : ∀ (j i : Nat) (w : Nat), i + j = 6 → os.length ≤ w → ∃ w', os.length ≤ w' ∧ ∀ (k : AExit → St → Option (AVal × Heap)),
    xK T (.loop code284L1) ⟨[(1, .val (.ptr (some (os.length + 4, 0)))), (14, .val (.agg (faultsL.map AVal.str))), (15, .val (.int .i64 i))], ⟨bO os (S0 ++ (faultsL.take i).map fE) [] [], b, w⟩⟩ (k := ⟨k⟩) =
      k (.exit 0) ⟨[(1, .val (.ptr (some (os.length + 4, 0))))], ⟨bO os (S0 ++ faultsL.map fE) [] [], b, w'⟩⟩
  | 0, i, w, hi, hw => by
    refine ⟨w, hw, fun k => ?_⟩
    have : i = 6 := by omega
    subst this
    rw [xK_loop, List.take_of_length_le (by decide)]
    simp (disch := omega) [-getElem?_pos, -getElem?_neg, code284L1, iltF]
  | j + 1, i, w, hi, hw => by
    obtain ⟨x, hx⟩ : ∃ x, faultsL[i]? = some x := ⟨_, List.getElem?_eq_getElem (show i < faultsL.length by rw [show faultsL.length = 6 from rfl]; omega)⟩
    have hn := faults_new i (by omega)
    rw [List.getD_eq_getElem?_getD, hx, Option.getD_some] at hn
    have hup := fun w => bO_upS (w := w) (M := []) (V := []) (y := throwT) hb hn
    have ht := take_next hx
    have e3 : S0 ++ (faultsL.take i).map fE ++ [(x, throwT)] = S0 ++ (faultsL.take (i + 1)).map fE := by rw [ht, List.map_append, List.append_assoc]; rfl
    rw [e3] at hup
    unfold throwT at hup
    obtain ⟨w', hw', ih⟩ := l284a hb j (i + 1) (min w os.length) (by omega) (by omega)
    refine ⟨w', hw', fun k => ?_⟩
    have ih := ih k
    have e2 : ((i + 1 : Nat) : Int) = (i : Int) + 1 := by omega
    rw [e2] at ih
    have hwo := bO_w (os := os) (S := S0 ++ (faultsL.take i).map fE) (M := []) (V := [])
    have hxs : (faultsL.map AVal.str)[i]? = some (.str x) := by rw [List.getElem?_map, hx]; rfl
    rw [xK_loop, ← ih]
    generalize ACode.loop code284L1 = L
    generalize faultsL.map AVal.str = fs at hxs ⊢
    generalize bO os (S0 ++ (faultsL.take i).map fE) [] [] = H at hup hwo ⊢
    generalize bO os (S0 ++ (faultsL.take (i + 1)).map fE) [] [] = H2 at hup ⊢
    simp (disch := omega) [-getElem?_pos, -getElem?_neg, -evExt, gz, gs, code284L1, hup, hwo, hxs, iltT, ileT, nltT, nltF, nleT, wrapI]
theorem l284b {S : List (Str × Str)} (hb : b ≤ os.length) : ∀ (j i : Nat) (w : Nat), i + j = 8 → os.length ≤ w → ∃ w', os.length ≤ w' ∧ ∀ (k : AExit → St → Option (AVal × Heap)),
    xK T (.loop code284L0) ⟨[(1, .val (.ptr (some (os.length + 4, 0)))), (24, .val (.agg (natL.flatMap fun x => [.str x.1, .str x.2]))), (25, .val (.int .i64 i))], ⟨bO os S ((natL.take i).map nE) ((natL.take i).map vE), b, w⟩⟩ (k := ⟨k⟩) =
      k (.exit 2) ⟨[(1, .val (.ptr (some (os.length + 4, 0))))], ⟨bO os S (natL.map nE) (natL.map vE), b, w'⟩⟩
  | 0, i, w, hi, hw => by
    refine ⟨w, hw, fun k => ?_⟩
    have : i = 8 := by omega
    subst this
    rw [xK_loop, List.take_of_length_le (by decide)]
    simp (disch := omega) [-getElem?_pos, -getElem?_neg, code284L0, iltF]
  | j + 1, i, w, hi, hw => by
    obtain ⟨x, hx⟩ : ∃ x, natL[i]? = some x := ⟨_, List.getElem?_eq_getElem (show i < natL.length by rw [show natL.length = 8 from rfl]; omega)⟩
    have hn := nats_newM i (by omega)
    rw [List.getD_eq_getElem?_getD, hx, Option.getD_some] at hn
    have hn2 := nats_newV i (by omega)
    rw [List.getD_eq_getElem?_getD, hx, Option.getD_some] at hn2
    have hup := fun w => bO_upM (w := w) (S := S) (V := (natL.take i).map vE) hb hn
    have hup2 := fun w => bO_upV (w := w) (S := S) (M := (natL.take (i + 1)).map nE) hb hn2
    have ht := take_next hx
    have e3 : (natL.take i).map nE ++ [nE x] = (natL.take (i + 1)).map nE := by rw [ht, List.map_append]; rfl
    have e4 : (natL.take i).map vE ++ [vE x] = (natL.take (i + 1)).map vE := by rw [ht, List.map_append]; rfl
    rw [e3] at hup
    rw [e4] at hup2
    unfold sysT at hup hup2
    obtain ⟨w', hw', ih⟩ := l284b (S := S) hb j (i + 1) (min (min w (os.length + 2)) (os.length + 3)) (by omega) (by omega)
    refine ⟨w', hw', fun k => ?_⟩
    have ih := ih k
    have e2 : ((i + 1 : Nat) : Int) = (i : Int) + 1 := by omega
    rw [e2] at ih
    have hwo := bO_w (os := os) (S := S) (M := (natL.take i).map nE) (V := (natL.take i).map vE)
    have hwo2 := bO_w (os := os) (S := S) (M := (natL.take (i + 1)).map nE) (V := (natL.take i).map vE)
    obtain ⟨hx1, hx2⟩ := flat_at (fun x : Str × Str => [AVal.str x.1, AVal.str x.2]) 2 (fun _ => rfl) natL i x hx
    have hln : (natL.flatMap fun x : Str × Str => [AVal.str x.1, AVal.str x.2]).length = 16 := rfl
    rw [xK_loop, ← ih]
    generalize ACode.loop code284L0 = L
    generalize (natL.flatMap fun x : Str × Str => [AVal.str x.1, AVal.str x.2]) = fs at hx1 hx2 hln ⊢
    generalize bO os S ((natL.take i).map nE) ((natL.take i).map vE) = H at hup hwo ⊢
    generalize bO os S ((natL.take (i + 1)).map nE) ((natL.take i).map vE) = H2 at hup hup2 hwo2 ⊢
    generalize bO os S ((natL.take (i + 1)).map nE) ((natL.take (i + 1)).map vE) = H3 at hup2 ⊢
    simp (disch := omega) [-getElem?_pos, -getElem?_neg, -evExt, gz, gs, code284L0, hup, hup2, hwo, hwo2, hx2, iltT, ileT, nltT, nltF, nleT, wrapI]
theorem ents_ids {κ ν : Type} {kf : κ → AVal} {vf : ν → AVal} (hk : ∀ k, (kf k).ids = []) (hv : ∀ v, (vf v).ids = []) : ∀ (A : List (κ × ν)) (i : Nat), ((ents kf vf i A).flatMap fun (k, v, _) => k.ids ++ v.ids) = []
  | [], _ => rfl
  | x :: A, i => by simp only [ents, List.flatMap_cons, hk, hv, ents_ids hk hv A (i + 1), List.append_nil]
theorem ents_ren {κ ν : Type} {kf : κ → AVal} {vf : ν → AVal} {f : Nat → Nat} (hk : ∀ k, (kf k).ren f = kf k) (hv : ∀ v, (vf v).ren f = vf v) : ∀ (A : List (κ × ν)) (i : Nat), ((ents kf vf i A).map fun (k, v, b) => (k.ren f, v.ren f, b)) = ents kf vf i A
  | [], _ => rfl
  | x :: A, i => by simp only [ents, List.map_cons, hk, hv, ents_ren hk hv A (i + 1)]
theorem mObj_ids {κ ν : Type} {kf : κ → AVal} {vf : ν → AVal} (hk : ∀ k, (kf k).ids = []) (hv : ∀ v, (vf v).ids = []) (A : List (κ × ν)) : (mObj kf vf A).ids = [] := by
  simp only [mObj, AObj.ids]; exact ents_ids hk hv A 0
theorem mObj_ren {κ ν : Type} {kf : κ → AVal} {vf : ν → AVal} {f : Nat → Nat} (hk : ∀ k, (kf k).ren f = kf k) (hv : ∀ v, (vf v).ren f = vf v) (A : List (κ × ν)) : (mObj kf vf A).ren f = mObj kf vf A := by
  simp only [mObj, AObj.ren, ents_ren hk hv A 0]
theorem idsS (A : List (Str × Str)) : (mObj AVal.str AVal.str A).ids = [] := mObj_ids (fun _ => rfl) (fun _ => rfl) A
theorem idsM (A : List (Key × Mem)) : (mObj keyF memF A).ids = [] := mObj_ids (fun _ => rfl) (fun _ => rfl) A
theorem idsV (A : List (Key × Bool)) : (mObj keyF AVal.bool A).ids = [] := mObj_ids (fun _ => rfl) (fun _ => rfl) A
theorem renS (f : Nat → Nat) (A : List (Str × Str)) : (mObj AVal.str AVal.str A).ren f = mObj AVal.str AVal.str A := mObj_ren (fun _ => rfl) (fun _ => rfl) A
theorem renM (f : Nat → Nat) (A : List (Key × Mem)) : (mObj keyF memF A).ren f = mObj keyF memF A := mObj_ren (fun _ => rfl) (fun _ => rfl) A
theorem renV (f : Nat → Nat) (A : List (Key × Bool)) : (mObj keyF AVal.bool A).ren f = mObj keyF AVal.bool A := mObj_ren (fun _ => rfl) (fun _ => rfl) A
def wO (os : List AObj) (S : List (Str × Str)) (F M : List (Key × Mem)) (V : List (Key × Bool)) : List AObj :=
  os ++ [.cells 4 [.map (some (os.length + 1)), .map (some (os.length + 2)), .map (some (os.length + 3)), .map (some (os.length + 4))], mObj .str .str S, mObj keyF memF F, mObj keyF memF M, mObj keyF .bool V]
theorem wO_world (os : List AObj) (S : List (Str × Str)) (F M : List (Key × Mem)) (V : List (Key × Bool)) : World (wO os S F M V) os.length S F M V := by
  unfold wO
  constructor
  · rw [get_k0]; rfl
  · rw [get_k]; rfl
  · rw [get_k]; rfl
  · rw [get_k]; rfl
  · rw [get_k]; rfl
theorem built_fin {S : List (Str × Str)} {M : List (Key × Mem)} {V : List (Key × Bool)} {w2 : Nat} (hw : os.length ≤ w2) :
    finish ⟨os, b, w⟩ (.ptr (some (os.length + 4, 0))) ⟨bO os S M V, b, w2⟩ = (.ptr (some (os.length, 0)), ⟨wO os S [] M V, b, w⟩) := by
  have g4 := bO_w (os := os) (S := S) (M := M) (V := V)
  have g0 : (bO os S M V)[os.length]? = some (mObj .str .str S) := by unfold bO; rw [get_k0]; rfl
  have g1 : (bO os S M V)[os.length + 1]? = some (mObj keyF memF []) := by unfold bO; rw [get_k]; rfl
  have g2 : (bO os S M V)[os.length + 2]? = some (mObj keyF memF M) := by unfold bO; rw [get_k]; rfl
  have g3 : (bO os S M V)[os.length + 3]? = some (mObj keyF .bool V) := by unfold bO; rw [get_k]; rfl
  have idsC : ∀ e cs, (AObj.cells e cs).ids = AVal.idsL cs := fun _ _ => rfl
  have renC : ∀ (f : Nat → Nat) e cs, (AObj.cells e cs).ren f = .cells e (AVal.renL f cs) := fun _ _ _ => rfl
  have hr : reach ⟨bO os S M V, b, w2⟩ os.length 1000 [os.length + 4] [] = [os.length + 4, os.length, os.length + 1, os.length + 2, os.length + 3] := by
    simp (disch := omega) [-getElem?_pos, -getElem?_neg, -AObj.ids, reach_step, reach_done, nltF, g0, g1, g2, g3, g4, idsS, idsM, idsV, idsC]
  have hv : AVal.under os.length (.ptr (some (os.length + 4, 0))) = false := by simp [AVal.under]
  have hw2 : (⟨os, b, w⟩ : Heap).size ≤ (⟨bO os S M V, b, w2⟩ : Heap).wmin := hw
  refine (finish_keep hw2 hv hr fun i hi => ?_).trans ?_
  · simp (disch := omega) only [AVal.ids, List.flatMap_cons, List.flatMap_nil, List.map_cons, Heap.get, g0, g1, g2, g3, g4, idsS, idsM, idsV, idsC, Option.map_some, Option.getD_some, List.cons_append, List.nil_append, List.append_nil, AVal.idsL, List.mem_cons, List.not_mem_nil, or_false] at hi ⊢
    omega
  · simp (disch := omega) [-getElem?_pos, -getElem?_neg, -AObj.ids, -AObj.ren, nltF, g0, g1, g2, g3, g4, renS, renM, renV, renC, wO]
theorem s284 (hb : b ≤ os.length) : xCall T 284 [] ⟨os, b, w⟩ = some (.ptr (some (os.length, 0)), ⟨wO os builtS [] builtM builtV, b, w⟩) := by
  obtain ⟨w1, hw1, hk1⟩ := l284a (os := os) hb 6 0 os.length rfl (Nat.le_refl _)
  have e1 : S0 ++ faultsL.map fE = builtS := rfl
  rw [e1] at hk1
  obtain ⟨w2, hw2, hk2⟩ := l284b (os := os) (S := builtS) hb 8 0 w1 rfl hw1
  simp only [Int.cast_ofNat_Int, List.take_zero, List.map_nil, List.append_nil] at hk1 hk2
  have g0 : (bO os builtS (natL.map nE) (natL.map vE)) = bO os builtS builtM builtV := rfl
  rw [g0] at hk2
  have hfin := built_fin (b := b) (w := w) (S := builtS) (M := builtM) (V := builtV) hw2
  have h179 := fun h => s179 (h := h)
  generalize hH1 : bO os builtS [] [] = H1 at hk1 hk2
  generalize (natL.flatMap fun x : Str × Str => [AVal.str x.1, AVal.str x.2]) = fs at hk2 h179
  have hS0 : bO os S0 [] [] = os ++ [.map [(.str [79, 98, 106, 101, 99, 116], .str [], 0), (.str [84, 104, 114, 111, 119, 97, 98, 108, 101], .str [79, 98, 106, 101, 99, 116], 1), (.str [115, 121, 115], .str [79, 98, 106, 101, 99, 116], 2)] 3, .map [] 0, .map [] 0, .map [] 0,
    .cells 4 [.map (some os.length), .map (some (os.length + 1)), .map (some (os.length + 2)), .map (some (os.length + 3))]] := rfl
  have hfl : faultsL.map AVal.str = [.str [78, 117, 108, 108, 70, 97, 117, 108, 116], .str [66, 111, 117, 110, 100, 115, 70, 97, 117, 108, 116], .str [77, 97, 116, 104, 70, 97, 117, 108, 116], .str [67, 97, 115, 116, 70, 97, 117, 108, 116], .str [83, 105, 122, 101, 70, 97, 117, 108, 116], .str [83, 116, 111, 114, 101, 70, 97, 117, 108, 116]] := rfl
  rw [hS0, hfl] at hk1
  simp (disch := omega) [-getElem?_pos, -getElem?_neg, -finish, gz, gs, xCallK t284, code284, hk1, hk2, hfin, h179, get_k, get_k0, set_k, set_k0, hb, findA, akey, akey1, isKey, CK.is, Nat.add_assoc]
end Go.Abs.AbsHier

/-
  Layer 16: a world of units.
-/
namespace Go.Abs.AbsHier
set_option linter.unusedVariables false
set_option linter.unusedSimpArgs false
open Go.Abs.AbsDesc
set_option maxRecDepth 100000
set_option linter.unusedSimpArgs false
variable {os O : List AObj} {b w : Nat} {N : Nat} {S : List (Str × Str)} {F M : List (Key × Mem)} {V : List (Key × Bool)}
theorem idsC (e : Nat) (cs : List AVal) : (AObj.cells e cs).ids = AVal.idsL cs := rfl
theorem renC (f : Nat → Nat) (e : Nat) (cs : List AVal) : (AObj.cells e cs).ren f = .cells e (AVal.renL f cs) := rfl
theorem world_fin (h : World O os.length S F M V) (w0 : Nat) {w2 : Nat} (hw : os.length ≤ w2) :
    finish ⟨os, b, w0⟩ (.tuple [.ptr (some (os.length, 0)), .int .i64 0]) ⟨O, b, w2⟩ = (.tuple [.ptr (some (os.length, 0)), .int .i64 0], ⟨wO os S F M V, b, w0⟩) := by
  have g0 := h.w0
  have g1 := h.m1
  have g2 := h.m2
  have g3 := h.m3
  have g4 := h.m4
  have hr : reach ⟨O, b, w2⟩ os.length 1000 [os.length] [] = [os.length, os.length + 1, os.length + 2, os.length + 3, os.length + 4] := by
    simp (disch := omega) [-getElem?_pos, -getElem?_neg, -AObj.ids, reach_step, reach_done, nltF, g0, g1, g2, g3, g4, idsS, idsM, idsV, idsC]
  have hv : AVal.under os.length (.tuple [.ptr (some (os.length, 0)), .int .i64 0]) = false := by simp [AVal.under]
  have hw2 : (⟨os, b, w0⟩ : Heap).size ≤ (⟨O, b, w2⟩ : Heap).wmin := hw
  refine (finish_keep hw2 hv hr fun i hi => ?_).trans ?_
  · simp (disch := omega) only [AVal.ids, List.flatMap_cons, List.flatMap_nil, List.map_cons, Heap.get, g0, g1, g2, g3, g4, idsS, idsM, idsV, idsC, Option.map_some, Option.getD_some, List.cons_append, List.nil_append, List.append_nil, AVal.idsL, List.mem_cons, List.not_mem_nil, or_false] at hi ⊢
    omega
  · simp (disch := omega) [-getElem?_pos, -getElem?_neg, -AObj.ids, -AObj.ren, nltF, g0, g1, g2, g3, g4, renS, renM, renV, renC, wO]
def superOk (S : List (Str × Str)) (u : UnitU) : Bool := !(getE S u.name).isSome && isClass u.name && !decide (u.super = sysT)
def supersS : List (Str × Str) → List UnitU → Option (List (Str × Str))
  | S, [] => some S
  | S, u :: r => if superOk S u then supersS (S ++ [(u.name, u.super)]) r else none
theorem wO_upS {x y : Str} (hb : b ≤ os.length) (hg : getE S x = none) :
    evExt (.mapupd (.one .s)) [.map (some (os.length + 1)), .str x, .str y] ⟨wO os S F M V, b, w⟩ = some (.tuple [], ⟨wO os (S ++ [(x, y)]) F M V, b, min w (os.length + 1)⟩) := by
  have := upd_new (os := wO os S F M V) (b := b) (w := w) (r := os.length + 1) (A := S) (vf := AVal.str) (kn := .one .s) keyStr (wO_world os S F M V).m1 (k := x) y rfl (by omega) hg
  rw [this]
  unfold wO
  rw [set_k]; rfl
theorem wO_pre (os : List AObj) (S : List (Str × Str)) (F M : List (Key × Mem)) (V : List (Key × Bool)) : Pre os (wO os S F M V) := Pre.app _ _
theorem l49a {l : List UnitU} {a : Option (Nat × Nat)} {c : Option Nat} (hR : Row os 4 UnitU.cells l a) (hl : l.length ≤ 32) (hb : b ≤ os.length) : ∀ (j i : Nat) (S : List (Str × Str)) (w : Nat), i + j = l.length → os.length ≤ w →
    ∃ S' w' e s', os.length ≤ w' ∧ (match supersS S (l.drop i) with
      | some S2 => S' = S2 ∧ e = .exit 0 ∧ s' = [(0, .val (.slice a l.length c)), (4, .val (.ptr (some (os.length, 0))))]
      | none => e = .ret ∧ s' = [(2, .val (.ptr none)), (3, .val (.int .i64 15))]) ∧ ∀ (k : AExit → St → Option (AVal × Heap)),
      xK T (.loop code49L2) ⟨[(0, .val (.slice a l.length c)), (4, .val (.ptr (some (os.length, 0)))), (15, .val (.slice a l.length c)), (16, .val (.int .i64 l.length)), (17, .val (.int .i64 i))], ⟨wO os S F M V, b, w⟩⟩ (k := ⟨k⟩) =
      k e ⟨s', ⟨wO os S' F M V, b, w'⟩⟩
  | 0, i, S, w, hi, hw => by
    refine ⟨S, w, .exit 0, [(0, .val (.slice a l.length c)), (4, .val (.ptr (some (os.length, 0))))], hw, ?_, fun k => ?_⟩
    · rw [List.drop_of_length_le (by omega)]
      exact ⟨rfl, rfl, rfl⟩
    · rw [xK_loop]
      simp (disch := omega) [-getElem?_pos, -getElem?_neg, code49L2, iltF]
  | j + 1, i, S, w, hi, hw => by
    obtain ⟨u, hu⟩ : ∃ u, l[i]? = some u := ⟨_, List.getElem?_eq_getElem (by omega)⟩
    obtain ⟨p, o, cs, rfl, hpp, hpl, hcs, ht⟩ := row_at hR hu
    have hd : l.drop i = u :: l.drop (i + 1) := by
      have := lt_of_get hu
      rw [List.getElem?_eq_getElem this] at hu
      rw [List.drop_eq_getElem_cons this, Option.some.inj hu]
    have hW := wO_world os S F M V
    have hpO := wO_pre os S F M V _ _ hpp
    have hbO : b ≤ (wO os S F M V).length := by simp [wO]; omega
    have h54 := fun w => s54 (b := b) (w := w) hW (c := u.name)
    have h25 := fun w => s25 (os := wO os S F M V) (b := b) (w := w) (s := u.name) hbO
    have hup := fun w hg => wO_upS (S := S) (F := F) (M := M) (V := V) (w := w) (x := u.name) (y := u.super) hb hg
    have hw0 := hW.w0
    have hcu : u.cells = [.str u.name, .str u.super, .slice u.fa u.fields.length u.fc, .slice u.ma u.meths.length u.mc] := rfl
    rw [hcu] at ht
    rw [hd]
    rcases Bool.eq_false_or_eq_true (superOk S u) with c0 | c0
    · have hc := c0
      unfold superOk sysT at hc
      simp only [Bool.and_eq_true, Bool.not_eq_true', decide_eq_false_iff_not] at hc
      obtain ⟨⟨c1, c2⟩, c3⟩ := hc
      have hg : getE S u.name = none := by simpa using c1
      have hup := fun w => hup w hg
      obtain ⟨S', w', e, s', r1, r2, ih⟩ := l49a (c := c) hR hl hb j (i + 1) (S ++ [(u.name, u.super)]) (min w (os.length + 1)) (by omega) (by omega)
      refine ⟨S', w', e, s', r1, by simp only [supersS, c0, if_true]; exact r2, fun k => ?_⟩
      have ih := ih k
      have e2 : ((i + 1 : Nat) : Int) = (i : Int) + 1 := by omega
      rw [e2] at ih
      rw [xK_loop, ← ih]
      generalize ACode.loop code49L2 = L
      generalize wO os (S ++ [(u.name, u.super)]) F M V = H2 at hup ⊢
      generalize wO os S F M V = H at hpO h54 h25 hup hw0 ⊢
      simp (disch := omega) [-getElem?_pos, -getElem?_neg, -evExt, gz, gs, code49L2, h54, h25, hup, hw0, nltT, nltF, iltT, ileT, nleT, wrapI, hpO, ht, hg, c2, c3]
    · refine ⟨S, w, .ret, [(2, .val (.ptr none)), (3, .val (.int .i64 15))], hw, by simp only [supersS, c0]; exact ⟨trivial, trivial⟩, fun k => ?_⟩
      unfold superOk sysT at c0
      rw [xK_loop]
      generalize ACode.loop code49L2 = L
      generalize wO os S F M V = H at hpO h54 h25 hw0 ⊢
      cases c1 : (getE S u.name).isSome with
      | true => simp (disch := omega) [-getElem?_pos, -getElem?_neg, -evExt, gz, gs, code49L2, h54, h25, hw0, nltT, nltF, iltT, ileT, nleT, wrapI, hpO, ht, c1]
      | false =>
        cases c2 : isClass u.name with
        | false => simp (disch := omega) [-getElem?_pos, -getElem?_neg, -evExt, gz, gs, code49L2, h54, h25, hw0, nltT, nltF, iltT, ileT, nleT, wrapI, hpO, ht, c1, c2]
        | true =>
          by_cases c3 : u.super = [115, 121, 115]
          · simp (disch := omega) [-getElem?_pos, -getElem?_neg, -evExt, gz, gs, code49L2, h54, h25, hw0, nltT, nltF, iltT, ileT, nleT, wrapI, hpO, ht, c1, c2, c3]
          · rw [c1, c2, decide_eq_false c3] at c0; cases c0
def unitOk (S : List (Str × Str)) (M : List (Key × Mem)) (u : UnitU) : Bool := endsS S u.name && fieldsS S [] u.fields && methsS S u.name M u.meths
def membersS (S : List (Str × Str)) : List (Key × Mem) → List (Key × Mem) → List UnitU → Option (List (Key × Mem) × List (Key × Mem))
  | F, M, [] => some (F, M)
  | F, M, u :: r => if unitOk S M u then membersS S (F ++ u.fields.map (fieldE u.name)) (M ++ u.meths.map (methE u.name)) r else none
theorem l49b {l : List UnitU} {a : Option (Nat × Nat)} {c : Option Nat} (hR : Row os 4 UnitU.cells l a) (hok : ∀ u ∈ l, u.ok os) (hl : l.length ≤ 32) (hb : b ≤ os.length) (hS : S.length ≤ 9223372036854775807) (hnd : (l.map UnitU.name).Nodup) :
    ∀ (j i : Nat) (O : List AObj) (F M : List (Key × Mem)) (w : Nat), i + j = l.length → os.length ≤ w → World O os.length S F M V → Pre os O → (∀ x ∈ F, ∀ u ∈ l.drop i, x.1.1 ≠ u.name) →
    ∃ O' w' e s', os.length ≤ w' ∧ (match membersS S F M (l.drop i) with
      | some q => World O' os.length S q.1 q.2 V ∧ Pre os O' ∧ e = .exit 2 ∧ s' = [(0, .val (.slice a l.length c)), (4, .val (.ptr (some (os.length, 0))))]
      | none => e = .ret ∧ s' = [(2, .val (.ptr none)), (3, .val (.int .i64 15))]) ∧ ∀ (k : AExit → St → Option (AVal × Heap)),
      xK T (.loop code49L1) ⟨[(0, .val (.slice a l.length c)), (4, .val (.ptr (some (os.length, 0)))), (45, .val (.slice a l.length c)), (46, .val (.int .i64 l.length)), (47, .val (.int .i64 i))], ⟨O, b, w⟩⟩ (k := ⟨k⟩) =
      k e ⟨s', ⟨O', b, w'⟩⟩
  | 0, i, O, F, M, w, hi, hw, h, hp, hF => by
    refine ⟨O, w, .exit 2, [(0, .val (.slice a l.length c)), (4, .val (.ptr (some (os.length, 0))))], hw, ?_, fun k => ?_⟩
    · rw [List.drop_of_length_le (by omega)]
      exact ⟨h, hp, rfl, rfl⟩
    · rw [xK_loop]
      simp (disch := omega) [-getElem?_pos, -getElem?_neg, code49L1, iltF]
  | j + 1, i, O, F, M, w, hi, hw, h, hp, hF => by
    obtain ⟨u, hu⟩ : ∃ u, l[i]? = some u := ⟨_, List.getElem?_eq_getElem (by omega)⟩
    obtain ⟨p, o, cs, rfl, hpp, hpl, hcs, ht⟩ := row_at hR hu
    have huo := hok u (List.mem_of_getElem? hu)
    have hd : l.drop i = u :: l.drop (i + 1) := by
      have := lt_of_get hu
      rw [List.getElem?_eq_getElem this] at hu
      rw [List.drop_eq_getElem_cons this, Option.some.inj hu]
    have hlt := h.lt
    have hpO := hp _ _ hpp
    have h98 := fun w => s98 (b := b) (w := w) h (by omega) hS (c := u.name)
    obtain ⟨O1, w1, hw1, h99a, h99⟩ := s99 (w := w) huo hp (Nat.le_refl _) h hb (fun x hx => hF x hx u (by rw [hd]; exact List.mem_cons_self ..))
    have hcu : u.cells = [.str u.name, .str u.super, .slice u.fa u.fields.length u.fc, .slice u.ma u.meths.length u.mc] := rfl
    rw [hcu] at ht h99
    rw [hd]
    rcases Bool.eq_false_or_eq_true (endsS S u.name) with c1 | c1
    · rcases Bool.eq_false_or_eq_true (fieldsS S [] u.fields) with c2 | c2
      · obtain ⟨X, rfl⟩ := h99a c2
        have h1 := (h.setF (F ++ u.fields.map (fieldE u.name))).app X
        have hp1 : Pre os (O.set (os.length + 2) (mObj keyF memF (F ++ u.fields.map (fieldE u.name))) ++ X) := (hp.set _ (by omega)).trans (Pre.app _ _)
        obtain ⟨O2, w2, hw2, h100a, h100⟩ := s100 (w := w1) huo hp1 (Nat.le_refl _) h1 hb
        rw [hcu] at h100
        rcases Bool.eq_false_or_eq_true (methsS S u.name M u.meths) with c3 | c3
        · have e3 := h100a c3
          have h2 := h1.setM (M ++ u.meths.map (methE u.name))
          have hp2 : Pre os O2 := by rw [e3]; exact hp1.set _ (by omega)
          rw [← e3] at h2
          obtain ⟨O', w', e, s', r1, r2, ih⟩ := l49b (c := c) hR hok hl hb hS hnd j (i + 1) O2 (F ++ u.fields.map (fieldE u.name)) (M ++ u.meths.map (methE u.name)) w2 (by omega) (by omega) h2 hp2 (fun x hx v hv => by
            rcases List.mem_append.1 hx with hx | hx
            · exact hF x hx v (by rw [hd]; exact List.mem_cons_of_mem _ hv)
            · obtain ⟨f, hf, rfl⟩ := List.mem_map.1 hx
              intro e
              have hnd2 : ((l.drop i).map UnitU.name).Nodup := by rw [List.map_drop]; exact hnd.sublist (List.drop_sublist _ _)
              rw [hd, List.map_cons, List.nodup_cons] at hnd2
              exact hnd2.1 (by rw [show u.name = v.name from e]; exact List.mem_map_of_mem hv))
          have c4 : unitOk S M u = true := by simp [unitOk, c1, c2, c3]
          refine ⟨O', w', e, s', r1, by simp only [membersS, c4, if_true]; exact r2, fun k => ?_⟩
          have ih := ih k
          have e2 : ((i + 1 : Nat) : Int) = (i : Int) + 1 := by omega
          rw [e2] at ih
          rw [xK_loop, ← ih]
          generalize ACode.loop code49L1 = L
          generalize O.set (os.length + 2) (mObj keyF memF (F ++ u.fields.map (fieldE u.name))) ++ X = H1 at h99 h100
          simp (disch := omega) [-getElem?_pos, -getElem?_neg, -evExt, gz, gs, code49L1, h98, nltT, nltF, iltT, ileT, nleT, wrapI, hpO, ht, h99, h100, c1, c2, c3]
        · have c4 : unitOk S M u = false := by simp [unitOk, c3]
          refine ⟨O2, w2, .ret, [(2, .val (.ptr none)), (3, .val (.int .i64 15))], by omega, by simp only [membersS, c4]; exact ⟨trivial, trivial⟩, fun k => ?_⟩
          rw [xK_loop]
          generalize ACode.loop code49L1 = L
          generalize O.set (os.length + 2) (mObj keyF memF (F ++ u.fields.map (fieldE u.name))) ++ X = H1 at h99 h100
          simp (disch := omega) [-getElem?_pos, -getElem?_neg, -evExt, gz, gs, code49L1, h98, nltT, nltF, iltT, ileT, nleT, wrapI, hpO, ht, h99, h100, c1, c2, c3]
      · have c4 : unitOk S M u = false := by simp [unitOk, c2]
        refine ⟨O1, w1, .ret, [(2, .val (.ptr none)), (3, .val (.int .i64 15))], by omega, by simp only [membersS, c4]; exact ⟨trivial, trivial⟩, fun k => ?_⟩
        rw [xK_loop]
        generalize ACode.loop code49L1 = L
        simp (disch := omega) [-getElem?_pos, -getElem?_neg, -evExt, gz, gs, code49L1, h98, nltT, nltF, iltT, ileT, nleT, wrapI, hpO, ht, h99, c1, c2]
    · have c4 : unitOk S M u = false := by simp [unitOk, c1]
      refine ⟨O, w, .ret, [(2, .val (.ptr none)), (3, .val (.int .i64 15))], hw, by simp only [membersS, c4]; exact ⟨trivial, trivial⟩, fun k => ?_⟩
      rw [xK_loop]
      generalize ACode.loop code49L1 = L
      simp (disch := omega) [-getElem?_pos, -getElem?_neg, -evExt, gz, gs, code49L1, h98, nltT, nltF, iltT, ileT, nleT, wrapI, hpO, ht, c1]
end Go.Abs.AbsHier

/-
  Layer 16: New.
-/
namespace Go.Abs.AbsHier
set_option linter.unusedVariables false
set_option linter.unusedSimpArgs false
open Go.Abs.AbsDesc
set_option maxRecDepth 100000
set_option linter.unusedSimpArgs false
variable {os O : List AObj} {b w : Nat} {N : Nat} {S : List (Str × Str)} {F M : List (Key × Mem)} {V : List (Key × Bool)}
theorem l49c {l : List UnitU} {a : Option (Nat × Nat)} {c : Option Nat} (hR : Row os 4 UnitU.cells l a) (hok : ∀ u ∈ l, u.ok os) (hl : l.length ≤ 32) (hb : b ≤ os.length) (hS : S.length ≤ 9223372036854775807)
    (h : World O os.length S F M V) (hp : Pre os O) : ∀ (j i : Nat) (w : Nat), i + j = l.length → ∀ (k : AExit → St → Option (AVal × Heap)),
      xK T (.loop code49L0) ⟨[(4, .val (.ptr (some (os.length, 0)))), (69, .val (.slice a l.length c)), (70, .val (.int .i64 l.length)), (71, .val (.int .i64 i))], ⟨O, b, w⟩⟩ (k := ⟨k⟩) =
      if (l.drop i).all (overS S M) then k (.exit 4) ⟨[(4, .val (.ptr (some (os.length, 0))))], ⟨O, b, w⟩⟩ else k .ret ⟨[(2, .val (.ptr none)), (3, .val (.int .i64 15))], ⟨O, b, w⟩⟩
  | 0, i, w, hi, k => by
    rw [xK_loop, List.drop_of_length_le (by omega)]
    simp (disch := omega) [-getElem?_pos, -getElem?_neg, code49L0, iltF]
  | j + 1, i, w, hi, k => by
    obtain ⟨u, hu⟩ : ∃ u, l[i]? = some u := ⟨_, List.getElem?_eq_getElem (by omega)⟩
    obtain ⟨p, o, cs, rfl, hpp, hpl, hcs, ht⟩ := row_at hR hu
    have huo := hok u (List.mem_of_getElem? hu)
    have hd : l.drop i = u :: l.drop (i + 1) := by
      have := lt_of_get hu
      rw [List.getElem?_eq_getElem this] at hu
      rw [List.drop_eq_getElem_cons this, Option.some.inj hu]
    have hlt := h.lt
    have hpO := hp _ _ hpp
    have h97 := fun w => s97 (w := w) (b := b) (huo.pre hp) h (by omega) hS
    have hcu : u.cells = [.str u.name, .str u.super, .slice u.fa u.fields.length u.fc, .slice u.ma u.meths.length u.mc] := rfl
    rw [hcu] at ht h97
    have ih := l49c (c := c) hR hok hl hb hS h hp j (i + 1) w (by omega) k
    have e2 : ((i + 1 : Nat) : Int) = (i : Int) + 1 := by omega
    rw [e2] at ih
    rw [xK_loop, hd]
    simp only [List.all_cons]
    generalize ACode.loop code49L0 = L at ih ⊢
    rcases Bool.eq_false_or_eq_true (overS S M u) with c1 | c1
    · simp (disch := omega) [-getElem?_pos, -getElem?_neg, -List.all_eq_true, gz, gs, code49L0, h97, nltT, nltF, iltT, ileT, nleT, wrapI, hpO, ht, c1, ih]
    · simp (disch := omega) [-getElem?_pos, -getElem?_neg, -List.all_eq_true, gz, gs, code49L0, h97, nltT, nltF, iltT, ileT, nleT, wrapI, hpO, ht, c1]
def supE (u : UnitU) : Str × Str := (u.name, u.super)
theorem supersS_eq : ∀ {l : List UnitU} {S S2 : List (Str × Str)}, supersS S l = some S2 → S2 = S ++ l.map supE ∧ (l.map UnitU.name).Nodup ∧ ∀ u ∈ l, getE S u.name = none ∧ isClass u.name = true ∧ u.super ≠ sysT
  | [], S, S2, h => by simp only [supersS] at h; cases h; simp
  | u :: l, S, S2, h => by
    simp only [supersS] at h
    split at h
    case isFalse => cases h
    rename_i hu
    obtain ⟨h1, h2, h3⟩ := supersS_eq h
    unfold superOk at hu
    simp only [Bool.and_eq_true, Bool.not_eq_true', decide_eq_false_iff_not] at hu
    obtain ⟨⟨c1, c2⟩, c3⟩ := hu
    have hg : getE S u.name = none := by simpa using c1
    refine ⟨by rw [h1, List.append_assoc]; rfl, ?_, fun v hv => ?_⟩
    · rw [List.map_cons, List.nodup_cons]
      refine ⟨fun hm => ?_, h2⟩
      obtain ⟨v, hv, e⟩ := List.mem_map.1 hm
      have := (h3 v hv).1
      rw [getE_app, e, hg] at this
      simp [getE] at this
    · rcases List.mem_cons.1 hv with rfl | hv
      · exact ⟨hg, c2, c3⟩
      · obtain ⟨d1, d2, d3⟩ := h3 v hv
        rw [getE_app] at d1
        refine ⟨?_, d2, d3⟩
        cases hq : getE S v.name with
        | none => rfl
        | some y => rw [hq] at d1; cases d1
def worldS (l : List UnitU) : Option (List (Str × Str) × List (Key × Mem) × List (Key × Mem)) :=
  if l.length ≤ 32 then match supersS builtS l with
    | some S => match membersS S [] builtM l with
      | some q => if l.all (overS S q.2) then some (S, q.1, q.2) else none
      | none => none
    | none => none
  else none
def newV (N : Nat) : Option (List (Str × Str) × List (Key × Mem) × List (Key × Mem)) → AVal
  | none => .tuple [.ptr none, .int .i64 15]
  | some _ => .tuple [.ptr (some (N, 0)), .int .i64 0]
def newO (os : List AObj) : Option (List (Str × Str) × List (Key × Mem) × List (Key × Mem)) → List AObj
  | none => os
  | some q => wO os q.1 q.2.1 q.2.2 builtV
theorem fin_none {h0 h : Heap} (hw : h0.size ≤ h.wmin) : finish h0 (.tuple [.ptr none, .int .i64 15]) h = (.tuple [.ptr none, .int .i64 15], h0) := by
  unfold finish
  rw [if_neg (by omega)]
  simp [AVal.under, AVal.unders]
theorem s49 {l : List UnitU} {a : Option (Nat × Nat)} {c : Option Nat} (hR : Row os 4 UnitU.cells l a) (hok : ∀ u ∈ l, u.ok os) (hn : l.length ≤ 9223372036854775807) (hb : b ≤ os.length) :
    xCall T 49 [.slice a l.length c] ⟨os, b, w⟩ = some (newV os.length (worldS l), ⟨newO os (worldS l), b, w⟩) := by
  have h284 := fun w => s284 (os := os) (b := b) (w := w) hb
  have hlen : (wO os builtS [] builtM builtV).length = os.length + 5 := by simp [wO]
  unfold worldS
  by_cases hl : l.length ≤ 32
  · rw [if_pos hl]
    have hli : ¬ ((32 : Int) < l.length) := by omega
    obtain ⟨S1, w1, e1, s1, p1, p2, p3⟩ := l49a (F := []) (M := builtM) (V := builtV) (c := c) hR hl hb l.length 0 builtS os.length (by omega) (Nat.le_refl _)
    simp only [Int.cast_ofNat_Int, List.drop_zero] at p2 p3
    cases hs : supersS builtS l with
    | none =>
      rw [hs] at p2
      simp only at p2
      obtain ⟨rfl, rfl⟩ := p2
      have hf := fun X => fin_none (h0 := ⟨os, b, w⟩) (h := ⟨X, b, w1⟩) p1
      simp (disch := omega) [-getElem?_pos, -getElem?_neg, -finish, gz, gs, xCallK t49, code49, h284, p3, hl, hli, hf, newV, newO]
    | some S2 =>
      rw [hs] at p2
      simp only at p2
      obtain ⟨rfl, rfl, rfl⟩ := p2
      obtain ⟨q1, q2, q3⟩ := supersS_eq hs
      have hSl : S1.length ≤ 9223372036854775807 := by rw [q1]; simp [builtS, faultsL]; omega
      obtain ⟨O2, w2, e2, s2, r1, r2, r3⟩ := l49b (V := builtV) (c := c) hR hok hl hb hSl q2 l.length 0 (wO os S1 [] builtM builtV) [] builtM w1 (by omega) p1 (wO_world _ _ _ _ _) (wO_pre _ _ _ _ _) (fun _ h => by cases h)
      simp only [Int.cast_ofNat_Int, List.drop_zero] at r2 r3
      simp only
      cases hm : membersS S1 [] builtM l with
      | none =>
        rw [hm] at r2
        simp only at r2
        obtain ⟨rfl, rfl⟩ := r2
        have hf := fun X => fin_none (h0 := ⟨os, b, w⟩) (h := ⟨X, b, w2⟩) r1
        simp (disch := omega) [-getElem?_pos, -getElem?_neg, -finish, gz, gs, xCallK t49, code49, h284, p3, r3, hl, hli, hf, newV, newO]
      | some q =>
        obtain ⟨F2, M2⟩ := q
        rw [hm] at r2
        simp only at r2
        obtain ⟨hW, hP, rfl, rfl⟩ := r2
        have h3 := fun w => l49c (b := b) (c := c) hR hok hl hb hSl hW hP l.length 0 w (by omega)
        simp only [Int.cast_ofNat_Int, List.drop_zero] at h3
        simp only
        rcases Bool.eq_false_or_eq_true (l.all (overS S1 M2)) with c0 | c0
        · rw [c0] at h3 ⊢
          simp only [if_true] at h3 ⊢
          have hf := world_fin (b := b) hW w r1
          simp (disch := omega) [-getElem?_pos, -getElem?_neg, -finish, gz, gs, xCallK t49, code49, h284, p3, r3, h3, hl, hli, hf, newV, newO]
        · rw [c0] at h3 ⊢
          simp only [Bool.false_eq_true, if_false] at h3 ⊢
          have hf := fun X => fin_none (h0 := ⟨os, b, w⟩) (h := ⟨X, b, w2⟩) r1
          simp (disch := omega) [-getElem?_pos, -getElem?_neg, -finish, gz, gs, xCallK t49, code49, h284, p3, r3, h3, hl, hli, hf, newV, newO]
  · rw [if_neg hl]
    have hli : (32 : Int) < l.length := by omega
    simp (disch := omega) [-getElem?_pos, -getElem?_neg, gz, gs, xCallK t49, code49, h284, hl, hli, newV, newO]
end Go.Abs.AbsHier

/-
  Units that come in.
-/
namespace Go.Abs
set_option linter.unusedVariables false
set_option linter.unusedSimpArgs false
def FieldU.fits (x : FieldU) : Prop := x.name.length ≤ reachB ∧ x.desc.length ≤ reachB
def InsU.fits (x : InsU) : Prop := x.cls.length ≤ reachB ∧ x.name.length ≤ reachB ∧ x.desc.length ≤ reachB ∧ x.text.length ≤ reachB
def TrapU.fits (x : TrapU) : Prop := x.cls.length ≤ reachB
structure MapU.fits (x : MapU) : Prop where
  l : x.locals.length ≤ reachB
  s : x.stack.length ≤ reachB
  ls : ∀ t ∈ x.locals, t.length ≤ reachB
  ss : ∀ t ∈ x.stack, t.length ≤ reachB
structure MethU.fits (m : MethU) : Prop where
  name : m.name.length ≤ reachB
  desc : m.desc.length ≤ reachB
  c : m.code.length ≤ reachB
  cs : ∀ x ∈ m.code, x.fits
  t : m.traps.length ≤ reachB
  ts : ∀ x ∈ m.traps, x.fits
  x : m.maps.length ≤ reachB
  xs : ∀ x ∈ m.maps, x.fits
structure UnitU.cap (u : UnitU) : Prop where
  f : ∀ k, u.fc = some k → u.fields.length ≤ k
  m : ∀ k, u.mc = some k → u.meths.length ≤ k
structure UnitU.fits (u : UnitU) : Prop where
  name : u.name.length ≤ reachB
  super : u.super.length ≤ reachB
  f : u.fields.length ≤ reachB
  fs : ∀ x ∈ u.fields, x.fits
  m : u.meths.length ≤ reachB
  ms : ∀ x ∈ u.meths, x.fits
  cap : u.cap
section
variable {os : List AObj} {b w : Nat} {d : Dat} {cs : List AVal}
theorem under_of {n m : Nat} {a : Option (Nat × Nat)} (h : ∀ i o, a = some (i, o) → i < n) (hm : n ≤ m) : under m a := fun i o e => Nat.lt_of_lt_of_le (h i o e) hm
end
end Go.Abs

/-
  Units that are made: a tape, a writer's memory.
-/
namespace Go.Abs.AbsMake
set_option linter.unusedVariables false
set_option linter.unusedSimpArgs false
open Go.Abs.AbsDesc Go.Abs.AbsHier
set_option maxRecDepth 100000
set_option linter.unusedSimpArgs false
variable {os O B : List AObj} {b w : Nat}
def tapeO (tv : AVal) (p : Nat) : AObj := .cells 2 [tv, .int .i64 p]
structure Tape (O : List AObj) (tN : Nat) (tb : List UInt8) (tv : AVal) (p : Nat) : Prop where
  at' : O[tN]? = some (tapeO tv p)
  le : p ≤ tb.length
  small : tb.length ≤ 1000
structure TapeV (O : List AObj) (tN : Nat) (tb : List UInt8) (tv : AVal) : Prop where
  row : ∃ a c, tv = .slice a tb.length c ∧ Row O 1 byteCell tb a ∧ ∀ i o, a = some (i, o) → i ≠ tN
theorem set_same {O : List AObj} {i : Nat} {o : AObj} (h : O[i]? = some o) : O.set i o = O := by
  refine List.ext_getElem? fun j => ?_
  by_cases e : i = j
  · subst e; rw [List.getElem?_set, if_pos rfl, if_pos (lt_of_get h), h]
  · rw [List.getElem?_set_ne e]
theorem s102 {tN p : Nat} {tb : List UInt8} {tv : AVal} (ht : Tape O tN tb tv p) (hv : TapeV O tN tb tv) (hb : b ≤ tN) {n : Int} (hn : 1 ≤ n) (hn2 : n ≤ 1000) :
    ∃ (r p' : Nat) (nx : Nat → Nat), (r : Int) < n ∧ p' ≤ tb.length ∧ ((∀ w, nx w = w) ∨ (∀ w, nx w = min w tN)) ∧ ∀ w, xCall T 102 [.ptr (some (tN, 0)), .int .i64 n] ⟨O, b, w⟩ = some (.int .i64 r, ⟨O.set tN (tapeO tv p'), b, nx w⟩) := by
  obtain ⟨a, c, rfl, hr, hd⟩ := hv.row
  have h0 := ht.at'
  have hle := ht.le
  have hsm := ht.small
  have hl := lt_of_get h0
  unfold tapeO at h0
  by_cases c1 : n < 2
  · refine ⟨0, p, id, by omega, hle, .inl fun w => rfl, fun w => ?_⟩
    rw [set_same ht.at']
    simp (disch := omega) [-getElem?_pos, -getElem?_neg, -List.all_eq_true, gz, gs, nltT, nltF, iltT, iltF, ileT, nleT, wrapI, xCallK t102, code102, c1]
  · by_cases c2 : tb.length ≤ p
    · refine ⟨0, p, id, by omega, hle, .inl fun w => rfl, fun w => ?_⟩
      rw [set_same ht.at']
      simp (disch := omega) [-getElem?_pos, -getElem?_neg, -List.all_eq_true, gz, gs, nltT, nltF, iltT, iltF, ileT, nleT, wrapI, xCallK t102, code102, c1, h0, c2]
    · obtain ⟨x, hx⟩ : ∃ x, tb[p]? = some x := ⟨_, List.getElem?_eq_getElem (by omega)⟩
      obtain ⟨q, o, cs, ha, hp, hpl, hcs, hcv⟩ := row_at hr hx
      subst ha
      have hq : q ≠ tN := hd q o rfl
      have hv2 : cs[o + p]? = some (.int .u8 x.toNat) := by
        have hv' : (List.drop (o + p * 1) cs).take 1 = [.int .u8 x.toNat] := hcv
        have := congrArg (fun z => z[0]?) hv'
        simpa [List.getElem?_take, List.getElem?_drop] using this
      have hxl := x.toNat_lt
      have hm : ((x.toNat : Int).tmod n).toNat < n := by
        rw [Int.tmod_eq_emod_of_nonneg (by omega)]
        have := Int.emod_lt_of_pos (x.toNat : Int) (show 0 < n by omega)
        have := Int.emod_nonneg (x.toNat : Int) (show n ≠ 0 by omega)
        omega
      have hm2 : (((x.toNat : Int).tmod n).toNat : Int) = (x.toNat : Int).tmod n := by
        rw [Int.tmod_eq_emod_of_nonneg (by omega)]
        have := Int.emod_nonneg (x.toNat : Int) (show n ≠ 0 by omega)
        omega
      have hp2 : ∀ y, (O.set tN y)[q]? = some (.cells 1 cs) := fun y => by rw [List.getElem?_set_ne (Ne.symm hq)]; exact hp
      have ht2 : ∀ y, (O.set tN y)[tN]? = some y := fun y => by rw [List.getElem?_set, if_pos rfl, if_pos hl]
      have e2 : ((p + 1 : Nat) : Int) = (p : Int) + 1 := by omega
      have n0 : ¬ n = 0 := by omega
      refine ⟨((x.toNat : Int).tmod n).toNat, p + 1, fun w => min w tN, hm, by omega, .inr fun w => rfl, fun w => ?_⟩
      rw [hm2]
      unfold tapeO
      rw [e2]
      simp (disch := omega) [-getElem?_pos, -getElem?_neg, -List.all_eq_true, gz, gs, nltT, nltF, iltT, iltF, ileT, nleT, wrapI, xCallK t102, code102, c1, h0, c2, hb, hp2, ht2, hv2, n0]
structure Own {α : Type} (O : List AObj) (N e : Nat) (f : α → List AVal) (L : List α) (p : Option (Nat × Nat)) (c : Option Nat) : Prop where
  some : ∀ i o, p = some (i, o) → o = 0 ∧ c = Option.none ∧ N < i ∧ O[i]? = some (.cells e (L.flatMap f))
  none : p = Option.none → L = [] ∧ c = Option.some 0
def classesT : List Str := [[], throwT, [77, 97, 116, 104, 70, 97, 117, 108, 116], [79, 111, 112, 115], [78, 117, 108, 108, 70, 97, 117, 108, 116]]
structure InsU.short (x : InsU) : Prop where
  cls : x.cls.length ≤ 100
  name : x.name.length ≤ 100
  desc : x.desc.length ≤ 100
  text : x.text.length ≤ 100
structure Leaf (O : List AObj) (N : Nat) (pc pt px : Option (Nat × Nat)) (L : List Str) (a : Option (Nat × Nat)) : Prop where
  row : Row O 1 strC L a
  len : L.length ≤ 100
  short : ∀ t ∈ L, t.length ≤ 100
  at' : ∀ i o, a = some (i, o) → N < i ∧ i < O.length ∧ (∀ o', pc ≠ some (i, o')) ∧ (∀ o', pt ≠ some (i, o')) ∧ (∀ o', px ≠ some (i, o'))
def wrO (tN : Nat) (pc pt px : Option (Nat × Nat)) (cc ct cx : Option Nat) (n nt nx : Nat) (dep bud : Int) : AObj :=
  .cells 6 [.ptr (some (tN, 0)), .slice pc n cc, .slice pt nt ct, .slice px nx cx, .int .i64 dep, .int .i64 bud]
structure Wr (tN : Nat) (tb : List UInt8) (tv : AVal) (B O : List AObj) (pc pt px : Option (Nat × Nat)) (cc ct cx : Option Nat) (C : List InsU) (S : List TrapU) (M : List MapU) (dep bud : Int) : Prop where
  keep : ∀ i, i < B.length → i ≠ tN → O[i]? = B[i]?
  tape : ∃ p, Tape O tN tb tv p
  tv : TapeV B tN tb tv
  lt : tN < B.length
  wr : O[B.length]? = some (wrO tN pc pt px cc ct cx C.length S.length M.length dep bud)
  c : Own O B.length 7 InsU.cells C pc cc
  s : Own O B.length 4 TrapU.cells S pt ct
  m : Own O B.length 3 MapU.cells M px cx
  cs : ∀ i o o', pc = some (i, o) → pt ≠ some (i, o')
  cm : ∀ i o o', pc = some (i, o) → px ≠ some (i, o')
  sm : ∀ i o o', pt = some (i, o) → px ≠ some (i, o')
  cok : ∀ x ∈ C, InsU.short x
  sok : ∀ x ∈ S, x.cls ∈ classesT
  mok : ∀ x ∈ M, Leaf O B.length pc pt px x.locals x.la ∧ Leaf O B.length pc pt px x.stack x.sa
structure Ws (tN : Nat) (tb : List UInt8) (tv : AVal) (B O : List AObj) (n k : Nat) (dep : Int) : Prop where
  ex : ∃ pc pt px cc ct cx C S M bud, Wr tN tb tv B O pc pt px cc ct cx C S M dep bud ∧ C.length = n ∧ n ≤ k ∧ S.length ≤ k ∧ M.length ≤ k
section
variable {tN : Nat} {tb : List UInt8} {tv : AVal} {pc pt px : Option (Nat × Nat)} {cc ct cx : Option Nat} {C : List InsU} {S : List TrapU} {M : List MapU} {dep bud : Int}
theorem Wr.len (h : Wr tN tb tv B O pc pt px cc ct cx C S M dep bud) : B.length < O.length := lt_of_get h.wr
theorem Leaf.app {N : Nat} {L : List Str} {a : Option (Nat × Nat)} (h : Leaf O N pc pt px L a) (X : List AObj) : Leaf (O ++ X) N pc pt px L a :=
  ⟨(Pre.app O X).row h.row, h.len, h.short, fun i o e => by
    obtain ⟨h1, h2, h3⟩ := h.at' i o e
    exact ⟨h1, by rw [List.length_append]; omega, h3⟩⟩
theorem Leaf.set {N j : Nat} {L : List Str} {a : Option (Nat × Nat)} {y : AObj} (h : Leaf O N pc pt px L a) (hj : ∀ o, a ≠ some (j, o)) : Leaf (O.set j y) N pc pt px L a :=
  ⟨⟨fun hne => by
    obtain ⟨i, o, cs, h1, h2, h3⟩ := h.row.at' hne
    exact ⟨i, o, cs, h1, by rw [List.getElem?_set_ne (fun e => hj o (by rw [e]; exact h1))]; exact h2, h3⟩⟩, h.len, h.short, fun i o e => by
    obtain ⟨h1, h2, h3⟩ := h.at' i o e
    exact ⟨h1, by simpa using h2, h3⟩⟩
theorem Leaf.npc {N : Nat} {L : List Str} {a : Option (Nat × Nat)} {q : Nat} (h : Leaf O N pc pt px L a) (hq : ∀ i o, a = some (i, o) → i < q) : Leaf O N (some (q, 0)) pt px L a :=
  ⟨h.row, h.len, h.short, fun i o e => by
    obtain ⟨h1, h2, h3, h4, h5⟩ := h.at' i o e
    exact ⟨h1, h2, fun o' e' => by have := hq i o e; simp only [Option.some.injEq, Prod.mk.injEq] at e'; omega, h4, h5⟩⟩
theorem Leaf.npt {N : Nat} {L : List Str} {a : Option (Nat × Nat)} {q : Nat} (h : Leaf O N pc pt px L a) (hq : ∀ i o, a = some (i, o) → i < q) : Leaf O N pc (some (q, 0)) px L a :=
  ⟨h.row, h.len, h.short, fun i o e => by
    obtain ⟨h1, h2, h3, h4, h5⟩ := h.at' i o e
    exact ⟨h1, h2, h3, fun o' e' => by have := hq i o e; simp only [Option.some.injEq, Prod.mk.injEq] at e'; omega, h5⟩⟩
theorem Leaf.npx {N : Nat} {L : List Str} {a : Option (Nat × Nat)} {q : Nat} (h : Leaf O N pc pt px L a) (hq : ∀ i o, a = some (i, o) → i < q) : Leaf O N pc pt (some (q, 0)) L a :=
  ⟨h.row, h.len, h.short, fun i o e => by
    obtain ⟨h1, h2, h3, h4, h5⟩ := h.at' i o e
    exact ⟨h1, h2, h3, h4, fun o' e' => by have := hq i o e; simp only [Option.some.injEq, Prod.mk.injEq] at e'; omega⟩⟩
def killO : Option (Nat × Nat) → List AObj → List AObj
  | none, O => O
  | some (i, _), O => O.set i .dead
def killW : Option (Nat × Nat) → Nat → Nat
  | none, w => w
  | some (i, _), w => min w i
@[simp] theorem killO_len (p : Option (Nat × Nat)) (O : List AObj) : (killO p O).length = O.length := by
  cases p with
  | none => rfl
  | some q => obtain ⟨i, o⟩ := q; simp [killO]
theorem killW_le (p : Option (Nat × Nat)) (w : Nat) : killW p w ≤ w := by
  cases p with
  | none => exact Nat.le_refl _
  | some q => obtain ⟨i, o⟩ := q; exact Nat.min_le_left ..
theorem app_own {α : Type} {e by' : Nat} {f : α → List AVal} {L : List α} {p : Option (Nat × Nat)} {c : Option Nat} {N : Nat} {x : α} (hf : ∀ y, (f y).length = e) (h : Own O N e f L p c) (hb : b ≤ N) (hl : (L.length + 1) * by' ≤ 140737488355328) (hl2 : L.length ≤ 1000000) (X : List AObj) (w : Nat) :
    aAppend e by' ⟨O ++ (X ++ [.cells e (f x)]), b, w⟩ (.slice p L.length c) (.slice (some (O.length + X.length, 0)) 1 (some 1)) =
      some (.slice (some (O.length + X.length + 1, 0)) (L.length + 1) none, ⟨killO p O ++ (X ++ [.cells e (f x), .cells e ((L ++ [x]).flatMap f)]), b, killW p w⟩) := by
  have hfl : (L.flatMap f).length = L.length * e := flat_len f e hf L
  have hz : rowOf e ⟨O ++ (X ++ [.cells e (f x)]), b, w⟩ (.slice (some (O.length + X.length, 0)) 1 (some 1)) = some (f x) :=
    rowOfC (by show (O ++ (X ++ [AObj.cells e (f x)]))[O.length + X.length]? = _; rw [get_k, get_k0]; rfl) (by rw [hf, Nat.one_mul])
  have hs : (O ++ (X ++ [AObj.cells e (f x)])).length = O.length + X.length + 1 := by simp; omega
  have he : (L ++ [x]).flatMap f = L.flatMap f ++ f x := by simp
  cases p with
  | none =>
    obtain ⟨rfl, rfl⟩ := h.none rfl
    unfold aAppend
    simp only [hz, List.length_nil, rowOf0, aApp, alen]
    have q1 : ¬ (1 : Nat) = 0 := by decide
    have q2 : (0 + 1) * by' ≤ 140737488355328 ∧ 0 + 1 ≤ 9223372036854775807 := ⟨by simpa using hl, by decide⟩
    simp only [eq_false q1, eq_true q2, if_false, if_true]
    simp [Heap.push, Heap.size, killO, killW]
    omega
  | some q =>
    obtain ⟨i, o⟩ := q
    obtain ⟨rfl, rfl, h3, h4⟩ := h.some i o rfl
    have hi := lt_of_get h4
    have h5 : (O ++ (X ++ [AObj.cells e (f x)]))[i]? = some (.cells e (L.flatMap f)) := by rw [List.getElem?_append_left hi]; exact h4
    have hz1 : rowOf e ⟨O ++ (X ++ [.cells e (f x)]), b, w⟩ (.slice (some (i, 0)) L.length none) = some (L.flatMap f) := rowOfC h5 hfl
    have hr : rowIs ⟨O ++ (X ++ [.cells e (f x)]), b, w⟩ i e = true := by
      unfold rowIs Heap.get
      simp only [h5]
      simp
    unfold aAppend
    simp only [hz, hz1, aApp, alen]
    have q1 : ¬ (1 : Nat) = 0 := by decide
    have q2 : (L.length + 1) * by' ≤ 140737488355328 ∧ L.length + 1 ≤ 9223372036854775807 := ⟨hl, by omega⟩
    have q3 : ¬ (none : Option Nat) = some L.length := by simp
    have q4 : (⟨O ++ (X ++ [AObj.cells e (f x)]), b, w⟩ : Heap).base ≤ i ∧ rowIs ⟨O ++ (X ++ [AObj.cells e (f x)]), b, w⟩ i e = true := ⟨by show b ≤ i; omega, hr⟩
    simp only [eq_false q1, eq_true q2, eq_false q3, eq_true q4, if_false, if_true]
    simp only [Heap.push, Heap.put, Heap.size, killO, killW, List.set_append_left _ _ hi, List.length_set, hs, he, List.append_assoc, List.cons_append, List.nil_append, List.length_append, List.length_cons, List.length_nil]
end
end Go.Abs.AbsMake

/-
  Units that are made: what a writer's acts leave.
-/
namespace Go.Abs.AbsMake
set_option linter.unusedVariables false
set_option linter.unusedSimpArgs false
open Go.Abs.AbsDesc Go.Abs.AbsHier
set_option maxRecDepth 100000
set_option linter.unusedSimpArgs false
variable {os O B : List AObj} {b w : Nat} {tN : Nat} {tb : List UInt8} {tv : AVal} {pc pt px : Option (Nat × Nat)} {cc ct cx : Option Nat} {C : List InsU} {S : List TrapU} {M : List MapU} {dep bud : Int}
section
variable {α : Type} {N e : Nat} {f : α → List AVal} {L : List α} {p : Option (Nat × Nat)} {c : Option Nat}
theorem Own.app (h : Own O N e f L p c) (X : List AObj) : Own (O ++ X) N e f L p c :=
  ⟨fun i o hp => by
    obtain ⟨h1, h2, h3, h4⟩ := h.some i o hp
    exact ⟨h1, h2, h3, by rw [List.getElem?_append_left (lt_of_get h4)]; exact h4⟩, h.none⟩
theorem Own.set (h : Own O N e f L p c) {j : Nat} (y : AObj) (hj : ∀ o, p ≠ Option.some (j, o)) : Own (O.set j y) N e f L p c :=
  ⟨fun i o hp => by
    obtain ⟨h1, h2, h3, h4⟩ := h.some i o hp
    exact ⟨h1, h2, h3, by rw [List.getElem?_set_ne (fun e => hj o (by rw [e]; exact hp))]; exact h4⟩, h.none⟩
theorem Own.kill (h : Own O N e f L p c) {q : Option (Nat × Nat)} (hq : ∀ i o o', q = Option.some (i, o) → p ≠ Option.some (i, o')) : Own (killO q O) N e f L p c := by
  cases q with
  | none => exact h
  | some r => obtain ⟨i, o⟩ := r; exact h.set _ fun o' => hq i o o' rfl
theorem Leaf.kill {L : List Str} {a : Option (Nat × Nat)} (h : Leaf O N pc pt px L a) {q : Option (Nat × Nat)} (hq : ∀ i o o', q = some (i, o) → a ≠ some (i, o')) : Leaf (killO q O) N pc pt px L a := by
  cases q with
  | none => exact h
  | some r => obtain ⟨i, o⟩ := r; exact h.set fun o' => hq i o o' rfl
theorem kill_get {q : Option (Nat × Nat)} {i : Nat} (hq : ∀ o, q ≠ some (i, o)) : (killO q O)[i]? = O[i]? := by
  cases q with
  | none => rfl
  | some r => obtain ⟨j, o⟩ := r; exact List.getElem?_set_ne fun e => hq o (by rw [e])
end
theorem Wr.setW (h : Wr tN tb tv B O pc pt px cc ct cx C S M dep bud) (dep' bud' : Int) : Wr tN tb tv B (O.set B.length (wrO tN pc pt px cc ct cx C.length S.length M.length dep' bud')) pc pt px cc ct cx C S M dep' bud' where
  keep := fun i hi ht => by rw [List.getElem?_set_ne (by omega)]; exact h.keep i hi ht
  tape := by
    obtain ⟨p, h1⟩ := h.tape
    exact ⟨p, by rw [List.getElem?_set_ne (by have := h.lt; omega)]; exact h1.at', h1.le, h1.small⟩
  tv := h.tv
  lt := h.lt
  wr := by rw [List.getElem?_set, if_pos rfl, if_pos h.len]
  c := h.c.set _ fun o e => by have := (h.c.some _ _ e).2.2.1; omega
  s := h.s.set _ fun o e => by have := (h.s.some _ _ e).2.2.1; omega
  m := h.m.set _ fun o e => by have := (h.m.some _ _ e).2.2.1; omega
  cs := h.cs
  cm := h.cm
  sm := h.sm
  cok := h.cok
  sok := h.sok
  mok := fun x hx => ⟨(h.mok x hx).1.set fun o e => by have := ((h.mok x hx).1.at' _ _ e).1; omega, (h.mok x hx).2.set fun o e => by have := ((h.mok x hx).2.at' _ _ e).1; omega⟩
theorem Wr.setT (h : Wr tN tb tv B O pc pt px cc ct cx C S M dep bud) {p : Nat} (hp : p ≤ tb.length) : Wr tN tb tv B (O.set tN (tapeO tv p)) pc pt px cc ct cx C S M dep bud where
  keep := fun i hi ht => by rw [List.getElem?_set_ne (by omega)]; exact h.keep i hi ht
  tape := by
    obtain ⟨q, h1⟩ := h.tape
    exact ⟨p, by rw [List.getElem?_set, if_pos rfl, if_pos (by have := h.lt; have := h.len; omega)], hp, h1.small⟩
  tv := h.tv
  lt := h.lt
  wr := by rw [List.getElem?_set_ne (by have := h.lt; omega)]; exact h.wr
  c := h.c.set _ fun o e => by have := (h.c.some _ _ e).2.2.1; have := h.lt; omega
  s := h.s.set _ fun o e => by have := (h.s.some _ _ e).2.2.1; have := h.lt; omega
  m := h.m.set _ fun o e => by have := (h.m.some _ _ e).2.2.1; have := h.lt; omega
  cs := h.cs
  cm := h.cm
  sm := h.sm
  cok := h.cok
  sok := h.sok
  mok := fun x hx => ⟨(h.mok x hx).1.set fun o e => by have := ((h.mok x hx).1.at' _ _ e).1; have := h.lt; omega, (h.mok x hx).2.set fun o e => by have := ((h.mok x hx).2.at' _ _ e).1; have := h.lt; omega⟩
theorem Wr.app (h : Wr tN tb tv B O pc pt px cc ct cx C S M dep bud) (X : List AObj) : Wr tN tb tv B (O ++ X) pc pt px cc ct cx C S M dep bud where
  keep := fun i hi ht => by have := h.len; rw [List.getElem?_append_left (by omega)]; exact h.keep i hi ht
  tape := by
    obtain ⟨p, h1⟩ := h.tape
    exact ⟨p, by rw [List.getElem?_append_left (lt_of_get h1.at')]; exact h1.at', h1.le, h1.small⟩
  tv := h.tv
  lt := h.lt
  wr := by rw [List.getElem?_append_left h.len]; exact h.wr
  c := h.c.app X
  s := h.s.app X
  m := h.m.app X
  cs := h.cs
  cm := h.cm
  sm := h.sm
  cok := h.cok
  sok := h.sok
  mok := fun x hx => ⟨(h.mok x hx).1.app X, (h.mok x hx).2.app X⟩
theorem Wr.addC (h : Wr tN tb tv B O pc pt px cc ct cx C S M dep bud) {x : InsU} (hx : InsU.short x) (X : List AObj) :
    Wr tN tb tv B ((killO pc O ++ (X ++ [AObj.cells 7 x.cells, AObj.cells 7 ((C ++ [x]).flatMap InsU.cells)])).set B.length (wrO tN (some (O.length + X.length + 1, 0)) pt px none ct cx (C.length + 1) S.length M.length dep bud)) (some (O.length + X.length + 1, 0)) pt px none ct cx (C ++ [x]) S M dep bud := by
  have hl := h.len
  have hlt := h.lt
  have hN : ∀ o, pc ≠ some (B.length, o) := fun o e => by have := (h.c.some _ _ e).2.2.1; omega
  have hw : ∀ Y, (killO pc O ++ Y)[B.length]? = some (wrO tN pc pt px cc ct cx C.length S.length M.length dep bud) := fun Y => by
    rw [List.getElem?_append_left (by simpa using hl), kill_get hN]; exact h.wr
  have hlen : ((killO pc O) ++ (X ++ [AObj.cells 7 x.cells, AObj.cells 7 ((C ++ [x]).flatMap InsU.cells)])).length = O.length + X.length + 2 := by simp; omega
  constructor
  · intro i hi ht
    rw [List.getElem?_set_ne (by omega), List.getElem?_append_left (by simp; omega), kill_get fun o e => by have := (h.c.some _ _ e).2.2.1; omega]
    exact h.keep i hi ht
  · obtain ⟨p, h1⟩ := h.tape
    exact ⟨p, by
      rw [List.getElem?_set_ne (by omega), List.getElem?_append_left (by simp; omega), kill_get fun o e => by have := (h.c.some _ _ e).2.2.1; omega]
      exact h1.at', h1.le, h1.small⟩
  · exact h.tv
  · exact h.lt
  · rw [List.getElem?_set, if_pos rfl, if_pos (by omega)]
    simp
  · refine ⟨fun i o e => ?_, fun e => by cases e⟩
    simp only [Option.some.injEq, Prod.mk.injEq] at e
    obtain ⟨rfl, rfl⟩ := e
    refine ⟨rfl, rfl, by omega, ?_⟩
    rw [List.getElem?_set_ne (by omega), List.getElem?_append_right (by simp; omega)]
    have : O.length + X.length + 1 - (killO pc O).length = X.length + 1 := by simp; omega
    rw [this, get_k]; rfl
  · exact ((h.s.kill fun i o o' e => h.cs i o o' e).app _).set _ fun o e => by have := (h.s.some _ _ e).2.2.1; omega
  · exact ((h.m.kill fun i o o' e => h.cm i o o' e).app _).set _ fun o e => by have := (h.m.some _ _ e).2.2.1; omega
  · intro i o o' e e'
    have := lt_of_get (h.s.some _ _ e').2.2.2
    simp only [Option.some.injEq, Prod.mk.injEq] at e
    omega
  · intro i o o' e e'
    have := lt_of_get (h.m.some _ _ e').2.2.2
    simp only [Option.some.injEq, Prod.mk.injEq] at e
    omega
  · exact h.sm
  · intro y hy
    rcases List.mem_append.1 hy with hy | hy
    · exact h.cok y hy
    · rw [List.mem_singleton.1 hy]; exact hx
  · exact h.sok
  · intro y hy
    obtain ⟨h1, h2⟩ := h.mok y hy
    have go : ∀ {L : List Str} {a : Option (Nat × Nat)}, Leaf O B.length pc pt px L a → Leaf ((killO pc O ++ (X ++ [AObj.cells 7 x.cells, AObj.cells 7 ((C ++ [x]).flatMap InsU.cells)])).set B.length (wrO tN (some (O.length + X.length + 1, 0)) pt px none ct cx (C.length + 1) S.length M.length dep bud)) B.length (some (O.length + X.length + 1, 0)) pt px L a := fun hL =>
      (((hL.kill fun i o o' e e' => (hL.at' _ _ e').2.2.1 _ e).app _).set fun o e => by have := (hL.at' _ _ e).1; omega).npc fun i o e => by have := (hL.at' _ _ e).2.1; omega
    exact ⟨go h1, go h2⟩
end Go.Abs.AbsMake
