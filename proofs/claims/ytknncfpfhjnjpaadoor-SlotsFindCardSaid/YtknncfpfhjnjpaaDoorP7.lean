/-
  Layer 12, plain: a type cut off a text; the reference's first type is the same.
-/
import Derived.Test.YtknncfpfhjnjpaaDoorP6
namespace Go.Abs.AbsDesc
set_option linter.unusedSimpArgs false

def bare (s : List UInt8) : List UInt8 := s.dropWhile (· == 91)
def dims (s : List UInt8) : Nat := s.length - (bare s).length

theorem bare_len (s : List UInt8) : (bare s).length ≤ s.length := by
  unfold bare
  induction s with
  | nil => simp
  | cons x r ih =>
    rw [List.dropWhile_cons]
    split
    · simp; omega
    · simp

/-- Brackets, and what is behind them. -/
theorem bare_split : ∀ s : List UInt8, s = List.replicate (dims s) 91 ++ bare s
  | [] => rfl
  | x :: r => by
    have ih := bare_split r
    have hl := bare_len r
    unfold dims bare at *
    rw [List.dropWhile_cons]
    split
    · rename_i h
      have : x = 91 := by simpa using h
      subst this
      have e : (91 :: r).length - (List.dropWhile (· == 91) r).length = (r.length - (List.dropWhile (· == 91) r).length) + 1 := by simp only [List.length_cons]; omega
      rw [e, List.replicate_succ, List.cons_append, ← ih]
    · simp

theorem bare_head {s r : List UInt8} {c : UInt8} (h : bare s = c :: r) : c ≠ 91 := by
  have := List.head?_dropWhile_not (fun x : UInt8 => x == 91) s
  unfold bare at h
  rw [h] at this
  simpa using this

theorem bare_of {n : Nat} {c : UInt8} {r : List UInt8} (h : c ≠ 91) : bare (List.replicate n 91 ++ c :: r) = c :: r := by
  unfold bare
  induction n with
  | zero => simp [h]
  | succ n ih => rw [List.replicate_succ, List.cons_append, List.dropWhile_cons]; simpa using ih

theorem dims_of {n : Nat} {c : UInt8} {r : List UInt8} (h : c ≠ 91) : dims (List.replicate n 91 ++ c :: r) = n := by
  unfold dims
  rw [bare_of h]
  simp

/-- The name behind L, if there is one: how long it is. -/
def nameL (r : List UInt8) : Option Nat := if 0 ≤ Lib.indexByte r 59 then (if isClass (r.take (Lib.indexByte r 59).toNat) then some (Lib.indexByte r 59).toNat else none) else none

/-- How long the type is with which a text begins: 0: there is none. -/
def cutN (s : List UInt8) : Nat := match bare s with
  | [] => 0
  | c :: r => if 8 < dims s then 0
    else if c = 73 ∨ (c = 74 ∧ dims s = 0) ∨ (c = 66 ∧ 0 < dims s) then dims s + 1
    else if c = 76 then (match nameL r with | some k => dims s + k + 2 | none => 0) else 0

theorem ib_take {c : UInt8} : ∀ {r : List UInt8} {k : Nat}, Lib.indexByte r c = k → k < r.length ∧ r.take k ++ c :: r.drop (k + 1) = r ∧ c ∉ r.take k
  | [], k, h => by simp [Lib.indexByte] at h
  | x :: r, k, h => by
    unfold Lib.indexByte at h
    split at h
    · rename_i hx
      have hx : x = c := by simpa using hx
      have : k = 0 := by omega
      subst this; subst hx
      simp
    · rename_i hx
      have hx : ¬ x = c := by simpa using hx
      have hge := Lib.indexByte_ge r c
      split at h
      · omega
      · cases k with
        | zero => rename_i e; simp at e; omega
        | succ k =>
          obtain ⟨h1, h2, h3⟩ := ib_take (r := r) (k := k) (c := c) (by omega)
          refine ⟨by simp; omega, by simpa using h2, ?_⟩
          simp only [List.take_succ_cons, List.mem_cons, not_or]
          exact ⟨fun e => hx e.symm, h3⟩

theorem ib_of {c : UInt8} : ∀ {a b : List UInt8}, c ∉ a → Lib.indexByte (a ++ c :: b) c = a.length
  | [], b, _ => by simp [Lib.indexByte]
  | x :: a, b, h => by
    have h1 : ¬ x = c := fun e => h (by simp [e])
    have ih := ib_of (a := a) (b := b) (c := c) fun h' => h (List.mem_cons_of_mem _ h')
    simp only [List.cons_append]
    unfold Lib.indexByte
    simp [h1, ih]

theorem parts_mem {c y : UInt8} : ∀ {s : List UInt8}, y ∈ s → y ≠ c → ∃ p ∈ parts c s, y ∈ p
  | [], h, _ => by cases h
  | x :: r, h, hy => by
    simp only [parts]
    rcases List.mem_cons.1 h with rfl | h
    · rw [if_neg (by simpa using hy)]
      cases hp : parts c r with
      | nil => exact ⟨_, List.mem_singleton_self _, List.mem_singleton_self _⟩
      | cons p ps => exact ⟨_, List.mem_cons_self .., List.mem_cons_self ..⟩
    · obtain ⟨p, hp, hyp⟩ := parts_mem h hy
      split
      · exact ⟨p, List.mem_cons_of_mem _ hp, hyp⟩
      · cases hq : parts c r with
        | nil => rw [hq] at hp; cases hp
        | cons q ps =>
          rw [hq] at hp
          rcases List.mem_cons.1 hp with rfl | hp
          · exact ⟨_, List.mem_cons_self .., List.mem_cons_of_mem _ hyp⟩
          · exact ⟨p, List.mem_cons_of_mem _ hp, hyp⟩

/-- No class's name has a semicolon. -/
theorem isClass_semi {s : List UInt8} (h : isClass s = true) : (59 : UInt8) ∉ s := by
  intro hm
  obtain ⟨p, hp, hy⟩ := parts_mem (c := 47) hm (by decide)
  simp only [isClass, Bool.and_eq_true, List.all_eq_true] at h
  have := h.2 p hp
  simp only [wordL, Bool.and_eq_true, List.all_eq_true] at this
  have := this.2 59 hy
  simp [wordN] at this

theorem isClass_ne {s : List UInt8} (h : isClass s = true) : s ≠ [] := by
  rintro rfl
  simp [isClass, parts, wordL] at h

theorem nameL_some {r : List UInt8} {k : Nat} (h : nameL r = some k) : k < r.length ∧ r = r.take k ++ 59 :: r.drop (k + 1) ∧ isClass (r.take k) = true := by
  unfold nameL at h
  split at h
  · rename_i h0
    obtain ⟨j, hj⟩ := Int.eq_ofNat_of_zero_le h0
    rw [hj] at h
    simp only [Int.toNat_natCast] at h
    split at h
    · rename_i hc
      cases h
      obtain ⟨h1, h2, _⟩ := ib_take hj
      exact ⟨h1, h2.symm, hc⟩
    · cases h
  · cases h

theorem nameL_of {a b : List UInt8} (h : isClass a = true) : nameL (a ++ 59 :: b) = some a.length := by
  have := ib_of (b := b) (isClass_semi h)
  unfold nameL
  rw [this, if_pos (by omega)]
  simp only [Int.toNat_natCast, List.take_left', h, if_true]

theorem cutN_le (s : List UInt8) : cutN s ≤ s.length := by
  have hb := bare_split s
  have hl := congrArg List.length hb
  simp only [List.length_append, List.length_replicate] at hl
  unfold cutN
  cases hbs : bare s with
  | nil => simp
  | cons c r =>
    rw [hbs] at hl
    simp only [List.length_cons] at hl
    simp only
    split
    · omega
    · split
      · omega
      · split
        · cases hn : nameL r with
          | none => simp
          | some k => have := (nameL_some hn).1; simp only; omega
        · omega

/-- The forms that a type has. -/
inductive Ty : List UInt8 → Prop
  | one (n : Nat) (c : UInt8) (h : n ≤ 8) (hc : c = 73 ∨ (c = 74 ∧ n = 0) ∨ (c = 66 ∧ 0 < n)) : Ty (List.replicate n 91 ++ [c])
  | obj (n : Nat) (a : List UInt8) (h : n ≤ 8) (ha : isClass a = true) : Ty (List.replicate n 91 ++ 76 :: (a ++ [59]))

theorem ty_cut {t : List UInt8} (ht : Ty t) (u : List UInt8) : cutN (t ++ u) = t.length := by
  cases ht with
  | one n c h hc =>
    have hc91 : c ≠ 91 := by rcases hc with e | ⟨e, _⟩ | ⟨e, _⟩ <;> (subst e; decide)
    have hb := bare_of (n := n) (r := u) hc91
    have hd := dims_of (n := n) (r := u) hc91
    rw [show List.replicate n 91 ++ [c] ++ u = List.replicate n 91 ++ c :: u by simp]
    unfold cutN
    rw [hb, hd]
    simp only
    rw [if_neg (by omega), if_pos hc]
    simp
  | obj n a h ha =>
    have hb := bare_of (n := n) (c := 76) (r := a ++ 59 :: u) (by decide)
    have hd := dims_of (n := n) (c := 76) (r := a ++ 59 :: u) (by decide)
    rw [show List.replicate n 91 ++ 76 :: (a ++ [59]) ++ u = List.replicate n 91 ++ 76 :: (a ++ 59 :: u) by simp]
    unfold cutN
    rw [hb, hd]
    simp only
    rw [if_neg (by omega), if_neg (by simp)]
    simp only [if_true, nameL_of ha]
    simp
    omega

theorem cut_ty {s : List UInt8} (h : cutN s ≠ 0) : Ty (s.take (cutN s)) := by
  have hb := bare_split s
  revert h
  unfold cutN
  cases hbs : bare s with
  | nil => simp
  | cons c r =>
    rw [hbs] at hb
    simp only
    generalize hn : dims s = n at *
    split
    · simp
    · rename_i h8
      split
      · rename_i hc
        intro _
        have : s.take (n + 1) = List.replicate n 91 ++ [c] := by
          rw [hb, List.take_append, List.length_replicate, List.take_of_length_le (by simp), show n + 1 - n = 1 by omega]
          rfl
        rw [this]
        exact .one n c (by omega) hc
      · split
        · rename_i hc
          subst hc
          cases hn' : nameL r with
          | none => simp
          | some k =>
            intro _
            obtain ⟨k1, k2, k3⟩ := nameL_some hn'
            simp only
            have : s.take (n + k + 2) = List.replicate n 91 ++ 76 :: (r.take k ++ [59]) := by
              rw [hb, List.take_append, List.length_replicate, List.take_of_length_le (by simp; omega), show n + k + 2 - n = (k + 1) + 1 by omega, List.take_succ_cons]
              congr 2
              conv => lhs; rw [k2]
              rw [List.take_append]
              have hk : (r.take k).length = k := by simp; omega
              rw [hk, List.take_of_length_le (by omega), show k + 1 - k = 1 by omega]
              rfl
            rw [this]
            exact .obj n _ (by omega) k3
        · simp

theorem ty_ne {t : List UInt8} (ht : Ty t) : t ≠ [] := by
  cases ht <;> simp

/-- Is it a type? -/
def isTy (s : List UInt8) : Bool := decide (s ≠ []) && decide (cutN s = s.length)

theorem isTy_iff (s : List UInt8) : isTy s = true ↔ Ty s := by
  simp only [isTy, Bool.and_eq_true, decide_eq_true_eq]
  constructor
  · rintro ⟨h1, h2⟩
    have h3 : cutN s ≠ 0 := by
      rw [h2]
      intro e
      exact h1 (List.eq_nil_of_length_eq_zero e)
    have := cut_ty h3
    rwa [h2, List.take_length] at this
  · intro h
    have := ty_cut h []
    rw [List.append_nil] at this
    exact ⟨ty_ne h, this⟩

/-- The beginnings that are types: just the one that is cut off. -/
theorem isTy_take {s : List UInt8} {n : Nat} (hn : n ≤ s.length) (h : isTy (s.take n) = true) : n = cutN s := by
  have h1 := ty_cut ((isTy_iff _).1 h) (s.drop n)
  rw [List.take_append_drop] at h1
  rw [h1]; simp; omega

theorem isTy_cut {s : List UInt8} (h : cutN s ≠ 0) : isTy (s.take (cutN s)) = true := (isTy_iff _).2 (cut_ty h)

end Go.Abs.AbsDesc

/-
  Layer 12: what is cut off; types.
-/
namespace Go.Abs.AbsDesc
set_option maxRecDepth 100000
set_option linter.unusedSimpArgs false
variable {os : List AObj} {b w : Nat} {β : Type}

theorem u8i (x : UInt8) (n : Nat) (hn : n < 256) : ((x.toNat : Int) = (n : Int)) = (x = UInt8.ofNat n) := u8_eq x n hn

/-- strings.trimLeftByte -/
theorem l171 {h : Heap} (k : AExit → St → Option β) : ∀ s : List UInt8, xK T (.loop code171L0) ⟨[(0, .val (.str s)), (1, .val (.int .u8 91))], h⟩ (k := ⟨k⟩) = k (.exit 0) ⟨[(0, .val (.str (bare s)))], h⟩
  | [] => by
    rw [xK_loop]
    simp [code171L0, bare]
  | x :: r => by
    have ih := l171 (h := h) k r
    have e : ((x.toNat : Int) = 91) = (x = 91) := u8_eq x 91 (by omega)
    rw [xK_loop]
    generalize ACode.loop code171L0 = L at ih ⊢
    by_cases c : x = 91
    · simp (disch := omega) [-getElem?_pos, -getElem?_neg, code171L0, iltT, ileT, nltT, e, c, ih, bare, List.dropWhile_cons, List.getElem?_cons_zero]
    · simp (disch := omega) [-getElem?_pos, -getElem?_neg, code171L0, iltT, ileT, nltT, e, c, bare, List.dropWhile_cons, List.getElem?_cons_zero]

theorem s171 {s : List UInt8} : xCall T 171 [.str s, .int .u8 91] ⟨os, b, w⟩ = some (.str (bare s), ⟨os, b, w⟩) := by
  simp [xCallK t171, code171, l171]

theorem s139 {s : List UInt8} : xCall T 139 [.str s, .str [91]] ⟨os, b, w⟩ = some (.str (bare s), ⟨os, b, w⟩) := by
  by_cases h : s = []
  · subst h
    simp [xCallK t139, code139, bare]
  · simp [xCallK t139, code139, h, s171]

/-- strings.Cut at one byte -/
def cutV (c : UInt8) (s : List UInt8) : AVal := if 0 ≤ Lib.indexByte s c then .tuple [.str (s.take (Lib.indexByte s c).toNat), .str (s.drop ((Lib.indexByte s c).toNat + 1)), .bool true] else .tuple [.str s, .str [], .bool false]

theorem s172 {s : List UInt8} {c : UInt8} (hn : s.length ≤ 9223372036854775807) : xCall T 172 [.str s, .str [c]] ⟨os, b, w⟩ = some (cutV c s, ⟨os, b, w⟩) := by
  have h5 := fun h => s205 (s := s) (c := c) (h := h)
  by_cases h : 0 ≤ Lib.indexByte s c
  · obtain ⟨k, hk⟩ := Int.eq_ofNat_of_zero_le h
    obtain ⟨k1, _⟩ := ib_take hk
    have e3 : ((k : Int) + 1).toNat = k + 1 := by omega
    have hv : cutV c s = .tuple [.str (s.take k), .str (s.drop (k + 1)), .bool true] := by
      unfold cutV; rw [hk, if_pos (by omega)]; rfl
    rw [hv]
    simp (disch := omega) [-getElem?_pos, -getElem?_neg, xCallK t172, code172, h5, hk, iltT, ileT, nltT, nleT, wrapI, e3]
  · have hv : cutV c s = .tuple [.str s, .str [], .bool false] := by
      unfold cutV; rw [if_neg h]
    rw [hv]
    simp (disch := omega) [xCallK t172, code172, h5, h]

theorem s138 {s : List UInt8} {c : UInt8} (hn : s.length ≤ 9223372036854775807) : xCall T 138 [.str s, .str [c]] ⟨os, b, w⟩ = some (cutV c s, ⟨os, b, w⟩) := by
  have h := fun w => s172 (os := os) (b := b) (w := w) (c := c) hn
  unfold cutV at h ⊢
  by_cases h0 : 0 ≤ Lib.indexByte s c
  · simp only [if_pos h0] at h ⊢
    simp [xCallK t138, code138, h]
  · simp only [if_neg h0] at h ⊢
    simp [xCallK t138, code138, h]

theorem dims_eq {s r : List UInt8} {c : UInt8} (h : bare s = c :: r) : s.length = dims s + (r.length + 1) := by
  have := congrArg List.length (bare_split s)
  simpa [h] using this

/-- desc.cut -/
theorem s86 {s : List UInt8} (hn : s.length ≤ 9223372036854775807) (hb : b ≤ os.length) : xCall T 86 [.str s] ⟨os, b, w⟩ = some (.str (s.take (cutN s)), ⟨os, b, w⟩) := by
  have h139 := fun w => s139 (os := os) (b := b) (w := w) (s := s)
  have hl := bare_len s
  have hd : ((s.length : Int) - (bare s).length) = (dims s : Nat) := by unfold dims; omega
  have hle : dims s ≤ s.length := by unfold dims; omega
  cases hbs : bare s with
  | nil =>
    simp only [hbs] at h139
    simp [xCallK t86, code86, List.getElem?_cons_zero, h139, cutN, hbs]
  | cons c r =>
    simp only [hbs] at h139
    clear hd
    have hlen := dims_eq hbs
    have hcut : cutN s = if 8 < dims s then 0 else if c = 73 ∨ (c = 74 ∧ dims s = 0) ∨ (c = 66 ∧ 0 < dims s) then dims s + 1 else if c = 76 then (match nameL r with | some k => dims s + k + 2 | none => 0) else 0 := by
      unfold cutN; rw [hbs] <;> rfl
    rw [hcut]
    clear hl hcut
    generalize dims s = d at hlen hle ⊢
    have hd : (s.length : Int) - ((r.length : Int) + 1) = d := by omega
    have e73 : ((c.toNat : Int) = 73) = (c = 73) := u8_eq c 73 (by omega)
    have e74 : ((c.toNat : Int) = 74) = (c = 74) := u8_eq c 74 (by omega)
    have e66 : ((c.toNat : Int) = 66) = (c = 66) := u8_eq c 66 (by omega)
    have e76 : ((c.toNat : Int) = 76) = (c = 76) := u8_eq c 76 (by omega)
    have ht1 : ((d : Int) + 1).toNat = d + 1 := by omega
    by_cases h8 : 8 < d
    · simp (disch := omega) [-getElem?_pos, -getElem?_neg, xCallK t86, code86, List.getElem?_cons_zero, h139, hd, wrapI, iltT, h8]
    · by_cases c73 : c = 73
      · simp (disch := omega) [-getElem?_pos, -getElem?_neg, xCallK t86, code86, List.getElem?_cons_zero, h139, hd, wrapI, iltT, iltF, ileT, nltT, nleT, h8, e73, c73, ht1]
      · by_cases c74 : c = 74
        · subst c74
          by_cases d0 : d = 0
          · simp (disch := omega) [-getElem?_pos, -getElem?_neg, xCallK t86, code86, List.getElem?_cons_zero, h139, hd, wrapI, iltT, iltF, ileT, nltT, nleT, h8, d0, ht1]
          · simp (disch := omega) [-getElem?_pos, -getElem?_neg, xCallK t86, code86, List.getElem?_cons_zero, h139, hd, wrapI, iltT, iltF, ileT, nltT, nleT, h8, d0, ieqF, ht1]
        · by_cases c66 : c = 66
          · subst c66
            by_cases d0 : 0 < d
            · simp (disch := omega) [-getElem?_pos, -getElem?_neg, xCallK t86, code86, List.getElem?_cons_zero, h139, hd, wrapI, iltT, iltF, ileT, nltT, nleT, h8, d0, ht1]
            · simp (disch := omega) [-getElem?_pos, -getElem?_neg, xCallK t86, code86, List.getElem?_cons_zero, h139, hd, wrapI, iltT, iltF, ileT, nltT, nleT, h8, d0, ht1]
          · by_cases c76 : c = 76
            · subst c76
              have h138 := fun w => s138 (os := os) (b := b) (w := w) (s := r) (c := 59) (by omega)
              have htr : List.take (r.length + 1 - 1) r = r := by simp
              by_cases hi : 0 ≤ Lib.indexByte r 59
              · obtain ⟨k, hk⟩ := Int.eq_ofNat_of_zero_le hi
                obtain ⟨k1, _⟩ := ib_take hk
                have h25 := fun w => s25 (w := w) (s := r.take k) hb
                have hmin : min k r.length = k := by omega
                simp only [cutV, hk, Int.natCast_nonneg, if_true, Int.toNat_natCast] at h138
                have ht2 : ((d : Int) + k + 2).toNat = d + k + 2 := by omega
                have hnm : nameL r = if isClass (r.take k) = true then some k else none := by
                  unfold nameL; rw [hk, if_pos (by omega)]; rfl
                by_cases hc : isClass (r.take k) = true
                · simp (disch := omega) [-getElem?_pos, -getElem?_neg, xCallK t86, code86, List.getElem?_cons_zero, h139, hd, wrapI, iltT, iltF, ileT, nltT, nleT, h8, h138, h25, hc, hnm, hmin, ht2]
                · simp (disch := omega) [-getElem?_pos, -getElem?_neg, xCallK t86, code86, List.getElem?_cons_zero, h139, hd, wrapI, iltT, iltF, ileT, nltT, nleT, h8, h138, h25, hc, hnm]
              · have hnm : nameL r = none := by unfold nameL; rw [if_neg hi]
                simp only [cutV, if_neg hi] at h138
                simp (disch := omega) [-getElem?_pos, -getElem?_neg, xCallK t86, code86, List.getElem?_cons_zero, h139, hd, wrapI, iltT, iltF, ileT, nltT, nleT, h8, h138, hnm]
            · simp (disch := omega) [-getElem?_pos, -getElem?_neg, xCallK t86, code86, List.getElem?_cons_zero, h139, hd, wrapI, iltT, iltF, ileT, nltT, nleT, h8, e73, e74, e66, e76, c73, c74, c66, c76]

/-- desc.IsType -/
theorem s27 {s : List UInt8} (hn : s.length ≤ 9223372036854775807) (hb : b ≤ os.length) : xCall T 27 [.str s] ⟨os, b, w⟩ = some (.bool (isTy s), ⟨os, b, w⟩) := by
  have h := fun w => s86 (w := w) hn hb
  have hc := cutN_le s
  have e : (s.take (cutN s) = s) = (cutN s = s.length) := by
    apply propext
    constructor
    · intro e
      have := congrArg List.length e
      simp at this; omega
    · intro e; rw [e, List.take_length]
  by_cases h0 : s = []
  · simp [xCallK t27, code27, isTy, h0]
  · simp [xCallK t27, code27, isTy, h0, h, e]

end Go.Abs.AbsDesc

/-
  Layer 12: the reference's types.
-/
namespace Go.Abs.AbsDesc
set_option maxRecDepth 100000
set_option linter.unusedSimpArgs false
variable {os : List AObj} {b w : Nat} {β : Type}

/-- L, a class's name, a semicolon? -/
def objR (s : List UInt8) : Bool := decide (3 ≤ s.length) && begins 76 s && ends 59 s && isClass ((s.drop 1).take (s.length - 2))

theorem ends_app {a : List UInt8} {c x : UInt8} : ends c (a ++ [x]) = decide (x = c) := by
  apply ends_get
  simp

theorem objR_name (r : List UInt8) : objR (76 :: r) = match nameL r with | some k => decide (k + 1 = r.length) | none => false := by
  cases hn : nameL r with
  | some k =>
    obtain ⟨h1, h2, h3⟩ := nameL_some hn
    simp only
    by_cases hk : k + 1 = r.length
    · have hd : r.drop (k + 1) = [] := List.drop_of_length_le (by omega)
      rw [hd] at h2
      have hne : r.take k ≠ [] := isClass_ne h3
      have hk0 : k ≠ 0 := by rintro rfl; simp at hne
      have e1 : ends 59 (76 :: r) = true := by
        rw [h2, show (76 : UInt8) :: (r.take k ++ [59]) = (76 :: r.take k) ++ [59] by rfl, ends_app]; rfl
      have e2 : ((76 :: r).drop 1).take ((76 :: r).length - 2) = r.take k := by
        simp only [List.drop_succ_cons, List.drop_zero, List.length_cons]
        congr 1; omega
      unfold objR
      rw [e1, e2, h3]
      simp [begins, hk]
      omega
    · simp only [hk, decide_false]
      unfold objR
      rw [Bool.eq_false_iff]
      intro hc
      simp only [Bool.and_eq_true, decide_eq_true_eq] at hc
      obtain ⟨⟨⟨c1, _⟩, c2⟩, c3⟩ := hc
      have e2 : ((76 :: r).drop 1).take ((76 :: r).length - 2) = r.take (r.length - 1) := by
        simp only [List.drop_succ_cons, List.drop_zero, List.length_cons]
        congr 1
      rw [e2] at c3
      refine isClass_semi c3 ?_
      have : (r.take (r.length - 1))[k]? = some 59 := by
        rw [List.getElem?_take_of_lt (by omega), h2, List.getElem?_append_right (by simp; omega)]
        simp [show min k r.length = k by omega]
      exact List.mem_of_getElem? this
  | none =>
    simp only
    unfold objR
    rw [Bool.eq_false_iff]
    intro hc
    simp only [Bool.and_eq_true, decide_eq_true_eq] at hc
    obtain ⟨⟨⟨c1, _⟩, c2⟩, c3⟩ := hc
    simp only [List.length_cons] at c1
    have e2 : ((76 :: r).drop 1).take ((76 :: r).length - 2) = r.take (r.length - 1) := by
      simp only [List.drop_succ_cons, List.drop_zero, List.length_cons]
      congr 1
    rw [e2] at c3
    obtain ⟨y, hy⟩ : ∃ y, r[r.length - 1]? = some y := ⟨_, List.getElem?_eq_getElem (by omega)⟩
    have hl : (76 :: r)[(76 :: r).length - 1]? = some y := by
      rw [show (76 :: r).length - 1 = (r.length - 1) + 1 by simp; omega, List.getElem?_cons_succ]; exact hy
    rw [ends_get hl] at c2
    simp only [decide_eq_true_eq] at c2
    subst c2
    have hr : r = r.take (r.length - 1) ++ 59 :: [] := by
      have : r.drop (r.length - 1) = [59] := by
        have hlt := lt_of_get hy
        rw [List.drop_eq_getElem_cons hlt, List.drop_of_length_le (by omega)]
        rw [List.getElem?_eq_getElem hlt] at hy
        rw [Option.some.inj hy]
      rw [← this, List.take_append_drop]
    rw [hr, nameL_of c3] at hn
    cases hn

theorem cutN_eq {s r : List UInt8} {c : UInt8} (hbs : bare s = c :: r) : cutN s = if 8 < dims s then 0 else if c = 73 ∨ (c = 74 ∧ dims s = 0) ∨ (c = 66 ∧ 0 < dims s) then dims s + 1 else if c = 76 then (match nameL r with | some k => dims s + k + 2 | none => 0) else 0 := by
  unfold cutN; rw [hbs] <;> rfl

theorem refTy_eq (s : List UInt8) : isTy s = (!decide (8 < dims s) && ((decide (0 < dims s) && decide (bare s = [66])) || (decide (bare s = [73]) || ((decide (dims s = 0) && decide (bare s = [74])) || objR (bare s))))) := by
  cases hbs : bare s with
  | nil =>
    have : cutN s = 0 := by unfold cutN; rw [hbs]
    have ho : objR [] = false := rfl
    unfold isTy
    rw [this, ho]
    cases s <;> simp
  | cons c r =>
    have hlen := dims_eq hbs
    have hcut := cutN_eq hbs
    have hne : s ≠ [] := by rintro rfl; simp [bare] at hbs
    unfold isTy
    rw [hcut, hlen]
    generalize dims s = d at *
    have hr0 : (r = []) ↔ r.length = 0 := by cases r <;> simp
    by_cases h8 : 8 < d
    · simp [h8, hne]
    · by_cases c73 : c = 73
      · subst c73
        have : objR (73 :: r) = false := by simp [objR, begins]
        by_cases hr : r = []
        · simp [h8, hne, this, hr]
        · have : r.length ≠ 0 := by rwa [Ne, ← hr0]
          simp [h8, hne, *]
      · by_cases c76 : c = 76
        · subst c76
          rw [objR_name]
          cases hn : nameL r with
          | none => simp [h8, hne]
          | some k =>
            simp only [h8, hne, ne_eq, not_false_iff, decide_true, Bool.true_and, if_false, if_true]
            have : (d + k + 2 = d + (r.length + 1)) = (k + 1 = r.length) := by apply propext; omega
            simp [this]
        · have hob : objR (c :: r) = false := by simp [objR, begins, c76]
          by_cases c74 : c = 74
          · subst c74
            by_cases d0 : d = 0 <;> by_cases hr : r = []
            · subst d0; subst hr; simp [hne]
            · have : r.length ≠ 0 := by rwa [Ne, ← hr0]
              subst d0; simp [hne, hob, hr, this]
            · simp [h8, hne, hob, d0]
            · simp [h8, hne, hob, d0]
          · by_cases c66 : c = 66
            · subst c66
              by_cases d0 : 0 < d <;> by_cases hr : r = []
              · subst hr; simp [h8, hne, hob, d0]
              · have : r.length ≠ 0 := by rwa [Ne, ← hr0]
                simp [h8, hne, hob, d0, hr, this]
              · simp [h8, hne, hob, d0]
              · simp [h8, hne, hob, d0]
            · simp [h8, hne, hob, c73, c74, c66, c76]

theorem dims_get {s : List UInt8} {i : Nat} (h : i < dims s) : s[i]? = some 91 := by
  rw [bare_split s, List.getElem?_append_left (by simpa using h), List.getElem?_replicate, if_pos h]

theorem dims_drop (s : List UInt8) : s.drop (dims s) = bare s := by
  refine (congrArg (List.drop (dims s)) (bare_split s)).trans ?_
  rw [List.drop_append, List.length_replicate]
  simp

theorem l28 {h : Heap} (k : AExit → St → Option β) {s : List UInt8} (hn : s.length ≤ 9223372036854775807) : ∀ j i, i + j = dims s →
    xK T (.loop code28L0) ⟨[(0, .val (.str s)), (3, .val (.int .i64 (i : Nat)))], h⟩ (k := ⟨k⟩) = k (.exit 0) ⟨[(0, .val (.str s)), (3, .val (.int .i64 (dims s : Nat)))], h⟩
  | 0, i, hi => by
    have hi : i = dims s := by omega
    rw [xK_loop]
    have hl := bare_len s
    have hd : dims s = s.length - (bare s).length := rfl
    cases hbs : bare s with
    | nil =>
      rw [hbs] at hd
      simp only [List.length_nil, Nat.sub_zero] at hd
      simp (disch := omega) [-getElem?_pos, -getElem?_neg, code28L0, iltF, hi, hd]
    | cons c r =>
      have hlen := dims_eq hbs
      have hc := bare_head hbs
      have e : ((c.toNat : Int) = 91) = (c = 91) := u8_eq c 91 (by omega)
      have hg : s[dims s]? = some c := by
        have := dims_drop s
        rw [hbs] at this
        have h0 := congrArg (fun l => l[0]?) this
        simpa using h0
      simp (disch := omega) [-getElem?_pos, -getElem?_neg, code28L0, iltT, ileT, hi, hg, e, hc]
  | j + 1, i, hi => by
    have hg := dims_get (s := s) (i := i) (by omega)
    have hle : dims s ≤ s.length := by unfold dims; omega
    have ih := l28 (h := h) k hn j (i + 1) (by omega)
    have e : ((i + 1 : Nat) : Int) = (i : Int) + 1 := by omega
    rw [e] at ih
    rw [xK_loop]
    generalize ACode.loop code28L0 = L at ih ⊢
    simp (disch := omega) [-getElem?_pos, -getElem?_neg, code28L0, iltT, ileT, wrapI, hg, ih]

/-- object -/
theorem s93 {s : List UInt8} (hn : s.length ≤ 9223372036854775807) : xCall T 93 [.str s] ⟨os, b, w⟩ = some (.bool (objR s), ⟨os, b, w⟩) := by
  by_cases h : 3 ≤ s.length
  · obtain ⟨x, hx⟩ : ∃ x, s[0]? = some x := ⟨_, List.getElem?_eq_getElem (by omega)⟩
    obtain ⟨y, hy⟩ : ∃ y, s[s.length - 1]? = some y := ⟨_, List.getElem?_eq_getElem (by omega)⟩
    have b1 := begins_get (c := 76) hx
    have e1 := ends_get (c := 59) hy
    have u1 : ((x.toNat : Int) = 76) = (x = 76) := u8_eq x 76 (by omega)
    have u2 : ((y.toNat : Int) = 59) = (y = 59) := u8_eq y 59 (by omega)
    have ht : ((s.length : Int) - 1).toNat = s.length - 1 := by omega
    have hq : s.length - 1 - 1 = s.length - 2 := by omega
    have h26 := fun w => s26 (os := os) (b := b) (w := w) (s := List.take (s.length - 2) s.tail) (by simp; omega)
    by_cases c1 : x = 76 <;> by_cases c2 : y = 59
    all_goals simp (disch := omega) [-getElem?_pos, -getElem?_neg, xCallK t93, code93, objR, iltT, iltF, ileT, ileF, nltT, nltF, nleT, nleF, wrapI, h, hx, hy, b1, e1, u1, u2, c1, c2, ht, hq, h26]
  · simp (disch := omega) [xCallK t93, code93, objR, ileF, h]

/-- The reference's IsType -/
theorem s28 {s : List UInt8} (hn : s.length ≤ 9223372036854775807) : xCall T 28 [.str s] ⟨os, b, w⟩ = some (.bool (isTy s), ⟨os, b, w⟩) := by
  have hl := fun h (k : AExit → St → Option (AVal × Heap)) => l28 (h := h) k hn (dims s) 0 (by omega)
  simp only [Int.cast_ofNat_Int] at hl
  have hle : dims s ≤ s.length := by unfold dims; omega
  have hb := dims_drop s
  have hbl := bare_len s
  have h93 := fun w => s93 (os := os) (b := b) (w := w) (s := bare s) (by omega)
  rw [refTy_eq]
  have ht : List.take (s.length - dims s) (bare s) = bare s := by rw [← hb, take_drop_len]
  generalize dims s = d at *
  generalize bare s = r at *
  by_cases h8 : 8 < d
  · simp (disch := omega) [xCallK t28, code28, hl, iltT, iltF, ileT, nleT, hb, h8]
  · have hd0 : (d = 0) = ¬ 0 < d := by apply propext; omega
    by_cases d0 : 0 < d <;> cases c66 : decide (r = [66]) <;> cases c73 : decide (r = [73]) <;> cases c74 : decide (r = [74])
    all_goals simp (disch := omega) [xCallK t28, code28, hl, iltT, iltF, ileT, nleT, ieqT, ieqF, neqT, hb, ht, h8, hd0, d0, c66, c73, c74, h93]

end Go.Abs.AbsDesc

/-
  Layer 12: a method's types, by both texts.
-/
namespace Go.Abs.AbsDesc
set_option maxRecDepth 100000
set_option linter.unusedSimpArgs false
variable {os : List AObj} {b w : Nat} {β : Type}

/-- first: what the reference cuts off -/
theorem l87 {O : List AObj} (k : AExit → St → Option β) {s : List UInt8} (hn : s.length ≤ 9223372036854775806) : ∀ j i, 0 < i → i + j = s.length + 1 → (cutN s = 0 ∨ i ≤ cutN s) →
    xK T (.loop code87L0) ⟨[(0, .val (.str s)), (3, .val (.int .i64 (i : Nat)))], ⟨O, b, w⟩⟩ (k := ⟨k⟩) = if cutN s = 0 then k (.exit 0) ⟨[], ⟨O, b, w⟩⟩ else k .ret ⟨[(2, .val (.str (s.take (cutN s))))], ⟨O, b, w⟩⟩
  | 0, i, h0, hi, hc => by
    have hle := cutN_le s
    have hc : cutN s = 0 := by omega
    rw [xK_loop]
    simp (disch := omega) [-getElem?_pos, -getElem?_neg, code87L0, ileF, hc]
  | j + 1, i, h0, hi, hc => by
    have hle := cutN_le s
    have h28 := fun w => s28 (os := O) (b := b) (w := w) (s := s.take i) (by simp; omega)
    rw [xK_loop]
    by_cases hi' : i = cutN s
    · subst hi'
      have ht : isTy (s.take (cutN s)) = true := isTy_cut (by omega)
      have hc0 : ¬ cutN s = 0 := by omega
      simp (disch := omega) [-getElem?_pos, -getElem?_neg, code87L0, ileT, nleT, h28, ht, hc0]
      done
    · have ht : isTy (s.take i) = false := by
        rw [Bool.eq_false_iff]
        intro h
        exact hi' (isTy_take (by omega) h)
      have ih := l87 (O := O) k hn j (i + 1) (by omega) (by omega) (by omega)
      have e : ((i + 1 : Nat) : Int) = (i : Int) + 1 := by omega
      rw [e] at ih
      generalize ACode.loop code87L0 = L at ih ⊢
      simp (disch := omega) [-getElem?_pos, -getElem?_neg, code87L0, ileT, nleT, wrapI, h28, ht, ih]

theorem s87 {s : List UInt8} (hn : s.length ≤ 9223372036854775806) : xCall T 87 [.str s] ⟨os, b, w⟩ = some (.str (s.take (cutN s)), ⟨os, b, w⟩) := by
  have hl := fun w (k : AExit → St → Option (AVal × Heap)) => l87 (O := os) (b := b) (w := w) k hn s.length 1 (by omega) (by omega) (by omega)
  simp only [Int.cast_ofNat_Int] at hl
  by_cases h : cutN s = 0
  · simp [xCallK t87, code87, hl, h]
  · simp [xCallK t87, code87, hl, h]

/-- The types ahead of a method's closing bracket; what is behind them; at most so many. -/
def methA : Nat → List UInt8 → Option (List (List UInt8) × List UInt8)
  | m, s => if s = [] ∨ begins 41 s = true then some ([], s) else if cutN s = 0 then none else match m with
    | 0 => none
    | m + 1 => (methA m (s.drop (cutN s))).map fun p => (s.take (cutN s) :: p.1, p.2)

theorem methA_len : ∀ {m : Nat} {s : List UInt8} {A : List (List UInt8)} {r : List UInt8}, methA m s = some (A, r) → A.length ≤ m ∧ r.length ≤ s.length ∧ ∀ t ∈ A, t.length ≤ s.length
  | m, s, A, r, h => by
    unfold methA at h
    split at h
    · cases h; simp
    · split at h
      · cases h
      · cases m with
        | zero => cases h
        | succ m =>
          simp only at h
          rw [Option.map_eq_some_iff] at h
          obtain ⟨p, h1, h2⟩ := h
          obtain ⟨rfl, rfl⟩ := Prod.mk.inj h2
          obtain ⟨k1, k2, k3⟩ := methA_len (A := p.1) (r := p.2) h1
          simp only [List.length_drop] at k2 k3
          refine ⟨by simp; omega, by omega, fun t ht => ?_⟩
          rcases List.mem_cons.1 ht with rfl | ht
          · simp; omega
          · have := k3 t ht; omega

/-- What the loop over a method's types leaves, from a row that is there. -/
def Meth38 (b w : Nat) (k : AExit → St → Option β) (x : Option β) (O : List AObj) (L : List (List UInt8)) (a2 a3 : Nat) : Option (List (List UInt8) × List UInt8) → Prop
  | none => ∃ O', O.length ≤ O'.length ∧ x = k .ret ⟨[(2, .val (.slice none 0 (some 0))), (3, .val (.str [])), (4, .val (.int .i64 8))], ⟨O', b, w⟩⟩
  | some (A, r) => ∃ O', O.length ≤ O'.length ∧ x = k (.exit 0) ⟨if a2 < a3 then [(a2, .val (.str r)), (a3, .val (.slice (some (O'.length, 0)) (L.length + A.length) none))] else [(a3, .val (.slice (some (O'.length, 0)) (L.length + A.length) none)), (a2, .val (.str r))], ⟨O' ++ [.cells 1 ((L ++ A).map AVal.str)], b, w⟩⟩

set_option maxHeartbeats 1000000 in
theorem l38 (k : AExit → St → Option β) : ∀ (m : Nat) (s : List UInt8) (O : List AObj) (L : List (List UInt8)), s.length ≤ 9223372036854775807 → L.length + m = 16 → L ≠ [] → b ≤ O.length → w ≤ O.length →
    Meth38 b w k (xK T (.loop code38L0) ⟨[(5, .val (.str s)), (7, .val (.slice (some (O.length, 0)) L.length none))], ⟨O ++ [.cells 1 (L.map AVal.str)], b, w⟩⟩ (k := ⟨k⟩)) O L 5 7 (methA m s) := by
  intro m
  induction m with
  | zero =>
    intro s O L hn hL hne hb hw
    unfold methA
    rw [xK_loop]
    cases s with
    | nil =>
      simp only [true_or, if_true]
      refine ⟨O, Nat.le_refl _, ?_⟩
      simp [code38L0]
    | cons x r =>
      have e : ((x.toNat : Int) = 41) = (x = 41) := u8_eq x 41 (by omega)
      by_cases hx : x = 41
      · simp only [begins, hx, decide_true, or_true, if_true]
        refine ⟨O, Nat.le_refl _, ?_⟩
        simp (disch := omega) [-getElem?_pos, -getElem?_neg, code38L0, e, hx, List.getElem?_cons_zero, iltT]
      · have h86 := fun w => s86 (os := O ++ [.cells 1 (L.map AVal.str)]) (b := b) (w := w) hn (by simp; omega)
        have hL16 : (L.length : Int) = 16 := by omega
        have h0 : ∀ n : Nat, n ≠ 0 → List.take n (x :: r) ≠ [] := fun n hn => by cases n <;> simp_all
        by_cases hc : cutN (x :: r) = 0
        · simp only [begins, hx, decide_false, reduceCtorEq, Bool.false_eq_true, or_self, if_false, hc, if_true]
          refine ⟨O ++ [.cells 1 (L.map AVal.str)], by simp, ?_⟩
          simp (disch := omega) [-getElem?_pos, -getElem?_neg, code38L0, e, hx, List.getElem?_cons_zero, iltT, h86, hc]
        · simp only [begins, hx, decide_false, reduceCtorEq, Bool.false_eq_true, or_self, if_false, hc]
          refine ⟨O ++ [.cells 1 (L.map AVal.str)], by simp, ?_⟩
          simp (disch := omega) [-getElem?_pos, -getElem?_neg, code38L0, e, hx, List.getElem?_cons_zero, iltT, h86, h0 _ hc, hL16]
  | succ m ih =>
    intro s O L hn hL hne hb hw
    unfold methA
    rw [xK_loop]
    cases s with
    | nil =>
      simp only [true_or, if_true]
      refine ⟨O, Nat.le_refl _, ?_⟩
      simp [code38L0]
    | cons x r =>
      have e : ((x.toNat : Int) = 41) = (x = 41) := u8_eq x 41 (by omega)
      by_cases hx : x = 41
      · simp only [begins, hx, decide_true, or_true, if_true]
        refine ⟨O, Nat.le_refl _, ?_⟩
        simp (disch := omega) [-getElem?_pos, -getElem?_neg, code38L0, e, hx, List.getElem?_cons_zero, iltT]
      · have h86 := fun w => s86 (os := O ++ [.cells 1 (L.map AVal.str)]) (b := b) (w := w) hn (by simp; omega)
        have hL16 : ¬ (L.length : Int) = 16 := by omega
        have h0 : ∀ n : Nat, n ≠ 0 → List.take n (x :: r) ≠ [] := fun n hn => by cases n <;> simp_all
        by_cases hc : cutN (x :: r) = 0
        · simp only [begins, hx, decide_false, reduceCtorEq, Bool.false_eq_true, or_self, if_false, hc, if_true]
          refine ⟨O ++ [.cells 1 (L.map AVal.str)], by simp, ?_⟩
          simp (disch := omega) [-getElem?_pos, -getElem?_neg, code38L0, e, hx, List.getElem?_cons_zero, iltT, h86, hc]
        · simp only [begins, hx, decide_false, reduceCtorEq, Bool.false_eq_true, or_self, if_false, hc]
          have hle := cutN_le (x :: r)
          have h0' := h0 _ hc
          have hlt : (List.take (cutN (x :: r)) (x :: r)).length = cutN (x :: r) := by simp at hle ⊢; omega
          generalize ht : List.take (cutN (x :: r)) (x :: r) = t at *
          have hdr : List.take ((x :: r).length - cutN (x :: r)) (List.drop (cutN (x :: r)) (x :: r)) = List.drop (cutN (x :: r)) (x :: r) := take_drop_len ..
          have hle2 : (List.drop (cutN (x :: r)) (x :: r)).length ≤ 9223372036854775807 := by simp only [List.length_drop]; omega
          have ih := ih (List.drop (cutN (x :: r)) (x :: r)) (O ++ [.dead, .cells 1 [.str t]]) (L ++ [t]) hle2 (by simp; omega) (by simp) (by simp; omega) (by simp; omega)
          simp only [List.length_append, List.length_cons, List.length_nil, List.append_assoc, List.cons_append, List.nil_append, List.map_append, List.map_cons, List.map_nil] at ih
          generalize cutN (x :: r) = n at *
          generalize ACode.loop code38L0 = LL at ih ⊢
          have hle' : n ≤ r.length + 1 := by simpa using hle
          have hdr' : List.take (r.length + 1 - n) (List.drop n (x :: r)) = List.drop n (x :: r) := by simpa using hdr
          have key : Meth38 b w k (xK T code38L0 ⟨[(5, .val (.str (x :: r))), (7, .val (.slice (some (O.length, 0)) L.length none))], ⟨O ++ [.cells 1 (L.map AVal.str)], b, w⟩⟩ (k := ⟨fun e st => nxK e st (f := ⟨fun st => xK T LL st (k := ⟨k⟩)⟩) (k := ⟨k⟩)⟩)) (O ++ [.dead, .cells 1 [.str t]]) (L ++ [t]) 5 7 (methA m (List.drop n (x :: r))) := by
            simp (maxSteps := 2000000) (disch := omega) [-getElem?_pos, -getElem?_neg, code38L0, e, hx, List.getElem?_cons_zero, iltT, h86, h0', hL16, hne, Nat.testBit_eq_decide_div_mod_eq, hlt, Nat.min_eq_left, ileT, nleT, nltT, hdr', ht]
            simpa using ih
          cases hm : methA m (List.drop n (x :: r)) with
          | none =>
            rw [hm] at key
            obtain ⟨O', h1, h2⟩ := key
            exact ⟨O', by simp at h1; omega, h2⟩
          | some p =>
            obtain ⟨A, q⟩ := p
            rw [hm] at key
            obtain ⟨O', h1, h2⟩ := key
            refine ⟨O', by simp at h1; omega, h2.trans ?_⟩
            simp [Nat.add_comm 1, Nat.add_assoc]

end Go.Abs.AbsDesc

/-
  Layer 12: a method's types, by both texts, from the beginning.
-/
namespace Go.Abs.AbsDesc
set_option maxRecDepth 100000
set_option linter.unusedSimpArgs false
variable {os : List AObj} {b w : Nat} {β : Type}

/-- What the loop over a method's types leaves, from nothing. -/
def Meth0 (b w : Nat) (k : AExit → St → Option β) (x : Option β) (O : List AObj) (a2 a3 : Nat) : Option (List (List UInt8) × List UInt8) → Prop
  | none => ∃ O', O.length ≤ O'.length ∧ x = k .ret ⟨[(2, .val (.slice none 0 (some 0))), (3, .val (.str [])), (4, .val (.int .i64 8))], ⟨O', b, w⟩⟩
  | some ([], r) => x = k (.exit 0) ⟨if a2 < a3 then [(a2, .val (.str r)), (a3, .val (.slice none 0 (some 0)))] else [(a3, .val (.slice none 0 (some 0))), (a2, .val (.str r))], ⟨O, b, w⟩⟩
  | some (a :: A, r) => ∃ O', O.length ≤ O'.length ∧ x = k (.exit 0) ⟨if a2 < a3 then [(a2, .val (.str r)), (a3, .val (.slice (some (O'.length, 0)) (A.length + 1) none))] else [(a3, .val (.slice (some (O'.length, 0)) (A.length + 1) none)), (a2, .val (.str r))], ⟨O' ++ [.cells 1 ((a :: A).map AVal.str)], b, w⟩⟩
set_option maxHeartbeats 1000000 in
theorem l38z (k : AExit → St → Option β) (s : List UInt8) (O : List AObj) (hn : s.length ≤ 9223372036854775807) (hb : b ≤ O.length) (hw : w ≤ O.length) :
    Meth0 b w k (xK T (.loop code38L0) ⟨[(5, .val (.str s)), (7, .val (.slice none 0 (some 0)))], ⟨O, b, w⟩⟩ (k := ⟨k⟩)) O 5 7 (methA 16 s) := by
  unfold methA
  rw [xK_loop]
  cases s with
  | nil =>
    simp only [true_or, if_true]
    simp [Meth0, code38L0]
  | cons x r =>
    have e : ((x.toNat : Int) = 41) = (x = 41) := u8_eq x 41 (by omega)
    by_cases hx : x = 41
    · simp only [begins, hx, decide_true, or_true, if_true]
      simp (disch := omega) [-getElem?_pos, -getElem?_neg, Meth0, code38L0, e, hx, List.getElem?_cons_zero, iltT]
    · have h86 := fun w => s86 (os := O) (b := b) (w := w) hn hb
      have h0 : ∀ n : Nat, n ≠ 0 → List.take n (x :: r) ≠ [] := fun n hn => by cases n <;> simp_all
      by_cases hc : cutN (x :: r) = 0
      · simp only [begins, hx, decide_false, reduceCtorEq, Bool.false_eq_true, or_self, if_false, hc, if_true]
        refine ⟨O, Nat.le_refl _, ?_⟩
        simp (disch := omega) [-getElem?_pos, -getElem?_neg, code38L0, e, hx, List.getElem?_cons_zero, iltT, h86, hc]
      · simp only [begins, hx, decide_false, reduceCtorEq, Bool.false_eq_true, or_self, if_false, hc]
        have hle := cutN_le (x :: r)
        have h0' := h0 _ hc
        have hlt : (List.take (cutN (x :: r)) (x :: r)).length = cutN (x :: r) := by simp at hle ⊢; omega
        generalize ht : List.take (cutN (x :: r)) (x :: r) = t at *
        have hle2 : (List.drop (cutN (x :: r)) (x :: r)).length ≤ 9223372036854775807 := by simp only [List.length_drop]; omega
        have hdr : List.take ((x :: r).length - cutN (x :: r)) (List.drop (cutN (x :: r)) (x :: r)) = List.drop (cutN (x :: r)) (x :: r) := take_drop_len ..
        have ih := l38 (b := b) (w := w) k 15 (List.drop (cutN (x :: r)) (x :: r)) (O ++ [.cells 1 [.str t]]) [t] hle2 rfl (by simp) (by simp; omega) (by simp; omega)
        generalize cutN (x :: r) = n at *
        generalize ACode.loop code38L0 = LL at ih ⊢
        have hle' : n ≤ r.length + 1 := by simpa using hle
        have hdr' : List.take (r.length + 1 - n) (List.drop n (x :: r)) = List.drop n (x :: r) := by simpa using hdr
        have key : Meth38 b w k (xK T code38L0 ⟨[(5, .val (.str (x :: r))), (7, .val (.slice none 0 (some 0)))], ⟨O, b, w⟩⟩ (k := ⟨fun e st => nxK e st (f := ⟨fun st => xK T LL st (k := ⟨k⟩)⟩) (k := ⟨k⟩)⟩)) (O ++ [.cells 1 [.str t]]) [t] 5 7 (methA 15 (List.drop n (x :: r))) := by
          simp (maxSteps := 2000000) (disch := omega) [-getElem?_pos, -getElem?_neg, code38L0, e, hx, List.getElem?_cons_zero, iltT, h86, h0', Nat.testBit_eq_decide_div_mod_eq, hlt, Nat.min_eq_left, ileT, nleT, nltT, hdr', ht]
          simpa using ih
        cases hm : methA 15 (List.drop n (x :: r)) with
        | none =>
          rw [hm] at key
          obtain ⟨O', h1, h2⟩ := key
          exact ⟨O', by simp at h1; omega, h2⟩
        | some p =>
          obtain ⟨A, q⟩ := p
          rw [hm] at key
          obtain ⟨O', h1, h2⟩ := key
          refine ⟨O', by simp at h1; omega, h2.trans ?_⟩
          simp [Nat.add_comm 1, Nat.add_assoc]

set_option maxHeartbeats 1000000 in
theorem l37 (k : AExit → St → Option β) : ∀ (m : Nat) (s : List UInt8) (O : List AObj) (L : List (List UInt8)), s.length ≤ 9223372036854775806 → L.length + m = 16 → L ≠ [] → b ≤ O.length → w ≤ O.length →
    Meth38 b w k (xK T (.loop code37L0) ⟨[(5, .val (.slice (some (O.length, 0)) L.length none)), (6, .val (.str s))], ⟨O ++ [.cells 1 (L.map AVal.str)], b, w⟩⟩ (k := ⟨k⟩)) O L 6 5 (methA m s) := by
  intro m
  induction m with
  | zero =>
    intro s O L hn hL hne hb hw
    unfold methA
    rw [xK_loop]
    cases s with
    | nil =>
      simp only [true_or, if_true]
      refine ⟨O, Nat.le_refl _, ?_⟩
      simp [code37L0]
    | cons x r =>
      have e : ((x.toNat : Int) = 41) = (x = 41) := u8_eq x 41 (by omega)
      by_cases hx : x = 41
      · simp only [begins, hx, decide_true, or_true, if_true]
        refine ⟨O, Nat.le_refl _, ?_⟩
        simp (disch := omega) [-getElem?_pos, -getElem?_neg, code37L0, e, hx, List.getElem?_cons_zero, iltT]
      · have h86 := fun w => s87 (os := O ++ [.cells 1 (L.map AVal.str)]) (b := b) (w := w) hn
        have hL16 : (L.length : Int) = 16 := by omega
        have h0 : ∀ n : Nat, n ≠ 0 → List.take n (x :: r) ≠ [] := fun n hn => by cases n <;> simp_all
        by_cases hc : cutN (x :: r) = 0
        · simp only [begins, hx, decide_false, reduceCtorEq, Bool.false_eq_true, or_self, if_false, hc, if_true]
          refine ⟨O ++ [.cells 1 (L.map AVal.str)], by simp, ?_⟩
          simp (disch := omega) [-getElem?_pos, -getElem?_neg, code37L0, e, hx, List.getElem?_cons_zero, iltT, h86, hc]
        · simp only [begins, hx, decide_false, reduceCtorEq, Bool.false_eq_true, or_self, if_false, hc]
          refine ⟨O ++ [.cells 1 (L.map AVal.str)], by simp, ?_⟩
          simp (disch := omega) [-getElem?_pos, -getElem?_neg, code37L0, e, hx, List.getElem?_cons_zero, iltT, h86, h0 _ hc, hL16]
  | succ m ih =>
    intro s O L hn hL hne hb hw
    unfold methA
    rw [xK_loop]
    cases s with
    | nil =>
      simp only [true_or, if_true]
      refine ⟨O, Nat.le_refl _, ?_⟩
      simp [code37L0]
    | cons x r =>
      have e : ((x.toNat : Int) = 41) = (x = 41) := u8_eq x 41 (by omega)
      by_cases hx : x = 41
      · simp only [begins, hx, decide_true, or_true, if_true]
        refine ⟨O, Nat.le_refl _, ?_⟩
        simp (disch := omega) [-getElem?_pos, -getElem?_neg, code37L0, e, hx, List.getElem?_cons_zero, iltT]
      · have h86 := fun w => s87 (os := O ++ [.cells 1 (L.map AVal.str)]) (b := b) (w := w) hn
        have hL16 : ¬ (L.length : Int) = 16 := by omega
        have h0 : ∀ n : Nat, n ≠ 0 → List.take n (x :: r) ≠ [] := fun n hn => by cases n <;> simp_all
        by_cases hc : cutN (x :: r) = 0
        · simp only [begins, hx, decide_false, reduceCtorEq, Bool.false_eq_true, or_self, if_false, hc, if_true]
          refine ⟨O ++ [.cells 1 (L.map AVal.str)], by simp, ?_⟩
          simp (disch := omega) [-getElem?_pos, -getElem?_neg, code37L0, e, hx, List.getElem?_cons_zero, iltT, h86, hc]
        · simp only [begins, hx, decide_false, reduceCtorEq, Bool.false_eq_true, or_self, if_false, hc]
          have hle := cutN_le (x :: r)
          have h0' := h0 _ hc
          have hlt : (List.take (cutN (x :: r)) (x :: r)).length = cutN (x :: r) := by simp at hle ⊢; omega
          generalize ht : List.take (cutN (x :: r)) (x :: r) = t at *
          have hdr : List.take ((x :: r).length - cutN (x :: r)) (List.drop (cutN (x :: r)) (x :: r)) = List.drop (cutN (x :: r)) (x :: r) := take_drop_len ..
          have hle2 : (List.drop (cutN (x :: r)) (x :: r)).length ≤ 9223372036854775806 := by simp only [List.length_drop]; omega
          have ih := ih (List.drop (cutN (x :: r)) (x :: r)) (O ++ [.dead, .cells 1 [.str t]]) (L ++ [t]) hle2 (by simp; omega) (by simp) (by simp; omega) (by simp; omega)
          simp only [List.length_append, List.length_cons, List.length_nil, List.append_assoc, List.cons_append, List.nil_append, List.map_append, List.map_cons, List.map_nil] at ih
          generalize cutN (x :: r) = n at *
          generalize ACode.loop code37L0 = LL at ih ⊢
          have hle' : n ≤ r.length + 1 := by simpa using hle
          have hdr' : List.take (r.length + 1 - n) (List.drop n (x :: r)) = List.drop n (x :: r) := by simpa using hdr
          have key : Meth38 b w k (xK T code37L0 ⟨[(5, .val (.slice (some (O.length, 0)) L.length none)), (6, .val (.str (x :: r)))], ⟨O ++ [.cells 1 (L.map AVal.str)], b, w⟩⟩ (k := ⟨fun e st => nxK e st (f := ⟨fun st => xK T LL st (k := ⟨k⟩)⟩) (k := ⟨k⟩)⟩)) (O ++ [.dead, .cells 1 [.str t]]) (L ++ [t]) 6 5 (methA m (List.drop n (x :: r))) := by
            simp (maxSteps := 2000000) (disch := omega) [-getElem?_pos, -getElem?_neg, code37L0, e, hx, List.getElem?_cons_zero, iltT, h86, h0', hL16, hne, Nat.testBit_eq_decide_div_mod_eq, hlt, Nat.min_eq_left, ileT, nleT, nltT, hdr', ht]
            simpa using ih
          cases hm : methA m (List.drop n (x :: r)) with
          | none =>
            rw [hm] at key
            obtain ⟨O', h1, h2⟩ := key
            exact ⟨O', by simp at h1; omega, h2⟩
          | some p =>
            obtain ⟨A, q⟩ := p
            rw [hm] at key
            obtain ⟨O', h1, h2⟩ := key
            refine ⟨O', by simp at h1; omega, h2.trans ?_⟩
            simp [Nat.add_comm 1, Nat.add_assoc]


set_option maxHeartbeats 1000000 in
theorem l37z (k : AExit → St → Option β) (s : List UInt8) (O : List AObj) (hn : s.length ≤ 9223372036854775806) (hb : b ≤ O.length) (hw : w ≤ O.length) :
    Meth0 b w k (xK T (.loop code37L0) ⟨[(5, .val (.slice none 0 (some 0))), (6, .val (.str s))], ⟨O, b, w⟩⟩ (k := ⟨k⟩)) O 6 5 (methA 16 s) := by
  unfold methA
  rw [xK_loop]
  cases s with
  | nil =>
    simp only [true_or, if_true]
    simp [Meth0, code37L0]
  | cons x r =>
    have e : ((x.toNat : Int) = 41) = (x = 41) := u8_eq x 41 (by omega)
    by_cases hx : x = 41
    · simp only [begins, hx, decide_true, or_true, if_true]
      simp (disch := omega) [-getElem?_pos, -getElem?_neg, Meth0, code37L0, e, hx, List.getElem?_cons_zero, iltT]
    · have h86 := fun w => s87 (os := O) (b := b) (w := w) hn
      have h0 : ∀ n : Nat, n ≠ 0 → List.take n (x :: r) ≠ [] := fun n hn => by cases n <;> simp_all
      by_cases hc : cutN (x :: r) = 0
      · simp only [begins, hx, decide_false, reduceCtorEq, Bool.false_eq_true, or_self, if_false, hc, if_true]
        refine ⟨O, Nat.le_refl _, ?_⟩
        simp (disch := omega) [-getElem?_pos, -getElem?_neg, code37L0, e, hx, List.getElem?_cons_zero, iltT, h86, hc]
      · simp only [begins, hx, decide_false, reduceCtorEq, Bool.false_eq_true, or_self, if_false, hc]
        have hle := cutN_le (x :: r)
        have h0' := h0 _ hc
        have hlt : (List.take (cutN (x :: r)) (x :: r)).length = cutN (x :: r) := by simp at hle ⊢; omega
        generalize ht : List.take (cutN (x :: r)) (x :: r) = t at *
        have hle2 : (List.drop (cutN (x :: r)) (x :: r)).length ≤ 9223372036854775806 := by simp only [List.length_drop]; omega
        have hdr : List.take ((x :: r).length - cutN (x :: r)) (List.drop (cutN (x :: r)) (x :: r)) = List.drop (cutN (x :: r)) (x :: r) := take_drop_len ..
        have ih := l37 (b := b) (w := w) k 15 (List.drop (cutN (x :: r)) (x :: r)) (O ++ [.cells 1 [.str t]]) [t] hle2 rfl (by simp) (by simp; omega) (by simp; omega)
        generalize cutN (x :: r) = n at *
        generalize ACode.loop code37L0 = LL at ih ⊢
        have hle' : n ≤ r.length + 1 := by simpa using hle
        have hdr' : List.take (r.length + 1 - n) (List.drop n (x :: r)) = List.drop n (x :: r) := by simpa using hdr
        have key : Meth38 b w k (xK T code37L0 ⟨[(5, .val (.slice none 0 (some 0))), (6, .val (.str (x :: r)))], ⟨O, b, w⟩⟩ (k := ⟨fun e st => nxK e st (f := ⟨fun st => xK T LL st (k := ⟨k⟩)⟩) (k := ⟨k⟩)⟩)) (O ++ [.cells 1 [.str t]]) [t] 6 5 (methA 15 (List.drop n (x :: r))) := by
          simp (maxSteps := 2000000) (disch := omega) [-getElem?_pos, -getElem?_neg, code37L0, e, hx, List.getElem?_cons_zero, iltT, h86, h0', Nat.testBit_eq_decide_div_mod_eq, hlt, Nat.min_eq_left, ileT, nleT, nltT, hdr', ht]
          simpa using ih
        cases hm : methA 15 (List.drop n (x :: r)) with
        | none =>
          rw [hm] at key
          obtain ⟨O', h1, h2⟩ := key
          exact ⟨O', by simp at h1; omega, h2⟩
        | some p =>
          obtain ⟨A, q⟩ := p
          rw [hm] at key
          obtain ⟨O', h1, h2⟩ := key
          refine ⟨O', by simp at h1; omega, h2.trans ?_⟩
          simp [Nat.add_comm 1, Nat.add_assoc]

end Go.Abs.AbsDesc

/-
  Layer 12: Method, by both texts: the same.
-/
namespace Go.Abs.AbsDesc
set_option maxRecDepth 100000
set_option linter.unusedSimpArgs false
variable {os : List AObj} {b w : Nat} {β : Type}

theorem Meth0.elim {k : AExit → St → Option β} {x y : Option β} {O : List AObj} {a2 a3 : Nat} {m : Option (List (List UInt8) × List UInt8)} (h : Meth0 b w k x O a2 a3 m)
    (h1 : ∀ O', m = none → O.length ≤ O'.length → k .ret ⟨[(2, .val (.slice none 0 (some 0))), (3, .val (.str [])), (4, .val (.int .i64 8))], ⟨O', b, w⟩⟩ = y)
    (h2 : ∀ r, m = some ([], r) → k (.exit 0) ⟨if a2 < a3 then [(a2, .val (.str r)), (a3, .val (.slice none 0 (some 0)))] else [(a3, .val (.slice none 0 (some 0))), (a2, .val (.str r))], ⟨O, b, w⟩⟩ = y)
    (h3 : ∀ O' a A r, m = some (a :: A, r) → O.length ≤ O'.length → k (.exit 0) ⟨if a2 < a3 then [(a2, .val (.str r)), (a3, .val (.slice (some (O'.length, 0)) (A.length + 1) none))] else [(a3, .val (.slice (some (O'.length, 0)) (A.length + 1) none)), (a2, .val (.str r))], ⟨O' ++ [.cells 1 ((a :: A).map AVal.str)], b, w⟩⟩ = y) : x = y := by
  cases m with
  | none =>
    obtain ⟨O', e1, e2⟩ := h
    exact e2.trans (h1 O' rfl e1)
  | some p =>
    obtain ⟨A, r⟩ := p
    cases A with
    | nil => exact (show x = _ from h).trans (h2 r rfl)
    | cons a A =>
      obtain ⟨O', e1, e2⟩ := h
      exact e2.trans (h3 O' a A r rfl e1)

/-- A method's types and what it gives. -/
def methL (s : List UInt8) : Option (List (List UInt8) × List UInt8) :=
  if begins 40 s then (match methA 16 s.tail with
    | some (A, r) => if begins 41 r && (decide (r.tail = [86]) || isTy r.tail) then some (A, r.tail) else none
    | none => none)
  else none

def methV (n : Nat) : Option (List (List UInt8) × List UInt8) → AVal
  | none => .tuple [.slice none 0 (some 0), .str [], .int .i64 8]
  | some ([], r) => .tuple [.slice none 0 (some 0), .str r, .int .i64 0]
  | some (a :: A, r) => .tuple [.slice (some (n, 0)) (A.length + 1) none, .str r, .int .i64 0]

def methO (os : List AObj) : Option (List (List UInt8) × List UInt8) → List AObj
  | some (a :: A, _) => os ++ [.cells 1 ((a :: A).map AVal.str)]
  | _ => os

theorem s38 {s : List UInt8} (hn : s.length ≤ 9223372036854775807) (hb : b ≤ os.length) : xCall T 38 [.str s] ⟨os, b, w⟩ = some (methV os.length (methL s), ⟨methO os (methL s), b, w⟩) := by
  have h85 := fun w => s85 (os := os) (b := b) (w := w) (s := s) (c := 40) (by omega)
  by_cases h : begins 40 s = true
  · cases s with
    | nil => simp [begins] at h
    | cons x q =>
      simp only [h, if_true, List.tail_cons] at h85
      simp only [List.length_cons] at hn
      have hm : methL (x :: q) = (match methA 16 q with
          | some (A, r) => if begins 41 r && (decide (r.tail = [86]) || isTy r.tail) then some (A, r.tail) else none
          | none => none) := by
        unfold methL; rw [if_pos h]; rfl
      rw [hm]
      simp (disch := omega) [-getElem?_pos, -getElem?_neg, List.getElem?_cons_zero, List.getElem?_cons_succ, xCallK t38, code38, h85]
      refine Meth0.elim (l38z _ q os (by omega) hb (Nat.le_refl _)) ?_ ?_ ?_
      · intro O' h1 h2
        simp (disch := omega) [-getElem?_pos, -getElem?_neg, List.getElem?_cons_zero, List.getElem?_cons_succ, code38, h1, methV, methO]
      · intro r h1
        have hr := (methA_len h1).2.1
        have h2 := fun w => s85 (os := os) (b := b) (w := w) (s := r) (c := 41) (by omega)
        have h3 := fun w => s27 (b := b) (w := w) (s := r.tail) (by simp; omega) hb
        by_cases c1 : begins 41 r = true <;> by_cases c2 : r.tail = [86] <;> by_cases c3 : isTy r.tail = true
        all_goals simp (disch := omega) [-getElem?_pos, -getElem?_neg, List.getElem?_cons_zero, List.getElem?_cons_succ, code38, h1, h2, h3, c1, c2, c3, methV, methO]
      · intro O' a A r h1 h2
        have hr := (methA_len h1).2.1
        have hb' : b ≤ (O' ++ [AObj.cells 1 ((a :: A).map AVal.str)]).length := by simp; omega
        have h4 := fun w => s85 (os := O' ++ [.cells 1 ((a :: A).map AVal.str)]) (b := b) (w := w) (s := r) (c := 41) (by omega)
        have h3 := fun w => s27 (os := O' ++ [.cells 1 ((a :: A).map AVal.str)]) (b := b) (w := w) (s := r.tail) (by simp; omega) hb'
        simp only [List.map_cons] at h4 h3
        by_cases c1 : begins 41 r = true <;> by_cases c2 : r.tail = [86] <;> by_cases c3 : isTy r.tail = true
        all_goals simp (disch := omega) [-getElem?_pos, -getElem?_neg, List.getElem?_cons_zero, List.getElem?_cons_succ, code38, h1, h4, h3, c1, c2, c3, methV, methO, nltF, reach_step, reach_done]
  · have hm : methL s = none := by unfold methL; rw [if_neg h]
    rw [hm]
    simp only [Bool.not_eq_true] at h
    simp only [h, Bool.false_eq_true, if_false] at h85
    simp (disch := omega) [-getElem?_pos, -getElem?_neg, List.getElem?_cons_zero, List.getElem?_cons_succ, xCallK t38, code38, h85, methV, methO]

end Go.Abs.AbsDesc

/-
  Layer 12: the reference's Method; rows of texts held against each other.
-/
namespace Go.Abs.AbsDesc
set_option maxRecDepth 100000
set_option linter.unusedSimpArgs false
variable {os : List AObj} {b w : Nat} {β : Type}

theorem methA_end : ∀ {m : Nat} {s : List UInt8} {A : List (List UInt8)} {r : List UInt8}, methA m s = some (A, r) → r = [] ∨ begins 41 r = true
  | m, s, A, r, h => by
    unfold methA at h
    split at h
    · rename_i hc
      cases h; exact hc
    · split at h
      · cases h
      · cases m with
        | zero => cases h
        | succ m =>
          simp only at h
          rw [Option.map_eq_some_iff] at h
          obtain ⟨p, h1, h2⟩ := h
          obtain ⟨rfl, rfl⟩ := Prod.mk.inj h2
          exact methA_end (A := p.1) (r := p.2) h1

theorem s37 {s : List UInt8} (hn : s.length ≤ 9223372036854775807) (hb : b ≤ os.length) : xCall T 37 [.str s] ⟨os, b, w⟩ = some (methV os.length (methL s), ⟨methO os (methL s), b, w⟩) := by
  cases s with
  | nil =>
    simp (disch := omega) [-getElem?_pos, -getElem?_neg, List.getElem?_cons_zero, List.getElem?_cons_succ, xCallK t37, code37, methL, begins, methV, methO]
  | cons x q =>
    have e : ((x.toNat : Int) = 40) = (x = 40) := u8_eq x 40 (by omega)
    simp only [List.length_cons] at hn
    by_cases h : x = 40
    · have hm : methL (x :: q) = (match methA 16 q with
          | some (A, r) => if begins 41 r && (decide (r.tail = [86]) || isTy r.tail) then some (A, r.tail) else none
          | none => none) := by
        unfold methL; rw [if_pos (by simp [begins, h])]; rfl
      rw [hm]
      simp (disch := omega) [-getElem?_pos, -getElem?_neg, List.getElem?_cons_zero, List.getElem?_cons_succ, xCallK t37, code37, e, h, iltT, ileT, nltT, nleT]
      refine Meth0.elim (l37z _ q os (by omega) hb (Nat.le_refl _)) ?_ ?_ ?_
      · intro O' h1 h2
        simp (disch := omega) [code37, h1, methV, methO]
      · intro r h1
        have hr := (methA_len h1).2.1
        rcases methA_end h1 with c0 | c1
        · subst c0
          simp (disch := omega) [-getElem?_pos, -getElem?_neg, List.getElem?_cons_zero, List.getElem?_cons_succ, code37, h1, begins, methV, methO]
        · cases r with
          | nil => simp [begins] at c1
          | cons y r =>
            simp only [List.length_cons] at hr
            have h3 := fun w => s28 (os := os) (b := b) (w := w) (s := r) (by omega)
            rcases Decidable.em (r = [86]) with c2 | c2
            · subst c2
              cases c3 : isTy [86]
              all_goals simp (disch := omega) [-getElem?_pos, -getElem?_neg, List.getElem?_cons_zero, List.getElem?_cons_succ, code37, h1, h3, c1, c3, methV, methO, iltT, ileT, nltT, nleT]
            by_cases c3 : isTy r = true
            all_goals simp (disch := omega) [-getElem?_pos, -getElem?_neg, List.getElem?_cons_zero, List.getElem?_cons_succ, code37, h1, h3, c1, c2, c3, methV, methO, iltT, ileT, nltT, nleT]
      · intro O' a A r h1 h2
        have hr := (methA_len h1).2.1
        rcases methA_end h1 with c0 | c1
        · subst c0
          simp (disch := omega) [-getElem?_pos, -getElem?_neg, List.getElem?_cons_zero, List.getElem?_cons_succ, code37, h1, begins, methV, methO]
        · cases r with
          | nil => simp [begins] at c1
          | cons y r =>
            simp only [List.length_cons] at hr
            have h3 := fun w => s28 (os := O' ++ [.cells 1 ((a :: A).map AVal.str)]) (b := b) (w := w) (s := r) (by omega)
            simp only [List.map_cons] at h3
            rcases Decidable.em (r = [86]) with c2 | c2
            · subst c2
              cases c3 : isTy [86]
              all_goals simp (disch := omega) [-getElem?_pos, -getElem?_neg, List.getElem?_cons_zero, List.getElem?_cons_succ, code37, h1, h3, c1, c3, methV, methO, nltF, nltT, iltT, ileT, nleT, reach_step, reach_done]
            by_cases c3 : isTy r = true
            all_goals simp (disch := omega) [-getElem?_pos, -getElem?_neg, List.getElem?_cons_zero, List.getElem?_cons_succ, code37, h1, h3, c1, c2, c3, methV, methO, nltF, nltT, iltT, ileT, nleT, reach_step, reach_done]
    · have hm : methL (x :: q) = none := by unfold methL; rw [if_neg (by simp [begins, h])]
      rw [hm]
      simp (disch := omega) [-getElem?_pos, -getElem?_neg, List.getElem?_cons_zero, List.getElem?_cons_succ, xCallK t37, code37, e, h, methV, methO, iltT, ileT, nltT, nleT]

end Go.Abs.AbsDesc

/-
  What runs over some functions runs so over more of them.
-/
namespace Go.Abs

theorem evCall_sub {T T' : Nat → Option AFunc} (hs : ∀ g f, T g = some f → T' g = some f) : ∀ n, CallLe (evCall T n) (evCall T' n)
  | 0 => fun _ _ _ r hr => by simp [evCall] at hr
  | n + 1 => fun g args h => by
    intro r hr
    have ih := evCall_sub hs n
    simp only [evCall] at hr ⊢
    cases hT : T g with
    | none => rw [hT] at hr; cases hr
    | some f =>
      rw [hT] at hr
      rw [hs g f hT]
      simp only at hr ⊢
      split at hr
      · exact evRound_mono ih (Nat.le_refl _) _ _ _ _ r hr
      · exact hr
      · exact wrapC_mono (fun args h => evFunc_mono ih (Nat.le_refl _) f args h) _ _ _ r hr

theorem xCall_sub {T T' : Nat → Option AFunc} (hs : ∀ g f, T g = some f → T' g = some f) {g : Nat} {args : List AVal} {h : Heap} {r : AVal × Heap} (he : xCall T g args h = some r) : xCall T' g args h = some r := by
  rw [xCall_iff] at he ⊢
  obtain ⟨n, hn⟩ := he
  exact ⟨n, evCall_sub hs n _ _ _ _ hn⟩

end Go.Abs

/-
  Maps whose entries are told by a list of pairs; loops over functions, symbolically.
-/
namespace Go.Abs

abbrev Str := List UInt8

section
variable {κ ν : Type} [DecidableEq κ]

def ents (kf : κ → AVal) (vf : ν → AVal) : Nat → List (κ × ν) → List (AVal × AVal × Nat)
  | _, [] => []
  | i, x :: r => (kf x.1, vf x.2, i) :: ents kf vf (i + 1) r

def getE : List (κ × ν) → κ → Option ν
  | [], _ => none
  | x :: r, k => if x.1 = k then some x.2 else getE r k

/-- Keys are told apart as the machine does. -/
def KeyF (kf : κ → AVal) : Prop := ∀ a b, akey (kf a) (kf b) = some (decide (a = b))

theorem keyStr : KeyF (AVal.str : Str → AVal) := fun _ _ => rfl

omit [DecidableEq κ] in
theorem ents_app (kf : κ → AVal) (vf : ν → AVal) : ∀ (A B : List (κ × ν)) (i : Nat), ents kf vf i (A ++ B) = ents kf vf i A ++ ents kf vf (i + A.length) B
  | [], B, i => by simp [ents]
  | x :: A, B, i => by
    have e : i + 1 + A.length = i + (A.length + 1) := by omega
    simp [ents, ents_app kf vf A B (i + 1), e]

omit [DecidableEq κ] in
theorem ents_length (kf : κ → AVal) (vf : ν → AVal) : ∀ (A : List (κ × ν)) (i : Nat), (ents kf vf i A).length = A.length
  | [], _ => rfl
  | x :: A, i => by simp [ents, ents_length kf vf A (i + 1)]

theorem getE_app (A B : List (κ × ν)) (k : κ) : getE (A ++ B) k = (getE A k).or (getE B k) := by
  induction A with
  | nil => rfl
  | cons x A ih =>
    rw [List.cons_append]
    simp only [getE]
    split
    · rfl
    · exact ih

theorem getE_none {A : List (κ × ν)} {k : κ} : getE A k = none ↔ ∀ x ∈ A, x.1 ≠ k := by
  induction A with
  | nil => simp [getE]
  | cons x A ih =>
    simp only [getE]
    split
    · rename_i h; simp [h]
    · rename_i h; rw [ih]; simp [h]

theorem getE_mem {A : List (κ × ν)} {k : κ} {v : ν} (h : getE A k = some v) : (k, v) ∈ A := by
  induction A with
  | nil => cases h
  | cons x A ih =>
    simp only [getE] at h
    split at h
    · rename_i e; cases h; subst e; exact List.mem_cons_self ..
    · exact List.mem_cons_of_mem _ (ih h)

theorem findA_none {kf : κ → AVal} {vf : ν → AVal} (hk : KeyF kf) {k : κ} : ∀ (A : List (κ × ν)) (i : Nat), getE A k = none → findA (kf k) (ents kf vf i A) = some none
  | [], _, _ => rfl
  | x :: A, i, h => by
    simp only [getE] at h
    split at h
    · cases h
    · rename_i e
      simp only [ents, findA, hk k x.1, decide_eq_false (show ¬ k = x.1 from fun e' => e e'.symm)]
      rw [findA_none hk A (i + 1) h]
      rfl

theorem findA_some {kf : κ → AVal} {vf : ν → AVal} (hk : KeyF kf) {k : κ} {v : ν} : ∀ (A : List (κ × ν)) (i : Nat), getE A k = some v → ∃ j, findA (kf k) (ents kf vf i A) = some (some (j, vf v))
  | [], _, h => by cases h
  | x :: A, i, h => by
    simp only [getE] at h
    split at h
    · rename_i e
      cases h
      exact ⟨0, by simp only [ents, findA, hk k x.1, decide_eq_true (show k = x.1 from e.symm)]⟩
    · rename_i e
      obtain ⟨j, hj⟩ := findA_some (vf := vf) hk A (i + 1) h
      exact ⟨j + 1, by simp only [ents, findA, hk k x.1, decide_eq_false (show ¬ k = x.1 from fun e' => e e'.symm), hj]; rfl⟩

/-- A map's object. -/
def mObj (kf : κ → AVal) (vf : ν → AVal) (A : List (κ × ν)) : AObj := .map (ents kf vf 0 A) A.length

variable {os : List AObj} {b w r : Nat} {A : List (κ × ν)} {kf : κ → AVal} {vf : ν → AVal}

theorem lookup_ok (hk : KeyF kf) (h : os[r]? = some (mObj kf vf A)) {kn : KeyT} {zero : AVal} {k : κ} (hi : isKey kn (kf k) = true) :
    evExt (.lookup kn zero true) [.map (some r), kf k] ⟨os, b, w⟩ = some (.tuple [((getE A k).map vf).getD zero, .bool (getE A k).isSome], ⟨os, b, w⟩) := by
  simp only [evExt, hi, entriesOf, Heap.get, h, mObj, if_true]
  cases hg : getE A k with
  | none => simp only [findA_none hk A 0 hg]; rfl
  | some v =>
    obtain ⟨j, hj⟩ := findA_some (vf := vf) hk A 0 hg
    simp only [hj]; rfl

theorem lookup_v (hk : KeyF kf) (h : os[r]? = some (mObj kf vf A)) {kn : KeyT} {zero : AVal} {k : κ} (hi : isKey kn (kf k) = true) :
    evExt (.lookup kn zero false) [.map (some r), kf k] ⟨os, b, w⟩ = some (((getE A k).map vf).getD zero, ⟨os, b, w⟩) := by
  simp only [evExt, hi, entriesOf, Heap.get, h, mObj, if_true]
  cases hg : getE A k with
  | none => simp only [findA_none hk A 0 hg]; rfl
  | some v =>
    obtain ⟨j, hj⟩ := findA_some (vf := vf) hk A 0 hg
    simp only [hj]; rfl

theorem upd_new (hk : KeyF kf) (h : os[r]? = some (mObj kf vf A)) {kn : KeyT} {k : κ} (v : ν) (hi : isKey kn (kf k) = true) (hb : b ≤ r) (hg : getE A k = none) :
    evExt (.mapupd kn) [.map (some r), kf k, vf v] ⟨os, b, w⟩ = some (.tuple [], ⟨os.set r (mObj kf vf (A ++ [(k, v)])), b, min w r⟩) := by
  simp only [evExt, hi, Heap.get, h, mObj, hb, and_self, if_true]
  simp only [findA_none hk A 0 hg, Heap.put]
  rw [ents_app, Nat.zero_add, List.length_append]
  rfl

omit [DecidableEq κ] in
theorem len_map (h : os[r]? = some (mObj kf vf A)) : evLen .map (.map (some r)) ⟨os, b, w⟩ = some (.int .i64 A.length) := by
  simp only [evLen, Heap.get, h, mObj, ents_length]

end

theorem get_k {α : Type} (a c : List α) (k : Nat) : (a ++ c)[a.length + k]? = c[k]? := by
  rw [List.getElem?_append_right (by omega)]; congr 1; omega
theorem get_k0 {α : Type} (a c : List α) : (a ++ c)[a.length]? = c[0]? := get_k a c 0
theorem set_k {α : Type} (a c : List α) (k : Nat) (y : α) : (a ++ c).set (a.length + k) y = a ++ c.set k y := by
  rw [List.set_append_right _ _ (by omega)]; congr 2; omega
theorem set_k0 {α : Type} (a c : List α) (y : α) : (a ++ c).set a.length y = a ++ c.set 0 y := set_k a c 0 y

/-! ## Rounds of loops over functions -/

theorem xRoundK {T : Nat → Option AFunc} {g : Nat} {f : AFunc} {rd : ARound} (hT : T g = some f) (hr : f.round = some (.round rd)) (i j : Nat) (as : List AVal) (h : Heap) :
    xCall T g (.ptr (some (i, j)) :: as) h = mustK (as.length = rd.params.length ∧ h.base ≤ i) (f := ⟨fun _ => andThen (roundSlots i rd.params as h) (f := ⟨fun s => xK T rd.assign ⟨s, { h with wmin := h.size }⟩
      (k := ⟨fun e st => andThen (roundIn g i (some (e, st))) (f := ⟨fun st => xK T rd.body st (k := ⟨fun e st => roundOut h g i (some (e, st))⟩)⟩)⟩)⟩)⟩) := by
  rw [xRound_eq T hT hr]
  unfold xRound mustK
  simp only
  split
  · cases roundSlots i rd.params as h with
    | none => rfl
    | some s =>
      simp only [andThen_some]
      unfold xK
      cases xCode T rd.assign ⟨s, { h with wmin := h.size }⟩ with
      | none => rfl
      | some x =>
        obtain ⟨e, st⟩ := x
        simp only [andThen_some]
        cases roundIn g i (some (e, st)) with
        | none => rfl
        | some st =>
          simp only [andThen_some]
          cases xCode T rd.body st with
          | none => rfl
          | some y => rfl
  · rfl

/-- What a call leaves behind, when it has written to nothing that was there. -/
theorem finish_keep {h0 h : Heap} {v : AVal} {k : List Nat} (hw : h0.size ≤ h.wmin) (hv : v.under h0.size = false) (hr : reach h h0.size 1000 v.ids [] = k) (hok : ∀ i ∈ v.ids ++ k.flatMap fun i => ((h.get i).map AObj.ids).getD [], i < h0.size ∨ i ∈ k) :
    finish h0 v h = (v.ren (fun i => if i < h0.size then i else h0.size + idxIn i k), { h0 with objs := h0.objs ++ k.map fun i => ((h.get i).map (AObj.ren fun i => if i < h0.size then i else h0.size + idxIn i k)).getD .dead }) := by
  unfold finish
  rw [if_neg (by omega), hv]
  simp only [Bool.false_eq_true, if_false, hr]
  rw [if_pos]
  rw [List.all_eq_true]
  intro i hi
  rcases hok i hi with h1 | h1
  · rw [decide_eq_true h1]; rfl
  · simp [h1]

end Go.Abs

/-
  Units, as data, and where they lie.
-/
namespace Go.Abs

structure FieldU where
  st : Bool
  name : Str
  desc : Str

structure InsU where
  op : Int
  n : Int
  m : Int
  cls : Str
  name : Str
  desc : Str
  text : Str

structure TrapU where
  lo : Int
  hi : Int
  at' : Int
  cls : Str

structure MapU where
  at' : Int
  locals : List Str
  la : Option (Nat × Nat)
  lc : Option Nat
  stack : List Str
  sa : Option (Nat × Nat)
  sc : Option Nat

structure MethU where
  st : Bool
  name : Str
  desc : Str
  stack : Int
  locals : Int
  code : List InsU
  ca : Option (Nat × Nat)
  cc : Option Nat
  traps : List TrapU
  ta : Option (Nat × Nat)
  tc : Option Nat
  maps : List MapU
  xa : Option (Nat × Nat)
  xc : Option Nat

structure UnitU where
  name : Str
  super : Str
  fields : List FieldU
  fa : Option (Nat × Nat)
  fc : Option Nat
  meths : List MethU
  ma : Option (Nat × Nat)
  mc : Option Nat

def FieldU.cells (f : FieldU) : List AVal := [.bool f.st, .str f.name, .str f.desc]
def InsU.cells (x : InsU) : List AVal := [.int .u8 x.op, .int .i64 x.n, .int .i64 x.m, .str x.cls, .str x.name, .str x.desc, .str x.text]
def TrapU.cells (x : TrapU) : List AVal := [.int .i64 x.lo, .int .i64 x.hi, .int .i64 x.at', .str x.cls]
def MapU.cells (x : MapU) : List AVal := [.int .i64 x.at', .slice x.la x.locals.length x.lc, .slice x.sa x.stack.length x.sc]
def MethU.cells (m : MethU) : List AVal := [.bool m.st, .str m.name, .str m.desc, .int .i64 m.stack, .int .i64 m.locals, .slice m.ca m.code.length m.cc, .slice m.ta m.traps.length m.tc, .slice m.xa m.maps.length m.xc]
def UnitU.cells (u : UnitU) : List AVal := [.str u.name, .str u.super, .slice u.fa u.fields.length u.fc, .slice u.ma u.meths.length u.mc]
def strC (s : Str) : List AVal := [.str s]

abbrev big : Nat := 9223372036854775807

/-- Where a row lies: below n. -/
def under (n : Nat) (a : Option (Nat × Nat)) : Prop := ∀ i o, a = some (i, o) → i < n

structure MapU.ok (os : List AObj) (x : MapU) : Prop where
  l : Row os 1 strC x.locals x.la
  ln : x.locals.length ≤ big
  lu : under os.length x.la
  s : Row os 1 strC x.stack x.sa
  sn : x.stack.length ≤ big
  su : under os.length x.sa
  ls : ∀ t ∈ x.locals ++ x.stack, t.length ≤ big

structure MethU.ok (os : List AObj) (m : MethU) : Prop where
  name : m.name.length ≤ big
  desc : m.desc.length ≤ big
  c : Row os 7 InsU.cells m.code m.ca
  cn : m.code.length ≤ big
  cu : under os.length m.ca
  cok : ∀ x ∈ m.code, x.cls.length ≤ big ∧ x.name.length ≤ big ∧ x.desc.length ≤ big ∧ x.text.length ≤ big
  t : Row os 4 TrapU.cells m.traps m.ta
  tn : m.traps.length ≤ big
  tu : under os.length m.ta
  tok : ∀ x ∈ m.traps, x.cls.length ≤ big
  x : Row os 3 MapU.cells m.maps m.xa
  xn : m.maps.length ≤ big
  xu : under os.length m.xa
  xok : ∀ x ∈ m.maps, x.ok os

structure UnitU.ok (os : List AObj) (u : UnitU) : Prop where
  name : u.name.length ≤ big
  super : u.super.length ≤ big
  f : Row os 3 FieldU.cells u.fields u.fa
  fn : u.fields.length ≤ big
  fu : under os.length u.fa
  fok : ∀ x ∈ u.fields, x.name.length ≤ big ∧ x.desc.length ≤ big
  m : Row os 8 MethU.cells u.meths u.ma
  mn : u.meths.length ≤ big
  mu : under os.length u.ma
  mok : ∀ x ∈ u.meths, x.ok os

/-! ## What was there is as it was -/

def Pre (os O : List AObj) : Prop := ∀ (i : Nat) (o : AObj), os[i]? = some o → O[i]? = some o
theorem Pre.refl (os : List AObj) : Pre os os := fun _ _ h => h
theorem Pre.trans {A B C : List AObj} (h : Pre A B) (k : Pre B C) : Pre A C := fun i o ho => k i o (h i o ho)
theorem Pre.app (os X : List AObj) : Pre os (os ++ X) := fun i o h => by rw [List.getElem?_append_left (lt_of_get h)]; exact h
theorem Pre.set {A B : List AObj} (h : Pre A B) {i : Nat} (o : AObj) (hi : A.length ≤ i) : Pre A (B.set i o) := fun j p hj => by
  have := lt_of_get hj
  rw [List.getElem?_set_ne (by omega)]; exact h j p hj
theorem Pre.len {A B : List AObj} (h : Pre A B) : A.length ≤ B.length := by
  rcases Nat.lt_or_ge B.length A.length with h1 | h1
  · have h2 : B.length < A.length := h1
    have := lt_of_get (h B.length A[B.length] (by simp [h2]))
    omega
  · exact h1
theorem Pre.row {os O : List AObj} {α : Type} {e : Nat} {f : α → List AVal} {L : List α} {a : Option (Nat × Nat)} (hp : Pre os O) (h : Row os e f L a) : Row O e f L a :=
  ⟨fun hne => by
    obtain ⟨b, o, cs, h1, h2, h3⟩ := h.at' hne
    exact ⟨b, o, cs, h1, hp _ _ h2, h3⟩⟩
theorem under.le {n m : Nat} {a : Option (Nat × Nat)} (h : under n a) (hm : n ≤ m) : under m a := fun i o e => Nat.lt_of_lt_of_le (h i o e) hm
theorem MapU.ok.pre {os O : List AObj} (hp : Pre os O) {x : MapU} (h : x.ok os) : x.ok O := ⟨hp.row h.l, h.ln, h.lu.le hp.len, hp.row h.s, h.sn, h.su.le hp.len, h.ls⟩
theorem MethU.ok.pre {os O : List AObj} (hp : Pre os O) {m : MethU} (h : m.ok os) : m.ok O :=
  ⟨h.name, h.desc, hp.row h.c, h.cn, h.cu.le hp.len, h.cok, hp.row h.t, h.tn, h.tu.le hp.len, h.tok, hp.row h.x, h.xn, h.xu.le hp.len, fun x hx => (h.xok x hx).pre hp⟩
theorem UnitU.ok.pre {os O : List AObj} (hp : Pre os O) {u : UnitU} (h : u.ok os) : u.ok O :=
  ⟨h.name, h.super, hp.row h.f, h.fn, h.fu.le hp.len, h.fok, hp.row h.m, h.mn, h.mu.le hp.len, fun x hx => (h.mok x hx).pre hp⟩

theorem under_val {n m : Nat} {a : Option (Nat × Nat)} {c : Option Nat} (h : under n a) : AVal.under n (.slice a m c) = true := by
  cases a with
  | none => rfl
  | some p => obtain ⟨i, o⟩ := p; simp [AVal.under, h i o rfl]

/-- What a unit's rows lie below. -/
structure UnitU.low (n : Nat) (u : UnitU) : Prop where
  f : under n u.fa
  m : under n u.ma
theorem UnitU.ok.low {O : List AObj} {u : UnitU} (h : u.ok O) : u.low O.length := ⟨h.fu, h.mu⟩

/-! ## From what comes in -/

section
variable {os : List AObj} {w : Nat}

def shIns : Sh := .struct [.int .u8, .int .i64, .int .i64, .str, .str, .str, .str]
def shTrap : Sh := .struct [.int .i64, .int .i64, .int .i64, .str]
def shMap : Sh := .struct [.int .i64, .slice .str, .slice .str]
def shMeth : Sh := .struct [.bool, .str, .str, .int .i64, .int .i64, .slice shIns, .slice shTrap, .slice shMap]
def shField : Sh := .struct [.bool, .str, .str]
def shUnit : Sh := .struct [.str, .str, .slice shField, .slice shMeth]

end
end Go.Abs

/-
  The code of the functions, for the abstract machine: printed by a program.
-/
namespace Go.Abs.AbsHier
set_option maxRecDepth 100000
open Go.Abs.Short
-- base: AbsDesc
def code47 : AFunc := ⟨false, false, 3, 92, [.tmp 6],
  .seq (R [0, 1, 2] [o 6 (.val F)])
  (.seq (.seq (R [0, 1, 2, 28] [v 15 0, o 16 (.eqnil .ptr false (t 15) (.const (.ptr none))), v 17 16, g 18 17 false (.val (t 0)), g 19 17 false (.val (t 1)), g 20 17 false (.callg 103 [t 18, t 19]), g 21 17 false (.un .not (t 20)), o 22 (.pick (t 17) Y (t 21)), v 23 22, g 24 23 false (.val (t 0)), g 25 23 false (.val (t 2)), g 26 23 false (.callg 103 [t 24, t 25]), g 27 23 false (.un .not (t 26)), o 28 (.pick (t 23) Y (t 27))])
  (.after (.cond (t 28) (.seq (R [6] [o 6 (.val F)])
  (.live [6] (.ret))) (.skip)) [0, 1, 2]))
  (.seq (R [0, 1, 2, 7, 8] [v 30 1, o 31 (.callg 34 [t 30]), v 29 31, o 32 (.extract (t 29) 0), o 33 (.extract (t 29) 1), v 7 32, v 8 33])
  (.seq (R [0, 1, 2, 7, 8, 9, 10] [v 35 2, o 36 (.callg 34 [t 35]), v 34 36, o 37 (.extract (t 34) 0), o 38 (.extract (t 34) 1), v 9 37, v 10 38])
  (.seq (R [0, 1, 2, 7, 8, 9, 10, 11, 12] [v 40 1, o 41 (.callg 36 [t 40]), v 39 41, o 42 (.extract (t 39) 0), o 43 (.extract (t 39) 1), v 11 42, v 12 43])
  (.seq (R [0, 1, 2, 7, 8, 9, 10, 11, 12, 13, 14] [v 45 2, o 46 (.callg 36 [t 45]), v 44 46, o 47 (.extract (t 44) 0), o 48 (.extract (t 44) 1), v 13 47, v 14 48])
  (.seq (.after (.block 0 (.seq (R [0, 1, 2, 7, 8, 9, 10, 11, 12, 13, 14, 49] [v 50 1, v 51 2, o 52 (.bin .eql (t 50) (t 51)), v 49 52])
  (.after (.cond (t 49) (.seq (R [6] [o 6 (.val Y)])
  (.live [6] (.ret))) (.seq (R [0, 2, 7, 8, 9, 10, 11, 12, 13, 14, 53] [v 54 1, o 55 (.bin .eql (t 54) (.const (.str [78]))), v 53 55])
  (.after (.cond (t 53) (.seq (R [6] [v 56 2, o 57 (.callg 30 [t 56]), v 6 57])
  (.live [6] (.ret))) (.seq (R [0, 7, 9, 10, 11, 12, 13, 14, 58] [v 59 8, v 60 59, g 61 60 true (.val (t 10)), o 62 (.pick (t 60) (t 61) F), v 58 62])
  (.after (.cond (t 58) (.seq (R [6] [v 63 0, v 64 7, v 65 9, o 66 (.callg 52 [t 63, t 64, t 65]), v 6 66])
  (.live [6] (.ret))) (.seq (R [0, 9, 11, 12, 13, 14, 67] [v 68 12, v 69 68, g 70 69 true (.val (t 10)), o 71 (.pick (t 69) (t 70) F), v 67 71])
  (.after (.cond (t 67) (.seq (R [6] [v 72 9, o 73 (.bin .eql (t 72) (.const (.str [79, 98, 106, 101, 99, 116]))), v 6 73])
  (.live [6] (.ret))) (.skip)) [0, 11, 12, 13, 14]))) [0, 11, 12, 13, 14]))) [0, 11, 12, 13, 14]))) [0, 11, 12, 13, 14]))) [0, 11, 12, 13, 14])
  (.seq (R [6] [v 74 12, v 75 74, g 76 75 true (.val (t 14)), o 77 (.pick (t 75) (t 76) F), v 78 77, g 79 78 true (.val (t 11)), g 80 78 true (.callg 30 [t 79]), o 81 (.pick (t 78) (t 80) F), v 82 81, g 83 82 true (.val (t 13)), g 84 82 true (.callg 30 [t 83]), o 85 (.pick (t 82) (t 84) F), v 86 85, g 87 86 true (.val (t 0)), g 88 86 true (.val (t 11)), g 89 86 true (.val (t 13)), g 90 86 true (.callg 47 [t 87, t 88, t 89]), o 91 (.pick (t 86) (t 90) F), v 6 91])
  (.live [6] (.ret))))))))), none⟩
def code49L0 : ACode :=
  .live [4, 69, 70, 71] (.seq (R [4, 69, 70, 71, 72] [o 72 (.bin .lss (t 71) (t 70))])
  (.seq (.after (.cond (t 72) (.skip) (.live [4] (.exit 4))) [4, 69, 70, 71])
  (.seq (.after (.block 5 (.seq (R [4, 10, 69, 70, 71] [o 73 (.iaddr 4 (t 69) (t 71)), o 74 (.load (some 4) (t 73)), o 10 (.lalloc [.str [], .str [], .slice none 0 (some 0), .slice none 0 (some 0)]), u (.store 4 (t 10) (t 74))])
  (.seq (R [4, 69, 70, 71, 78] [v 75 4, o 76 (.load (some 4) (t 10)), o 77 (.callg 97 [t 75, t 76]), o 78 (.un .not (t 77))])
  (.after (.cond (t 78) (.seq (R [2, 3] [o 2 (.val (.const (.ptr none))), o 3 (.val (n 15))])
  (.live [2, 3] (.ret))) (.skip)) [4, 69, 70, 71])))) [4, 69, 70, 71])
  (R [4, 69, 70, 71] [o 79 (.bin .add (t 71) (n 1)), v 71 79]))))
def code49L1 : ACode :=
  .live [0, 4, 45, 46, 47] (.seq (R [0, 4, 45, 46, 47, 48] [o 48 (.bin .lss (t 47) (t 46))])
  (.seq (.after (.cond (t 48) (.skip) (.live [0, 4] (.exit 2))) [0, 4, 45, 46, 47])
  (.seq (.after (.block 3 (.seq (R [0, 4, 8, 45, 46, 47] [o 49 (.iaddr 4 (t 45) (t 47)), o 50 (.load (some 4) (t 49)), o 8 (.lalloc [.str [], .str [], .slice none 0 (some 0), .slice none 0 (some 0)]), u (.store 4 (t 8) (t 50))])
  (.seq (R [0, 4, 45, 46, 47, 67] [v 51 4, o 52 (.faddr (t 8) 0), o 53 (.load none (t 52)), o 54 (.callg 98 [t 51, t 53]), o 55 (.un .not (t 54)), v 56 55, g 57 56 false (.val (t 4)), g 58 56 false (.load (some 4) (t 8)), g 59 56 false (.callg 99 [t 57, t 58]), g 60 56 false (.un .not (t 59)), o 61 (.pick (t 56) Y (t 60)), v 62 61, g 63 62 false (.val (t 4)), g 64 62 false (.load (some 4) (t 8)), g 65 62 false (.callg 100 [t 63, t 64]), g 66 62 false (.un .not (t 65)), o 67 (.pick (t 62) Y (t 66))])
  (.after (.cond (t 67) (.seq (R [2, 3] [o 2 (.val (.const (.ptr none))), o 3 (.val (n 15))])
  (.live [2, 3] (.ret))) (.skip)) [0, 4, 45, 46, 47])))) [0, 4, 45, 46, 47])
  (R [0, 4, 45, 46, 47] [o 68 (.bin .add (t 47) (n 1)), v 47 68]))))
def code49L2 : ACode :=
  .live [0, 4, 15, 16, 17] (.seq (R [0, 4, 15, 16, 17, 18] [o 18 (.bin .lss (t 17) (t 16))])
  (.seq (.after (.cond (t 18) (.skip) (.live [0, 4] (.exit 0))) [0, 4, 15, 16, 17])
  (.seq (.after (.block 1 (.seq (R [0, 4, 6, 15, 16, 17] [o 19 (.iaddr 4 (t 15) (t 17)), o 20 (.load (some 4) (t 19)), o 6 (.lalloc [.str [], .str [], .slice none 0 (some 0), .slice none 0 (some 0)]), u (.store 4 (t 6) (t 20))])
  (.seq (.seq (R [0, 4, 6, 15, 16, 17, 35] [v 21 4, o 22 (.faddr (t 6) 0), o 23 (.load none (t 22)), o 24 (.callg 54 [t 21, t 23]), v 25 24, g 26 25 false (.faddr (t 6) 0), g 27 25 false (.load none (t 26)), g 28 25 false (.callg 25 [t 27]), g 29 25 false (.un .not (t 28)), o 30 (.pick (t 25) Y (t 29)), v 31 30, g 32 31 false (.faddr (t 6) 1), g 33 31 false (.load none (t 32)), g 34 31 false (.bin .eql (t 33) (.const (.str [115, 121, 115]))), o 35 (.pick (t 31) Y (t 34))])
  (.after (.cond (t 35) (.seq (R [2, 3] [o 2 (.val (.const (.ptr none))), o 3 (.val (n 15))])
  (.live [2, 3] (.ret))) (.skip)) [0, 4, 6, 15, 16, 17]))
  (.after (.region [⟨true, [], [v 36 4, o 37 (.nilcheck (t 36)), o 38 (.faddr (t 37) 0), o 39 (.load none (t 38)), o 40 (.faddr (t 6) 0), o 41 (.load none (t 40)), o 42 (.faddr (t 6) 1), o 43 (.load none (t 42))]⟩, ⟨false, [], [u (.ext (.mapupd (.one .s)) [t 39, t 41, t 43])]⟩]) [0, 4, 15, 16, 17])))) [0, 4, 15, 16, 17])
  (R [0, 4, 15, 16, 17] [o 44 (.bin .add (t 17) (n 1)), v 17 44]))))
def code49 : AFunc := ⟨false, false, 1, 81, [.tmp 2, .tmp 3],
  .seq (R [0] [o 2 (.val (.const (.ptr none))), o 3 (.val (n 0))])
  (.seq (R [0, 4] [o 11 (.callg 284 []), v 4 11])
  (.seq (.seq (R [0, 4, 14] [v 12 0, o 13 (.len .sl (t 12)), o 14 (.bin .gtr (t 13) (n 32))])
  (.after (.cond (t 14) (.seq (R [2, 3] [o 2 (.val (.const (.ptr none))), o 3 (.val (n 15))])
  (.live [2, 3] (.ret))) (.skip)) [0, 4]))
  (.seq (.seq (R [0, 4, 15, 16, 17] [v 15 0, o 16 (.len .sl (t 15)), o 17 (.val (n 0))])
  (.after (.block 0 (.loop code49L2)) [0, 4]))
  (.seq (.seq (R [0, 4, 45, 46, 47] [v 45 0, o 46 (.len .sl (t 45)), o 47 (.val (n 0))])
  (.after (.block 2 (.loop code49L1)) [0, 4]))
  (.seq (.seq (R [4, 69, 70, 71] [v 69 0, o 70 (.len .sl (t 69)), o 71 (.val (n 0))])
  (.after (.block 4 (.loop code49L0)) [4]))
  (.seq (R [2, 3] [v 80 4, v 2 80, o 3 (.val (n 0))])
  (.live [2, 3] (.ret)))))))), none⟩
def code50 : AFunc := ⟨true, false, 0, 52, [.tmp 0],
  .seq (R [] [o 0 (.val F)])
  (.seq (R [1, 2] [o 8 (.callg 49 [.const (.slice none 0 (some 0))]), v 7 8, o 9 (.extract (t 7) 0), o 10 (.extract (t 7) 1), v 1 9, v 2 10])
  (.seq (R [1, 2, 4] [o 12 (.build [.str [], .str [], .slice none 0 (some 0), .slice none 0 (some 0)] [(0, 1, .const (.str [79, 98, 106, 101, 99, 116])), (1, 1, .const (.str [79, 98, 106, 101, 99, 116]))]), o 13 (.mkslice 4 1 [.str [], .str [], .slice none 0 (some 0), .slice none 0 (some 0)] [(0, 4, t 12)]), o 14 (.callg 49 [t 13]), v 11 14, o 15 (.extract (t 11) 0), o 16 (.extract (t 11) 1), v 3 15, v 4 16])
  (.seq (R [1, 2, 4, 5, 6] [v 18 1, o 19 (.callg 96 [t 18, .const (.str [84, 104, 114, 111, 119, 97, 98, 108, 101])]), v 17 19, o 20 (.extract (t 17) 0), o 21 (.extract (t 17) 1), v 5 20, v 6 21])
  (.seq (R [0] [v 22 2, o 23 (.bin .eql (t 22) (n 0)), v 24 23, g 25 24 true (.val (t 4)), g 26 24 true (.bin .eql (t 25) (n 15)), o 27 (.pick (t 24) (t 26) F), v 28 27, g 29 28 true (.val (t 5)), g 30 28 true (.bin .eql (t 29) (.const (.str [79, 98, 106, 101, 99, 116]))), o 31 (.pick (t 28) (t 30) F), v 32 31, g 33 32 true (.val (t 6)), o 34 (.pick (t 32) (t 33) F), v 35 34, g 36 35 true (.val (t 1)), g 37 35 true (.callg 52 [t 36, .const (.str [84, 104, 114, 111, 119, 97, 98, 108, 101]), .const (.str [79, 98, 106, 101, 99, 116])]), o 38 (.pick (t 35) (t 37) F), v 39 38, g 40 39 true (.val (t 1)), g 41 39 true (.callg 47 [t 40, .const (.str [78]), .const (.str [91, 73])]), o 42 (.pick (t 39) (t 41) F), v 43 42, g 44 43 true (.val (t 1)), g 45 43 true (.callg 47 [t 44, .const (.str [91, 73]), .const (.str [91, 66])]), g 46 43 true (.un .not (t 45)), o 47 (.pick (t 43) (t 46) F), v 48 47, g 49 48 true (.val (t 1)), g 50 48 true (.callg 95 [t 49, .const (.str [115, 121, 115]), .const (.str [112, 114, 105, 110, 116]), .const (.str [40, 73, 41, 86])]), o 51 (.pick (t 48) (t 50) F), v 0 51])
  (.live [0] (.ret)))))), none⟩
def rcode320a : ACode :=
  R [5, 6, 7] [v 7 13]
def rcode320b : ACode :=
  .after (.block 1 (.seq (R [6, 16] [v 14 7, o 15 (.load none (t 5)), o 16 (.bin .eql (t 14) (t 15))])
  (.after (.cond (t 16) (.seq (R [] [u (.store 1 (t 6) Y)])
  (.live [] (.ret))) (.skip)) []))) []
def round320 : ARound := ⟨[13], rcode320a, rcode320b⟩
def code320 : AFunc := ⟨false, false, 0, 0, [], .skip, some (.round round320)⟩
def code52 : AFunc := ⟨false, false, 3, 17, [.cell 6 none],
  .seq (R [0, 1, 5, 6] [o 5 (.box (t 2)), o 6 (.alloc 1 [.bool false])])
  (.seq (.seq (R [0, 1, 5, 6, 9] [v 8 0, o 9 (.eqnil .ptr false (t 8) (.const (.ptr none)))])
  (.after (.cond (t 9) (.seq (R [6] [u (.store 1 (t 6) F)])
  (.live [6] (.ret))) (.skip)) [0, 1, 5, 6]))
  (.seq (.seq (R [5, 6, 12] [v 10 0, v 11 1, o 12 (.callg 156 [t 10, t 11])])
  (.after (.block 0 (.after (.rangeFunc (t 12) 320 [5, 6] [13] rcode320a rcode320b) [6])) [6]))
  (.seq (R [6] [u (.store 1 (t 6) F)])
  (.live [6] (.ret))))), none⟩
def code54 : AFunc := ⟨false, false, 2, 14, [.tmp 4],
  .seq (R [0, 1] [o 4 (.val F)])
  (.seq (R [6] [v 8 0, v 9 1, o 10 (.callg 96 [t 8, t 9]), v 7 10, o 11 (.extract (t 7) 0), o 12 (.extract (t 7) 1), v 5 11, v 6 12])
  (.seq (R [4] [v 13 6, v 4 13])
  (.live [4] (.ret)))), none⟩
def code95 : AFunc := ⟨false, false, 4, 22, [.tmp 8],
  .seq (R [0, 1, 2, 3] [o 8 (.val F)])
  (.seq (R [8] [v 9 0, o 10 (.eqnil .ptr true (t 9) (.const (.ptr none))), v 11 10, g 12 11 true (.val (t 0)), g 13 11 true (.nilcheck (t 12)), g 14 11 true (.faddr (t 13) 3), g 15 11 true (.load none (t 14)), g 16 11 true (.val (t 1)), g 17 11 true (.val (t 2)), g 18 11 true (.val (t 3)), g 19 11 true (.build [.str [], .str [], .str []] [(0, 1, t 16), (1, 1, t 17), (2, 1, t 18)]), g 20 11 true (.ext (.lookup (.agg [.s, .s, .s]) (.bool false) false) [t 15, t 19]), o 21 (.pick (t 11) (t 20) F), v 8 21])
  (.live [8] (.ret))), none⟩
def code96 : AFunc := ⟨false, false, 2, 21, [.tmp 4, .tmp 5],
  .seq (R [0, 1] [o 4 (.val (.const (.str []))), o 5 (.val F)])
  (.seq (.seq (R [0, 1, 9] [v 8 0, o 9 (.eqnil .ptr false (t 8) (.const (.ptr none)))])
  (.after (.cond (t 9) (.seq (R [4, 5] [o 4 (.val (.const (.str []))), o 5 (.val F)])
  (.live [4, 5] (.ret))) (.skip)) [0, 1]))
  (.seq (R [6, 7] [v 11 0, o 12 (.nilcheck (t 11)), o 13 (.faddr (t 12) 0), o 14 (.load none (t 13)), v 15 1, o 16 (.ext (.lookup (.one .s) (.str []) true) [t 14, t 15]), v 10 16, o 17 (.extract (t 10) 0), o 18 (.extract (t 10) 1), v 6 17, v 7 18])
  (.seq (R [4, 5] [v 19 6, v 20 7, v 4 19, v 5 20])
  (.live [4, 5] (.ret))))), none⟩
def rcode322a : ACode :=
  R [2, 4, 6, 7] [v 7 21]
def rcode322b : ACode :=
  .after (.block 3 (.seq (.after (.region [⟨true, [], [o 23 (.load none (t 2)), o 24 (.nilcheck (t 23)), o 25 (.faddr (t 24) 2), o 26 (.load none (t 25)), v 27 7, o 28 (.faddr (t 6) 1), o 29 (.load none (t 28)), o 30 (.faddr (t 6) 2), o 31 (.load none (t 30)), o 32 (.build [.str [], .str [], .str []] [(0, 1, t 27), (1, 1, t 29), (2, 1, t 31)]), o 33 (.ext (.lookup (.agg [.s, .s, .s]) (.agg [.str [], .bool false]) true) [t 26, t 32]), v 22 33, o 34 (.extract (t 22) 0), o 35 (.extract (t 22) 1), o 8 (.lalloc [.str [], .bool false]), u (.store 2 (t 8) (t 34))]⟩, ⟨false, [], [v 9 35]⟩]) [4, 6, 8, 9])
  (.seq (R [4, 43] [v 36 9, v 37 36, g 38 37 true (.faddr (t 8) 1), g 39 37 true (.load none (t 38)), g 40 37 true (.faddr (t 6) 0), g 41 37 true (.load none (t 40)), g 42 37 true (.beq true (t 39) (t 41)), o 43 (.pick (t 37) (t 42) F)])
  (.after (.cond (t 43) (.seq (R [] [u (.store 1 (t 4) F)])
  (.live [] (.ret))) (.skip)) [])))) []
def round322 : ARound := ⟨[21], rcode322a, rcode322b⟩
def code322 : AFunc := ⟨false, false, 0, 0, [], .skip, some (.round round322)⟩
def code97L1 : ACode :=
  .live [2, 3, 4, 11, 12, 13] (.seq (R [2, 3, 4, 11, 12, 13, 14] [o 14 (.bin .lss (t 13) (t 12))])
  (.seq (.after (.cond (t 14) (.skip) (.live [4] (.exit 0))) [2, 3, 4, 11, 12, 13])
  (.seq (.after (.block 1 (.seq (R [2, 3, 4, 6, 11, 12, 13] [o 15 (.iaddr 8 (t 11) (t 13)), o 16 (.load (some 8) (t 15)), o 6 (.alloc 8 [.bool false, .str [], .str [], .int .i64 0, .int .i64 0, .slice none 0 (some 0), .slice none 0 (some 0), .slice none 0 (some 0)]), u (.store 8 (t 6) (t 16))])
  (.seq (R [2, 3, 4, 6, 11, 12, 13, 20] [o 17 (.load none (t 2)), o 18 (.faddr (t 3) 0), o 19 (.load none (t 18)), o 20 (.callg 156 [t 17, t 19])])
  (.after (.block 2 (.after (.rangeFunc (t 20) 322 [2, 4, 6] [21] rcode322a rcode322b) [2, 3, 4, 11, 12, 13])) [2, 3, 4, 11, 12, 13])))) [2, 3, 4, 11, 12, 13])
  (R [2, 3, 4, 11, 12, 13] [o 44 (.bin .add (t 13) (n 1)), v 13 44]))))
def code97 : AFunc := ⟨false, false, 2, 45, [.cell 4 none],
  .seq (R [2, 3, 4] [o 2 (.box (t 0)), o 3 (.lbox (t 1)), o 4 (.alloc 1 [.bool false])])
  (.seq (.seq (R [2, 3, 4, 11, 12, 13] [o 10 (.faddr (t 3) 3), o 11 (.load none (t 10)), o 12 (.len .sl (t 11)), o 13 (.val (n 0))])
  (.after (.block 0 (.loop code97L1)) [4]))
  (.seq (R [4] [u (.store 1 (t 4) Y)])
  (.live [4] (.ret)))), none⟩
def rcode321a : ACode :=
  R [5, 6, 7] [v 7 11]
def rcode321b : ACode :=
  .after (.block 1 (.after (.region [⟨true, [0, 0, 2, 1], [v 12 7, o 13 (.load none (t 6)), o 14 (.bin .add (t 13) (n 1)), u (.ext (.hstore 1) [t 5, t 12])]⟩, ⟨false, [], [u (.store 1 (t 6) (t 14))]⟩]) [])) []
def round321 : ARound := ⟨[11], rcode321a, rcode321b⟩
def code321 : AFunc := ⟨false, false, 0, 0, [], .skip, some (.round round321)⟩
def code98 : AFunc := ⟨false, false, 2, 21, [.tmp 4],
  .seq (R [0, 1] [o 4 (.val F)])
  (.seq (R [0, 1, 5, 6] [o 5 (.alloc 1 [.str []]), o 6 (.alloc 1 [.int .i64 0]), u (.store 1 (t 5) (.const (.str []))), u (.store 1 (t 6) (n 0))])
  (.seq (.seq (R [5, 6, 10] [v 8 0, v 9 1, o 10 (.callg 156 [t 8, t 9])])
  (.after (.block 0 (.after (.rangeFunc (t 10) 321 [5, 6] [11] rcode321a rcode321b) [5, 6])) [5, 6]))
  (.seq (R [4] [o 15 (.load none (t 5)), o 16 (.bin .eql (t 15) (.const (.str [79, 98, 106, 101, 99, 116]))), v 17 16, g 18 17 true (.load none (t 6)), g 19 17 true (.bin .gtr (t 18) (n 1)), o 20 (.pick (t 17) (t 19) F), v 4 20])
  (.live [4] (.ret))))), none⟩
def code99L0 : ACode :=
  .live [0, 3, 5, 10, 11, 12] (.seq (R [0, 3, 5, 10, 11, 12, 13] [o 13 (.bin .lss (t 12) (t 11))])
  (.seq (.after (.cond (t 13) (.skip) (.live [] (.exit 0))) [0, 3, 5, 10, 11, 12])
  (.seq (.after (.block 1 (.seq (R [0, 3, 5, 7, 10, 11, 12] [o 14 (.iaddr 3 (t 10) (t 12)), o 15 (.load (some 3) (t 14)), o 7 (.lalloc [.bool false, .str [], .str []]), u (.store 3 (t 7) (t 15))])
  (.seq (.seq (R [0, 3, 5, 7, 10, 11, 12, 38] [o 16 (.faddr (t 7) 1), o 17 (.load none (t 16)), o 18 (.callg 181 [t 17]), o 19 (.un .not (t 18)), v 20 19, g 21 20 false (.faddr (t 7) 2), g 22 20 false (.load none (t 21)), g 23 20 false (.callg 27 [t 22]), g 24 20 false (.un .not (t 23)), o 25 (.pick (t 20) Y (t 24)), v 26 25, g 27 26 false (.val (t 0)), g 28 26 false (.faddr (t 7) 2), g 29 26 false (.load none (t 28)), g 30 26 false (.callg 103 [t 27, t 29]), g 31 26 false (.un .not (t 30)), o 32 (.pick (t 26) Y (t 31)), v 33 32, g 34 33 false (.val (t 5)), g 35 33 false (.faddr (t 7) 1), g 36 33 false (.load none (t 35)), g 37 33 false (.ext (.lookup (.one .s) (.bool false) false) [t 34, t 36]), o 38 (.pick (t 33) Y (t 37))])
  (.after (.cond (t 38) (.seq (R [4] [o 4 (.val F)])
  (.live [4] (.ret))) (.skip)) [0, 3, 5, 7, 10, 11, 12]))
  (.seq (R [0, 3, 5, 7, 10, 11, 12] [v 39 5, o 40 (.faddr (t 7) 1), o 41 (.load none (t 40)), u (.ext (.mapupd (.one .s)) [t 39, t 41, .const (.bool true)])])
  (.after (.region [⟨true, [], [v 42 0, o 43 (.nilcheck (t 42)), o 44 (.faddr (t 43) 1), o 45 (.load none (t 44)), o 46 (.faddr (t 3) 0), o 47 (.load none (t 46)), o 48 (.faddr (t 7) 1), o 49 (.load none (t 48)), o 50 (.faddr (t 7) 2), o 51 (.load none (t 50)), o 52 (.build [.str [], .str [], .str []] [(0, 1, t 47), (1, 1, t 49), (2, 1, t 51)]), o 53 (.faddr (t 3) 0), o 54 (.load none (t 53)), o 55 (.faddr (t 7) 0), o 56 (.load none (t 55)), o 57 (.build [.str [], .bool false] [(0, 1, t 54), (1, 1, t 56)])]⟩, ⟨false, [], [u (.ext (.mapupd (.agg [.s, .s, .s])) [t 45, t 52, t 57])]⟩]) [0, 3, 5, 10, 11, 12]))))) [0, 3, 5, 10, 11, 12])
  (R [0, 3, 5, 10, 11, 12] [o 58 (.bin .add (t 12) (n 1)), v 12 58]))))
def code99 : AFunc := ⟨false, false, 2, 59, [.tmp 4],
  .seq (R [0, 3] [o 3 (.lbox (t 1)), o 4 (.val F)])
  (.seq (R [0, 3, 5] [o 8 (.ext .mkmap []), v 5 8])
  (.seq (.seq (R [0, 3, 5, 10, 11, 12] [o 9 (.faddr (t 3) 2), o 10 (.load none (t 9)), o 11 (.len .sl (t 10)), o 12 (.val (n 0))])
  (.after (.block 0 (.loop code99L0)) []))
  (.seq (R [4] [o 4 (.val Y)])
  (.live [4] (.ret))))), none⟩
def code100L0 : ACode :=
  .live [0, 3, 11, 12, 13] (.seq (R [0, 3, 11, 12, 13, 14] [o 14 (.bin .lss (t 13) (t 12))])
  (.seq (.after (.cond (t 14) (.skip) (.live [] (.exit 0))) [0, 3, 11, 12, 13])
  (.seq (.after (.block 1 (.seq (R [0, 3, 6, 11, 12, 13] [o 15 (.iaddr 8 (t 11) (t 13)), o 16 (.load (some 8) (t 15)), o 6 (.lalloc [.bool false, .str [], .str [], .int .i64 0, .int .i64 0, .slice none 0 (some 0), .slice none 0 (some 0), .slice none 0 (some 0)]), u (.store 8 (t 6) (t 16))])
  (.seq (R [0, 3, 6, 7, 11, 12, 13] [o 17 (.faddr (t 3) 0), o 18 (.load none (t 17)), o 19 (.faddr (t 6) 1), o 20 (.load none (t 19)), o 21 (.faddr (t 6) 2), o 22 (.load none (t 21)), o 23 (.build [.str [], .str [], .str []] [(0, 1, t 18), (1, 1, t 20), (2, 1, t 22)]), o 7 (.lalloc [.str [], .str [], .str []]), u (.store 3 (t 7) (t 23))])
  (.seq (.seq (.after (.region [⟨true, [], [v 25 0, o 26 (.nilcheck (t 25)), o 27 (.faddr (t 26) 2), o 28 (.load none (t 27)), o 29 (.load (some 3) (t 7)), o 30 (.ext (.lookup (.agg [.s, .s, .s]) (.agg [.str [], .bool false]) true) [t 28, t 29]), v 24 30, o 31 (.extract (t 24) 0), o 32 (.extract (t 24) 1), o 8 (.lalloc [.str [], .bool false]), u (.store 2 (t 8) (t 31))]⟩, ⟨false, [], [v 9 32]⟩]) [0, 3, 6, 7, 9, 11, 12, 13])
  (.seq (R [0, 3, 6, 7, 11, 12, 13, 39] [v 33 9, v 34 33, g 35 34 false (.val (t 0)), g 36 34 false (.load (some 8) (t 6)), g 37 34 false (.callg 182 [t 35, t 36]), g 38 34 false (.un .not (t 37)), o 39 (.pick (t 34) Y (t 38))])
  (.after (.cond (t 39) (.seq (R [4] [o 4 (.val F)])
  (.live [4] (.ret))) (.skip)) [0, 3, 6, 7, 11, 12, 13])))
  (.after (.region [⟨true, [], [v 40 0, o 41 (.nilcheck (t 40)), o 42 (.faddr (t 41) 2), o 43 (.load none (t 42)), o 44 (.load (some 3) (t 7)), o 45 (.faddr (t 3) 0), o 46 (.load none (t 45)), o 47 (.faddr (t 6) 0), o 48 (.load none (t 47)), o 49 (.build [.str [], .bool false] [(0, 1, t 46), (1, 1, t 48)])]⟩, ⟨false, [], [u (.ext (.mapupd (.agg [.s, .s, .s])) [t 43, t 44, t 49])]⟩]) [0, 3, 11, 12, 13]))))) [0, 3, 11, 12, 13])
  (R [0, 3, 11, 12, 13] [o 50 (.bin .add (t 13) (n 1)), v 13 50]))))
def code100 : AFunc := ⟨false, false, 2, 51, [.tmp 4],
  .seq (R [0, 3] [o 3 (.lbox (t 1)), o 4 (.val F)])
  (.seq (.seq (R [0, 3, 11, 12, 13] [o 10 (.faddr (t 3) 3), o 11 (.load none (t 10)), o 12 (.len .sl (t 11)), o 13 (.val (n 0))])
  (.after (.block 0 (.loop code100L0)) []))
  (.seq (R [4] [o 4 (.val Y)])
  (.live [4] (.ret)))), none⟩
def code103 : AFunc := ⟨false, false, 2, 20, [.tmp 4],
  .seq (R [0, 1] [o 4 (.val F)])
  (.seq (R [0, 5, 6] [v 8 1, o 9 (.callg 139 [t 8, .const (.str [91])]), o 10 (.callg 34 [t 9]), v 7 10, o 11 (.extract (t 7) 0), o 12 (.extract (t 7) 1), v 5 11, v 6 12])
  (.seq (R [4] [v 13 6, o 14 (.un .not (t 13)), v 15 14, g 16 15 false (.val (t 0)), g 17 15 false (.val (t 5)), g 18 15 false (.callg 54 [t 16, t 17]), o 19 (.pick (t 15) Y (t 18)), v 4 19])
  (.live [4] (.ret)))), none⟩
def code104L0 : ACode :=
  .live [3, 56, 57, 58, 124, 125, 126, 148, 149, 150] (.seq (R [3, 56, 57, 58, 124, 125, 126, 148, 149, 150, 151] [o 151 (.bin .lss (t 150) (t 149))])
  (.seq (.after (.cond (t 151) (.skip) (.live [3, 56, 57, 58, 124, 125, 126] (.exit 10))) [3, 56, 57, 58, 124, 125, 126, 148, 149, 150])
  (.seq (.after (.block 11 (.seq (R [3, 15, 56, 57, 58, 124, 125, 126, 148, 149, 150] [o 152 (.iaddr 1 (t 148) (t 150)), o 153 (.load none (t 152)), v 15 153])
  (R [3, 56, 57, 58, 124, 125, 126, 148, 149, 150] [v 154 3, v 155 15, o 156 (.len .str (t 155)), o 157 (.bin .quo (t 156) (n 100)), o 158 (.bin .sub (t 154) (t 157)), v 3 158]))) [3, 56, 57, 58, 124, 125, 126, 148, 149, 150])
  (R [3, 56, 57, 58, 124, 125, 126, 148, 149, 150] [o 159 (.bin .add (t 150) (n 1)), v 150 159]))))
def code104L1 : ACode :=
  .live [3, 56, 57, 58, 124, 125, 126] (.seq (R [3, 56, 57, 58, 124, 125, 126, 127] [o 127 (.bin .lss (t 126) (t 125))])
  (.seq (.after (.cond (t 127) (.skip) (.live [3, 56, 57, 58] (.exit 8))) [3, 56, 57, 58, 124, 125, 126])
  (.seq (.after (.block 9 (.seq (R [3, 13, 56, 57, 58, 124, 125, 126] [o 128 (.iaddr 3 (t 124) (t 126)), o 129 (.load (some 3) (t 128)), o 13 (.lalloc [.int .i64 0, .slice none 0 (some 0), .slice none 0 (some 0)]), u (.store 3 (t 13) (t 129))])
  (.seq (R [3, 13, 56, 57, 58, 124, 125, 126] [v 130 3, o 131 (.bin .sub (t 130) (n 1)), o 132 (.faddr (t 13) 1), o 133 (.load none (t 132)), o 134 (.len .sl (t 133)), o 135 (.bin .sub (t 131) (t 134)), o 136 (.faddr (t 13) 2), o 137 (.load none (t 136)), o 138 (.len .sl (t 137)), o 139 (.bin .sub (t 135) (t 138)), v 3 139])
  (.seq (.seq (R [3, 13, 56, 57, 58, 124, 125, 126, 141] [v 140 3, o 141 (.bin .lss (t 140) (n 0))])
  (.after (.cond (t 141) (.seq (R [2] [o 2 (.val F)])
  (.live [2] (.ret))) (.skip)) [3, 13, 56, 57, 58, 124, 125, 126]))
  (.seq (.after (.region [⟨true, [0, 0, 2, 7, 0, 16, 63, 127, 0], [o 142 (.mkslice 1 0 [] []), o 143 (.faddr (t 13) 1), o 144 (.load none (t 143)), o 145 (.append 1 16 (t 142) (t 144)), o 146 (.faddr (t 13) 2), o 147 (.load none (t 146)), o 148 (.append 1 16 (t 145) (t 147)), o 149 (.len .sl (t 148)), o 150 (.val (n 0))]⟩]) [3, 56, 57, 58, 124, 125, 126, 148, 149, 150])
  (.after (.block 10 (.loop code104L0)) [3, 56, 57, 58, 124, 125, 126])))))) [3, 56, 57, 58, 124, 125, 126])
  (R [3, 56, 57, 58, 124, 125, 126] [o 160 (.bin .add (t 126) (n 1)), v 126 160]))))
def code104L2 : ACode :=
  .live [3, 7, 56, 57, 58, 110, 111, 112] (.seq (R [3, 7, 56, 57, 58, 110, 111, 112, 113] [o 113 (.bin .lss (t 112) (t 111))])
  (.seq (.after (.cond (t 113) (.skip) (.live [3, 7, 56, 57, 58] (.exit 6))) [3, 7, 56, 57, 58, 110, 111, 112])
  (.seq (.after (.block 7 (.seq (R [3, 7, 11, 56, 57, 58, 110, 111, 112] [o 114 (.iaddr 4 (t 110) (t 112)), o 115 (.load (some 4) (t 114)), o 11 (.lalloc [.int .i64 0, .int .i64 0, .int .i64 0, .str []]), u (.store 4 (t 11) (t 115))])
  (R [3, 7, 56, 57, 58, 110, 111, 112] [v 116 3, o 117 (.faddr (t 11) 3), o 118 (.load none (t 117)), o 119 (.len .str (t 118)), o 120 (.bin .quo (t 119) (n 100)), o 121 (.bin .sub (t 116) (t 120)), v 3 121]))) [3, 7, 56, 57, 58, 110, 111, 112])
  (R [3, 7, 56, 57, 58, 110, 111, 112] [o 122 (.bin .add (t 112) (n 1)), v 112 122]))))
def code104L3 : ACode :=
  .live [3, 7, 56, 57, 58, 84, 85, 86] (.seq (R [3, 7, 56, 57, 58, 84, 85, 86, 87] [o 87 (.bin .lss (t 86) (t 85))])
  (.seq (.after (.cond (t 87) (.skip) (.live [3, 7, 56, 57, 58] (.exit 4))) [3, 7, 56, 57, 58, 84, 85, 86])
  (.seq (.after (.block 5 (.seq (R [3, 7, 9, 56, 57, 58, 84, 85, 86] [o 88 (.iaddr 7 (t 84) (t 86)), o 89 (.load (some 7) (t 88)), o 9 (.lalloc [.int .u8 0, .int .i64 0, .int .i64 0, .str [], .str [], .str [], .str []]), u (.store 7 (t 9) (t 89))])
  (R [3, 7, 56, 57, 58, 84, 85, 86] [v 90 3, o 91 (.faddr (t 9) 3), o 92 (.load none (t 91)), o 93 (.len .str (t 92)), o 94 (.faddr (t 9) 4), o 95 (.load none (t 94)), o 96 (.len .str (t 95)), o 97 (.bin .add (t 93) (t 96)), o 98 (.faddr (t 9) 5), o 99 (.load none (t 98)), o 100 (.len .str (t 99)), o 101 (.bin .add (t 97) (t 100)), o 102 (.faddr (t 9) 6), o 103 (.load none (t 102)), o 104 (.len .str (t 103)), o 105 (.bin .add (t 101) (t 104)), o 106 (.bin .quo (t 105) (n 100)), o 107 (.bin .sub (t 90) (t 106)), v 3 107]))) [3, 7, 56, 57, 58, 84, 85, 86])
  (R [3, 7, 56, 57, 58, 84, 85, 86] [o 108 (.bin .add (t 86) (n 1)), v 86 108]))))
def code104L4 : ACode :=
  .live [3, 56, 57, 58] (.seq (R [3, 56, 57, 58, 59] [o 59 (.bin .lss (t 58) (t 57))])
  (.seq (.after (.cond (t 59) (.skip) (.live [3] (.exit 2))) [3, 56, 57, 58])
  (.seq (.after (.block 3 (.seq (R [3, 7, 56, 57, 58] [o 60 (.iaddr 8 (t 56) (t 58)), o 61 (.load (some 8) (t 60)), o 7 (.lalloc [.bool false, .str [], .str [], .int .i64 0, .int .i64 0, .slice none 0 (some 0), .slice none 0 (some 0), .slice none 0 (some 0)]), u (.store 8 (t 7) (t 61))])
  (.seq (R [3, 7, 56, 57, 58] [v 62 3, o 63 (.bin .sub (t 62) (n 1)), o 64 (.faddr (t 7) 5), o 65 (.load none (t 64)), o 66 (.len .sl (t 65)), o 67 (.bin .sub (t 63) (t 66)), o 68 (.faddr (t 7) 6), o 69 (.load none (t 68)), o 70 (.len .sl (t 69)), o 71 (.bin .sub (t 67) (t 70)), o 72 (.faddr (t 7) 1), o 73 (.load none (t 72)), o 74 (.len .str (t 73)), o 75 (.faddr (t 7) 2), o 76 (.load none (t 75)), o 77 (.len .str (t 76)), o 78 (.bin .add (t 74) (t 77)), o 79 (.bin .quo (t 78) (n 50)), o 80 (.bin .sub (t 71) (t 79)), v 3 80])
  (.seq (.seq (R [3, 7, 56, 57, 58, 82] [v 81 3, o 82 (.bin .lss (t 81) (n 0))])
  (.after (.cond (t 82) (.seq (R [2] [o 2 (.val F)])
  (.live [2] (.ret))) (.skip)) [3, 7, 56, 57, 58]))
  (.seq (.seq (R [3, 7, 56, 57, 58, 84, 85, 86] [o 83 (.faddr (t 7) 5), o 84 (.load none (t 83)), o 85 (.len .sl (t 84)), o 86 (.val (n 0))])
  (.after (.block 4 (.loop code104L3)) [3, 7, 56, 57, 58]))
  (.seq (.seq (R [3, 7, 56, 57, 58, 110, 111, 112] [o 109 (.faddr (t 7) 6), o 110 (.load none (t 109)), o 111 (.len .sl (t 110)), o 112 (.val (n 0))])
  (.after (.block 6 (.loop code104L2)) [3, 7, 56, 57, 58]))
  (.seq (.seq (R [3, 56, 57, 58, 124, 125, 126] [o 123 (.faddr (t 7) 7), o 124 (.load none (t 123)), o 125 (.len .sl (t 124)), o 126 (.val (n 0))])
  (.after (.block 8 (.loop code104L1)) [3, 56, 57, 58]))
  (.seq (R [3, 56, 57, 58, 162] [v 161 3, o 162 (.bin .lss (t 161) (n 0))])
  (.after (.cond (t 162) (.seq (R [2] [o 2 (.val F)])
  (.live [2] (.ret))) (.skip)) [3, 56, 57, 58]))))))))) [3, 56, 57, 58])
  (R [3, 56, 57, 58] [o 163 (.bin .add (t 58) (n 1)), v 58 163]))))
def code104L5 : ACode :=
  .live [1, 3, 37, 38, 39] (.seq (R [1, 3, 37, 38, 39, 40] [o 40 (.bin .lss (t 39) (t 38))])
  (.seq (.after (.cond (t 40) (.skip) (.live [1, 3] (.exit 0))) [1, 3, 37, 38, 39])
  (.seq (.after (.block 1 (.seq (R [1, 3, 5, 37, 38, 39] [o 41 (.iaddr 3 (t 37) (t 39)), o 42 (.load (some 3) (t 41)), o 5 (.lalloc [.bool false, .str [], .str []]), u (.store 3 (t 5) (t 42))])
  (R [1, 3, 37, 38, 39] [v 43 3, o 44 (.bin .sub (t 43) (n 1)), o 45 (.faddr (t 5) 1), o 46 (.load none (t 45)), o 47 (.len .str (t 46)), o 48 (.faddr (t 5) 2), o 49 (.load none (t 48)), o 50 (.len .str (t 49)), o 51 (.bin .add (t 47) (t 50)), o 52 (.bin .quo (t 51) (n 50)), o 53 (.bin .sub (t 44) (t 52)), v 3 53]))) [1, 3, 37, 38, 39])
  (R [1, 3, 37, 38, 39] [o 54 (.bin .add (t 39) (n 1)), v 39 54]))))
def code104 : AFunc := ⟨false, false, 1, 166, [.tmp 2],
  .seq (R [1] [o 1 (.lbox (t 0)), o 2 (.val F)])
  (.seq (.seq (R [1, 35] [o 16 (.faddr (t 1) 2), o 17 (.load none (t 16)), o 18 (.len .sl (t 17)), o 19 (.bin .gtr (t 18) (n 70)), v 20 19, g 21 20 false (.faddr (t 1) 3), g 22 20 false (.load none (t 21)), g 23 20 false (.len .sl (t 22)), g 24 20 false (.bin .gtr (t 23) (n 40)), o 25 (.pick (t 20) Y (t 24)), v 26 25, g 27 26 false (.faddr (t 1) 0), g 28 26 false (.load none (t 27)), g 29 26 false (.len .str (t 28)), g 30 26 false (.faddr (t 1) 1), g 31 26 false (.load none (t 30)), g 32 26 false (.len .str (t 31)), g 33 26 false (.bin .add (t 29) (t 32)), g 34 26 false (.bin .gtr (t 33) (n 300)), o 35 (.pick (t 26) Y (t 34))])
  (.after (.cond (t 35) (.seq (R [2] [o 2 (.val F)])
  (.live [2] (.ret))) (.skip)) [1]))
  (.seq (R [1, 3] [o 3 (.val (n 600))])
  (.seq (.seq (R [1, 3, 37, 38, 39] [o 36 (.faddr (t 1) 2), o 37 (.load none (t 36)), o 38 (.len .sl (t 37)), o 39 (.val (n 0))])
  (.after (.block 0 (.loop code104L5)) [1, 3]))
  (.seq (.seq (R [3, 56, 57, 58] [o 55 (.faddr (t 1) 3), o 56 (.load none (t 55)), o 57 (.len .sl (t 56)), o 58 (.val (n 0))])
  (.after (.block 2 (.loop code104L4)) [3]))
  (.seq (R [2] [v 164 3, o 165 (.bin .geq (t 164) (n 0)), v 2 165])
  (.live [2] (.ret))))))), none⟩
def code105L0 : ACode :=
  .live [8, 9, 10] (.seq (R [8, 9, 10, 11] [o 11 (.bin .lss (t 10) (t 9))])
  (.seq (.after (.cond (t 11) (.skip) (.live [] (.exit 0))) [8, 9, 10])
  (.seq (.after (.block 1 (.seq (R [4, 8, 9, 10] [o 12 (.iaddr 4 (t 8) (t 10)), o 13 (.load (some 4) (t 12)), o 4 (.lalloc [.str [], .str [], .slice none 0 (some 0), .slice none 0 (some 0)]), u (.store 4 (t 4) (t 13))])
  (.seq (R [8, 9, 10, 16] [o 14 (.load (some 4) (t 4)), o 15 (.callg 104 [t 14]), o 16 (.un .not (t 15))])
  (.after (.cond (t 16) (.seq (R [2] [o 2 (.val F)])
  (.live [2] (.ret))) (.skip)) [8, 9, 10])))) [8, 9, 10])
  (R [8, 9, 10] [o 17 (.bin .add (t 10) (n 1)), v 10 17]))))
def code105 : AFunc := ⟨false, false, 1, 18, [.tmp 2],
  .seq (R [0] [o 2 (.val F)])
  (.seq (.seq (R [0, 7] [v 5 0, o 6 (.len .sl (t 5)), o 7 (.bin .gtr (t 6) (n 40))])
  (.after (.cond (t 7) (.seq (R [2] [o 2 (.val F)])
  (.live [2] (.ret))) (.skip)) [0]))
  (.seq (.seq (R [8, 9, 10] [v 8 0, o 9 (.len .sl (t 8)), o 10 (.val (n 0))])
  (.after (.block 0 (.loop code105L0)) []))
  (.seq (R [2] [o 2 (.val Y)])
  (.live [2] (.ret))))), none⟩
def code106L0 : ACode :=
  .live [0, 3, 11, 91, 92, 93, 106, 107, 108] (.seq (R [0, 3, 11, 91, 92, 93, 106, 107, 108, 109] [o 109 (.bin .lss (t 108) (t 107))])
  (.seq (.after (.cond (t 109) (.skip) (.live [0, 3, 91, 92, 93] (.exit 6))) [0, 3, 11, 91, 92, 93, 106, 107, 108])
  (.seq (.after (.block 7 (.seq (R [0, 3, 11, 13, 91, 92, 93, 106, 107, 108] [o 110 (.iaddr 8 (t 106) (t 108)), o 111 (.load (some 8) (t 110)), o 13 (.lalloc [.bool false, .str [], .str [], .int .i64 0, .int .i64 0, .slice none 0 (some 0), .slice none 0 (some 0), .slice none 0 (some 0)]), u (.store 8 (t 13) (t 111))])
  (.seq (R [0, 3, 11, 91, 92, 93, 106, 107, 108, 123] [o 112 (.faddr (t 11) 1), o 113 (.load none (t 112)), o 114 (.faddr (t 13) 1), o 115 (.load none (t 114)), o 116 (.bin .eql (t 113) (t 115)), v 117 116, g 118 117 true (.faddr (t 11) 2), g 119 117 true (.load none (t 118)), g 120 117 true (.faddr (t 13) 2), g 121 117 true (.load none (t 120)), g 122 117 true (.bin .eql (t 119) (t 121)), o 123 (.pick (t 117) (t 122) F)])
  (.after (.cond (t 123) (.seq (R [4] [o 4 (.val F)])
  (.live [4] (.ret))) (.skip)) [0, 3, 11, 91, 92, 93, 106, 107, 108])))) [0, 3, 11, 91, 92, 93, 106, 107, 108])
  (R [0, 3, 11, 91, 92, 93, 106, 107, 108] [o 124 (.bin .add (t 108) (n 1)), v 108 124]))))
def code106L1 : ACode :=
  .live [0, 3, 91, 92, 93] (.seq (R [0, 3, 91, 92, 93, 94] [o 94 (.bin .lss (t 93) (t 92))])
  (.seq (.after (.cond (t 94) (.skip) (.live [] (.exit 4))) [0, 3, 91, 92, 93])
  (.seq (.after (.block 5 (.seq (R [0, 3, 10, 11, 91, 92, 93] [v 95 93, o 96 (.iaddr 8 (t 91) (t 93)), o 97 (.load (some 8) (t 96)), o 11 (.lalloc [.bool false, .str [], .str [], .int .i64 0, .int .i64 0, .slice none 0 (some 0), .slice none 0 (some 0), .slice none 0 (some 0)]), v 10 95, u (.store 8 (t 11) (t 97))])
  (.seq (.seq (R [0, 3, 10, 11, 91, 92, 93, 102] [v 98 0, o 99 (.load (some 4) (t 3)), o 100 (.load (some 8) (t 11)), o 101 (.callg 157 [t 98, t 99, t 100]), o 102 (.un .not (t 101))])
  (.after (.cond (t 102) (.seq (R [4] [o 4 (.val F)])
  (.live [4] (.ret))) (.skip)) [0, 3, 10, 11, 91, 92, 93]))
  (.seq (R [0, 3, 11, 91, 92, 93, 106, 107, 108] [o 103 (.faddr (t 3) 3), o 104 (.load none (t 103)), v 105 10, o 106 (.slice (.sl 8) (t 104) none (some (t 105)) none), o 107 (.len .sl (t 106)), o 108 (.val (n 0))])
  (.after (.block 6 (.loop code106L0)) [0, 3, 91, 92, 93]))))) [0, 3, 91, 92, 93])
  (R [0, 3, 91, 92, 93] [o 125 (.bin .add (t 93) (n 1)), v 93 125]))))
def code106L2 : ACode :=
  .live [0, 3, 7, 50, 51, 52, 77, 78, 79] (.seq (R [0, 3, 7, 50, 51, 52, 77, 78, 79, 80] [o 80 (.bin .lss (t 79) (t 78))])
  (.seq (.after (.cond (t 80) (.skip) (.live [0, 3, 50, 51, 52] (.exit 2))) [0, 3, 7, 50, 51, 52, 77, 78, 79])
  (.seq (.after (.block 3 (.seq (R [0, 3, 7, 9, 50, 51, 52, 77, 78, 79] [o 81 (.iaddr 3 (t 77) (t 79)), o 82 (.load (some 3) (t 81)), o 9 (.lalloc [.bool false, .str [], .str []]), u (.store 3 (t 9) (t 82))])
  (.seq (R [0, 3, 7, 50, 51, 52, 77, 78, 79, 87] [o 83 (.faddr (t 7) 1), o 84 (.load none (t 83)), o 85 (.faddr (t 9) 1), o 86 (.load none (t 85)), o 87 (.bin .eql (t 84) (t 86))])
  (.after (.cond (t 87) (.seq (R [4] [o 4 (.val F)])
  (.live [4] (.ret))) (.skip)) [0, 3, 7, 50, 51, 52, 77, 78, 79])))) [0, 3, 7, 50, 51, 52, 77, 78, 79])
  (R [0, 3, 7, 50, 51, 52, 77, 78, 79] [o 88 (.bin .add (t 79) (n 1)), v 79 88]))))
def code106L3 : ACode :=
  .live [0, 3, 50, 51, 52] (.seq (R [0, 3, 50, 51, 52, 53] [o 53 (.bin .lss (t 52) (t 51))])
  (.seq (.after (.cond (t 53) (.skip) (.live [0, 3] (.exit 0))) [0, 3, 50, 51, 52])
  (.seq (.after (.block 1 (.seq (R [0, 3, 6, 7, 50, 51, 52] [v 54 52, o 55 (.iaddr 3 (t 50) (t 52)), o 56 (.load (some 3) (t 55)), o 7 (.lalloc [.bool false, .str [], .str []]), v 6 54, u (.store 3 (t 7) (t 56))])
  (.seq (.seq (R [0, 3, 6, 7, 50, 51, 52, 73] [o 57 (.faddr (t 7) 1), o 58 (.load none (t 57)), o 59 (.callg 158 [t 58]), o 60 (.un .not (t 59)), v 61 60, g 62 61 false (.faddr (t 7) 2), g 63 61 false (.load none (t 62)), g 64 61 false (.callg 28 [t 63]), g 65 61 false (.un .not (t 64)), o 66 (.pick (t 61) Y (t 65)), v 67 66, g 68 67 false (.val (t 0)), g 69 67 false (.faddr (t 7) 2), g 70 67 false (.load none (t 69)), g 71 67 false (.callg 159 [t 68, t 70]), g 72 67 false (.un .not (t 71)), o 73 (.pick (t 67) Y (t 72))])
  (.after (.cond (t 73) (.seq (R [4] [o 4 (.val F)])
  (.live [4] (.ret))) (.skip)) [0, 3, 6, 7, 50, 51, 52]))
  (.seq (R [0, 3, 7, 50, 51, 52, 77, 78, 79] [o 74 (.faddr (t 3) 2), o 75 (.load none (t 74)), v 76 6, o 77 (.slice (.sl 3) (t 75) none (some (t 76)) none), o 78 (.len .sl (t 77)), o 79 (.val (n 0))])
  (.after (.block 2 (.loop code106L2)) [0, 3, 50, 51, 52]))))) [0, 3, 50, 51, 52])
  (R [0, 3, 50, 51, 52] [o 89 (.bin .add (t 52) (n 1)), v 52 89]))))
def code106 : AFunc := ⟨false, false, 2, 126, [.tmp 4],
  .seq (R [0, 3] [o 3 (.lbox (t 1)), o 4 (.val F)])
  (.seq (R [0, 3, 5] [v 14 0, o 15 (.faddr (t 3) 0), o 16 (.load none (t 15)), o 17 (.callg 112 [t 14, t 16]), v 5 17])
  (.seq (.seq (R [0, 3, 48] [o 18 (.faddr (t 3) 0), o 19 (.load none (t 18)), o 20 (.callg 26 [t 19]), o 21 (.un .not (t 20)), v 22 21, g 23 22 false (.faddr (t 3) 1), g 24 22 false (.load none (t 23)), g 25 22 false (.bin .eql (t 24) (.const (.str [115, 121, 115]))), o 26 (.pick (t 22) Y (t 25)), v 27 26, g 28 27 false (.val (t 5)), g 29 27 false (.len .sl (t 28)), g 30 27 false (.bin .lss (t 29) (n 2)), o 31 (.pick (t 27) Y (t 30)), v 32 31, g 33 32 false (.val (t 5)), g 34 32 false (.len .sl (t 33)), g 35 32 false (.val (t 0)), g 36 32 false (.len .sl (t 35)), g 37 32 false (.bin .gtr (t 34) (t 36)), o 38 (.pick (t 32) Y (t 37)), v 39 38, g 40 39 false (.val (t 5)), g 41 39 false (.val (t 5)), g 42 39 false (.len .sl (t 41)), g 43 39 false (.bin .sub (t 42) (n 1)), g 44 39 false (.iaddr 4 (t 40) (t 43)), g 45 39 false (.faddr (t 44) 0), g 46 39 false (.load none (t 45)), g 47 39 false (.bin .neq (t 46) (.const (.str [79, 98, 106, 101, 99, 116]))), o 48 (.pick (t 39) Y (t 47))])
  (.after (.cond (t 48) (.seq (R [4] [o 4 (.val F)])
  (.live [4] (.ret))) (.skip)) [0, 3]))
  (.seq (.seq (R [0, 3, 50, 51, 52] [o 49 (.faddr (t 3) 2), o 50 (.load none (t 49)), o 51 (.len .sl (t 50)), o 52 (.val (n 0))])
  (.after (.block 0 (.loop code106L3)) [0, 3]))
  (.seq (.seq (R [0, 3, 91, 92, 93] [o 90 (.faddr (t 3) 3), o 91 (.load none (t 90)), o 92 (.len .sl (t 91)), o 93 (.val (n 0))])
  (.after (.block 4 (.loop code106L1)) []))
  (.seq (R [4] [o 4 (.val Y)])
  (.live [4] (.ret))))))), none⟩
def code107L0 : ACode :=
  .live [4, 39, 40, 41] (.seq (R [4, 39, 40, 41, 42] [o 42 (.bin .lss (t 41) (t 40))])
  (.seq (.after (.cond (t 42) (.skip) (.live [4] (.exit 4))) [4, 39, 40, 41])
  (.seq (.after (.block 5 (.seq (R [4, 10, 39, 40, 41] [o 43 (.iaddr 4 (t 39) (t 41)), o 44 (.load (some 4) (t 43)), o 10 (.lalloc [.str [], .str [], .slice none 0 (some 0), .slice none 0 (some 0)]), u (.store 4 (t 10) (t 44))])
  (.seq (R [4, 39, 40, 41, 48] [v 45 4, o 46 (.load (some 4) (t 10)), o 47 (.callg 106 [t 45, t 46]), o 48 (.un .not (t 47))])
  (.after (.cond (t 48) (.seq (R [2, 3] [o 2 (.val (.const (.slice none 0 (some 0)))), o 3 (.val F)])
  (.live [2, 3] (.ret))) (.skip)) [4, 39, 40, 41])))) [4, 39, 40, 41])
  (R [4, 39, 40, 41] [o 49 (.bin .add (t 41) (n 1)), v 41 49]))))
def code107L1 : ACode :=
  .live [0, 4, 6, 17, 18, 19, 26, 27, 28] (.seq (R [0, 4, 6, 17, 18, 19, 26, 27, 28, 29] [o 29 (.bin .lss (t 28) (t 27))])
  (.seq (.after (.cond (t 29) (.skip) (.live [0, 4, 17, 18, 19] (.exit 2))) [0, 4, 6, 17, 18, 19, 26, 27, 28])
  (.seq (.after (.block 3 (.seq (R [0, 4, 6, 8, 17, 18, 19, 26, 27, 28] [o 30 (.iaddr 4 (t 26) (t 28)), o 31 (.load (some 4) (t 30)), o 8 (.lalloc [.str [], .str [], .slice none 0 (some 0), .slice none 0 (some 0)]), u (.store 4 (t 8) (t 31))])
  (.seq (R [0, 4, 6, 17, 18, 19, 26, 27, 28, 36] [o 32 (.faddr (t 6) 0), o 33 (.load none (t 32)), o 34 (.faddr (t 8) 0), o 35 (.load none (t 34)), o 36 (.bin .eql (t 33) (t 35))])
  (.after (.cond (t 36) (.seq (R [2, 3] [o 2 (.val (.const (.slice none 0 (some 0)))), o 3 (.val F)])
  (.live [2, 3] (.ret))) (.skip)) [0, 4, 6, 17, 18, 19, 26, 27, 28])))) [0, 4, 6, 17, 18, 19, 26, 27, 28])
  (R [0, 4, 6, 17, 18, 19, 26, 27, 28] [o 37 (.bin .add (t 28) (n 1)), v 28 37]))))
def code107L2 : ACode :=
  .live [0, 4, 17, 18, 19] (.seq (R [0, 4, 17, 18, 19, 20] [o 20 (.bin .lss (t 19) (t 18))])
  (.seq (.after (.cond (t 20) (.skip) (.live [0, 4] (.exit 0))) [0, 4, 17, 18, 19])
  (.seq (.after (.block 1 (.seq (R [0, 4, 5, 6, 17, 18, 19] [v 21 19, o 22 (.iaddr 4 (t 17) (t 19)), o 23 (.load (some 4) (t 22)), o 6 (.lalloc [.str [], .str [], .slice none 0 (some 0), .slice none 0 (some 0)]), v 5 21, u (.store 4 (t 6) (t 23))])
  (.seq (R [0, 4, 6, 17, 18, 19, 26, 27, 28] [v 24 4, v 25 5, o 26 (.slice (.sl 4) (t 24) none (some (t 25)) none), o 27 (.len .sl (t 26)), o 28 (.val (n 0))])
  (.after (.block 2 (.loop code107L1)) [0, 4, 17, 18, 19])))) [0, 4, 17, 18, 19])
  (R [0, 4, 17, 18, 19] [o 38 (.bin .add (t 19) (n 1)), v 19 38]))))
def code107 : AFunc := ⟨false, false, 1, 51, [.tmp 2, .tmp 3],
  .seq (R [0] [o 2 (.val (.const (.slice none 0 (some 0)))), o 3 (.val F)])
  (.seq (R [0, 4] [o 11 (.callg 108 []), v 12 0, o 13 (.append 4 80 (t 11) (t 12)), v 4 13])
  (.seq (.seq (R [0, 4, 16] [v 14 0, o 15 (.len .sl (t 14)), o 16 (.bin .gtr (t 15) (n 32))])
  (.after (.cond (t 16) (.seq (R [2, 3] [o 2 (.val (.const (.slice none 0 (some 0)))), o 3 (.val F)])
  (.live [2, 3] (.ret))) (.skip)) [0, 4]))
  (.seq (.seq (R [0, 4, 17, 18, 19] [v 17 4, o 18 (.len .sl (t 17)), o 19 (.val (n 0))])
  (.after (.block 0 (.loop code107L2)) [0, 4]))
  (.seq (.seq (R [4, 39, 40, 41] [v 39 0, o 40 (.len .sl (t 39)), o 41 (.val (n 0))])
  (.after (.block 4 (.loop code107L0)) [4]))
  (.seq (R [2, 3] [v 50 4, v 2 50, o 3 (.val Y)])
  (.live [2, 3] (.ret))))))), none⟩
def code108L0 : ACode :=
  .live [2, 19, 20, 21] (.seq (R [2, 19, 20, 21, 22] [o 22 (.bin .lss (t 21) (t 20))])
  (.seq (.after (.cond (t 22) (.skip) (.live [2] (.exit 0))) [2, 19, 20, 21])
  (.seq (.after (.block 1 (.seq (R [2, 4, 19, 20, 21] [o 23 (.iaddr 1 (t 19) (t 21)), o 24 (.load none (t 23)), v 4 24])
  (R [2, 19, 20, 21] [v 25 2, v 26 4, o 27 (.build [.str [], .str [], .slice none 0 (some 0), .slice none 0 (some 0)] [(0, 1, t 26), (1, 1, .const (.str [84, 104, 114, 111, 119, 97, 98, 108, 101]))]), o 28 (.mkslice 4 1 [.str [], .str [], .slice none 0 (some 0), .slice none 0 (some 0)] [(0, 4, t 27)]), o 29 (.append 4 80 (t 25) (t 28)), v 2 29]))) [2, 19, 20, 21])
  (R [2, 19, 20, 21] [o 30 (.bin .add (t 21) (n 1)), v 21 30]))))
def code108 : AFunc := ⟨false, false, 0, 32, [.tmp 0],
  .seq (R [] [o 0 (.val (.const (.slice none 0 (some 0))))])
  (.seq (R [1] [o 5 (.callg 115 [.const (.str [112, 114, 105, 110, 116]), .const (.str [40, 73, 41, 86])]), o 6 (.callg 115 [.const (.str [112, 114, 105, 110, 116, 76, 111, 110, 103]), .const (.str [40, 74, 41, 86])]), o 7 (.callg 115 [.const (.str [112, 114, 105, 110, 116, 84, 101, 120, 116]), .const (.str [40, 91, 66, 41, 86])]), o 8 (.callg 115 [.const (.str [97, 100, 100]), .const (.str [40, 91, 66, 41, 73])]), o 9 (.callg 115 [.const (.str [103, 101, 116]), .const (.str [40, 73, 41, 91, 66])]), o 10 (.callg 115 [.const (.str [115, 101, 116]), .const (.str [40, 73, 91, 66, 41, 86])]), o 11 (.callg 115 [.const (.str [100, 101, 108]), .const (.str [40, 73, 41, 86])]), o 12 (.callg 115 [.const (.str [99, 111, 117, 110, 116]), .const (.str [40, 41, 73])]), o 13 (.mkslice 8 8 [.bool false, .str [], .str [], .int .i64 0, .int .i64 0, .slice none 0 (some 0), .slice none 0 (some 0), .slice none 0 (some 0), .bool false, .str [], .str [], .int .i64 0, .int .i64 0, .slice none 0 (some 0), .slice none 0 (some 0), .slice none 0 (some 0), .bool false, .str [], .str [], .int .i64 0, .int .i64 0, .slice none 0 (some 0), .slice none 0 (some 0), .slice none 0 (some 0), .bool false, .str [], .str [], .int .i64 0, .int .i64 0, .slice none 0 (some 0), .slice none 0 (some 0), .slice none 0 (some 0), .bool false, .str [], .str [], .int .i64 0, .int .i64 0, .slice none 0 (some 0), .slice none 0 (some 0), .slice none 0 (some 0), .bool false, .str [], .str [], .int .i64 0, .int .i64 0, .slice none 0 (some 0), .slice none 0 (some 0), .slice none 0 (some 0), .bool false, .str [], .str [], .int .i64 0, .int .i64 0, .slice none 0 (some 0), .slice none 0 (some 0), .slice none 0 (some 0), .bool false, .str [], .str [], .int .i64 0, .int .i64 0, .slice none 0 (some 0), .slice none 0 (some 0), .slice none 0 (some 0)] [(0, 8, t 5), (8, 8, t 6), (16, 8, t 7), (24, 8, t 8), (32, 8, t 9), (40, 8, t 10), (48, 8, t 11), (56, 8, t 12)]), o 14 (.build [.str [], .str [], .slice none 0 (some 0), .slice none 0 (some 0)] [(0, 1, .const (.str [115, 121, 115])), (1, 1, .const (.str [79, 98, 106, 101, 99, 116])), (3, 1, t 13)]), o 1 (.lalloc [.str [], .str [], .slice none 0 (some 0), .slice none 0 (some 0)]), u (.store 4 (t 1) (t 14))])
  (.seq (R [2] [o 15 (.build [.str [], .str [], .slice none 0 (some 0), .slice none 0 (some 0)] [(0, 1, .const (.str [79, 98, 106, 101, 99, 116]))]), o 16 (.build [.str [], .str [], .slice none 0 (some 0), .slice none 0 (some 0)] [(0, 1, .const (.str [84, 104, 114, 111, 119, 97, 98, 108, 101])), (1, 1, .const (.str [79, 98, 106, 101, 99, 116]))]), o 17 (.load (some 4) (t 1)), o 18 (.mkslice 4 3 [.str [], .str [], .slice none 0 (some 0), .slice none 0 (some 0), .str [], .str [], .slice none 0 (some 0), .slice none 0 (some 0), .str [], .str [], .slice none 0 (some 0), .slice none 0 (some 0)] [(0, 4, t 15), (4, 4, t 16), (8, 4, t 17)]), v 2 18])
  (.seq (.seq (R [2, 19, 20, 21] [o 19 (.mkslice 1 6 [.str [], .str [], .str [], .str [], .str [], .str []] [(0, 1, .const (.str [78, 117, 108, 108, 70, 97, 117, 108, 116])), (1, 1, .const (.str [66, 111, 117, 110, 100, 115, 70, 97, 117, 108, 116])), (2, 1, .const (.str [77, 97, 116, 104, 70, 97, 117, 108, 116])), (3, 1, .const (.str [67, 97, 115, 116, 70, 97, 117, 108, 116])), (4, 1, .const (.str [83, 105, 122, 101, 70, 97, 117, 108, 116])), (5, 1, .const (.str [83, 116, 111, 114, 101, 70, 97, 117, 108, 116]))]), o 20 (.len .sl (t 19)), o 21 (.val (n 0))])
  (.after (.block 0 (.loop code108L0)) [2]))
  (.seq (R [0] [v 31 2, v 0 31])
  (.live [0] (.ret)))))), none⟩
def rcode323a : ACode :=
  R [4, 5, 6, 7, 8] [v 8 15]
def rcode323b : ACode :=
  .after (.block 1 (.seq (R [6, 7, 9, 10] [o 17 (.load none (t 4)), v 18 8, o 19 (.faddr (t 5) 1), o 20 (.load none (t 19)), o 21 (.faddr (t 5) 2), o 22 (.load none (t 21)), o 23 (.build [.str [], .str [], .str []] [(0, 1, t 18), (1, 1, t 20), (2, 1, t 22)]), o 24 (.ext (.lookup (.agg [.s, .s, .s]) (.agg [.str [], .bool false]) true) [t 17, t 23]), v 16 24, o 25 (.extract (t 16) 0), o 26 (.extract (t 16) 1), o 9 (.lalloc [.str [], .bool false]), u (.store 2 (t 9) (t 25)), v 10 26])
  (.seq (R [6, 7, 9, 27] [v 27 10])
  (.after (.cond (t 27) (.seq (R [] [o 28 (.load (some 2) (t 9)), u (.store 2 (t 6) (t 28)), u (.store 1 (t 7) Y)])
  (.live [] (.ret))) (.skip)) [])))) []
def round323 : ARound := ⟨[15], rcode323a, rcode323b⟩
def code323 : AFunc := ⟨false, false, 0, 0, [], .skip, some (.round round323)⟩
def code109 : AFunc := ⟨false, false, 3, 30, [.cell 6 (some 2), .cell 7 none],
  .seq (R [0, 4, 5, 6, 7] [o 4 (.box (t 1)), o 5 (.box (t 2)), o 6 (.alloc 2 [.str [], .bool false]), o 7 (.alloc 1 [.bool false])])
  (.seq (.seq (R [4, 5, 6, 7, 14] [v 11 0, o 12 (.faddr (t 5) 0), o 13 (.load none (t 12)), o 14 (.callg 156 [t 11, t 13])])
  (.after (.block 0 (.after (.rangeFunc (t 14) 323 [4, 5, 6, 7] [15] rcode323a rcode323b) [6, 7])) [6, 7]))
  (.seq (R [6, 7] [o 29 (.build [.str [], .bool false] []), u (.store 2 (t 6) (t 29)), u (.store 1 (t 7) F)])
  (.live [6, 7] (.ret)))), none⟩
def code110 : AFunc := ⟨false, false, 4, 25, [.cell 8 (some 2), .tmp 9],
  .seq (R [0, 1, 2, 3, 8] [o 8 (.lalloc [.str [], .bool false]), o 9 (.val F)])
  (.seq (.seq (R [0, 1, 2, 3, 8, 11] [v 10 0, o 11 (.eqnil .ptr false (t 10) (.const (.ptr none)))])
  (.after (.cond (t 11) (.seq (R [8, 9] [o 12 (.build [.str [], .bool false] []), u (.store 2 (t 8) (t 12)), o 9 (.val F)])
  (.live [8, 9] (.ret))) (.skip)) [0, 1, 2, 3, 8]))
  (.seq (R [8, 9] [v 13 0, v 14 0, o 15 (.nilcheck (t 14)), o 16 (.faddr (t 15) 1), o 17 (.load none (t 16)), v 18 1, v 19 2, v 20 3, o 21 (.build [.str [], .str [], .str []] [(0, 1, t 18), (1, 1, t 19), (2, 1, t 20)]), o 22 (.callg 109 [t 13, t 17, t 21]), o 23 (.extract (t 22) 0), o 24 (.extract (t 22) 1), u (.store 2 (t 8) (t 23)), v 9 24])
  (.live [8, 9] (.ret)))), none⟩
def code111L0 : ACode :=
  .live [2, 3, 8, 11, 16, 17, 18, 23, 24, 25] (.seq (R [2, 3, 8, 11, 16, 17, 18, 23, 24, 25, 26] [o 26 (.bin .lss (t 25) (t 24))])
  (.seq (.after (.cond (t 26) (.skip) (.live [2, 3, 8, 16, 17, 18] (.exit 2))) [2, 3, 8, 11, 16, 17, 18, 23, 24, 25])
  (.seq (.after (.block 3 (.seq (R [2, 3, 8, 11, 13, 16, 17, 18, 23, 24, 25] [o 27 (.iaddr 3 (t 23) (t 25)), o 28 (.load (some 3) (t 27)), o 13 (.lalloc [.bool false, .str [], .str []]), u (.store 3 (t 13) (t 28))])
  (.seq (R [2, 3, 8, 11, 13, 16, 17, 18, 23, 24, 25, 38] [o 29 (.faddr (t 13) 1), o 30 (.load none (t 29)), v 31 2, o 32 (.bin .eql (t 30) (t 31)), v 33 32, g 34 33 true (.faddr (t 13) 2), g 35 33 true (.load none (t 34)), g 36 33 true (.val (t 3)), g 37 33 true (.bin .eql (t 35) (t 36)), o 38 (.pick (t 33) (t 37) F)])
  (.after (.cond (t 38) (.seq (R [8, 9] [o 39 (.faddr (t 11) 0), o 40 (.load none (t 39)), o 41 (.faddr (t 13) 0), o 42 (.load none (t 41)), o 43 (.build [.str [], .bool false] [(0, 1, t 40), (1, 1, t 42)]), u (.store 2 (t 8) (t 43)), o 9 (.val Y)])
  (.live [8, 9] (.ret))) (.skip)) [2, 3, 8, 11, 16, 17, 18, 23, 24, 25])))) [2, 3, 8, 11, 16, 17, 18, 23, 24, 25])
  (R [2, 3, 8, 11, 16, 17, 18, 23, 24, 25] [o 44 (.bin .add (t 25) (n 1)), v 25 44]))))
def code111L1 : ACode :=
  .live [2, 3, 8, 16, 17, 18] (.seq (R [2, 3, 8, 16, 17, 18, 19] [o 19 (.bin .lss (t 18) (t 17))])
  (.seq (.after (.cond (t 19) (.skip) (.live [8] (.exit 0))) [2, 3, 8, 16, 17, 18])
  (.seq (.after (.block 1 (.seq (R [2, 3, 8, 11, 16, 17, 18] [o 20 (.iaddr 4 (t 16) (t 18)), o 21 (.load (some 4) (t 20)), o 11 (.lalloc [.str [], .str [], .slice none 0 (some 0), .slice none 0 (some 0)]), u (.store 4 (t 11) (t 21))])
  (.seq (R [2, 3, 8, 11, 16, 17, 18, 23, 24, 25] [o 22 (.faddr (t 11) 2), o 23 (.load none (t 22)), o 24 (.len .sl (t 23)), o 25 (.val (n 0))])
  (.after (.block 2 (.loop code111L0)) [2, 3, 8, 16, 17, 18])))) [2, 3, 8, 16, 17, 18])
  (R [2, 3, 8, 16, 17, 18] [o 45 (.bin .add (t 18) (n 1)), v 18 45]))))
def code111 : AFunc := ⟨false, false, 4, 47, [.cell 8 (some 2), .tmp 9],
  .seq (R [0, 1, 2, 3, 8] [o 8 (.lalloc [.str [], .bool false]), o 9 (.val F)])
  (.seq (.seq (R [2, 3, 8, 16, 17, 18] [v 14 0, v 15 1, o 16 (.callg 112 [t 14, t 15]), o 17 (.len .sl (t 16)), o 18 (.val (n 0))])
  (.after (.block 0 (.loop code111L1)) [8]))
  (.seq (R [8, 9] [o 46 (.build [.str [], .bool false] []), u (.store 2 (t 8) (t 46)), o 9 (.val F)])
  (.live [8, 9] (.ret)))), none⟩
def code112L0 : ACode :=
  .live [0, 5, 6, 7] (.seq (.seq (R [0, 5, 6, 21] [v 14 7, v 15 14, g 16 15 true (.val (t 5)), g 17 15 true (.len .sl (t 16)), g 18 15 true (.val (t 0)), g 19 15 true (.len .sl (t 18)), g 20 15 true (.bin .leq (t 17) (t 19)), o 21 (.pick (t 15) (t 20) F)])
  (.after (.cond (t 21) (.skip) (.live [5] (.exit 0))) [0, 5, 6]))
  (.seq (.after (.block 1 (R [0, 5, 6] [v 29 5, o 30 (.load (some 4) (t 6)), o 31 (.mkslice 4 1 [.str [], .str [], .slice none 0 (some 0), .slice none 0 (some 0)] [(0, 4, t 30)]), o 32 (.append 4 80 (t 29) (t 31)), v 5 32])) [0, 5, 6])
  (.seq (.seq (R [0, 5, 33] [o 33 (.load (some 4) (t 6))])
  (R [0, 5, 6] [o 6 (.lalloc [.str [], .str [], .slice none 0 (some 0), .slice none 0 (some 0)]), u (.store 4 (t 6) (t 33))]))
  (R [0, 5, 6, 7] [v 23 0, o 24 (.faddr (t 6) 1), o 25 (.load none (t 24)), o 26 (.callg 160 [t 23, t 25]), v 22 26, o 27 (.extract (t 22) 0), o 28 (.extract (t 22) 1), u (.store 4 (t 6) (t 27)), v 7 28]))))
def code112 : AFunc := ⟨false, false, 2, 35, [.tmp 4],
  .seq (R [0, 1] [o 4 (.val (.const (.slice none 0 (some 0))))])
  (.seq (R [0, 1, 5] [o 5 (.val (.const (.slice none 0 (some 0))))])
  (.seq (.seq (R [0, 5, 6, 7] [v 9 0, v 10 1, o 11 (.callg 160 [t 9, t 10]), v 8 11, o 12 (.extract (t 8) 0), o 13 (.extract (t 8) 1), o 6 (.lalloc [.str [], .str [], .slice none 0 (some 0), .slice none 0 (some 0)]), u (.store 4 (t 6) (t 12)), v 7 13])
  (.after (.block 0 (.loop code112L0)) [5]))
  (.seq (R [4] [v 34 5, v 4 34])
  (.live [4] (.ret))))), none⟩
def code113 : AFunc := ⟨false, false, 4, 25, [.cell 8 (some 2), .tmp 9],
  .seq (R [0, 1, 2, 3, 8] [o 8 (.lalloc [.str [], .bool false]), o 9 (.val F)])
  (.seq (.seq (R [0, 1, 2, 3, 8, 11] [v 10 0, o 11 (.eqnil .ptr false (t 10) (.const (.ptr none)))])
  (.after (.cond (t 11) (.seq (R [8, 9] [o 12 (.build [.str [], .bool false] []), u (.store 2 (t 8) (t 12)), o 9 (.val F)])
  (.live [8, 9] (.ret))) (.skip)) [0, 1, 2, 3, 8]))
  (.seq (R [8, 9] [v 13 0, v 14 0, o 15 (.nilcheck (t 14)), o 16 (.faddr (t 15) 2), o 17 (.load none (t 16)), v 18 1, v 19 2, v 20 3, o 21 (.build [.str [], .str [], .str []] [(0, 1, t 18), (1, 1, t 19), (2, 1, t 20)]), o 22 (.callg 109 [t 13, t 17, t 21]), o 23 (.extract (t 22) 0), o 24 (.extract (t 22) 1), u (.store 2 (t 8) (t 23)), v 9 24])
  (.live [8, 9] (.ret)))), none⟩
def code114L0 : ACode :=
  .live [2, 3, 8, 11, 16, 17, 18, 23, 24, 25] (.seq (R [2, 3, 8, 11, 16, 17, 18, 23, 24, 25, 26] [o 26 (.bin .lss (t 25) (t 24))])
  (.seq (.after (.cond (t 26) (.skip) (.live [2, 3, 8, 16, 17, 18] (.exit 2))) [2, 3, 8, 11, 16, 17, 18, 23, 24, 25])
  (.seq (.after (.block 3 (.seq (R [2, 3, 8, 11, 13, 16, 17, 18, 23, 24, 25] [o 27 (.iaddr 8 (t 23) (t 25)), o 28 (.load (some 8) (t 27)), o 13 (.lalloc [.bool false, .str [], .str [], .int .i64 0, .int .i64 0, .slice none 0 (some 0), .slice none 0 (some 0), .slice none 0 (some 0)]), u (.store 8 (t 13) (t 28))])
  (.seq (R [2, 3, 8, 11, 13, 16, 17, 18, 23, 24, 25, 38] [o 29 (.faddr (t 13) 1), o 30 (.load none (t 29)), v 31 2, o 32 (.bin .eql (t 30) (t 31)), v 33 32, g 34 33 true (.faddr (t 13) 2), g 35 33 true (.load none (t 34)), g 36 33 true (.val (t 3)), g 37 33 true (.bin .eql (t 35) (t 36)), o 38 (.pick (t 33) (t 37) F)])
  (.after (.cond (t 38) (.seq (R [8, 9] [o 39 (.faddr (t 11) 0), o 40 (.load none (t 39)), o 41 (.faddr (t 13) 0), o 42 (.load none (t 41)), o 43 (.build [.str [], .bool false] [(0, 1, t 40), (1, 1, t 42)]), u (.store 2 (t 8) (t 43)), o 9 (.val Y)])
  (.live [8, 9] (.ret))) (.skip)) [2, 3, 8, 11, 16, 17, 18, 23, 24, 25])))) [2, 3, 8, 11, 16, 17, 18, 23, 24, 25])
  (R [2, 3, 8, 11, 16, 17, 18, 23, 24, 25] [o 44 (.bin .add (t 25) (n 1)), v 25 44]))))
def code114L1 : ACode :=
  .live [2, 3, 8, 16, 17, 18] (.seq (R [2, 3, 8, 16, 17, 18, 19] [o 19 (.bin .lss (t 18) (t 17))])
  (.seq (.after (.cond (t 19) (.skip) (.live [8] (.exit 0))) [2, 3, 8, 16, 17, 18])
  (.seq (.after (.block 1 (.seq (R [2, 3, 8, 11, 16, 17, 18] [o 20 (.iaddr 4 (t 16) (t 18)), o 21 (.load (some 4) (t 20)), o 11 (.lalloc [.str [], .str [], .slice none 0 (some 0), .slice none 0 (some 0)]), u (.store 4 (t 11) (t 21))])
  (.seq (R [2, 3, 8, 11, 16, 17, 18, 23, 24, 25] [o 22 (.faddr (t 11) 3), o 23 (.load none (t 22)), o 24 (.len .sl (t 23)), o 25 (.val (n 0))])
  (.after (.block 2 (.loop code114L0)) [2, 3, 8, 16, 17, 18])))) [2, 3, 8, 16, 17, 18])
  (R [2, 3, 8, 16, 17, 18] [o 45 (.bin .add (t 18) (n 1)), v 18 45]))))
def code114 : AFunc := ⟨false, false, 4, 47, [.cell 8 (some 2), .tmp 9],
  .seq (R [0, 1, 2, 3, 8] [o 8 (.lalloc [.str [], .bool false]), o 9 (.val F)])
  (.seq (.seq (R [2, 3, 8, 16, 17, 18] [v 14 0, v 15 1, o 16 (.callg 112 [t 14, t 15]), o 17 (.len .sl (t 16)), o 18 (.val (n 0))])
  (.after (.block 0 (.loop code114L1)) [8]))
  (.seq (R [8, 9] [o 46 (.build [.str [], .bool false] []), u (.store 2 (t 8) (t 46)), o 9 (.val F)])
  (.live [8, 9] (.ret)))), none⟩
def code115 : AFunc := ⟨false, false, 2, 8, [.cell 4 (some 8)],
  .seq (R [0, 1, 4] [o 4 (.lalloc [.bool false, .str [], .str [], .int .i64 0, .int .i64 0, .slice none 0 (some 0), .slice none 0 (some 0), .slice none 0 (some 0)])])
  (.seq (R [4] [v 5 0, v 6 1, o 7 (.build [.bool false, .str [], .str [], .int .i64 0, .int .i64 0, .slice none 0 (some 0), .slice none 0 (some 0), .slice none 0 (some 0)] [(0, 1, .const (.bool true)), (1, 1, t 5), (2, 1, t 6)]), u (.store 8 (t 4) (t 7))])
  (.live [4] (.ret))), none⟩
def code155L0 : ACode :=
  .live [0, 1, 2, 10, 11] (.seq (R [0, 1, 2, 10, 11, 12] [o 12 (.bin .lss (t 11) (t 10))])
  (.seq (.after (.cond (t 12) (.skip) (.live [] (.exit 0))) [0, 1, 2, 10, 11])
  (.seq (.after (.block 1 (.seq (.after (.region [⟨true, [], [o 14 (.load none (t 1)), o 15 (.nilcheck (t 14)), o 16 (.faddr (t 15) 0), o 17 (.load none (t 16)), o 18 (.load none (t 2))]⟩, ⟨false, [], [o 19 (.ext (.lookup (.one .s) (.str []) true) [t 17, t 18]), v 13 19]⟩, ⟨true, [], [o 20 (.extract (t 13) 0), o 21 (.extract (t 13) 1), v 4 20]⟩, ⟨false, [], [v 5 21]⟩]) [0, 1, 2, 4, 5, 10, 11])
  (.seq (.seq (R [0, 1, 2, 4, 10, 11, 29] [v 22 5, o 23 (.un .not (t 22)), v 24 23, g 25 24 false (.val (t 0)), g 26 24 false (.load none (t 2)), g 27 24 false (.call (t 25) [t 26]), g 28 24 false (.un .not (t 27)), o 29 (.pick (t 24) Y (t 28))])
  (.after (.cond (t 29) (.live [] (.ret)) (.skip)) [0, 1, 2, 4, 10, 11]))
  (R [0, 1, 2, 10, 11] [v 30 4, u (.store 1 (t 2) (t 30))])))) [0, 1, 2, 10, 11])
  (R [0, 1, 2, 10, 11] [o 31 (.bin .add (t 11) (n 1)), v 11 31]))))
def code155 : AFunc := ⟨false, false, 3, 32, [],
  .seq (R [0, 1, 2, 10, 11] [o 6 (.load none (t 1)), o 7 (.nilcheck (t 6)), o 8 (.faddr (t 7) 0), o 9 (.load none (t 8)), o 10 (.len .map (t 9)), o 11 (.val (n 0))])
  (.after (.block 0 (.loop code155L0)) []), none⟩
def code156 : AFunc := ⟨false, false, 2, 6, [.tmp 4],
  .seq (R [2, 3] [o 2 (.box (t 0)), o 3 (.box (t 1)), o 4 (.val (.const (.nilFunc)))])
  (.seq (R [4] [o 5 (.mkfunc 155 [] [t 2, t 3]), v 4 5])
  (.live [4] (.ret))), none⟩
def code157L0 : ACode :=
  .live [5, 77, 78, 79, 84, 85, 86] (.seq (R [5, 77, 78, 79, 84, 85, 86, 87] [o 87 (.bin .lss (t 86) (t 85))])
  (.seq (.after (.cond (t 87) (.skip) (.live [5, 77, 78, 79] (.exit 6))) [5, 77, 78, 79, 84, 85, 86])
  (.seq (.after (.block 7 (.seq (R [5, 19, 77, 78, 79, 84, 85, 86] [o 88 (.iaddr 8 (t 84) (t 86)), o 89 (.load (some 8) (t 88)), o 19 (.lalloc [.bool false, .str [], .str [], .int .i64 0, .int .i64 0, .slice none 0 (some 0), .slice none 0 (some 0), .slice none 0 (some 0)]), u (.store 8 (t 19) (t 89))])
  (.seq (R [5, 77, 78, 79, 84, 85, 86, 108] [o 90 (.faddr (t 19) 1), o 91 (.load none (t 90)), o 92 (.faddr (t 5) 1), o 93 (.load none (t 92)), o 94 (.bin .eql (t 91) (t 93)), v 95 94, g 96 95 true (.faddr (t 19) 2), g 97 95 true (.load none (t 96)), g 98 95 true (.faddr (t 5) 2), g 99 95 true (.load none (t 98)), g 100 95 true (.bin .eql (t 97) (t 99)), o 101 (.pick (t 95) (t 100) F), v 102 101, g 103 102 true (.faddr (t 19) 0), g 104 102 true (.load none (t 103)), g 105 102 true (.faddr (t 5) 0), g 106 102 true (.load none (t 105)), g 107 102 true (.beq true (t 104) (t 106)), o 108 (.pick (t 102) (t 107) F)])
  (.after (.cond (t 108) (.seq (R [6] [o 6 (.val F)])
  (.live [6] (.ret))) (.skip)) [5, 77, 78, 79, 84, 85, 86])))) [5, 77, 78, 79, 84, 85, 86])
  (R [5, 77, 78, 79, 84, 85, 86] [o 109 (.bin .add (t 86) (n 1)), v 86 109]))))
def code157L1 : ACode :=
  .live [5, 77, 78, 79] (.seq (R [5, 77, 78, 79, 80] [o 80 (.bin .lss (t 79) (t 78))])
  (.seq (.after (.cond (t 80) (.skip) (.live [] (.exit 4))) [5, 77, 78, 79])
  (.seq (.after (.block 5 (.seq (R [5, 17, 77, 78, 79] [o 81 (.iaddr 4 (t 77) (t 79)), o 82 (.load (some 4) (t 81)), o 17 (.lalloc [.str [], .str [], .slice none 0 (some 0), .slice none 0 (some 0)]), u (.store 4 (t 17) (t 82))])
  (.seq (R [5, 77, 78, 79, 84, 85, 86] [o 83 (.faddr (t 17) 3), o 84 (.load none (t 83)), o 85 (.len .sl (t 84)), o 86 (.val (n 0))])
  (.after (.block 6 (.loop code157L0)) [5, 77, 78, 79])))) [5, 77, 78, 79])
  (R [5, 77, 78, 79] [o 110 (.bin .add (t 79) (n 1)), v 79 110]))))
def code157L2 : ACode :=
  .live [0, 4, 5, 53, 54, 55] (.seq (R [0, 4, 5, 53, 54, 55, 56] [o 56 (.bin .lss (t 55) (t 54))])
  (.seq (.after (.cond (t 56) (.skip) (.live [0, 4, 5] (.exit 2))) [0, 4, 5, 53, 54, 55])
  (.seq (.after (.block 3 (.seq (R [0, 4, 5, 13, 53, 54, 55] [o 57 (.iaddr 4 (t 53) (t 55)), o 58 (.load (some 4) (t 57)), o 13 (.lalloc [.int .i64 0, .int .i64 0, .int .i64 0, .str []]), u (.store 4 (t 13) (t 58))])
  (.seq (R [0, 4, 5, 13, 15, 53, 54, 55] [v 60 0, o 61 (.faddr (t 13) 3), o 62 (.load none (t 61)), o 63 (.callg 160 [t 60, t 62]), v 59 63, o 64 (.extract (t 59) 0), o 65 (.extract (t 59) 1), o 14 (.lalloc [.str [], .str [], .slice none 0 (some 0), .slice none 0 (some 0)]), u (.store 4 (t 14) (t 64)), v 15 65])
  (.seq (R [0, 4, 5, 53, 54, 55, 72] [o 66 (.faddr (t 13) 3), o 67 (.load none (t 66)), o 68 (.bin .neq (t 67) (.const (.str []))), v 69 68, g 70 69 true (.val (t 15)), g 71 69 true (.un .not (t 70)), o 72 (.pick (t 69) (t 71) F)])
  (.after (.cond (t 72) (.seq (R [6] [o 6 (.val F)])
  (.live [6] (.ret))) (.skip)) [0, 4, 5, 53, 54, 55]))))) [0, 4, 5, 53, 54, 55])
  (R [0, 4, 5, 53, 54, 55] [o 73 (.bin .add (t 55) (n 1)), v 55 73]))))
def code157L3 : ACode :=
  .live [0, 4, 5, 41, 42, 43] (.seq (R [0, 4, 5, 41, 42, 43, 44] [o 44 (.bin .lss (t 43) (t 42))])
  (.seq (.after (.cond (t 44) (.skip) (.live [0, 4, 5] (.exit 0))) [0, 4, 5, 41, 42, 43])
  (.seq (.after (.block 1 (.seq (R [0, 4, 5, 11, 41, 42, 43] [o 45 (.iaddr 1 (t 41) (t 43)), o 46 (.load none (t 45)), v 11 46])
  (.seq (R [0, 4, 5, 41, 42, 43, 50] [v 47 0, v 48 11, o 49 (.callg 159 [t 47, t 48]), o 50 (.un .not (t 49))])
  (.after (.cond (t 50) (.seq (R [6] [o 6 (.val F)])
  (.live [6] (.ret))) (.skip)) [0, 4, 5, 41, 42, 43])))) [0, 4, 5, 41, 42, 43])
  (R [0, 4, 5, 41, 42, 43] [o 51 (.bin .add (t 43) (n 1)), v 43 51]))))
def code157 : AFunc := ⟨false, false, 3, 111, [.tmp 6],
  .seq (R [0, 4, 5] [o 4 (.lbox (t 1)), o 5 (.lbox (t 2)), o 6 (.val F)])
  (.seq (R [0, 4, 5, 7, 8, 9] [o 21 (.faddr (t 5) 2), o 22 (.load none (t 21)), o 23 (.callg 37 [t 22]), v 20 23, o 24 (.extract (t 20) 0), o 25 (.extract (t 20) 1), o 26 (.extract (t 20) 2), v 7 24, v 8 25, v 9 26])
  (.seq (.seq (R [0, 4, 5, 7, 40] [o 27 (.faddr (t 5) 1), o 28 (.load none (t 27)), o 29 (.callg 158 [t 28]), o 30 (.un .not (t 29)), v 31 30, g 32 31 false (.val (t 9)), g 33 31 false (.bin .neq (t 32) (n 0)), o 34 (.pick (t 31) Y (t 33)), v 35 34, g 36 35 false (.val (t 0)), g 37 35 false (.val (t 8)), g 38 35 false (.callg 159 [t 36, t 37]), g 39 35 false (.un .not (t 38)), o 40 (.pick (t 35) Y (t 39))])
  (.after (.cond (t 40) (.seq (R [6] [o 6 (.val F)])
  (.live [6] (.ret))) (.skip)) [0, 4, 5, 7]))
  (.seq (.seq (R [0, 4, 5, 41, 42, 43] [v 41 7, o 42 (.len .sl (t 41)), o 43 (.val (n 0))])
  (.after (.block 0 (.loop code157L3)) [0, 4, 5]))
  (.seq (.seq (R [0, 4, 5, 53, 54, 55] [o 52 (.faddr (t 5) 6), o 53 (.load none (t 52)), o 54 (.len .sl (t 53)), o 55 (.val (n 0))])
  (.after (.block 2 (.loop code157L2)) [0, 4, 5]))
  (.seq (.seq (R [5, 77, 78, 79] [v 74 0, o 75 (.faddr (t 4) 0), o 76 (.load none (t 75)), o 77 (.callg 112 [t 74, t 76]), o 78 (.len .sl (t 77)), o 79 (.val (n 0))])
  (.after (.block 4 (.loop code157L1)) []))
  (.seq (R [6] [o 6 (.val Y)])
  (.live [6] (.ret)))))))), none⟩
def code158L0 : ACode :=
  .live [0, 3] (.seq (.seq (R [0, 3, 7] [v 4 3, v 5 0, o 6 (.len .str (t 5)), o 7 (.bin .lss (t 4) (t 6))])
  (.after (.cond (t 7) (.skip) (.live [0] (.exit 0))) [0, 3]))
  (.seq (.after (.block 1 (.seq (R [0, 3, 13] [v 10 0, v 11 3, o 12 (.index (t 10) (t 11)), o 13 (.bin .eql (t 12) (.const (.int .u8 47)))])
  (.after (.cond (t 13) (.seq (R [2] [o 2 (.val F)])
  (.live [2] (.ret))) (.skip)) [0, 3]))) [0, 3])
  (R [0, 3] [v 8 3, o 9 (.bin .add (t 8) (n 1)), v 3 9])))
def code158 : AFunc := ⟨false, false, 1, 16, [.tmp 2],
  .seq (R [0] [o 2 (.val F)])
  (.seq (.seq (R [0, 3] [o 3 (.val (n 0))])
  (.after (.block 0 (.loop code158L0)) [0]))
  (.seq (R [2] [v 14 0, o 15 (.callg 26 [t 14]), v 2 15])
  (.live [2] (.ret)))), none⟩
def code159L0 : ACode :=
  .live [0, 1] (.seq (.seq (R [0, 1, 15] [v 9 1, o 10 (.bin .neq (t 9) (.const (.str []))), v 11 10, g 12 11 true (.val (t 1)), g 13 11 true (.index (t 12) (n 0)), g 14 11 true (.bin .eql (t 13) (.const (.int .u8 91))), o 15 (.pick (t 11) (t 14) F)])
  (.after (.cond (t 15) (.skip) (.live [0, 1] (.exit 0))) [0, 1]))
  (.after (.block 1 (R [0, 1] [v 16 1, o 17 (.slice .str (t 16) (some (n 1)) none none), v 1 17])) [0, 1]))
def code159 : AFunc := ⟨false, false, 2, 34, [.tmp 4],
  .seq (R [0, 1] [o 4 (.val F)])
  (.seq (.after (.block 0 (.loop code159L0)) [0, 1])
  (.seq (R [0, 5, 6] [v 19 1, o 20 (.callg 33 [t 19]), v 18 20, o 21 (.extract (t 18) 0), o 22 (.extract (t 18) 1), v 5 21, v 6 22])
  (.seq (R [6, 8] [v 24 0, v 25 5, o 26 (.callg 160 [t 24, t 25]), v 23 26, o 27 (.extract (t 23) 0), o 28 (.extract (t 23) 1), o 7 (.lalloc [.str [], .str [], .slice none 0 (some 0), .slice none 0 (some 0)]), u (.store 4 (t 7) (t 27)), v 8 28])
  (.seq (R [4] [v 29 6, o 30 (.un .not (t 29)), v 31 30, g 32 31 false (.val (t 8)), o 33 (.pick (t 31) Y (t 32)), v 4 33])
  (.live [4] (.ret)))))), none⟩
def code160L0 : ACode :=
  .live [1, 4, 8, 9, 10] (.seq (R [1, 4, 8, 9, 10, 11] [o 11 (.bin .lss (t 10) (t 9))])
  (.seq (.after (.cond (t 11) (.skip) (.live [4] (.exit 0))) [1, 4, 8, 9, 10])
  (.seq (.after (.block 1 (.seq (R [1, 4, 7, 8, 9, 10] [o 12 (.iaddr 4 (t 8) (t 10)), o 13 (.load (some 4) (t 12)), o 7 (.lalloc [.str [], .str [], .slice none 0 (some 0), .slice none 0 (some 0)]), u (.store 4 (t 7) (t 13))])
  (.seq (R [1, 4, 7, 8, 9, 10, 17] [o 14 (.faddr (t 7) 0), o 15 (.load none (t 14)), v 16 1, o 17 (.bin .eql (t 15) (t 16))])
  (.after (.cond (t 17) (.seq (R [4, 5] [o 18 (.load (some 4) (t 7)), u (.store 4 (t 4) (t 18)), o 5 (.val Y)])
  (.live [4, 5] (.ret))) (.skip)) [1, 4, 8, 9, 10])))) [1, 4, 8, 9, 10])
  (R [1, 4, 8, 9, 10] [o 19 (.bin .add (t 10) (n 1)), v 10 19]))))
def code160 : AFunc := ⟨false, false, 2, 21, [.cell 4 (some 4), .tmp 5],
  .seq (R [0, 1, 4] [o 4 (.lalloc [.str [], .str [], .slice none 0 (some 0), .slice none 0 (some 0)]), o 5 (.val F)])
  (.seq (.seq (R [1, 4, 8, 9, 10] [v 8 0, o 9 (.len .sl (t 8)), o 10 (.val (n 0))])
  (.after (.block 0 (.loop code160L0)) [4]))
  (.seq (R [4, 5] [o 20 (.build [.str [], .str [], .slice none 0 (some 0), .slice none 0 (some 0)] []), u (.store 4 (t 4) (t 20)), o 5 (.val F)])
  (.live [4, 5] (.ret)))), none⟩
def code179 : AFunc := ⟨false, false, 0, 10, [.cell 0 (some 16)],
  .seq (R [0] [o 0 (.lalloc [.str [], .str [], .str [], .str [], .str [], .str [], .str [], .str [], .str [], .str [], .str [], .str [], .str [], .str [], .str [], .str []])])
  (.seq (R [0] [o 1 (.build [.str [], .str []] [(0, 1, .const (.str [112, 114, 105, 110, 116])), (1, 1, .const (.str [40, 73, 41, 86]))]), o 2 (.build [.str [], .str []] [(0, 1, .const (.str [112, 114, 105, 110, 116, 76, 111, 110, 103])), (1, 1, .const (.str [40, 74, 41, 86]))]), o 3 (.build [.str [], .str []] [(0, 1, .const (.str [112, 114, 105, 110, 116, 84, 101, 120, 116])), (1, 1, .const (.str [40, 91, 66, 41, 86]))]), o 4 (.build [.str [], .str []] [(0, 1, .const (.str [97, 100, 100])), (1, 1, .const (.str [40, 91, 66, 41, 73]))]), o 5 (.build [.str [], .str []] [(0, 1, .const (.str [103, 101, 116])), (1, 1, .const (.str [40, 73, 41, 91, 66]))]), o 6 (.build [.str [], .str []] [(0, 1, .const (.str [115, 101, 116])), (1, 1, .const (.str [40, 73, 91, 66, 41, 86]))]), o 7 (.build [.str [], .str []] [(0, 1, .const (.str [100, 101, 108])), (1, 1, .const (.str [40, 73, 41, 86]))]), o 8 (.build [.str [], .str []] [(0, 1, .const (.str [99, 111, 117, 110, 116])), (1, 1, .const (.str [40, 41, 73]))]), o 9 (.build [.str [], .str [], .str [], .str [], .str [], .str [], .str [], .str [], .str [], .str [], .str [], .str [], .str [], .str [], .str [], .str []] [(0, 2, t 1), (2, 2, t 2), (4, 2, t 3), (6, 2, t 4), (8, 2, t 5), (10, 2, t 6), (12, 2, t 7), (14, 2, t 8)]), u (.store 16 (t 0) (t 9))])
  (.live [0] (.ret))), none⟩
def code181 : AFunc := ⟨false, false, 1, 10, [.tmp 2],
  .seq (R [0] [o 2 (.val F)])
  (.seq (R [2] [v 3 0, o 4 (.callg 180 [t 3, .const (.str [47])]), o 5 (.un .not (t 4)), v 6 5, g 7 6 true (.val (t 0)), g 8 6 true (.callg 25 [t 7]), o 9 (.pick (t 6) (t 8) F), v 2 9])
  (.live [2] (.ret))), none⟩
def code182L0 : ACode :=
  .live [0, 42, 43, 44] (.seq (R [0, 42, 43, 44, 45] [o 45 (.bin .lss (t 44) (t 43))])
  (.seq (.after (.cond (t 45) (.skip) (.live [] (.exit 2))) [0, 42, 43, 44])
  (.seq (.after (.block 3 (.seq (R [0, 11, 42, 43, 44] [o 46 (.iaddr 4 (t 42) (t 44)), o 47 (.load (some 4) (t 46)), o 11 (.lalloc [.int .i64 0, .int .i64 0, .int .i64 0, .str []]), u (.store 4 (t 11) (t 47))])
  (.seq (R [0, 42, 43, 44, 57] [o 48 (.faddr (t 11) 3), o 49 (.load none (t 48)), o 50 (.bin .neq (t 49) (.const (.str []))), v 51 50, g 52 51 true (.val (t 0)), g 53 51 true (.faddr (t 11) 3), g 54 51 true (.load none (t 53)), g 55 51 true (.callg 54 [t 52, t 54]), g 56 51 true (.un .not (t 55)), o 57 (.pick (t 51) (t 56) F)])
  (.after (.cond (t 57) (.seq (R [4] [o 4 (.val F)])
  (.live [4] (.ret))) (.skip)) [0, 42, 43, 44])))) [0, 42, 43, 44])
  (R [0, 42, 43, 44] [o 58 (.bin .add (t 44) (n 1)), v 44 58]))))
def code182L1 : ACode :=
  .live [0, 3, 30, 31, 32] (.seq (R [0, 3, 30, 31, 32, 33] [o 33 (.bin .lss (t 32) (t 31))])
  (.seq (.after (.cond (t 33) (.skip) (.live [0, 3] (.exit 0))) [0, 3, 30, 31, 32])
  (.seq (.after (.block 1 (.seq (R [0, 3, 9, 30, 31, 32] [o 34 (.iaddr 1 (t 30) (t 32)), o 35 (.load none (t 34)), v 9 35])
  (.seq (R [0, 3, 30, 31, 32, 39] [v 36 0, v 37 9, o 38 (.callg 103 [t 36, t 37]), o 39 (.un .not (t 38))])
  (.after (.cond (t 39) (.seq (R [4] [o 4 (.val F)])
  (.live [4] (.ret))) (.skip)) [0, 3, 30, 31, 32])))) [0, 3, 30, 31, 32])
  (R [0, 3, 30, 31, 32] [o 40 (.bin .add (t 32) (n 1)), v 32 40]))))
def code182 : AFunc := ⟨false, false, 2, 59, [.tmp 4],
  .seq (R [0, 3] [o 3 (.lbox (t 1)), o 4 (.val F)])
  (.seq (R [0, 3, 5, 6, 7] [o 13 (.faddr (t 3) 2), o 14 (.load none (t 13)), o 15 (.callg 38 [t 14]), v 12 15, o 16 (.extract (t 12) 0), o 17 (.extract (t 12) 1), o 18 (.extract (t 12) 2), v 5 16, v 6 17, v 7 18])
  (.seq (.seq (R [0, 3, 5, 6, 26] [v 19 7, o 20 (.bin .neq (t 19) (n 0)), v 21 20, g 22 21 false (.faddr (t 3) 1), g 23 21 false (.load none (t 22)), g 24 21 false (.callg 181 [t 23]), g 25 21 false (.un .not (t 24)), o 26 (.pick (t 21) Y (t 25))])
  (.after (.cond (t 26) (.seq (R [4] [o 4 (.val F)])
  (.live [4] (.ret))) (.skip)) [0, 3, 5, 6]))
  (.seq (.seq (R [0, 3, 30, 31, 32] [v 27 5, v 28 6, o 29 (.mkslice 1 1 [.str []] [(0, 1, t 28)]), o 30 (.append 1 16 (t 27) (t 29)), o 31 (.len .sl (t 30)), o 32 (.val (n 0))])
  (.after (.block 0 (.loop code182L1)) [0, 3]))
  (.seq (.seq (R [0, 42, 43, 44] [o 41 (.faddr (t 3) 6), o 42 (.load none (t 41)), o 43 (.len .sl (t 42)), o 44 (.val (n 0))])
  (.after (.block 2 (.loop code182L0)) []))
  (.seq (R [4] [o 4 (.val Y)])
  (.live [4] (.ret))))))), none⟩
def code283 : AFunc := ⟨false, false, 4, 126, [.tmp 8],
  .seq (R [0, 1, 2, 3] [o 8 (.val F)])
  (.seq (.seq (R [0, 1, 2, 3, 24] [o 23 (.callg 50 []), o 24 (.un .not (t 23))])
  (.after (.cond (t 24) (.seq (R [8] [o 8 (.val F)])
  (.live [8] (.ret))) (.skip)) [0, 1, 2, 3]))
  (.seq (.seq (R [0, 1, 2, 3, 38] [v 25 0, o 26 (.callg 105 [t 25]), o 27 (.un .not (t 26)), v 28 27, g 29 28 false (.val (t 1)), g 30 28 false (.len .str (t 29)), g 31 28 false (.val (t 2)), g 32 28 false (.len .str (t 31)), g 33 28 false (.bin .add (t 30) (t 32)), g 34 28 false (.val (t 3)), g 35 28 false (.len .str (t 34)), g 36 28 false (.bin .add (t 33) (t 35)), g 37 28 false (.bin .gtr (t 36) (n 300)), o 38 (.pick (t 28) Y (t 37))])
  (.after (.cond (t 38) (.seq (R [8] [o 8 (.val Y)])
  (.live [8] (.ret))) (.skip)) [0, 1, 2, 3]))
  (.seq (R [0, 1, 2, 3, 9, 10] [v 40 0, o 41 (.callg 49 [t 40]), v 39 41, o 42 (.extract (t 39) 0), o 43 (.extract (t 39) 1), v 9 42, v 10 43])
  (.seq (R [1, 2, 3, 9, 10, 11, 12] [v 45 0, o 46 (.callg 107 [t 45]), v 44 46, o 47 (.extract (t 44) 0), o 48 (.extract (t 44) 1), v 11 47, v 12 48])
  (.seq (.seq (R [1, 2, 3, 9, 10, 11, 50] [v 49 12, o 50 (.un .not (t 49))])
  (.after (.cond (t 50) (.seq (R [8] [v 51 10, o 52 (.bin .eql (t 51) (n 15)), v 8 52])
  (.live [8] (.ret))) (.skip)) [1, 2, 3, 9, 10, 11]))
  (.seq (R [1, 2, 3, 9, 10, 11, 13, 14] [v 54 9, v 55 1, v 56 2, v 57 3, o 58 (.callg 110 [t 54, t 55, t 56, t 57]), v 53 58, o 59 (.extract (t 53) 0), o 60 (.extract (t 53) 1), o 13 (.lalloc [.str [], .bool false]), u (.store 2 (t 13) (t 59)), v 14 60])
  (.seq (R [1, 2, 3, 9, 10, 11, 13, 14, 15, 16] [v 62 11, v 63 1, v 64 2, v 65 3, o 66 (.callg 111 [t 62, t 63, t 64, t 65]), v 61 66, o 67 (.extract (t 61) 0), o 68 (.extract (t 61) 1), o 15 (.lalloc [.str [], .bool false]), u (.store 2 (t 15) (t 67)), v 16 68])
  (.seq (R [1, 2, 3, 9, 10, 11, 13, 14, 15, 16, 17, 18] [v 70 9, v 71 1, v 72 2, v 73 3, o 74 (.callg 113 [t 70, t 71, t 72, t 73]), v 69 74, o 75 (.extract (t 69) 0), o 76 (.extract (t 69) 1), o 17 (.lalloc [.str [], .bool false]), u (.store 2 (t 17) (t 75)), v 18 76])
  (.seq (R [1, 2, 3, 9, 10, 13, 14, 15, 16, 17, 18, 19, 20] [v 78 11, v 79 1, v 80 2, v 81 3, o 82 (.callg 114 [t 78, t 79, t 80, t 81]), v 77 82, o 83 (.extract (t 77) 0), o 84 (.extract (t 77) 1), o 19 (.lalloc [.str [], .bool false]), u (.store 2 (t 19) (t 83)), v 20 84])
  (.seq (R [1, 2, 3, 9, 10, 13, 14, 15, 16, 17, 18, 19, 20, 21] [o 86 (.callg 108 []), v 87 1, v 88 2, v 89 3, o 90 (.callg 114 [t 86, t 87, t 88, t 89]), v 85 90, o 91 (.extract (t 85) 0), o 92 (.extract (t 85) 1), o 21 (.lalloc [.str [], .bool false]), u (.store 2 (t 21) (t 91)), v 22 92])
  (.seq (.after (.region [⟨false, [], [v 93 10, o 94 (.bin .eql (t 93) (n 0)), v 95 94]⟩, ⟨true, [], [g 96 95 true (.load (some 2) (t 13)), g 97 95 true (.load (some 2) (t 15))]⟩, ⟨false, [], [g 98 95 true (.ext (.pure (.eqcells false [.s, .b])) [t 96, t 97]), o 99 (.pick (t 95) (t 98) F), v 100 99]⟩, ⟨true, [], [g 101 100 true (.val (t 14)), g 102 100 true (.val (t 16))]⟩, ⟨false, [], [g 103 100 true (.beq false (t 101) (t 102)), o 104 (.pick (t 100) (t 103) F), v 105 104]⟩, ⟨true, [], [g 106 105 true (.load (some 2) (t 17)), g 107 105 true (.load (some 2) (t 19))]⟩, ⟨false, [], [g 108 105 true (.ext (.pure (.eqcells false [.s, .b])) [t 106, t 107]), o 109 (.pick (t 105) (t 108) F), v 110 109]⟩, ⟨true, [], [g 111 110 true (.val (t 18)), g 112 110 true (.val (t 20))]⟩, ⟨false, [], [g 113 110 true (.beq false (t 111) (t 112)), o 114 (.pick (t 110) (t 113) F), v 115 114]⟩, ⟨true, [], [g 116 115 true (.val (t 9)), g 117 115 true (.val (t 1)), g 118 115 true (.val (t 2)), g 119 115 true (.val (t 3)), g 120 115 true (.callg 95 [t 116, t 117, t 118, t 119]), g 121 115 true (.faddr (t 21) 0), g 122 115 true (.load none (t 121)), g 123 115 true (.bin .neq (t 122) (.const (.str [])))]⟩, ⟨false, [], [g 124 115 true (.beq false (t 120) (t 123)), o 125 (.pick (t 115) (t 124) F), v 8 125]⟩]) [8])
  (.live [8] (.ret))))))))))))), none⟩
def code284L0 : ACode :=
  .live [1, 24, 25] (.seq (R [1, 24, 25, 26] [o 26 (.bin .lss (t 25) (n 8))])
  (.seq (.after (.cond (t 26) (.skip) (.live [1] (.exit 2))) [1, 24, 25])
  (.seq (.after (.block 3 (.seq (R [1, 5, 24, 25] [o 27 (.aindex 8 2 (some 2) (t 24) (t 25)), o 5 (.lalloc [.str [], .str []]), u (.store 2 (t 5) (t 27))])
  (.seq (R [1, 6, 24, 25] [o 28 (.aaddr 2 1 (t 5) (n 0)), o 29 (.load none (t 28)), o 30 (.aaddr 2 1 (t 5) (n 1)), o 31 (.load none (t 30)), o 32 (.build [.str [], .str [], .str []] [(0, 1, .const (.str [115, 121, 115])), (1, 1, t 29), (2, 1, t 31)]), o 6 (.lalloc [.str [], .str [], .str []]), u (.store 3 (t 6) (t 32))])
  (.seq (.after (.region [⟨true, [], [v 33 1, o 34 (.nilcheck (t 33)), o 35 (.faddr (t 34) 2), o 36 (.load none (t 35)), o 37 (.load (some 3) (t 6)), o 38 (.build [.str [], .bool false] [(0, 1, .const (.str [115, 121, 115])), (1, 1, .const (.bool true))])]⟩, ⟨false, [], [u (.ext (.mapupd (.agg [.s, .s, .s])) [t 36, t 37, t 38])]⟩]) [1, 6, 24, 25])
  (.after (.region [⟨true, [], [v 39 1, o 40 (.nilcheck (t 39)), o 41 (.faddr (t 40) 3), o 42 (.load none (t 41)), o 43 (.load (some 3) (t 6))]⟩, ⟨false, [], [u (.ext (.mapupd (.agg [.s, .s, .s])) [t 42, t 43, .const (.bool true)])]⟩]) [1, 24, 25]))))) [1, 24, 25])
  (R [1, 24, 25] [o 44 (.bin .add (t 25) (n 1)), v 25 44]))))
def code284L1 : ACode :=
  .live [1, 14, 15] (.seq (R [1, 14, 15, 16] [o 16 (.bin .lss (t 15) (n 6))])
  (.seq (.after (.cond (t 16) (.skip) (.live [1] (.exit 0))) [1, 14, 15])
  (.seq (.after (.block 1 (.seq (R [1, 3, 14, 15] [o 17 (.aindex 6 1 none (t 14) (t 15)), v 3 17])
  (R [1, 14, 15] [v 18 1, o 19 (.nilcheck (t 18)), o 20 (.faddr (t 19) 0), o 21 (.load none (t 20)), v 22 3, u (.ext (.mapupd (.one .s)) [t 21, t 22, .const (.str [84, 104, 114, 111, 119, 97, 98, 108, 101])])]))) [1, 14, 15])
  (R [1, 14, 15] [o 23 (.bin .add (t 15) (n 1)), v 15 23]))))
def code284 : AFunc := ⟨false, false, 0, 46, [.tmp 0],
  .seq (R [] [o 0 (.val (.const (.ptr none)))])
  (.seq (R [1] [o 7 (.ext .mkmap []), u (.ext (.mapupd (.one .s)) [t 7, .const (.str [79, 98, 106, 101, 99, 116]), .const (.str [])]), u (.ext (.mapupd (.one .s)) [t 7, .const (.str [84, 104, 114, 111, 119, 97, 98, 108, 101]), .const (.str [79, 98, 106, 101, 99, 116])]), u (.ext (.mapupd (.one .s)) [t 7, .const (.str [115, 121, 115]), .const (.str [79, 98, 106, 101, 99, 116])]), v 8 7, o 9 (.ext .mkmap []), o 10 (.ext .mkmap []), o 11 (.ext .mkmap []), o 12 (.build [.map none, .map none, .map none, .map none] [(0, 1, t 8), (1, 1, t 9), (2, 1, t 10), (3, 1, t 11)]), o 13 (.box (t 12)), v 1 13])
  (.seq (.seq (R [1, 14, 15] [o 14 (.build [.str [], .str [], .str [], .str [], .str [], .str []] [(0, 1, .const (.str [78, 117, 108, 108, 70, 97, 117, 108, 116])), (1, 1, .const (.str [66, 111, 117, 110, 100, 115, 70, 97, 117, 108, 116])), (2, 1, .const (.str [77, 97, 116, 104, 70, 97, 117, 108, 116])), (3, 1, .const (.str [67, 97, 115, 116, 70, 97, 117, 108, 116])), (4, 1, .const (.str [83, 105, 122, 101, 70, 97, 117, 108, 116])), (5, 1, .const (.str [83, 116, 111, 114, 101, 70, 97, 117, 108, 116]))]), o 15 (.val (n 0))])
  (.after (.block 0 (.loop code284L1)) [1]))
  (.seq (.seq (R [1, 24, 25] [o 24 (.callg 179 []), o 25 (.val (n 0))])
  (.after (.block 2 (.loop code284L0)) [1]))
  (.seq (R [0] [v 45 1, v 0 45])
  (.live [0] (.ret)))))), none⟩
def T : Nat → Option AFunc := fun g => match AbsDesc.T g with
  | some f => some f
  | none => List.lookup g [(47, code47), (49, code49), (50, code50), (320, code320), (52, code52), (54, code54), (95, code95), (96, code96), (322, code322), (97, code97), (321, code321), (98, code98), (99, code99), (100, code100), (103, code103), (104, code104), (105, code105), (106, code106), (107, code107), (108, code108), (323, code323), (109, code109), (110, code110), (111, code111), (112, code112), (113, code113), (114, code114), (115, code115), (155, code155), (156, code156), (157, code157), (158, code158), (159, code159), (160, code160), (179, code179), (181, code181), (182, code182), (283, code283), (284, code284)]
theorem sub : ∀ g f, AbsDesc.T g = some f → T g = some f := fun g f h => by unfold T; rw [h]
theorem t47 : T 47 = some code47 := rfl
theorem t49 : T 49 = some code49 := rfl
theorem t50 : T 50 = some code50 := rfl
theorem t320 : T 320 = some code320 := rfl
theorem t52 : T 52 = some code52 := rfl
theorem t54 : T 54 = some code54 := rfl
theorem t95 : T 95 = some code95 := rfl
theorem t96 : T 96 = some code96 := rfl
theorem t322 : T 322 = some code322 := rfl
theorem t97 : T 97 = some code97 := rfl
theorem t321 : T 321 = some code321 := rfl
theorem t98 : T 98 = some code98 := rfl
theorem t99 : T 99 = some code99 := rfl
theorem t100 : T 100 = some code100 := rfl
theorem t103 : T 103 = some code103 := rfl
theorem t104 : T 104 = some code104 := rfl
theorem t105 : T 105 = some code105 := rfl
theorem t106 : T 106 = some code106 := rfl
theorem t107 : T 107 = some code107 := rfl
theorem t108 : T 108 = some code108 := rfl
theorem t323 : T 323 = some code323 := rfl
theorem t109 : T 109 = some code109 := rfl
theorem t110 : T 110 = some code110 := rfl
theorem t111 : T 111 = some code111 := rfl
theorem t112 : T 112 = some code112 := rfl
theorem t113 : T 113 = some code113 := rfl
theorem t114 : T 114 = some code114 := rfl
theorem t115 : T 115 = some code115 := rfl
theorem t155 : T 155 = some code155 := rfl
theorem t156 : T 156 = some code156 := rfl
theorem t157 : T 157 = some code157 := rfl
theorem t158 : T 158 = some code158 := rfl
theorem t159 : T 159 = some code159 := rfl
theorem t160 : T 160 = some code160 := rfl
theorem t179 : T 179 = some code179 := rfl
theorem t181 : T 181 = some code181 := rfl
theorem t182 : T 182 = some code182 := rfl
theorem t283 : T 283 = some code283 := rfl
theorem t284 : T 284 = some code284 := rfl
end Go.Abs.AbsHier

/-
  Layer 16: what layer 12 tells, here; a world in memory; small functions.
-/
namespace Go.Abs.AbsHier
open Go.Abs.AbsDesc
set_option maxRecDepth 100000
set_option linter.unusedSimpArgs false
variable {os O : List AObj} {b w : Nat}

/-! ## From layer 12 -/

theorem s27 {s : Str} (hn : s.length ≤ 9223372036854775807) (hb : b ≤ os.length) : xCall T 27 [.str s] ⟨os, b, w⟩ = some (.bool (isTy s), ⟨os, b, w⟩) := xCall_sub sub (AbsDesc.s27 hn hb)
theorem s28 {s : Str} (hn : s.length ≤ 9223372036854775807) : xCall T 28 [.str s] ⟨os, b, w⟩ = some (.bool (isTy s), ⟨os, b, w⟩) := xCall_sub sub (AbsDesc.s28 hn)
theorem s25 {s : Str} (hb : b ≤ os.length) : xCall T 25 [.str s] ⟨os, b, w⟩ = some (.bool (isClass s), ⟨os, b, w⟩) := xCall_sub sub (AbsDesc.s25 hb)
theorem s26 {s : Str} (hn : s.length ≤ 9223372036854775807) : xCall T 26 [.str s] ⟨os, b, w⟩ = some (.bool (isClass s), ⟨os, b, w⟩) := xCall_sub sub (AbsDesc.s26 hn)
theorem s34 {s : Str} (hn : s.length ≤ 9223372036854775807) : xCall T 34 [.str s] ⟨os, b, w⟩ = some (classV s, ⟨os, b, w⟩) := xCall_sub sub (AbsDesc.s34 hn)
theorem s33 {s : Str} (hn : s.length ≤ 9223372036854775807) : xCall T 33 [.str s] ⟨os, b, w⟩ = some (classV s, ⟨os, b, w⟩) := xCall_sub sub (AbsDesc.s33 hn)
theorem s38 {s : Str} (hn : s.length ≤ 9223372036854775807) (hb : b ≤ os.length) : xCall T 38 [.str s] ⟨os, b, w⟩ = some (methV os.length (methL s), ⟨methO os (methL s), b, w⟩) := xCall_sub sub (AbsDesc.s38 hn hb)
theorem s37 {s : Str} (hn : s.length ≤ 9223372036854775807) (hb : b ≤ os.length) : xCall T 37 [.str s] ⟨os, b, w⟩ = some (methV os.length (methL s), ⟨methO os (methL s), b, w⟩) := xCall_sub sub (AbsDesc.s37 hn hb)
theorem s139 {s : Str} : xCall T 139 [.str s, .str [91]] ⟨os, b, w⟩ = some (.str (bare s), ⟨os, b, w⟩) := xCall_sub sub AbsDesc.s139
theorem s173 {s : Str} {c : UInt8} {h : Heap} : xCall T 173 [.str s, .str [c]] h = some (.int .i64 (Lib.indexByte s c), h) := xCall_sub sub AbsDesc.s173

theorem d180 {s : Str} {c : UInt8} : xCall AbsDesc.T 180 [.str s, .str [c]] ⟨os, b, w⟩ = some (.bool (decide (0 ≤ Lib.indexByte s c)), ⟨os, b, w⟩) := by
  simp [xCallK AbsDesc.t180, code180, AbsDesc.s173]
theorem s180 {s : Str} {c : UInt8} : xCall T 180 [.str s, .str [c]] ⟨os, b, w⟩ = some (.bool (decide (0 ≤ Lib.indexByte s c)), ⟨os, b, w⟩) := xCall_sub sub d180

/-! ## A world -/

abbrev Key := Str × Str × Str
structure Mem where
  cls : Str
  st : Bool
  deriving DecidableEq

def keyF (k : Key) : AVal := .agg [.str k.1, .str k.2.1, .str k.2.2]
def memF (m : Mem) : AVal := .agg [.str m.cls, .bool m.st]

theorem keyKey : KeyF keyF := fun a c => by
  obtain ⟨a1, a2, a3⟩ := a
  obtain ⟨c1, c2, c3⟩ := c
  simp only [keyF, akey, List.length_cons, List.length_nil, if_true, akeyL, akey1]
  by_cases h1 : a1 = c1
  · by_cases h2 : a2 = c2
    · by_cases h3 : a3 = c3 <;> simp [h1, h2, h3]
    · simp [h1, h2]
  · simp [h1]

/-- A world at N: what it has of superclasses, fields, methods, native ones. -/
structure World (O : List AObj) (N : Nat) (S : List (Str × Str)) (F M : List (Key × Mem)) (V : List (Key × Bool)) : Prop where
  w0 : O[N]? = some (.cells 4 [.map (some (N + 1)), .map (some (N + 2)), .map (some (N + 3)), .map (some (N + 4))])
  m1 : O[N + 1]? = some (mObj .str .str S)
  m2 : O[N + 2]? = some (mObj keyF memF F)
  m3 : O[N + 3]? = some (mObj keyF memF M)
  m4 : O[N + 4]? = some (mObj keyF .bool V)

variable {N : Nat} {S : List (Str × Str)} {F M : List (Key × Mem)} {V : List (Key × Bool)}

theorem World.lt (h : World O N S F M V) : N + 4 < O.length := lt_of_get h.m4
theorem World.app (h : World O N S F M V) (X : List AObj) : World (O ++ X) N S F M V := by
  have := h.lt
  constructor <;> (rw [List.getElem?_append_left (by omega)])
  · exact h.w0
  · exact h.m1
  · exact h.m2
  · exact h.m3
  · exact h.m4

/-- Super -/
theorem s96 (h : World O N S F M V) {c : Str} : xCall T 96 [.ptr (some (N, 0)), .str c] ⟨O, b, w⟩ = some (.tuple [.str ((getE S c).getD []), .bool (getE S c).isSome], ⟨O, b, w⟩) := by
  have hl := fun w => lookup_ok (b := b) (w := w) (kn := .one .s) (zero := .str []) keyStr h.m1 (k := c) rfl
  have e : ((getE S c).map AVal.str).getD (.str []) = .str ((getE S c).getD []) := by cases getE S c <;> rfl
  rw [e] at hl
  simp [-evExt, xCallK t96, code96, h.w0, hl]

/-- Has -/
theorem s54 (h : World O N S F M V) {c : Str} : xCall T 54 [.ptr (some (N, 0)), .str c] ⟨O, b, w⟩ = some (.bool (getE S c).isSome, ⟨O, b, w⟩) := by
  have hl := fun w => s96 (b := b) (w := w) h (c := c)
  simp [xCallK t54, code54, hl]

/-- Which class a type names. -/
def classOf (s : Str) : Option Str := if isObj s then some ((s.drop 1).take (s.length - 2)) else none
theorem classV_eq (s : Str) : classV s = .tuple [.str ((classOf s).getD []), .bool (classOf s).isSome] := by
  unfold classV classOf
  cases isObj s <;> rfl

def thereS (S : List (Str × Str)) (t : Str) : Bool := match classOf (bare t) with
  | some c => (getE S c).isSome
  | none => true

theorem s103 (h : World O N S F M V) {t : Str} (hn : t.length ≤ 9223372036854775807) : xCall T 103 [.ptr (some (N, 0)), .str t] ⟨O, b, w⟩ = some (.bool (thereS S t), ⟨O, b, w⟩) := by
  have h1 := fun w => s139 (os := O) (b := b) (w := w) (s := t)
  have hb := bare_len t
  have h2 := fun w => s34 (os := O) (b := b) (w := w) (s := bare t) (by omega)
  have h3 := fun w c => s54 (b := b) (w := w) h (c := c)
  rw [classV_eq] at h2
  unfold thereS
  cases hc : classOf (bare t) with
  | none => rw [hc] at h2; simp [xCallK t103, code103, h1, h2, h3]
  | some c => rw [hc] at h2; simp [xCallK t103, code103, h1, h2, h3]

/-- asm.IsName -/
def isName (s : Str) : Bool := !decide (0 ≤ Lib.indexByte s 47) && isClass s

theorem s181 {s : Str} (hb : b ≤ O.length) : xCall T 181 [.str s] ⟨O, b, w⟩ = some (.bool (isName s), ⟨O, b, w⟩) := by
  have h1 := fun w => s180 (os := O) (b := b) (w := w) (s := s) (c := 47)
  have h2 := fun w => s25 (os := O) (b := b) (w := w) (s := s) hb
  unfold isName
  by_cases c : 0 ≤ Lib.indexByte s 47
  · simp [xCallK t181, code181, h1, h2, c]
  · simp [xCallK t181, code181, h1, h2, c]

end Go.Abs.AbsHier

/-
  Layer 16: a class's line, stepped through by whatever is done with each class.
-/
namespace Go.Abs.AbsHier
open Go.Abs.AbsDesc
set_option maxRecDepth 100000
set_option linter.unusedSimpArgs false
variable {os O : List AObj} {b w : Nat} {N : Nat} {S : List (Str × Str)} {F M : List (Key × Mem)} {V : List (Key × Bool)}

/-- The line, at most k classes of it. -/
def lineS (S : List (Str × Str)) : Nat → Str → List Str
  | 0, _ => []
  | k + 1, c => match getE S c with
    | some d => c :: lineS S k d
    | none => []

/-- What is done with each, until one of them says that it is enough. -/
def runL {σ : Type} (step : σ → Str → σ × Option AExit) : σ → List Str → σ × Option AExit
  | x, [] => (x, none)
  | x, c :: r => match step x c with
    | (y, none) => runL step y r
    | (y, some e) => (y, some e)

theorem s156 {c : Str} (hN : N < O.length) : xCall T 156 [.ptr (some (N, 0)), .str c] ⟨O, b, w⟩ =
    some (.func 155 [] [.ptr (some (O.length, 0)), .ptr (some (O.length + 1, 0))], ⟨O ++ [.cells 1 [.ptr (some (N, 0))], .cells 1 [.str c]], b, w⟩) := by
  simp (disch := omega) [xCallK t156, code156, reach_step, reach_done, nltT, nltF, hN]

/-- Memory, while a line is stepped through: by what has been done, where the line stands, how the loop stands. n: the line's own two cells; i: the loop. -/
structure LineB {σ : Type} (B : σ → Str → AObj → List AObj) (N n i g lo : Nat) (sl : List (Nat × AVal)) (S : List (Str × Str)) (step : σ → Str → σ × Option AExit) (b : Nat) : Prop where
  bn : b ≤ n
  lon : lo ≤ n
  c0 : ∀ x c o, (B x c o)[n]? = some (.cells 1 [.ptr (some (N, 0))])
  c1 : ∀ x c o, (B x c o)[n + 1]? = some (.cells 1 [.str c])
  set : ∀ x c d o, (B x c o).set (n + 1) (.cells 1 [.str d]) = B x d o
  loop : ∀ x c o, (B x c o)[i]? = some o
  w0 : ∀ x c o, ∃ r, (B x c o)[N]? = some (.cells 4 (.map (some (N + 1)) :: r))
  m1 : ∀ x c o, (B x c o)[N + 1]? = some (mObj .str .str S)
  body : ∀ x c w, lo ≤ w → ∃ w', lo ≤ w' ∧ w' ≤ i ∧ xCall T g [.ptr (some (i, 0)), .str c] ⟨B x c (.loop g .ready none sl), b, w⟩ =
    some (.bool (step x c).2.isNone, ⟨B (step x c).1 c (match (step x c).2 with | none => .loop g .ready none sl | some e => .loop g .done (some e) sl), b, w'⟩)

def endO (g : Nat) (sl : List (Nat × AVal)) : Option AExit → AObj
  | none => .loop g .ready none sl
  | some e => .loop g .done (some e) sl

section
variable {σ : Type} {B : σ → Str → AObj → List AObj} {n i g lo : Nat} {sl : List (Nat × AVal)} {step : σ → Str → σ × Option AExit}

theorem l155 (h : LineB B N n i g lo sl S step b) (hS : S.length ≤ 9223372036854775807) : ∀ (j q : Nat) (x : σ) (c : Str) (w : Nat), q + j = S.length → lo ≤ w →
    ∃ c' w' e, lo ≤ w' ∧ (w' ≤ i ∨ (lineS S j c = [] ∧ c' = c ∧ w' = w)) ∧ (e = .ret ∨ e = .exit 0) ∧ ∀ (k : AExit → St → Option (AVal × Heap)), xK T (.loop code155L0) ⟨[(0, .val (.yield i)), (1, .val (.ptr (some (n, 0)))), (2, .val (.ptr (some (n + 1, 0)))), (10, .val (.int .i64 S.length)), (11, .val (.int .i64 q))], ⟨B x c (.loop g .ready none sl), b, w⟩⟩ (k := ⟨k⟩) =
      k e ⟨[], ⟨B (runL step x (lineS S j c)).1 c' (endO g sl (runL step x (lineS S j c)).2), b, w'⟩⟩
  | 0, q, x, c, w, hq, hw => by
    refine ⟨c, w, .exit 0, hw, .inr ⟨rfl, rfl, rfl⟩, .inr rfl, fun k => ?_⟩
    rw [xK_loop]
    simp (disch := omega) [-getElem?_pos, -getElem?_neg, code155L0, iltF, lineS, runL, endO]
  | j + 1, q, x, c, w, hq, hw => by
    obtain ⟨r, hr⟩ := h.w0 x c (.loop g .ready none sl)
    have h0 := h.c0 x c (.loop g .ready none sl)
    have h1 := h.c1 x c (.loop g .ready none sl)
    have hl := h.loop x c (.loop g .ready none sl)
    have hlk := lookup_ok (b := b) (w := (B x c (.loop g .ready none sl)).length) (kn := .one .s) (zero := .str []) keyStr (h.m1 x c (.loop g .ready none sl)) (k := c) rfl
    have hlk2 := lookup_ok (b := b) (w := w) (kn := .one .s) (zero := .str []) keyStr (h.m1 x c (.loop g .ready none sl)) (k := c) rfl
    have e : ((getE S c).map AVal.str).getD (.str []) = .str ((getE S c).getD []) := by cases getE S c <;> rfl
    rw [e] at hlk hlk2
    cases hg : getE S c with
    | none =>
      refine ⟨c, w, .ret, hw, .inr ⟨by simp only [lineS, hg], rfl, rfl⟩, .inl rfl, fun k => ?_⟩
      rw [hg] at hlk hlk2
      simp only [Option.getD_none, Option.isSome_none, Option.getD_some, Option.isSome_some] at hlk hlk2
      rw [xK_loop]
      simp (disch := omega) [-getElem?_pos, -getElem?_neg, -evExt, List.getElem?_cons_zero, List.getElem?_cons_succ, code155L0, iltT, h0, h1, hr, hlk, hlk2, lineS, runL, endO, hg]
    | some d =>
      rw [hg] at hlk hlk2
      simp only [Option.getD_none, Option.isSome_none, Option.getD_some, Option.isSome_some] at hlk hlk2
      obtain ⟨w1, hw1, hwi, hb⟩ := h.body x c w hw
      have hbn := h.bn
      have hlon := h.lon
      cases hst : step x c with
      | mk y e =>
        rw [hst] at hb
        simp only at hb
        cases e with
        | some e =>
          refine ⟨c, w1, .ret, hw1, .inl hwi, .inl rfl, fun k => ?_⟩
          rw [xK_loop]
          simp (disch := omega) [-getElem?_pos, -getElem?_neg, -evExt, List.getElem?_cons_zero, List.getElem?_cons_succ, code155L0, iltT, h0, h1, hr, hl, hlk, hlk2, hb, lineS, runL, endO, hg, hst]
        | none =>
          obtain ⟨c', w', e', hw', hwj, he', ih⟩ := l155 h hS j (q + 1) y d (min w1 (n + 1)) (by omega) (by omega)
          refine ⟨c', w', e', hw', ?_, he', fun k => ?_⟩
          · rcases hwj with h2 | ⟨_, _, h2⟩
            · exact .inl h2
            · exact .inl (by omega)
          have ih := ih k
          have e2 : ((q + 1 : Nat) : Int) = (q : Int) + 1 := by omega
          rw [e2] at ih
          have h1' := h.c1 y c (.loop g .ready none sl)
          have hs := h.set y c d (.loop g .ready none sl)
          rw [xK_loop]
          generalize ACode.loop code155L0 = L at ih ⊢
          simp (disch := omega) [-getElem?_pos, -getElem?_neg, -evExt, List.getElem?_cons_zero, List.getElem?_cons_succ, code155L0, iltT, nleT, wrapI, h0, h1, h1', hr, hl, hlk, hlk2, hb, hs, lineS, runL, hg, hst, ih]

theorem s155 (h : LineB B N n i g lo sl S step b) (hS : S.length ≤ 9223372036854775807) (x : σ) (c : Str) (w : Nat) (hw : lo ≤ w) (hlo : lo ≤ (B x c (.loop g .ready none sl)).length) :
    ∃ c' w', lo ≤ w' ∧ xCall T 155 [.yield i, .ptr (some (n, 0)), .ptr (some (n + 1, 0))] ⟨B x c (.loop g .ready none sl), b, w⟩ =
      some (.tuple [], ⟨B (runL step x (lineS S S.length c)).1 c' (endO g sl (runL step x (lineS S S.length c)).2), b, w'⟩) := by
  have h0 := h.c0 x c (.loop g .ready none sl)
  obtain ⟨r, hr⟩ := h.w0 x c (.loop g .ready none sl)
  have hlen := fun w => len_map (b := b) (w := w) (h.m1 x c (.loop g .ready none sl))
  obtain ⟨c', w', e, hw', hwi, he, hl⟩ := l155 h hS S.length 0 x c (B x c (.loop g .ready none sl)).length (by omega) hlo
  simp only [Int.cast_ofNat_Int] at hl
  have hil := lt_of_get (h.loop x c (.loop g .ready none sl))
  refine ⟨c', if w' < (B x c (.loop g .ready none sl)).length then min w w' else w, by split <;> omega, ?_⟩
  rcases he with rfl | rfl
  all_goals
    simp (disch := omega) [-getElem?_pos, -getElem?_neg, -evLen, List.getElem?_cons_zero, List.getElem?_cons_succ, xCallK t155, code155, h0, hr, hlen, hl]
    rcases hwi with hwi | ⟨h1, h2, _⟩
    · rw [if_pos (by omega), if_pos (by omega)]
    · subst h2
      rw [h1]
      split <;> simp [runL, endO]
end

end Go.Abs.AbsHier

/-
  Layer 16: does a line end with Object?
-/
namespace Go.Abs.AbsHier
open Go.Abs.AbsDesc
set_option maxRecDepth 100000
set_option linter.unusedSimpArgs false
variable {os O : List AObj} {b w : Nat} {N : Nat} {S : List (Str × Str)} {F M : List (Key × Mem)} {V : List (Key × Bool)}

def objectT : Str := [79, 98, 106, 101, 99, 116]

def lineEndB (O : List AObj) (N : Nat) (x : Str × Int) (c : Str) (o : AObj) : List AObj :=
  O ++ [.cells 1 [.str x.1], .cells 1 [.int .i64 x.2], .cells 1 [.ptr (some (N, 0))], .cells 1 [.str c], o]
def lineEndStep (x : Str × Int) (c : Str) : (Str × Int) × Option AExit := ((c, IntKind.i64.wrap (x.2 + 1)), none)

theorem lineEnd_at (h : World O N S F M V) (hb : b ≤ O.length) : LineB (lineEndB O N) N (O.length + 2) (O.length + 4) 321 O.length [(5, .ptr (some (O.length, 0))), (6, .ptr (some (O.length + 1, 0)))] S lineEndStep b where
  bn := by omega
  lon := by omega
  c0 := fun x c o => by unfold lineEndB; rw [get_k]; rfl
  c1 := fun x c o => by unfold lineEndB; rw [Nat.add_assoc, get_k]; rfl
  set := fun x c d o => by unfold lineEndB; rw [Nat.add_assoc, set_k]; rfl
  loop := fun x c o => by unfold lineEndB; rw [get_k]; rfl
  w0 := fun x c o => ⟨_, by unfold lineEndB; rw [List.getElem?_append_left (by have := h.lt; omega)]; exact h.w0⟩
  m1 := fun x c o => by unfold lineEndB; rw [List.getElem?_append_left (by have := h.lt; omega)]; exact h.m1
  body := fun x c w hw => by
    have hb1 : b ≤ O.length + 1 := by omega
    have hb4 : b ≤ O.length + 4 := by omega
    refine ⟨O.length, Nat.le_refl _, by omega, ?_⟩
    simp (disch := omega) [-getElem?_pos, -getElem?_neg, List.getElem?_cons_zero, List.getElem?_cons_succ, xRoundK t321 rfl, round321, rcode321a, rcode321b, roundSlots, roundIn, roundOut, setArgs, ofCaps, lineEndB, lineEndStep, nltT, nltF, get_k, get_k0, set_k, set_k0, hb, hb1, hb4]

theorem lineS_len (S : List (Str × Str)) : ∀ (k : Nat) (c : Str), (lineS S k c).length ≤ k
  | 0, _ => Nat.le_refl _
  | k + 1, c => by
    simp only [lineS]
    split
    · rename_i d _
      have := lineS_len S k d
      simp only [List.length_cons]; omega
    · simp

theorem lineEnd_run : ∀ (L : List Str) (l : Str) (k : Nat), k + L.length ≤ 9223372036854775807 → runL lineEndStep (l, (k : Int)) L = ((L.getLastD l, ((k + L.length : Nat) : Int)), none)
  | [], l, k, _ => rfl
  | c :: L, l, k, h => by
    simp only [List.length_cons] at h
    simp only [runL, lineEndStep]
    rw [wrap_next (n := k + 1) (by omega) (by omega), lineEnd_run L c (k + 1) (by omega)]
    simp only [List.getLastD_cons, List.length_cons]
    congr 3
    omega

def endsS (S : List (Str × Str)) (c : Str) : Bool := decide ((lineS S S.length c).getLastD [] = objectT) && decide (1 < (lineS S S.length c).length)

theorem s98 (h : World O N S F M V) (hb : b ≤ O.length) (hS : S.length ≤ 9223372036854775807) {c : Str} : xCall T 98 [.ptr (some (N, 0)), .str c] ⟨O, b, w⟩ = some (.bool (endsS S c), ⟨O, b, w⟩) := by
  have hN := h.lt
  have hN2 : N < O.length + 2 := by omega
  have hb1 : b ≤ O.length + 1 := by omega
  have hb4 : b ≤ O.length + 4 := by omega
  have h1 := fun w => s156 (O := O ++ [.cells 1 [.str []], .cells 1 [.int .i64 0]]) (b := b) (w := w) (N := N) (c := c) (by simp; omega)
  simp only [List.length_append, List.length_cons, List.length_nil, Nat.zero_add, List.append_assoc, List.cons_append, List.nil_append, Nat.reduceAdd, Nat.add_assoc] at h1
  obtain ⟨c', w', hw', h2⟩ := s155 (lineEnd_at h hb) hS ([], 0) c O.length (Nat.le_refl _) (by simp [lineEndB])
  have hrun := lineEnd_run (lineS S S.length c) [] 0 (by have := lineS_len S S.length c; omega)
  simp only [Int.cast_ofNat_Int, Nat.zero_add] at hrun
  rw [hrun] at h2
  simp only [lineEndB, endO, Nat.add_assoc, Nat.reduceAdd] at h2
  unfold endsS objectT
  generalize (lineS S S.length c).getLastD [] = l at h2 ⊢
  by_cases e : l = [79, 98, 106, 101, 99, 116]
  · simp (disch := omega) [-getElem?_pos, -getElem?_neg, List.getElem?_cons_zero, List.getElem?_cons_succ, xCallK t98, code98, capsOf, callVal, h1, h2, loopEnd, nltT, nltF, get_k, get_k0, set_k, set_k0, hb, hb1, hb4, e]
    omega
  · simp (disch := omega) [-getElem?_pos, -getElem?_neg, List.getElem?_cons_zero, List.getElem?_cons_succ, xCallK t98, code98, capsOf, callVal, h1, h2, loopEnd, nltT, nltF, get_k, get_k0, set_k, set_k0, hb, hb1, hb4, e]

end Go.Abs.AbsHier

/-
  Layer 16: where a member stands.
-/
namespace Go.Abs.AbsHier
open Go.Abs.AbsDesc
set_option maxRecDepth 100000
set_option linter.unusedSimpArgs false
variable {os O : List AObj} {b w : Nat} {N : Nat} {S : List (Str × Str)} {F M : List (Key × Mem)} {V : List (Key × Bool)}

def mem0 : Mem := ⟨[], false⟩

def firstB (O : List AObj) (N r : Nat) (k : Key) (x : Mem × Bool) (c : Str) (o : AObj) : List AObj :=
  O ++ [.cells 1 [.map (some r)], .cells 3 [.str k.1, .str k.2.1, .str k.2.2], .cells 2 [.str x.1.cls, .bool x.1.st], .cells 1 [.bool x.2], .cells 1 [.ptr (some (N, 0))], .cells 1 [.str c], o]
def firstStep (A : List (Key × Mem)) (k : Key) (x : Mem × Bool) (c : Str) : (Mem × Bool) × Option AExit := match getE A (c, k.2.1, k.2.2) with
  | some m => ((m, true), some .ret)
  | none => (x, none)

theorem first_at {A : List (Key × Mem)} {r : Nat} {k : Key} (h : World O N S F M V) (hr : O[r]? = some (mObj keyF memF A)) (hb : b ≤ O.length) :
    LineB (firstB O N r k) N (O.length + 4) (O.length + 6) 323 O.length [(4, .ptr (some (O.length, 0))), (5, .ptr (some (O.length + 1, 0))), (6, .ptr (some (O.length + 2, 0))), (7, .ptr (some (O.length + 3, 0)))] S (firstStep A k) b where
  bn := by omega
  lon := by omega
  c0 := fun x c o => by unfold firstB; rw [get_k]; rfl
  c1 := fun x c o => by unfold firstB; rw [Nat.add_assoc, get_k]; rfl
  set := fun x c d o => by unfold firstB; rw [Nat.add_assoc, set_k]; rfl
  loop := fun x c o => by unfold firstB; rw [get_k]; rfl
  w0 := fun x c o => ⟨_, by unfold firstB; rw [List.getElem?_append_left (by have := h.lt; omega)]; exact h.w0⟩
  m1 := fun x c o => by unfold firstB; rw [List.getElem?_append_left (by have := h.lt; omega)]; exact h.m1
  body := fun x c w hw => by
    have hb2 : b ≤ O.length + 2 := by omega
    have hb3 : b ≤ O.length + 3 := by omega
    have hb6 : b ≤ O.length + 6 := by omega
    have hlk := fun X w => lookup_ok (os := O ++ X) (b := b) (w := w) (kn := .agg [.s, .s, .s]) (zero := .agg [.str [], .bool false]) keyKey (by rw [List.getElem?_append_left (lt_of_get hr)]; exact hr) (k := (c, k.2.1, k.2.2)) rfl
    simp only [keyF] at hlk
    cases hg : getE A (c, k.2.1, k.2.2) with
    | none =>
      rw [hg] at hlk
      simp only [Option.map_none, Option.getD_none, Option.isSome_none] at hlk
      refine ⟨min w (O.length + 6), by omega, by omega, ?_⟩
      simp (disch := omega) [-getElem?_pos, -getElem?_neg, -evExt, List.getElem?_cons_zero, List.getElem?_cons_succ, xRoundK t323 rfl, round323, rcode323a, rcode323b, roundSlots, roundIn, roundOut, setArgs, ofCaps, firstB, firstStep, nltT, nltF, get_k, get_k0, set_k, set_k0, hb, hb2, hb3, hb6, hlk, hg]
    | some m =>
      rw [hg] at hlk
      simp only [Option.map_some, Option.getD_some, Option.isSome_some, memF] at hlk
      refine ⟨min w (O.length + 2), by omega, by omega, ?_⟩
      simp (disch := omega) [-getElem?_pos, -getElem?_neg, -evExt, List.getElem?_cons_zero, List.getElem?_cons_succ, xRoundK t323 rfl, round323, rcode323a, rcode323b, roundSlots, roundIn, roundOut, setArgs, ofCaps, firstB, firstStep, nltT, nltF, get_k, get_k0, set_k, set_k0, hb, hb2, hb3, hb6, hlk, hg]

/-- The first of a line that has a member. -/
def firstS (S : List (Str × Str)) (A : List (Key × Mem)) (k : Key) : Option Mem := (lineS S S.length k.1).findSome? fun c => getE A (c, k.2.1, k.2.2)

theorem first_run (A : List (Key × Mem)) (k : Key) (x : Mem × Bool) : ∀ L : List Str, runL (firstStep A k) x L = match L.findSome? fun c => getE A (c, k.2.1, k.2.2) with
    | some m => ((m, true), some .ret)
    | none => (x, none)
  | [] => rfl
  | c :: L => by
    simp only [runL, firstStep, List.findSome?_cons]
    cases hg : getE A (c, k.2.1, k.2.2) with
    | none => simp only; exact first_run A k x L
    | some m => rfl

def foundV (m : Option Mem) : AVal := .tuple [memF (m.getD mem0), .bool m.isSome]

theorem s109 {A : List (Key × Mem)} {r : Nat} {k : Key} (h : World O N S F M V) (hr : O[r]? = some (mObj keyF memF A)) (hb : b ≤ O.length) (hS : S.length ≤ 9223372036854775807) :
    xCall T 109 [.ptr (some (N, 0)), .map (some r), keyF k] ⟨O, b, w⟩ = some (foundV (firstS S A k), ⟨O, b, w⟩) := by
  have hN := h.lt
  have hrl := lt_of_get hr
  have hb1 : b ≤ O.length + 1 := by omega
  have hb2 : b ≤ O.length + 2 := by omega
  have hb3 : b ≤ O.length + 3 := by omega
  have hb6 : b ≤ O.length + 6 := by omega
  have h1 := fun w => s156 (O := O ++ [.cells 1 [.map (some r)], .cells 3 [.str k.1, .str k.2.1, .str k.2.2], .cells 2 [.str [], .bool false], .cells 1 [.bool false]]) (b := b) (w := w) (N := N) (c := k.1) (by simp; omega)
  simp only [List.length_append, List.length_cons, List.length_nil, Nat.zero_add, List.append_assoc, List.cons_append, List.nil_append, Nat.reduceAdd, Nat.add_assoc] at h1
  obtain ⟨c', w', hw', h2⟩ := s155 (first_at (k := k) h hr hb) hS (mem0, false) k.1 O.length (Nat.le_refl _) (by simp [firstB])
  rw [first_run] at h2
  unfold firstS foundV memF keyF
  cases hf : (lineS S S.length k.1).findSome? fun c => getE A (c, k.2.1, k.2.2) with
  | none =>
    rw [hf] at h2
    simp only [firstB, endO, Nat.add_assoc, Nat.reduceAdd, mem0] at h2
    simp (disch := omega) [-getElem?_pos, -getElem?_neg, List.getElem?_cons_zero, List.getElem?_cons_succ, xCallK t109, code109, capsOf, callVal, h1, h2, loopEnd, nltT, nltF, get_k, get_k0, set_k, set_k0, hb, hb1, hb2, hb3, hb6, mem0]
  | some m =>
    rw [hf] at h2
    simp only [firstB, endO, Nat.add_assoc, Nat.reduceAdd, mem0] at h2
    simp (disch := omega) [-getElem?_pos, -getElem?_neg, List.getElem?_cons_zero, List.getElem?_cons_succ, xCallK t109, code109, capsOf, callVal, h1, h2, loopEnd, nltT, nltF, get_k, get_k0, set_k, set_k0, hb, hb1, hb2, hb3, hb6, mem0]

/-- Field -/
theorem s110 {k : Key} (h : World O N S F M V) (hb : b ≤ O.length) (hS : S.length ≤ 9223372036854775807) :
    xCall T 110 [.ptr (some (N, 0)), .str k.1, .str k.2.1, .str k.2.2] ⟨O, b, w⟩ = some (foundV (firstS S F k), ⟨O, b, w⟩) := by
  have h1 := fun w => s109 (w := w) (k := k) h h.m2 hb hS
  unfold keyF foundV memF at h1
  unfold foundV memF
  simp (disch := omega) [-getElem?_pos, -getElem?_neg, List.getElem?_cons_zero, List.getElem?_cons_succ, xCallK t110, code110, h.w0, h1]

/-- Method -/
theorem s113 {k : Key} (h : World O N S F M V) (hb : b ≤ O.length) (hS : S.length ≤ 9223372036854775807) :
    xCall T 113 [.ptr (some (N, 0)), .str k.1, .str k.2.1, .str k.2.2] ⟨O, b, w⟩ = some (foundV (firstS S M k), ⟨O, b, w⟩) := by
  have h1 := fun w => s109 (w := w) (k := k) h h.m3 hb hS
  unfold keyF foundV memF at h1
  unfold foundV memF
  simp (disch := omega) [-getElem?_pos, -getElem?_neg, List.getElem?_cons_zero, List.getElem?_cons_succ, xCallK t113, code113, h.w0, h1]

/-- Native -/
theorem s95 {k : Key} (h : World O N S F M V) : xCall T 95 [.ptr (some (N, 0)), .str k.1, .str k.2.1, .str k.2.2] ⟨O, b, w⟩ = some (.bool ((getE V k).getD false), ⟨O, b, w⟩) := by
  have h1 := fun w => lookup_v (b := b) (w := w) (kn := .agg [.s, .s, .s]) (zero := .bool false) keyKey h.m4 (k := k) rfl
  have e : ((getE V k).map AVal.bool).getD (.bool false) = .bool ((getE V k).getD false) := by cases getE V k <;> rfl
  rw [e] at h1
  unfold keyF at h1
  simp (disch := omega) [-getElem?_pos, -getElem?_neg, -evExt, List.getElem?_cons_zero, List.getElem?_cons_succ, xCallK t95, code95, h.w0, h1]

end Go.Abs.AbsHier

/-
  Layer 16: do a unit's methods go with those of its superclasses?
-/
namespace Go.Abs.AbsHier
open Go.Abs.AbsDesc
set_option maxRecDepth 100000
set_option linter.unusedSimpArgs false
variable {os O : List AObj} {b w : Nat} {N : Nat} {S : List (Str × Str)} {F M : List (Key × Mem)} {V : List (Key × Bool)}

def overB (O G : List AObj) (N : Nat) (m : MethU) (x : Bool) (c : Str) (o : AObj) : List AObj :=
  O ++ .cells 1 [.ptr (some (N, 0))] :: .cells 1 [.bool x] :: (G ++ [.cells 8 m.cells, .cells 1 [.ptr (some (N, 0))], .cells 1 [.str c], o])
def overOk (M : List (Key × Mem)) (m : MethU) (c : Str) : Bool := match getE M (c, m.name, m.desc) with
  | some y => y.st == m.st
  | none => true
def overStep (M : List (Key × Mem)) (m : MethU) (x : Bool) (c : Str) : Bool × Option AExit := if overOk M m c then (x, none) else (false, some .ret)

theorem over_at {G : List AObj} {m : MethU} (h : World O N S F M V) (hb : b ≤ O.length) :
    LineB (overB O G N m) N (O.length + (G.length + 3)) (O.length + (G.length + 5)) 322 O.length [(2, .ptr (some (O.length, 0))), (4, .ptr (some (O.length + 1, 0))), (6, .ptr (some (O.length + (G.length + 2), 0)))] S (overStep M m) b where
  bn := by omega
  lon := by omega
  c0 := fun x c o => by unfold overB; rw [get_k]; simp only [List.getElem?_cons_succ, get_k]; rfl
  c1 := fun x c o => by unfold overB; rw [Nat.add_assoc, get_k]; simp only [List.getElem?_cons_succ, Nat.add_assoc, get_k]; rfl
  set := fun x c d o => by unfold overB; rw [Nat.add_assoc, set_k]; simp only [List.set_cons_succ, Nat.add_assoc, set_k]; rfl
  loop := fun x c o => by unfold overB; rw [get_k]; simp only [List.getElem?_cons_succ, get_k]; rfl
  w0 := fun x c o => ⟨_, by unfold overB; rw [List.getElem?_append_left (by have := h.lt; omega)]; exact h.w0⟩
  m1 := fun x c o => by unfold overB; rw [List.getElem?_append_left (by have := h.lt; omega)]; exact h.m1
  body := fun x c w hw => by
    have hl := h.lt
    have hw0 : ∀ X, (O ++ X)[N]? = _ := fun X => (List.getElem?_append_left (l₂ := X) (show N < O.length by omega)).trans h.w0
    have hb1 : b ≤ O.length + 1 := by omega
    have hb5 : b ≤ O.length + (G.length + 5) := by omega
    have hlk := fun X w => lookup_ok (os := O ++ X) (b := b) (w := w) (r := N + 3) (A := M) (vf := memF) (kn := .agg [.s, .s, .s]) (zero := .agg [.str [], .bool false]) keyKey (by rw [List.getElem?_append_left (by omega)]; exact h.m3) (k := (c, m.name, m.desc)) rfl
    simp only [keyF] at hlk
    cases hg : getE M (c, m.name, m.desc) with
    | none =>
      rw [hg] at hlk
      simp only [Option.map_none, Option.getD_none, Option.isSome_none] at hlk
      refine ⟨min w (O.length + (G.length + 5)), by omega, by omega, ?_⟩
      simp (config := { maxSteps := 1000000 }) (disch := omega) [-getElem?_pos, -getElem?_neg, -evExt, List.getElem?_cons_zero, List.getElem?_cons_succ, xRoundK t322 rfl, round322, rcode322a, rcode322b, roundSlots, roundIn, roundOut, setArgs, ofCaps, overB, overStep, overOk, nltT, nltF, get_k, get_k0, set_k, set_k0, hb, hb1, hb5, hlk, hg, hw0, MethU.cells]
    | some y =>
      rw [hg] at hlk
      simp only [Option.map_some, Option.getD_some, Option.isSome_some, memF] at hlk
      by_cases e : y.st = m.st
      · refine ⟨min w (O.length + (G.length + 5)), by omega, by omega, ?_⟩
        simp (config := { maxSteps := 1000000 }) (disch := omega) [-getElem?_pos, -getElem?_neg, -evExt, List.getElem?_cons_zero, List.getElem?_cons_succ, xRoundK t322 rfl, round322, rcode322a, rcode322b, roundSlots, roundIn, roundOut, setArgs, ofCaps, overB, overStep, overOk, nltT, nltF, get_k, get_k0, set_k, set_k0, hb, hb1, hb5, hlk, hg, hw0, MethU.cells, e]
      · refine ⟨min w (O.length + 1), by omega, by omega, ?_⟩
        simp (config := { maxSteps := 1000000 }) (disch := omega) [-getElem?_pos, -getElem?_neg, -evExt, List.getElem?_cons_zero, List.getElem?_cons_succ, xRoundK t322 rfl, round322, rcode322a, rcode322b, roundSlots, roundIn, roundOut, setArgs, ofCaps, overB, overStep, overOk, nltT, nltF, get_k, get_k0, set_k, set_k0, hb, hb1, hb5, hlk, hg, hw0, MethU.cells, e]

def overM (S : List (Str × Str)) (M : List (Key × Mem)) (c : Str) (m : MethU) : Bool := (lineS S S.length c).all (overOk M m)

theorem over_run (M : List (Key × Mem)) (m : MethU) : ∀ L : List Str, runL (overStep M m) false L = (false, if L.all (overOk M m) then none else some .ret)
  | [] => rfl
  | c :: L => by
    simp only [runL, overStep, List.all_cons]
    by_cases e : overOk M m c = true
    · simp only [e, if_true, Bool.true_and]; exact over_run M m L
    · simp [e]

theorem row_at {α : Type} {e : Nat} {f : α → List AVal} {L : List α} {a : Option (Nat × Nat)} (h : Row os e f L a) {i : Nat} {x : α} (hx : L[i]? = some x) :
    ∃ p o cs, a = some (p, o) ∧ os[p]? = some (.cells e cs) ∧ p < os.length ∧ o + i * e + e ≤ cs.length ∧ (cs.drop (o + i * e)).take e = f x := by
  obtain ⟨p, o, cs, h1, h2, h3⟩ := h.at' (ne_of_get hx)
  exact ⟨p, o, cs, h1, h2, lt_of_get h2, h3 i x hx⟩

theorem l97 {u : UnitU} (hu : u.ok O) (h : World O N S F M V) (hb : b ≤ O.length) (hS : S.length ≤ 9223372036854775807) : ∀ (j i : Nat) (G : List AObj) (w : Nat), i + j = u.meths.length → O.length ≤ w →
    ∃ G' w' s', O.length ≤ w' ∧ sget s' 4 = some (.val (.ptr (some (O.length + 1, 0)))) ∧ ∀ (k : AExit → St → Option (AVal × Heap)),
      xK T (.loop code97L1) ⟨[(2, .val (.ptr (some (O.length, 0)))), (3, .var u.cells), (4, .val (.ptr (some (O.length + 1, 0)))), (11, .val (.slice u.ma u.meths.length u.mc)), (12, .val (.int .i64 u.meths.length)), (13, .val (.int .i64 i))],
        ⟨O ++ .cells 1 [.ptr (some (N, 0))] :: .cells 1 [.bool false] :: G, b, w⟩⟩ (k := ⟨k⟩) =
      if (u.meths.drop i).all (overM S M u.name) then k (.exit 0) ⟨[(4, .val (.ptr (some (O.length + 1, 0))))], ⟨O ++ .cells 1 [.ptr (some (N, 0))] :: .cells 1 [.bool false] :: G', b, w'⟩⟩
      else k .ret ⟨s', ⟨O ++ .cells 1 [.ptr (some (N, 0))] :: .cells 1 [.bool false] :: G', b, w'⟩⟩
  | 0, i, G, w, hi, hw => by
    refine ⟨G, w, [(4, .val (.ptr (some (O.length + 1, 0))))], hw, rfl, fun k => ?_⟩
    rw [xK_loop, List.drop_of_length_le (by omega)]
    simp (disch := omega) [-getElem?_pos, -getElem?_neg, code97L1, iltF]
  | j + 1, i, G, w, hi, hw => by
    obtain ⟨m, hm⟩ : ∃ m, u.meths[i]? = some m := ⟨_, List.getElem?_eq_getElem (by omega)⟩
    obtain ⟨p, o, cs, ha, hp, hpl, hcs, ht⟩ := row_at hu.m hm
    have hmn : u.meths.length ≤ 9223372036854775807 := hu.mn
    have hml : m.cells.length = 8 := rfl
    have hd : u.meths.drop i = m :: u.meths.drop (i + 1) := by
      have := lt_of_get hm
      rw [List.getElem?_eq_getElem this] at hm
      rw [List.drop_eq_getElem_cons this, Option.some.inj hm]
    have hb2 : b ≤ O.length + (G.length + 2) := by omega
    have hb5 : b ≤ O.length + (G.length + 5) := by omega
    have hp' : ∀ X, (O ++ X)[p]? = _ := fun X => (List.getElem?_append_left (l₂ := X) hpl).trans hp
    have hl := h.lt
    have h1 := fun w => s156 (O := O ++ .cells 1 [.ptr (some (N, 0))] :: .cells 1 [.bool false] :: (G ++ [.cells 8 m.cells])) (b := b) (w := w) (N := N) (c := u.name) (by simp; omega)
    simp only [List.length_append, List.length_cons, List.length_nil, Nat.zero_add, List.append_assoc, List.cons_append, List.nil_append, Nat.reduceAdd, Nat.add_assoc] at h1
    obtain ⟨c', w', hw', h2⟩ := s155 (over_at (G := G) (m := m) h hb) hS false u.name (min w (O.length + (G.length + 2))) (by omega) (by simp [overB])
    rw [over_run] at h2
    have hov : overM S M u.name m = (lineS S S.length u.name).all (overOk M m) := rfl
    rw [← hov] at h2
    by_cases e : overM S M u.name m = true
    · rw [if_pos e] at h2
      simp only [overB, endO, Nat.add_assoc, Nat.reduceAdd] at h2
      obtain ⟨G', w2, s', k1, k2, ih⟩ := l97 hu h hb hS j (i + 1) (G ++ [.cells 8 m.cells, .cells 1 [.ptr (some (N, 0))], .cells 1 [.str c'], .dead]) (min w' (O.length + (G.length + 5))) (by omega) (by omega)
      refine ⟨G', w2, s', k1, k2, fun k => ?_⟩
      have ih := ih k
      have e2 : ((i + 1 : Nat) : Int) = (i : Int) + 1 := by omega
      rw [e2] at ih
      rw [xK_loop, hd]
      simp only [List.all_cons, e, Bool.true_and]
      rw [← ih]
      generalize ACode.loop code97L1 = L
      simp (disch := omega) [-getElem?_pos, -getElem?_neg, List.getElem?_cons_zero, List.getElem?_cons_succ, code97L1, capsOf, callVal, h1, h2, loopEnd, nltT, nltF, iltT, ileT, nleT, wrapI, get_k, get_k0, set_k, set_k0, hb, hb2, hb5, hp', ht, ha, hml, UnitU.cells, Nat.add_assoc]
    · rw [if_neg e] at h2
      simp only [overB, endO, Nat.add_assoc, Nat.reduceAdd] at h2
      refine ⟨G ++ [.cells 8 m.cells, .cells 1 [.ptr (some (N, 0))], .cells 1 [.str c'], .dead], min w' (O.length + (G.length + 5)), ?_, by omega, ?_, fun k => ?_⟩
      rotate_left 2
      · rw [xK_loop, hd]
        simp only [List.all_cons, e, Bool.false_and, Bool.false_eq_true, if_false]
        generalize ACode.loop code97L1 = L
        simp (disch := omega) [-getElem?_pos, -getElem?_neg, List.getElem?_cons_zero, List.getElem?_cons_succ, code97L1, capsOf, callVal, h1, h2, loopEnd, nltT, nltF, iltT, ileT, nleT, wrapI, get_k, get_k0, set_k, set_k0, hb, hb2, hb5, hp', ht, ha, hml, UnitU.cells, Nat.add_assoc]
        rfl
      · rfl

/-- Do they go with those of the superclasses? -/
def overS (S : List (Str × Str)) (M : List (Key × Mem)) (u : UnitU) : Bool := u.meths.all (overM S M u.name)

theorem s97 {u : UnitU} (hu : u.ok O) (h : World O N S F M V) (hb : b ≤ O.length) (hS : S.length ≤ 9223372036854775807) : xCall T 97 [.ptr (some (N, 0)), .agg u.cells] ⟨O, b, w⟩ = some (.bool (overS S M u), ⟨O, b, w⟩) := by
  have hl := h.lt
  have hb1 : b ≤ O.length + 1 := by omega
  obtain ⟨G', w', s', k1, k2, hk⟩ := l97 hu h hb hS u.meths.length 0 [] O.length (by omega) (Nat.le_refl _)
  simp only [Int.cast_ofNat_Int, List.drop_zero] at hk
  unfold overS
  by_cases e : u.meths.all (overM S M u.name) = true
  · simp only [e, if_true] at hk ⊢
    unfold UnitU.cells at hk ⊢
    simp (disch := omega) [-getElem?_pos, -getElem?_neg, List.getElem?_cons_zero, List.getElem?_cons_succ, xCallK t97, code97, hk, nltT, nltF, get_k, get_k0, set_k, set_k0, hb, hb1]
  · simp only [e, if_false] at hk ⊢
    unfold UnitU.cells at hk ⊢
    simp (disch := omega) [-getElem?_pos, -getElem?_neg, List.getElem?_cons_zero, List.getElem?_cons_succ, xCallK t97, code97, hk, k2, nltT, nltF, get_k, get_k0, set_k, set_k0, hb, hb1]

end Go.Abs.AbsHier
