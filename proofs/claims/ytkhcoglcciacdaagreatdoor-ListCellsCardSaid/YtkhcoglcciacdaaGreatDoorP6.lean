/-
  Functions of Go's library, by what the kit's shelf tells of them.
-/
import Derived.Test.YtkhcoglcciacdaaGreatDoorP4
import Derived.Room.Shelf.Join48
import Derived.Lib.ParseIntB
import Derived.Lib.ItoaMem
import Derived.Lib.TrimByte
import Derived.Test.YtkhcoglcciacdaaGreatDoorP5
namespace Go.Abs
open Go.Proofs Go.Shelf Go.RowKit
theorem lib_ends {E : Env} {f : FuncId} {args' : Array Value} {w : World} {μ : MM} {h : Heap} {v : AVal} {v' : Value} (hr : Rel E μ h w) (hv : VRel E μ v v') (hc : Calls E.P f args' w fun e w' => e = .returned v' ∧ Below w.heap.size w w') :
    Calls E.P f args' w (Ends E μ w v h) :=
  hc.mono fun e w' ⟨h1, h2⟩ => ⟨v', μ, h1, ⟨h2.os, h2.tape, h2.output, h2.size, fun k hk _ _ => h2.block k hk, Nat.le_refl _, fun _ _ => .inl rfl, fun i m hi hm => absurd (lt_of_get hm) (by omega)⟩, hv, hr.keep h2.size (fun i m hm => h2.block _ (hr.lt i m hm)) fun k _ hk => h2.block k hk⟩
def strsOf : List AVal → Option (List (List UInt8))
  | [] => some []
  | .str s :: r => (strsOf r).map (s :: ·)
  | _ :: _ => none
theorem strsOf_get : ∀ {cs : List AVal} {l : List (List UInt8)}, strsOf cs = some l → cs.length = l.length ∧ ∀ (j : Nat) (s : List UInt8), l[j]? = some s → cs[j]? = some (.str s)
  | [], l, h => by simp only [strsOf] at h; cases h; exact ⟨rfl, fun j s hj => by simp at hj⟩
  | a :: r, l, h => by
    cases a with
    | str s =>
      simp only [strsOf, Option.map_eq_some_iff] at h
      obtain ⟨m, h1, rfl⟩ := h
      obtain ⟨h2, h3⟩ := strsOf_get h1
      refine ⟨by simp [h2], fun j s' hj => ?_⟩
      cases j with
      | zero => simp at hj; subst hj; rfl
      | succ j => simp at hj ⊢; exact h3 j s' hj
    | _ => simp only [strsOf] at h; cases h
def rowStrs (a : Option (Nat × Nat)) (n : Nat) (h : Heap) : Option (List (List UInt8)) :=
  if n = 0 then some [] else match a with
    | some (i, o) => match h.objs[i]? with
      | some (.cells 1 cs) => if o + n ≤ cs.length then strsOf ((cs.drop o).take n) else none
      | _ => none
    | none => none
def joinF : List AVal → Heap → Option AVal
  | [.slice a n _, .str sep], h => match rowStrs a n h with
    | some l => if n ≤ 140737488355328 ∧ (Lib.join l sep).length ≤ 281474976710656 then some (.str (Lib.join l sep)) else none
    | none => none
  | _, _ => none
theorem strs_id : ∀ l : List (List UInt8), (l.map fun s => (⟨s.toArray⟩ : ByteArray)).map (·.data.toList) = l
  | [] => rfl
  | s :: l => by rw [List.map_cons, List.map_cons, strs_id l]
theorem rowStrs_cells {E : Env} {μ : MM} {h : Heap} {w : World} (hr : Rel E μ h w) {a : Option (Nat × Nat)} {n : Nat} {c : Option Nat} {l : List (List UInt8)} {v : Value} (hv : VRel E μ (.slice a n c) v) (hl : rowStrs a n h = some l) (hn : n ≠ 0) :
    ∃ bk o cap, v = .slice (some ⟨bk, o, none⟩) n cap ∧ l.length = n ∧ n ≤ cap ∧ bk < w.heap.size ∧ ∀ (j : Nat) (x : ByteArray), (l.map fun s => (⟨s.toArray⟩ : ByteArray))[j]? = some x → w.cell? ⟨bk, o + j, none⟩ = some (.string x) := by
  unfold rowStrs at hl
  rw [if_neg hn] at hl
  cases a with
  | none => cases hl
  | some p =>
    obtain ⟨i, o⟩ := p
    simp only at hl
    cases hi : h.objs[i]? with
    | none => rw [hi] at hl; cases hl
    | some ob =>
      rw [hi] at hl
      cases ob with
      | cells esz cs =>
        obtain ⟨m, c2, e, fr, m1, m2, m3, m4, m5, m6, _⟩ := hr.obj _ _ hi
        simp only [VRel] at hv
        obtain ⟨ad, cap, rfl, _, k1, _, k3, _⟩ := hv
        obtain ⟨x, x1, x2⟩ := k1 (by omega)
        rw [m1] at x1
        cases x1
        have had := x2 m rfl
        subst had
        split at hl
        case h_2 => cases hl
        rename_i cs' heq
        cases heq
        split at hl
        case isFalse => cases hl
        rename_i hle
        obtain ⟨l1, l2⟩ := strsOf_get hl
        have hll : l.length = n := by rw [← l1]; simp; omega
        refine ⟨m.blk, m.base + o, cap, rfl, hll, k3, hr.lt i m m1, fun j y hj => ?_⟩
        rw [List.getElem?_map, Option.map_eq_some_iff] at hj
        obtain ⟨s, s1, rfl⟩ := hj
        have s2 := l2 j s s1
        have hjn : j < n := by have := lt_of_get s1; omega
        rw [List.getElem?_take, if_pos hjn, List.getElem?_drop] at s2
        obtain ⟨_, v', g1, g2⟩ := m6 _ _ s2
        simp only [VRel] at g2
        subst g2
        rw [cell_of_block m3, show m.base + o + j = m.base + (o + j) by omega]
        exact g1
      | _ => cases hl
theorem join_ok {E : Env} {ρ : Ren} (L : Lays.n156 E.P ρ) (X : Builder.Extra E.P ρ) {f : FuncId} {fn : Func} (hf : f = ρ.f 156) (hn : fn.name ≠ "runtime.NumGoroutine") (hb : fn.body.isSome = true) : LibOK E f fn (pureF joinF) :=
  LibOK.pure hn hb fun args h v e μ w args' ha hr => by
    subst hf
    unfold joinF at e
    split at e
    case h_2 => cases e
    rename_i h1 a n c sep
    split at e
    case h_2 => cases e
    rename_i l hl
    split at e
    case isFalse => cases e
    rename_i hsz
    cases e
    simp only [VRels] at ha
    obtain ⟨v1, r1, e1, q1, v2, r2, e2, q2, e3⟩ := ha
    subst e3 e2
    have ha' : args' = #[v1, v2] := by
      rw [← Array.toList_inj, e1]
    subst ha'
    simp only [VRel] at q2
    subst q2
    by_cases hz : n = 0
    · subst hz
      have hl0 : l = [] := by simpa [rowStrs] using hl.symm
      subst hl0
      have hvs : ∃ ad c0, v1 = .slice ad 0 c0 := by
        cases a with
        | none => simp only [VRel] at q1; exact ⟨none, 0, q1.2.2⟩
        | some p => obtain ⟨i, o⟩ := p; simp only [VRel] at q1; obtain ⟨ad, cap, h1, _⟩ := q1; exact ⟨some ad, cap, h1⟩
      obtain ⟨ad, c0, rfl⟩ := hvs
      refine lib_ends hr (v' := .string ⟨#[]⟩) (by simp only [VRel]; rfl) ?_
      exact (Any.strings_Join_none L X ad c0 ⟨sep.toArray⟩ w).mono fun e w' ⟨h1, h2⟩ => ⟨h1, h2 ▸ Below.refl _ _⟩
    · obtain ⟨bk, o, cap, rfl, hll, hcap, hbk, hcells⟩ := rowStrs_cells hr q1 hl hz
      refine lib_ends hr (v' := .string ⟨(Lib.join l sep).toArray⟩) (by simp only [VRel]) ?_
      have hj := Any.strings_Join_48 L X bk o cap (l.map fun s => (⟨s.toArray⟩ : ByteArray)) ⟨sep.toArray⟩ w hcells hbk (by rw [List.length_map]; omega) (by rw [List.length_map]; omega) (by rw [strs_id]; exact hsz.2)
      rw [strs_id, List.length_map, hll] at hj
      exact hj
end Go.Abs

/-
  Numbers and their digits: what is read and what is written belong together.
-/
namespace Go.Abs.AbsList
open Go.Lib
def lo64 : Int := -9223372036854775808
def hi64 : Int := 9223372036854775807
def numberF (s : List UInt8) (low high : Int) : Int × Bool :=
  match parseIntB 64 s with
  | .ok v => if itoa v = s ∧ low ≤ v ∧ v ≤ high then (v, true) else (0, false)
  | _ => (0, false)
theorem decDigits_step (u : Nat) (h : ¬ u < 10) : decDigits u = decDigits (u / 10) ++ [UInt8.ofNat (48 + u % 10)] := by
  rw [decDigits, dif_neg h]
theorem parse_range {s : List UInt8} {v : Int} (h : parseIntB 64 s = .ok v) : lo64 ≤ v ∧ v ≤ hi64 := by
  unfold lo64 hi64
  unfold parseIntB at h
  split at h
  · cases h
  · simp only at h
    split at h
    · cases h
    · cases h
    · split at h
      · cases h
      · split at h
        · cases h
        · cases h
          split <;> omega
theorem decDigits_len (u : Nat) (h : u ≤ 9223372036854775808) : (decDigits u).length ≤ 19 := by
  rw [decDigits_length]
  by_cases h0 : u < 10
  · rw [nDigits_small h0]; omega
  · have : ∀ (k u : Nat), u < 10 ^ (k + 1) → nDigits u ≤ k + 1 := by
      intro k
      induction k with
      | zero => intro u h; rw [nDigits_small (by omega)]; omega
      | succ k ih =>
        intro u h
        by_cases h1 : u < 10
        · rw [nDigits_small h1]; omega
        · rw [nDigits_big h1]
          have := ih (u / 10) (by rw [Nat.pow_succ] at h; omega)
          omega
    exact this 18 u (by omega)
end Go.Abs.AbsList

/-
  What list.Table, list.Number and strconv.Itoa tell, for the machine.
-/
namespace Go.Abs.AbsList
open Go.Lib
def digF : Nat → Nat → List UInt8
  | 0, u => [UInt8.ofNat (48 + u)]
  | f + 1, u => if u < 10 then [UInt8.ofNat (48 + u)] else digF f (u / 10) ++ [UInt8.ofNat (48 + u % 10)]
theorem digF_eq : ∀ (f u : Nat), u < 10 ^ (f + 1) → digF f u = decDigits u
  | 0, u, h => by rw [decDigits_one (by omega)]; rfl
  | f + 1, u, h => by
    unfold digF
    split
    · rename_i h1; rw [decDigits_one h1]
    · rename_i h1
      rw [decDigits_step u h1, digF_eq f (u / 10) (by rw [Nat.pow_succ] at h; omega)]
def itoaS (n : Int) : List UInt8 := if n < 0 then 45 :: digF 19 n.natAbs else digF 19 n.toNat
theorem itoaS_eq {n : Int} (h0 : lo64 ≤ n) (h1 : n ≤ hi64) : itoaS n = itoa n := by
  unfold lo64 at h0; unfold hi64 at h1
  unfold itoaS itoa
  rw [digF_eq _ _ (by omega), digF_eq _ _ (by omega)]
def numS (s : List UInt8) (low high : Int) : Int × Bool :=
  match parseIntB 64 s with
  | .ok v => if itoaS v = s ∧ low ≤ v ∧ v ≤ high then (v, true) else (0, false)
  | _ => (0, false)
theorem numS_eq (s : List UInt8) (low high : Int) : numS s low high = numberF s low high := by
  unfold numS numberF
  cases h : parseIntB 64 s with
  | ok v =>
    obtain ⟨h0, h1⟩ := parse_range h
    simp only [itoaS_eq h0 h1]
  | _ => rfl
def itoaA : List AVal → Heap → Option AVal
  | [.int .i64 n], _ => if -9223372036854775808 ≤ n ∧ n ≤ 9223372036854775807 then some (.str (itoaS n)) else none
  | _, _ => none
def numA : List AVal → Heap → Option AVal
  | [.str s, .int .i64 low, .int .i64 high], _ => if s.length ≤ 281474976710656 then some (.tuple [.int .i64 (numS s low high).1, .bool (numS s low high).2]) else none
  | _, _ => none
def updW : List Nat → List (List UInt8) → List Nat
  | ws, [] => ws
  | [], c :: r => c.length :: updW [] r
  | w :: ws, c :: r => max w c.length :: updW ws r
def widL (L : List (List (List UInt8))) : List Nat := L.foldl updW []
def partL (W : List Nat) (l : List (List UInt8)) (i : Nat) : List UInt8 := l.getD i [] ++ if i + 1 < l.length then List.replicate (W.getD i 0 - (l.getD i []).length + 2) 32 else []
def lineP (W : List Nat) (l : List (List UInt8)) : Nat → List UInt8
  | 0 => []
  | k + 1 => lineP W l k ++ partL W l k
def lineL (W : List Nat) (l : List (List UInt8)) : List UInt8 := trimRightB (lineP W l l.length) 32
def tableL (W : List Nat) (L : List (List (List UInt8))) : List (List UInt8) := L.map (lineL W)
def rowsOf (h : Heap) : List AVal → Option (List (List (List UInt8)))
  | [] => some []
  | .slice a n _ :: r => match rowStrs a n h, rowsOf h r with
    | some l, some L => some (l :: L)
    | _, _ => none
  | _ :: _ => none
def rowRows (a : Option (Nat × Nat)) (n : Nat) (h : Heap) : Option (List (List (List UInt8))) :=
  if n = 0 then some [] else match a with
    | some (i, o) => match h.objs[i]? with
      | some (.cells 1 cs) => if o + n ≤ cs.length then rowsOf h ((cs.drop o).take n) else none
      | _ => none
    | none => none
def smallT (L : List (List (List UInt8))) : Bool := decide (L.length ≤ 20) && L.all fun l => decide (l.length ≤ 20) && l.all fun s => decide (s.length ≤ 60)
def tableF : List AVal → Heap → Option (AVal × List (Nat × AObj) × List AObj)
  | [.slice a n _], h => match rowRows a n h with
    | some L => if smallT L = true then (if L = [] then some (.slice none 0 (some 0), [], []) else some (.slice (some (h.size, 0)) L.length none, [], [.cells 1 ((tableL (widL L) L).map .str)])) else none
    | none => none
  | _, _ => none
theorem updW_len : ∀ (ws : List Nat) (l : List (List UInt8)), ws.length ≤ (updW ws l).length ∧ l.length ≤ (updW ws l).length
  | ws, [] => by simp [updW]
  | [], c :: r => by have := updW_len [] r; simp [updW]; omega
  | w :: ws, c :: r => by have := updW_len ws r; simp [updW]; omega
theorem updW_ge : ∀ (ws : List Nat) (l : List (List UInt8)) (i : Nat), ws.getD i 0 ≤ (updW ws l).getD i 0 ∧ ∀ s, l[i]? = some s → s.length ≤ (updW ws l).getD i 0
  | ws, [], i => by simp [updW]
  | [], c :: r, 0 => by simp [updW]
  | [], c :: r, i + 1 => by have := updW_ge [] r i; simpa [updW] using this
  | w :: ws, c :: r, 0 => by simp [updW]; omega
  | w :: ws, c :: r, i + 1 => by have := updW_ge ws r i; simpa [updW] using this
theorem updW_le {B : Nat} : ∀ (ws : List Nat) (l : List (List UInt8)), (∀ n ∈ ws, n ≤ B) → (∀ s ∈ l, s.length ≤ B) → ∀ n ∈ updW ws l, n ≤ B
  | ws, [], h, _ => h
  | [], c :: r, h, k => fun n hn => by
    simp only [updW, List.mem_cons] at hn
    rcases hn with rfl | hn
    · exact k c (by simp)
    · exact updW_le [] r (by simp) (fun s hs => k s (by simp [hs])) n hn
  | w :: ws, c :: r, h, k => fun n hn => by
    simp only [updW, List.mem_cons] at hn
    rcases hn with rfl | hn
    · have h1 := h w (by simp); have h2 := k c (by simp); omega
    · exact updW_le ws r (fun m hm => h m (by simp [hm])) (fun s hs => k s (by simp [hs])) n hn
theorem foldW : ∀ (L : List (List (List UInt8))) (ws : List Nat), ws.length ≤ (L.foldl updW ws).length ∧ (∀ i, ws.getD i 0 ≤ (L.foldl updW ws).getD i 0) ∧ ∀ l ∈ L, l.length ≤ (L.foldl updW ws).length ∧ ∀ (i : Nat) (s : List UInt8), l[i]? = some s → s.length ≤ (L.foldl updW ws).getD i 0
  | [], ws => by simp
  | l :: L, ws => by
    obtain ⟨h1, h2, h3⟩ := foldW L (updW ws l)
    have h4 := updW_len ws l
    have h5 := updW_ge ws l
    simp only [List.foldl_cons]
    refine ⟨by omega, fun i => Nat.le_trans (h5 i).1 (h2 i), fun l' hl' => ?_⟩
    rcases List.mem_cons.1 hl' with rfl | hl'
    · exact ⟨by omega, fun i s hs => Nat.le_trans ((h5 i).2 s hs) (h2 i)⟩
    · exact h3 l' hl'
theorem foldW_le {B : Nat} : ∀ (L : List (List (List UInt8))) (ws : List Nat), (∀ n ∈ ws, n ≤ B) → (∀ l ∈ L, ∀ s ∈ l, s.length ≤ B) → ∀ n ∈ L.foldl updW ws, n ≤ B
  | [], ws, h, _ => h
  | l :: L, ws, h, k => foldW_le L (updW ws l) (updW_le ws l h (k l (by simp))) fun l' hl' => k l' (by simp [hl'])
theorem small_spec {L : List (List (List UInt8))} (h : smallT L = true) : L.length ≤ 20 ∧ ∀ l ∈ L, l.length ≤ 20 ∧ ∀ s ∈ l, s.length ≤ 60 := by
  unfold smallT at h
  simpa [Bool.and_eq_true, List.all_eq_true] using h
end Go.Abs.AbsList

/-
  The code of the functions, for the abstract machine: printed by a program.
-/
namespace Go.Abs.AbsList
set_option maxRecDepth 100000
open Go.Abs.Short
-- base: AbsWid
def code94 : AFunc := ⟨false, false, 0, 0, [], .skip, some (.lib (pureF joinF))⟩
def code426 : AFunc := ⟨false, false, 0, 0, [], .skip, some (.lib Go.Abs.AbsList.tableF)⟩
def code427L0 : ACode :=
  .live [0, 3, 6, 10, 11, 12] (.seq (.seq (R [0, 3, 6, 10, 11, 12, 53] [v 44 6, o 45 (.bin .neq (t 44) (.const (.str []))), v 46 45, g 47 46 true (.val (t 6)), g 48 46 true (.val (t 6)), g 49 46 true (.len .str (t 48)), g 50 46 true (.bin .sub (t 49) (n 1)), g 51 46 true (.index (t 47) (t 50)), g 52 46 true (.bin .eql (t 51) (.const (.int .u8 32))), o 53 (.pick (t 46) (t 52) F)])
  (.after (.cond (t 53) (.skip) (.live [0, 3, 6, 10, 11, 12] (.exit 6))) [0, 3, 6, 10, 11, 12]))
  (.after (.block 7 (R [0, 3, 6, 10, 11, 12] [v 54 6, v 55 6, o 56 (.len .str (t 55)), o 57 (.bin .sub (t 56) (n 1)), o 58 (.slice .str (t 54) none (some (t 57)) none), v 6 58])) [0, 3, 6, 10, 11, 12]))
def code427L1 : ACode :=
  .live [0, 3, 5, 6, 7, 9, 10, 11, 12, 16, 17, 18] (.seq (.seq (R [0, 3, 5, 6, 7, 9, 10, 11, 12, 16, 17, 18, 38] [v 33 9, v 34 0, v 35 7, o 36 (.callg 443 [t 34, t 35]), o 37 (.bin .add (t 36) (n 2)), o 38 (.bin .lss (t 33) (t 37))])
  (.after (.cond (t 38) (.skip) (.live [0, 3, 5, 6, 10, 11, 12, 16, 17, 18] (.exit 4))) [0, 3, 5, 6, 7, 9, 10, 11, 12, 16, 17, 18]))
  (.seq (.after (.block 5 (R [0, 3, 5, 6, 7, 9, 10, 11, 12, 16, 17, 18] [v 41 6, o 42 (.bin .add (t 41) (.const (.str [32]))), v 6 42])) [0, 3, 5, 6, 7, 9, 10, 11, 12, 16, 17, 18])
  (R [0, 3, 5, 6, 7, 9, 10, 11, 12, 16, 17, 18] [v 39 9, o 40 (.bin .add (t 39) (n 1)), v 9 40])))
def code427L2 : ACode :=
  .live [0, 3, 5, 6, 10, 11, 12, 16, 17, 18] (.seq (R [0, 3, 5, 6, 10, 11, 12, 16, 17, 18, 19] [o 19 (.bin .lss (t 18) (t 17))])
  (.seq (.after (.cond (t 19) (.skip) (.live [0, 3, 6, 10, 11, 12] (.exit 2))) [0, 3, 5, 6, 10, 11, 12, 16, 17, 18])
  (.seq (.after (.block 3 (.seq (R [0, 3, 5, 6, 7, 8, 10, 11, 12, 16, 17, 18] [v 20 18, o 21 (.iaddr 1 (t 16) (t 18)), o 22 (.load none (t 21)), v 7 20, v 8 22])
  (.seq (R [0, 3, 5, 6, 7, 8, 10, 11, 12, 16, 17, 18] [v 23 6, v 24 8, o 25 (.bin .add (t 23) (t 24)), v 6 25])
  (.seq (.seq (R [0, 3, 5, 6, 7, 8, 10, 11, 12, 16, 17, 18, 30] [v 26 7, v 27 5, o 28 (.len .sl (t 27)), o 29 (.bin .sub (t 28) (n 1)), o 30 (.bin .eql (t 26) (t 29))])
  (.after (.cond (t 30) (.live [0, 3, 5, 6, 10, 11, 12, 16, 17, 18] (.exit 3)) (.skip)) [0, 3, 5, 6, 7, 8, 10, 11, 12, 16, 17, 18]))
  (.seq (R [0, 3, 5, 6, 7, 9, 10, 11, 12, 16, 17, 18] [v 31 8, o 32 (.len .str (t 31)), v 9 32])
  (.after (.block 4 (.loop code427L1)) [0, 3, 5, 6, 10, 11, 12, 16, 17, 18])))))) [0, 3, 5, 6, 10, 11, 12, 16, 17, 18])
  (R [0, 3, 5, 6, 10, 11, 12, 16, 17, 18] [o 43 (.bin .add (t 18) (n 1)), v 18 43]))))
def code427L3 : ACode :=
  .live [0, 3, 10, 11, 12] (.seq (R [0, 3, 10, 11, 12, 13] [o 13 (.bin .lss (t 12) (t 11))])
  (.seq (.after (.cond (t 13) (.skip) (.live [3] (.exit 0))) [0, 3, 10, 11, 12])
  (.seq (.after (.block 1 (.seq (R [0, 3, 5, 10, 11, 12] [o 14 (.iaddr 1 (t 10) (t 12)), o 15 (.load none (t 14)), v 5 15])
  (.seq (R [0, 3, 5, 6, 10, 11, 12] [o 6 (.val (.const (.str [])))])
  (.seq (.seq (R [0, 3, 5, 6, 10, 11, 12, 16, 17, 18] [v 16 5, o 17 (.len .sl (t 16)), o 18 (.val (n 0))])
  (.after (.block 2 (.loop code427L2)) [0, 3, 6, 10, 11, 12]))
  (.seq (.after (.block 6 (.loop code427L0)) [0, 3, 6, 10, 11, 12])
  (R [0, 3, 10, 11, 12] [v 59 3, v 60 6, o 61 (.mkslice 1 1 [.str []] [(0, 1, t 60)]), o 62 (.append 1 16 (t 59) (t 61)), v 3 62])))))) [0, 3, 10, 11, 12])
  (R [0, 3, 10, 11, 12] [o 63 (.bin .add (t 12) (n 1)), v 12 63]))))
def code427 : AFunc := ⟨false, false, 1, 65, [.tmp 2],
  .seq (R [0] [o 2 (.val (.const (.slice none 0 (some 0))))])
  (.seq (R [0, 3] [o 3 (.val (.const (.slice none 0 (some 0))))])
  (.seq (.seq (R [0, 3, 10, 11, 12] [v 10 0, o 11 (.len .sl (t 10)), o 12 (.val (n 0))])
  (.after (.block 0 (.loop code427L3)) [3]))
  (.seq (R [2] [v 64 3, v 2 64])
  (.live [2] (.ret))))), none⟩
def code428L0 : ACode :=
  .live [0, 1, 12, 13] (.seq (R [0, 1, 12, 13, 14] [o 14 (.bin .lss (t 13) (t 12))])
  (.seq (.after (.cond (t 14) (.skip) (.live [] (.exit 0))) [0, 1, 12, 13])
  (.seq (.after (.block 1 (.seq (R [0, 1, 5, 12, 13] [v 15 13, v 5 15])
  (.seq (.after (.region [⟨true, [], [v 16 0, v 17 5, o 18 (.iaddr 1 (t 16) (t 17)), o 19 (.load none (t 18)), v 20 1, v 21 5, o 22 (.iaddr 1 (t 20) (t 21)), o 23 (.load none (t 22))]⟩, ⟨false, [], [o 24 (.bin .neq (t 19) (t 23))]⟩]) [0, 1, 12, 13, 24])
  (.after (.cond (t 24) (.seq (R [4] [o 4 (.val F)])
  (.live [4] (.ret))) (.skip)) [0, 1, 12, 13])))) [0, 1, 12, 13])
  (R [0, 1, 12, 13] [o 25 (.bin .add (t 13) (n 1)), v 13 25]))))
def code428 : AFunc := ⟨false, false, 2, 26, [.tmp 4],
  .seq (R [0, 1] [o 4 (.val F)])
  (.seq (.seq (R [0, 1, 10] [v 6 0, o 7 (.len .sl (t 6)), v 8 1, o 9 (.len .sl (t 8)), o 10 (.bin .neq (t 7) (t 9))])
  (.after (.cond (t 10) (.seq (R [4] [o 4 (.val F)])
  (.live [4] (.ret))) (.skip)) [0, 1]))
  (.seq (.seq (R [0, 1, 12, 13] [v 11 0, o 12 (.len .sl (t 11)), o 13 (.val (n 0))])
  (.after (.block 0 (.loop code428L0)) []))
  (.seq (R [4] [o 4 (.val Y)])
  (.live [4] (.ret))))), none⟩
def code429L0 : ACode :=
  .live [0, 12, 13, 14, 21, 22, 23] (.seq (R [0, 12, 13, 14, 21, 22, 23, 24] [o 24 (.bin .lss (t 23) (t 22))])
  (.seq (.after (.cond (t 24) (.skip) (.live [0, 12, 13, 14] (.exit 2))) [0, 12, 13, 14, 21, 22, 23])
  (.seq (.after (.block 3 (.seq (R [0, 6, 12, 13, 14, 21, 22, 23] [o 25 (.iaddr 1 (t 21) (t 23)), o 26 (.load none (t 25)), v 6 26])
  (.seq (R [0, 12, 13, 14, 21, 22, 23, 29] [v 27 6, o 28 (.len .str (t 27)), o 29 (.bin .gtr (t 28) (n 60))])
  (.after (.cond (t 29) (.seq (R [2] [o 2 (.val Y)])
  (.live [2] (.ret))) (.skip)) [0, 12, 13, 14, 21, 22, 23])))) [0, 12, 13, 14, 21, 22, 23])
  (R [0, 12, 13, 14, 21, 22, 23] [o 30 (.bin .add (t 23) (n 1)), v 23 30]))))
def code429L1 : ACode :=
  .live [0, 12, 13, 14] (.seq (R [0, 12, 13, 14, 15] [o 15 (.bin .lss (t 14) (t 13))])
  (.seq (.after (.cond (t 15) (.skip) (.live [0] (.exit 0))) [0, 12, 13, 14])
  (.seq (.after (.block 1 (.seq (R [0, 4, 12, 13, 14] [o 16 (.iaddr 1 (t 12) (t 14)), o 17 (.load none (t 16)), v 4 17])
  (.seq (.seq (R [0, 4, 12, 13, 14, 20] [v 18 4, o 19 (.len .sl (t 18)), o 20 (.bin .gtr (t 19) (n 20))])
  (.after (.cond (t 20) (.seq (R [2] [o 2 (.val Y)])
  (.live [2] (.ret))) (.skip)) [0, 4, 12, 13, 14]))
  (.seq (R [0, 12, 13, 14, 21, 22, 23] [v 21 4, o 22 (.len .sl (t 21)), o 23 (.val (n 0))])
  (.after (.block 2 (.loop code429L0)) [0, 12, 13, 14]))))) [0, 12, 13, 14])
  (R [0, 12, 13, 14] [o 31 (.bin .add (t 14) (n 1)), v 14 31]))))
def code429 : AFunc := ⟨false, false, 1, 37, [.tmp 2],
  .seq (R [0] [o 2 (.val F)])
  (.seq (.seq (R [0, 8] [o 7 (.callg 430 []), o 8 (.un .not (t 7))])
  (.after (.cond (t 8) (.seq (R [2] [o 2 (.val F)])
  (.live [2] (.ret))) (.skip)) [0]))
  (.seq (.seq (R [0, 11] [v 9 0, o 10 (.len .sl (t 9)), o 11 (.bin .gtr (t 10) (n 20))])
  (.after (.cond (t 11) (.seq (R [2] [o 2 (.val Y)])
  (.live [2] (.ret))) (.skip)) [0]))
  (.seq (.seq (R [0, 12, 13, 14] [v 12 0, o 13 (.len .sl (t 12)), o 14 (.val (n 0))])
  (.after (.block 0 (.loop code429L1)) [0]))
  (.seq (R [2] [v 32 0, o 33 (.callg 426 [t 32]), v 34 0, o 35 (.callg 427 [t 34]), o 36 (.callg 428 [t 33, t 35]), v 2 36])
  (.live [2] (.ret)))))), none⟩
def code430 : AFunc := ⟨true, false, 0, 49, [.tmp 0],
  .seq (R [] [o 0 (.val F)])
  (.seq (R [1] [o 6 (.mkslice 1 2 [.str [], .str []] [(0, 1, .const (.str [97])), (1, 1, .const (.str [98, 99]))]), o 7 (.mkslice 1 2 [.str [], .str []] [(0, 1, .const (.str [100, 101, 102])), (1, 1, .const (.str [103]))]), o 8 (.mkslice 1 2 [.slice none 0 (some 0), .slice none 0 (some 0)] [(0, 1, t 6), (1, 1, t 7)]), o 9 (.callg 426 [t 8]), v 1 9])
  (.seq (R [1, 2, 3] [o 11 (.callg 432 [.const (.str [45, 53]), .const (.int .i64 (-9)), n 9]), v 10 11, o 12 (.extract (t 10) 0), o 13 (.extract (t 10) 1), v 2 12, v 3 13])
  (.seq (R [1, 2, 3, 5] [o 15 (.callg 432 [.const (.str [48, 53]), n 0, n 9]), v 14 15, o 16 (.extract (t 14) 0), o 17 (.extract (t 14) 1), v 4 16, v 5 17])
  (.seq (R [0] [v 18 1, o 19 (.len .sl (t 18)), o 20 (.bin .eql (t 19) (n 2)), v 21 20, g 22 21 true (.val (t 1)), g 23 21 true (.iaddr 1 (t 22) (n 0)), g 24 21 true (.load none (t 23)), g 25 21 true (.bin .eql (t 24) (.const (.str [97, 32, 32, 32, 32, 98, 99]))), o 26 (.pick (t 21) (t 25) F), v 27 26, g 28 27 true (.val (t 1)), g 29 27 true (.iaddr 1 (t 28) (n 1)), g 30 27 true (.load none (t 29)), g 31 27 true (.bin .eql (t 30) (.const (.str [100, 101, 102, 32, 32, 103]))), o 32 (.pick (t 27) (t 31) F), v 33 32, g 34 33 true (.val (t 2)), g 35 33 true (.bin .eql (t 34) (.const (.int .i64 (-5)))), o 36 (.pick (t 33) (t 35) F), v 37 36, g 38 37 true (.val (t 3)), o 39 (.pick (t 37) (t 38) F), v 40 39, g 41 40 true (.val (t 5)), g 42 40 true (.un .not (t 41)), o 43 (.pick (t 40) (t 42) F), v 44 43, g 45 44 true (.callg 439 [.const (.ptr none)]), g 46 44 true (.len .sl (t 45)), g 47 44 true (.bin .eql (t 46) (n 0)), o 48 (.pick (t 44) (t 47) F), v 0 48])
  (.live [0] (.ret)))))), none⟩
def code431L0 : ACode :=
  .live [0, 1, 2, 8, 9, 10] (.seq (.seq (R [0, 1, 2, 8, 9, 10, 33] [v 30 10, v 31 9, o 32 (.len .str (t 31)), o 33 (.bin .lss (t 30) (t 32))])
  (.after (.cond (t 33) (.skip) (.live [0, 1, 2, 8, 9] (.exit 0))) [0, 1, 2, 8, 9, 10]))
  (.seq (.after (.block 1 (.seq (R [0, 1, 2, 8, 9, 10, 11] [v 36 9, v 37 10, o 38 (.index (t 36) (t 37)), o 39 (.conv (.int .i64) (t 38)), o 40 (.bin .sub (t 39) (n 48)), v 11 40])
  (.seq (.seq (R [0, 1, 2, 8, 9, 10, 11, 58] [v 41 11, o 42 (.bin .lss (t 41) (n 0)), v 43 42, g 44 43 false (.val (t 11)), g 45 43 false (.bin .gtr (t 44) (n 9)), o 46 (.pick (t 43) Y (t 45)), v 47 46, g 48 47 false (.val (t 8)), g 49 47 false (.bin .lss (t 48) (.const (.int .i64 (-922337203685477580)))), o 50 (.pick (t 47) Y (t 49)), v 51 50, g 52 51 false (.val (t 8)), g 53 51 false (.bin .eql (t 52) (.const (.int .i64 (-922337203685477580)))), g 54 51 false (.val (t 53)), g 55 54 true (.val (t 11)), g 56 54 true (.bin .gtr (t 55) (n 8)), g 57 51 false (.pick (t 54) (t 56) F), o 58 (.pick (t 51) Y (t 57))])
  (.after (.cond (t 58) (.seq (R [6, 7] [o 6 (.val (n 0)), o 7 (.val F)])
  (.live [6, 7] (.ret))) (.skip)) [0, 1, 2, 8, 9, 10, 11]))
  (R [0, 1, 2, 8, 9, 10] [v 59 8, o 60 (.bin .mul (t 59) (n 10)), v 61 11, o 62 (.bin .sub (t 60) (t 61)), v 8 62])))) [0, 1, 2, 8, 9, 10])
  (R [0, 1, 2, 8, 9, 10] [v 34 10, o 35 (.bin .add (t 34) (n 1)), v 10 35])))
def code431T0 : ACode :=
  .seq (.seq (R [8, 85] [v 72 8, o 73 (.callg 446 [t 72]), v 74 0, o 75 (.bin .neq (t 73) (t 74)), v 76 75, g 77 76 false (.val (t 8)), g 78 76 false (.val (t 1)), g 79 76 false (.bin .lss (t 77) (t 78)), o 80 (.pick (t 76) Y (t 79)), v 81 80, g 82 81 false (.val (t 8)), g 83 81 false (.val (t 2)), g 84 81 false (.bin .gtr (t 82) (t 83)), o 85 (.pick (t 81) Y (t 84))])
  (.after (.cond (t 85) (.seq (R [6, 7] [o 6 (.val (n 0)), o 7 (.val F)])
  (.live [6, 7] (.ret))) (.skip)) [8]))
  (.seq (R [6, 7] [v 86 8, v 6 86, o 7 (.val Y)])
  (.live [6, 7] (.ret)))
def code431T1 : ACode :=
  .seq (.seq (R [0, 1, 2, 8, 67] [v 63 9, o 64 (.len .str (t 63)), v 65 0, o 66 (.len .str (t 65)), o 67 (.bin .eql (t 64) (t 66))])
  (.after (.cond (t 67) (.seq (.seq (R [0, 1, 2, 8, 69] [v 68 8, o 69 (.bin .eql (t 68) (.const (.int .i64 (-9223372036854775808))))])
  (.after (.cond (t 69) (.seq (R [6, 7] [o 6 (.val (n 0)), o 7 (.val F)])
  (.live [6, 7] (.ret))) (.skip)) [0, 1, 2, 8]))
  (R [0, 1, 2, 8] [v 70 8, o 71 (.un .neg (t 70)), v 8 71])) (.skip)) [0, 1, 2, 8]))
  (code431T0)
def code431T2 : ACode :=
  .seq (.seq (R [0, 1, 2, 8, 9, 29] [v 22 9, o 23 (.len .str (t 22)), o 24 (.bin .eql (t 23) (n 0)), v 25 24, g 26 25 false (.val (t 9)), g 27 25 false (.len .str (t 26)), g 28 25 false (.bin .gtr (t 27) (n 19)), o 29 (.pick (t 25) Y (t 28))])
  (.after (.cond (t 29) (.seq (R [6, 7] [o 6 (.val (n 0)), o 7 (.val F)])
  (.live [6, 7] (.ret))) (.skip)) [0, 1, 2, 8, 9]))
  (.seq (.seq (R [0, 1, 2, 8, 9, 10] [o 10 (.val (n 0))])
  (.after (.block 0 (.loop code431L0)) [0, 1, 2, 8, 9]))
  (code431T1))
def code431 : AFunc := ⟨false, false, 3, 87, [.tmp 6, .tmp 7],
  .seq (R [0, 1, 2] [o 6 (.val (n 0)), o 7 (.val F)])
  (.seq (R [0, 1, 2, 8] [o 8 (.val (n 0))])
  (.seq (R [0, 1, 2, 8, 9] [v 12 0, v 9 12])
  (.seq (.seq (R [0, 1, 2, 8, 9, 19] [v 13 9, o 14 (.bin .neq (t 13) (.const (.str []))), v 15 14, g 16 15 true (.val (t 9)), g 17 15 true (.index (t 16) (n 0)), g 18 15 true (.bin .eql (t 17) (.const (.int .u8 45))), o 19 (.pick (t 15) (t 18) F)])
  (.after (.cond (t 19) (R [0, 1, 2, 8, 9] [v 20 9, o 21 (.slice .str (t 20) (some (n 1)) none none), v 9 21]) (.skip)) [0, 1, 2, 8, 9]))
  (code431T2)))), none⟩
def code432 : AFunc := ⟨false, false, 0, 0, [], .skip, some (.lib (pureF Go.Abs.AbsList.numA))⟩
def code433 : AFunc := ⟨false, false, 3, 38, [.tmp 6],
  .seq (R [0, 1, 2] [o 6 (.val F)])
  (.seq (.seq (R [0, 1, 2, 12] [o 11 (.callg 430 []), o 12 (.un .not (t 11))])
  (.after (.cond (t 12) (.seq (R [6] [o 6 (.val F)])
  (.live [6] (.ret))) (.skip)) [0, 1, 2]))
  (.seq (.seq (R [0, 1, 2, 15] [v 13 0, o 14 (.len .str (t 13)), o 15 (.bin .gtr (t 14) (n 200))])
  (.after (.cond (t 15) (.seq (R [6] [o 6 (.val Y)])
  (.live [6] (.ret))) (.skip)) [0, 1, 2]))
  (.seq (R [0, 1, 2, 7, 8] [v 17 0, v 18 1, v 19 2, o 20 (.callg 432 [t 17, t 18, t 19]), v 16 20, o 21 (.extract (t 16) 0), o 22 (.extract (t 16) 1), v 7 21, v 8 22])
  (.seq (R [7, 8, 9, 10] [v 24 0, v 25 1, v 26 2, o 27 (.callg 431 [t 24, t 25, t 26]), v 23 27, o 28 (.extract (t 23) 0), o 29 (.extract (t 23) 1), v 9 28, v 10 29])
  (.seq (R [6] [v 30 7, v 31 9, o 32 (.bin .eql (t 30) (t 31)), v 33 32, g 34 33 true (.val (t 8)), g 35 33 true (.val (t 10)), g 36 33 true (.beq false (t 34) (t 35)), o 37 (.pick (t 33) (t 36) F), v 6 37])
  (.live [6] (.ret))))))), none⟩
def code435 : AFunc := ⟨false, false, 1, 14, [.tmp 2],
  .seq (R [1] [o 1 (.lbox (t 0)), o 2 (.val (.const (.slice none 0 (some 0))))])
  (.seq (.after (.region [⟨true, [], [o 3 (.faddr (t 1) 0), o 4 (.load none (t 3)), o 5 (.faddr (t 1) 1), o 6 (.load (some 3) (t 5)), o 7 (.callg 449 [t 6]), o 8 (.faddr (t 1) 4), o 9 (.load none (t 8)), o 10 (.faddr (t 1) 5), o 11 (.load none (t 10)), o 12 (.callg 446 [t 11])]⟩, ⟨false, [], [o 13 (.mkslice 1 4 [.str [], .str [], .str [], .str []] [(0, 1, t 4), (1, 1, t 7), (2, 1, t 9), (3, 1, t 12)]), v 2 13]⟩]) [2])
  (.live [2] (.ret))), none⟩
def code437 : AFunc := ⟨false, false, 2, 20, [.tmp 4],
  .seq (R [2, 3] [o 2 (.lbox (t 0)), o 3 (.lbox (t 1)), o 4 (.val (.const (.slice none 0 (some 0))))])
  (.seq (.after (.region [⟨true, [], [o 5 (.faddr (t 2) 0), o 6 (.load none (t 5)), o 7 (.faddr (t 2) 1), o 8 (.load (some 3) (t 7)), o 9 (.callg 449 [t 8]), o 10 (.faddr (t 3) 2), o 11 (.load none (t 10)), o 12 (.len .sl (t 11)), o 13 (.callg 446 [t 12]), o 14 (.bin .add (t 13) (.const (.str [47]))), o 15 (.faddr (t 3) 0), o 16 (.load none (t 15)), o 17 (.callg 446 [t 16]), o 18 (.bin .add (t 14) (t 17))]⟩, ⟨false, [], [o 19 (.mkslice 1 4 [.str [], .str [], .str [], .str []] [(0, 1, t 6), (1, 1, t 9), (2, 1, .const (.str [106, 111, 98])), (3, 1, t 18)]), v 4 19]⟩]) [4])
  (.live [4] (.ret))), none⟩
def code438L0 : ACode :=
  .live [2, 3, 26, 27] (.seq (R [2, 3, 26, 27, 28] [o 28 (.bin .lss (t 27) (n 3))])
  (.seq (.after (.cond (t 28) (.skip) (.live [2, 3] (.exit 0))) [2, 3, 26, 27])
  (.seq (.after (.block 1 (.seq (R [2, 3, 6, 26, 27] [o 29 (.aindex 3 1 none (t 26) (t 27)), v 6 29])
  (.seq (R [2, 3, 26, 27, 35] [v 30 6, o 31 (.bin .lss (t 30) (.const (.int .i64 (-1000000)))), v 32 31, g 33 32 false (.val (t 6)), g 34 32 false (.bin .gtr (t 33) (n 1000000)), o 35 (.pick (t 32) Y (t 34))])
  (.after (.cond (t 35) (.seq (R [4] [o 4 (.val Y)])
  (.live [4] (.ret))) (.skip)) [2, 3, 26, 27])))) [2, 3, 26, 27])
  (R [2, 3, 26, 27] [o 36 (.bin .add (t 27) (n 1)), v 27 36]))))
def code438 : AFunc := ⟨false, false, 2, 51, [.tmp 4],
  .seq (R [2, 3] [o 2 (.lbox (t 0)), o 3 (.lbox (t 1)), o 4 (.val F)])
  (.seq (.seq (R [2, 3, 8] [o 7 (.callg 430 []), o 8 (.un .not (t 7))])
  (.after (.cond (t 8) (.seq (R [4] [o 4 (.val F)])
  (.live [4] (.ret))) (.skip)) [2, 3]))
  (.seq (.seq (R [2, 3, 24] [o 9 (.faddr (t 2) 0), o 10 (.load none (t 9)), o 11 (.len .str (t 10)), o 12 (.bin .gtr (t 11) (n 100)), v 13 12, g 14 13 false (.faddr (t 2) 4), g 15 13 false (.load none (t 14)), g 16 13 false (.len .str (t 15)), g 17 13 false (.bin .gtr (t 16) (n 200)), o 18 (.pick (t 13) Y (t 17)), v 19 18, g 20 19 false (.faddr (t 3) 2), g 21 19 false (.load none (t 20)), g 22 19 false (.len .sl (t 21)), g 23 19 false (.bin .gtr (t 22) (n 2000)), o 24 (.pick (t 19) Y (t 23))])
  (.after (.cond (t 24) (.seq (R [4] [o 4 (.val Y)])
  (.live [4] (.ret))) (.skip)) [2, 3]))
  (.seq (.seq (R [2, 3, 26, 27] [o 25 (.faddr (t 2) 1), o 26 (.load (some 3) (t 25)), o 27 (.val (n 0))])
  (.after (.block 0 (.loop code438L0)) [2, 3]))
  (.seq (.after (.region [⟨true, [0, 1, 0], [o 37 (.load (some 38) (t 2)), o 38 (.callg 100434 [t 37]), o 39 (.load (some 38) (t 2))]⟩, ⟨false, [], [o 40 (.callg 435 [t 39]), o 41 (.callg 428 [t 38, t 40]), v 42 41]⟩, ⟨true, [0, 0, 3, 0, 0], [g 43 42 true (.load (some 38) (t 2)), g 44 42 true (.load (some 3) (t 3)), g 45 42 true (.callg 100436 [t 43, t 44]), g 46 42 true (.load (some 38) (t 2)), g 47 42 true (.load (some 3) (t 3))]⟩, ⟨false, [], [g 48 42 true (.callg 437 [t 46, t 47]), g 49 42 true (.callg 428 [t 45, t 48]), o 50 (.pick (t 42) (t 49) F), v 4 50]⟩]) [4])
  (.live [4] (.ret)))))), none⟩
def code439L0 : ACode :=
  .live [0, 3, 12, 13, 14] (.seq (R [0, 3, 12, 13, 14, 15] [o 15 (.bin .lss (t 14) (t 13))])
  (.seq (.after (.cond (t 15) (.skip) (.live [0, 3] (.exit 0))) [0, 3, 12, 13, 14])
  (.seq (.after (.block 1 (.seq (R [0, 3, 5, 12, 13, 14] [o 16 (.iaddr 1 (t 12) (t 14)), o 17 (.load none (t 16)), v 5 17])
  (.seq (R [0, 3, 6, 7, 12, 13, 14] [v 19 0, v 20 5, o 21 (.callg 451 [t 19, t 20]), v 18 21, o 22 (.extract (t 18) 0), o 23 (.extract (t 18) 1), o 6 (.lalloc [.str [], .int .i64 0, .int .i64 0, .int .i64 0, .str [], .int .i64 0, .int .u8 0, .int .u8 0, .int .u8 0, .int .u8 0, .int .u8 0, .int .u8 0, .int .u8 0, .int .u8 0, .int .u8 0, .int .u8 0, .int .u8 0, .int .u8 0, .int .u8 0, .int .u8 0, .int .u8 0, .int .u8 0, .int .u8 0, .int .u8 0, .int .u8 0, .int .u8 0, .int .u8 0, .int .u8 0, .int .u8 0, .int .u8 0, .int .u8 0, .int .u8 0, .int .u8 0, .int .u8 0, .int .u8 0, .int .u8 0, .int .u8 0, .int .u8 0]), u (.store 38 (t 6) (t 22)), v 7 23])
  (.seq (R [0, 3, 6, 12, 13, 14, 25] [v 24 7, o 25 (.bin .eql (t 24) (n 0))])
  (.after (.cond (t 25) (R [0, 3, 12, 13, 14] [v 26 3, o 27 (.load (some 38) (t 6)), o 28 (.callg 100434 [t 27]), o 29 (.mkslice 1 1 [.slice none 0 (some 0)] [(0, 1, t 28)]), o 30 (.append 1 24 (t 26) (t 29)), v 3 30]) (.skip)) [0, 3, 12, 13, 14]))))) [0, 3, 12, 13, 14])
  (R [0, 3, 12, 13, 14] [o 31 (.bin .add (t 14) (n 1)), v 14 31]))))
def code439 : AFunc := ⟨false, false, 1, 47, [.tmp 2],
  .seq (R [0] [o 2 (.val (.const (.slice none 0 (some 0))))])
  (.seq (R [0, 3] [o 3 (.val (.const (.slice none 0 (some 0))))])
  (.seq (.seq (R [0, 3, 12, 13, 14] [v 11 0, o 12 (.callg 452 [t 11]), o 13 (.len .sl (t 12)), o 14 (.val (n 0))])
  (.after (.block 0 (.loop code439L0)) [0, 3]))
  (.seq (.seq (R [3, 8, 9, 10] [v 33 0, o 34 (.callg 450 [t 33]), v 32 34, o 35 (.extract (t 32) 0), o 36 (.extract (t 32) 1), o 37 (.extract (t 32) 2), o 8 (.lalloc [.str [], .int .i64 0, .int .i64 0, .int .i64 0, .str [], .int .i64 0, .int .u8 0, .int .u8 0, .int .u8 0, .int .u8 0, .int .u8 0, .int .u8 0, .int .u8 0, .int .u8 0, .int .u8 0, .int .u8 0, .int .u8 0, .int .u8 0, .int .u8 0, .int .u8 0, .int .u8 0, .int .u8 0, .int .u8 0, .int .u8 0, .int .u8 0, .int .u8 0, .int .u8 0, .int .u8 0, .int .u8 0, .int .u8 0, .int .u8 0, .int .u8 0, .int .u8 0, .int .u8 0, .int .u8 0, .int .u8 0, .int .u8 0, .int .u8 0]), o 9 (.lalloc [.int .i64 0, .int .i64 0, .slice none 0 (some 0)]), u (.store 38 (t 8) (t 35)), u (.store 3 (t 9) (t 36)), v 10 37])
  (.seq (R [3, 8, 9, 38] [v 38 10])
  (.after (.cond (t 38) (R [3] [v 39 3, o 40 (.load (some 38) (t 8)), o 41 (.load (some 3) (t 9)), o 42 (.callg 100436 [t 40, t 41]), o 43 (.mkslice 1 1 [.slice none 0 (some 0)] [(0, 1, t 42)]), o 44 (.append 1 24 (t 39) (t 43)), v 3 44]) (.skip)) [3])))
  (.seq (R [2] [v 45 3, o 46 (.callg 426 [t 45]), v 2 46])
  (.live [2] (.ret)))))), none⟩
def code443L0 : ACode :=
  .live [1, 5, 8, 9, 10] (.seq (R [1, 5, 8, 9, 10, 11] [o 11 (.bin .lss (t 10) (t 9))])
  (.seq (.after (.cond (t 11) (.skip) (.live [5] (.exit 0))) [1, 5, 8, 9, 10])
  (.seq (.after (.block 1 (.seq (R [1, 5, 7, 8, 9, 10] [o 12 (.iaddr 1 (t 8) (t 10)), o 13 (.load none (t 12)), v 7 13])
  (.seq (R [1, 5, 7, 8, 9, 10, 17] [v 14 1, v 15 7, o 16 (.len .sl (t 15)), o 17 (.bin .lss (t 14) (t 16))])
  (.after (.cond (t 17) (R [1, 5, 8, 9, 10] [v 18 5, v 19 7, v 20 1, o 21 (.iaddr 1 (t 19) (t 20)), o 22 (.load none (t 21)), o 23 (.len .str (t 22)), o 24 (.minmax true [t 18, t 23]), v 5 24]) (.skip)) [1, 5, 8, 9, 10])))) [1, 5, 8, 9, 10])
  (R [1, 5, 8, 9, 10] [o 25 (.bin .add (t 10) (n 1)), v 10 25]))))
def code443 : AFunc := ⟨false, false, 2, 27, [.tmp 4],
  .seq (R [0, 1] [o 4 (.val (n 0))])
  (.seq (R [0, 1, 5] [o 5 (.val (n 0))])
  (.seq (.seq (R [1, 5, 8, 9, 10] [v 8 0, o 9 (.len .sl (t 8)), o 10 (.val (n 0))])
  (.after (.block 0 (.loop code443L0)) [5]))
  (.seq (R [4] [v 26 5, v 4 26])
  (.live [4] (.ret))))), none⟩
def code446 : AFunc := ⟨false, false, 1, 40, [.tmp 2],
  .seq (R [0] [o 2 (.val (.const (.str [])))])
  (.seq (.seq (R [0, 4] [v 3 0, o 4 (.bin .lss (t 3) (n 0))])
  (.after (.cond (t 4) (.seq (.seq (R [0, 6] [v 5 0, o 6 (.bin .gtr (t 5) (.const (.int .i64 (-10))))])
  (.after (.cond (t 6) (.seq (R [2] [v 7 0, o 8 (.bin .sub (n 48) (t 7)), o 9 (.conv (.int .u8) (t 8)), o 10 (.mkslice 1 1 [.int .u8 0] [(0, 1, t 9)]), o 11 (.conv .string (t 10)), o 12 (.bin .add (.const (.str [45])) (t 11)), v 2 12])
  (.live [2] (.ret))) (.skip)) [0]))
  (.seq (.after (.region [⟨true, [0, 1, 3, 0, 8, 24, 56, 120, 248], [v 13 0, o 14 (.bin .quo (t 13) (n 10)), o 15 (.callg 446 [t 14]), v 16 0, o 17 (.bin .rem (t 16) (n 10)), o 18 (.bin .sub (n 48) (t 17)), o 19 (.conv (.int .u8) (t 18)), o 20 (.mkslice 1 1 [.int .u8 0] [(0, 1, t 19)]), o 21 (.conv .string (t 20))]⟩, ⟨false, [], [o 22 (.bin .add (t 15) (t 21)), v 2 22]⟩]) [2])
  (.live [2] (.ret)))) (.skip)) [0]))
  (.seq (.seq (R [0, 24] [v 23 0, o 24 (.bin .lss (t 23) (n 10))])
  (.after (.cond (t 24) (.seq (R [2] [v 25 0, o 26 (.bin .add (n 48) (t 25)), o 27 (.conv (.int .u8) (t 26)), o 28 (.mkslice 1 1 [.int .u8 0] [(0, 1, t 27)]), o 29 (.conv .string (t 28)), v 2 29])
  (.live [2] (.ret))) (.skip)) [0]))
  (.seq (.after (.region [⟨true, [0, 1, 3, 0, 8, 24, 56, 120, 248], [v 30 0, o 31 (.bin .quo (t 30) (n 10)), o 32 (.callg 446 [t 31]), v 33 0, o 34 (.bin .rem (t 33) (n 10)), o 35 (.bin .add (n 48) (t 34)), o 36 (.conv (.int .u8) (t 35)), o 37 (.mkslice 1 1 [.int .u8 0] [(0, 1, t 36)]), o 38 (.conv .string (t 37))]⟩, ⟨false, [], [o 39 (.bin .add (t 32) (t 38)), v 2 39]⟩]) [2])
  (.live [2] (.ret))))), none⟩
def code447L0 : ACode :=
  .live [3, 6, 7] (.seq (R [3, 6, 7, 8] [o 8 (.bin .lss (t 7) (n 3))])
  (.seq (.after (.cond (t 8) (.skip) (.live [3] (.exit 0))) [3, 6, 7])
  (.seq (.after (.block 1 (.seq (R [3, 5, 6, 7] [o 9 (.aindex 3 1 none (t 6) (t 7)), v 5 9])
  (R [3, 6, 7] [v 10 3, v 11 5, o 12 (.callg 448 [t 11]), o 13 (.mkslice 1 1 [.str []] [(0, 1, t 12)]), o 14 (.append 1 16 (t 10) (t 13)), v 3 14]))) [3, 6, 7])
  (R [3, 6, 7] [o 15 (.bin .add (t 7) (n 1)), v 7 15]))))
def code447 : AFunc := ⟨false, false, 1, 18, [.tmp 2],
  .seq (R [1] [o 1 (.lbox (t 0)), o 2 (.val (.const (.str [])))])
  (.seq (R [1, 3] [o 3 (.val (.const (.slice none 0 (some 0))))])
  (.seq (.seq (R [3, 6, 7] [o 6 (.load (some 3) (t 1)), o 7 (.val (n 0))])
  (.after (.block 0 (.loop code447L0)) [3]))
  (.seq (R [2] [v 16 3, o 17 (.callg 94 [t 16, .const (.str [46])]), v 2 17])
  (.live [2] (.ret))))), none⟩
def code448 : AFunc := ⟨false, false, 0, 0, [], .skip, some (.lib (pureF Go.Abs.AbsList.itoaA))⟩
def code449 : AFunc := ⟨false, false, 1, 16, [.tmp 2],
  .seq (R [1] [o 1 (.lbox (t 0)), o 2 (.val (.const (.str [])))])
  (.seq (.after (.region [⟨true, [], [o 3 (.aaddr 3 1 (t 1) (n 0)), o 4 (.load none (t 3)), o 5 (.callg 462 [t 4]), o 6 (.bin .add (t 5) (.const (.str [46]))), o 7 (.aaddr 3 1 (t 1) (n 1)), o 8 (.load none (t 7)), o 9 (.callg 462 [t 8]), o 10 (.bin .add (t 6) (t 9)), o 11 (.bin .add (t 10) (.const (.str [46]))), o 12 (.aaddr 3 1 (t 1) (n 2)), o 13 (.load none (t 12)), o 14 (.callg 462 [t 13])]⟩, ⟨false, [], [o 15 (.bin .add (t 11) (t 14)), v 2 15]⟩]) [2])
  (.live [2] (.ret))), none⟩
def code450 : AFunc := ⟨false, false, 1, 30, [.cell 2 (some 38), .cell 3 (some 3), .tmp 4],
  .seq (R [0, 2, 3] [o 2 (.alloc 38 [.str [], .int .i64 0, .int .i64 0, .int .i64 0, .str [], .int .i64 0, .int .u8 0, .int .u8 0, .int .u8 0, .int .u8 0, .int .u8 0, .int .u8 0, .int .u8 0, .int .u8 0, .int .u8 0, .int .u8 0, .int .u8 0, .int .u8 0, .int .u8 0, .int .u8 0, .int .u8 0, .int .u8 0, .int .u8 0, .int .u8 0, .int .u8 0, .int .u8 0, .int .u8 0, .int .u8 0, .int .u8 0, .int .u8 0, .int .u8 0, .int .u8 0, .int .u8 0, .int .u8 0, .int .u8 0, .int .u8 0, .int .u8 0, .int .u8 0]), o 3 (.alloc 3 [.int .i64 0, .int .i64 0, .slice none 0 (some 0)]), o 4 (.val F)])
  (.seq (.seq (R [0, 2, 3, 14] [v 6 0, o 7 (.eqnil .ptr false (t 6) (.const (.ptr none))), v 8 7, g 9 8 false (.val (t 0)), g 10 8 false (.nilcheck (t 9)), g 11 8 false (.faddr (t 10) 43), g 12 8 false (.load none (t 11)), g 13 8 false (.un .not (t 12)), o 14 (.pick (t 8) Y (t 13))])
  (.after (.cond (t 14) (.seq (R [2, 3, 4] [o 15 (.build [.str [], .int .i64 0, .int .i64 0, .int .i64 0, .str [], .int .i64 0, .int .u8 0, .int .u8 0, .int .u8 0, .int .u8 0, .int .u8 0, .int .u8 0, .int .u8 0, .int .u8 0, .int .u8 0, .int .u8 0, .int .u8 0, .int .u8 0, .int .u8 0, .int .u8 0, .int .u8 0, .int .u8 0, .int .u8 0, .int .u8 0, .int .u8 0, .int .u8 0, .int .u8 0, .int .u8 0, .int .u8 0, .int .u8 0, .int .u8 0, .int .u8 0, .int .u8 0, .int .u8 0, .int .u8 0, .int .u8 0, .int .u8 0, .int .u8 0] []), o 16 (.build [.int .i64 0, .int .i64 0, .slice none 0 (some 0)] []), u (.store 38 (t 2) (t 15)), u (.store 3 (t 3) (t 16)), o 4 (.val F)])
  (.live [2, 3, 4] (.ret))) (.skip)) [0, 2, 3]))
  (.seq (R [0, 2, 3, 5] [v 17 0, o 18 (.nilcheck (t 17)), o 19 (.faddr (t 18) 40), o 20 (.load (some 3) (t 19)), o 5 (.lalloc [.int .i64 0, .int .i64 0, .slice none 0 (some 0)]), u (.store 3 (t 5) (t 20))])
  (.seq (R [0, 2, 3, 5] [o 21 (.faddr (t 5) 2), o 22 (.load none (t 21)), o 23 (.callg 465 [t 22]), o 24 (.faddr (t 5) 2), u (.store 1 (t 24) (t 23))])
  (.seq (.after (.region [⟨true, [0, 1, 3, 7, 0, 15], [v 25 0, o 26 (.nilcheck (t 25)), o 27 (.faddr (t 26) 2), o 28 (.load (some 38) (t 27)), o 29 (.load (some 3) (t 5)), u (.ext (.hstore 38) [t 2, t 28])]⟩, ⟨false, [], [u (.store 3 (t 3) (t 29)), o 4 (.val Y)]⟩]) [2, 3, 4])
  (.live [2, 3, 4] (.ret)))))), none⟩
def code451 : AFunc := ⟨false, false, 2, 26, [.cell 4 (some 38), .tmp 5],
  .seq (R [0, 1, 4] [o 4 (.lalloc [.str [], .int .i64 0, .int .i64 0, .int .i64 0, .str [], .int .i64 0, .int .u8 0, .int .u8 0, .int .u8 0, .int .u8 0, .int .u8 0, .int .u8 0, .int .u8 0, .int .u8 0, .int .u8 0, .int .u8 0, .int .u8 0, .int .u8 0, .int .u8 0, .int .u8 0, .int .u8 0, .int .u8 0, .int .u8 0, .int .u8 0, .int .u8 0, .int .u8 0, .int .u8 0, .int .u8 0, .int .u8 0, .int .u8 0, .int .u8 0, .int .u8 0, .int .u8 0, .int .u8 0, .int .u8 0, .int .u8 0, .int .u8 0, .int .u8 0]), o 5 (.val (n 0))])
  (.seq (.seq (R [0, 1, 4, 11] [v 10 0, o 11 (.eqnil .ptr false (t 10) (.const (.ptr none)))])
  (.after (.cond (t 11) (.seq (R [4, 5] [o 12 (.build [.str [], .int .i64 0, .int .i64 0, .int .i64 0, .str [], .int .i64 0, .int .u8 0, .int .u8 0, .int .u8 0, .int .u8 0, .int .u8 0, .int .u8 0, .int .u8 0, .int .u8 0, .int .u8 0, .int .u8 0, .int .u8 0, .int .u8 0, .int .u8 0, .int .u8 0, .int .u8 0, .int .u8 0, .int .u8 0, .int .u8 0, .int .u8 0, .int .u8 0, .int .u8 0, .int .u8 0, .int .u8 0, .int .u8 0, .int .u8 0, .int .u8 0, .int .u8 0, .int .u8 0, .int .u8 0, .int .u8 0, .int .u8 0, .int .u8 0] []), u (.store 38 (t 4) (t 12)), o 5 (.val (n 5))])
  (.live [4, 5] (.ret))) (.skip)) [0, 1, 4]))
  (.seq (R [4, 6, 9] [v 14 0, o 15 (.nilcheck (t 14)), o 16 (.faddr (t 15) 0), o 17 (.load none (t 16)), v 18 1, o 19 (.nextStr F), v 13 19, o 20 (.extract (t 13) 0), o 21 (.extract (t 13) 1), o 22 (.extract (t 13) 2), o 23 (.extract (t 13) 3), o 6 (.lalloc [.str [], .int .i64 0, .int .i64 0, .int .i64 0, .str [], .int .i64 0, .int .u8 0, .int .u8 0, .int .u8 0, .int .u8 0, .int .u8 0, .int .u8 0, .int .u8 0, .int .u8 0, .int .u8 0, .int .u8 0, .int .u8 0, .int .u8 0, .int .u8 0, .int .u8 0, .int .u8 0, .int .u8 0, .int .u8 0, .int .u8 0, .int .u8 0, .int .u8 0, .int .u8 0, .int .u8 0, .int .u8 0, .int .u8 0, .int .u8 0, .int .u8 0, .int .u8 0, .int .u8 0, .int .u8 0, .int .u8 0, .int .u8 0, .int .u8 0]), u (.store 38 (t 6) (t 20)), v 7 21, v 8 22, v 9 23])
  (.seq (R [4, 5] [o 24 (.load (some 38) (t 6)), v 25 9, u (.store 38 (t 4) (t 24)), v 5 25])
  (.live [4, 5] (.ret))))), none⟩
def code452 : AFunc := ⟨false, false, 1, 10, [.tmp 2],
  .seq (R [0] [o 2 (.val (.const (.slice none 0 (some 0))))])
  (.seq (.seq (R [0, 4] [v 3 0, o 4 (.eqnil .ptr false (t 3) (.const (.ptr none)))])
  (.after (.cond (t 4) (.seq (R [2] [o 2 (.val (.const (.slice none 0 (some 0))))])
  (.live [2] (.ret))) (.skip)) [0]))
  (.seq (R [2] [v 5 0, o 6 (.nilcheck (t 5)), o 7 (.faddr (t 6) 0), o 8 (.load none (t 7)), o 9 (.nextStr F), v 2 9])
  (.live [2] (.ret)))), none⟩
def code462 : AFunc := ⟨false, false, 1, 23, [.tmp 2],
  .seq (R [0] [o 2 (.val (.const (.str [])))])
  (.seq (.seq (R [0, 4] [v 3 0, o 4 (.bin .lss (t 3) (n 0))])
  (.after (.cond (t 4) (.seq (R [2] [v 5 0, o 6 (.callg 478 [t 5]), o 7 (.callg 462 [t 6]), o 8 (.bin .add (.const (.str [45])) (t 7)), v 2 8])
  (.live [2] (.ret))) (.skip)) [0]))
  (.seq (.seq (R [0, 10] [v 9 0, o 10 (.bin .lss (t 9) (n 10))])
  (.after (.cond (t 10) (.seq (R [2] [v 11 0, o 12 (.bin .add (n 48) (t 11)), o 13 (.conv (.int .u8) (t 12)), o 14 (.mkslice 1 1 [.int .u8 0] [(0, 1, t 13)]), o 15 (.conv .string (t 14)), v 2 15])
  (.live [2] (.ret))) (.skip)) [0]))
  (.seq (R [2] [v 16 0, o 17 (.bin .quo (t 16) (n 10)), o 18 (.callg 462 [t 17]), v 19 0, o 20 (.bin .rem (t 19) (n 10)), o 21 (.callg 462 [t 20]), o 22 (.bin .add (t 18) (t 21)), v 2 22])
  (.live [2] (.ret))))), none⟩
def code465 : AFunc := ⟨false, false, 1, 8, [.tmp 2],
  .seq (R [0] [o 2 (.val (.const (.slice none 0 (some 0))))])
  (.seq (.seq (R [0, 4] [v 3 0, o 4 (.eqnil .slice false (t 3) (.const (.slice none 0 (some 0))))])
  (.after (.cond (t 4) (.seq (R [2] [o 2 (.val (.const (.slice none 0 (some 0))))])
  (.live [2] (.ret))) (.skip)) [0]))
  (.seq (R [2] [o 5 (.mkslice 1 0 [] []), v 6 0, o 7 (.append 1 1 (t 5) (t 6)), v 2 7])
  (.live [2] (.ret)))), none⟩
def code478 : AFunc := ⟨false, false, 1, 7, [.tmp 2],
  .seq (R [0] [o 2 (.val (n 0))])
  (.seq (.seq (R [0, 4] [v 3 0, o 4 (.bin .eql (t 3) (.const (.int .i64 (-9223372036854775808))))])
  (.after (.cond (t 4) (.seq (R [2] [o 2 (.val (n 9223372036854775807))])
  (.live [2] (.ret))) (.skip)) [0]))
  (.seq (R [2] [v 5 0, o 6 (.un .neg (t 5)), v 2 6])
  (.live [2] (.ret)))), none⟩
def code100434 : AFunc := ⟨false, false, 1, 14, [.tmp 2],
  .seq (R [1] [o 1 (.lbox (t 0)), o 2 (.val (.const (.slice none 0 (some 0))))])
  (.seq (.after (.region [⟨true, [], [o 3 (.faddr (t 1) 0), o 4 (.load none (t 3)), o 5 (.faddr (t 1) 1), o 6 (.load (some 3) (t 5)), o 7 (.callg 447 [t 6]), o 8 (.faddr (t 1) 4), o 9 (.load none (t 8)), o 10 (.faddr (t 1) 5), o 11 (.load none (t 10)), o 12 (.callg 448 [t 11])]⟩, ⟨false, [], [o 13 (.mkslice 1 4 [.str [], .str [], .str [], .str []] [(0, 1, t 4), (1, 1, t 7), (2, 1, t 9), (3, 1, t 12)]), v 2 13]⟩]) [2])
  (.live [2] (.ret))), none⟩
def code100436 : AFunc := ⟨false, false, 2, 20, [.tmp 4],
  .seq (R [2, 3] [o 2 (.lbox (t 0)), o 3 (.lbox (t 1)), o 4 (.val (.const (.slice none 0 (some 0))))])
  (.seq (.after (.region [⟨true, [], [o 5 (.faddr (t 2) 0), o 6 (.load none (t 5)), o 7 (.faddr (t 2) 1), o 8 (.load (some 3) (t 7)), o 9 (.callg 447 [t 8]), o 10 (.faddr (t 3) 2), o 11 (.load none (t 10)), o 12 (.len .sl (t 11)), o 13 (.callg 448 [t 12]), o 14 (.bin .add (t 13) (.const (.str [47]))), o 15 (.faddr (t 3) 0), o 16 (.load none (t 15)), o 17 (.callg 448 [t 16]), o 18 (.bin .add (t 14) (t 17))]⟩, ⟨false, [], [o 19 (.mkslice 1 4 [.str [], .str [], .str [], .str []] [(0, 1, t 6), (1, 1, t 9), (2, 1, .const (.str [106, 111, 98])), (3, 1, t 18)]), v 4 19]⟩]) [4])
  (.live [4] (.ret))), none⟩
def T : Nat → Option AFunc := fun g => match AbsWid.T g with
  | some f => some f
  | none => List.lookup g [(94, code94), (426, code426), (427, code427), (428, code428), (429, code429), (430, code430), (431, code431), (432, code432), (433, code433), (435, code435), (437, code437), (438, code438), (439, code439), (443, code443), (446, code446), (447, code447), (448, code448), (449, code449), (450, code450), (451, code451), (452, code452), (462, code462), (465, code465), (478, code478), (100434, code100434), (100436, code100436)]
theorem sub : ∀ g f, AbsWid.T g = some f → T g = some f := fun g f h => by unfold T; rw [h]
theorem t94 : T 94 = some code94 := rfl
theorem t426 : T 426 = some code426 := rfl
theorem t427 : T 427 = some code427 := rfl
theorem t428 : T 428 = some code428 := rfl
theorem t429 : T 429 = some code429 := rfl
theorem t430 : T 430 = some code430 := rfl
theorem t431 : T 431 = some code431 := rfl
theorem t432 : T 432 = some code432 := rfl
theorem t433 : T 433 = some code433 := rfl
theorem t435 : T 435 = some code435 := rfl
theorem t437 : T 437 = some code437 := rfl
theorem t438 : T 438 = some code438 := rfl
theorem t439 : T 439 = some code439 := rfl
theorem t443 : T 443 = some code443 := rfl
theorem t446 : T 446 = some code446 := rfl
theorem t447 : T 447 = some code447 := rfl
theorem t448 : T 448 = some code448 := rfl
theorem t449 : T 449 = some code449 := rfl
theorem t450 : T 450 = some code450 := rfl
theorem t451 : T 451 = some code451 := rfl
theorem t452 : T 452 = some code452 := rfl
theorem t462 : T 462 = some code462 := rfl
theorem t465 : T 465 = some code465 := rfl
theorem t478 : T 478 = some code478 := rfl
theorem t100434 : T 100434 = some code100434 := rfl
theorem t100436 : T 100436 = some code100436 := rfl
end Go.Abs.AbsList

/-
  What runs over some functions runs so over more of them.
-/
namespace Go.Abs
set_option linter.unusedVariables false
set_option linter.unusedSimpArgs false
theorem evCall_sub {T T' : Nat → Option AFunc} (hs : ∀ g f, T g = some f → T' g = some f) : ∀ n, CallLe (evCall T n) (evCall T' n)
  | 0 => fun _ _ _ r hr => by simp [evCall] at hr
  | n + 1 => fun g args h => by
    intro r hr
    have ih := evCall_sub hs n
    simp only [evCall] at hr ⊢
    cases hT : T g with
    | none => rw [hT] at hr; cases hr
    | some f =>
      rw [hT] at hr
      rw [hs g f hT]
      simp only at hr ⊢
      split at hr
      · exact evRound_mono ih (Nat.le_refl _) _ _ _ _ r hr
      · exact hr
      · exact wrapC_mono (fun args h => evFunc_mono ih (Nat.le_refl _) f args h) _ _ _ r hr
theorem xCall_sub {T T' : Nat → Option AFunc} (hs : ∀ g f, T g = some f → T' g = some f) {g : Nat} {args : List AVal} {h : Heap} {r : AVal × Heap} (he : xCall T g args h = some r) : xCall T' g args h = some r := by
  rw [xCall_iff] at he ⊢
  obtain ⟨n, hn⟩ := he
  exact ⟨n, evCall_sub hs n _ _ _ _ hn⟩
end Go.Abs

/-
  Maps whose entries are told by a list of pairs; loops over functions, symbolically.
-/
namespace Go.Abs
set_option linter.unusedVariables false
set_option linter.unusedSimpArgs false
abbrev Str := List UInt8
section
variable {κ ν : Type} [DecidableEq κ]
variable {os : List AObj} {b w r : Nat} {A : List (κ × ν)} {kf : κ → AVal} {vf : ν → AVal}
end
theorem get_k {α : Type} (a c : List α) (k : Nat) : (a ++ c)[a.length + k]? = c[k]? := by
  rw [List.getElem?_append_right (by omega)]; congr 1; omega
theorem get_k0 {α : Type} (a c : List α) : (a ++ c)[a.length]? = c[0]? := get_k a c 0
theorem finish_keep {h0 h : Heap} {v : AVal} {k : List Nat} (hw : h0.size ≤ h.wmin) (hv : v.under h0.size = false) (hr : reach h h0.size 1000 v.ids [] = k) (hok : ∀ i ∈ v.ids ++ k.flatMap fun i => ((h.get i).map AObj.ids).getD [], i < h0.size ∨ i ∈ k) :
    finish h0 v h = (v.ren (fun i => if i < h0.size then i else h0.size + idxIn i k), { h0 with objs := h0.objs ++ k.map fun i => ((h.get i).map (AObj.ren fun i => if i < h0.size then i else h0.size + idxIn i k)).getD .dead }) := by
  unfold finish
  rw [if_neg (by omega), hv]
  simp only [Bool.false_eq_true, if_false, hr]
  rw [if_pos]
  rw [List.all_eq_true]
  intro i hi
  rcases hok i hi with h1 | h1
  · rw [decide_eq_true h1]; rfl
  · simp [h1]
end Go.Abs

/-
  Units, as data, and where they lie.
-/
namespace Go.Abs
set_option linter.unusedVariables false
set_option linter.unusedSimpArgs false
structure FieldU where
  st : Bool
  name : Str
  desc : Str
structure InsU where
  op : Int
  n : Int
  m : Int
  cls : Str
  name : Str
  desc : Str
  text : Str
structure TrapU where
  lo : Int
  hi : Int
  at' : Int
  cls : Str
structure MapU where
  at' : Int
  locals : List Str
  la : Option (Nat × Nat)
  lc : Option Nat
  stack : List Str
  sa : Option (Nat × Nat)
  sc : Option Nat
structure MethU where
  st : Bool
  name : Str
  desc : Str
  stack : Int
  locals : Int
  code : List InsU
  ca : Option (Nat × Nat)
  cc : Option Nat
  traps : List TrapU
  ta : Option (Nat × Nat)
  tc : Option Nat
  maps : List MapU
  xa : Option (Nat × Nat)
  xc : Option Nat
structure UnitU where
  name : Str
  super : Str
  fields : List FieldU
  fa : Option (Nat × Nat)
  fc : Option Nat
  meths : List MethU
  ma : Option (Nat × Nat)
  mc : Option Nat
def FieldU.cells (f : FieldU) : List AVal := [.bool f.st, .str f.name, .str f.desc]
def InsU.cells (x : InsU) : List AVal := [.int .u8 x.op, .int .i64 x.n, .int .i64 x.m, .str x.cls, .str x.name, .str x.desc, .str x.text]
def TrapU.cells (x : TrapU) : List AVal := [.int .i64 x.lo, .int .i64 x.hi, .int .i64 x.at', .str x.cls]
def MapU.cells (x : MapU) : List AVal := [.int .i64 x.at', .slice x.la x.locals.length x.lc, .slice x.sa x.stack.length x.sc]
def MethU.cells (m : MethU) : List AVal := [.bool m.st, .str m.name, .str m.desc, .int .i64 m.stack, .int .i64 m.locals, .slice m.ca m.code.length m.cc, .slice m.ta m.traps.length m.tc, .slice m.xa m.maps.length m.xc]
def UnitU.cells (u : UnitU) : List AVal := [.str u.name, .str u.super, .slice u.fa u.fields.length u.fc, .slice u.ma u.meths.length u.mc]
def strC (s : Str) : List AVal := [.str s]
abbrev big : Nat := 9223372036854775807
def under (n : Nat) (a : Option (Nat × Nat)) : Prop := ∀ i o, a = some (i, o) → i < n
structure MapU.ok (os : List AObj) (x : MapU) : Prop where
  l : Row os 1 strC x.locals x.la
  ln : x.locals.length ≤ big
  lu : under os.length x.la
  s : Row os 1 strC x.stack x.sa
  sn : x.stack.length ≤ big
  su : under os.length x.sa
  ls : ∀ t ∈ x.locals ++ x.stack, t.length ≤ big
structure MethU.ok (os : List AObj) (m : MethU) : Prop where
  name : m.name.length ≤ big
  desc : m.desc.length ≤ big
  c : Row os 7 InsU.cells m.code m.ca
  cn : m.code.length ≤ big
  cu : under os.length m.ca
  cok : ∀ x ∈ m.code, x.cls.length ≤ big ∧ x.name.length ≤ big ∧ x.desc.length ≤ big ∧ x.text.length ≤ big
  t : Row os 4 TrapU.cells m.traps m.ta
  tn : m.traps.length ≤ big
  tu : under os.length m.ta
  tok : ∀ x ∈ m.traps, x.cls.length ≤ big
  x : Row os 3 MapU.cells m.maps m.xa
  xn : m.maps.length ≤ big
  xu : under os.length m.xa
  xok : ∀ x ∈ m.maps, x.ok os
structure UnitU.ok (os : List AObj) (u : UnitU) : Prop where
  name : u.name.length ≤ big
  super : u.super.length ≤ big
  f : Row os 3 FieldU.cells u.fields u.fa
  fn : u.fields.length ≤ big
  fu : under os.length u.fa
  fok : ∀ x ∈ u.fields, x.name.length ≤ big ∧ x.desc.length ≤ big
  m : Row os 8 MethU.cells u.meths u.ma
  mn : u.meths.length ≤ big
  mu : under os.length u.ma
  mok : ∀ x ∈ u.meths, x.ok os
def Pre (os O : List AObj) : Prop := ∀ (i : Nat) (o : AObj), os[i]? = some o → O[i]? = some o
theorem Pre.refl (os : List AObj) : Pre os os := fun _ _ h => h
theorem Pre.trans {A B C : List AObj} (h : Pre A B) (k : Pre B C) : Pre A C := fun i o ho => k i o (h i o ho)
theorem Pre.app (os X : List AObj) : Pre os (os ++ X) := fun i o h => by rw [List.getElem?_append_left (lt_of_get h)]; exact h
theorem Pre.set {A B : List AObj} (h : Pre A B) {i : Nat} (o : AObj) (hi : A.length ≤ i) : Pre A (B.set i o) := fun j p hj => by
  have := lt_of_get hj
  rw [List.getElem?_set_ne (by omega)]; exact h j p hj
theorem Pre.len {A B : List AObj} (h : Pre A B) : A.length ≤ B.length := by
  rcases Nat.lt_or_ge B.length A.length with h1 | h1
  · have h2 : B.length < A.length := h1
    have := lt_of_get (h B.length A[B.length] (by simp [h2]))
    omega
  · exact h1
theorem Pre.row {os O : List AObj} {α : Type} {e : Nat} {f : α → List AVal} {L : List α} {a : Option (Nat × Nat)} (hp : Pre os O) (h : Row os e f L a) : Row O e f L a :=
  ⟨fun hne => by
    obtain ⟨b, o, cs, h1, h2, h3⟩ := h.at' hne
    exact ⟨b, o, cs, h1, hp _ _ h2, h3⟩⟩
theorem under.le {n m : Nat} {a : Option (Nat × Nat)} (h : under n a) (hm : n ≤ m) : under m a := fun i o e => Nat.lt_of_lt_of_le (h i o e) hm
theorem MapU.ok.pre {os O : List AObj} (hp : Pre os O) {x : MapU} (h : x.ok os) : x.ok O := ⟨hp.row h.l, h.ln, h.lu.le hp.len, hp.row h.s, h.sn, h.su.le hp.len, h.ls⟩
theorem MethU.ok.pre {os O : List AObj} (hp : Pre os O) {m : MethU} (h : m.ok os) : m.ok O :=
  ⟨h.name, h.desc, hp.row h.c, h.cn, h.cu.le hp.len, h.cok, hp.row h.t, h.tn, h.tu.le hp.len, h.tok, hp.row h.x, h.xn, h.xu.le hp.len, fun x hx => (h.xok x hx).pre hp⟩
theorem UnitU.ok.pre {os O : List AObj} (hp : Pre os O) {u : UnitU} (h : u.ok os) : u.ok O :=
  ⟨h.name, h.super, hp.row h.f, h.fn, h.fu.le hp.len, h.fok, hp.row h.m, h.mn, h.mu.le hp.len, fun x hx => (h.mok x hx).pre hp⟩
structure UnitU.low (n : Nat) (u : UnitU) : Prop where
  f : under n u.fa
  m : under n u.ma
theorem UnitU.ok.low {O : List AObj} {u : UnitU} (h : u.ok O) : u.low O.length := ⟨h.fu, h.mu⟩
section
variable {os : List AObj} {w : Nat}
end
end Go.Abs

/-
  Units that come in.
-/
namespace Go.Abs
set_option linter.unusedVariables false
set_option linter.unusedSimpArgs false
def FieldU.fits (x : FieldU) : Prop := x.name.length ≤ reachB ∧ x.desc.length ≤ reachB
def InsU.fits (x : InsU) : Prop := x.cls.length ≤ reachB ∧ x.name.length ≤ reachB ∧ x.desc.length ≤ reachB ∧ x.text.length ≤ reachB
def TrapU.fits (x : TrapU) : Prop := x.cls.length ≤ reachB
structure MapU.fits (x : MapU) : Prop where
  l : x.locals.length ≤ reachB
  s : x.stack.length ≤ reachB
  ls : ∀ t ∈ x.locals, t.length ≤ reachB
  ss : ∀ t ∈ x.stack, t.length ≤ reachB
structure MethU.fits (m : MethU) : Prop where
  name : m.name.length ≤ reachB
  desc : m.desc.length ≤ reachB
  c : m.code.length ≤ reachB
  cs : ∀ x ∈ m.code, x.fits
  t : m.traps.length ≤ reachB
  ts : ∀ x ∈ m.traps, x.fits
  x : m.maps.length ≤ reachB
  xs : ∀ x ∈ m.maps, x.fits
structure UnitU.cap (u : UnitU) : Prop where
  f : ∀ k, u.fc = some k → u.fields.length ≤ k
  m : ∀ k, u.mc = some k → u.meths.length ≤ k
structure UnitU.fits (u : UnitU) : Prop where
  name : u.name.length ≤ reachB
  super : u.super.length ≤ reachB
  f : u.fields.length ≤ reachB
  fs : ∀ x ∈ u.fields, x.fits
  m : u.meths.length ≤ reachB
  ms : ∀ x ∈ u.meths, x.fits
  cap : u.cap
section
variable {os : List AObj} {b w : Nat} {d : Dat} {cs : List AVal}
end
end Go.Abs

/-
  What a call hands back may stand elsewhere: units are as they were.
-/
namespace Go.Abs
set_option linter.unusedVariables false
set_option linter.unusedSimpArgs false
set_option maxRecDepth 100000
def renA (f : Nat → Nat) : Option (Nat × Nat) → Option (Nat × Nat)
  | none => none
  | some (i, o) => some (f i, o)
theorem ren_sl (f : Nat → Nat) (a : Option (Nat × Nat)) (n : Nat) (c : Option Nat) : (AVal.slice a n c).ren f = .slice (renA f a) n c := by
  cases a with
  | none => simp [AVal.ren, renA]
  | some p => obtain ⟨i, o⟩ := p; simp [AVal.ren, renA]
theorem renL_map (f : Nat → Nat) : ∀ l : List AVal, AVal.renL f l = l.map (AVal.ren f)
  | [] => rfl
  | a :: l => by simp only [AVal.renL, List.map_cons, renL_map f l]
theorem idsL_flat : ∀ l : List AVal, AVal.idsL l = l.flatMap AVal.ids
  | [] => rfl
  | a :: l => by simp only [AVal.idsL, List.flatMap_cons, idsL_flat l]
structure Moves (f : Nat → Nat) (I : Nat → Prop) (n : Nat) (O O' : List AObj) : Prop where
  at' : ∀ i obj, I i → O[i]? = some obj → O'[f i]? = some (obj.ren f)
  cl : ∀ i obj, I i → O[i]? = some obj → ∀ j ∈ obj.ids, n ≤ j → I j
  up : ∀ i, n ≤ i → n ≤ f i
section
variable {f : Nat → Nat} {I : Nat → Prop} {n : Nat} {O O' : List AObj}
def over (n : Nat) (a : Option (Nat × Nat)) : Prop := ∀ i o, a = some (i, o) → n ≤ i
def inI (I : Nat → Prop) (a : Option (Nat × Nat)) : Prop := ∀ i o, a = some (i, o) → I i
theorem Moves.row (h : Moves f I n O O') {α β : Type} {e : Nat} {F : α → List AVal} {F' : β → List AVal} {g : α → β} {L : List α} {a : Option (Nat × Nat)} (hR : Row O e F L a) (ha : inI I a) (hg : ∀ x, AVal.renL f (F x) = F' (g x)) : Row O' e F' (L.map g) (renA f a) :=
  ⟨fun hne => by
    have hL : L ≠ [] := fun e => hne (by rw [e]; rfl)
    obtain ⟨b, o, cs, h1, h2, h3⟩ := hR.at' hL
    subst h1
    refine ⟨f b, o, AVal.renL f cs, rfl, h.at' b _ (ha b o rfl) h2, fun j y hy => ?_⟩
    rw [List.getElem?_map] at hy
    cases hx : L[j]? with
    | none => rw [hx] at hy; cases hy
    | some x =>
      rw [hx] at hy
      cases hy
      obtain ⟨h4, h5⟩ := h3 j x hx
      refine ⟨by rw [renL_map, List.length_map]; exact h4, ?_⟩
      rw [← hg x, ← h5, renL_map, renL_map, List.map_take, List.map_drop]⟩
theorem Moves.ids (h : Moves f I n O O') {α : Type} {e : Nat} {F : α → List AVal} {L : List α} {a : Option (Nat × Nat)} (hR : Row O e F L a) (ha : inI I a) {x : α} (hx : x ∈ L) : ∀ j ∈ AVal.idsL (F x), n ≤ j → I j := by
  intro j hj hn
  obtain ⟨k, hk⟩ := List.mem_iff_getElem?.1 hx
  obtain ⟨b, o, cs, h1, h2, h3⟩ := hR.at' (ne_of_get hk)
  subst h1
  refine h.cl b _ (ha b o rfl) h2 j ?_ hn
  rw [← (h3 k x hk).2, idsL_flat, List.mem_flatMap] at hj
  obtain ⟨v, hv, hj⟩ := hj
  show j ∈ AVal.idsL cs
  rw [idsL_flat, List.mem_flatMap]
  exact ⟨v, List.mem_of_mem_drop (List.mem_of_mem_take hv), hj⟩
theorem Moves.under (h : Moves f I n O O') {a : Option (Nat × Nat)} (ha : inI I a) (hu : under O.length a) : under O'.length (renA f a) := by
  cases a with
  | none => exact fun i o e => by cases e
  | some p =>
    obtain ⟨i, o⟩ := p
    intro j q e
    simp only [renA, Option.some.injEq, Prod.mk.injEq] at e
    obtain ⟨rfl, rfl⟩ := e
    have hi := hu i o rfl
    exact lt_of_get (h.at' i _ (ha i o rfl) (List.getElem?_eq_getElem hi))
theorem inI_of {a : Option (Nat × Nat)} {m : Nat} {c : Option Nat} {l : List AVal} (hl : ∀ j ∈ AVal.idsL l, n ≤ j → I j) (hm : AVal.slice a m c ∈ l) (ho : over n a) : inI I a := fun i o e => by
  subst e
  refine hl i ?_ (ho i o rfl)
  rw [idsL_flat, List.mem_flatMap]
  exact ⟨_, hm, by simp [AVal.ids]⟩
def MapU.ren (f : Nat → Nat) (x : MapU) : MapU := { x with la := renA f x.la, sa := renA f x.sa }
def MethU.ren (f : Nat → Nat) (m : MethU) : MethU := { m with ca := renA f m.ca, ta := renA f m.ta, maps := m.maps.map (MapU.ren f), xa := renA f m.xa }
def UnitU.ren (f : Nat → Nat) (u : UnitU) : UnitU := { u with fa := renA f u.fa, meths := u.meths.map (MethU.ren f), ma := renA f u.ma }
theorem ren_field (x : FieldU) : AVal.renL f x.cells = x.cells := by simp [FieldU.cells, AVal.renL, AVal.ren]
theorem ren_ins (x : InsU) : AVal.renL f x.cells = x.cells := by simp [InsU.cells, AVal.renL, AVal.ren]
theorem ren_trap (x : TrapU) : AVal.renL f x.cells = x.cells := by simp [TrapU.cells, AVal.renL, AVal.ren]
theorem ren_strC (x : Str) : AVal.renL f (strC x) = strC x := by simp [strC, AVal.renL, AVal.ren]
theorem ren_map (x : MapU) : AVal.renL f x.cells = (x.ren f).cells := by simp [MapU.cells, AVal.renL, ren_sl, MapU.ren]
theorem ren_meth (m : MethU) : AVal.renL f m.cells = (m.ren f).cells := by simp [MethU.cells, AVal.renL, ren_sl, MethU.ren]
structure MapU.over (n : Nat) (x : MapU) : Prop where
  l : Go.Abs.over n x.la
  s : Go.Abs.over n x.sa
structure MethU.over (n : Nat) (m : MethU) : Prop where
  c : Go.Abs.over n m.ca
  t : Go.Abs.over n m.ta
  x : Go.Abs.over n m.xa
  xs : ∀ x ∈ m.maps, x.over n
structure UnitU.over (n : Nat) (u : UnitU) : Prop where
  f : Go.Abs.over n u.fa
  m : Go.Abs.over n u.ma
  ms : ∀ m ∈ u.meths, m.over n
theorem over_ren {a : Option (Nat × Nat)} (hf : ∀ i, n ≤ i → n ≤ f i) (h : Go.Abs.over n a) : Go.Abs.over n (renA f a) := by
  cases a with
  | none => exact fun i o e => by cases e
  | some p =>
    obtain ⟨i, o⟩ := p
    intro j q e
    simp only [renA, Option.some.injEq, Prod.mk.injEq] at e
    rw [← e.1]; exact hf i (h i o rfl)
theorem MapU.over.ren {x : MapU} (hf : ∀ i, n ≤ i → n ≤ f i) (h : x.over n) : (x.ren f).over n := ⟨over_ren hf h.l, over_ren hf h.s⟩
theorem MethU.over.ren {m : MethU} (hf : ∀ i, n ≤ i → n ≤ f i) (h : m.over n) : (m.ren f).over n := ⟨over_ren hf h.c, over_ren hf h.t, over_ren hf h.x, fun x hx => by
  obtain ⟨y, hy, rfl⟩ := List.mem_map.1 hx
  exact (h.xs y hy).ren hf⟩
theorem UnitU.over.ren {u : UnitU} (hf : ∀ i, n ≤ i → n ≤ f i) (h : u.over n) : (u.ren f).over n := ⟨over_ren hf h.f, over_ren hf h.m, fun x hx => by
  obtain ⟨y, hy, rfl⟩ := List.mem_map.1 hx
  exact (h.ms y hy).ren hf⟩
theorem MethU.fits.ren {m : MethU} (h : m.fits) : (m.ren f).fits := ⟨h.name, h.desc, h.c, h.cs, h.t, h.ts, by simpa [MethU.ren] using h.x, fun x hx => by
  obtain ⟨y, hy, rfl⟩ := List.mem_map.1 hx
  have := h.xs y hy
  exact ⟨this.l, this.s, this.ls, this.ss⟩⟩
theorem UnitU.cap.ren {u : UnitU} (h : u.cap) : (u.ren f).cap := ⟨h.f, by simpa [UnitU.ren] using h.m⟩
theorem UnitU.fits.ren {u : UnitU} (h : u.fits) : (u.ren f).fits := ⟨h.name, h.super, h.f, h.fs, by simpa [UnitU.ren] using h.m, fun x hx => by
  obtain ⟨y, hy, rfl⟩ := List.mem_map.1 hx
  exact (h.ms y hy).ren, h.cap.ren⟩
theorem MapU.ok.move (h : Moves f I n O O') {x : MapU} (hx : x.ok O) (ho : x.over n) (hI : ∀ j ∈ AVal.idsL x.cells, n ≤ j → I j) : (x.ren f).ok O' := by
  have hl : inI I x.la := inI_of (m := x.locals.length) (c := x.lc) hI (by simp [MapU.cells]) ho.l
  have hs : inI I x.sa := inI_of (m := x.stack.length) (c := x.sc) hI (by simp [MapU.cells]) ho.s
  have h1 := h.row (F' := strC) (g := id) hx.l hl fun y => ren_strC y
  have h2 := h.row (F' := strC) (g := id) hx.s hs fun y => ren_strC y
  rw [List.map_id] at h1 h2
  exact ⟨h1, hx.ln, h.under hl hx.lu, h2, hx.sn, h.under hs hx.su, hx.ls⟩
theorem MethU.ok.move (h : Moves f I n O O') {m : MethU} (hx : m.ok O) (ho : m.over n) (hI : ∀ j ∈ AVal.idsL m.cells, n ≤ j → I j) : (m.ren f).ok O' := by
  have hc : inI I m.ca := inI_of (m := m.code.length) (c := m.cc) hI (by simp [MethU.cells]) ho.c
  have ht : inI I m.ta := inI_of (m := m.traps.length) (c := m.tc) hI (by simp [MethU.cells]) ho.t
  have hm : inI I m.xa := inI_of (m := m.maps.length) (c := m.xc) hI (by simp [MethU.cells]) ho.x
  have h1 := h.row (F' := InsU.cells) (g := id) hx.c hc fun y => ren_ins y
  have h2 := h.row (F' := TrapU.cells) (g := id) hx.t ht fun y => ren_trap y
  have h3 := h.row (F' := MapU.cells) (g := MapU.ren f) hx.x hm fun y => ren_map y
  rw [List.map_id] at h1 h2
  refine ⟨hx.name, hx.desc, h1, hx.cn, h.under hc hx.cu, hx.cok, h2, hx.tn, h.under ht hx.tu, hx.tok, h3, by simpa [MethU.ren] using hx.xn, h.under hm hx.xu, fun x hxm => ?_⟩
  obtain ⟨y, hy, rfl⟩ := List.mem_map.1 hxm
  exact (hx.xok y hy).move h (ho.xs y hy) (h.ids hx.x hm hy)
theorem UnitU.ok.move (h : Moves f I n O O') {u : UnitU} (hx : u.ok O) (ho : u.over n) (hI : ∀ j ∈ AVal.idsL u.cells, n ≤ j → I j) : (u.ren f).ok O' := by
  have hf : inI I u.fa := inI_of (m := u.fields.length) (c := u.fc) hI (by simp [UnitU.cells]) ho.f
  have hm : inI I u.ma := inI_of (m := u.meths.length) (c := u.mc) hI (by simp [UnitU.cells]) ho.m
  have h1 := h.row (F' := FieldU.cells) (g := id) hx.f hf fun y => ren_field y
  have h3 := h.row (F' := MethU.cells) (g := MethU.ren f) hx.m hm fun y => ren_meth y
  rw [List.map_id] at h1
  refine ⟨hx.name, hx.super, h1, hx.fn, h.under hf hx.fu, hx.fok, h3, by simpa [UnitU.ren] using hx.mn, h.under hm hx.mu, fun x hxm => ?_⟩
  obtain ⟨y, hy, rfl⟩ := List.mem_map.1 hxm
  exact (hx.mok y hy).move h (ho.ms y hy) (h.ids hx.m hm hy)
end
end Go.Abs

/-
  Rows, read whole.
-/
namespace Go.Abs
set_option linter.unusedVariables false
set_option linter.unusedSimpArgs false
set_option maxRecDepth 100000
theorem rowOf0 {e : Nat} {h : Heap} {a : Option (Nat × Nat)} {c : Option Nat} : rowOf e h (.slice a 0 c) = some [] := by
  cases a with
  | none => rfl
  | some p => rfl
theorem rowOfC {e n : Nat} {h : Heap} {i : Nat} {cs : List AVal} {c : Option Nat} (hg : h.objs[i]? = some (.cells e cs)) (hn : cs.length = n * e) : rowOf e h (.slice (some (i, 0)) n c) = some cs := by
  unfold rowOf
  simp only
  split
  · rename_i h0
    subst h0
    rw [Nat.zero_mul] at hn
    rw [List.eq_nil_of_length_eq_zero hn]
  · have hg' : h.get i = some (.cells e cs) := hg
    rw [hg']
    simp only
    have h2 : True ∧ 0 + n * e ≤ cs.length := ⟨trivial, by omega⟩
    rw [if_pos h2, List.drop_zero, ← hn, List.take_length]
theorem sgetN (t : Nat) : sget [] t = none := by simp
theorem sgetH (t : Nat) (x : Slot) (r : Slots) : sget ((t, x) :: r) t = some x := by simp
theorem sgetT (u t : Nat) (x : Slot) (r : Slots) (h : u ≠ t) : sget ((u, x) :: r) t = sget r t := by simp [h]
end Go.Abs

/-
  Rows that grow by one: a function's own.
-/
namespace Go.Abs
set_option maxRecDepth 100000
set_option linter.unusedSimpArgs false
variable {α : Type} {e : Nat} {f : α → List AVal} {O P : List AObj} {A : List α} {v : AVal} {b : Nat}
structure Acc (e : Nat) (f : α → List AVal) (O : List AObj) (A : List α) (P : List AObj) (v : AVal) : Prop where
  pre : Pre O P
  val : (A = [] ∧ v = .slice none 0 (some 0)) ∨ (A ≠ [] ∧ ∃ i, O.length ≤ i ∧ v = .slice (some (i, 0)) A.length none ∧ P[i]? = some (.cells e (A.flatMap f)))
theorem Acc.nil : Acc e f O [] O (.slice none 0 (some 0)) := ⟨Pre.refl _, .inl ⟨rfl, rfl⟩⟩
theorem Acc.app (h : Acc e f O A P v) (X : List AObj) : Acc e f O A (P ++ X) v := ⟨h.pre.trans (Pre.app _ _), by
  rcases h.val with h1 | ⟨h1, i, h2, h3, h4⟩
  · exact .inl h1
  · exact .inr ⟨h1, i, h2, h3, by rw [List.getElem?_append_left (lt_of_get h4)]; exact h4⟩⟩
theorem Acc.shape (h : Acc e f O A P v) : ∃ p c, v = .slice p A.length c := by
  rcases h.val with ⟨rfl, rfl⟩ | ⟨_, i, _, rfl, _⟩
  · exact ⟨_, _, rfl⟩
  · exact ⟨_, _, rfl⟩
def newV (n : Nat) (A : List α) : AVal := if A = [] then .slice none 0 (some 0) else .slice (some (n, 0)) A.length none
def newO (e : Nat) (f : α → List AVal) (O : List AObj) (A : List α) : List AObj := if A = [] then O else O ++ [.cells e (A.flatMap f)]
theorem newO_pre : Pre O (newO e f O A) := by
  unfold newO
  split
  · exact Pre.refl _
  · exact Pre.app _ _
def newA (n : Nat) (A : List α) : Option (Nat × Nat) := if A = [] then none else some (n, 0)
def newC (A : List α) : Option Nat := if A = [] then some 0 else none
theorem newV_eq (n : Nat) (A : List α) : newV n A = .slice (newA n A) A.length (newC A) := by
  unfold newV newA newC
  split
  · rename_i h; rw [h]; rfl
  · rfl
theorem new_row (hf : ∀ y, (f y).length = e) : Row (newO e f O A) e f A (newA O.length A) := by
  unfold newO newA
  split
  · rename_i h; subst h; exact ⟨fun h => absurd rfl h⟩
  · exact Row.mk0 hf (by rw [get_k0]; rfl)
def Keeps (P P' : List AObj) (n : Nat) (v : AVal) : Prop := ∀ (k : Nat) (o : AObj), P[k]? = some o → v ≠ .slice (some (k, 0)) n none → P'[k]? = some o
theorem Acc.add (h : Acc e f O A P v) (hf : ∀ y, (f y).length = e) (hb : b ≤ O.length) {by' : Nat} (hl : (A.length + 1) * by' ≤ 140737488355328) (hl2 : A.length ≤ 1000000000) (x : α) :
    ∃ P' v', ∃ nx : Nat → Nat, Acc e f O (A ++ [x]) P' v' ∧ (∀ w, O.length ≤ w → O.length ≤ nx w) ∧ ((∀ w, nx w ≤ w ∧ (A ≠ [] → nx w < P.length)) ∧ Keeps P P' A.length v ∧ v' = .slice (some (P.length + 1, 0)) (A.length + 1) none) ∧ ∀ w, aAppend e by' ⟨P ++ [.cells e (f x)], b, w⟩ v (.slice (some (P.length, 0)) 1 (some 1)) = some (v', ⟨P', b, nx w⟩) := by
  have hz : ∀ w, rowOf e ⟨P ++ [.cells e (f x)], b, w⟩ (.slice (some (P.length, 0)) 1 (some 1)) = some (f x) := fun w =>
    rowOfC (by show (P ++ [AObj.cells e (f x)])[P.length]? = _; rw [get_k0]; rfl) (by rw [hf, Nat.one_mul])
  have hs : (P ++ [AObj.cells e (f x)]).length = P.length + 1 := by simp
  have he : (A ++ [x]).flatMap f = A.flatMap f ++ f x := by simp
  have hlen : (A ++ [x]).length = A.length + 1 := by simp
  have hne : A ++ [x] ≠ [] := by simp
  have hpl := h.pre.len
  rcases h.val with ⟨rfl, rfl⟩ | ⟨h1, i, h2, rfl, h4⟩
  · refine ⟨P ++ [.cells e (f x), .cells e (f x)], .slice (some (P.length + 1, 0)) 1 none, id, ⟨h.pre.trans (Pre.app _ _), .inr ⟨hne, P.length + 1, by omega, by rw [hlen]; rfl, by rw [get_k]; simp⟩⟩, fun w hw => hw, ⟨fun w => ⟨Nat.le_refl w, fun h => absurd rfl h⟩, fun k o hk _ => by rw [List.getElem?_append_left (lt_of_get hk)]; exact hk, by simp⟩, fun w => ?_⟩
    unfold aAppend
    simp only [hz, rowOf0, aApp, alen]
    have q1 : ¬ (1 : Nat) = 0 := by decide
    have q2 : (0 + 1) * by' ≤ 140737488355328 ∧ 0 + 1 ≤ 9223372036854775807 := ⟨by simpa using hl, by decide⟩
    simp only [eq_false q1, eq_true q2, if_false, if_true]
    simp [Heap.push, Heap.size]
  · have hi := lt_of_get h4
    have h5 : (P ++ [AObj.cells e (f x)])[i]? = some (.cells e (A.flatMap f)) := by rw [List.getElem?_append_left hi]; exact h4
    have hfl : (A.flatMap f).length = A.length * e := flat_len f e hf A
    have hz1 : ∀ w, rowOf e ⟨P ++ [.cells e (f x)], b, w⟩ (.slice (some (i, 0)) A.length none) = some (A.flatMap f) := fun w => rowOfC h5 hfl
    have hr : ∀ w, rowIs ⟨P ++ [.cells e (f x)], b, w⟩ i e = true := fun w => by
      unfold rowIs Heap.get
      simp only [h5]
      simp
    refine ⟨P.set i .dead ++ [.cells e (f x), .cells e ((A ++ [x]).flatMap f)], .slice (some (P.length + 1, 0)) (A ++ [x]).length none, fun w => min w i, ⟨?_, .inr ⟨hne, P.length + 1, by omega, rfl, ?_⟩⟩, fun w hw => by show O.length ≤ min w i; omega, ⟨fun w => ⟨by show min w i ≤ w; omega, fun _ => by show min w i < P.length; omega⟩, fun k o hk hne => by
      rw [List.getElem?_append_left (by rw [List.length_set]; exact lt_of_get hk), List.getElem?_set_ne (fun e => hne (by rw [e]))]; exact hk, by rw [hlen]⟩, fun w => ?_⟩
    · exact (h.pre.set .dead h2).trans (Pre.app _ _)
    · rw [List.getElem?_append_right (by simp)]
      simp
    · unfold aAppend
      simp only [hz, hz1, aApp, alen]
      have q1 : ¬ (1 : Nat) = 0 := by decide
      have q2 : (A.length + 1) * by' ≤ 140737488355328 ∧ A.length + 1 ≤ 9223372036854775807 := ⟨hl, by omega⟩
      have q3 : ¬ (none : Option Nat) = some A.length := by simp
      have q4 : (⟨P ++ [AObj.cells e (f x)], b, w⟩ : Heap).base ≤ i ∧ rowIs ⟨P ++ [AObj.cells e (f x)], b, w⟩ i e = true := ⟨by show b ≤ i; omega, hr w⟩
      simp only [eq_false q1, eq_true q2, eq_false q3, eq_true q4, if_false, if_true]
      simp only [Heap.push, Heap.put, Heap.size, List.set_append_left _ _ hi, List.length_set, hs, he, hlen, List.append_assoc, List.cons_append, List.nil_append]
theorem idsL_none {L : List AVal} (h : ∀ x ∈ L, x.ids = []) : AVal.idsL L = [] := by
  rw [idsL_flat, List.flatMap_eq_nil_iff]; exact h
theorem Acc.fin (h : Acc e f O A P v) (hi : ∀ x, AVal.idsL (f x) = []) (hr : ∀ g x, AVal.renL g (f x) = f x) {w0 W : Nat} (hW : O.length ≤ W) : finish ⟨O, b, w0⟩ v ⟨P, b, W⟩ = (newV O.length A, ⟨newO e f O A, b, w0⟩) := by
  have hia : AVal.idsL (A.flatMap f) = [] := by
    refine idsL_none fun y hy => ?_
    obtain ⟨x, hx, hy⟩ := List.mem_flatMap.1 hy
    have := hi x
    rw [idsL_flat, List.flatMap_eq_nil_iff] at this
    exact this y hy
  have hra : ∀ g, AVal.renL g (A.flatMap f) = A.flatMap f := fun g => by
    have : ∀ L : List α, AVal.renL g (L.flatMap f) = L.flatMap f := fun L => by
      induction L with
      | nil => rfl
      | cons x L ih => rw [List.flatMap_cons, renL_app, hr, ih]
    exact this A
  have hw2 : (⟨O, b, w0⟩ : Heap).size ≤ (⟨P, b, W⟩ : Heap).wmin := hW
  rcases h.val with ⟨rfl, rfl⟩ | ⟨h1, i, h2, rfl, h4⟩
  · have hw3 : ¬ W < O.length := by omega
    simp [finish, newV, newO, Heap.size, hw3, AVal.under]
  · have hv : AVal.under (⟨O, b, w0⟩ : Heap).size (.slice (some (i, 0)) A.length none) = false := by
      have : ¬ i < O.length := by omega
      simp [AVal.under, Heap.size, this]
    have hg : (⟨P, b, W⟩ : Heap).get i = some (.cells e (A.flatMap f)) := h4
    have hreach : reach ⟨P, b, W⟩ (⟨O, b, w0⟩ : Heap).size 1000 (AVal.slice (some (i, 0)) A.length none).ids [] = [i] := by
      simp only [AVal.ids]
      rw [reach, if_neg (by show ¬ i < O.length; omega), if_neg (by simp), hg]
      simp only [Option.map_some, Option.getD_some, AObj.ids, hia, List.nil_append]
      rfl
    refine (finish_keep hw2 hv hreach fun j hj => ?_).trans ?_
    · simp only [AVal.ids, List.flatMap_cons, List.flatMap_nil, hg, Option.map_some, Option.getD_some, AObj.ids, hia, List.append_nil, List.mem_cons, List.not_mem_nil, or_false] at hj
      subst hj
      exact .inr (List.mem_singleton_self _)
    · have key : ∀ g : Nat → Nat, g i = O.length → ((AVal.slice (some (i, 0)) A.length none).ren g, (⟨O ++ [AObj.cells e (A.flatMap f)], b, w0⟩ : Heap)) = (newV O.length A, ⟨newO e f O A, b, w0⟩) := fun g hg' => by
        unfold newV newO
        rw [if_neg h1, if_neg h1]
        simp only [AVal.ren, hg']
      simp only [Heap.size, List.map_cons, List.map_nil, hg, Option.map_some, Option.getD_some, AObj.ren, hra]
      exact key _ ((if_neg (show ¬ i < O.length by omega)).trans (by simp [idxIn]))
theorem Acc.new (hp : Pre O P) : Acc e f O A (newO e f P A) (newV P.length A) := by
  refine ⟨hp.trans newO_pre, ?_⟩
  unfold newO newV
  by_cases h : A = []
  · exact .inl ⟨h, by rw [if_pos h]⟩
  · exact .inr ⟨h, P.length, hp.len, by rw [if_neg h], by rw [if_neg h, get_k0]; rfl⟩
theorem Acc.back {A B : List α} {P P' : List AObj} {v v' : AVal} {j W w : Nat} (hne : A ≠ []) (h : Acc e f O A P v) (h' : Acc e f O (A ++ B) P' v') (hW : O.length ≤ W ∧ W ≤ P.length ∧ (j = 0 → P' = P ∧ v' = v ∧ W = P.length) ∧ (A ≠ [] → 0 < j → W < P.length)) (hw : O.length ≤ w) :
    ∃ w2, O.length ≤ w2 ∧ finish ⟨P, b, w⟩ v' ⟨P', b, W⟩ = (v', ⟨P', b, w2⟩) := by
  obtain ⟨h1, h2, h3, h4⟩ := hW
  rcases Nat.eq_zero_or_pos j with hz | hz
  · obtain ⟨e1, e2, e3⟩ := h3 hz
    subst e1 e2 e3
    refine ⟨w, hw, ?_⟩
    obtain ⟨i, hi, rfl, hi2⟩ : ∃ i, O.length ≤ i ∧ v' = .slice (some (i, 0)) A.length none ∧ P'[i]? = some (.cells e (A.flatMap f)) := by
      rcases h.val with ⟨h5, _⟩ | ⟨_, i, h5, h6, h7⟩
      · exact absurd h5 hne
      · exact ⟨i, h5, h6, h7⟩
    have hl := lt_of_get hi2
    have hq : ¬ P'.length < P'.length := by omega
    simp [finish, Heap.size, AVal.under, hl]
  · have hlt := h4 hne hz
    refine ⟨min w W, by omega, ?_⟩
    have : W < P.length := hlt
    simp [finish, Heap.size, this]
theorem Acc.row (h : Acc e f O A P v) (hf : ∀ y, (f y).length = e) : ∃ p c, v = .slice p A.length c ∧ Row P e f A p := by
  rcases h.val with ⟨rfl, rfl⟩ | ⟨_, i, _, rfl, hi⟩
  · exact ⟨_, _, rfl, ⟨fun h => absurd rfl h⟩⟩
  · exact ⟨_, _, rfl, Row.mk0 hf hi⟩
end Go.Abs

/-
  Layer 33, list: digits.
-/
namespace Go.Abs.AbsList
set_option maxRecDepth 100000
set_option linter.unusedSimpArgs false
variable {os O : List AObj} {b w : Nat}
theorem s430 {h : Heap} : xCall T 430 [] h = some (.bool true, h) := closed_run (f := code430) t430 rfl 60 rfl rfl (h' := ⟨[], 0, 0⟩) (by kernel_rfl) h
theorem quo10 (n : Int) : n.tdiv 10 = if n < 0 then -((n.natAbs / 10 : Nat) : Int) else ((n.toNat / 10 : Nat) : Int) := by
  split
  · rename_i h
    have : n = -(n.natAbs : Int) := by omega
    rw [this, Int.neg_tdiv, Int.tdiv_eq_ediv_of_nonneg (by omega)]
    omega
  · rw [Int.tdiv_eq_ediv_of_nonneg (by omega)]; omega
theorem rem10 (n : Int) : n.tmod 10 = if n < 0 then -((n.natAbs % 10 : Nat) : Int) else ((n.toNat % 10 : Nat) : Int) := by
  split
  · rename_i h
    have : n = -(n.natAbs : Int) := by omega
    rw [this, Int.neg_tmod, Int.tmod_eq_emod_of_nonneg (by omega)]
    omega
  · rw [Int.tmod_eq_emod_of_nonneg (by omega)]; omega
theorem digB {x : Int} {d : Nat} (hx : x = 48 + (d : Int)) (h : d < 10) : bytesOf [AVal.int .u8 (IntKind.u8.wrap x)] = some [UInt8.ofNat (48 + d)] := by
  have e : IntKind.u8.wrap x = ((48 + d : Nat) : Int) := by
    subst hx
    simp only [IntKind.wrap, IntKind.bits, IntKind.signed]
    simp
    omega
  rw [e]
  simp only [bytesOf, Option.map_some, Int.toNat_natCast]
theorem itoa_len {n : Int} (h0 : -9223372036854775808 ≤ n) (h1 : n ≤ 9223372036854775807) : (Go.Lib.itoa n).length ≤ 20 := by
  unfold Go.Lib.itoa
  split
  · have := decDigits_len n.natAbs (by omega)
    simp; omega
  · have := decDigits_len n.toNat (by omega)
    omega
theorem s446 (hb : b ≤ O.length) : ∀ (m : Nat) (n : Int) (w : Nat), n.natAbs ≤ m → -9223372036854775808 ≤ n → n ≤ 9223372036854775807 → xCall T 446 [.int .i64 n] ⟨O, b, w⟩ = some (.str (Go.Lib.itoa n), ⟨O, b, w⟩) := by
  intro m
  induction m with
  | zero =>
    intro n w h _ _
    obtain rfl : n = 0 := by omega
    have hB := digB (x := 48) (d := 0) rfl (by decide)
    have e : Go.Lib.itoa 0 = [48] := by unfold Go.Lib.itoa; rw [if_neg (by decide)]; exact Go.Lib.decDigits_one (by decide)
    simp (disch := omega) [-getElem?_pos, -getElem?_neg, -List.all_eq_true, gz, gs, nltT, nltF, iltT, iltF, ileT, nleT, wrapI, xCallK t446, code446, hB, e]
  | succ m ih =>
    intro n w h h0 h1
    by_cases c : n < 0
    · by_cases c2 : n > -10
      · have hB := digB (x := 48 - n) (d := n.natAbs) (by omega) (by omega)
        have e : Go.Lib.itoa n = [45, UInt8.ofNat (48 + n.natAbs)] := by unfold Go.Lib.itoa; rw [if_pos c, Go.Lib.decDigits_one (by omega)]
        simp (disch := omega) [-getElem?_pos, -getElem?_neg, -List.all_eq_true, gz, gs, nltT, nltF, iltT, iltF, ileT, nleT, wrapI, xCallK t446, code446, c, c2, hB, e]
      · have hB := digB (x := 48 - n.tmod 10) (d := n.natAbs % 10) (by rw [rem10, if_pos c]; omega) (by omega)
        have hq := quo10 n
        rw [if_pos c] at hq
        have e : Go.Lib.itoa n = Go.Lib.itoa (n.tdiv 10) ++ [UInt8.ofNat (48 + n.natAbs % 10)] := by
          unfold Go.Lib.itoa; rw [if_pos c, hq, if_pos (by omega), decDigits_step _ (by omega)]
          rw [show (-((n.natAbs / 10 : Nat) : Int)).natAbs = n.natAbs / 10 by omega]; rfl
        have hi := fun w => ih (n.tdiv 10) w (by rw [hq]; omega) (by rw [hq]; omega) (by rw [hq]; omega)
        have hr : -9 ≤ n.tmod 10 ∧ n.tmod 10 ≤ 0 := by rw [rem10, if_pos c]; omega
        have hq1 : -9223372036854775808 ≤ n.tdiv 10 ∧ n.tdiv 10 ≤ 9223372036854775807 := by rw [hq]; omega
        have hl := itoa_len hq1.1 hq1.2
        have hl : (Go.Lib.itoa (n.tdiv 10)).length ≤ 9223372036854775806 := by omega
        clear hq
        rw [xCallK t446]
        simp (maxSteps := 3000000) (disch := omega) [-getElem?_pos, -getElem?_neg, -List.all_eq_true, gz, gs, nltT, nltF, iltT, iltF, ileT, nleT, wrapI, Nat.testBit_eq_decide_div_mod_eq, benign, again, AVal.eqb, -sget, sgetN, sgetH, sgetT, code446, c, c2, hB, e, hi, hl]
    · by_cases c2 : n < 10
      · have hB := digB (x := 48 + n) (d := n.toNat) (by omega) (by omega)
        have e : Go.Lib.itoa n = [UInt8.ofNat (48 + n.toNat)] := by unfold Go.Lib.itoa; rw [if_neg c, Go.Lib.decDigits_one (by omega)]
        simp (disch := omega) [-getElem?_pos, -getElem?_neg, -List.all_eq_true, gz, gs, nltT, nltF, iltT, iltF, ileT, nleT, wrapI, xCallK t446, code446, c, c2, hB, e]
      · have hB := digB (x := 48 + n.tmod 10) (d := n.toNat % 10) (by rw [rem10, if_neg c]) (by omega)
        have hq := quo10 n
        rw [if_neg c] at hq
        have e : Go.Lib.itoa n = Go.Lib.itoa (n.tdiv 10) ++ [UInt8.ofNat (48 + n.toNat % 10)] := by
          unfold Go.Lib.itoa; rw [if_neg c, hq, if_neg (by omega), decDigits_step _ (by omega), Int.toNat_natCast]
        have hi := fun w => ih (n.tdiv 10) w (by rw [hq]; omega) (by rw [hq]; omega) (by rw [hq]; omega)
        have hr : 0 ≤ n.tmod 10 ∧ n.tmod 10 ≤ 9 := by rw [rem10, if_neg c]; omega
        have hq1 : -9223372036854775808 ≤ n.tdiv 10 ∧ n.tdiv 10 ≤ 9223372036854775807 := by rw [hq]; omega
        have hl := itoa_len hq1.1 hq1.2
        have hl : (Go.Lib.itoa (n.tdiv 10)).length ≤ 9223372036854775806 := by omega
        clear hq
        rw [xCallK t446]
        simp (maxSteps := 3000000) (disch := omega) [-getElem?_pos, -getElem?_neg, -List.all_eq_true, gz, gs, nltT, nltF, iltT, iltF, ileT, nleT, wrapI, Nat.testBit_eq_decide_div_mod_eq, benign, again, AVal.eqb, -sget, sgetN, sgetH, sgetT, code446, c, c2, hB, e, hi, hl]
end Go.Abs.AbsList

/-
  list.widths, run by the machine.
-/
namespace Go.Abs.AbsWid
open Go.Abs.AbsList
set_option maxRecDepth 100000
set_option linter.unusedSimpArgs false
variable {os O : List AObj} {b w : Nat}
def natC (n : Nat) : List AVal := [.int .i64 n]
theorem natC_len (n : Nat) : (natC n).length = 1 := rfl
theorem idsN (n : Nat) : AVal.idsL (natC n) = [] := rfl
theorem renN (g : Nat → Nat) (n : Nat) : AVal.renL g (natC n) = natC n := rfl
theorem cell1 {α : Type} {f : α → List AVal} {L : List α} {a : Option (Nat × Nat)} {i : Nat} {x : α} {u : AVal} (h : Row O 1 f L a) (hx : L[i]? = some x) (hf : f x = [u]) : ∃ p o cs, a = some (p, o) ∧ O[p]? = some (.cells 1 cs) ∧ cs[o + i]? = some u := by
  obtain ⟨p, o, cs, h1, h2, h3⟩ := h.at' (ne_of_get hx)
  obtain ⟨h4, h5⟩ := h3 i x hx
  refine ⟨p, o, cs, h1, h2, ?_⟩
  rw [hf, Nat.mul_one] at h5
  have := congrArg (fun l => l[0]?) h5
  simpa [List.getElem?_take, List.getElem?_drop] using this
structure TRow where
  l : List Str
  a : Option (Nat × Nat)
  c : Option Nat
def TRow.cells (x : TRow) : List AVal := [.slice x.a x.l.length x.c]
structure TRow.ok (O : List AObj) (x : TRow) : Prop where
  r : Row O 1 strC x.l x.a
  n : x.l.length ≤ 20
  s : ∀ s ∈ x.l, s.length ≤ 60
theorem TRow.ok.pre {P : List AObj} {x : TRow} (h : x.ok O) (hp : Pre O P) : x.ok P := { r := hp.row h.r, n := h.n, s := h.s }
theorem flat_nat (A : List Nat) : A.flatMap natC = A.map (fun n : Nat => AVal.int .i64 (n : Int)) := by
  induction A with
  | nil => rfl
  | cons x A ih => rw [List.flatMap_cons, ih]; rfl
theorem splice_nat {A : List Nat} {i m : Nat} (hi : i < A.length) : splice (A.flatMap natC) i [.int .i64 m] = (A.set i m).flatMap natC := by
  rw [flat_nat, flat_nat]
  unfold splice
  rw [List.map_set, List.set_eq_take_append_cons_drop, if_pos (by simpa using hi)]
  simp
theorem Acc.put {A : List Nat} {P : List AObj} {q n : Nat} {c : Option Nat} (h : Acc 1 natC O A P (.slice (some (q, 0)) n c)) {i m : Nat} (hi : i < A.length) : Acc 1 natC O (A.set i m) (P.set q (.cells 1 ((A.set i m).flatMap natC))) (.slice (some (q, 0)) n c) := by
  rcases h.val with ⟨rfl, _⟩ | ⟨h1, j, h2, h3, h4⟩
  · simp at hi
  · cases h3
    refine ⟨h.pre.set _ h2, .inr ⟨fun e => h1 (by simpa using congrArg List.length e), q, h2, by simp, ?_⟩⟩
    rw [List.getElem?_set_self (lt_of_get h4)]
theorem take_next {α : Type} {l : List α} {i : Nat} {x : α} (h : l[i]? = some x) : l.take (i + 1) = l.take i ++ [x] := by
  rw [List.take_add_one, h]; rfl
theorem updW_app : ∀ (ws : List Nat) (l : List Str) (c : Str), updW ws (l ++ [c]) = if l.length < ws.length then (updW ws l).set l.length (max ((updW ws l).getD l.length 0) c.length) else updW ws l ++ [c.length]
  | [], [], c => rfl
  | w :: ws, [], c => by simp [updW]
  | [], x :: l, c => by
    have := updW_app [] l c
    simp only [List.length_nil, Nat.not_lt_zero, if_false] at this
    simp [updW, this]
  | w :: ws, x :: l, c => by
    have := updW_app ws l c
    simp only [List.cons_append, updW, this, List.length_cons, Nat.add_lt_add_iff_right]
    split <;> simp
theorem updW_length : ∀ (ws : List Nat) (l : List Str), (updW ws l).length = max ws.length l.length
  | ws, [] => by simp [updW]
  | [], c :: l => by simp [updW, updW_length [] l]
  | w :: ws, c :: l => by simp [updW, updW_length ws l]
theorem l442a {x : TRow} (hx : x.ok O) (hb : b ≤ O.length) {ws : List Nat} (hws : ws.length ≤ 20) {x8 x9 x10 : AVal} : ∀ (j i w : Nat) (P : List AObj) (v : AVal), i + j = x.l.length → O.length ≤ w → Acc 1 natC O (updW ws (x.l.take i)) P v →
    ∃ P' v', ∃ W : Nat, Acc 1 natC O (updW ws x.l) P' v' ∧ O.length ≤ W ∧ ∀ (k : AExit → St → Option (AVal × Heap)),
    xK T (.loop code442L0) ⟨[(3, .val v), (8, .val x8), (9, .val x9), (10, .val x10), (14, .val (.slice x.a x.l.length x.c)), (15, .val (.int .i64 x.l.length)), (16, .val (.int .i64 i))], ⟨P, b, w⟩⟩ (k := ⟨k⟩) = k (.exit 2) ⟨[(3, .val v'), (8, .val x8), (9, .val x9), (10, .val x10)], ⟨P', b, W⟩⟩
  | 0, i, w, P, v, hi, hw, h => by
    refine ⟨P, v, w, ?_, hw, fun k => ?_⟩
    · rw [List.take_of_length_le (by omega)] at h; exact h
    · rw [xK_loop]
      simp (disch := omega) [-getElem?_pos, -getElem?_neg, -List.all_eq_true, gz, gs, nltT, nltF, iltT, iltF, ileT, nleT, wrapI, code442L0]
  | j + 1, i, w, P, v, hi, hw, h => by
    obtain ⟨s, hs⟩ : ∃ s, x.l[i]? = some s := ⟨_, List.getElem?_eq_getElem (by omega)⟩
    obtain ⟨p, o, cs, ha, hp, hv⟩ := cell1 (h.pre.row hx.r) hs rfl
    have hxn := hx.n
    have hs60 := hx.s s (List.mem_of_getElem? hs)
    have e2 : ((i + 1 : Nat) : Int) = (i : Int) + 1 := by omega
    have hlen := updW_length ws (x.l.take i)
    have hti : (x.l.take i).length = i := by rw [List.length_take]; omega
    rw [hti] at hlen
    have hnext := updW_app ws (x.l.take i) s
    rw [← take_next hs, hti] at hnext
    by_cases hc : i < ws.length
    · rw [if_pos hc] at hnext
      have hne : ¬ (i : Int) = (updW ws (x.l.take i)).length := by omega
      have hiA : i < (updW ws (x.l.take i)).length := by omega
      generalize updW ws (x.l.take i) = A at *
      obtain ⟨q, c, rfl, hq, hqp⟩ : ∃ q c, v = .slice (some (q, 0)) A.length c ∧ P[q]? = some (.cells 1 (A.flatMap natC)) ∧ O.length ≤ q := by
        rcases h.val with ⟨rfl, _⟩ | ⟨_, q, h2, rfl, h4⟩
        · simp at hiA
        · exact ⟨q, _, rfl, h4, h2⟩
      obtain ⟨m0, hm0⟩ : ∃ m, A[i]? = some m := ⟨_, List.getElem?_eq_getElem hiA⟩
      have hm1 : A.getD i 0 = m0 := by rw [List.getD_eq_getElem?_getD, hm0]; rfl
      rw [hm1] at hnext
      have hput := Acc.put h (m := max m0 s.length) hiA
      rw [← hnext] at hput
      obtain ⟨P', v', W, i1, i2, i3⟩ := l442a (x8 := x8) (x9 := x9) (x10 := x10) hx hb hws j (i + 1) (min w q) _ _ (by omega) (by omega) hput
      refine ⟨P', v', W, i1, i2, fun k => ?_⟩
      have ih := i3 k
      have hcell : (A.flatMap natC)[i]? = some (.int .i64 m0) := by rw [flat_nat, List.getElem?_map, hm0]; rfl
      have hsp := splice_nat (m := max m0 s.length) hiA
      rw [← hnext] at hsp
      have hmx : ((max m0 s.length : Nat) : Int) = if m0 < s.length then (s.length : Int) else (m0 : Int) := by split <;> omega
      unfold splice at hsp
      rw [hmx] at hsp
      simp only [List.length_cons, List.length_nil, Nat.zero_add, List.append_assoc, List.cons_append, List.nil_append] at hsp
      have hsz : (A.flatMap natC).length = A.length := by rw [flat_nat, List.length_map]
      rw [e2, ha] at ih
      rw [xK_loop, ha]
      generalize ACode.loop code442L0 = LL at ih ⊢
      simp (disch := omega) [-getElem?_pos, -getElem?_neg, -List.all_eq_true, gz, gs, nltT, nltF, iltT, iltF, ileT, nleT, wrapI, -aAppend, code442L0, hp, hv, hq, hne, hcell, hsp, hsz, ih]
    · rw [if_neg hc] at hnext
      have hiA : i = (updW ws (x.l.take i)).length := by omega
      generalize updW ws (x.l.take i) = A at *
      have hA20 : A.length ≤ 40 := by omega
      obtain ⟨P1, v1, n1, h1, hn1, ⟨hnx, _, rfl⟩, e1⟩ := h.add (b := b) natC_len hb (by' := 8) (by omega) (by omega) 0
      have hz : natC 0 = [.int .i64 0] := rfl
      rw [hz] at e1
      obtain ⟨p0, c0, rfl⟩ := h.shape
      have hq1 : P1[P.length + 1]? = some (.cells 1 ((A ++ [0]).flatMap natC)) ∧ O.length ≤ P.length + 1 := by
        rcases h1.val with ⟨e, _⟩ | ⟨_, q, h2, h3, h4⟩
        · simp at e
        · have e : P.length + 1 = q := by
            injection h3 with e
            injection e with e
            injection e
          subst e
          exact ⟨h4, h2⟩
      have hset : (A ++ [0]).set i s.length = updW ws (x.l.take (i + 1)) := by rw [hnext, hiA]; simp
      have hput := Acc.put h1 (i := i) (m := s.length) (by simp; omega)
      rw [hset] at hput
      have hw1 := hn1 w hw
      obtain ⟨P', v', W, i1, i2, i3⟩ := l442a (x8 := x8) (x9 := x9) (x10 := x10) hx hb hws j (i + 1) (min (n1 w) (P.length + 1)) _ _ (by omega) (by omega) hput
      refine ⟨P', v', W, i1, i2, fun k => ?_⟩
      have ih := i3 k
      have hcell : ((A ++ [0]).flatMap natC)[i]? = some (.int .i64 0) := by rw [flat_nat, List.getElem?_map, hiA]; simp
      have hsp := splice_nat (A := A ++ [0]) (i := i) (m := s.length) (by simp; omega)
      rw [hset] at hsp
      unfold splice at hsp
      simp only [List.length_cons, List.length_nil, Nat.zero_add, List.append_assoc, List.cons_append, List.nil_append] at hsp
      have hsz : ((A ++ [0]).flatMap natC).length = A.length + 1 := by rw [flat_nat, List.length_map]; simp
      have hmx : (if 0 < s.length then (s.length : Int) else (0 : Int)) = (s.length : Int) := by split <;> omega
      have hq0 := hq1.1
      have hie : (i : Int) = (A.length : Int) := by omega
      generalize (A ++ [0]).flatMap natC = F at *
      rw [e2, ha] at ih
      rw [xK_loop, ha]
      generalize ACode.loop code442L0 = LL at ih ⊢
      simp (disch := omega) [-getElem?_pos, -getElem?_neg, -List.all_eq_true, gz, gs, nltT, nltF, iltT, iltF, ileT, nleT, wrapI, -aAppend, code442L0, hp, hv, hq0, eq_true hie, hcell, hsp, hsz, e1, hmx, ih]
theorem l442b {L : List TRow} {la : Option (Nat × Nat)} {lc : Option Nat} (hL : Row O 1 TRow.cells L la) (hx : ∀ x ∈ L, x.ok O) (hb : b ≤ O.length) (hn : L.length ≤ 20) : ∀ (j i w : Nat) (ws : List Nat) (P : List AObj) (v : AVal), i + j = L.length → ws.length ≤ 20 → O.length ≤ w → Acc 1 natC O ws P v →
    ∃ P' v', ∃ W : Nat, Acc 1 natC O (((L.drop i).map TRow.l).foldl updW ws) P' v' ∧ O.length ≤ W ∧ ∀ (k : AExit → St → Option (AVal × Heap)),
    xK T (.loop code442L1) ⟨[(3, .val v), (8, .val (.slice la L.length lc)), (9, .val (.int .i64 L.length)), (10, .val (.int .i64 i))], ⟨P, b, w⟩⟩ (k := ⟨k⟩) = k (.exit 0) ⟨[(3, .val v')], ⟨P', b, W⟩⟩
  | 0, i, w, ws, P, v, hi, hws, hw, h => by
    refine ⟨P, v, w, ?_, hw, fun k => ?_⟩
    · rw [List.drop_of_length_le (by omega)]; exact h
    · rw [xK_loop]
      simp (disch := omega) [-getElem?_pos, -getElem?_neg, -List.all_eq_true, gz, gs, nltT, nltF, iltT, iltF, ileT, nleT, wrapI, code442L1]
  | j + 1, i, w, ws, P, v, hi, hws, hw, h => by
    obtain ⟨x, hxi⟩ : ∃ x, L[i]? = some x := ⟨_, List.getElem?_eq_getElem (by omega)⟩
    have hxo := hx x (List.mem_of_getElem? hxi)
    obtain ⟨p, o, cs, ha, hp, hv⟩ := cell1 (h.pre.row hL) hxi rfl
    have hdx : L.drop i = x :: L.drop (i + 1) := (List.drop_eq_getElem_cons (by omega)).trans (by rw [List.getElem?_eq_getElem (by omega)] at hxi; cases hxi; rfl)
    have e2 : ((i + 1 : Nat) : Int) = (i : Int) + 1 := by omega
    obtain ⟨P1, v1, W1, i1, i2, i3⟩ := l442a (x8 := .slice la L.length lc) (x9 := .int .i64 L.length) (x10 := .int .i64 i) hxo hb hws x.l.length 0 w P v (by omega) hw (by simpa [updW] using h)
    have hl1 := updW_length ws x.l
    have hxn := hxo.n
    obtain ⟨P', v', W, j1, j2, j3⟩ := l442b (lc := lc) hL hx hb hn j (i + 1) W1 _ P1 v1 (by omega) (by omega) i2 i1
    refine ⟨P', v', W, by rw [hdx]; exact j1, j2, fun k => ?_⟩
    have ih := j3 k
    rw [e2] at ih
    subst ha
    rw [xK_loop]
    simp only [Int.cast_ofNat_Int] at i3
    generalize ACode.loop code442L1 = LL at ih ⊢
    simp (disch := omega) [-getElem?_pos, -getElem?_neg, -List.all_eq_true, gz, gs, nltT, nltF, iltT, iltF, ileT, nleT, wrapI, -aAppend, code442L1, hp, hv, i3, ih]
theorem s442 {L : List TRow} {la : Option (Nat × Nat)} {lc : Option Nat} (hL : Row O 1 TRow.cells L la) (hx : ∀ x ∈ L, x.ok O) (hb : b ≤ O.length) (hn : L.length ≤ 20) :
    xCall T 442 [.slice la L.length lc] ⟨O, b, w⟩ = some (newV O.length (widL (L.map TRow.l)), ⟨newO 1 natC O (widL (L.map TRow.l)), b, w⟩) := by
  obtain ⟨P', v', W, i1, i2, i3⟩ := l442b (lc := lc) hL hx hb hn L.length 0 O.length [] O _ (by omega) (by simp) (Nat.le_refl _) Acc.nil
  have hf := i1.fin (b := b) (w0 := w) idsN renN i2
  simp only [Int.cast_ofNat_Int, List.drop_zero] at i3 hf
  simp (disch := omega) [-getElem?_pos, -getElem?_neg, -List.all_eq_true, gz, gs, nltT, nltF, iltT, iltF, ileT, nleT, wrapI, -aAppend, -finish, xCallK t442, code442, i3, hf]
  exact ⟨rfl, rfl⟩
end Go.Abs.AbsWid

/-
  Layer 33, list: the document's table.
-/
namespace Go.Abs.AbsList
open Go.Abs.AbsWid
set_option maxRecDepth 100000
set_option linter.unusedSimpArgs false
variable {os O : List AObj} {b w : Nat}
theorem dropc {α : Type} {l : List α} {i : Nat} {x : α} (h : l[i]? = some x) : l.drop i = x :: l.drop (i + 1) := by
  have hi := lt_of_get h
  rw [List.drop_eq_getElem_cons hi]
  rw [List.getElem?_eq_getElem hi] at h
  rw [Option.some.inj h]
theorem l428 {A B : List Str} {aa ba : Option (Nat × Nat)} {ac bc : Option Nat} (hA : Row O 1 strC A aa) (hB : Row O 1 strC B ba) (hl : A.length = B.length) (hn : A.length ≤ 1000000) (hb : b ≤ O.length) (k : AExit → St → Option (AVal × Heap)) : ∀ (j i w : Nat), i + j = A.length →
    xK T (.loop code428L0) ⟨[(0, .val (.slice aa A.length ac)), (1, .val (.slice ba A.length bc)), (12, .val (.int .i64 A.length)), (13, .val (.int .i64 i))], ⟨O, b, w⟩⟩ (k := ⟨k⟩) =
    if A.drop i = B.drop i then k (.exit 0) ⟨[], ⟨O, b, w⟩⟩ else k .ret ⟨[(4, .val (.bool false))], ⟨O, b, w⟩⟩
  | 0, i, w, hi => by
    rw [List.drop_of_length_le (by omega), List.drop_of_length_le (by omega), if_pos rfl, xK_loop]
    simp (disch := omega) [-getElem?_pos, -getElem?_neg, -List.all_eq_true, gz, gs, nltT, nltF, iltT, iltF, ileT, nleT, wrapI, code428L0]
  | j + 1, i, w, hi => by
    obtain ⟨x, hx⟩ : ∃ x, A[i]? = some x := ⟨_, List.getElem?_eq_getElem (by omega)⟩
    obtain ⟨y, hy⟩ : ∃ y, B[i]? = some y := ⟨_, List.getElem?_eq_getElem (by omega)⟩
    obtain ⟨p, o, cs, rfl, hp, hv⟩ := cell1 hA hx rfl
    obtain ⟨p', o', cs', rfl, hp', hv'⟩ := cell1 hB hy rfl
    have dA : A.drop i = x :: A.drop (i + 1) := dropc hx
    have dB : B.drop i = y :: B.drop (i + 1) := dropc hy
    have e2 : ((i + 1 : Nat) : Int) = (i : Int) + 1 := by omega
    have ih := l428 (ac := ac) (bc := bc) hA hB hl hn hb k j (i + 1) w (by omega)
    rw [e2] at ih
    rw [xK_loop, dA, dB]
    generalize ACode.loop code428L0 = LL at ih ⊢
    by_cases e : x = y
    · subst e
      simp only [List.cons.injEq, true_and]
      rw [← ih]
      simp (disch := omega) [-getElem?_pos, -getElem?_neg, -List.all_eq_true, gz, gs, nltT, nltF, iltT, iltF, ileT, nleT, wrapI, Nat.testBit_eq_decide_div_mod_eq, benign, again, AVal.eqb, code428L0, hp, hp', hv, hv']
    · rw [if_neg (by simp [e])]
      simp (disch := omega) [-getElem?_pos, -getElem?_neg, -List.all_eq_true, gz, gs, nltT, nltF, iltT, iltF, ileT, nleT, wrapI, Nat.testBit_eq_decide_div_mod_eq, benign, again, AVal.eqb, code428L0, hp, hp', hv, hv', e]
theorem s428 {A B : List Str} {aa ba : Option (Nat × Nat)} {ac bc : Option Nat} (hA : Row O 1 strC A aa) (hB : Row O 1 strC B ba) (hn : A.length ≤ 1000000) (hn' : B.length ≤ 1000000) (hb : b ≤ O.length) :
    xCall T 428 [.slice aa A.length ac, .slice ba B.length bc] ⟨O, b, w⟩ = some (.bool (decide (A = B)), ⟨O, b, w⟩) := by
  by_cases hl : A.length = B.length
  · have h := fun k => l428 (ac := ac) (bc := bc) hA hB hl hn hb k A.length 0 O.length (by omega)
    simp only [List.drop_zero, Int.cast_ofNat_Int] at h
    by_cases e : A = B
    · simp only [if_pos e] at h
      rw [decide_eq_true e]
      rw [hl] at h ⊢
      simp (disch := omega) [-getElem?_pos, -getElem?_neg, -List.all_eq_true, gz, gs, nltT, nltF, iltT, iltF, ileT, nleT, wrapI, xCallK t428, code428, h]
    · simp only [if_neg e] at h
      rw [decide_eq_false e]
      rw [hl] at h ⊢
      simp (disch := omega) [-getElem?_pos, -getElem?_neg, -List.all_eq_true, gz, gs, nltT, nltF, iltT, iltF, ileT, nleT, wrapI, xCallK t428, code428, h]
  · rw [decide_eq_false fun e => hl (by rw [e])]
    have hl' : ¬ (A.length : Int) = B.length := by omega
    simp (disch := omega) [-getElem?_pos, -getElem?_neg, -List.all_eq_true, gz, gs, nltT, nltF, iltT, iltF, ileT, nleT, wrapI, xCallK t428, code428, hl', hl]
end Go.Abs.AbsList

/-
  Layer 33, list: the cells of suites and jobs.
-/
namespace Go.Abs.AbsList
open Go.Abs.AbsWid
set_option maxRecDepth 100000
set_option linter.unusedSimpArgs false
variable {os O : List AObj} {b w : Nat}
theorem s448 {n : Int} (h0 : -9223372036854775808 ≤ n) (h1 : n ≤ 9223372036854775807) {h : Heap} : xCall T 448 [.int .i64 n] h = some (.str (Go.Lib.itoa n), h) := by
  rw [xLib_eq T t448 _ _ (F := itoaA)]
  unfold itoaA
  simp only
  rw [if_pos ⟨h0, h1⟩, itoaS_eq h0 h1]
  rfl
theorem s478 {n : Int} (h0 : -9223372036854775807 ≤ n) (h1 : n ≤ 9223372036854775807) {h : Heap} : xCall T 478 [.int .i64 n] h = some (.int .i64 (-n), h) := by
  have c : ¬ n = -9223372036854775808 := by omega
  have e : IntKind.i64.wrap (0 - n) = -n := by rw [wrapI ⟨by omega, by omega⟩]; omega
  obtain ⟨O, b, w⟩ := h
  simp (disch := omega) [-getElem?_pos, -getElem?_neg, -List.all_eq_true, gz, gs, nltT, nltF, iltT, iltF, ileT, nleT, wrapI, xCallK t478, code478, c, e]
theorem s462p (hb : b ≤ O.length) : ∀ (m : Nat) (n : Nat) (w : Nat), n ≤ m → n ≤ 9223372036854775807 → xCall T 462 [.int .i64 n] ⟨O, b, w⟩ = some (.str (Go.Lib.decDigits n), ⟨O, b, w⟩) := by
  intro m
  induction m with
  | zero =>
    intro n w h _
    obtain rfl : n = 0 := by omega
    have hB := digB (x := 48) (d := 0) rfl (by decide)
    have e : Go.Lib.decDigits 0 = [48] := Go.Lib.decDigits_one (by decide)
    simp (disch := omega) [-getElem?_pos, -getElem?_neg, -List.all_eq_true, gz, gs, nltT, nltF, iltT, iltF, ileT, nleT, wrapI, xCallK t462, code462, hB, e]
  | succ m ih =>
    intro n w h h1
    by_cases c2 : n < 10
    · have hB := digB (x := 48 + n) (d := n) (by omega) (by omega)
      have e : Go.Lib.decDigits n = [UInt8.ofNat (48 + n)] := Go.Lib.decDigits_one c2
      simp (disch := omega) [-getElem?_pos, -getElem?_neg, -List.all_eq_true, gz, gs, nltT, nltF, iltT, iltF, ileT, nleT, wrapI, xCallK t462, code462, c2, hB, e]
    · have hq : (n : Int) / 10 = ((n / 10 : Nat) : Int) := by omega
      have hr : (n : Int).tmod 10 = ((n % 10 : Nat) : Int) := by rw [rem10, if_neg (by omega)]; simp
      have hi1 := fun w => ih (n / 10) w (by omega) (by omega)
      have hi2 := fun w => ih (n % 10) w (by omega) (by omega)
      have e : Go.Lib.decDigits n = Go.Lib.decDigits (n / 10) ++ Go.Lib.decDigits (n % 10) := by
        rw [decDigits_step n c2, Go.Lib.decDigits_one (i := n % 10) (by omega)]
      have hl1 := decDigits_len (n / 10) (by omega)
      have hl2 := decDigits_len (n % 10) (by omega)
      rw [e]
      have hl : (Go.Lib.decDigits (n / 10)).length + (Go.Lib.decDigits (n % 10)).length ≤ 9223372036854775807 := by omega
      have c3 : ¬ (n : Int) < 0 := by omega
      have c4 : ¬ (n : Int) < 10 := by omega
      rw [← hq] at hi1
      rw [← hr] at hi2
      have hq1 : IntKind.i64.wrap ((n : Int) / 10) = (n : Int) / 10 := wrapI ⟨by omega, by omega⟩
      clear hq hr
      rw [xCallK t462]
      simp (disch := omega) [-getElem?_pos, -getElem?_neg, -List.all_eq_true, gz, gs, nltT, nltF, iltT, iltF, ileT, nleT, wrapI, code462, c3, c4, hi1, hi2, hl, hq1]
theorem s462 {n : Int} (hb : b ≤ O.length) (h0 : -1000000 ≤ n) (h1 : n ≤ 1000000) : xCall T 462 [.int .i64 n] ⟨O, b, w⟩ = some (.str (Go.Lib.itoa n), ⟨O, b, w⟩) := by
  by_cases c : n < 0
  · have hp := fun w => s462p hb n.natAbs n.natAbs w (Nat.le_refl _) (by omega)
    have e : ((n.natAbs : Nat) : Int) = -n := by omega
    rw [e] at hp
    have hl := decDigits_len n.natAbs (by omega)
    have hl : (Go.Lib.decDigits n.natAbs).length ≤ 9223372036854775806 := by omega
    have ei : Go.Lib.itoa n = 45 :: Go.Lib.decDigits n.natAbs := by unfold Go.Lib.itoa; rw [if_pos c]
    have hn := fun h => s478 (n := n) (h := h) (by omega) (by omega)
    rw [ei, xCallK t462]
    simp (disch := omega) [-getElem?_pos, -getElem?_neg, -List.all_eq_true, gz, gs, nltT, nltF, iltT, iltF, ileT, nleT, wrapI, code462, c, hn, hp, hl]
  · have hp := s462p hb n.toNat n.toNat w (Nat.le_refl _) (by omega)
    rw [show ((n.toNat : Nat) : Int) = n by omega] at hp
    have ei : Go.Lib.itoa n = Go.Lib.decDigits n.toNat := by unfold Go.Lib.itoa; rw [if_neg c]
    rw [ei]; exact hp
def verL (a c d : Int) : Str := Go.Lib.itoa a ++ [46] ++ Go.Lib.itoa c ++ [46] ++ Go.Lib.itoa d
theorem itoa_len6 {n : Int} (h0 : -1000000 ≤ n) (h1 : n ≤ 1000000) : (Go.Lib.itoa n).length ≤ 20 := itoa_len (by omega) (by omega)
theorem s449 {x y z : Int} (hb : b ≤ O.length) (hx : -1000000 ≤ x ∧ x ≤ 1000000) (hy : -1000000 ≤ y ∧ y ≤ 1000000) (hz : -1000000 ≤ z ∧ z ≤ 1000000) :
    xCall T 449 [.agg [.int .i64 x, .int .i64 y, .int .i64 z]] ⟨O, b, w⟩ = some (.str (verL x y z), ⟨O, b, w⟩) := by
  have h1 := fun w => s462 (w := w) hb hx.1 hx.2
  have h2 := fun w => s462 (w := w) hb hy.1 hy.2
  have h3 := fun w => s462 (w := w) hb hz.1 hz.2
  have l1 := itoa_len6 hx.1 hx.2
  have l2 := itoa_len6 hy.1 hy.2
  have l3 := itoa_len6 hz.1 hz.2
  unfold verL
  generalize Go.Lib.itoa x = a at *
  generalize Go.Lib.itoa y = c at *
  generalize Go.Lib.itoa z = d at *
  have q1 : a.length ≤ 9223372036854775806 := by omega
  simp (disch := omega) [-getElem?_pos, -getElem?_neg, -List.all_eq_true, gz, gs, nltT, nltF, iltT, iltF, ileT, nleT, wrapI, Nat.testBit_eq_decide_div_mod_eq, benign, again, AVal.eqb, xCallK t449, code449, h1, h2, h3]
theorem strC_len' (t : Str) : (strC t).length = 1 := rfl
theorem acc_strs {A : List Str} {P : List AObj} {v : AVal} (h : Acc 1 strC O A P v) : ∃ a c, v = .slice a A.length c ∧ rowStrs a A.length ⟨P, b, w⟩ = some A := by
  rcases h.val with ⟨rfl, rfl⟩ | ⟨h1, i, h2, rfl, h4⟩
  · exact ⟨_, _, rfl, rfl⟩
  · refine ⟨_, _, rfl, ?_⟩
    unfold rowStrs
    rw [if_neg fun e => h1 (List.eq_nil_of_length_eq_zero e)]
    simp only [h4]
    have e : A.flatMap strC = A.map AVal.str := by
      clear h h1 h2 h4
      induction A with
      | nil => rfl
      | cons x A ih => rw [List.flatMap_cons, ih]; rfl
    rw [e, if_pos (by simp), List.drop_zero, List.take_of_length_le (by simp)]
    clear h h1 h2 h4 e
    induction A with
    | nil => rfl
    | cons x A ih => simp [strsOf, ih]
theorem s447 {x y z : Int} (hb : b ≤ O.length) (hx : -1000000 ≤ x ∧ x ≤ 1000000) (hy : -1000000 ≤ y ∧ y ≤ 1000000) (hz : -1000000 ≤ z ∧ z ≤ 1000000) :
    xCall T 447 [.agg [.int .i64 x, .int .i64 y, .int .i64 z]] ⟨O, b, w⟩ = some (.str (verL x y z), ⟨O, b, w⟩) := by
  have h1 := fun h => s448 (n := x) (h := h) (by omega) (by omega)
  have h2 := fun h => s448 (n := y) (h := h) (by omega) (by omega)
  have h3 := fun h => s448 (n := z) (h := h) (by omega) (by omega)
  have l1 := itoa_len6 hx.1 hx.2
  have l2 := itoa_len6 hy.1 hy.2
  have l3 := itoa_len6 hz.1 hz.2
  have ev : verL x y z = Go.Lib.join [Go.Lib.itoa x, Go.Lib.itoa y, Go.Lib.itoa z] [46] := by simp [verL, Go.Lib.join]
  rw [ev]
  generalize Go.Lib.itoa x = a at *
  generalize Go.Lib.itoa y = c at *
  generalize Go.Lib.itoa z = d at *
  clear ev
  obtain ⟨P1, v1, n1, a1, m1, _, e1⟩ := (Acc.nil (e := 1) (f := strC) (O := O)).add (b := b) strC_len' hb (by' := 16) (by simp) (by simp) a
  obtain ⟨P2, v2, n2, a2, m2, _, e2⟩ := a1.add (b := b) strC_len' hb (by' := 16) (by simp) (by simp) c
  obtain ⟨P3, v3, n3, a3, m3, _, e3⟩ := a2.add (b := b) strC_len' hb (by' := 16) (by simp) (by simp) d
  have k1 := m1 O.length (Nat.le_refl _)
  have k2 := m2 _ k1
  have k3 := m3 _ k2
  obtain ⟨pa, pc, rfl, hrow⟩ := acc_strs (b := b) (w := n3 (n2 (n1 O.length))) a3
  have hj : xCall T 94 [.slice pa ([] ++ [a] ++ [c] ++ [d]).length pc, .str [46]] ⟨P3, b, n3 (n2 (n1 O.length))⟩ = some (.str (Go.Lib.join [a, c, d] [46]), ⟨P3, b, n3 (n2 (n1 O.length))⟩) := by
    rw [xLib_eq T t94 _ _ (F := joinF)]
    unfold joinF
    simp only
    rw [hrow]
    simp only
    rw [if_pos]
    · rfl
    · refine ⟨by simp, ?_⟩
      simp [Go.Lib.join]
      omega
  have hs1 : strC a = [.str a] := rfl
  have hs2 : strC c = [.str c] := rfl
  have hs3 : strC d = [.str d] := rfl
  rw [hs1] at e1
  rw [hs2] at e2
  rw [hs3] at e3
  have hw : ¬ n3 (n2 (n1 O.length)) < O.length := by omega
  generalize ([] ++ [a] ++ [c] ++ [d]).length = N at *
  simp (disch := omega) [-getElem?_pos, -getElem?_neg, -List.all_eq_true, gz, gs, nltT, nltF, iltT, iltF, ileT, nleT, wrapI, -aAppend, xCallK t447, code447, xK_loop, code447L0, h1, h2, h3, e1, e2, e3, hj, hw]
end Go.Abs.AbsList

/-
  Layer 33, list: the law ListCells.
-/
namespace Go.Abs.AbsList
open Go.Abs.AbsWid
set_option maxRecDepth 100000
set_option linter.unusedSimpArgs false
variable {os O : List AObj} {b w : Nat}
structure JadU where
  name : Str
  x : Int
  y : Int
  z : Int
  main : Str
  size : Int
  hash : List Int
def JadU.cells (j : JadU) : List AVal := .str j.name :: .int .i64 j.x :: .int .i64 j.y :: .int .i64 j.z :: .str j.main :: .int .i64 j.size :: j.hash.map (AVal.int .u8)
structure JadU.ok (j : JadU) : Prop where
  hash : j.hash.length = 32
  size : -9223372036854775808 ≤ j.size ∧ j.size ≤ 9223372036854775807
structure JadU.few (j : JadU) : Prop where
  x : -1000000 ≤ j.x ∧ j.x ≤ 1000000
  y : -1000000 ≤ j.y ∧ j.y ≤ 1000000
  z : -1000000 ≤ j.z ∧ j.z ≤ 1000000
def suiteL (j : JadU) : List Str := [j.name, verL j.x j.y j.z, j.main, Go.Lib.itoa j.size]
theorem ids_strs : ∀ L : List Str, AVal.idsL (L.flatMap strC) = []
  | [] => rfl
  | x :: L => by
    rw [List.flatMap_cons, idsL_app, ids_strs L]; rfl
theorem ren_strs (g : Nat → Nat) : ∀ L : List Str, AVal.renL g (L.flatMap strC) = L.flatMap strC
  | [] => rfl
  | x :: L => by
    rw [List.flatMap_cons, renL_app, ren_strs g L]; rfl
theorem fin_row {A : List Str} {n : Nat} {c : Option Nat} {W : Nat} (hW : O.length ≤ W) : finish ⟨O, b, w⟩ (.slice (some (O.length, 0)) n c) ⟨O ++ [.cells 1 (A.flatMap strC)], b, W⟩ = (.slice (some (O.length, 0)) n c, ⟨O ++ [.cells 1 (A.flatMap strC)], b, w⟩) := by
  have hw2 : (⟨O, b, w⟩ : Heap).size ≤ (⟨O ++ [.cells 1 (A.flatMap strC)], b, W⟩ : Heap).wmin := hW
  have hv : AVal.under (⟨O, b, w⟩ : Heap).size (.slice (some (O.length, 0)) n c) = false := by simp [AVal.under, Heap.size]
  have hg : (⟨O ++ [.cells 1 (A.flatMap strC)], b, W⟩ : Heap).get O.length = some (.cells 1 (A.flatMap strC)) := by show (O ++ _)[O.length]? = _; simp
  have hreach : reach ⟨O ++ [.cells 1 (A.flatMap strC)], b, W⟩ (⟨O, b, w⟩ : Heap).size 1000 (AVal.slice (some (O.length, 0)) n c).ids [] = [O.length] := by
    simp only [AVal.ids]
    rw [reach, if_neg (by show ¬ O.length < O.length; omega), if_neg (by simp), hg]
    simp only [Option.map_some, Option.getD_some, AObj.ids, ids_strs, List.nil_append]
    rfl
  refine (finish_keep hw2 hv hreach fun j hj => ?_).trans ?_
  · simp only [AVal.ids, List.flatMap_cons, List.flatMap_nil, hg, Option.map_some, Option.getD_some, AObj.ids, ids_strs, List.append_nil, List.mem_cons, List.not_mem_nil, or_false] at hj
    subst hj
    exact .inr (List.mem_singleton_self _)
  · have key : ∀ g : Nat → Nat, g O.length = O.length → ((AVal.slice (some (O.length, 0)) n c).ren g, (⟨O ++ [AObj.cells 1 (A.flatMap strC)], b, w⟩ : Heap)) = (AVal.slice (some (O.length, 0)) n c, ⟨O ++ [AObj.cells 1 (A.flatMap strC)], b, w⟩) := fun g hg' => by
      simp only [AVal.ren, hg']
    simp only [Heap.size, List.map_cons, List.map_nil, hg, Option.map_some, Option.getD_some, AObj.ren, ren_strs]
    exact key _ ((if_neg (show ¬ O.length < O.length by omega)).trans (by simp [idxIn]))
def jobL (j : JadU) (have' size : Int) : List Str := [j.name, verL j.x j.y j.z, [106, 111, 98], Go.Lib.itoa have' ++ [47] ++ Go.Lib.itoa size]
theorem s100434 {j : JadU} (hj : j.ok) (hf : j.few) (hb : b ≤ O.length) : xCall T 100434 [.agg j.cells] ⟨O, b, w⟩ = some (.slice (some (O.length, 0)) 4 (some 4), ⟨O ++ [.cells 1 ((suiteL j).flatMap strC)], b, w⟩) := by
  have h1 := fun w => s447 (O := O) (b := b) (w := w) hb hf.x hf.y hf.z
  have h2 := fun h => s448 (h := h) hj.size.1 hj.size.2
  have hc : j.cells = .str j.name :: .int .i64 j.x :: .int .i64 j.y :: .int .i64 j.z :: .str j.main :: .int .i64 j.size :: j.hash.map (AVal.int .u8) := rfl
  have hh := hj.hash
  unfold suiteL
  generalize verL j.x j.y j.z = V at *
  generalize Go.Lib.itoa j.size = S at *
  have hfin := fin_row (O := O) (b := b) (w := w) (A := [j.name, V, j.main, S]) (n := 4) (c := some 4) (W := O.length) (Nat.le_refl _)
  simp only [List.flatMap_cons, List.flatMap_nil, strC, List.cons_append, List.nil_append] at hfin
  simp (disch := omega) [-getElem?_pos, -getElem?_neg, -List.all_eq_true, gz, gs, nltT, nltF, iltT, iltF, ileT, nleT, wrapI, -finish, Nat.testBit_eq_decide_div_mod_eq, benign, again, AVal.eqb, xCallK t100434, code100434, hc, h1, h2, hh, strC, hfin]
theorem s435 {j : JadU} (hj : j.ok) (hf : j.few) (hb : b ≤ O.length) : xCall T 435 [.agg j.cells] ⟨O, b, w⟩ = some (.slice (some (O.length, 0)) 4 (some 4), ⟨O ++ [.cells 1 ((suiteL j).flatMap strC)], b, w⟩) := by
  have h1 := fun w => s449 (O := O) (b := b) (w := w) hb hf.x hf.y hf.z
  have h2 := fun w => s446 (O := O) (b := b) hb j.size.natAbs j.size w (Nat.le_refl _) hj.size.1 hj.size.2
  have hc : j.cells = .str j.name :: .int .i64 j.x :: .int .i64 j.y :: .int .i64 j.z :: .str j.main :: .int .i64 j.size :: j.hash.map (AVal.int .u8) := rfl
  have hh := hj.hash
  unfold suiteL
  generalize verL j.x j.y j.z = V at *
  generalize Go.Lib.itoa j.size = S at *
  have hfin := fin_row (O := O) (b := b) (w := w) (A := [j.name, V, j.main, S]) (n := 4) (c := some 4) (W := O.length) (Nat.le_refl _)
  simp only [List.flatMap_cons, List.flatMap_nil, strC, List.cons_append, List.nil_append] at hfin
  simp (disch := omega) [-getElem?_pos, -getElem?_neg, -List.all_eq_true, gz, gs, nltT, nltF, iltT, iltF, ileT, nleT, wrapI, -finish, Nat.testBit_eq_decide_div_mod_eq, benign, again, AVal.eqb, xCallK t435, code435, hc, h1, h2, hh, strC, hfin]
theorem s100436 {j : JadU} {x0 x1 : Int} {ha : Option (Nat × Nat)} {hn : Nat} {hc0 : Option Nat} (hj : j.ok) (hf : j.few) (hx : -9223372036854775808 ≤ x0 ∧ x0 ≤ 9223372036854775807) (hhn : hn ≤ 2000) (hb : b ≤ O.length) :
    xCall T 100436 [.agg j.cells, .agg [.int .i64 x0, .int .i64 x1, .slice ha hn hc0]] ⟨O, b, w⟩ = some (.slice (some (O.length, 0)) 4 (some 4), ⟨O ++ [.cells 1 ((jobL j hn x0).flatMap strC)], b, w⟩) := by
  have h1 := fun w => s447 (O := O) (b := b) (w := w) hb hf.x hf.y hf.z
  have h2 := fun h => s448 (n := x0) (h := h) hx.1 hx.2
  have h3 := fun h => s448 (n := hn) (h := h) (by omega) (by omega)
  have l2 := itoa_len hx.1 hx.2
  have l3 := itoa_len (n := hn) (by omega) (by omega)
  have hc : j.cells = .str j.name :: .int .i64 j.x :: .int .i64 j.y :: .int .i64 j.z :: .str j.main :: .int .i64 j.size :: j.hash.map (AVal.int .u8) := rfl
  have hh := hj.hash
  unfold jobL
  generalize verL j.x j.y j.z = V at *
  generalize Go.Lib.itoa x0 = S at *
  generalize Go.Lib.itoa (hn : Int) = N at *
  have q1 : N.length ≤ 9223372036854775806 := by omega
  have hfin := fin_row (O := O) (b := b) (w := w) (A := [j.name, V, [106, 111, 98], N ++ [47] ++ S]) (n := 4) (c := some 4) (W := O.length) (Nat.le_refl _)
  simp only [List.flatMap_cons, List.flatMap_nil, strC, List.cons_append, List.nil_append, List.append_assoc] at hfin
  simp (disch := omega) [-getElem?_pos, -getElem?_neg, -List.all_eq_true, gz, gs, nltT, nltF, iltT, iltF, ileT, nleT, wrapI, -finish, Nat.testBit_eq_decide_div_mod_eq, benign, again, AVal.eqb, xCallK t100436, code100436, hc, h1, h2, h3, hh, strC, hfin]
theorem s437 {j : JadU} {x0 x1 : Int} {ha : Option (Nat × Nat)} {hn : Nat} {hc0 : Option Nat} (hj : j.ok) (hf : j.few) (hx : -9223372036854775808 ≤ x0 ∧ x0 ≤ 9223372036854775807) (hhn : hn ≤ 2000) (hb : b ≤ O.length) :
    xCall T 437 [.agg j.cells, .agg [.int .i64 x0, .int .i64 x1, .slice ha hn hc0]] ⟨O, b, w⟩ = some (.slice (some (O.length, 0)) 4 (some 4), ⟨O ++ [.cells 1 ((jobL j hn x0).flatMap strC)], b, w⟩) := by
  have h1 := fun w => s449 (O := O) (b := b) (w := w) hb hf.x hf.y hf.z
  have h2 := fun w => s446 (O := O) (b := b) hb x0.natAbs x0 w (Nat.le_refl _) hx.1 hx.2
  have h3 := fun w => s446 (O := O) (b := b) hb hn hn w (by omega) (by omega) (by omega)
  have l2 := itoa_len hx.1 hx.2
  have l3 := itoa_len (n := hn) (by omega) (by omega)
  have hc : j.cells = .str j.name :: .int .i64 j.x :: .int .i64 j.y :: .int .i64 j.z :: .str j.main :: .int .i64 j.size :: j.hash.map (AVal.int .u8) := rfl
  have hh := hj.hash
  unfold jobL
  generalize verL j.x j.y j.z = V at *
  generalize Go.Lib.itoa x0 = S at *
  generalize Go.Lib.itoa (hn : Int) = N at *
  have q1 : N.length ≤ 9223372036854775806 := by omega
  have hfin := fin_row (O := O) (b := b) (w := w) (A := [j.name, V, [106, 111, 98], N ++ [47] ++ S]) (n := 4) (c := some 4) (W := O.length) (Nat.le_refl _)
  simp only [List.flatMap_cons, List.flatMap_nil, strC, List.cons_append, List.nil_append, List.append_assoc] at hfin
  simp (disch := omega) [-getElem?_pos, -getElem?_neg, -List.all_eq_true, gz, gs, nltT, nltF, iltT, iltF, ileT, nleT, wrapI, -finish, Nat.testBit_eq_decide_div_mod_eq, benign, again, AVal.eqb, xCallK t437, code437, hc, h1, h2, h3, hh, strC, hfin]
end Go.Abs.AbsList

/-
  Layer 33, list: the law ListCells.
-/
namespace Go.Abs.AbsList
open Go.Abs.AbsWid
set_option maxRecDepth 100000
set_option linter.unusedSimpArgs false
variable {os O : List AObj} {b w : Nat}
def inR (n : Int) : Bool := decide (-1000000 ≤ n) && decide (n ≤ 1000000)
def JadU.fewB (j : JadU) : Bool := inR j.x && (inR j.y && inR j.z)
theorem JadU.few_of {j : JadU} (h : j.fewB = true) : j.few := by
  unfold JadU.fewB inR at h
  simp only [Bool.and_eq_true, decide_eq_true_eq] at h
  exact ⟨h.1, h.2.1, h.2.2⟩
theorem l438 {j : JadU} {xc : List AVal} (k : AExit → St → Option (AVal × Heap)) (w : Nat) :
    xK T (.loop code438L0) ⟨[(2, .var j.cells), (3, .var xc), (26, .val (.agg [.int .i64 j.x, .int .i64 j.y, .int .i64 j.z])), (27, .val (.int .i64 0))], ⟨O, b, w⟩⟩ (k := ⟨k⟩) =
    if j.fewB = true then k (.exit 0) ⟨[(2, .var j.cells), (3, .var xc)], ⟨O, b, w⟩⟩ else k .ret ⟨[(4, .val (.bool true))], ⟨O, b, w⟩⟩ := by
  have c1 : inR j.x = true ∨ (j.x < -1000000 ∧ inR j.x = false) ∨ (¬ j.x < -1000000 ∧ j.x > 1000000 ∧ inR j.x = false) := by
    unfold inR; by_cases h : j.x < -1000000
    · exact .inr (.inl ⟨h, by simp; omega⟩)
    · by_cases h2 : j.x > 1000000
      · exact .inr (.inr ⟨h, h2, by simp; omega⟩)
      · exact .inl (by simp; omega)
  have c2 : inR j.y = true ∨ (j.y < -1000000 ∧ inR j.y = false) ∨ (¬ j.y < -1000000 ∧ j.y > 1000000 ∧ inR j.y = false) := by
    unfold inR; by_cases h : j.y < -1000000
    · exact .inr (.inl ⟨h, by simp; omega⟩)
    · by_cases h2 : j.y > 1000000
      · exact .inr (.inr ⟨h, h2, by simp; omega⟩)
      · exact .inl (by simp; omega)
  have c3 : inR j.z = true ∨ (j.z < -1000000 ∧ inR j.z = false) ∨ (¬ j.z < -1000000 ∧ j.z > 1000000 ∧ inR j.z = false) := by
    unfold inR; by_cases h : j.z < -1000000
    · exact .inr (.inl ⟨h, by simp; omega⟩)
    · by_cases h2 : j.z > 1000000
      · exact .inr (.inr ⟨h, h2, by simp; omega⟩)
      · exact .inl (by simp; omega)
  have yes : ∀ n, inR n = true → ¬ n < -1000000 ∧ ¬ n > 1000000 := fun n h => by unfold inR at h; simp at h; omega
  unfold JadU.fewB
  rcases c1 with c1 | ⟨a1, c1⟩ | ⟨a1, d1, c1⟩
  · obtain ⟨a1, d1⟩ := yes _ c1
    rcases c2 with c2 | ⟨a2, c2⟩ | ⟨a2, d2, c2⟩
    · obtain ⟨a2, d2⟩ := yes _ c2
      rcases c3 with c3 | ⟨a3, c3⟩ | ⟨a3, d3, c3⟩
      · obtain ⟨a3, d3⟩ := yes _ c3
        simp (disch := omega) [-getElem?_pos, -getElem?_neg, -List.all_eq_true, gz, gs, nltT, nltF, iltT, iltF, ileT, nleT, wrapI, xK_loop, code438L0, a1, d1, a2, d2, a3, d3, c1, c2, c3]
      · simp (disch := omega) [-getElem?_pos, -getElem?_neg, -List.all_eq_true, gz, gs, nltT, nltF, iltT, iltF, ileT, nleT, wrapI, xK_loop, code438L0, a1, d1, a2, d2, a3, c1, c2, c3]
      · simp (disch := omega) [-getElem?_pos, -getElem?_neg, -List.all_eq_true, gz, gs, nltT, nltF, iltT, iltF, ileT, nleT, wrapI, xK_loop, code438L0, a1, d1, a2, d2, a3, d3, c1, c2, c3]
    · simp (disch := omega) [-getElem?_pos, -getElem?_neg, -List.all_eq_true, gz, gs, nltT, nltF, iltT, iltF, ileT, nleT, wrapI, xK_loop, code438L0, a1, d1, a2, c1, c2]
    · simp (disch := omega) [-getElem?_pos, -getElem?_neg, -List.all_eq_true, gz, gs, nltT, nltF, iltT, iltF, ileT, nleT, wrapI, xK_loop, code438L0, a1, d1, a2, d2, c1, c2]
  · simp (disch := omega) [-getElem?_pos, -getElem?_neg, -List.all_eq_true, gz, gs, nltT, nltF, iltT, iltF, ileT, nleT, wrapI, xK_loop, code438L0, a1, c1]
  · simp (disch := omega) [-getElem?_pos, -getElem?_neg, -List.all_eq_true, gz, gs, nltT, nltF, iltT, iltF, ileT, nleT, wrapI, xK_loop, code438L0, a1, d1, c1]
structure JobU where
  size : Int
  chunk : Int
  ha : Option (Nat × Nat)
  hn : Nat
  hc : Option Nat
def JobU.cells (x : JobU) : List AVal := [.int .i64 x.size, .int .i64 x.chunk, .slice x.ha x.hn x.hc]
structure JobU.ok (x : JobU) : Prop where
  size : -9223372036854775808 ≤ x.size ∧ x.size ≤ 9223372036854775807
  n : x.hn ≤ reachB
theorem cells_run {j : JadU} {x : JobU} (hj : j.ok) (hx : x.ok) (hn : j.name.length ≤ reachB) (hm : j.main.length ≤ reachB) (hxu : ∀ i ∈ (AVal.slice x.ha x.hn x.hc).ids, i < O.length) (hb : b ≤ O.length) : xCall T 438 [.agg j.cells, .agg x.cells] ⟨O, b, w⟩ = some (.bool true, ⟨O, b, w⟩) := by
  have hc : j.cells = .str j.name :: .int .i64 j.x :: .int .i64 j.y :: .int .i64 j.z :: .str j.main :: .int .i64 j.size :: j.hash.map (AVal.int .u8) := rfl
  have hcx : x.cells = [.int .i64 x.size, .int .i64 x.chunk, .slice x.ha x.hn x.hc] := rfl
  have hh := hj.hash
  have hn : j.name.length ≤ 140737488351232 := hn
  have hm : j.main.length ≤ 140737488351232 := hm
  have hxn : x.hn ≤ 140737488351232 := hx.n
  by_cases c1 : j.name.length > 100
  · simp (disch := omega) [-getElem?_pos, -getElem?_neg, -List.all_eq_true, gz, gs, nltT, nltF, iltT, iltF, ileT, nleT, wrapI, xCallK t438, code438, s430, hc, hcx, hh, c1]
  · by_cases c2 : j.main.length > 200
    · simp (disch := omega) [-getElem?_pos, -getElem?_neg, -List.all_eq_true, gz, gs, nltT, nltF, iltT, iltF, ileT, nleT, wrapI, xCallK t438, code438, s430, hc, hcx, hh, c1, c2]
    · by_cases c3 : x.hn > 2000
      · simp (disch := omega) [-getElem?_pos, -getElem?_neg, -List.all_eq_true, gz, gs, nltT, nltF, iltT, iltF, ileT, nleT, wrapI, xCallK t438, code438, s430, hc, hcx, hh, c1, c2, c3]
      · have hl := fun k w => l438 (O := O) (b := b) (j := j) (xc := x.cells) k w
        by_cases c4 : j.fewB = true
        · simp only [if_pos c4] at hl
          have hf := JadU.few_of c4
          generalize hA : suiteL j = A
          generalize hB : jobL j x.hn x.size = B
          have lA : A.length = 4 := by rw [← hA]; rfl
          have lB : B.length = 4 := by rw [← hB]; rfl
          have g1 := fun w => s100434 (O := O) (b := b) (w := w) hj hf hb
          have g2 := fun w => s435 (O := O ++ [.cells 1 (A.flatMap strC)]) (b := b) (w := w) hj hf (by simp; omega)
          have g3 := fun w => s100436 (O := O ++ [.cells 1 (A.flatMap strC), .cells 1 (A.flatMap strC)]) (b := b) (w := w) (x0 := x.size) (x1 := x.chunk) (ha := x.ha) (hn := x.hn) (hc0 := x.hc) hj hf hx.size (by omega) (by simp; omega)
          have g4 := fun w => s437 (O := O ++ [.cells 1 (A.flatMap strC), .cells 1 (A.flatMap strC), .cells 1 (B.flatMap strC)]) (b := b) (w := w) (x0 := x.size) (x1 := x.chunk) (ha := x.ha) (hn := x.hn) (hc0 := x.hc) hj hf hx.size (by omega) (by simp; omega)
          have r : ∀ (P : List AObj) (i : Nat) (L : List Str), P[i]? = some (.cells 1 (L.flatMap strC)) → Row P 1 strC L (some (i, 0)) := fun P i L h => Row.mk0 (fun _ => rfl) h
          have e1 := fun w => s428 (O := O ++ [.cells 1 (A.flatMap strC), .cells 1 (A.flatMap strC)]) (b := b) (w := w) (A := A) (B := A) (aa := some (O.length, 0)) (ba := some (O.length + 1, 0)) (ac := some 4) (bc := some 4) (r _ _ _ (by simp)) (r _ _ _ (by simp)) (by omega) (by omega) (by simp; omega)
          have e2 := fun w => s428 (O := O ++ [.cells 1 (A.flatMap strC), .cells 1 (A.flatMap strC), .cells 1 (B.flatMap strC), .cells 1 (B.flatMap strC)]) (b := b) (w := w) (A := B) (B := B) (aa := some (O.length + 2, 0)) (ba := some (O.length + 3, 0)) (ac := some 4) (bc := some 4) (r _ _ _ (by simp)) (r _ _ _ (by simp)) (by omega) (by omega) (by simp; omega)
          rw [lA, decide_eq_true rfl] at e1
          rw [lB, decide_eq_true rfl] at e2
          rw [hA] at g1 g2
          rw [hB] at g3 g4
          have hids : AVal.idsL (j.hash.map (AVal.int .u8)) = [] := by
            generalize j.hash = H
            induction H with
            | nil => rfl
            | cons a H ih => simpa [AVal.idsL, AVal.ids] using ih
          have htk : List.take 32 (j.hash.map (AVal.int .u8)) = j.hash.map (AVal.int .u8) := List.take_of_length_le (by rw [List.length_map]; omega)
          have hiA : AVal.idsL (A.flatMap strC) = [] := ids_strs A
          have hiB : AVal.idsL (B.flatMap strC) = [] := ids_strs B
          have hxid : ∀ k, ((AVal.slice x.ha x.hn x.hc).ids.all fun i => decide (i < O.length + k)) = true := fun k => List.all_eq_true.2 fun i hi => decide_eq_true (by have := hxu i hi; omega)
          have hoki : ∀ k m ds, ((AVal.slice x.ha x.hn x.hc).ids.all (okId (O.length + k) m ds)) = true := fun k m ds => List.all_eq_true.2 fun i hi => by
            have := hxu i hi
            unfold okId
            rw [decide_eq_true (by omega), Bool.true_or]
          rw [hc, hcx] at hl
          rw [hc] at g1 g2 g3 g4
          generalize A.flatMap strC = cA at *
          generalize B.flatMap strC = cB at *
          simp only [List.append_assoc, List.cons_append, List.nil_append, List.length_append, List.length_cons, List.length_nil, Nat.zero_add, Nat.reduceAdd] at g1 g2 g3 g4 e1 e2
          simp (maxSteps := 3000000) (disch := omega) [-getElem?_pos, -getElem?_neg, -List.all_eq_true, gz, gs, nltT, nltF, iltT, iltF, ileT, nleT, wrapI, Nat.testBit_eq_decide_div_mod_eq, benign, again, AVal.eqb, -sget, sgetN, sgetH, sgetT, xCallK t438, code438, s430, hc, hcx, hh, c1, c2, c3, hl, g1, g2, g3, g4, e1, e2, hids, hiA, hiB, htk, hxid, hoki]
        · simp only [if_neg c4] at hl
          rw [hc, hcx] at hl
          simp (disch := omega) [-getElem?_pos, -getElem?_neg, -List.all_eq_true, gz, gs, nltT, nltF, iltT, iltF, ileT, nleT, wrapI, xCallK t438, code438, s430, hc, hcx, hh, c1, c2, c3, hl]
def shJad : Sh := .struct [.str, .struct [.int .i64, .int .i64, .int .i64], .str, .int .i64, .struct (List.replicate 32 (.int .u8))]
def shJob : Sh := .struct [.int .i64, .int .i64, .slice (.int .u8)]
theorem has_bytes : ∀ (n : Nat) (l : List Dat) (cs : List AVal), HasL ⟨os, b, w⟩ (List.replicate n (.int .u8)) l cs → ∃ H : List Int, H.length = n ∧ cs = H.map (AVal.int .u8)
  | 0, l, cs, h => by
    obtain ⟨rfl, rfl⟩ := HasL.nil h
    exact ⟨[], rfl, rfl⟩
  | n + 1, l, cs, h => by
    rw [List.replicate_succ] at h
    obtain ⟨_, _, _, _, rfl, rfl, h1, h2⟩ := h.cons
    obtain ⟨x, _, rfl, _⟩ := h1.int
    obtain ⟨H, h3, rfl⟩ := has_bytes n _ _ h2
    exact ⟨x :: H, by simp [h3], rfl⟩
theorem has_jad {d : Dat} {cs : List AVal} (h : Has ⟨os, b, w⟩ shJad d cs) : ∃ j : JadU, cs = j.cells ∧ j.ok ∧ j.name.length ≤ reachB ∧ j.main.length ≤ reachB := by
  obtain ⟨l, rfl, h⟩ := h.struct
  obtain ⟨_, _, _, _, rfl, rfl, h1, h⟩ := h.cons
  obtain ⟨_, _, _, _, rfl, rfl, h2, h⟩ := h.cons
  obtain ⟨_, _, _, _, rfl, rfl, h3, h⟩ := h.cons
  obtain ⟨_, _, _, _, rfl, rfl, h4, h⟩ := h.cons
  obtain ⟨_, _, _, _, rfl, rfl, h5, h⟩ := h.cons
  obtain ⟨rfl, rfl⟩ := h.nil
  obtain ⟨nm, _, rfl, hn⟩ := h1.str
  obtain ⟨_, rfl, h2⟩ := h2.struct
  obtain ⟨_, _, _, _, rfl, rfl, q1, h2⟩ := h2.cons
  obtain ⟨_, _, _, _, rfl, rfl, q2, h2⟩ := h2.cons
  obtain ⟨_, _, _, _, rfl, rfl, q3, h2⟩ := h2.cons
  obtain ⟨rfl, rfl⟩ := h2.nil
  obtain ⟨x, _, rfl, _⟩ := q1.int
  obtain ⟨y, _, rfl, _⟩ := q2.int
  obtain ⟨z, _, rfl, _⟩ := q3.int
  obtain ⟨mn, _, rfl, hm⟩ := h3.str
  obtain ⟨sz, _, rfl, hs0, hs1⟩ := h4.int
  obtain ⟨_, rfl, h5⟩ := h5.struct
  obtain ⟨H, hH, rfl⟩ := has_bytes 32 _ _ h5
  exact ⟨⟨nm, x, y, z, mn, sz, H⟩, by simp [JadU.cells], { hash := hH, size := ⟨by simpa [IntKind.min, IntKind.signed, IntKind.bits] using hs0, by simpa [IntKind.max, IntKind.signed, IntKind.bits] using hs1⟩ }, hn, hm⟩
theorem has_job (hb : b ≤ os.length) {d : Dat} {cs : List AVal} (h : Has ⟨os, b, w⟩ shJob d cs) : ∃ x : JobU, cs = x.cells ∧ x.ok ∧ ∀ i ∈ (AVal.slice x.ha x.hn x.hc).ids, i < os.length := by
  obtain ⟨l, rfl, h⟩ := h.struct
  obtain ⟨_, _, _, _, rfl, rfl, h1, h⟩ := h.cons
  obtain ⟨_, _, _, _, rfl, rfl, h2, h⟩ := h.cons
  obtain ⟨_, _, _, _, rfl, rfl, h3, h⟩ := h.cons
  obtain ⟨rfl, rfl⟩ := h.nil
  obtain ⟨x, _, rfl, hs0, hs1⟩ := h1.int
  obtain ⟨y, _, rfl, _⟩ := h2.int
  obtain ⟨a, L, c, rfl, h4, h5, _, h6, _⟩ := Has.row (f := fun n : Int => [AVal.int .u8 n]) (ok := fun _ => True) (fun d c h => by
    obtain ⟨n, _, rfl, _⟩ := h.int
    exact ⟨n, rfl, trivial⟩) h3
  refine ⟨⟨x, y, a, L.length, c⟩, rfl, { size := ⟨by simpa [IntKind.min, IntKind.signed, IntKind.bits] using hs0, by simpa [IntKind.max, IntKind.signed, IntKind.bits] using hs1⟩, n := h5 }, fun i hi => ?_⟩
  cases a with
  | none => simp [AVal.ids] at hi
  | some p =>
    obtain ⟨q, o⟩ := p
    have := h6 q o rfl
    simp [AVal.ids] at hi
    omega
end Go.Abs.AbsList

/-
  The hints by which a code is checked, out of the code itself.
-/
namespace Go.Abs
def AOper.isLoc (o : AOper) : Bool := match o.op with
  | .lalloc _ | .lbox _ | .ext (.hstore _) _ => true
  | _ => false
def locsOf : Nat → List AOper → List Nat
  | _, [] => []
  | i, o :: r => if o.isLoc then i :: locsOf (i + 1) r else locsOf (i + 1) r
def ACode.hint : ACode → Hint
  | .skip | .exit _ | .ret | .next _ _ => .leaf
  | .region gs => .reg (gs.map fun g => (g.quiet, g.ops.length)) (locsOf 0 (gs.flatMap Seg.ops))
  | .seq (.next _ _) _ => .next
  | .seq a b => .seq a.hint b.hint
  | .cond (.const (.str [])) .skip .skip => .stuck
  | .cond _ a b => .cond a.hint b.hint
  | .block _ c => .block c.hint
  | .loop c => .loop c.hint
  | .live l c => .live l c.hint
  | .after c l => .after c.hint l
  | .rangeFunc _ g caps _ a b => .rangeFunc g caps a.hint b.hint
theorem ow {E : Env} {T : Nat → Option AFunc} {f g : Nat} {fn : Func} {c : AFunc} {b : Bool} {hint : Hint} (h3 : cFunc E b hint fn = some c) (h1 : E.P.funcs[f]? = some fn) (h2 : T g = some c) (h4 : RndOK E c.body.rounds) : FnOK E T f g := .inr (.inl ⟨_, _, _, _, h1, h2, h3, h4⟩)
end Go.Abs
