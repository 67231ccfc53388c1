/-
  Functions of Go's library, by what the kit's shelf tells of them.
-/
import Derived.Test.YtepjcennipobhaaDoorP4
import Derived.Room.Shelf.Join48
namespace Go.Abs
open Go.Proofs Go.Shelf Go.RowKit

/-- A call that leaves what lay there, and gives a value that names nothing new. -/
theorem lib_ends {E : Env} {f : FuncId} {args' : Array Value} {w : World} {μ : MM} {h : Heap} {v : AVal} {v' : Value} (hr : Rel E μ h w) (hv : VRel E μ v v') (hc : Calls E.P f args' w fun e w' => e = .returned v' ∧ Below w.heap.size w w') :
    Calls E.P f args' w (Ends E μ w v h) :=
  hc.mono fun e w' ⟨h1, h2⟩ => ⟨v', μ, h1, ⟨h2.os, h2.tape, h2.output, h2.size, fun k hk _ _ => h2.block k hk, Nat.le_refl _, fun _ _ => .inl rfl, fun i m hi hm => absurd (lt_of_get hm) (by omega)⟩, hv, hr.keep h2.size fun i m hm => h2.block _ (hr.lt i m hm)⟩

/-- Texts in cells. -/
def strsOf : List AVal → Option (List (List UInt8))
  | [] => some []
  | .str s :: r => (strsOf r).map (s :: ·)
  | _ :: _ => none

theorem strsOf_get : ∀ {cs : List AVal} {l : List (List UInt8)}, strsOf cs = some l → cs.length = l.length ∧ ∀ (j : Nat) (s : List UInt8), l[j]? = some s → cs[j]? = some (.str s)
  | [], l, h => by simp only [strsOf] at h; cases h; exact ⟨rfl, fun j s hj => by simp at hj⟩
  | a :: r, l, h => by
    cases a with
    | str s =>
      simp only [strsOf, Option.map_eq_some_iff] at h
      obtain ⟨m, h1, rfl⟩ := h
      obtain ⟨h2, h3⟩ := strsOf_get h1
      refine ⟨by simp [h2], fun j s' hj => ?_⟩
      cases j with
      | zero => simp at hj; subst hj; rfl
      | succ j => simp at hj ⊢; exact h3 j s' hj
    | _ => simp only [strsOf] at h; cases h

/-- A row of texts. -/
def rowStrs (a : Option (Nat × Nat)) (n : Nat) (h : Heap) : Option (List (List UInt8)) :=
  if n = 0 then some [] else match a with
    | some (i, o) => match h.objs[i]? with
      | some (.cells 1 cs) => if o + n ≤ cs.length then strsOf ((cs.drop o).take n) else none
      | _ => none
    | none => none

def joinF : List AVal → Heap → Option AVal
  | [.slice a n _, .str sep], h => match rowStrs a n h with
    | some l => if n ≤ 140737488355328 ∧ (Lib.join l sep).length ≤ 281474976710656 then some (.str (Lib.join l sep)) else none
    | none => none
  | _, _ => none

theorem strs_id : ∀ l : List (List UInt8), (l.map fun s => (⟨s.toArray⟩ : ByteArray)).map (·.data.toList) = l
  | [] => rfl
  | s :: l => by rw [List.map_cons, List.map_cons, strs_id l]

theorem rowStrs_cells {E : Env} {μ : MM} {h : Heap} {w : World} (hr : Rel E μ h w) {a : Option (Nat × Nat)} {n : Nat} {c : Option Nat} {l : List (List UInt8)} {v : Value} (hv : VRel E μ (.slice a n c) v) (hl : rowStrs a n h = some l) (hn : n ≠ 0) :
    ∃ bk o cap, v = .slice (some ⟨bk, o, none⟩) n cap ∧ l.length = n ∧ n ≤ cap ∧ bk < w.heap.size ∧ ∀ (j : Nat) (x : ByteArray), (l.map fun s => (⟨s.toArray⟩ : ByteArray))[j]? = some x → w.cell? ⟨bk, o + j, none⟩ = some (.string x) := by
  unfold rowStrs at hl
  rw [if_neg hn] at hl
  cases a with
  | none => cases hl
  | some p =>
    obtain ⟨i, o⟩ := p
    simp only at hl
    cases hi : h.objs[i]? with
    | none => rw [hi] at hl; cases hl
    | some ob =>
      rw [hi] at hl
      cases ob with
      | cells esz cs =>
        obtain ⟨m, c2, e, fr, m1, m2, m3, m4, m5, m6, _⟩ := hr.obj _ _ hi
        simp only [VRel] at hv
        obtain ⟨ad, cap, rfl, _, k1, _, k3, _⟩ := hv
        obtain ⟨x, x1, x2⟩ := k1 (by omega)
        rw [m1] at x1
        cases x1
        have had := x2 m rfl
        subst had
        split at hl
        case h_2 => cases hl
        rename_i cs' heq
        cases heq
        split at hl
        case isFalse => cases hl
        rename_i hle
        obtain ⟨l1, l2⟩ := strsOf_get hl
        have hll : l.length = n := by rw [← l1]; simp; omega
        refine ⟨m.blk, m.base + o, cap, rfl, hll, k3, hr.lt i m m1, fun j y hj => ?_⟩
        rw [List.getElem?_map, Option.map_eq_some_iff] at hj
        obtain ⟨s, s1, rfl⟩ := hj
        have s2 := l2 j s s1
        have hjn : j < n := by have := lt_of_get s1; omega
        rw [List.getElem?_take, if_pos hjn, List.getElem?_drop] at s2
        obtain ⟨_, v', g1, g2⟩ := m6 _ _ s2
        simp only [VRel] at g2
        subst g2
        rw [cell_of_block m3, show m.base + o + j = m.base + (o + j) by omega]
        exact g1
      | _ => cases hl

theorem join_ok {E : Env} {ρ : Ren} (L : Lays.n156 E.P ρ) (X : Builder.Extra E.P ρ) {f : FuncId} {fn : Func} (hf : f = ρ.f 156) (hn : fn.name ≠ "runtime.NumGoroutine") (hb : fn.body.isSome = true) : LibOK E f fn joinF where
  name := hn
  body := hb
  run := fun args h v e μ w args' ha hr => by
    subst hf
    unfold joinF at e
    split at e
    case h_2 => cases e
    rename_i h1 a n c sep
    split at e
    case h_2 => cases e
    rename_i l hl
    split at e
    case isFalse => cases e
    rename_i hsz
    cases e
    simp only [VRels] at ha
    obtain ⟨v1, r1, e1, q1, v2, r2, e2, q2, e3⟩ := ha
    subst e3 e2
    have ha' : args' = #[v1, v2] := by
      rw [← Array.toList_inj, e1]
    subst ha'
    simp only [VRel] at q2
    subst q2
    by_cases hz : n = 0
    · subst hz
      have hl0 : l = [] := by simpa [rowStrs] using hl.symm
      subst hl0
      have hvs : ∃ ad c0, v1 = .slice ad 0 c0 := by
        cases a with
        | none => simp only [VRel] at q1; exact ⟨none, 0, q1.2.2⟩
        | some p => obtain ⟨i, o⟩ := p; simp only [VRel] at q1; obtain ⟨ad, cap, h1, _⟩ := q1; exact ⟨some ad, cap, h1⟩
      obtain ⟨ad, c0, rfl⟩ := hvs
      refine lib_ends hr (v' := .string ⟨#[]⟩) (by simp only [VRel]; rfl) ?_
      exact (Any.strings_Join_none L X ad c0 ⟨sep.toArray⟩ w).mono fun e w' ⟨h1, h2⟩ => ⟨h1, h2 ▸ Below.refl _ _⟩
    · obtain ⟨bk, o, cap, rfl, hll, hcap, hbk, hcells⟩ := rowStrs_cells hr q1 hl hz
      refine lib_ends hr (v' := .string ⟨(Lib.join l sep).toArray⟩) (by simp only [VRel]) ?_
      have hj := Any.strings_Join_48 L X bk o cap (l.map fun s => (⟨s.toArray⟩ : ByteArray)) ⟨sep.toArray⟩ w hcells hbk (by rw [List.length_map]; omega) (by rw [List.length_map]; omega) (by rw [strs_id]; exact hsz.2)
      rw [strs_id, List.length_map, hll] at hj
      exact hj

end Go.Abs

/-
  The code of the functions, for the abstract machine: printed by a program.
-/
namespace Go.Abs.AbsDesc
set_option maxRecDepth 100000
/-- gosem.cut.init -/
def code24 : AFunc := ⟨false, false, 0, 1, [],
  .after (.region [⟨false, [], [⟨(some 0), none, .nextStr (.const (.bool false))⟩]⟩]) [], none⟩
/-- carpetbag.carpetbaglaw12.DescTells -/
def code40 : AFunc := ⟨false, false, 1, 116, [.tmp 2],
  .seq (.after (.region [⟨false, [], [⟨(some 2), none, .val (.const (.bool false))⟩]⟩]) [0])
  (.seq (.seq (.after (.region [⟨false, [], [⟨(some 17), none, .callg 39 []⟩,
      ⟨(some 18), none, .un .not (.tmp 17)⟩]⟩]) [0, 18])
  (.after (.cond (.tmp 18) (.seq (.after (.region [⟨false, [], [⟨(some 2), none, .val (.const (.bool false))⟩]⟩]) [2])
  (.live [2] (.ret))) (.skip)) [0]))
  (.seq (.seq (.after (.region [⟨false, [], [⟨(some 19), none, .val (.tmp 0)⟩,
      ⟨(some 20), none, .len .str (.tmp 19)⟩,
      ⟨(some 21), none, .bin .gtr (.tmp 20) (.const (.int .i64 400))⟩]⟩]) [0, 21])
  (.after (.cond (.tmp 21) (.seq (.after (.region [⟨false, [], [⟨(some 2), none, .val (.const (.bool true))⟩]⟩]) [2])
  (.live [2] (.ret))) (.skip)) [0]))
  (.seq (.after (.region [⟨false, [], [⟨(some 23), none, .val (.tmp 0)⟩,
      ⟨(some 24), none, .callg 38 [.tmp 23]⟩,
      ⟨(some 22), none, .val (.tmp 24)⟩,
      ⟨(some 25), none, .extract (.tmp 22) 0⟩,
      ⟨(some 26), none, .extract (.tmp 22) 1⟩,
      ⟨(some 27), none, .extract (.tmp 22) 2⟩,
      ⟨(some 3), none, .val (.tmp 25)⟩,
      ⟨(some 4), none, .val (.tmp 26)⟩,
      ⟨(some 5), none, .val (.tmp 27)⟩]⟩]) [0, 3, 4, 5])
  (.seq (.after (.region [⟨false, [], [⟨(some 29), none, .val (.tmp 0)⟩,
      ⟨(some 30), none, .callg 37 [.tmp 29]⟩,
      ⟨(some 28), none, .val (.tmp 30)⟩,
      ⟨(some 31), none, .extract (.tmp 28) 0⟩,
      ⟨(some 32), none, .extract (.tmp 28) 1⟩,
      ⟨(some 33), none, .extract (.tmp 28) 2⟩,
      ⟨(some 6), none, .val (.tmp 31)⟩,
      ⟨(some 7), none, .val (.tmp 32)⟩,
      ⟨(some 8), none, .val (.tmp 33)⟩]⟩]) [0, 3, 4, 5, 6, 7, 8])
  (.seq (.after (.region [⟨false, [], [⟨(some 35), none, .val (.tmp 0)⟩,
      ⟨(some 36), none, .callg 36 [.tmp 35]⟩,
      ⟨(some 34), none, .val (.tmp 36)⟩,
      ⟨(some 37), none, .extract (.tmp 34) 0⟩,
      ⟨(some 38), none, .extract (.tmp 34) 1⟩,
      ⟨(some 9), none, .val (.tmp 37)⟩,
      ⟨(some 10), none, .val (.tmp 38)⟩]⟩]) [0, 3, 4, 5, 6, 7, 8, 9, 10])
  (.seq (.after (.region [⟨false, [], [⟨(some 40), none, .val (.tmp 0)⟩,
      ⟨(some 41), none, .callg 35 [.tmp 40]⟩,
      ⟨(some 39), none, .val (.tmp 41)⟩,
      ⟨(some 42), none, .extract (.tmp 39) 0⟩,
      ⟨(some 43), none, .extract (.tmp 39) 1⟩,
      ⟨(some 11), none, .val (.tmp 42)⟩,
      ⟨(some 12), none, .val (.tmp 43)⟩]⟩]) [0, 3, 4, 5, 6, 7, 8, 9, 10, 11, 12])
  (.seq (.after (.region [⟨false, [], [⟨(some 45), none, .val (.tmp 0)⟩,
      ⟨(some 46), none, .callg 34 [.tmp 45]⟩,
      ⟨(some 44), none, .val (.tmp 46)⟩,
      ⟨(some 47), none, .extract (.tmp 44) 0⟩,
      ⟨(some 48), none, .extract (.tmp 44) 1⟩,
      ⟨(some 13), none, .val (.tmp 47)⟩,
      ⟨(some 14), none, .val (.tmp 48)⟩]⟩]) [0, 3, 4, 5, 6, 7, 8, 9, 10, 11, 12, 13, 14])
  (.seq (.after (.region [⟨false, [], [⟨(some 50), none, .val (.tmp 0)⟩,
      ⟨(some 51), none, .callg 33 [.tmp 50]⟩,
      ⟨(some 49), none, .val (.tmp 51)⟩,
      ⟨(some 52), none, .extract (.tmp 49) 0⟩,
      ⟨(some 53), none, .extract (.tmp 49) 1⟩,
      ⟨(some 15), none, .val (.tmp 52)⟩,
      ⟨(some 16), none, .val (.tmp 53)⟩]⟩]) [0, 3, 4, 5, 6, 7, 8, 9, 10, 11, 12, 13, 14, 15, 16])
  (.seq (.after (.region [⟨false, [], [⟨(some 54), none, .val (.tmp 0)⟩,
      ⟨(some 55), none, .callg 25 [.tmp 54]⟩,
      ⟨(some 56), none, .val (.tmp 0)⟩,
      ⟨(some 57), none, .callg 26 [.tmp 56]⟩,
      ⟨(some 58), none, .beq false (.tmp 55) (.tmp 57)⟩,
      ⟨(some 59), none, .val (.tmp 58)⟩,
      ⟨(some 60), (some (59, true)), .val (.tmp 0)⟩,
      ⟨(some 61), (some (59, true)), .callg 27 [.tmp 60]⟩,
      ⟨(some 62), (some (59, true)), .val (.tmp 0)⟩,
      ⟨(some 63), (some (59, true)), .callg 28 [.tmp 62]⟩,
      ⟨(some 64), (some (59, true)), .beq false (.tmp 61) (.tmp 63)⟩,
      ⟨(some 65), none, .pick (.tmp 59) (.tmp 64) (.const (.bool false))⟩,
      ⟨(some 66), none, .val (.tmp 65)⟩,
      ⟨(some 67), (some (66, true)), .val (.tmp 3)⟩,
      ⟨(some 68), (some (66, true)), .val (.tmp 6)⟩,
      ⟨(some 69), (some (66, true)), .callg 29 [.tmp 67, .tmp 68]⟩,
      ⟨(some 70), none, .pick (.tmp 66) (.tmp 69) (.const (.bool false))⟩,
      ⟨(some 71), none, .val (.tmp 70)⟩,
      ⟨(some 72), (some (71, true)), .val (.tmp 4)⟩,
      ⟨(some 73), (some (71, true)), .val (.tmp 7)⟩,
      ⟨(some 74), (some (71, true)), .bin .eql (.tmp 72) (.tmp 73)⟩,
      ⟨(some 75), none, .pick (.tmp 71) (.tmp 74) (.const (.bool false))⟩,
      ⟨(some 76), none, .val (.tmp 75)⟩,
      ⟨(some 77), (some (76, true)), .val (.tmp 5)⟩,
      ⟨(some 78), (some (76, true)), .val (.tmp 8)⟩,
      ⟨(some 79), (some (76, true)), .bin .eql (.tmp 77) (.tmp 78)⟩,
      ⟨(some 80), none, .pick (.tmp 76) (.tmp 79) (.const (.bool false))⟩,
      ⟨(some 81), none, .val (.tmp 80)⟩,
      ⟨(some 82), (some (81, true)), .val (.tmp 0)⟩,
      ⟨(some 83), (some (81, true)), .callg 30 [.tmp 82]⟩,
      ⟨(some 84), (some (81, true)), .val (.tmp 0)⟩,
      ⟨(some 85), (some (81, true)), .callg 31 [.tmp 84]⟩,
      ⟨(some 86), (some (81, true)), .beq false (.tmp 83) (.tmp 85)⟩,
      ⟨(some 87), none, .pick (.tmp 81) (.tmp 86) (.const (.bool false))⟩,
      ⟨(some 88), none, .val (.tmp 87)⟩,
      ⟨(some 89), (some (88, true)), .val (.tmp 9)⟩,
      ⟨(some 90), (some (88, true)), .val (.tmp 11)⟩,
      ⟨(some 91), (some (88, true)), .bin .eql (.tmp 89) (.tmp 90)⟩,
      ⟨(some 92), none, .pick (.tmp 88) (.tmp 91) (.const (.bool false))⟩,
      ⟨(some 93), none, .val (.tmp 92)⟩,
      ⟨(some 94), (some (93, true)), .val (.tmp 10)⟩,
      ⟨(some 95), (some (93, true)), .val (.tmp 12)⟩,
      ⟨(some 96), (some (93, true)), .beq false (.tmp 94) (.tmp 95)⟩,
      ⟨(some 97), none, .pick (.tmp 93) (.tmp 96) (.const (.bool false))⟩,
      ⟨(some 98), none, .val (.tmp 97)⟩,
      ⟨(some 99), (some (98, true)), .val (.tmp 13)⟩,
      ⟨(some 100), (some (98, true)), .val (.tmp 15)⟩,
      ⟨(some 101), (some (98, true)), .bin .eql (.tmp 99) (.tmp 100)⟩,
      ⟨(some 102), none, .pick (.tmp 98) (.tmp 101) (.const (.bool false))⟩,
      ⟨(some 103), none, .val (.tmp 102)⟩,
      ⟨(some 104), (some (103, true)), .val (.tmp 14)⟩,
      ⟨(some 105), (some (103, true)), .val (.tmp 16)⟩,
      ⟨(some 106), (some (103, true)), .beq false (.tmp 104) (.tmp 105)⟩,
      ⟨(some 107), none, .pick (.tmp 103) (.tmp 106) (.const (.bool false))⟩,
      ⟨(some 108), none, .val (.tmp 107)⟩,
      ⟨(some 109), (some (108, true)), .val (.tmp 0)⟩,
      ⟨(some 110), (some (108, true)), .callg 32 [.tmp 109]⟩,
      ⟨(some 111), (some (108, true)), .val (.tmp 0)⟩,
      ⟨(some 112), (some (108, true)), .bin .add (.const (.str [76])) (.tmp 111)⟩,
      ⟨(some 113), (some (108, true)), .bin .add (.tmp 112) (.const (.str [59]))⟩,
      ⟨(some 114), (some (108, true)), .bin .eql (.tmp 110) (.tmp 113)⟩,
      ⟨(some 115), none, .pick (.tmp 108) (.tmp 114) (.const (.bool false))⟩,
      ⟨(some 2), none, .val (.tmp 115)⟩]⟩]) [2])
  (.live [2] (.ret))))))))))), none⟩
def code41L0 : ACode :=
  .live [0, 17] (.seq (.after (.region [⟨false, [], [⟨(some 18), none, .bin .lss (.tmp 17) (.const (.int .i64 9))⟩]⟩]) [0, 17, 18])
  (.seq (.after (.cond (.tmp 18) (.skip) (.live [] (.exit 0))) [0, 17])
  (.seq (.after (.block 1 (.seq (.after (.region [⟨false, [], [⟨(some 20), none, .val (.tmp 0)⟩,
      ⟨(some 21), none, .callg 36 [.tmp 20]⟩,
      ⟨(some 19), none, .val (.tmp 21)⟩,
      ⟨(some 22), none, .extract (.tmp 19) 0⟩,
      ⟨(some 23), none, .extract (.tmp 19) 1⟩,
      ⟨(some 3), none, .val (.tmp 22)⟩,
      ⟨(some 4), none, .val (.tmp 23)⟩]⟩]) [0, 3, 4, 17])
  (.seq (.seq (.after (.region [⟨false, [], [⟨(some 24), none, .val (.tmp 4)⟩,
      ⟨(some 25), none, .un .not (.tmp 24)⟩]⟩]) [0, 3, 17, 25])
  (.after (.cond (.tmp 25) (.seq (.after (.region [⟨false, [], [⟨(some 27), none, .val (.tmp 0)⟩,
      ⟨(some 28), none, .callg 34 [.tmp 27]⟩,
      ⟨(some 26), none, .val (.tmp 28)⟩,
      ⟨(some 29), none, .extract (.tmp 26) 0⟩,
      ⟨(some 30), none, .extract (.tmp 26) 1⟩,
      ⟨(some 5), none, .val (.tmp 29)⟩,
      ⟨(some 6), none, .val (.tmp 30)⟩]⟩]) [0, 5, 6])
  (.seq (.after (.region [⟨false, [], [⟨(some 31), none, .val (.tmp 6)⟩,
      ⟨(some 32), none, .un .not (.tmp 31)⟩,
      ⟨(some 33), none, .val (.tmp 32)⟩,
      ⟨(some 34), (some (33, false)), .val (.tmp 5)⟩,
      ⟨(some 35), (some (33, false)), .callg 25 [.tmp 34]⟩,
      ⟨(some 36), (some (33, false)), .val (.tmp 35)⟩,
      ⟨(some 37), (some (36, true)), .val (.tmp 5)⟩,
      ⟨(some 38), (some (36, true)), .callg 32 [.tmp 37]⟩,
      ⟨(some 39), (some (36, true)), .val (.tmp 0)⟩,
      ⟨(some 40), (some (36, true)), .bin .eql (.tmp 38) (.tmp 39)⟩,
      ⟨(some 41), (some (33, false)), .pick (.tmp 36) (.tmp 40) (.const (.bool false))⟩,
      ⟨(some 42), (some (33, false)), .val (.tmp 41)⟩,
      ⟨(some 43), (some (42, true)), .val (.tmp 0)⟩,
      ⟨(some 44), (some (42, true)), .callg 30 [.tmp 43]⟩,
      ⟨(some 45), (some (33, false)), .pick (.tmp 42) (.tmp 44) (.const (.bool false))⟩,
      ⟨(some 46), none, .pick (.tmp 33) (.const (.bool true)) (.tmp 45)⟩,
      ⟨(some 2), none, .val (.tmp 46)⟩]⟩]) [2])
  (.live [2] (.ret)))) (.skip)) [3, 17]))
  (.seq (.seq (.after (.region [⟨false, [], [⟨(some 47), none, .val (.tmp 3)⟩,
      ⟨(some 48), none, .callg 27 [.tmp 47]⟩,
      ⟨(some 49), none, .un .not (.tmp 48)⟩,
      ⟨(some 50), none, .val (.tmp 49)⟩,
      ⟨(some 51), (some (50, true)), .val (.tmp 3)⟩,
      ⟨(some 52), (some (50, true)), .bin .neq (.tmp 51) (.const (.str [66]))⟩,
      ⟨(some 53), none, .pick (.tmp 50) (.tmp 52) (.const (.bool false))⟩]⟩]) [3, 17, 53])
  (.after (.cond (.tmp 53) (.seq (.after (.region [⟨false, [], [⟨(some 2), none, .val (.const (.bool false))⟩]⟩]) [2])
  (.live [2] (.ret))) (.skip)) [3, 17]))
  (.after (.region [⟨false, [], [⟨(some 54), none, .val (.tmp 3)⟩,
      ⟨(some 0), none, .val (.tmp 54)⟩]⟩]) [0, 17]))))) [0, 17])
  (.after (.region [⟨false, [], [⟨(some 55), none, .bin .add (.tmp 17) (.const (.int .i64 1))⟩,
      ⟨(some 17), none, .val (.tmp 55)⟩]⟩]) [0, 17]))))
/-- carpetbag.carpetbaglaw12.DescNested -/
def code41 : AFunc := ⟨false, false, 1, 56, [.tmp 2],
  .seq (.after (.region [⟨false, [], [⟨(some 2), none, .val (.const (.bool false))⟩]⟩]) [0])
  (.seq (.seq (.after (.region [⟨false, [], [⟨(some 7), none, .callg 39 []⟩,
      ⟨(some 8), none, .un .not (.tmp 7)⟩]⟩]) [0, 8])
  (.after (.cond (.tmp 8) (.seq (.after (.region [⟨false, [], [⟨(some 2), none, .val (.const (.bool false))⟩]⟩]) [2])
  (.live [2] (.ret))) (.skip)) [0]))
  (.seq (.seq (.after (.region [⟨false, [], [⟨(some 9), none, .val (.tmp 0)⟩,
      ⟨(some 10), none, .len .str (.tmp 9)⟩,
      ⟨(some 11), none, .bin .gtr (.tmp 10) (.const (.int .i64 300))⟩,
      ⟨(some 12), none, .val (.tmp 11)⟩,
      ⟨(some 13), (some (12, false)), .val (.tmp 0)⟩,
      ⟨(some 14), (some (12, false)), .callg 27 [.tmp 13]⟩,
      ⟨(some 15), (some (12, false)), .un .not (.tmp 14)⟩,
      ⟨(some 16), none, .pick (.tmp 12) (.const (.bool true)) (.tmp 15)⟩]⟩]) [0, 16])
  (.after (.cond (.tmp 16) (.seq (.after (.region [⟨false, [], [⟨(some 2), none, .val (.const (.bool true))⟩]⟩]) [2])
  (.live [2] (.ret))) (.skip)) [0]))
  (.seq (.seq (.after (.region [⟨false, [], [⟨(some 17), none, .val (.const (.int .i64 0))⟩]⟩]) [0, 17])
  (.after (.block 0 (.loop code41L0)) []))
  (.seq (.after (.region [⟨false, [], [⟨(some 2), none, .val (.const (.bool false))⟩]⟩]) [2])
  (.live [2] (.ret)))))), none⟩
def code46L0 : ACode :=
  .live [0, 1, 5, 28, 29, 30] (.seq (.after (.region [⟨false, [], [⟨(some 31), none, .bin .lss (.tmp 30) (.tmp 29)⟩]⟩]) [0, 1, 5, 28, 29, 30, 31])
  (.seq (.after (.cond (.tmp 31) (.skip) (.live [0, 1, 5] (.exit 0))) [0, 1, 5, 28, 29, 30])
  (.seq (.after (.block 1 (.seq (.after (.region [⟨false, [], [⟨(some 32), none, .iaddr 1 (.tmp 28) (.tmp 30)⟩,
      ⟨(some 33), none, .load none (.tmp 32)⟩,
      ⟨(some 7), none, .val (.tmp 33)⟩]⟩]) [0, 1, 5, 7, 28, 29, 30])
  (.seq (.seq (.after (.region [⟨false, [], [⟨(some 34), none, .val (.tmp 7)⟩,
      ⟨(some 35), none, .len .str (.tmp 34)⟩,
      ⟨(some 36), none, .bin .gtr (.tmp 35) (.const (.int .i64 200))⟩]⟩]) [0, 1, 5, 7, 28, 29, 30, 36])
  (.after (.cond (.tmp 36) (.seq (.after (.region [⟨false, [], [⟨(some 4), none, .val (.const (.bool true))⟩]⟩]) [4])
  (.live [4] (.ret))) (.skip)) [0, 1, 5, 7, 28, 29, 30]))
  (.after (.region [⟨false, [], [⟨(some 37), none, .val (.tmp 5)⟩,
      ⟨(some 38), none, .val (.tmp 37)⟩,
      ⟨(some 39), (some (38, true)), .val (.tmp 7)⟩,
      ⟨(some 40), (some (38, true)), .callg 28 [.tmp 39]⟩,
      ⟨(some 41), none, .pick (.tmp 38) (.tmp 40) (.const (.bool false))⟩,
      ⟨(some 5), none, .val (.tmp 41)⟩]⟩]) [0, 1, 5, 28, 29, 30])))) [0, 1, 5, 28, 29, 30])
  (.after (.region [⟨false, [], [⟨(some 42), none, .bin .add (.tmp 30) (.const (.int .i64 1))⟩,
      ⟨(some 30), none, .val (.tmp 42)⟩]⟩]) [0, 1, 5, 28, 29, 30]))))
/-- carpetbag.carpetbaglaw12.DescPrints -/
def code46 : AFunc := ⟨false, false, 2, 83, [.tmp 4],
  .seq (.after (.region [⟨false, [], [⟨(some 4), none, .val (.const (.bool false))⟩]⟩]) [0, 1])
  (.seq (.seq (.after (.region [⟨false, [], [⟨(some 12), none, .callg 39 []⟩,
      ⟨(some 13), none, .un .not (.tmp 12)⟩]⟩]) [0, 1, 13])
  (.after (.cond (.tmp 13) (.seq (.after (.region [⟨false, [], [⟨(some 4), none, .val (.const (.bool false))⟩]⟩]) [4])
  (.live [4] (.ret))) (.skip)) [0, 1]))
  (.seq (.seq (.after (.region [⟨false, [], [⟨(some 14), none, .val (.tmp 0)⟩,
      ⟨(some 15), none, .len .sl (.tmp 14)⟩,
      ⟨(some 16), none, .bin .gtr (.tmp 15) (.const (.int .i64 30))⟩,
      ⟨(some 17), none, .val (.tmp 16)⟩,
      ⟨(some 18), (some (17, false)), .val (.tmp 1)⟩,
      ⟨(some 19), (some (17, false)), .len .str (.tmp 18)⟩,
      ⟨(some 20), (some (17, false)), .bin .gtr (.tmp 19) (.const (.int .i64 200))⟩,
      ⟨(some 21), none, .pick (.tmp 17) (.const (.bool true)) (.tmp 20)⟩]⟩]) [0, 1, 21])
  (.after (.cond (.tmp 21) (.seq (.after (.region [⟨false, [], [⟨(some 4), none, .val (.const (.bool true))⟩]⟩]) [4])
  (.live [4] (.ret))) (.skip)) [0, 1]))
  (.seq (.after (.region [⟨false, [], [⟨(some 22), none, .val (.tmp 1)⟩,
      ⟨(some 23), none, .callg 28 [.tmp 22]⟩,
      ⟨(some 24), none, .val (.tmp 23)⟩,
      ⟨(some 25), (some (24, false)), .val (.tmp 1)⟩,
      ⟨(some 26), (some (24, false)), .bin .eql (.tmp 25) (.const (.str [86]))⟩,
      ⟨(some 27), none, .pick (.tmp 24) (.const (.bool true)) (.tmp 26)⟩,
      ⟨(some 5), none, .val (.tmp 27)⟩]⟩]) [0, 1, 5])
  (.seq (.seq (.after (.region [⟨false, [], [⟨(some 28), none, .val (.tmp 0)⟩,
      ⟨(some 29), none, .len .sl (.tmp 28)⟩,
      ⟨(some 30), none, .val (.const (.int .i64 0))⟩]⟩]) [0, 1, 5, 28, 29, 30])
  (.after (.block 0 (.loop code46L0)) [0, 1, 5]))
  (.seq (.after (.region [⟨false, [], [⟨(some 43), none, .val (.tmp 0)⟩,
      ⟨(some 44), none, .val (.tmp 1)⟩,
      ⟨(some 45), none, .callg 45 [.tmp 43, .tmp 44]⟩,
      ⟨(some 8), none, .val (.tmp 45)⟩]⟩]) [0, 1, 5, 8])
  (.seq (.seq (.after (.region [⟨false, [], [⟨(some 46), none, .val (.tmp 8)⟩,
      ⟨(some 47), none, .val (.tmp 0)⟩,
      ⟨(some 48), none, .val (.tmp 1)⟩,
      ⟨(some 49), none, .callg 42 [.tmp 47, .tmp 48]⟩,
      ⟨(some 50), none, .bin .neq (.tmp 46) (.tmp 49)⟩,
      ⟨(some 51), none, .val (.tmp 50)⟩,
      ⟨(some 52), (some (51, false)), .val (.tmp 0)⟩,
      ⟨(some 53), (some (51, false)), .callg 43 [.tmp 52]⟩,
      ⟨(some 54), (some (51, false)), .val (.tmp 0)⟩,
      ⟨(some 55), (some (51, false)), .callg 44 [.tmp 54]⟩,
      ⟨(some 56), (some (51, false)), .bin .neq (.tmp 53) (.tmp 55)⟩,
      ⟨(some 57), none, .pick (.tmp 51) (.const (.bool true)) (.tmp 56)⟩]⟩]) [0, 1, 5, 8, 57])
  (.after (.cond (.tmp 57) (.seq (.after (.region [⟨false, [], [⟨(some 4), none, .val (.const (.bool false))⟩]⟩]) [4])
  (.live [4] (.ret))) (.skip)) [0, 1, 5, 8]))
  (.seq (.seq (.after (.region [⟨false, [], [⟨(some 58), none, .val (.tmp 5)⟩,
      ⟨(some 59), none, .un .not (.tmp 58)⟩,
      ⟨(some 60), none, .val (.tmp 59)⟩,
      ⟨(some 61), (some (60, false)), .val (.tmp 0)⟩,
      ⟨(some 62), (some (60, false)), .len .sl (.tmp 61)⟩,
      ⟨(some 63), (some (60, false)), .bin .gtr (.tmp 62) (.const (.int .i64 16))⟩,
      ⟨(some 64), none, .pick (.tmp 60) (.const (.bool true)) (.tmp 63)⟩]⟩]) [0, 1, 8, 64])
  (.after (.cond (.tmp 64) (.seq (.after (.region [⟨false, [], [⟨(some 4), none, .val (.const (.bool true))⟩]⟩]) [4])
  (.live [4] (.ret))) (.skip)) [0, 1, 8]))
  (.seq (.after (.region [⟨false, [], [⟨(some 66), none, .val (.tmp 8)⟩,
      ⟨(some 67), none, .callg 38 [.tmp 66]⟩,
      ⟨(some 65), none, .val (.tmp 67)⟩,
      ⟨(some 68), none, .extract (.tmp 65) 0⟩,
      ⟨(some 69), none, .extract (.tmp 65) 1⟩,
      ⟨(some 70), none, .extract (.tmp 65) 2⟩,
      ⟨(some 9), none, .val (.tmp 68)⟩,
      ⟨(some 10), none, .val (.tmp 69)⟩,
      ⟨(some 11), none, .val (.tmp 70)⟩]⟩]) [0, 1, 9, 10, 11])
  (.seq (.after (.region [⟨false, [], [⟨(some 71), none, .val (.tmp 11)⟩,
      ⟨(some 72), none, .bin .eql (.tmp 71) (.const (.int .i64 0))⟩,
      ⟨(some 73), none, .val (.tmp 72)⟩,
      ⟨(some 74), (some (73, true)), .val (.tmp 9)⟩,
      ⟨(some 75), (some (73, true)), .val (.tmp 0)⟩,
      ⟨(some 76), (some (73, true)), .callg 29 [.tmp 74, .tmp 75]⟩,
      ⟨(some 77), none, .pick (.tmp 73) (.tmp 76) (.const (.bool false))⟩,
      ⟨(some 78), none, .val (.tmp 77)⟩,
      ⟨(some 79), (some (78, true)), .val (.tmp 10)⟩,
      ⟨(some 80), (some (78, true)), .val (.tmp 1)⟩,
      ⟨(some 81), (some (78, true)), .bin .eql (.tmp 79) (.tmp 80)⟩,
      ⟨(some 82), none, .pick (.tmp 78) (.tmp 81) (.const (.bool false))⟩,
      ⟨(some 4), none, .val (.tmp 82)⟩]⟩]) [4])
  (.live [4] (.ret))))))))))), none⟩
/-- carpetbag.carpetbaglaw12.fixed -/
def code39 : AFunc := ⟨true, false, 0, 50, [.tmp 0],
  .seq (.after (.region [⟨false, [], [⟨(some 0), none, .val (.const (.bool false))⟩]⟩]) [])
  (.seq (.after (.region [⟨false, [], [⟨(some 8), none, .callg 38 [.const (.str [40, 73, 91, 66, 76, 97, 47, 66, 59, 41, 86])]⟩,
      ⟨(some 7), none, .val (.tmp 8)⟩,
      ⟨(some 9), none, .extract (.tmp 7) 0⟩,
      ⟨(some 10), none, .extract (.tmp 7) 1⟩,
      ⟨(some 11), none, .extract (.tmp 7) 2⟩,
      ⟨(some 1), none, .val (.tmp 9)⟩,
      ⟨(some 2), none, .val (.tmp 10)⟩,
      ⟨(some 3), none, .val (.tmp 11)⟩]⟩]) [1, 2, 3])
  (.seq (.after (.region [⟨false, [], [⟨(some 13), none, .callg 38 [.const (.str [40, 41])]⟩,
      ⟨(some 12), none, .val (.tmp 13)⟩,
      ⟨(some 14), none, .extract (.tmp 12) 0⟩,
      ⟨(some 15), none, .extract (.tmp 12) 1⟩,
      ⟨(some 16), none, .extract (.tmp 12) 2⟩,
      ⟨(some 4), none, .val (.tmp 14)⟩,
      ⟨(some 5), none, .val (.tmp 15)⟩,
      ⟨(some 6), none, .val (.tmp 16)⟩]⟩]) [1, 2, 3, 6])
  (.seq (.after (.region [⟨false, [], [⟨(some 17), none, .val (.tmp 3)⟩,
      ⟨(some 18), none, .bin .eql (.tmp 17) (.const (.int .i64 0))⟩,
      ⟨(some 19), none, .val (.tmp 18)⟩,
      ⟨(some 20), (some (19, true)), .val (.tmp 6)⟩,
      ⟨(some 21), (some (19, true)), .bin .eql (.tmp 20) (.const (.int .i64 8))⟩,
      ⟨(some 22), none, .pick (.tmp 19) (.tmp 21) (.const (.bool false))⟩,
      ⟨(some 23), none, .val (.tmp 22)⟩,
      ⟨(some 24), (some (23, true)), .val (.tmp 1)⟩,
      ⟨(some 25), (some (23, true)), .len .sl (.tmp 24)⟩,
      ⟨(some 26), (some (23, true)), .bin .eql (.tmp 25) (.const (.int .i64 3))⟩,
      ⟨(some 27), none, .pick (.tmp 23) (.tmp 26) (.const (.bool false))⟩,
      ⟨(some 28), none, .val (.tmp 27)⟩,
      ⟨(some 29), (some (28, true)), .val (.tmp 1)⟩,
      ⟨(some 30), (some (28, true)), .iaddr 1 (.tmp 29) (.const (.int .i64 1))⟩,
      ⟨(some 31), (some (28, true)), .load none (.tmp 30)⟩,
      ⟨(some 32), (some (28, true)), .bin .eql (.tmp 31) (.const (.str [91, 66]))⟩,
      ⟨(some 33), none, .pick (.tmp 28) (.tmp 32) (.const (.bool false))⟩,
      ⟨(some 34), none, .val (.tmp 33)⟩,
      ⟨(some 35), (some (34, true)), .val (.tmp 2)⟩,
      ⟨(some 36), (some (34, true)), .bin .eql (.tmp 35) (.const (.str [86]))⟩,
      ⟨(some 37), none, .pick (.tmp 34) (.tmp 36) (.const (.bool false))⟩,
      ⟨(some 38), none, .val (.tmp 37)⟩,
      ⟨(some 39), (some (38, true)), .mkslice 1 3 [.str [], .str [], .str []] [(0, 1, .const (.str [74])), (1, 1, .const (.str [73])), (2, 1, .const (.str [86]))]⟩,
      ⟨(some 40), (some (38, true)), .callg 43 [.tmp 39]⟩,
      ⟨(some 41), (some (38, true)), .bin .eql (.tmp 40) (.const (.int .i64 3))⟩,
      ⟨(some 42), none, .pick (.tmp 38) (.tmp 41) (.const (.bool false))⟩,
      ⟨(some 43), none, .val (.tmp 42)⟩,
      ⟨(some 44), (some (43, true)), .callg 25 [.const (.str [97, 47, 66])]⟩,
      ⟨(some 45), none, .pick (.tmp 43) (.tmp 44) (.const (.bool false))⟩,
      ⟨(some 46), none, .val (.tmp 45)⟩,
      ⟨(some 47), (some (46, true)), .callg 25 [.const (.str [97, 47])]⟩,
      ⟨(some 48), (some (46, true)), .un .not (.tmp 47)⟩,
      ⟨(some 49), none, .pick (.tmp 46) (.tmp 48) (.const (.bool false))⟩,
      ⟨(some 0), none, .val (.tmp 49)⟩]⟩]) [0])
  (.live [0] (.ret))))), none⟩
def code38L0 : ACode :=
  .live [5, 7] (.seq (.seq (.after (.region [⟨false, [], [⟨(some 17), none, .val (.tmp 5)⟩,
      ⟨(some 18), none, .bin .neq (.tmp 17) (.const (.str []))⟩,
      ⟨(some 19), none, .val (.tmp 18)⟩,
      ⟨(some 20), (some (19, true)), .val (.tmp 5)⟩,
      ⟨(some 21), (some (19, true)), .index (.tmp 20) (.const (.int .i64 0))⟩,
      ⟨(some 22), (some (19, true)), .bin .neq (.tmp 21) (.const (.int .u8 41))⟩,
      ⟨(some 23), none, .pick (.tmp 19) (.tmp 22) (.const (.bool false))⟩]⟩]) [5, 7, 23])
  (.after (.cond (.tmp 23) (.skip) (.live [5, 7] (.exit 0))) [5, 7]))
  (.after (.block 1 (.seq (.after (.region [⟨false, [], [⟨(some 24), none, .val (.tmp 5)⟩,
      ⟨(some 25), none, .callg 86 [.tmp 24]⟩,
      ⟨(some 8), none, .val (.tmp 25)⟩]⟩]) [5, 7, 8])
  (.seq (.seq (.after (.region [⟨false, [], [⟨(some 26), none, .val (.tmp 8)⟩,
      ⟨(some 27), none, .bin .eql (.tmp 26) (.const (.str []))⟩,
      ⟨(some 28), none, .val (.tmp 27)⟩,
      ⟨(some 29), (some (28, false)), .val (.tmp 7)⟩,
      ⟨(some 30), (some (28, false)), .len .sl (.tmp 29)⟩,
      ⟨(some 31), (some (28, false)), .bin .eql (.tmp 30) (.const (.int .i64 16))⟩,
      ⟨(some 32), none, .pick (.tmp 28) (.const (.bool true)) (.tmp 31)⟩]⟩]) [5, 7, 8, 32])
  (.after (.cond (.tmp 32) (.seq (.after (.region [⟨false, [], [⟨(some 2), none, .val (.const (.slice none 0 (some 0)))⟩,
      ⟨(some 3), none, .val (.const (.str []))⟩,
      ⟨(some 4), none, .val (.const (.int .i64 8))⟩]⟩]) [2, 3, 4])
  (.live [2, 3, 4] (.ret))) (.skip)) [5, 7, 8]))
  (.after (.region [⟨true, [0, 0, 2, 7, 0, 0, 32, 112, 15], [⟨(some 33), none, .val (.tmp 7)⟩,
      ⟨(some 34), none, .val (.tmp 8)⟩,
      ⟨(some 35), none, .mkslice 1 1 [.str []] [(0, 1, .tmp 34)]⟩,
      ⟨(some 36), none, .append 1 16 (.tmp 33) (.tmp 35)⟩,
      ⟨(some 37), none, .val (.tmp 5)⟩,
      ⟨(some 38), none, .val (.tmp 8)⟩,
      ⟨(some 39), none, .len .str (.tmp 38)⟩,
      ⟨(some 40), none, .slice .str (.tmp 37) (some (.tmp 39)) none none⟩,
      ⟨(some 7), none, .val (.tmp 36)⟩]⟩, ⟨false, [], [⟨(some 5), none, .val (.tmp 40)⟩]⟩]) [5, 7])))) [5, 7]))
/-- carpetbag.desc.Method -/
def code38 : AFunc := ⟨false, false, 1, 59, [.tmp 2, .tmp 3, .tmp 4],
  .seq (.after (.region [⟨false, [], [⟨(some 2), none, .val (.const (.slice none 0 (some 0)))⟩,
      ⟨(some 3), none, .val (.const (.str []))⟩,
      ⟨(some 4), none, .val (.const (.int .i64 0))⟩]⟩]) [0])
  (.seq (.after (.region [⟨false, [], [⟨(some 11), none, .val (.tmp 0)⟩,
      ⟨(some 12), none, .callg 85 [.tmp 11, .const (.str [40])]⟩,
      ⟨(some 10), none, .val (.tmp 12)⟩,
      ⟨(some 13), none, .extract (.tmp 10) 0⟩,
      ⟨(some 14), none, .extract (.tmp 10) 1⟩,
      ⟨(some 5), none, .val (.tmp 13)⟩,
      ⟨(some 6), none, .val (.tmp 14)⟩]⟩]) [5, 6])
  (.seq (.seq (.after (.region [⟨false, [], [⟨(some 15), none, .val (.tmp 6)⟩,
      ⟨(some 16), none, .un .not (.tmp 15)⟩]⟩]) [5, 16])
  (.after (.cond (.tmp 16) (.seq (.after (.region [⟨false, [], [⟨(some 2), none, .val (.const (.slice none 0 (some 0)))⟩,
      ⟨(some 3), none, .val (.const (.str []))⟩,
      ⟨(some 4), none, .val (.const (.int .i64 8))⟩]⟩]) [2, 3, 4])
  (.live [2, 3, 4] (.ret))) (.skip)) [5]))
  (.seq (.after (.region [⟨false, [], [⟨(some 7), none, .val (.const (.slice none 0 (some 0)))⟩]⟩]) [5, 7])
  (.seq (.after (.block 0 (.loop code38L0)) [5, 7])
  (.seq (.after (.region [⟨false, [], [⟨(some 42), none, .val (.tmp 5)⟩,
      ⟨(some 43), none, .callg 85 [.tmp 42, .const (.str [41])]⟩,
      ⟨(some 41), none, .val (.tmp 43)⟩,
      ⟨(some 44), none, .extract (.tmp 41) 0⟩,
      ⟨(some 45), none, .extract (.tmp 41) 1⟩,
      ⟨(some 9), none, .val (.tmp 44)⟩,
      ⟨(some 6), none, .val (.tmp 45)⟩]⟩]) [6, 7, 9])
  (.seq (.seq (.after (.region [⟨false, [], [⟨(some 46), none, .val (.tmp 6)⟩,
      ⟨(some 47), none, .un .not (.tmp 46)⟩,
      ⟨(some 48), none, .val (.tmp 47)⟩,
      ⟨(some 49), (some (48, false)), .val (.tmp 9)⟩,
      ⟨(some 50), (some (48, false)), .bin .neq (.tmp 49) (.const (.str [86]))⟩,
      ⟨(some 51), (some (48, false)), .val (.tmp 50)⟩,
      ⟨(some 52), (some (51, true)), .val (.tmp 9)⟩,
      ⟨(some 53), (some (51, true)), .callg 27 [.tmp 52]⟩,
      ⟨(some 54), (some (51, true)), .un .not (.tmp 53)⟩,
      ⟨(some 55), (some (48, false)), .pick (.tmp 51) (.tmp 54) (.const (.bool false))⟩,
      ⟨(some 56), none, .pick (.tmp 48) (.const (.bool true)) (.tmp 55)⟩]⟩]) [7, 9, 56])
  (.after (.cond (.tmp 56) (.seq (.after (.region [⟨false, [], [⟨(some 2), none, .val (.const (.slice none 0 (some 0)))⟩,
      ⟨(some 3), none, .val (.const (.str []))⟩,
      ⟨(some 4), none, .val (.const (.int .i64 8))⟩]⟩]) [2, 3, 4])
  (.live [2, 3, 4] (.ret))) (.skip)) [7, 9]))
  (.seq (.after (.region [⟨false, [], [⟨(some 57), none, .val (.tmp 7)⟩,
      ⟨(some 58), none, .val (.tmp 9)⟩,
      ⟨(some 2), none, .val (.tmp 57)⟩,
      ⟨(some 3), none, .val (.tmp 58)⟩,
      ⟨(some 4), none, .val (.const (.int .i64 0))⟩]⟩]) [2, 3, 4])
  (.live [2, 3, 4] (.ret))))))))), none⟩
def code37L0 : ACode :=
  .live [5, 6] (.seq (.seq (.after (.region [⟨false, [], [⟨(some 17), none, .val (.tmp 6)⟩,
      ⟨(some 18), none, .bin .neq (.tmp 17) (.const (.str []))⟩,
      ⟨(some 19), none, .val (.tmp 18)⟩,
      ⟨(some 20), (some (19, true)), .val (.tmp 6)⟩,
      ⟨(some 21), (some (19, true)), .index (.tmp 20) (.const (.int .i64 0))⟩,
      ⟨(some 22), (some (19, true)), .bin .neq (.tmp 21) (.const (.int .u8 41))⟩,
      ⟨(some 23), none, .pick (.tmp 19) (.tmp 22) (.const (.bool false))⟩]⟩]) [5, 6, 23])
  (.after (.cond (.tmp 23) (.skip) (.live [5, 6] (.exit 0))) [5, 6]))
  (.after (.block 1 (.seq (.after (.region [⟨false, [], [⟨(some 24), none, .val (.tmp 6)⟩,
      ⟨(some 25), none, .callg 87 [.tmp 24]⟩,
      ⟨(some 7), none, .val (.tmp 25)⟩]⟩]) [5, 6, 7])
  (.seq (.seq (.after (.region [⟨false, [], [⟨(some 26), none, .val (.tmp 7)⟩,
      ⟨(some 27), none, .bin .eql (.tmp 26) (.const (.str []))⟩,
      ⟨(some 28), none, .val (.tmp 27)⟩,
      ⟨(some 29), (some (28, false)), .val (.tmp 5)⟩,
      ⟨(some 30), (some (28, false)), .len .sl (.tmp 29)⟩,
      ⟨(some 31), (some (28, false)), .bin .eql (.tmp 30) (.const (.int .i64 16))⟩,
      ⟨(some 32), none, .pick (.tmp 28) (.const (.bool true)) (.tmp 31)⟩]⟩]) [5, 6, 7, 32])
  (.after (.cond (.tmp 32) (.seq (.after (.region [⟨false, [], [⟨(some 2), none, .val (.const (.slice none 0 (some 0)))⟩,
      ⟨(some 3), none, .val (.const (.str []))⟩,
      ⟨(some 4), none, .val (.const (.int .i64 8))⟩]⟩]) [2, 3, 4])
  (.live [2, 3, 4] (.ret))) (.skip)) [5, 6, 7]))
  (.seq (.after (.region [⟨false, [], [⟨(some 33), none, .val (.tmp 5)⟩,
      ⟨(some 34), none, .val (.tmp 7)⟩,
      ⟨(some 35), none, .mkslice 1 1 [.str []] [(0, 1, .tmp 34)]⟩,
      ⟨(some 36), none, .append 1 16 (.tmp 33) (.tmp 35)⟩,
      ⟨(some 5), none, .val (.tmp 36)⟩]⟩]) [5, 6, 7])
  (.after (.region [⟨false, [], [⟨(some 37), none, .val (.tmp 6)⟩,
      ⟨(some 38), none, .val (.tmp 7)⟩,
      ⟨(some 39), none, .len .str (.tmp 38)⟩,
      ⟨(some 40), none, .slice .str (.tmp 37) (some (.tmp 39)) none none⟩,
      ⟨(some 6), none, .val (.tmp 40)⟩]⟩]) [5, 6]))))) [5, 6]))
/-- carpetbag.carpetbagref12.Method -/
def code37 : AFunc := ⟨false, false, 1, 57, [.tmp 2, .tmp 3, .tmp 4],
  .seq (.after (.region [⟨false, [], [⟨(some 2), none, .val (.const (.slice none 0 (some 0)))⟩,
      ⟨(some 3), none, .val (.const (.str []))⟩,
      ⟨(some 4), none, .val (.const (.int .i64 0))⟩]⟩]) [0])
  (.seq (.seq (.after (.region [⟨false, [], [⟨(some 8), none, .val (.tmp 0)⟩,
      ⟨(some 9), none, .bin .eql (.tmp 8) (.const (.str []))⟩,
      ⟨(some 10), none, .val (.tmp 9)⟩,
      ⟨(some 11), (some (10, false)), .val (.tmp 0)⟩,
      ⟨(some 12), (some (10, false)), .index (.tmp 11) (.const (.int .i64 0))⟩,
      ⟨(some 13), (some (10, false)), .bin .neq (.tmp 12) (.const (.int .u8 40))⟩,
      ⟨(some 14), none, .pick (.tmp 10) (.const (.bool true)) (.tmp 13)⟩]⟩]) [0, 14])
  (.after (.cond (.tmp 14) (.seq (.after (.region [⟨false, [], [⟨(some 2), none, .val (.const (.slice none 0 (some 0)))⟩,
      ⟨(some 3), none, .val (.const (.str []))⟩,
      ⟨(some 4), none, .val (.const (.int .i64 8))⟩]⟩]) [2, 3, 4])
  (.live [2, 3, 4] (.ret))) (.skip)) [0]))
  (.seq (.after (.region [⟨false, [], [⟨(some 5), none, .val (.const (.slice none 0 (some 0)))⟩]⟩]) [0, 5])
  (.seq (.after (.region [⟨false, [], [⟨(some 15), none, .val (.tmp 0)⟩,
      ⟨(some 16), none, .slice .str (.tmp 15) (some (.const (.int .i64 1))) none none⟩,
      ⟨(some 6), none, .val (.tmp 16)⟩]⟩]) [5, 6])
  (.seq (.after (.block 0 (.loop code37L0)) [5, 6])
  (.seq (.seq (.after (.region [⟨false, [], [⟨(some 41), none, .val (.tmp 6)⟩,
      ⟨(some 42), none, .bin .eql (.tmp 41) (.const (.str []))⟩,
      ⟨(some 43), none, .val (.tmp 42)⟩,
      ⟨(some 44), (some (43, false)), .val (.tmp 6)⟩,
      ⟨(some 45), (some (43, false)), .slice .str (.tmp 44) (some (.const (.int .i64 1))) none none⟩,
      ⟨(some 46), (some (43, false)), .callg 28 [.tmp 45]⟩,
      ⟨(some 47), (some (43, false)), .un .not (.tmp 46)⟩,
      ⟨(some 48), (some (43, false)), .val (.tmp 47)⟩,
      ⟨(some 49), (some (48, true)), .val (.tmp 6)⟩,
      ⟨(some 50), (some (48, true)), .slice .str (.tmp 49) (some (.const (.int .i64 1))) none none⟩,
      ⟨(some 51), (some (48, true)), .bin .neq (.tmp 50) (.const (.str [86]))⟩,
      ⟨(some 52), (some (43, false)), .pick (.tmp 48) (.tmp 51) (.const (.bool false))⟩,
      ⟨(some 53), none, .pick (.tmp 43) (.const (.bool true)) (.tmp 52)⟩]⟩]) [5, 6, 53])
  (.after (.cond (.tmp 53) (.seq (.after (.region [⟨false, [], [⟨(some 2), none, .val (.const (.slice none 0 (some 0)))⟩,
      ⟨(some 3), none, .val (.const (.str []))⟩,
      ⟨(some 4), none, .val (.const (.int .i64 8))⟩]⟩]) [2, 3, 4])
  (.live [2, 3, 4] (.ret))) (.skip)) [5, 6]))
  (.seq (.after (.region [⟨true, [], [⟨(some 54), none, .val (.tmp 5)⟩,
      ⟨(some 55), none, .val (.tmp 6)⟩,
      ⟨(some 56), none, .slice .str (.tmp 55) (some (.const (.int .i64 1))) none none⟩,
      ⟨(some 2), none, .val (.tmp 54)⟩]⟩, ⟨false, [], [⟨(some 3), none, .val (.tmp 56)⟩,
      ⟨(some 4), none, .val (.const (.int .i64 0))⟩]⟩]) [2, 3, 4])
  (.live [2, 3, 4] (.ret)))))))), none⟩
/-- carpetbag.desc.Elem -/
def code36 : AFunc := ⟨false, false, 1, 14, [.tmp 2, .tmp 3],
  .seq (.after (.region [⟨false, [], [⟨(some 2), none, .val (.const (.str []))⟩,
      ⟨(some 3), none, .val (.const (.bool false))⟩]⟩]) [0])
  (.seq (.after (.region [⟨false, [], [⟨(some 7), none, .val (.tmp 0)⟩,
      ⟨(some 8), none, .callg 85 [.tmp 7, .const (.str [91])]⟩,
      ⟨(some 6), none, .val (.tmp 8)⟩,
      ⟨(some 9), none, .extract (.tmp 6) 0⟩,
      ⟨(some 10), none, .extract (.tmp 6) 1⟩,
      ⟨(some 4), none, .val (.tmp 9)⟩,
      ⟨(some 5), none, .val (.tmp 10)⟩]⟩]) [4, 5])
  (.seq (.seq (.after (.region [⟨false, [], [⟨(some 11), none, .val (.tmp 5)⟩,
      ⟨(some 12), none, .un .not (.tmp 11)⟩]⟩]) [4, 12])
  (.after (.cond (.tmp 12) (.seq (.after (.region [⟨false, [], [⟨(some 2), none, .val (.const (.str []))⟩,
      ⟨(some 3), none, .val (.const (.bool false))⟩]⟩]) [2, 3])
  (.live [2, 3] (.ret))) (.skip)) [4]))
  (.seq (.after (.region [⟨false, [], [⟨(some 13), none, .val (.tmp 4)⟩,
      ⟨(some 2), none, .val (.tmp 13)⟩,
      ⟨(some 3), none, .val (.const (.bool true))⟩]⟩]) [2, 3])
  (.live [2, 3] (.ret))))), none⟩
/-- carpetbag.carpetbagref12.Elem -/
def code35 : AFunc := ⟨false, false, 1, 13, [.tmp 2, .tmp 3],
  .seq (.after (.region [⟨false, [], [⟨(some 2), none, .val (.const (.str []))⟩,
      ⟨(some 3), none, .val (.const (.bool false))⟩]⟩]) [0])
  (.seq (.seq (.after (.region [⟨false, [], [⟨(some 4), none, .val (.tmp 0)⟩,
      ⟨(some 5), none, .bin .eql (.tmp 4) (.const (.str []))⟩,
      ⟨(some 6), none, .val (.tmp 5)⟩,
      ⟨(some 7), (some (6, false)), .val (.tmp 0)⟩,
      ⟨(some 8), (some (6, false)), .index (.tmp 7) (.const (.int .i64 0))⟩,
      ⟨(some 9), (some (6, false)), .bin .neq (.tmp 8) (.const (.int .u8 91))⟩,
      ⟨(some 10), none, .pick (.tmp 6) (.const (.bool true)) (.tmp 9)⟩]⟩]) [0, 10])
  (.after (.cond (.tmp 10) (.seq (.after (.region [⟨false, [], [⟨(some 2), none, .val (.const (.str []))⟩,
      ⟨(some 3), none, .val (.const (.bool false))⟩]⟩]) [2, 3])
  (.live [2, 3] (.ret))) (.skip)) [0]))
  (.seq (.after (.region [⟨false, [], [⟨(some 11), none, .val (.tmp 0)⟩,
      ⟨(some 12), none, .slice .str (.tmp 11) (some (.const (.int .i64 1))) none none⟩,
      ⟨(some 2), none, .val (.tmp 12)⟩,
      ⟨(some 3), none, .val (.const (.bool true))⟩]⟩]) [2, 3])
  (.live [2, 3] (.ret)))), none⟩
/-- carpetbag.desc.ClassOf -/
def code34 : AFunc := ⟨false, false, 1, 22, [.tmp 2, .tmp 3],
  .seq (.after (.region [⟨false, [], [⟨(some 2), none, .val (.const (.str []))⟩,
      ⟨(some 3), none, .val (.const (.bool false))⟩]⟩]) [0])
  (.seq (.seq (.after (.region [⟨false, [], [⟨(some 4), none, .val (.tmp 0)⟩,
      ⟨(some 5), none, .len .str (.tmp 4)⟩,
      ⟨(some 6), none, .bin .lss (.tmp 5) (.const (.int .i64 2))⟩,
      ⟨(some 7), none, .val (.tmp 6)⟩,
      ⟨(some 8), (some (7, false)), .val (.tmp 0)⟩,
      ⟨(some 9), (some (7, false)), .callg 88 [.tmp 8, .const (.str [76])]⟩,
      ⟨(some 10), (some (7, false)), .un .not (.tmp 9)⟩,
      ⟨(some 11), none, .pick (.tmp 7) (.const (.bool true)) (.tmp 10)⟩,
      ⟨(some 12), none, .val (.tmp 11)⟩,
      ⟨(some 13), (some (12, false)), .val (.tmp 0)⟩,
      ⟨(some 14), (some (12, false)), .callg 89 [.tmp 13, .const (.str [59])]⟩,
      ⟨(some 15), (some (12, false)), .un .not (.tmp 14)⟩,
      ⟨(some 16), none, .pick (.tmp 12) (.const (.bool true)) (.tmp 15)⟩]⟩]) [0, 16])
  (.after (.cond (.tmp 16) (.seq (.after (.region [⟨false, [], [⟨(some 2), none, .val (.const (.str []))⟩,
      ⟨(some 3), none, .val (.const (.bool false))⟩]⟩]) [2, 3])
  (.live [2, 3] (.ret))) (.skip)) [0]))
  (.seq (.after (.region [⟨false, [], [⟨(some 17), none, .val (.tmp 0)⟩,
      ⟨(some 18), none, .val (.tmp 0)⟩,
      ⟨(some 19), none, .len .str (.tmp 18)⟩,
      ⟨(some 20), none, .bin .sub (.tmp 19) (.const (.int .i64 1))⟩,
      ⟨(some 21), none, .slice .str (.tmp 17) (some (.const (.int .i64 1))) (some (.tmp 20)) none⟩,
      ⟨(some 2), none, .val (.tmp 21)⟩,
      ⟨(some 3), none, .val (.const (.bool true))⟩]⟩]) [2, 3])
  (.live [2, 3] (.ret)))), none⟩
/-- carpetbag.carpetbagref12.ClassOf -/
def code33 : AFunc := ⟨false, false, 1, 25, [.tmp 2, .tmp 3],
  .seq (.after (.region [⟨false, [], [⟨(some 2), none, .val (.const (.str []))⟩,
      ⟨(some 3), none, .val (.const (.bool false))⟩]⟩]) [0])
  (.seq (.seq (.after (.region [⟨false, [], [⟨(some 4), none, .val (.tmp 0)⟩,
      ⟨(some 5), none, .len .str (.tmp 4)⟩,
      ⟨(some 6), none, .bin .lss (.tmp 5) (.const (.int .i64 2))⟩,
      ⟨(some 7), none, .val (.tmp 6)⟩,
      ⟨(some 8), (some (7, false)), .val (.tmp 0)⟩,
      ⟨(some 9), (some (7, false)), .index (.tmp 8) (.const (.int .i64 0))⟩,
      ⟨(some 10), (some (7, false)), .bin .neq (.tmp 9) (.const (.int .u8 76))⟩,
      ⟨(some 11), none, .pick (.tmp 7) (.const (.bool true)) (.tmp 10)⟩,
      ⟨(some 12), none, .val (.tmp 11)⟩,
      ⟨(some 13), (some (12, false)), .val (.tmp 0)⟩,
      ⟨(some 14), (some (12, false)), .val (.tmp 0)⟩,
      ⟨(some 15), (some (12, false)), .len .str (.tmp 14)⟩,
      ⟨(some 16), (some (12, false)), .bin .sub (.tmp 15) (.const (.int .i64 1))⟩,
      ⟨(some 17), (some (12, false)), .index (.tmp 13) (.tmp 16)⟩,
      ⟨(some 18), (some (12, false)), .bin .neq (.tmp 17) (.const (.int .u8 59))⟩,
      ⟨(some 19), none, .pick (.tmp 12) (.const (.bool true)) (.tmp 18)⟩]⟩]) [0, 19])
  (.after (.cond (.tmp 19) (.seq (.after (.region [⟨false, [], [⟨(some 2), none, .val (.const (.str []))⟩,
      ⟨(some 3), none, .val (.const (.bool false))⟩]⟩]) [2, 3])
  (.live [2, 3] (.ret))) (.skip)) [0]))
  (.seq (.after (.region [⟨false, [], [⟨(some 20), none, .val (.tmp 0)⟩,
      ⟨(some 21), none, .val (.tmp 0)⟩,
      ⟨(some 22), none, .len .str (.tmp 21)⟩,
      ⟨(some 23), none, .bin .sub (.tmp 22) (.const (.int .i64 1))⟩,
      ⟨(some 24), none, .slice .str (.tmp 20) (some (.const (.int .i64 1))) (some (.tmp 23)) none⟩,
      ⟨(some 2), none, .val (.tmp 24)⟩,
      ⟨(some 3), none, .val (.const (.bool true))⟩]⟩]) [2, 3])
  (.live [2, 3] (.ret)))), none⟩
/-- carpetbag.desc.IsClass -/
def code25 : AFunc := ⟨false, false, 1, 12, [.tmp 2],
  .seq (.after (.region [⟨false, [], [⟨(some 2), none, .val (.const (.bool false))⟩]⟩]) [0])
  (.seq (.after (.region [⟨false, [], [⟨(some 3), none, .val (.tmp 0)⟩,
      ⟨(some 4), none, .len .str (.tmp 3)⟩,
      ⟨(some 5), none, .bin .leq (.tmp 4) (.const (.int .i64 64))⟩,
      ⟨(some 6), none, .val (.tmp 5)⟩,
      ⟨(some 7), (some (6, true)), .val (.tmp 0)⟩,
      ⟨(some 8), (some (6, true)), .callg 90 [.tmp 7, .const (.str [47])]⟩,
      ⟨(some 9), (some (6, true)), .callg 91 [.tmp 8, .const (.func 92 [] [])]⟩,
      ⟨(some 10), (some (6, true)), .un .not (.tmp 9)⟩,
      ⟨(some 11), none, .pick (.tmp 6) (.tmp 10) (.const (.bool false))⟩,
      ⟨(some 2), none, .val (.tmp 11)⟩]⟩]) [2])
  (.live [2] (.ret))), none⟩
def code26L0 : ACode :=
  .live [0, 3, 4] (.seq (.seq (.after (.region [⟨false, [], [⟨(some 7), none, .val (.tmp 4)⟩,
      ⟨(some 8), none, .val (.tmp 0)⟩,
      ⟨(some 9), none, .len .str (.tmp 8)⟩,
      ⟨(some 10), none, .bin .lss (.tmp 7) (.tmp 9)⟩]⟩]) [0, 3, 4, 10])
  (.after (.cond (.tmp 10) (.skip) (.live [0, 3] (.exit 0))) [0, 3, 4]))
  (.seq (.after (.block 1 (.seq (.after (.region [⟨false, [], [⟨(some 13), none, .val (.tmp 0)⟩,
      ⟨(some 14), none, .val (.tmp 4)⟩,
      ⟨(some 15), none, .index (.tmp 13) (.tmp 14)⟩,
      ⟨(some 5), none, .val (.tmp 15)⟩]⟩]) [0, 3, 4, 5])
  (.seq (.after (.region [⟨false, [], [⟨(some 16), none, .val (.tmp 5)⟩,
      ⟨(some 17), none, .bin .geq (.tmp 16) (.const (.int .u8 97))⟩,
      ⟨(some 18), none, .val (.tmp 17)⟩,
      ⟨(some 19), (some (18, true)), .val (.tmp 5)⟩,
      ⟨(some 20), (some (18, true)), .bin .leq (.tmp 19) (.const (.int .u8 122))⟩,
      ⟨(some 21), none, .pick (.tmp 18) (.tmp 20) (.const (.bool false))⟩,
      ⟨(some 22), none, .val (.tmp 21)⟩,
      ⟨(some 23), (some (22, false)), .val (.tmp 5)⟩,
      ⟨(some 24), (some (22, false)), .bin .geq (.tmp 23) (.const (.int .u8 65))⟩,
      ⟨(some 25), (some (22, false)), .val (.tmp 24)⟩,
      ⟨(some 26), (some (25, true)), .val (.tmp 5)⟩,
      ⟨(some 27), (some (25, true)), .bin .leq (.tmp 26) (.const (.int .u8 90))⟩,
      ⟨(some 28), (some (22, false)), .pick (.tmp 25) (.tmp 27) (.const (.bool false))⟩,
      ⟨(some 29), none, .pick (.tmp 22) (.const (.bool true)) (.tmp 28)⟩,
      ⟨(some 30), none, .val (.tmp 29)⟩,
      ⟨(some 31), (some (30, false)), .val (.tmp 5)⟩,
      ⟨(some 32), (some (30, false)), .bin .geq (.tmp 31) (.const (.int .u8 48))⟩,
      ⟨(some 33), (some (30, false)), .val (.tmp 32)⟩,
      ⟨(some 34), (some (33, true)), .val (.tmp 5)⟩,
      ⟨(some 35), (some (33, true)), .bin .leq (.tmp 34) (.const (.int .u8 57))⟩,
      ⟨(some 36), (some (30, false)), .pick (.tmp 33) (.tmp 35) (.const (.bool false))⟩,
      ⟨(some 37), none, .pick (.tmp 30) (.const (.bool true)) (.tmp 36)⟩,
      ⟨(some 38), none, .val (.tmp 37)⟩,
      ⟨(some 39), (some (38, false)), .val (.tmp 5)⟩,
      ⟨(some 40), (some (38, false)), .bin .eql (.tmp 39) (.const (.int .u8 95))⟩,
      ⟨(some 41), none, .pick (.tmp 38) (.const (.bool true)) (.tmp 40)⟩,
      ⟨(some 42), none, .val (.tmp 41)⟩,
      ⟨(some 43), (some (42, false)), .val (.tmp 5)⟩,
      ⟨(some 44), (some (42, false)), .bin .eql (.tmp 43) (.const (.int .u8 36))⟩,
      ⟨(some 45), none, .pick (.tmp 42) (.const (.bool true)) (.tmp 44)⟩,
      ⟨(some 6), none, .val (.tmp 45)⟩]⟩]) [0, 3, 4, 5, 6])
  (.seq (.seq (.after (.region [⟨false, [], [⟨(some 46), none, .val (.tmp 6)⟩,
      ⟨(some 47), none, .un .not (.tmp 46)⟩,
      ⟨(some 48), none, .val (.tmp 47)⟩,
      ⟨(some 49), (some (48, true)), .val (.tmp 5)⟩,
      ⟨(some 50), (some (48, true)), .bin .neq (.tmp 49) (.const (.int .u8 47))⟩,
      ⟨(some 51), (some (48, true)), .val (.tmp 50)⟩,
      ⟨(some 52), (some (51, false)), .val (.tmp 3)⟩,
      ⟨(some 53), (some (51, false)), .bin .eql (.tmp 52) (.const (.int .u8 47))⟩,
      ⟨(some 54), (some (48, true)), .pick (.tmp 51) (.const (.bool true)) (.tmp 53)⟩,
      ⟨(some 55), none, .pick (.tmp 48) (.tmp 54) (.const (.bool false))⟩]⟩]) [0, 4, 5, 55])
  (.after (.cond (.tmp 55) (.seq (.after (.region [⟨false, [], [⟨(some 2), none, .val (.const (.bool false))⟩]⟩]) [2])
  (.live [2] (.ret))) (.skip)) [0, 4, 5]))
  (.after (.region [⟨false, [], [⟨(some 56), none, .val (.tmp 5)⟩,
      ⟨(some 3), none, .val (.tmp 56)⟩]⟩]) [0, 3, 4]))))) [0, 3, 4])
  (.after (.region [⟨false, [], [⟨(some 11), none, .val (.tmp 4)⟩,
      ⟨(some 12), none, .bin .add (.tmp 11) (.const (.int .i64 1))⟩,
      ⟨(some 4), none, .val (.tmp 12)⟩]⟩]) [0, 3, 4])))
/-- carpetbag.carpetbagref12.IsClass -/
def code26 : AFunc := ⟨false, false, 1, 64, [.tmp 2],
  .seq (.after (.region [⟨false, [], [⟨(some 2), none, .val (.const (.bool false))⟩]⟩]) [0])
  (.seq (.after (.region [⟨false, [], [⟨(some 3), none, .val (.const (.int .u8 47))⟩]⟩]) [0, 3])
  (.seq (.seq (.after (.region [⟨false, [], [⟨(some 4), none, .val (.const (.int .i64 0))⟩]⟩]) [0, 3, 4])
  (.after (.block 0 (.loop code26L0)) [0, 3]))
  (.seq (.after (.region [⟨false, [], [⟨(some 57), none, .val (.tmp 0)⟩,
      ⟨(some 58), none, .len .str (.tmp 57)⟩,
      ⟨(some 59), none, .bin .leq (.tmp 58) (.const (.int .i64 64))⟩,
      ⟨(some 60), none, .val (.tmp 59)⟩,
      ⟨(some 61), (some (60, true)), .val (.tmp 3)⟩,
      ⟨(some 62), (some (60, true)), .bin .neq (.tmp 61) (.const (.int .u8 47))⟩,
      ⟨(some 63), none, .pick (.tmp 60) (.tmp 62) (.const (.bool false))⟩,
      ⟨(some 2), none, .val (.tmp 63)⟩]⟩]) [2])
  (.live [2] (.ret))))), none⟩
/-- carpetbag.desc.IsType -/
def code27 : AFunc := ⟨false, false, 1, 11, [.tmp 2],
  .seq (.after (.region [⟨false, [], [⟨(some 2), none, .val (.const (.bool false))⟩]⟩]) [0])
  (.seq (.after (.region [⟨false, [], [⟨(some 3), none, .val (.tmp 0)⟩,
      ⟨(some 4), none, .bin .neq (.tmp 3) (.const (.str []))⟩,
      ⟨(some 5), none, .val (.tmp 4)⟩,
      ⟨(some 6), (some (5, true)), .val (.tmp 0)⟩,
      ⟨(some 7), (some (5, true)), .callg 86 [.tmp 6]⟩,
      ⟨(some 8), (some (5, true)), .val (.tmp 0)⟩,
      ⟨(some 9), (some (5, true)), .bin .eql (.tmp 7) (.tmp 8)⟩,
      ⟨(some 10), none, .pick (.tmp 5) (.tmp 9) (.const (.bool false))⟩,
      ⟨(some 2), none, .val (.tmp 10)⟩]⟩]) [2])
  (.live [2] (.ret))), none⟩
def code28L0 : ACode :=
  .live [0, 3] (.seq (.seq (.after (.region [⟨false, [], [⟨(some 5), none, .val (.tmp 3)⟩,
      ⟨(some 6), none, .val (.tmp 0)⟩,
      ⟨(some 7), none, .len .str (.tmp 6)⟩,
      ⟨(some 8), none, .bin .lss (.tmp 5) (.tmp 7)⟩,
      ⟨(some 9), none, .val (.tmp 8)⟩,
      ⟨(some 10), (some (9, true)), .val (.tmp 0)⟩,
      ⟨(some 11), (some (9, true)), .val (.tmp 3)⟩,
      ⟨(some 12), (some (9, true)), .index (.tmp 10) (.tmp 11)⟩,
      ⟨(some 13), (some (9, true)), .bin .eql (.tmp 12) (.const (.int .u8 91))⟩,
      ⟨(some 14), none, .pick (.tmp 9) (.tmp 13) (.const (.bool false))⟩]⟩]) [0, 3, 14])
  (.after (.cond (.tmp 14) (.skip) (.live [0, 3] (.exit 0))) [0, 3]))
  (.after (.block 1 (.after (.region [⟨false, [], [⟨(some 15), none, .val (.tmp 3)⟩,
      ⟨(some 16), none, .bin .add (.tmp 15) (.const (.int .i64 1))⟩,
      ⟨(some 3), none, .val (.tmp 16)⟩]⟩]) [0, 3])) [0, 3]))
/-- carpetbag.carpetbagref12.IsType -/
def code28 : AFunc := ⟨false, false, 1, 42, [.tmp 2],
  .seq (.after (.region [⟨false, [], [⟨(some 2), none, .val (.const (.bool false))⟩]⟩]) [0])
  (.seq (.after (.region [⟨false, [], [⟨(some 3), none, .val (.const (.int .i64 0))⟩]⟩]) [0, 3])
  (.seq (.after (.block 0 (.loop code28L0)) [0, 3])
  (.seq (.after (.region [⟨false, [], [⟨(some 17), none, .val (.tmp 0)⟩,
      ⟨(some 18), none, .val (.tmp 3)⟩,
      ⟨(some 19), none, .slice .str (.tmp 17) (some (.tmp 18)) none none⟩,
      ⟨(some 4), none, .val (.tmp 19)⟩]⟩]) [3, 4])
  (.seq (.seq (.after (.region [⟨false, [], [⟨(some 20), none, .val (.tmp 3)⟩,
      ⟨(some 21), none, .bin .gtr (.tmp 20) (.const (.int .i64 8))⟩]⟩]) [3, 4, 21])
  (.after (.cond (.tmp 21) (.seq (.after (.region [⟨false, [], [⟨(some 2), none, .val (.const (.bool false))⟩]⟩]) [2])
  (.live [2] (.ret))) (.skip)) [3, 4]))
  (.seq (.seq (.after (.region [⟨false, [], [⟨(some 22), none, .val (.tmp 3)⟩,
      ⟨(some 23), none, .bin .gtr (.tmp 22) (.const (.int .i64 0))⟩,
      ⟨(some 24), none, .val (.tmp 23)⟩,
      ⟨(some 25), (some (24, true)), .val (.tmp 4)⟩,
      ⟨(some 26), (some (24, true)), .bin .eql (.tmp 25) (.const (.str [66]))⟩,
      ⟨(some 27), none, .pick (.tmp 24) (.tmp 26) (.const (.bool false))⟩]⟩]) [3, 4, 27])
  (.after (.cond (.tmp 27) (.seq (.after (.region [⟨false, [], [⟨(some 2), none, .val (.const (.bool true))⟩]⟩]) [2])
  (.live [2] (.ret))) (.skip)) [3, 4]))
  (.seq (.after (.region [⟨false, [], [⟨(some 28), none, .val (.tmp 4)⟩,
      ⟨(some 29), none, .bin .eql (.tmp 28) (.const (.str [73]))⟩,
      ⟨(some 30), none, .val (.tmp 29)⟩,
      ⟨(some 31), (some (30, false)), .val (.tmp 3)⟩,
      ⟨(some 32), (some (30, false)), .bin .eql (.tmp 31) (.const (.int .i64 0))⟩,
      ⟨(some 33), (some (30, false)), .val (.tmp 32)⟩,
      ⟨(some 34), (some (33, true)), .val (.tmp 4)⟩,
      ⟨(some 35), (some (33, true)), .bin .eql (.tmp 34) (.const (.str [74]))⟩,
      ⟨(some 36), (some (30, false)), .pick (.tmp 33) (.tmp 35) (.const (.bool false))⟩,
      ⟨(some 37), none, .pick (.tmp 30) (.const (.bool true)) (.tmp 36)⟩,
      ⟨(some 38), none, .val (.tmp 37)⟩,
      ⟨(some 39), (some (38, false)), .val (.tmp 4)⟩,
      ⟨(some 40), (some (38, false)), .callg 93 [.tmp 39]⟩,
      ⟨(some 41), none, .pick (.tmp 38) (.const (.bool true)) (.tmp 40)⟩,
      ⟨(some 2), none, .val (.tmp 41)⟩]⟩]) [2])
  (.live [2] (.ret)))))))), none⟩
def code29L0 : ACode :=
  .live [0, 1, 12, 13] (.seq (.after (.region [⟨false, [], [⟨(some 14), none, .bin .lss (.tmp 13) (.tmp 12)⟩]⟩]) [0, 1, 12, 13, 14])
  (.seq (.after (.cond (.tmp 14) (.skip) (.live [] (.exit 0))) [0, 1, 12, 13])
  (.seq (.after (.block 1 (.seq (.after (.region [⟨false, [], [⟨(some 15), none, .val (.tmp 13)⟩,
      ⟨(some 5), none, .val (.tmp 15)⟩]⟩]) [0, 1, 5, 12, 13])
  (.seq (.after (.region [⟨true, [], [⟨(some 16), none, .val (.tmp 0)⟩,
      ⟨(some 17), none, .val (.tmp 5)⟩,
      ⟨(some 18), none, .iaddr 1 (.tmp 16) (.tmp 17)⟩,
      ⟨(some 19), none, .load none (.tmp 18)⟩,
      ⟨(some 20), none, .val (.tmp 1)⟩,
      ⟨(some 21), none, .val (.tmp 5)⟩,
      ⟨(some 22), none, .iaddr 1 (.tmp 20) (.tmp 21)⟩,
      ⟨(some 23), none, .load none (.tmp 22)⟩]⟩, ⟨false, [], [⟨(some 24), none, .bin .neq (.tmp 19) (.tmp 23)⟩]⟩]) [0, 1, 12, 13, 24])
  (.after (.cond (.tmp 24) (.seq (.after (.region [⟨false, [], [⟨(some 4), none, .val (.const (.bool false))⟩]⟩]) [4])
  (.live [4] (.ret))) (.skip)) [0, 1, 12, 13])))) [0, 1, 12, 13])
  (.after (.region [⟨false, [], [⟨(some 25), none, .bin .add (.tmp 13) (.const (.int .i64 1))⟩,
      ⟨(some 13), none, .val (.tmp 25)⟩]⟩]) [0, 1, 12, 13]))))
/-- carpetbag.carpetbaglaw12.same -/
def code29 : AFunc := ⟨false, false, 2, 26, [.tmp 4],
  .seq (.after (.region [⟨false, [], [⟨(some 4), none, .val (.const (.bool false))⟩]⟩]) [0, 1])
  (.seq (.seq (.after (.region [⟨false, [], [⟨(some 6), none, .val (.tmp 0)⟩,
      ⟨(some 7), none, .len .sl (.tmp 6)⟩,
      ⟨(some 8), none, .val (.tmp 1)⟩,
      ⟨(some 9), none, .len .sl (.tmp 8)⟩,
      ⟨(some 10), none, .bin .neq (.tmp 7) (.tmp 9)⟩]⟩]) [0, 1, 10])
  (.after (.cond (.tmp 10) (.seq (.after (.region [⟨false, [], [⟨(some 4), none, .val (.const (.bool false))⟩]⟩]) [4])
  (.live [4] (.ret))) (.skip)) [0, 1]))
  (.seq (.seq (.after (.region [⟨false, [], [⟨(some 11), none, .val (.tmp 0)⟩,
      ⟨(some 12), none, .len .sl (.tmp 11)⟩,
      ⟨(some 13), none, .val (.const (.int .i64 0))⟩]⟩]) [0, 1, 12, 13])
  (.after (.block 0 (.loop code29L0)) []))
  (.seq (.after (.region [⟨false, [], [⟨(some 4), none, .val (.const (.bool true))⟩]⟩]) [4])
  (.live [4] (.ret))))), none⟩
/-- carpetbag.desc.IsRef -/
def code30 : AFunc := ⟨false, false, 1, 9, [.tmp 2],
  .seq (.after (.region [⟨false, [], [⟨(some 2), none, .val (.const (.bool false))⟩]⟩]) [0])
  (.seq (.after (.region [⟨false, [], [⟨(some 3), none, .val (.tmp 0)⟩,
      ⟨(some 4), none, .callg 88 [.tmp 3, .const (.str [76])]⟩,
      ⟨(some 5), none, .val (.tmp 4)⟩,
      ⟨(some 6), (some (5, false)), .val (.tmp 0)⟩,
      ⟨(some 7), (some (5, false)), .callg 88 [.tmp 6, .const (.str [91])]⟩,
      ⟨(some 8), none, .pick (.tmp 5) (.const (.bool true)) (.tmp 7)⟩,
      ⟨(some 2), none, .val (.tmp 8)⟩]⟩]) [2])
  (.live [2] (.ret))), none⟩
/-- carpetbag.carpetbagref12.IsRef -/
def code31 : AFunc := ⟨false, false, 1, 15, [.tmp 2],
  .seq (.after (.region [⟨false, [], [⟨(some 2), none, .val (.const (.bool false))⟩]⟩]) [0])
  (.seq (.after (.region [⟨false, [], [⟨(some 3), none, .val (.tmp 0)⟩,
      ⟨(some 4), none, .bin .neq (.tmp 3) (.const (.str []))⟩,
      ⟨(some 5), none, .val (.tmp 4)⟩,
      ⟨(some 6), (some (5, true)), .val (.tmp 0)⟩,
      ⟨(some 7), (some (5, true)), .index (.tmp 6) (.const (.int .i64 0))⟩,
      ⟨(some 8), (some (5, true)), .bin .eql (.tmp 7) (.const (.int .u8 76))⟩,
      ⟨(some 9), (some (5, true)), .val (.tmp 8)⟩,
      ⟨(some 10), (some (9, false)), .val (.tmp 0)⟩,
      ⟨(some 11), (some (9, false)), .index (.tmp 10) (.const (.int .i64 0))⟩,
      ⟨(some 12), (some (9, false)), .bin .eql (.tmp 11) (.const (.int .u8 91))⟩,
      ⟨(some 13), (some (5, true)), .pick (.tmp 9) (.const (.bool true)) (.tmp 12)⟩,
      ⟨(some 14), none, .pick (.tmp 5) (.tmp 13) (.const (.bool false))⟩,
      ⟨(some 2), none, .val (.tmp 14)⟩]⟩]) [2])
  (.live [2] (.ret))), none⟩
/-- carpetbag.desc.Object -/
def code32 : AFunc := ⟨false, false, 1, 6, [.tmp 2],
  .seq (.after (.region [⟨false, [], [⟨(some 2), none, .val (.const (.str []))⟩]⟩]) [0])
  (.seq (.after (.region [⟨false, [], [⟨(some 3), none, .val (.tmp 0)⟩,
      ⟨(some 4), none, .bin .add (.const (.str [76])) (.tmp 3)⟩,
      ⟨(some 5), none, .bin .add (.tmp 4) (.const (.str [59]))⟩,
      ⟨(some 2), none, .val (.tmp 5)⟩]⟩]) [2])
  (.live [2] (.ret))), none⟩
/-- carpetbag.desc.Print -/
def code45 : AFunc := ⟨false, false, 2, 11, [.tmp 4],
  .seq (.after (.region [⟨false, [], [⟨(some 4), none, .val (.const (.str []))⟩]⟩]) [0, 1])
  (.seq (.after (.region [⟨false, [], [⟨(some 5), none, .val (.tmp 0)⟩,
      ⟨(some 6), none, .callg 94 [.tmp 5, .const (.str [])]⟩,
      ⟨(some 7), none, .bin .add (.const (.str [40])) (.tmp 6)⟩,
      ⟨(some 8), none, .bin .add (.tmp 7) (.const (.str [41]))⟩,
      ⟨(some 9), none, .val (.tmp 1)⟩,
      ⟨(some 10), none, .bin .add (.tmp 8) (.tmp 9)⟩,
      ⟨(some 4), none, .val (.tmp 10)⟩]⟩]) [4])
  (.live [4] (.ret))), none⟩
def code42L0 : ACode :=
  .live [1, 5, 8, 9, 10] (.seq (.after (.region [⟨false, [], [⟨(some 11), none, .bin .lss (.tmp 10) (.tmp 9)⟩]⟩]) [1, 5, 8, 9, 10, 11])
  (.seq (.after (.cond (.tmp 11) (.skip) (.live [1, 5] (.exit 0))) [1, 5, 8, 9, 10])
  (.seq (.after (.block 1 (.seq (.after (.region [⟨false, [], [⟨(some 12), none, .iaddr 1 (.tmp 8) (.tmp 10)⟩,
      ⟨(some 13), none, .load none (.tmp 12)⟩,
      ⟨(some 7), none, .val (.tmp 13)⟩]⟩]) [1, 5, 7, 8, 9, 10])
  (.after (.region [⟨false, [], [⟨(some 14), none, .val (.tmp 5)⟩,
      ⟨(some 15), none, .val (.tmp 7)⟩,
      ⟨(some 16), none, .bin .add (.tmp 14) (.tmp 15)⟩,
      ⟨(some 5), none, .val (.tmp 16)⟩]⟩]) [1, 5, 8, 9, 10]))) [1, 5, 8, 9, 10])
  (.after (.region [⟨false, [], [⟨(some 17), none, .bin .add (.tmp 10) (.const (.int .i64 1))⟩,
      ⟨(some 10), none, .val (.tmp 17)⟩]⟩]) [1, 5, 8, 9, 10]))))
/-- carpetbag.carpetbagref12.Print -/
def code42 : AFunc := ⟨false, false, 2, 22, [.tmp 4],
  .seq (.after (.region [⟨false, [], [⟨(some 4), none, .val (.const (.str []))⟩]⟩]) [0, 1])
  (.seq (.after (.region [⟨false, [], [⟨(some 5), none, .val (.const (.str [40]))⟩]⟩]) [0, 1, 5])
  (.seq (.seq (.after (.region [⟨false, [], [⟨(some 8), none, .val (.tmp 0)⟩,
      ⟨(some 9), none, .len .sl (.tmp 8)⟩,
      ⟨(some 10), none, .val (.const (.int .i64 0))⟩]⟩]) [1, 5, 8, 9, 10])
  (.after (.block 0 (.loop code42L0)) [1, 5]))
  (.seq (.after (.region [⟨false, [], [⟨(some 18), none, .val (.tmp 5)⟩,
      ⟨(some 19), none, .bin .add (.tmp 18) (.const (.str [41]))⟩,
      ⟨(some 20), none, .val (.tmp 1)⟩,
      ⟨(some 21), none, .bin .add (.tmp 19) (.tmp 20)⟩,
      ⟨(some 4), none, .val (.tmp 21)⟩]⟩]) [4])
  (.live [4] (.ret))))), none⟩
def code43L0 : ACode :=
  .live [3, 6, 7, 8] (.seq (.after (.region [⟨false, [], [⟨(some 9), none, .bin .lss (.tmp 8) (.tmp 7)⟩]⟩]) [3, 6, 7, 8, 9])
  (.seq (.after (.cond (.tmp 9) (.skip) (.live [3] (.exit 0))) [3, 6, 7, 8])
  (.seq (.after (.block 1 (.seq (.after (.region [⟨false, [], [⟨(some 10), none, .iaddr 1 (.tmp 6) (.tmp 8)⟩,
      ⟨(some 11), none, .load none (.tmp 10)⟩,
      ⟨(some 5), none, .val (.tmp 11)⟩]⟩]) [3, 5, 6, 7, 8])
  (.seq (.after (.region [⟨false, [], [⟨(some 12), none, .val (.tmp 5)⟩]⟩]) [3, 6, 7, 8, 12])
  (.after (.block 2 (.seq (.after (.region [⟨false, [], [⟨(some 16), none, .bin .eql (.tmp 12) (.const (.str [86]))⟩,
      ⟨(some 15), none, .val (.tmp 16)⟩]⟩]) [3, 6, 7, 8, 12, 15])
  (.after (.cond (.tmp 15) (.skip) (.seq (.after (.region [⟨false, [], [⟨(some 18), none, .bin .eql (.tmp 12) (.const (.str [74]))⟩,
      ⟨(some 17), none, .val (.tmp 18)⟩]⟩]) [3, 6, 7, 8, 17])
  (.after (.cond (.tmp 17) (.after (.region [⟨false, [], [⟨(some 19), none, .val (.tmp 3)⟩,
      ⟨(some 20), none, .bin .add (.tmp 19) (.const (.int .i64 2))⟩,
      ⟨(some 3), none, .val (.tmp 20)⟩]⟩]) [3, 6, 7, 8]) (.after (.region [⟨false, [], [⟨(some 13), none, .val (.tmp 3)⟩,
      ⟨(some 14), none, .bin .add (.tmp 13) (.const (.int .i64 1))⟩,
      ⟨(some 3), none, .val (.tmp 14)⟩]⟩]) [3, 6, 7, 8])) [3, 6, 7, 8]))) [3, 6, 7, 8]))) [3, 6, 7, 8])))) [3, 6, 7, 8])
  (.after (.region [⟨false, [], [⟨(some 21), none, .bin .add (.tmp 8) (.const (.int .i64 1))⟩,
      ⟨(some 8), none, .val (.tmp 21)⟩]⟩]) [3, 6, 7, 8]))))
/-- carpetbag.desc.Slots -/
def code43 : AFunc := ⟨false, false, 1, 23, [.tmp 2],
  .seq (.after (.region [⟨false, [], [⟨(some 2), none, .val (.const (.int .i64 0))⟩]⟩]) [0])
  (.seq (.after (.region [⟨false, [], [⟨(some 3), none, .val (.const (.int .i64 0))⟩]⟩]) [0, 3])
  (.seq (.seq (.after (.region [⟨false, [], [⟨(some 6), none, .val (.tmp 0)⟩,
      ⟨(some 7), none, .len .sl (.tmp 6)⟩,
      ⟨(some 8), none, .val (.const (.int .i64 0))⟩]⟩]) [3, 6, 7, 8])
  (.after (.block 0 (.loop code43L0)) [3]))
  (.seq (.after (.region [⟨false, [], [⟨(some 22), none, .val (.tmp 3)⟩,
      ⟨(some 2), none, .val (.tmp 22)⟩]⟩]) [2])
  (.live [2] (.ret))))), none⟩
def code44L0 : ACode :=
  .live [3, 6, 7, 8] (.seq (.after (.region [⟨false, [], [⟨(some 9), none, .bin .lss (.tmp 8) (.tmp 7)⟩]⟩]) [3, 6, 7, 8, 9])
  (.seq (.after (.cond (.tmp 9) (.skip) (.live [3] (.exit 0))) [3, 6, 7, 8])
  (.seq (.after (.block 1 (.seq (.after (.region [⟨false, [], [⟨(some 10), none, .iaddr 1 (.tmp 6) (.tmp 8)⟩,
      ⟨(some 11), none, .load none (.tmp 10)⟩,
      ⟨(some 5), none, .val (.tmp 11)⟩]⟩]) [3, 5, 6, 7, 8])
  (.seq (.after (.region [⟨false, [], [⟨(some 12), none, .val (.tmp 3)⟩,
      ⟨(some 13), none, .bin .add (.tmp 12) (.const (.int .i64 1))⟩,
      ⟨(some 3), none, .val (.tmp 13)⟩]⟩]) [3, 5, 6, 7, 8])
  (.seq (.seq (.after (.region [⟨false, [], [⟨(some 14), none, .val (.tmp 5)⟩,
      ⟨(some 15), none, .bin .eql (.tmp 14) (.const (.str [74]))⟩]⟩]) [3, 5, 6, 7, 8, 15])
  (.after (.cond (.tmp 15) (.after (.region [⟨false, [], [⟨(some 16), none, .val (.tmp 3)⟩,
      ⟨(some 17), none, .bin .add (.tmp 16) (.const (.int .i64 1))⟩,
      ⟨(some 3), none, .val (.tmp 17)⟩]⟩]) [3, 5, 6, 7, 8]) (.skip)) [3, 5, 6, 7, 8]))
  (.seq (.after (.region [⟨false, [], [⟨(some 18), none, .val (.tmp 5)⟩,
      ⟨(some 19), none, .bin .eql (.tmp 18) (.const (.str [86]))⟩]⟩]) [3, 6, 7, 8, 19])
  (.after (.cond (.tmp 19) (.after (.region [⟨false, [], [⟨(some 20), none, .val (.tmp 3)⟩,
      ⟨(some 21), none, .bin .sub (.tmp 20) (.const (.int .i64 1))⟩,
      ⟨(some 3), none, .val (.tmp 21)⟩]⟩]) [3, 6, 7, 8]) (.skip)) [3, 6, 7, 8])))))) [3, 6, 7, 8])
  (.after (.region [⟨false, [], [⟨(some 22), none, .bin .add (.tmp 8) (.const (.int .i64 1))⟩,
      ⟨(some 8), none, .val (.tmp 22)⟩]⟩]) [3, 6, 7, 8]))))
/-- carpetbag.carpetbagref12.Slots -/
def code44 : AFunc := ⟨false, false, 1, 24, [.tmp 2],
  .seq (.after (.region [⟨false, [], [⟨(some 2), none, .val (.const (.int .i64 0))⟩]⟩]) [0])
  (.seq (.after (.region [⟨false, [], [⟨(some 3), none, .val (.const (.int .i64 0))⟩]⟩]) [0, 3])
  (.seq (.seq (.after (.region [⟨false, [], [⟨(some 6), none, .val (.tmp 0)⟩,
      ⟨(some 7), none, .len .sl (.tmp 6)⟩,
      ⟨(some 8), none, .val (.const (.int .i64 0))⟩]⟩]) [3, 6, 7, 8])
  (.after (.block 0 (.loop code44L0)) [3]))
  (.seq (.after (.region [⟨false, [], [⟨(some 23), none, .val (.tmp 3)⟩,
      ⟨(some 2), none, .val (.tmp 23)⟩]⟩]) [2])
  (.live [2] (.ret))))), none⟩
/-- strings.CutPrefix -/
def code85 : AFunc := ⟨false, false, 2, 11, [.tmp 4, .tmp 5],
  .seq (.after (.region [⟨false, [], [⟨(some 4), none, .val (.const (.str []))⟩,
      ⟨(some 5), none, .val (.const (.bool false))⟩]⟩]) [0, 1])
  (.seq (.after (.region [⟨false, [], [⟨(some 6), none, .val (.tmp 0)⟩,
      ⟨(some 7), none, .val (.tmp 1)⟩,
      ⟨(some 8), none, .callg 137 [.tmp 6, .tmp 7]⟩,
      ⟨(some 9), none, .extract (.tmp 8) 0⟩,
      ⟨(some 10), none, .extract (.tmp 8) 1⟩,
      ⟨(some 4), none, .val (.tmp 9)⟩,
      ⟨(some 5), none, .val (.tmp 10)⟩]⟩]) [4, 5])
  (.live [4, 5] (.ret))), none⟩
/-- carpetbag.desc.cut -/
def code86 : AFunc := ⟨false, false, 1, 65, [.tmp 2],
  .seq (.after (.region [⟨false, [], [⟨(some 2), none, .val (.const (.str []))⟩]⟩]) [0])
  (.seq (.after (.region [⟨false, [], [⟨(some 9), none, .val (.tmp 0)⟩,
      ⟨(some 10), none, .callg 139 [.tmp 9, .const (.str [91])]⟩,
      ⟨(some 3), none, .val (.tmp 10)⟩]⟩]) [0, 3])
  (.seq (.after (.region [⟨false, [], [⟨(some 11), none, .val (.tmp 0)⟩,
      ⟨(some 12), none, .len .str (.tmp 11)⟩,
      ⟨(some 13), none, .val (.tmp 3)⟩,
      ⟨(some 14), none, .len .str (.tmp 13)⟩,
      ⟨(some 15), none, .bin .sub (.tmp 12) (.tmp 14)⟩,
      ⟨(some 4), none, .val (.tmp 15)⟩]⟩]) [0, 3, 4])
  (.seq (.seq (.after (.region [⟨false, [], [⟨(some 16), none, .val (.tmp 3)⟩,
      ⟨(some 17), none, .bin .eql (.tmp 16) (.const (.str []))⟩,
      ⟨(some 18), none, .val (.tmp 17)⟩,
      ⟨(some 19), (some (18, false)), .val (.tmp 4)⟩,
      ⟨(some 20), (some (18, false)), .bin .gtr (.tmp 19) (.const (.int .i64 8))⟩,
      ⟨(some 21), none, .pick (.tmp 18) (.const (.bool true)) (.tmp 20)⟩]⟩]) [0, 3, 4, 21])
  (.after (.cond (.tmp 21) (.seq (.after (.region [⟨false, [], [⟨(some 2), none, .val (.const (.str []))⟩]⟩]) [2])
  (.live [2] (.ret))) (.skip)) [0, 3, 4]))
  (.seq (.seq (.after (.region [⟨false, [], [⟨(some 22), none, .val (.tmp 3)⟩,
      ⟨(some 23), none, .index (.tmp 22) (.const (.int .i64 0))⟩,
      ⟨(some 5), none, .val (.tmp 23)⟩]⟩]) [0, 3, 4, 5])
  (.after (.block 0 (.seq (.seq (.after (.region [⟨false, [], [⟨(some 25), none, .val (.tmp 5)⟩,
      ⟨(some 26), none, .bin .eql (.tmp 25) (.const (.int .u8 73))⟩,
      ⟨(some 24), none, .val (.tmp 26)⟩]⟩]) [0, 3, 4, 5, 24])
  (.after (.cond (.tmp 24) (.skip) (.seq (.after (.region [⟨false, [], [⟨(some 27), none, .val (.tmp 5)⟩,
      ⟨(some 28), none, .bin .eql (.tmp 27) (.const (.int .u8 74))⟩,
      ⟨(some 29), none, .val (.tmp 28)⟩,
      ⟨(some 30), (some (29, true)), .val (.tmp 4)⟩,
      ⟨(some 31), (some (29, true)), .bin .eql (.tmp 30) (.const (.int .i64 0))⟩,
      ⟨(some 32), none, .pick (.tmp 29) (.tmp 31) (.const (.bool false))⟩,
      ⟨(some 24), none, .val (.tmp 32)⟩]⟩]) [0, 3, 4, 5, 24])
  (.after (.cond (.tmp 24) (.skip) (.after (.region [⟨false, [], [⟨(some 33), none, .val (.tmp 5)⟩,
      ⟨(some 34), none, .bin .eql (.tmp 33) (.const (.int .u8 66))⟩,
      ⟨(some 35), none, .val (.tmp 34)⟩,
      ⟨(some 36), (some (35, true)), .val (.tmp 4)⟩,
      ⟨(some 37), (some (35, true)), .bin .gtr (.tmp 36) (.const (.int .i64 0))⟩,
      ⟨(some 38), none, .pick (.tmp 35) (.tmp 37) (.const (.bool false))⟩,
      ⟨(some 24), none, .val (.tmp 38)⟩]⟩]) [0, 3, 4, 5, 24])) [0, 3, 4, 5, 24]))) [0, 3, 4, 5, 24]))
  (.after (.cond (.tmp 24) (.seq (.after (.region [⟨false, [], [⟨(some 39), none, .val (.tmp 0)⟩,
      ⟨(some 40), none, .val (.tmp 4)⟩,
      ⟨(some 41), none, .bin .add (.tmp 40) (.const (.int .i64 1))⟩,
      ⟨(some 42), none, .slice .str (.tmp 39) none (some (.tmp 41)) none⟩,
      ⟨(some 2), none, .val (.tmp 42)⟩]⟩]) [2])
  (.live [2] (.ret))) (.seq (.after (.region [⟨false, [], [⟨(some 44), none, .val (.tmp 5)⟩,
      ⟨(some 45), none, .bin .eql (.tmp 44) (.const (.int .u8 76))⟩,
      ⟨(some 43), none, .val (.tmp 45)⟩]⟩]) [0, 3, 4, 43])
  (.after (.cond (.tmp 43) (.seq (.after (.region [⟨false, [], [⟨(some 47), none, .val (.tmp 3)⟩,
      ⟨(some 48), none, .slice .str (.tmp 47) (some (.const (.int .i64 1))) none none⟩,
      ⟨(some 49), none, .callg 138 [.tmp 48, .const (.str [59])]⟩,
      ⟨(some 46), none, .val (.tmp 49)⟩,
      ⟨(some 50), none, .extract (.tmp 46) 0⟩,
      ⟨(some 51), none, .extract (.tmp 46) 1⟩,
      ⟨(some 52), none, .extract (.tmp 46) 2⟩,
      ⟨(some 6), none, .val (.tmp 50)⟩,
      ⟨(some 7), none, .val (.tmp 51)⟩,
      ⟨(some 8), none, .val (.tmp 52)⟩]⟩]) [0, 4, 6, 8])
  (.seq (.after (.region [⟨false, [], [⟨(some 53), none, .val (.tmp 8)⟩,
      ⟨(some 54), none, .val (.tmp 53)⟩,
      ⟨(some 55), (some (54, true)), .val (.tmp 6)⟩,
      ⟨(some 56), (some (54, true)), .callg 25 [.tmp 55]⟩,
      ⟨(some 57), none, .pick (.tmp 54) (.tmp 56) (.const (.bool false))⟩]⟩]) [0, 4, 6, 57])
  (.after (.cond (.tmp 57) (.seq (.after (.region [⟨false, [], [⟨(some 58), none, .val (.tmp 0)⟩,
      ⟨(some 59), none, .val (.tmp 4)⟩,
      ⟨(some 60), none, .val (.tmp 6)⟩,
      ⟨(some 61), none, .len .str (.tmp 60)⟩,
      ⟨(some 62), none, .bin .add (.tmp 59) (.tmp 61)⟩,
      ⟨(some 63), none, .bin .add (.tmp 62) (.const (.int .i64 2))⟩,
      ⟨(some 64), none, .slice .str (.tmp 58) none (some (.tmp 63)) none⟩,
      ⟨(some 2), none, .val (.tmp 64)⟩]⟩]) [2])
  (.live [2] (.ret))) (.skip)) []))) (.skip)) []))) []))) []))
  (.seq (.after (.region [⟨false, [], [⟨(some 2), none, .val (.const (.str []))⟩]⟩]) [2])
  (.live [2] (.ret))))))), none⟩
def code87L0 : ACode :=
  .live [0, 3] (.seq (.seq (.after (.region [⟨false, [], [⟨(some 4), none, .val (.tmp 3)⟩,
      ⟨(some 5), none, .val (.tmp 0)⟩,
      ⟨(some 6), none, .len .str (.tmp 5)⟩,
      ⟨(some 7), none, .bin .leq (.tmp 4) (.tmp 6)⟩]⟩]) [0, 3, 7])
  (.after (.cond (.tmp 7) (.skip) (.live [] (.exit 0))) [0, 3]))
  (.seq (.after (.block 1 (.seq (.after (.region [⟨false, [], [⟨(some 10), none, .val (.tmp 0)⟩,
      ⟨(some 11), none, .val (.tmp 3)⟩,
      ⟨(some 12), none, .slice .str (.tmp 10) none (some (.tmp 11)) none⟩,
      ⟨(some 13), none, .callg 28 [.tmp 12]⟩]⟩]) [0, 3, 13])
  (.after (.cond (.tmp 13) (.seq (.after (.region [⟨false, [], [⟨(some 14), none, .val (.tmp 0)⟩,
      ⟨(some 15), none, .val (.tmp 3)⟩,
      ⟨(some 16), none, .slice .str (.tmp 14) none (some (.tmp 15)) none⟩,
      ⟨(some 2), none, .val (.tmp 16)⟩]⟩]) [2])
  (.live [2] (.ret))) (.skip)) [0, 3]))) [0, 3])
  (.after (.region [⟨false, [], [⟨(some 8), none, .val (.tmp 3)⟩,
      ⟨(some 9), none, .bin .add (.tmp 8) (.const (.int .i64 1))⟩,
      ⟨(some 3), none, .val (.tmp 9)⟩]⟩]) [0, 3])))
/-- carpetbag.carpetbagref12.first -/
def code87 : AFunc := ⟨false, false, 1, 17, [.tmp 2],
  .seq (.after (.region [⟨false, [], [⟨(some 2), none, .val (.const (.str []))⟩]⟩]) [0])
  (.seq (.seq (.after (.region [⟨false, [], [⟨(some 3), none, .val (.const (.int .i64 1))⟩]⟩]) [0, 3])
  (.after (.block 0 (.loop code87L0)) []))
  (.seq (.after (.region [⟨false, [], [⟨(some 2), none, .val (.const (.str []))⟩]⟩]) [2])
  (.live [2] (.ret)))), none⟩
/-- strings.HasPrefix -/
def code88 : AFunc := ⟨false, false, 2, 8, [.tmp 4],
  .seq (.after (.region [⟨false, [], [⟨(some 4), none, .val (.const (.bool false))⟩]⟩]) [0, 1])
  (.seq (.after (.region [⟨false, [], [⟨(some 5), none, .val (.tmp 0)⟩,
      ⟨(some 6), none, .val (.tmp 1)⟩,
      ⟨(some 7), none, .callg 140 [.tmp 5, .tmp 6]⟩,
      ⟨(some 4), none, .val (.tmp 7)⟩]⟩]) [4])
  (.live [4] (.ret))), none⟩
/-- strings.HasSuffix -/
def code89 : AFunc := ⟨false, false, 2, 8, [.tmp 4],
  .seq (.after (.region [⟨false, [], [⟨(some 4), none, .val (.const (.bool false))⟩]⟩]) [0, 1])
  (.seq (.after (.region [⟨false, [], [⟨(some 5), none, .val (.tmp 0)⟩,
      ⟨(some 6), none, .val (.tmp 1)⟩,
      ⟨(some 7), none, .callg 141 [.tmp 5, .tmp 6]⟩,
      ⟨(some 4), none, .val (.tmp 7)⟩]⟩]) [4])
  (.live [4] (.ret))), none⟩
/-- slices.ContainsFunc[[]string,string] -/
def code91 : AFunc := ⟨false, false, 2, 9, [.tmp 4],
  .seq (.after (.region [⟨false, [], [⟨(some 4), none, .val (.const (.bool false))⟩]⟩]) [0, 1])
  (.seq (.after (.region [⟨false, [], [⟨(some 5), none, .val (.tmp 0)⟩,
      ⟨(some 6), none, .val (.tmp 1)⟩,
      ⟨(some 7), none, .callg 142 [.tmp 5, .tmp 6]⟩,
      ⟨(some 8), none, .bin .geq (.tmp 7) (.const (.int .i64 0))⟩,
      ⟨(some 4), none, .val (.tmp 8)⟩]⟩]) [4])
  (.live [4] (.ret))), none⟩
/-- strings.Split -/
def code90 : AFunc := ⟨false, false, 2, 8, [.tmp 4],
  .seq (.after (.region [⟨false, [], [⟨(some 4), none, .val (.const (.slice none 0 (some 0)))⟩]⟩]) [0, 1])
  (.seq (.after (.region [⟨false, [], [⟨(some 5), none, .val (.tmp 0)⟩,
      ⟨(some 6), none, .val (.tmp 1)⟩,
      ⟨(some 7), none, .callg 143 [.tmp 5, .tmp 6, .const (.int .i64 0), .const (.int .i64 (-1))]⟩,
      ⟨(some 4), none, .val (.tmp 7)⟩]⟩]) [4])
  (.live [4] (.ret))), none⟩
/-- carpetbag.desc.IsClass-1 -/
def code92 : AFunc := ⟨false, false, 1, 6, [.tmp 2],
  .seq (.after (.region [⟨false, [], [⟨(some 2), none, .val (.const (.bool false))⟩]⟩]) [0])
  (.seq (.after (.region [⟨false, [], [⟨(some 3), none, .val (.tmp 0)⟩,
      ⟨(some 4), none, .callg 144 [.tmp 3]⟩,
      ⟨(some 5), none, .un .not (.tmp 4)⟩,
      ⟨(some 2), none, .val (.tmp 5)⟩]⟩]) [2])
  (.live [2] (.ret))), none⟩
/-- carpetbag.desc.word -/
def code144 : AFunc := ⟨false, false, 1, 13, [.tmp 2],
  .seq (.after (.region [⟨false, [], [⟨(some 2), none, .val (.const (.bool false))⟩]⟩]) [0])
  (.seq (.after (.region [⟨false, [], [⟨(some 3), none, .val (.const (.func 146 [] []))⟩]⟩]) [0, 3])
  (.seq (.after (.region [⟨false, [], [⟨(some 4), none, .val (.tmp 0)⟩,
      ⟨(some 5), none, .bin .neq (.tmp 4) (.const (.str []))⟩,
      ⟨(some 6), none, .val (.tmp 5)⟩,
      ⟨(some 7), (some (6, true)), .val (.tmp 0)⟩,
      ⟨(some 8), (some (6, true)), .conv .bytes (.tmp 7)⟩,
      ⟨(some 9), (some (6, true)), .val (.tmp 3)⟩,
      ⟨(some 10), (some (6, true)), .callg 145 [.tmp 8, .tmp 9]⟩,
      ⟨(some 11), (some (6, true)), .un .not (.tmp 10)⟩,
      ⟨(some 12), none, .pick (.tmp 6) (.tmp 11) (.const (.bool false))⟩,
      ⟨(some 2), none, .val (.tmp 12)⟩]⟩]) [2])
  (.live [2] (.ret)))), none⟩
/-- carpetbag.carpetbagref12.object -/
def code93 : AFunc := ⟨false, false, 1, 27, [.tmp 2],
  .seq (.after (.region [⟨false, [], [⟨(some 2), none, .val (.const (.bool false))⟩]⟩]) [0])
  (.seq (.after (.region [⟨false, [], [⟨(some 3), none, .val (.tmp 0)⟩,
      ⟨(some 4), none, .len .str (.tmp 3)⟩,
      ⟨(some 5), none, .bin .geq (.tmp 4) (.const (.int .i64 3))⟩,
      ⟨(some 6), none, .val (.tmp 5)⟩,
      ⟨(some 7), (some (6, true)), .val (.tmp 0)⟩,
      ⟨(some 8), (some (6, true)), .index (.tmp 7) (.const (.int .i64 0))⟩,
      ⟨(some 9), (some (6, true)), .bin .eql (.tmp 8) (.const (.int .u8 76))⟩,
      ⟨(some 10), none, .pick (.tmp 6) (.tmp 9) (.const (.bool false))⟩,
      ⟨(some 11), none, .val (.tmp 10)⟩,
      ⟨(some 12), (some (11, true)), .val (.tmp 0)⟩,
      ⟨(some 13), (some (11, true)), .val (.tmp 0)⟩,
      ⟨(some 14), (some (11, true)), .len .str (.tmp 13)⟩,
      ⟨(some 15), (some (11, true)), .bin .sub (.tmp 14) (.const (.int .i64 1))⟩,
      ⟨(some 16), (some (11, true)), .index (.tmp 12) (.tmp 15)⟩,
      ⟨(some 17), (some (11, true)), .bin .eql (.tmp 16) (.const (.int .u8 59))⟩,
      ⟨(some 18), none, .pick (.tmp 11) (.tmp 17) (.const (.bool false))⟩,
      ⟨(some 19), none, .val (.tmp 18)⟩,
      ⟨(some 20), (some (19, true)), .val (.tmp 0)⟩,
      ⟨(some 21), (some (19, true)), .val (.tmp 0)⟩,
      ⟨(some 22), (some (19, true)), .len .str (.tmp 21)⟩,
      ⟨(some 23), (some (19, true)), .bin .sub (.tmp 22) (.const (.int .i64 1))⟩,
      ⟨(some 24), (some (19, true)), .slice .str (.tmp 20) (some (.const (.int .i64 1))) (some (.tmp 23)) none⟩,
      ⟨(some 25), (some (19, true)), .callg 26 [.tmp 24]⟩,
      ⟨(some 26), none, .pick (.tmp 19) (.tmp 25) (.const (.bool false))⟩,
      ⟨(some 2), none, .val (.tmp 26)⟩]⟩]) [2])
  (.live [2] (.ret))), none⟩
/-- strings.Join -/
def code94 : AFunc := ⟨false, false, 0, 0, [], .skip, some (.lib joinF)⟩
/-- internal.stringslite.CutPrefix -/
def code137 : AFunc := ⟨false, false, 2, 15, [.tmp 4, .tmp 5],
  .seq (.after (.region [⟨false, [], [⟨(some 4), none, .val (.const (.str []))⟩,
      ⟨(some 5), none, .val (.const (.bool false))⟩]⟩]) [0, 1])
  (.seq (.seq (.after (.region [⟨false, [], [⟨(some 6), none, .val (.tmp 0)⟩,
      ⟨(some 7), none, .val (.tmp 1)⟩,
      ⟨(some 8), none, .callg 140 [.tmp 6, .tmp 7]⟩,
      ⟨(some 9), none, .un .not (.tmp 8)⟩]⟩]) [0, 1, 9])
  (.after (.cond (.tmp 9) (.seq (.after (.region [⟨false, [], [⟨(some 10), none, .val (.tmp 0)⟩,
      ⟨(some 4), none, .val (.tmp 10)⟩,
      ⟨(some 5), none, .val (.const (.bool false))⟩]⟩]) [4, 5])
  (.live [4, 5] (.ret))) (.skip)) [0, 1]))
  (.seq (.after (.region [⟨false, [], [⟨(some 11), none, .val (.tmp 0)⟩,
      ⟨(some 12), none, .val (.tmp 1)⟩,
      ⟨(some 13), none, .len .str (.tmp 12)⟩,
      ⟨(some 14), none, .slice .str (.tmp 11) (some (.tmp 13)) none none⟩,
      ⟨(some 4), none, .val (.tmp 14)⟩,
      ⟨(some 5), none, .val (.const (.bool true))⟩]⟩]) [4, 5])
  (.live [4, 5] (.ret)))), none⟩
/-- strings.TrimLeft -/
def code139 : AFunc := ⟨false, false, 2, 37, [.tmp 4],
  .seq (.after (.region [⟨false, [], [⟨(some 4), none, .val (.const (.str []))⟩]⟩]) [0, 1])
  (.seq (.seq (.after (.region [⟨false, [], [⟨(some 7), none, .val (.tmp 0)⟩,
      ⟨(some 8), none, .bin .eql (.tmp 7) (.const (.str []))⟩,
      ⟨(some 9), none, .val (.tmp 8)⟩,
      ⟨(some 10), (some (9, false)), .val (.tmp 1)⟩,
      ⟨(some 11), (some (9, false)), .bin .eql (.tmp 10) (.const (.str []))⟩,
      ⟨(some 12), none, .pick (.tmp 9) (.const (.bool true)) (.tmp 11)⟩]⟩]) [0, 1, 12])
  (.after (.cond (.tmp 12) (.seq (.after (.region [⟨false, [], [⟨(some 13), none, .val (.tmp 0)⟩,
      ⟨(some 4), none, .val (.tmp 13)⟩]⟩]) [4])
  (.live [4] (.ret))) (.skip)) [0, 1]))
  (.seq (.seq (.after (.region [⟨false, [], [⟨(some 14), none, .val (.tmp 1)⟩,
      ⟨(some 15), none, .len .str (.tmp 14)⟩,
      ⟨(some 16), none, .bin .eql (.tmp 15) (.const (.int .i64 1))⟩,
      ⟨(some 17), none, .val (.tmp 16)⟩,
      ⟨(some 18), (some (17, true)), .val (.tmp 1)⟩,
      ⟨(some 19), (some (17, true)), .index (.tmp 18) (.const (.int .i64 0))⟩,
      ⟨(some 20), (some (17, true)), .bin .lss (.tmp 19) (.const (.int .u8 128))⟩,
      ⟨(some 21), none, .pick (.tmp 17) (.tmp 20) (.const (.bool false))⟩]⟩]) [0, 1, 21])
  (.after (.cond (.tmp 21) (.seq (.after (.region [⟨false, [], [⟨(some 22), none, .val (.tmp 0)⟩,
      ⟨(some 23), none, .val (.tmp 1)⟩,
      ⟨(some 24), none, .index (.tmp 23) (.const (.int .i64 0))⟩,
      ⟨(some 25), none, .callg 171 [.tmp 22, .tmp 24]⟩,
      ⟨(some 4), none, .val (.tmp 25)⟩]⟩]) [4])
  (.live [4] (.ret))) (.skip)) [0, 1]))
  (.seq (.seq (.after (.region [⟨false, [], [⟨(some 27), none, .val (.tmp 1)⟩,
      ⟨(some 28), none, .callg 170 [.tmp 27]⟩,
      ⟨(some 26), none, .val (.tmp 28)⟩,
      ⟨(some 29), none, .extract (.tmp 26) 0⟩,
      ⟨(some 30), none, .extract (.tmp 26) 1⟩,
      ⟨(some 5), none, .alloc 1 [.bool false, .bool false, .bool false, .bool false, .bool false, .bool false, .bool false, .bool false, .bool false, .bool false, .bool false, .bool false, .bool false, .bool false, .bool false, .bool false, .bool false, .bool false, .bool false, .bool false, .bool false, .bool false, .bool false, .bool false, .bool false, .bool false, .bool false, .bool false, .bool false, .bool false, .bool false, .bool false, .bool false, .bool false, .bool false, .bool false, .bool false, .bool false, .bool false, .bool false, .bool false, .bool false, .bool false, .bool false, .bool false, .bool false, .bool false, .bool false, .bool false, .bool false, .bool false, .bool false, .bool false, .bool false, .bool false, .bool false, .bool false, .bool false, .bool false, .bool false, .bool false, .bool false, .bool false, .bool false, .bool false, .bool false, .bool false, .bool false, .bool false, .bool false, .bool false, .bool false, .bool false, .bool false, .bool false, .bool false, .bool false, .bool false, .bool false, .bool false, .bool false, .bool false, .bool false, .bool false, .bool false, .bool false, .bool false, .bool false, .bool false, .bool false, .bool false, .bool false, .bool false, .bool false, .bool false, .bool false, .bool false, .bool false, .bool false, .bool false, .bool false, .bool false, .bool false, .bool false, .bool false, .bool false, .bool false, .bool false, .bool false, .bool false, .bool false, .bool false, .bool false, .bool false, .bool false, .bool false, .bool false, .bool false, .bool false, .bool false, .bool false, .bool false, .bool false, .bool false, .bool false, .bool false, .bool false, .bool false, .bool false, .bool false, .bool false, .bool false, .bool false, .bool false, .bool false, .bool false, .bool false, .bool false, .bool false, .bool false, .bool false, .bool false, .bool false, .bool false, .bool false, .bool false, .bool false, .bool false, .bool false, .bool false, .bool false, .bool false, .bool false, .bool false, .bool false, .bool false, .bool false, .bool false, .bool false, .bool false, .bool false, .bool false, .bool false, .bool false, .bool false, .bool false, .bool false, .bool false, .bool false, .bool false, .bool false, .bool false, .bool false, .bool false, .bool false, .bool false, .bool false, .bool false, .bool false, .bool false, .bool false, .bool false, .bool false, .bool false, .bool false, .bool false, .bool false, .bool false, .bool false, .bool false, .bool false, .bool false, .bool false, .bool false, .bool false, .bool false, .bool false, .bool false, .bool false, .bool false, .bool false, .bool false, .bool false, .bool false, .bool false, .bool false, .bool false, .bool false, .bool false, .bool false, .bool false, .bool false, .bool false, .bool false, .bool false, .bool false, .bool false, .bool false, .bool false, .bool false, .bool false, .bool false, .bool false, .bool false, .bool false, .bool false, .bool false, .bool false, .bool false, .bool false, .bool false, .bool false, .bool false, .bool false, .bool false, .bool false, .bool false, .bool false, .bool false, .bool false, .bool false, .bool false, .bool false, .bool false, .bool false, .bool false, .bool false, .bool false, .bool false, .bool false, .bool false, .bool false, .bool false, .bool false, .bool false, .bool false]⟩,
      ⟨none, none, .store 256 (.tmp 5) (.tmp 29)⟩,
      ⟨(some 6), none, .val (.tmp 30)⟩]⟩]) [0, 1, 5, 6])
  (.seq (.after (.region [⟨false, [], [⟨(some 31), none, .val (.tmp 6)⟩]⟩]) [0, 1, 5, 31])
  (.after (.cond (.tmp 31) (.seq (.after (.region [⟨false, [], [⟨(some 32), none, .val (.tmp 0)⟩,
      ⟨(some 33), none, .callg 169 [.tmp 32, .tmp 5]⟩,
      ⟨(some 4), none, .val (.tmp 33)⟩]⟩]) [4])
  (.live [4] (.ret))) (.skip)) [0, 1])))
  (.seq (.after (.region [⟨false, [], [⟨(some 34), none, .val (.tmp 0)⟩,
      ⟨(some 35), none, .val (.tmp 1)⟩,
      ⟨(some 36), none, .callg 168 [.tmp 34, .tmp 35]⟩,
      ⟨(some 4), none, .val (.tmp 36)⟩]⟩]) [4])
  (.live [4] (.ret)))))), none⟩
/-- strings.Cut -/
def code138 : AFunc := ⟨false, false, 2, 13, [.tmp 4, .tmp 5, .tmp 6],
  .seq (.after (.region [⟨false, [], [⟨(some 4), none, .val (.const (.str []))⟩,
      ⟨(some 5), none, .val (.const (.str []))⟩,
      ⟨(some 6), none, .val (.const (.bool false))⟩]⟩]) [0, 1])
  (.seq (.after (.region [⟨false, [], [⟨(some 7), none, .val (.tmp 0)⟩,
      ⟨(some 8), none, .val (.tmp 1)⟩,
      ⟨(some 9), none, .callg 172 [.tmp 7, .tmp 8]⟩,
      ⟨(some 10), none, .extract (.tmp 9) 0⟩,
      ⟨(some 11), none, .extract (.tmp 9) 1⟩,
      ⟨(some 12), none, .extract (.tmp 9) 2⟩,
      ⟨(some 4), none, .val (.tmp 10)⟩,
      ⟨(some 5), none, .val (.tmp 11)⟩,
      ⟨(some 6), none, .val (.tmp 12)⟩]⟩]) [4, 5, 6])
  (.live [4, 5, 6] (.ret))), none⟩
/-- internal.stringslite.HasPrefix -/
def code140 : AFunc := ⟨false, false, 2, 18, [.tmp 4],
  .seq (.after (.region [⟨false, [], [⟨(some 4), none, .val (.const (.bool false))⟩]⟩]) [0, 1])
  (.seq (.after (.region [⟨false, [], [⟨(some 5), none, .val (.tmp 0)⟩,
      ⟨(some 6), none, .len .str (.tmp 5)⟩,
      ⟨(some 7), none, .val (.tmp 1)⟩,
      ⟨(some 8), none, .len .str (.tmp 7)⟩,
      ⟨(some 9), none, .bin .geq (.tmp 6) (.tmp 8)⟩,
      ⟨(some 10), none, .val (.tmp 9)⟩,
      ⟨(some 11), (some (10, true)), .val (.tmp 0)⟩,
      ⟨(some 12), (some (10, true)), .val (.tmp 1)⟩,
      ⟨(some 13), (some (10, true)), .len .str (.tmp 12)⟩,
      ⟨(some 14), (some (10, true)), .slice .str (.tmp 11) none (some (.tmp 13)) none⟩,
      ⟨(some 15), (some (10, true)), .val (.tmp 1)⟩,
      ⟨(some 16), (some (10, true)), .bin .eql (.tmp 14) (.tmp 15)⟩,
      ⟨(some 17), none, .pick (.tmp 10) (.tmp 16) (.const (.bool false))⟩,
      ⟨(some 4), none, .val (.tmp 17)⟩]⟩]) [4])
  (.live [4] (.ret))), none⟩
/-- internal.stringslite.HasSuffix -/
def code141 : AFunc := ⟨false, false, 2, 21, [.tmp 4],
  .seq (.after (.region [⟨false, [], [⟨(some 4), none, .val (.const (.bool false))⟩]⟩]) [0, 1])
  (.seq (.after (.region [⟨false, [], [⟨(some 5), none, .val (.tmp 0)⟩,
      ⟨(some 6), none, .len .str (.tmp 5)⟩,
      ⟨(some 7), none, .val (.tmp 1)⟩,
      ⟨(some 8), none, .len .str (.tmp 7)⟩,
      ⟨(some 9), none, .bin .geq (.tmp 6) (.tmp 8)⟩,
      ⟨(some 10), none, .val (.tmp 9)⟩,
      ⟨(some 11), (some (10, true)), .val (.tmp 0)⟩,
      ⟨(some 12), (some (10, true)), .val (.tmp 0)⟩,
      ⟨(some 13), (some (10, true)), .len .str (.tmp 12)⟩,
      ⟨(some 14), (some (10, true)), .val (.tmp 1)⟩,
      ⟨(some 15), (some (10, true)), .len .str (.tmp 14)⟩,
      ⟨(some 16), (some (10, true)), .bin .sub (.tmp 13) (.tmp 15)⟩,
      ⟨(some 17), (some (10, true)), .slice .str (.tmp 11) (some (.tmp 16)) none none⟩,
      ⟨(some 18), (some (10, true)), .val (.tmp 1)⟩,
      ⟨(some 19), (some (10, true)), .bin .eql (.tmp 17) (.tmp 18)⟩,
      ⟨(some 20), none, .pick (.tmp 10) (.tmp 19) (.const (.bool false))⟩,
      ⟨(some 4), none, .val (.tmp 20)⟩]⟩]) [4])
  (.live [4] (.ret))), none⟩
def code142L0 : ACode :=
  .live [0, 1, 7, 8] (.seq (.after (.region [⟨false, [], [⟨(some 9), none, .bin .lss (.tmp 8) (.tmp 7)⟩]⟩]) [0, 1, 7, 8, 9])
  (.seq (.after (.cond (.tmp 9) (.skip) (.live [] (.exit 0))) [0, 1, 7, 8])
  (.seq (.after (.block 1 (.seq (.after (.region [⟨false, [], [⟨(some 10), none, .val (.tmp 8)⟩,
      ⟨(some 5), none, .val (.tmp 10)⟩]⟩]) [0, 1, 5, 7, 8])
  (.seq (.after (.region [⟨false, [], [⟨(some 11), none, .val (.tmp 1)⟩,
      ⟨(some 12), none, .val (.tmp 0)⟩,
      ⟨(some 13), none, .val (.tmp 5)⟩,
      ⟨(some 14), none, .iaddr 1 (.tmp 12) (.tmp 13)⟩,
      ⟨(some 15), none, .load none (.tmp 14)⟩,
      ⟨(some 16), none, .call (.tmp 11) [.tmp 15]⟩]⟩]) [0, 1, 5, 7, 8, 16])
  (.after (.cond (.tmp 16) (.seq (.after (.region [⟨false, [], [⟨(some 17), none, .val (.tmp 5)⟩,
      ⟨(some 4), none, .val (.tmp 17)⟩]⟩]) [4])
  (.live [4] (.ret))) (.skip)) [0, 1, 7, 8])))) [0, 1, 7, 8])
  (.after (.region [⟨false, [], [⟨(some 18), none, .bin .add (.tmp 8) (.const (.int .i64 1))⟩,
      ⟨(some 8), none, .val (.tmp 18)⟩]⟩]) [0, 1, 7, 8]))))
/-- slices.IndexFunc[[]string,string] -/
def code142 : AFunc := ⟨false, false, 2, 19, [.tmp 4],
  .seq (.after (.region [⟨false, [], [⟨(some 4), none, .val (.const (.int .i64 0))⟩]⟩]) [0, 1])
  (.seq (.seq (.after (.region [⟨false, [], [⟨(some 6), none, .val (.tmp 0)⟩,
      ⟨(some 7), none, .len .sl (.tmp 6)⟩,
      ⟨(some 8), none, .val (.const (.int .i64 0))⟩]⟩]) [0, 1, 7, 8])
  (.after (.block 0 (.loop code142L0)) []))
  (.seq (.after (.region [⟨false, [], [⟨(some 4), none, .val (.const (.int .i64 (-1)))⟩]⟩]) [4])
  (.live [4] (.ret)))), none⟩
def code143L0 : ACode :=
  .live [0, 1, 2, 3, 9, 10] (.seq (.seq (.after (.region [⟨false, [], [⟨(some 34), none, .val (.tmp 10)⟩,
      ⟨(some 35), none, .val (.tmp 3)⟩,
      ⟨(some 36), none, .bin .lss (.tmp 34) (.tmp 35)⟩]⟩]) [0, 1, 2, 3, 9, 10, 36])
  (.after (.cond (.tmp 36) (.skip) (.live [0, 9, 10] (.exit 0))) [0, 1, 2, 3, 9, 10]))
  (.after (.block 1 (.seq (.after (.region [⟨false, [], [⟨(some 37), none, .val (.tmp 0)⟩,
      ⟨(some 38), none, .val (.tmp 1)⟩,
      ⟨(some 39), none, .callg 173 [.tmp 37, .tmp 38]⟩,
      ⟨(some 11), none, .val (.tmp 39)⟩]⟩]) [0, 1, 2, 3, 9, 10, 11])
  (.seq (.seq (.after (.region [⟨false, [], [⟨(some 40), none, .val (.tmp 11)⟩,
      ⟨(some 41), none, .bin .lss (.tmp 40) (.const (.int .i64 0))⟩]⟩]) [0, 1, 2, 3, 9, 10, 11, 41])
  (.after (.cond (.tmp 41) (.live [0, 9, 10] (.exit 0)) (.skip)) [0, 1, 2, 3, 9, 10, 11]))
  (.seq (.after (.region [⟨false, [], [⟨(some 42), none, .val (.tmp 9)⟩,
      ⟨(some 43), none, .val (.tmp 10)⟩,
      ⟨(some 44), none, .val (.tmp 0)⟩,
      ⟨(some 45), none, .val (.tmp 11)⟩,
      ⟨(some 46), none, .val (.tmp 2)⟩,
      ⟨(some 47), none, .bin .add (.tmp 45) (.tmp 46)⟩,
      ⟨(some 48), none, .slice .str (.tmp 44) none (some (.tmp 47)) none⟩,
      ⟨(some 49), none, .iaddr 1 (.tmp 42) (.tmp 43)⟩,
      ⟨none, none, .store 1 (.tmp 49) (.tmp 48)⟩]⟩]) [0, 1, 2, 3, 9, 10, 11])
  (.seq (.after (.region [⟨false, [], [⟨(some 50), none, .val (.tmp 0)⟩,
      ⟨(some 51), none, .val (.tmp 11)⟩,
      ⟨(some 52), none, .val (.tmp 1)⟩,
      ⟨(some 53), none, .len .str (.tmp 52)⟩,
      ⟨(some 54), none, .bin .add (.tmp 51) (.tmp 53)⟩,
      ⟨(some 55), none, .slice .str (.tmp 50) (some (.tmp 54)) none none⟩,
      ⟨(some 0), none, .val (.tmp 55)⟩]⟩]) [0, 1, 2, 3, 9, 10])
  (.after (.region [⟨false, [], [⟨(some 56), none, .val (.tmp 10)⟩,
      ⟨(some 57), none, .bin .add (.tmp 56) (.const (.int .i64 1))⟩,
      ⟨(some 10), none, .val (.tmp 57)⟩]⟩]) [0, 1, 2, 3, 9, 10])))))) [0, 1, 2, 3, 9, 10]))
/-- strings.genSplit -/
def code143 : AFunc := ⟨false, false, 4, 66, [.tmp 8],
  .seq (.after (.region [⟨false, [], [⟨(some 8), none, .val (.const (.slice none 0 (some 0)))⟩]⟩]) [0, 1, 2, 3])
  (.seq (.seq (.after (.region [⟨false, [], [⟨(some 12), none, .val (.tmp 3)⟩,
      ⟨(some 13), none, .bin .eql (.tmp 12) (.const (.int .i64 0))⟩]⟩]) [0, 1, 2, 3, 13])
  (.after (.cond (.tmp 13) (.seq (.after (.region [⟨false, [], [⟨(some 8), none, .val (.const (.slice none 0 (some 0)))⟩]⟩]) [8])
  (.live [8] (.ret))) (.skip)) [0, 1, 2, 3]))
  (.seq (.seq (.after (.region [⟨false, [], [⟨(some 14), none, .val (.tmp 1)⟩,
      ⟨(some 15), none, .bin .eql (.tmp 14) (.const (.str []))⟩]⟩]) [0, 1, 2, 3, 15])
  (.after (.cond (.tmp 15) (.seq (.after (.region [⟨false, [], [⟨(some 16), none, .val (.tmp 0)⟩,
      ⟨(some 17), none, .val (.tmp 3)⟩,
      ⟨(some 18), none, .callg 175 [.tmp 16, .tmp 17]⟩,
      ⟨(some 8), none, .val (.tmp 18)⟩]⟩]) [8])
  (.live [8] (.ret))) (.skip)) [0, 1, 2, 3]))
  (.seq (.seq (.after (.region [⟨false, [], [⟨(some 19), none, .val (.tmp 3)⟩,
      ⟨(some 20), none, .bin .lss (.tmp 19) (.const (.int .i64 0))⟩]⟩]) [0, 1, 2, 3, 20])
  (.after (.cond (.tmp 20) (.after (.region [⟨false, [], [⟨(some 21), none, .val (.tmp 0)⟩,
      ⟨(some 22), none, .val (.tmp 1)⟩,
      ⟨(some 23), none, .callg 174 [.tmp 21, .tmp 22]⟩,
      ⟨(some 24), none, .bin .add (.tmp 23) (.const (.int .i64 1))⟩,
      ⟨(some 3), none, .val (.tmp 24)⟩]⟩]) [0, 1, 2, 3]) (.skip)) [0, 1, 2, 3]))
  (.seq (.after (.region [⟨false, [], [⟨(some 25), none, .val (.tmp 3)⟩,
      ⟨(some 26), none, .val (.tmp 0)⟩,
      ⟨(some 27), none, .len .str (.tmp 26)⟩,
      ⟨(some 28), none, .bin .add (.tmp 27) (.const (.int .i64 1))⟩,
      ⟨(some 29), none, .minmax false [.tmp 25, .tmp 28]⟩,
      ⟨(some 3), none, .val (.tmp 29)⟩]⟩]) [0, 1, 2, 3])
  (.seq (.after (.region [⟨false, [], [⟨(some 30), none, .val (.tmp 3)⟩,
      ⟨(some 31), none, .make 1 16 [.str []] (.tmp 30) (.tmp 30)⟩,
      ⟨(some 9), none, .val (.tmp 31)⟩]⟩]) [0, 1, 2, 3, 9])
  (.seq (.after (.region [⟨false, [], [⟨(some 32), none, .val (.tmp 3)⟩,
      ⟨(some 33), none, .bin .sub (.tmp 32) (.const (.int .i64 1))⟩,
      ⟨(some 3), none, .val (.tmp 33)⟩]⟩]) [0, 1, 2, 3, 9])
  (.seq (.after (.region [⟨false, [], [⟨(some 10), none, .val (.const (.int .i64 0))⟩]⟩]) [0, 1, 2, 3, 9, 10])
  (.seq (.after (.block 0 (.loop code143L0)) [0, 9, 10])
  (.seq (.after (.region [⟨false, [], [⟨(some 58), none, .val (.tmp 9)⟩,
      ⟨(some 59), none, .val (.tmp 10)⟩,
      ⟨(some 60), none, .val (.tmp 0)⟩,
      ⟨(some 61), none, .iaddr 1 (.tmp 58) (.tmp 59)⟩,
      ⟨none, none, .store 1 (.tmp 61) (.tmp 60)⟩]⟩]) [9, 10])
  (.seq (.after (.region [⟨false, [], [⟨(some 62), none, .val (.tmp 9)⟩,
      ⟨(some 63), none, .val (.tmp 10)⟩,
      ⟨(some 64), none, .bin .add (.tmp 63) (.const (.int .i64 1))⟩,
      ⟨(some 65), none, .slice (.sl 1) (.tmp 62) none (some (.tmp 64)) none⟩,
      ⟨(some 8), none, .val (.tmp 65)⟩]⟩]) [8])
  (.live [8] (.ret)))))))))))), none⟩
/-- carpetbag.desc.word-1 -/
def code146 : AFunc := ⟨false, false, 1, 26, [.tmp 2],
  .seq (.after (.region [⟨false, [], [⟨(some 2), none, .val (.const (.bool false))⟩]⟩]) [0])
  (.seq (.after (.block 0 (.seq (.seq (.after (.region [⟨false, [], [⟨(some 4), none, .val (.tmp 0)⟩,
      ⟨(some 5), none, .bin .geq (.tmp 4) (.const (.int .u8 97))⟩,
      ⟨(some 6), none, .val (.tmp 5)⟩,
      ⟨(some 7), (some (6, true)), .val (.tmp 0)⟩,
      ⟨(some 8), (some (6, true)), .bin .leq (.tmp 7) (.const (.int .u8 122))⟩,
      ⟨(some 9), none, .pick (.tmp 6) (.tmp 8) (.const (.bool false))⟩,
      ⟨(some 3), none, .val (.tmp 9)⟩]⟩]) [0, 3])
  (.after (.cond (.tmp 3) (.skip) (.seq (.after (.region [⟨false, [], [⟨(some 10), none, .val (.tmp 0)⟩,
      ⟨(some 11), none, .bin .geq (.tmp 10) (.const (.int .u8 65))⟩,
      ⟨(some 12), none, .val (.tmp 11)⟩,
      ⟨(some 13), (some (12, true)), .val (.tmp 0)⟩,
      ⟨(some 14), (some (12, true)), .bin .leq (.tmp 13) (.const (.int .u8 90))⟩,
      ⟨(some 15), none, .pick (.tmp 12) (.tmp 14) (.const (.bool false))⟩,
      ⟨(some 3), none, .val (.tmp 15)⟩]⟩]) [0, 3])
  (.after (.cond (.tmp 3) (.skip) (.seq (.after (.region [⟨false, [], [⟨(some 16), none, .val (.tmp 0)⟩,
      ⟨(some 17), none, .bin .geq (.tmp 16) (.const (.int .u8 48))⟩,
      ⟨(some 18), none, .val (.tmp 17)⟩,
      ⟨(some 19), (some (18, true)), .val (.tmp 0)⟩,
      ⟨(some 20), (some (18, true)), .bin .leq (.tmp 19) (.const (.int .u8 57))⟩,
      ⟨(some 21), none, .pick (.tmp 18) (.tmp 20) (.const (.bool false))⟩,
      ⟨(some 3), none, .val (.tmp 21)⟩]⟩]) [0, 3])
  (.after (.cond (.tmp 3) (.skip) (.seq (.after (.region [⟨false, [], [⟨(some 22), none, .val (.tmp 0)⟩,
      ⟨(some 23), none, .bin .eql (.tmp 22) (.const (.int .u8 95))⟩,
      ⟨(some 3), none, .val (.tmp 23)⟩]⟩]) [0, 3])
  (.after (.cond (.tmp 3) (.skip) (.after (.region [⟨false, [], [⟨(some 24), none, .val (.tmp 0)⟩,
      ⟨(some 25), none, .bin .eql (.tmp 24) (.const (.int .u8 36))⟩,
      ⟨(some 3), none, .val (.tmp 25)⟩]⟩]) [3])) [3]))) [3]))) [3]))) [3]))
  (.after (.cond (.tmp 3) (.seq (.after (.region [⟨false, [], [⟨(some 2), none, .val (.const (.bool false))⟩]⟩]) [2])
  (.live [2] (.ret))) (.skip)) []))) [])
  (.seq (.after (.region [⟨false, [], [⟨(some 2), none, .val (.const (.bool true))⟩]⟩]) [2])
  (.live [2] (.ret)))), none⟩
/-- slices.ContainsFunc[[]byte,byte] -/
def code145 : AFunc := ⟨false, false, 2, 9, [.tmp 4],
  .seq (.after (.region [⟨false, [], [⟨(some 4), none, .val (.const (.bool false))⟩]⟩]) [0, 1])
  (.seq (.after (.region [⟨false, [], [⟨(some 5), none, .val (.tmp 0)⟩,
      ⟨(some 6), none, .val (.tmp 1)⟩,
      ⟨(some 7), none, .callg 176 [.tmp 5, .tmp 6]⟩,
      ⟨(some 8), none, .bin .geq (.tmp 7) (.const (.int .i64 0))⟩,
      ⟨(some 4), none, .val (.tmp 8)⟩]⟩]) [4])
  (.live [4] (.ret))), none⟩
/-- (*strings.Builder).Grow -/
def code149 : AFunc := ⟨false, false, 2, 25, [],
  .seq (.after (.region [⟨false, [], [⟨(some 4), none, .val (.tmp 0)⟩,
      ⟨(some 5), none, .callg 178 [.tmp 4]⟩]⟩]) [0, 1])
  (.seq (.seq (.after (.region [⟨false, [], [⟨(some 6), none, .val (.tmp 1)⟩,
      ⟨(some 7), none, .bin .lss (.tmp 6) (.const (.int .i64 0))⟩]⟩]) [0, 1, 7])
  (.after (.cond (.tmp 7) (.after (.region [⟨false, [], [⟨(some 8), none, .nextStr (.const (.bool false))⟩,
      ⟨none, none, .nextStr (.const (.bool false))⟩]⟩]) [0, 1]) (.skip)) [0, 1]))
  (.seq (.after (.region [⟨true, [], [⟨(some 9), none, .val (.tmp 0)⟩,
      ⟨(some 10), none, .nilcheck (.tmp 9)⟩,
      ⟨(some 11), none, .faddr (.tmp 10) 1⟩,
      ⟨(some 12), none, .load none (.tmp 11)⟩,
      ⟨(some 13), none, .ext (.pure .cap) [.tmp 12]⟩,
      ⟨(some 14), none, .val (.tmp 0)⟩,
      ⟨(some 15), none, .nilcheck (.tmp 14)⟩,
      ⟨(some 16), none, .faddr (.tmp 15) 1⟩,
      ⟨(some 17), none, .load none (.tmp 16)⟩,
      ⟨(some 18), none, .len .sl (.tmp 17)⟩,
      ⟨(some 19), none, .bin .sub (.tmp 13) (.tmp 18)⟩,
      ⟨(some 20), none, .val (.tmp 1)⟩]⟩, ⟨false, [], [⟨(some 21), none, .bin .lss (.tmp 19) (.tmp 20)⟩]⟩]) [0, 1, 21])
  (.after (.cond (.tmp 21) (.after (.region [⟨false, [], [⟨(some 22), none, .val (.tmp 0)⟩,
      ⟨(some 23), none, .val (.tmp 1)⟩,
      ⟨(some 24), none, .callg 177 [.tmp 22, .tmp 23]⟩]⟩]) []) (.skip)) []))), none⟩
/-- (*strings.Builder).WriteString -/
def code148 : AFunc := ⟨false, false, 2, 19, [.tmp 4, .tmp 5],
  .seq (.after (.region [⟨false, [], [⟨(some 4), none, .val (.const (.int .i64 0))⟩,
      ⟨(some 5), none, .val (.const (.nilIface))⟩]⟩]) [0, 1])
  (.seq (.after (.region [⟨false, [], [⟨(some 6), none, .val (.tmp 0)⟩,
      ⟨(some 7), none, .callg 178 [.tmp 6]⟩]⟩]) [0, 1])
  (.seq (.after (.region [⟨false, [], [⟨(some 8), none, .val (.tmp 0)⟩,
      ⟨(some 9), none, .val (.tmp 0)⟩,
      ⟨(some 10), none, .nilcheck (.tmp 9)⟩,
      ⟨(some 11), none, .faddr (.tmp 10) 1⟩,
      ⟨(some 12), none, .load none (.tmp 11)⟩,
      ⟨(some 13), none, .val (.tmp 1)⟩,
      ⟨(some 14), none, .append 1 1 (.tmp 12) (.tmp 13)⟩,
      ⟨(some 15), none, .nilcheck (.tmp 8)⟩,
      ⟨(some 16), none, .faddr (.tmp 15) 1⟩,
      ⟨none, none, .store 1 (.tmp 16) (.tmp 14)⟩]⟩]) [1])
  (.seq (.after (.region [⟨false, [], [⟨(some 17), none, .val (.tmp 1)⟩,
      ⟨(some 18), none, .len .str (.tmp 17)⟩,
      ⟨(some 4), none, .val (.tmp 18)⟩,
      ⟨(some 5), none, .val (.const (.nilIface))⟩]⟩]) [4, 5])
  (.live [4, 5] (.ret))))), none⟩
/-- (*strings.Builder).String -/
def code147 : AFunc := ⟨false, false, 1, 14, [.tmp 2],
  .seq (.after (.region [⟨false, [], [⟨(some 2), none, .val (.const (.str []))⟩]⟩]) [0])
  (.seq (.after (.region [⟨true, [], [⟨(some 3), none, .val (.tmp 0)⟩,
      ⟨(some 4), none, .nilcheck (.tmp 3)⟩,
      ⟨(some 5), none, .faddr (.tmp 4) 1⟩,
      ⟨(some 6), none, .load none (.tmp 5)⟩,
      ⟨(some 7), none, .nextStr (.const (.bool false))⟩,
      ⟨(some 8), none, .val (.tmp 0)⟩,
      ⟨(some 9), none, .nilcheck (.tmp 8)⟩,
      ⟨(some 10), none, .faddr (.tmp 9) 1⟩,
      ⟨(some 11), none, .load none (.tmp 10)⟩,
      ⟨(some 12), none, .len .sl (.tmp 11)⟩]⟩, ⟨false, [], [⟨(some 13), none, .nextStr (.const (.bool false))⟩,
      ⟨(some 2), none, .val (.tmp 13)⟩]⟩]) [2])
  (.live [2] (.ret))), none⟩
def code171L0 : ACode :=
  .live [0, 1] (.seq (.seq (.after (.region [⟨false, [], [⟨(some 5), none, .val (.tmp 0)⟩,
      ⟨(some 6), none, .len .str (.tmp 5)⟩,
      ⟨(some 7), none, .bin .gtr (.tmp 6) (.const (.int .i64 0))⟩,
      ⟨(some 8), none, .val (.tmp 7)⟩,
      ⟨(some 9), (some (8, true)), .val (.tmp 0)⟩,
      ⟨(some 10), (some (8, true)), .index (.tmp 9) (.const (.int .i64 0))⟩,
      ⟨(some 11), (some (8, true)), .val (.tmp 1)⟩,
      ⟨(some 12), (some (8, true)), .bin .eql (.tmp 10) (.tmp 11)⟩,
      ⟨(some 13), none, .pick (.tmp 8) (.tmp 12) (.const (.bool false))⟩]⟩]) [0, 1, 13])
  (.after (.cond (.tmp 13) (.skip) (.live [0] (.exit 0))) [0, 1]))
  (.after (.block 1 (.after (.region [⟨false, [], [⟨(some 14), none, .val (.tmp 0)⟩,
      ⟨(some 15), none, .slice .str (.tmp 14) (some (.const (.int .i64 1))) none none⟩,
      ⟨(some 0), none, .val (.tmp 15)⟩]⟩]) [0, 1])) [0, 1]))
/-- strings.trimLeftByte -/
def code171 : AFunc := ⟨false, false, 2, 17, [.tmp 4],
  .seq (.after (.region [⟨false, [], [⟨(some 4), none, .val (.const (.str []))⟩]⟩]) [0, 1])
  (.seq (.after (.block 0 (.loop code171L0)) [0])
  (.seq (.after (.region [⟨false, [], [⟨(some 16), none, .val (.tmp 0)⟩,
      ⟨(some 4), none, .val (.tmp 16)⟩]⟩]) [4])
  (.live [4] (.ret)))), none⟩
def code170L0 : ACode :=
  .live [0, 2, 4] (.seq (.seq (.after (.region [⟨false, [], [⟨(some 6), none, .val (.tmp 4)⟩,
      ⟨(some 7), none, .val (.tmp 0)⟩,
      ⟨(some 8), none, .len .str (.tmp 7)⟩,
      ⟨(some 9), none, .bin .lss (.tmp 6) (.tmp 8)⟩]⟩]) [0, 2, 4, 9])
  (.after (.cond (.tmp 9) (.skip) (.live [2] (.exit 0))) [0, 2, 4]))
  (.seq (.after (.block 1 (.seq (.after (.region [⟨false, [], [⟨(some 12), none, .val (.tmp 0)⟩,
      ⟨(some 13), none, .val (.tmp 4)⟩,
      ⟨(some 14), none, .index (.tmp 12) (.tmp 13)⟩,
      ⟨(some 5), none, .val (.tmp 14)⟩]⟩]) [0, 2, 4, 5])
  (.seq (.seq (.after (.region [⟨false, [], [⟨(some 15), none, .val (.tmp 5)⟩,
      ⟨(some 16), none, .bin .geq (.tmp 15) (.const (.int .u8 128))⟩]⟩]) [0, 2, 4, 5, 16])
  (.after (.cond (.tmp 16) (.seq (.after (.region [⟨false, [], [⟨(some 17), none, .load (some 256) (.tmp 2)⟩,
      ⟨none, none, .store 256 (.tmp 2) (.tmp 17)⟩,
      ⟨(some 3), none, .val (.const (.bool false))⟩]⟩]) [2, 3])
  (.live [2, 3] (.ret))) (.skip)) [0, 2, 4, 5]))
  (.after (.region [⟨false, [], [⟨(some 18), none, .val (.tmp 5)⟩,
      ⟨(some 19), none, .aaddr 256 1 (.tmp 2) (.tmp 18)⟩,
      ⟨none, none, .store 1 (.tmp 19) (.const (.bool true))⟩]⟩]) [0, 2, 4])))) [0, 2, 4])
  (.after (.region [⟨false, [], [⟨(some 10), none, .val (.tmp 4)⟩,
      ⟨(some 11), none, .bin .add (.tmp 10) (.const (.int .i64 1))⟩,
      ⟨(some 4), none, .val (.tmp 11)⟩]⟩]) [0, 2, 4])))
/-- strings.makeASCIISet -/
def code170 : AFunc := ⟨false, false, 1, 21, [.cell 2 (some 256), .tmp 3],
  .seq (.after (.region [⟨false, [], [⟨(some 2), none, .lalloc [.bool false, .bool false, .bool false, .bool false, .bool false, .bool false, .bool false, .bool false, .bool false, .bool false, .bool false, .bool false, .bool false, .bool false, .bool false, .bool false, .bool false, .bool false, .bool false, .bool false, .bool false, .bool false, .bool false, .bool false, .bool false, .bool false, .bool false, .bool false, .bool false, .bool false, .bool false, .bool false, .bool false, .bool false, .bool false, .bool false, .bool false, .bool false, .bool false, .bool false, .bool false, .bool false, .bool false, .bool false, .bool false, .bool false, .bool false, .bool false, .bool false, .bool false, .bool false, .bool false, .bool false, .bool false, .bool false, .bool false, .bool false, .bool false, .bool false, .bool false, .bool false, .bool false, .bool false, .bool false, .bool false, .bool false, .bool false, .bool false, .bool false, .bool false, .bool false, .bool false, .bool false, .bool false, .bool false, .bool false, .bool false, .bool false, .bool false, .bool false, .bool false, .bool false, .bool false, .bool false, .bool false, .bool false, .bool false, .bool false, .bool false, .bool false, .bool false, .bool false, .bool false, .bool false, .bool false, .bool false, .bool false, .bool false, .bool false, .bool false, .bool false, .bool false, .bool false, .bool false, .bool false, .bool false, .bool false, .bool false, .bool false, .bool false, .bool false, .bool false, .bool false, .bool false, .bool false, .bool false, .bool false, .bool false, .bool false, .bool false, .bool false, .bool false, .bool false, .bool false, .bool false, .bool false, .bool false, .bool false, .bool false, .bool false, .bool false, .bool false, .bool false, .bool false, .bool false, .bool false, .bool false, .bool false, .bool false, .bool false, .bool false, .bool false, .bool false, .bool false, .bool false, .bool false, .bool false, .bool false, .bool false, .bool false, .bool false, .bool false, .bool false, .bool false, .bool false, .bool false, .bool false, .bool false, .bool false, .bool false, .bool false, .bool false, .bool false, .bool false, .bool false, .bool false, .bool false, .bool false, .bool false, .bool false, .bool false, .bool false, .bool false, .bool false, .bool false, .bool false, .bool false, .bool false, .bool false, .bool false, .bool false, .bool false, .bool false, .bool false, .bool false, .bool false, .bool false, .bool false, .bool false, .bool false, .bool false, .bool false, .bool false, .bool false, .bool false, .bool false, .bool false, .bool false, .bool false, .bool false, .bool false, .bool false, .bool false, .bool false, .bool false, .bool false, .bool false, .bool false, .bool false, .bool false, .bool false, .bool false, .bool false, .bool false, .bool false, .bool false, .bool false, .bool false, .bool false, .bool false, .bool false, .bool false, .bool false, .bool false, .bool false, .bool false, .bool false, .bool false, .bool false, .bool false, .bool false, .bool false, .bool false, .bool false, .bool false, .bool false, .bool false, .bool false, .bool false, .bool false, .bool false, .bool false, .bool false, .bool false, .bool false, .bool false, .bool false, .bool false, .bool false, .bool false, .bool false, .bool false, .bool false, .bool false, .bool false, .bool false]⟩,
      ⟨(some 3), none, .val (.const (.bool false))⟩]⟩]) [0, 2])
  (.seq (.seq (.after (.region [⟨false, [], [⟨(some 4), none, .val (.const (.int .i64 0))⟩]⟩]) [0, 2, 4])
  (.after (.block 0 (.loop code170L0)) [2]))
  (.seq (.after (.region [⟨false, [], [⟨(some 20), none, .load (some 256) (.tmp 2)⟩,
      ⟨none, none, .store 256 (.tmp 2) (.tmp 20)⟩,
      ⟨(some 3), none, .val (.const (.bool true))⟩]⟩]) [2, 3])
  (.live [2, 3] (.ret)))), none⟩
def code169L0 : ACode :=
  .live [0, 1] (.seq (.seq (.after (.region [⟨false, [], [⟨(some 5), none, .val (.tmp 0)⟩,
      ⟨(some 6), none, .len .str (.tmp 5)⟩,
      ⟨(some 7), none, .bin .gtr (.tmp 6) (.const (.int .i64 0))⟩]⟩]) [0, 1, 7])
  (.after (.cond (.tmp 7) (.skip) (.live [0] (.exit 0))) [0, 1]))
  (.after (.block 1 (.seq (.seq (.after (.region [⟨false, [], [⟨(some 8), none, .val (.tmp 1)⟩,
      ⟨(some 9), none, .val (.tmp 0)⟩,
      ⟨(some 10), none, .index (.tmp 9) (.const (.int .i64 0))⟩,
      ⟨(some 11), none, .callg 202 [.tmp 8, .tmp 10]⟩,
      ⟨(some 12), none, .un .not (.tmp 11)⟩]⟩]) [0, 1, 12])
  (.after (.cond (.tmp 12) (.live [0] (.exit 0)) (.skip)) [0, 1]))
  (.after (.region [⟨false, [], [⟨(some 13), none, .val (.tmp 0)⟩,
      ⟨(some 14), none, .slice .str (.tmp 13) (some (.const (.int .i64 1))) none none⟩,
      ⟨(some 0), none, .val (.tmp 14)⟩]⟩]) [0, 1]))) [0, 1]))
/-- strings.trimLeftASCII -/
def code169 : AFunc := ⟨false, false, 2, 16, [.tmp 4],
  .seq (.after (.region [⟨false, [], [⟨(some 4), none, .val (.const (.str []))⟩]⟩]) [0, 1])
  (.seq (.after (.block 0 (.loop code169L0)) [0])
  (.seq (.after (.region [⟨false, [], [⟨(some 15), none, .val (.tmp 0)⟩,
      ⟨(some 4), none, .val (.tmp 15)⟩]⟩]) [4])
  (.live [4] (.ret)))), none⟩
def code168L0 : ACode :=
  .live [0, 1] (.seq (.seq (.after (.region [⟨false, [], [⟨(some 7), none, .val (.tmp 0)⟩,
      ⟨(some 8), none, .len .str (.tmp 7)⟩,
      ⟨(some 9), none, .bin .gtr (.tmp 8) (.const (.int .i64 0))⟩]⟩]) [0, 1, 9])
  (.after (.cond (.tmp 9) (.skip) (.live [0] (.exit 0))) [0, 1]))
  (.after (.block 1 (.seq (.after (.region [⟨false, [], [⟨(some 11), none, .val (.tmp 0)⟩,
      ⟨(some 12), none, .callg 204 [.tmp 11]⟩,
      ⟨(some 10), none, .val (.tmp 12)⟩,
      ⟨(some 13), none, .extract (.tmp 10) 0⟩,
      ⟨(some 14), none, .extract (.tmp 10) 1⟩,
      ⟨(some 5), none, .val (.tmp 13)⟩,
      ⟨(some 6), none, .val (.tmp 14)⟩]⟩]) [0, 1, 5, 6])
  (.seq (.seq (.after (.region [⟨false, [], [⟨(some 15), none, .val (.tmp 1)⟩,
      ⟨(some 16), none, .val (.tmp 5)⟩,
      ⟨(some 17), none, .callg 203 [.tmp 15, .tmp 16]⟩,
      ⟨(some 18), none, .un .not (.tmp 17)⟩]⟩]) [0, 1, 6, 18])
  (.after (.cond (.tmp 18) (.live [0] (.exit 0)) (.skip)) [0, 1, 6]))
  (.after (.region [⟨false, [], [⟨(some 19), none, .val (.tmp 0)⟩,
      ⟨(some 20), none, .val (.tmp 6)⟩,
      ⟨(some 21), none, .slice .str (.tmp 19) (some (.tmp 20)) none none⟩,
      ⟨(some 0), none, .val (.tmp 21)⟩]⟩]) [0, 1])))) [0, 1]))
/-- strings.trimLeftUnicode -/
def code168 : AFunc := ⟨false, false, 2, 23, [.tmp 4],
  .seq (.after (.region [⟨false, [], [⟨(some 4), none, .val (.const (.str []))⟩]⟩]) [0, 1])
  (.seq (.after (.block 0 (.loop code168L0)) [0])
  (.seq (.after (.region [⟨false, [], [⟨(some 22), none, .val (.tmp 0)⟩,
      ⟨(some 4), none, .val (.tmp 22)⟩]⟩]) [4])
  (.live [4] (.ret)))), none⟩
/-- internal.stringslite.Cut -/
def code172 : AFunc := ⟨false, false, 2, 23, [.tmp 4, .tmp 5, .tmp 6],
  .seq (.after (.region [⟨false, [], [⟨(some 4), none, .val (.const (.str []))⟩,
      ⟨(some 5), none, .val (.const (.str []))⟩,
      ⟨(some 6), none, .val (.const (.bool false))⟩]⟩]) [0, 1])
  (.seq (.seq (.after (.region [⟨false, [], [⟨(some 8), none, .val (.tmp 0)⟩,
      ⟨(some 9), none, .val (.tmp 1)⟩,
      ⟨(some 10), none, .callg 205 [.tmp 8, .tmp 9]⟩,
      ⟨(some 7), none, .val (.tmp 10)⟩]⟩]) [0, 1, 7])
  (.seq (.after (.region [⟨false, [], [⟨(some 11), none, .val (.tmp 7)⟩,
      ⟨(some 12), none, .bin .geq (.tmp 11) (.const (.int .i64 0))⟩]⟩]) [0, 1, 7, 12])
  (.after (.cond (.tmp 12) (.seq (.after (.region [⟨true, [], [⟨(some 13), none, .val (.tmp 0)⟩,
      ⟨(some 14), none, .val (.tmp 7)⟩,
      ⟨(some 15), none, .slice .str (.tmp 13) none (some (.tmp 14)) none⟩,
      ⟨(some 16), none, .val (.tmp 0)⟩,
      ⟨(some 17), none, .val (.tmp 7)⟩,
      ⟨(some 18), none, .val (.tmp 1)⟩,
      ⟨(some 19), none, .len .str (.tmp 18)⟩,
      ⟨(some 20), none, .bin .add (.tmp 17) (.tmp 19)⟩,
      ⟨(some 21), none, .slice .str (.tmp 16) (some (.tmp 20)) none none⟩,
      ⟨(some 4), none, .val (.tmp 15)⟩]⟩, ⟨false, [], [⟨(some 5), none, .val (.tmp 21)⟩,
      ⟨(some 6), none, .val (.const (.bool true))⟩]⟩]) [4, 5, 6])
  (.live [4, 5, 6] (.ret))) (.skip)) [0])))
  (.seq (.after (.region [⟨false, [], [⟨(some 22), none, .val (.tmp 0)⟩,
      ⟨(some 4), none, .val (.tmp 22)⟩,
      ⟨(some 5), none, .val (.const (.str []))⟩,
      ⟨(some 6), none, .val (.const (.bool false))⟩]⟩]) [4, 5, 6])
  (.live [4, 5, 6] (.ret)))), none⟩
def code175L0 : ACode :=
  .live [0, 1, 6, 7] (.seq (.seq (.after (.region [⟨false, [], [⟨(some 22), none, .val (.tmp 7)⟩,
      ⟨(some 23), none, .val (.tmp 1)⟩,
      ⟨(some 24), none, .bin .sub (.tmp 23) (.const (.int .i64 1))⟩,
      ⟨(some 25), none, .bin .lss (.tmp 22) (.tmp 24)⟩]⟩]) [0, 1, 6, 7, 25])
  (.after (.cond (.tmp 25) (.skip) (.live [0, 1, 6] (.exit 0))) [0, 1, 6, 7]))
  (.seq (.after (.block 1 (.seq (.after (.region [⟨false, [], [⟨(some 29), none, .val (.tmp 0)⟩,
      ⟨(some 30), none, .callg 204 [.tmp 29]⟩,
      ⟨(some 28), none, .val (.tmp 30)⟩,
      ⟨(some 31), none, .extract (.tmp 28) 0⟩,
      ⟨(some 32), none, .extract (.tmp 28) 1⟩,
      ⟨(some 8), none, .val (.tmp 31)⟩,
      ⟨(some 9), none, .val (.tmp 32)⟩]⟩]) [0, 1, 6, 7, 9])
  (.seq (.after (.region [⟨false, [], [⟨(some 33), none, .val (.tmp 6)⟩,
      ⟨(some 34), none, .val (.tmp 7)⟩,
      ⟨(some 35), none, .val (.tmp 0)⟩,
      ⟨(some 36), none, .val (.tmp 9)⟩,
      ⟨(some 37), none, .slice .str (.tmp 35) none (some (.tmp 36)) none⟩,
      ⟨(some 38), none, .iaddr 1 (.tmp 33) (.tmp 34)⟩,
      ⟨none, none, .store 1 (.tmp 38) (.tmp 37)⟩]⟩]) [0, 1, 6, 7, 9])
  (.after (.region [⟨false, [], [⟨(some 39), none, .val (.tmp 0)⟩,
      ⟨(some 40), none, .val (.tmp 9)⟩,
      ⟨(some 41), none, .slice .str (.tmp 39) (some (.tmp 40)) none none⟩,
      ⟨(some 0), none, .val (.tmp 41)⟩]⟩]) [0, 1, 6, 7])))) [0, 1, 6, 7])
  (.after (.region [⟨false, [], [⟨(some 26), none, .val (.tmp 7)⟩,
      ⟨(some 27), none, .bin .add (.tmp 26) (.const (.int .i64 1))⟩,
      ⟨(some 7), none, .val (.tmp 27)⟩]⟩]) [0, 1, 6, 7])))
/-- strings.explode -/
def code175 : AFunc := ⟨false, false, 2, 50, [.tmp 4],
  .seq (.after (.region [⟨false, [], [⟨(some 4), none, .val (.const (.slice none 0 (some 0)))⟩]⟩]) [0, 1])
  (.seq (.after (.region [⟨false, [], [⟨(some 10), none, .val (.tmp 0)⟩,
      ⟨(some 11), none, .callg 206 [.tmp 10]⟩,
      ⟨(some 5), none, .val (.tmp 11)⟩]⟩]) [0, 1, 5])
  (.seq (.seq (.after (.region [⟨false, [], [⟨(some 12), none, .val (.tmp 1)⟩,
      ⟨(some 13), none, .bin .lss (.tmp 12) (.const (.int .i64 0))⟩,
      ⟨(some 14), none, .val (.tmp 13)⟩,
      ⟨(some 15), (some (14, false)), .val (.tmp 1)⟩,
      ⟨(some 16), (some (14, false)), .val (.tmp 5)⟩,
      ⟨(some 17), (some (14, false)), .bin .gtr (.tmp 15) (.tmp 16)⟩,
      ⟨(some 18), none, .pick (.tmp 14) (.const (.bool true)) (.tmp 17)⟩]⟩]) [0, 1, 5, 18])
  (.after (.cond (.tmp 18) (.after (.region [⟨false, [], [⟨(some 19), none, .val (.tmp 5)⟩,
      ⟨(some 1), none, .val (.tmp 19)⟩]⟩]) [0, 1]) (.skip)) [0, 1]))
  (.seq (.after (.region [⟨false, [], [⟨(some 20), none, .val (.tmp 1)⟩,
      ⟨(some 21), none, .make 1 16 [.str []] (.tmp 20) (.tmp 20)⟩,
      ⟨(some 6), none, .val (.tmp 21)⟩]⟩]) [0, 1, 6])
  (.seq (.seq (.after (.region [⟨false, [], [⟨(some 7), none, .val (.const (.int .i64 0))⟩]⟩]) [0, 1, 6, 7])
  (.after (.block 0 (.loop code175L0)) [0, 1, 6]))
  (.seq (.seq (.after (.region [⟨false, [], [⟨(some 42), none, .val (.tmp 1)⟩,
      ⟨(some 43), none, .bin .gtr (.tmp 42) (.const (.int .i64 0))⟩]⟩]) [0, 1, 6, 43])
  (.after (.cond (.tmp 43) (.after (.region [⟨false, [], [⟨(some 44), none, .val (.tmp 6)⟩,
      ⟨(some 45), none, .val (.tmp 1)⟩,
      ⟨(some 46), none, .bin .sub (.tmp 45) (.const (.int .i64 1))⟩,
      ⟨(some 47), none, .val (.tmp 0)⟩,
      ⟨(some 48), none, .iaddr 1 (.tmp 44) (.tmp 46)⟩,
      ⟨none, none, .store 1 (.tmp 48) (.tmp 47)⟩]⟩]) [6]) (.skip)) [6]))
  (.seq (.after (.region [⟨false, [], [⟨(some 49), none, .val (.tmp 6)⟩,
      ⟨(some 4), none, .val (.tmp 49)⟩]⟩]) [4])
  (.live [4] (.ret)))))))), none⟩
def code174L0 : ACode :=
  .live [0, 1, 5] (.after (.block 1 (.seq (.after (.region [⟨false, [], [⟨(some 20), none, .val (.tmp 0)⟩,
      ⟨(some 21), none, .val (.tmp 1)⟩,
      ⟨(some 22), none, .callg 173 [.tmp 20, .tmp 21]⟩,
      ⟨(some 6), none, .val (.tmp 22)⟩]⟩]) [0, 1, 5, 6])
  (.seq (.seq (.after (.region [⟨false, [], [⟨(some 23), none, .val (.tmp 6)⟩,
      ⟨(some 24), none, .bin .eql (.tmp 23) (.const (.int .i64 (-1)))⟩]⟩]) [0, 1, 5, 6, 24])
  (.after (.cond (.tmp 24) (.seq (.after (.region [⟨false, [], [⟨(some 25), none, .val (.tmp 5)⟩,
      ⟨(some 4), none, .val (.tmp 25)⟩]⟩]) [4])
  (.live [4] (.ret))) (.skip)) [0, 1, 5, 6]))
  (.seq (.after (.region [⟨false, [], [⟨(some 26), none, .val (.tmp 5)⟩,
      ⟨(some 27), none, .bin .add (.tmp 26) (.const (.int .i64 1))⟩,
      ⟨(some 5), none, .val (.tmp 27)⟩]⟩]) [0, 1, 5, 6])
  (.after (.region [⟨false, [], [⟨(some 28), none, .val (.tmp 0)⟩,
      ⟨(some 29), none, .val (.tmp 6)⟩,
      ⟨(some 30), none, .val (.tmp 1)⟩,
      ⟨(some 31), none, .len .str (.tmp 30)⟩,
      ⟨(some 32), none, .bin .add (.tmp 29) (.tmp 31)⟩,
      ⟨(some 33), none, .slice .str (.tmp 28) (some (.tmp 32)) none none⟩,
      ⟨(some 0), none, .val (.tmp 33)⟩]⟩]) [0, 1, 5]))))) [0, 1, 5])
/-- strings.Count -/
def code174 : AFunc := ⟨false, false, 2, 34, [.tmp 4],
  .seq (.after (.region [⟨false, [], [⟨(some 4), none, .val (.const (.int .i64 0))⟩]⟩]) [0, 1])
  (.seq (.seq (.after (.region [⟨false, [], [⟨(some 7), none, .val (.tmp 1)⟩,
      ⟨(some 8), none, .len .str (.tmp 7)⟩,
      ⟨(some 9), none, .bin .eql (.tmp 8) (.const (.int .i64 0))⟩]⟩]) [0, 1, 9])
  (.after (.cond (.tmp 9) (.seq (.after (.region [⟨false, [], [⟨(some 10), none, .val (.tmp 0)⟩,
      ⟨(some 11), none, .callg 206 [.tmp 10]⟩,
      ⟨(some 12), none, .bin .add (.tmp 11) (.const (.int .i64 1))⟩,
      ⟨(some 4), none, .val (.tmp 12)⟩]⟩]) [4])
  (.live [4] (.ret))) (.skip)) [0, 1]))
  (.seq (.seq (.after (.region [⟨false, [], [⟨(some 13), none, .val (.tmp 1)⟩,
      ⟨(some 14), none, .len .str (.tmp 13)⟩,
      ⟨(some 15), none, .bin .eql (.tmp 14) (.const (.int .i64 1))⟩]⟩]) [0, 1, 15])
  (.after (.cond (.tmp 15) (.seq (.after (.region [⟨false, [], [⟨(some 16), none, .val (.tmp 0)⟩,
      ⟨(some 17), none, .val (.tmp 1)⟩,
      ⟨(some 18), none, .index (.tmp 17) (.const (.int .i64 0))⟩,
      ⟨(some 19), none, .ext (.pure (.prim .countByte)) [.tmp 16, .tmp 18]⟩,
      ⟨(some 4), none, .val (.tmp 19)⟩]⟩]) [4])
  (.live [4] (.ret))) (.skip)) [0, 1]))
  (.seq (.after (.region [⟨false, [], [⟨(some 5), none, .val (.const (.int .i64 0))⟩]⟩]) [0, 1, 5])
  (.after (.block 0 (.loop code174L0)) [4])))), none⟩
/-- strings.Index -/
def code173 : AFunc := ⟨false, false, 2, 8, [.tmp 4],
  .seq (.after (.region [⟨false, [], [⟨(some 4), none, .val (.const (.int .i64 0))⟩]⟩]) [0, 1])
  (.seq (.after (.region [⟨false, [], [⟨(some 5), none, .val (.tmp 0)⟩,
      ⟨(some 6), none, .val (.tmp 1)⟩,
      ⟨(some 7), none, .callg 205 [.tmp 5, .tmp 6]⟩,
      ⟨(some 4), none, .val (.tmp 7)⟩]⟩]) [4])
  (.live [4] (.ret))), none⟩
def code176L0 : ACode :=
  .live [0, 1, 7, 8] (.seq (.after (.region [⟨false, [], [⟨(some 9), none, .bin .lss (.tmp 8) (.tmp 7)⟩]⟩]) [0, 1, 7, 8, 9])
  (.seq (.after (.cond (.tmp 9) (.skip) (.live [] (.exit 0))) [0, 1, 7, 8])
  (.seq (.after (.block 1 (.seq (.after (.region [⟨false, [], [⟨(some 10), none, .val (.tmp 8)⟩,
      ⟨(some 5), none, .val (.tmp 10)⟩]⟩]) [0, 1, 5, 7, 8])
  (.seq (.after (.region [⟨false, [], [⟨(some 11), none, .val (.tmp 1)⟩,
      ⟨(some 12), none, .val (.tmp 0)⟩,
      ⟨(some 13), none, .val (.tmp 5)⟩,
      ⟨(some 14), none, .iaddr 1 (.tmp 12) (.tmp 13)⟩,
      ⟨(some 15), none, .load none (.tmp 14)⟩,
      ⟨(some 16), none, .call (.tmp 11) [.tmp 15]⟩]⟩]) [0, 1, 5, 7, 8, 16])
  (.after (.cond (.tmp 16) (.seq (.after (.region [⟨false, [], [⟨(some 17), none, .val (.tmp 5)⟩,
      ⟨(some 4), none, .val (.tmp 17)⟩]⟩]) [4])
  (.live [4] (.ret))) (.skip)) [0, 1, 7, 8])))) [0, 1, 7, 8])
  (.after (.region [⟨false, [], [⟨(some 18), none, .bin .add (.tmp 8) (.const (.int .i64 1))⟩,
      ⟨(some 8), none, .val (.tmp 18)⟩]⟩]) [0, 1, 7, 8]))))
/-- slices.IndexFunc[[]byte,byte] -/
def code176 : AFunc := ⟨false, false, 2, 19, [.tmp 4],
  .seq (.after (.region [⟨false, [], [⟨(some 4), none, .val (.const (.int .i64 0))⟩]⟩]) [0, 1])
  (.seq (.seq (.after (.region [⟨false, [], [⟨(some 6), none, .val (.tmp 0)⟩,
      ⟨(some 7), none, .len .sl (.tmp 6)⟩,
      ⟨(some 8), none, .val (.const (.int .i64 0))⟩]⟩]) [0, 1, 7, 8])
  (.after (.block 0 (.loop code176L0)) []))
  (.seq (.after (.region [⟨false, [], [⟨(some 4), none, .val (.const (.int .i64 (-1)))⟩]⟩]) [4])
  (.live [4] (.ret)))), none⟩
/-- (*strings.Builder).copyCheck -/
def code178 : AFunc := ⟨false, false, 1, 20, [],
  .seq (.after (.region [⟨false, [], [⟨(some 2), none, .val (.tmp 0)⟩,
      ⟨(some 3), none, .nilcheck (.tmp 2)⟩,
      ⟨(some 4), none, .faddr (.tmp 3) 0⟩,
      ⟨(some 5), none, .load none (.tmp 4)⟩,
      ⟨(some 6), none, .eqnil .ptr false (.tmp 5) (.const (.ptr none))⟩]⟩]) [0, 6])
  (.after (.cond (.tmp 6) (.after (.region [⟨false, [], [⟨(some 7), none, .val (.tmp 0)⟩,
      ⟨(some 8), none, .val (.tmp 0)⟩,
      ⟨(some 9), none, .nextStr (.const (.bool false))⟩,
      ⟨(some 10), none, .nextStr (.const (.bool false))⟩,
      ⟨(some 11), none, .nextStr (.const (.bool false))⟩,
      ⟨(some 12), none, .nilcheck (.tmp 7)⟩,
      ⟨(some 13), none, .faddr (.tmp 12) 0⟩,
      ⟨none, none, .store 1 (.tmp 13) (.tmp 11)⟩]⟩]) []) (.seq (.after (.region [⟨false, [], [⟨(some 14), none, .val (.tmp 0)⟩,
      ⟨(some 15), none, .nilcheck (.tmp 14)⟩,
      ⟨(some 16), none, .faddr (.tmp 15) 0⟩,
      ⟨(some 17), none, .load none (.tmp 16)⟩,
      ⟨(some 18), none, .val (.tmp 0)⟩,
      ⟨(some 19), none, .eqnil .ptr true (.tmp 17) (.tmp 18)⟩]⟩]) [19])
  (.after (.cond (.tmp 19) (.cond (.const (.str [])) (.skip) (.skip)) (.skip)) []))) []), none⟩
/-- (*strings.Builder).grow -/
def code177 : AFunc := ⟨false, false, 2, 30, [],
  .seq (.after (.region [⟨true, [], [⟨(some 5), none, .val (.tmp 0)⟩,
      ⟨(some 6), none, .nilcheck (.tmp 5)⟩,
      ⟨(some 7), none, .faddr (.tmp 6) 1⟩,
      ⟨(some 8), none, .load none (.tmp 7)⟩,
      ⟨(some 9), none, .ext (.pure .cap) [.tmp 8]⟩,
      ⟨(some 10), none, .bin .mul (.const (.int .i64 2)) (.tmp 9)⟩,
      ⟨(some 11), none, .val (.tmp 1)⟩,
      ⟨(some 12), none, .bin .add (.tmp 10) (.tmp 11)⟩,
      ⟨(some 13), none, .nextStr (.const (.bool false))⟩,
      ⟨(some 14), none, .val (.tmp 0)⟩,
      ⟨(some 15), none, .nilcheck (.tmp 14)⟩,
      ⟨(some 16), none, .faddr (.tmp 15) 1⟩,
      ⟨(some 17), none, .load none (.tmp 16)⟩,
      ⟨(some 18), none, .len .sl (.tmp 17)⟩]⟩, ⟨false, [], [⟨(some 19), none, .slice (.sl 1) (.tmp 13) none (some (.tmp 18)) none⟩,
      ⟨(some 4), none, .val (.tmp 19)⟩]⟩]) [0, 4])
  (.seq (.after (.region [⟨false, [], [⟨(some 20), none, .val (.tmp 4)⟩,
      ⟨(some 21), none, .val (.tmp 0)⟩,
      ⟨(some 22), none, .nilcheck (.tmp 21)⟩,
      ⟨(some 23), none, .faddr (.tmp 22) 1⟩,
      ⟨(some 24), none, .load none (.tmp 23)⟩,
      ⟨(some 25), none, .nextStr (.const (.bool false))⟩]⟩]) [0, 4])
  (.after (.region [⟨false, [], [⟨(some 26), none, .val (.tmp 0)⟩,
      ⟨(some 27), none, .val (.tmp 4)⟩,
      ⟨(some 28), none, .nilcheck (.tmp 26)⟩,
      ⟨(some 29), none, .faddr (.tmp 28) 1⟩,
      ⟨none, none, .store 1 (.tmp 29) (.tmp 27)⟩]⟩]) [])), none⟩
/-- (*strings.asciiSet).contains -/
def code202 : AFunc := ⟨false, false, 2, 10, [.tmp 4],
  .seq (.after (.region [⟨false, [], [⟨(some 4), none, .val (.const (.bool false))⟩]⟩]) [0, 1])
  (.seq (.after (.region [⟨false, [], [⟨(some 5), none, .val (.tmp 0)⟩,
      ⟨(some 6), none, .val (.tmp 1)⟩,
      ⟨(some 7), none, .nilcheck (.tmp 5)⟩,
      ⟨(some 8), none, .aaddr 256 1 (.tmp 7) (.tmp 6)⟩,
      ⟨(some 9), none, .load none (.tmp 8)⟩,
      ⟨(some 4), none, .val (.tmp 9)⟩]⟩]) [4])
  (.live [4] (.ret))), none⟩
/-- unicode.utf8.DecodeRuneInString -/
def code204 : AFunc := ⟨false, false, 1, 19, [.tmp 2, .tmp 3],
  .seq (.after (.region [⟨false, [], [⟨(some 2), none, .val (.const (.int .i32 0))⟩,
      ⟨(some 3), none, .val (.const (.int .i64 0))⟩]⟩]) [0])
  (.seq (.seq (.after (.region [⟨false, [], [⟨(some 4), none, .val (.tmp 0)⟩,
      ⟨(some 5), none, .bin .neq (.tmp 4) (.const (.str []))⟩,
      ⟨(some 6), none, .val (.tmp 5)⟩,
      ⟨(some 7), (some (6, true)), .val (.tmp 0)⟩,
      ⟨(some 8), (some (6, true)), .index (.tmp 7) (.const (.int .i64 0))⟩,
      ⟨(some 9), (some (6, true)), .bin .lss (.tmp 8) (.const (.int .u8 128))⟩,
      ⟨(some 10), none, .pick (.tmp 6) (.tmp 9) (.const (.bool false))⟩]⟩]) [0, 10])
  (.after (.cond (.tmp 10) (.seq (.after (.region [⟨false, [], [⟨(some 11), none, .val (.tmp 0)⟩,
      ⟨(some 12), none, .index (.tmp 11) (.const (.int .i64 0))⟩,
      ⟨(some 13), none, .conv (.int .i32) (.tmp 12)⟩,
      ⟨(some 2), none, .val (.tmp 13)⟩,
      ⟨(some 3), none, .val (.const (.int .i64 1))⟩]⟩]) [2, 3])
  (.live [2, 3] (.ret))) (.after (.region [⟨false, [], [⟨(some 15), none, .val (.tmp 0)⟩,
      ⟨(some 16), none, .callg 218 [.tmp 15]⟩,
      ⟨(some 14), none, .val (.tmp 16)⟩,
      ⟨(some 17), none, .extract (.tmp 14) 0⟩,
      ⟨(some 18), none, .extract (.tmp 14) 1⟩,
      ⟨(some 2), none, .val (.tmp 17)⟩,
      ⟨(some 3), none, .val (.tmp 18)⟩]⟩]) [2, 3])) [2, 3]))
  (.live [2, 3] (.ret))), none⟩
/-- strings.ContainsRune -/
def code203 : AFunc := ⟨false, false, 2, 9, [.tmp 4],
  .seq (.after (.region [⟨false, [], [⟨(some 4), none, .val (.const (.bool false))⟩]⟩]) [0, 1])
  (.seq (.after (.region [⟨false, [], [⟨(some 5), none, .val (.tmp 0)⟩,
      ⟨(some 6), none, .val (.tmp 1)⟩,
      ⟨(some 7), none, .callg 219 [.tmp 5, .tmp 6]⟩,
      ⟨(some 8), none, .bin .geq (.tmp 7) (.const (.int .i64 0))⟩,
      ⟨(some 4), none, .val (.tmp 8)⟩]⟩]) [4])
  (.live [4] (.ret))), none⟩
def code205L0 : ACode :=
  .live [0, 1, 5, 6, 7, 8, 9, 10] (.seq (.seq (.after (.region [⟨false, [], [⟨(some 57), none, .val (.tmp 8)⟩,
      ⟨(some 58), none, .val (.tmp 9)⟩,
      ⟨(some 59), none, .bin .lss (.tmp 57) (.tmp 58)⟩]⟩]) [0, 1, 5, 6, 7, 8, 9, 10, 59])
  (.after (.cond (.tmp 59) (.skip) (.live [] (.exit 1))) [0, 1, 5, 6, 7, 8, 9, 10]))
  (.after (.block 2 (.seq (.seq (.after (.region [⟨false, [], [⟨(some 60), none, .val (.tmp 0)⟩,
      ⟨(some 61), none, .val (.tmp 8)⟩,
      ⟨(some 62), none, .index (.tmp 60) (.tmp 61)⟩,
      ⟨(some 63), none, .val (.tmp 6)⟩,
      ⟨(some 64), none, .bin .neq (.tmp 62) (.tmp 63)⟩]⟩]) [0, 1, 5, 6, 7, 8, 9, 10, 64])
  (.after (.cond (.tmp 64) (.seq (.after (.region [⟨false, [], [⟨(some 65), none, .val (.tmp 0)⟩,
      ⟨(some 66), none, .val (.tmp 8)⟩,
      ⟨(some 67), none, .bin .add (.tmp 66) (.const (.int .i64 1))⟩,
      ⟨(some 68), none, .val (.tmp 9)⟩,
      ⟨(some 69), none, .slice .str (.tmp 65) (some (.tmp 67)) (some (.tmp 68)) none⟩,
      ⟨(some 70), none, .val (.tmp 6)⟩,
      ⟨(some 71), none, .callg 226 [.tmp 69, .tmp 70]⟩,
      ⟨(some 11), none, .val (.tmp 71)⟩]⟩]) [0, 1, 5, 6, 7, 8, 9, 10, 11])
  (.seq (.seq (.after (.region [⟨false, [], [⟨(some 72), none, .val (.tmp 11)⟩,
      ⟨(some 73), none, .bin .lss (.tmp 72) (.const (.int .i64 0))⟩]⟩]) [0, 1, 5, 6, 7, 8, 9, 10, 11, 73])
  (.after (.cond (.tmp 73) (.seq (.after (.region [⟨false, [], [⟨(some 4), none, .val (.const (.int .i64 (-1)))⟩]⟩]) [4])
  (.live [4] (.ret))) (.skip)) [0, 1, 5, 6, 7, 8, 9, 10, 11]))
  (.after (.region [⟨false, [], [⟨(some 74), none, .val (.tmp 8)⟩,
      ⟨(some 75), none, .val (.tmp 11)⟩,
      ⟨(some 76), none, .bin .add (.tmp 75) (.const (.int .i64 1))⟩,
      ⟨(some 77), none, .bin .add (.tmp 74) (.tmp 76)⟩,
      ⟨(some 8), none, .val (.tmp 77)⟩]⟩]) [0, 1, 5, 6, 7, 8, 9, 10]))) (.skip)) [0, 1, 5, 6, 7, 8, 9, 10]))
  (.seq (.seq (.after (.region [⟨false, [], [⟨(some 78), none, .val (.tmp 0)⟩,
      ⟨(some 79), none, .val (.tmp 8)⟩,
      ⟨(some 80), none, .bin .add (.tmp 79) (.const (.int .i64 1))⟩,
      ⟨(some 81), none, .index (.tmp 78) (.tmp 80)⟩,
      ⟨(some 82), none, .val (.tmp 7)⟩,
      ⟨(some 83), none, .bin .eql (.tmp 81) (.tmp 82)⟩,
      ⟨(some 84), none, .val (.tmp 83)⟩,
      ⟨(some 85), (some (84, true)), .val (.tmp 0)⟩,
      ⟨(some 86), (some (84, true)), .val (.tmp 8)⟩,
      ⟨(some 87), (some (84, true)), .val (.tmp 8)⟩,
      ⟨(some 88), (some (84, true)), .val (.tmp 5)⟩,
      ⟨(some 89), (some (84, true)), .bin .add (.tmp 87) (.tmp 88)⟩,
      ⟨(some 90), (some (84, true)), .slice .str (.tmp 85) (some (.tmp 86)) (some (.tmp 89)) none⟩,
      ⟨(some 91), (some (84, true)), .val (.tmp 1)⟩,
      ⟨(some 92), (some (84, true)), .bin .eql (.tmp 90) (.tmp 91)⟩,
      ⟨(some 93), none, .pick (.tmp 84) (.tmp 92) (.const (.bool false))⟩]⟩]) [0, 1, 5, 6, 7, 8, 9, 10, 93])
  (.after (.cond (.tmp 93) (.seq (.after (.region [⟨false, [], [⟨(some 94), none, .val (.tmp 8)⟩,
      ⟨(some 4), none, .val (.tmp 94)⟩]⟩]) [4])
  (.live [4] (.ret))) (.skip)) [0, 1, 5, 6, 7, 8, 9, 10]))
  (.seq (.after (.region [⟨false, [], [⟨(some 95), none, .val (.tmp 8)⟩,
      ⟨(some 96), none, .bin .add (.tmp 95) (.const (.int .i64 1))⟩,
      ⟨(some 8), none, .val (.tmp 96)⟩]⟩]) [0, 1, 5, 6, 7, 8, 9, 10])
  (.seq (.after (.region [⟨false, [], [⟨(some 97), none, .val (.tmp 10)⟩,
      ⟨(some 98), none, .bin .add (.tmp 97) (.const (.int .i64 1))⟩,
      ⟨(some 10), none, .val (.tmp 98)⟩]⟩]) [0, 1, 5, 6, 7, 8, 9, 10])
  (.seq (.after (.region [⟨false, [], [⟨(some 99), none, .val (.tmp 5)⟩,
      ⟨(some 100), none, .nextStr (.const (.bool false))⟩,
      ⟨(some 101), none, .bin .leq (.tmp 99) (.tmp 100)⟩,
      ⟨(some 102), none, .val (.tmp 101)⟩,
      ⟨(some 103), (some (102, true)), .val (.tmp 10)⟩,
      ⟨(some 104), (some (102, true)), .val (.tmp 8)⟩,
      ⟨(some 105), (some (102, true)), .callg 227 [.tmp 104]⟩,
      ⟨(some 106), (some (102, true)), .bin .gtr (.tmp 103) (.tmp 105)⟩,
      ⟨(some 107), none, .pick (.tmp 102) (.tmp 106) (.const (.bool false))⟩]⟩]) [0, 1, 5, 6, 7, 8, 9, 10, 107])
  (.after (.cond (.tmp 107) (.seq (.after (.region [⟨false, [], [⟨(some 108), none, .val (.tmp 0)⟩,
      ⟨(some 109), none, .val (.tmp 8)⟩,
      ⟨(some 110), none, .slice .str (.tmp 108) (some (.tmp 109)) none none⟩,
      ⟨(some 111), none, .val (.tmp 1)⟩,
      ⟨(some 112), none, .nextStr (.const (.bool false))⟩,
      ⟨(some 12), none, .val (.tmp 112)⟩]⟩]) [8, 12])
  (.seq (.seq (.after (.region [⟨false, [], [⟨(some 113), none, .val (.tmp 12)⟩,
      ⟨(some 114), none, .bin .geq (.tmp 113) (.const (.int .i64 0))⟩]⟩]) [8, 12, 114])
  (.after (.cond (.tmp 114) (.seq (.after (.region [⟨false, [], [⟨(some 115), none, .val (.tmp 12)⟩,
      ⟨(some 116), none, .val (.tmp 8)⟩,
      ⟨(some 117), none, .bin .add (.tmp 115) (.tmp 116)⟩,
      ⟨(some 4), none, .val (.tmp 117)⟩]⟩]) [4])
  (.live [4] (.ret))) (.skip)) []))
  (.seq (.after (.region [⟨false, [], [⟨(some 4), none, .val (.const (.int .i64 (-1)))⟩]⟩]) [4])
  (.live [4] (.ret))))) (.seq (.after (.region [⟨false, [], [⟨(some 118), none, .val (.tmp 5)⟩,
      ⟨(some 119), none, .nextStr (.const (.bool false))⟩,
      ⟨(some 120), none, .bin .gtr (.tmp 118) (.tmp 119)⟩,
      ⟨(some 121), none, .val (.tmp 120)⟩,
      ⟨(some 122), (some (121, true)), .val (.tmp 10)⟩,
      ⟨(some 123), (some (121, true)), .val (.tmp 8)⟩,
      ⟨(some 124), (some (121, true)), .bin .shr (.tmp 123) (.const (.int .u64 4))⟩,
      ⟨(some 125), (some (121, true)), .bin .add (.const (.int .i64 4)) (.tmp 124)⟩,
      ⟨(some 126), (some (121, true)), .bin .geq (.tmp 122) (.tmp 125)⟩,
      ⟨(some 127), none, .pick (.tmp 121) (.tmp 126) (.const (.bool false))⟩,
      ⟨(some 128), none, .val (.tmp 127)⟩,
      ⟨(some 129), (some (128, true)), .val (.tmp 8)⟩,
      ⟨(some 130), (some (128, true)), .val (.tmp 9)⟩,
      ⟨(some 131), (some (128, true)), .bin .lss (.tmp 129) (.tmp 130)⟩,
      ⟨(some 132), none, .pick (.tmp 128) (.tmp 131) (.const (.bool false))⟩]⟩]) [0, 1, 5, 6, 7, 8, 9, 10, 132])
  (.after (.cond (.tmp 132) (.seq (.after (.region [⟨false, [], [⟨(some 133), none, .val (.tmp 0)⟩,
      ⟨(some 134), none, .val (.tmp 8)⟩,
      ⟨(some 135), none, .slice .str (.tmp 133) (some (.tmp 134)) none none⟩,
      ⟨(some 136), none, .val (.tmp 1)⟩,
      ⟨(some 137), none, .callg 221 [.tmp 135, .tmp 136]⟩,
      ⟨(some 13), none, .val (.tmp 137)⟩]⟩]) [8, 13])
  (.seq (.seq (.after (.region [⟨false, [], [⟨(some 138), none, .val (.tmp 13)⟩,
      ⟨(some 139), none, .bin .lss (.tmp 138) (.const (.int .i64 0))⟩]⟩]) [8, 13, 139])
  (.after (.cond (.tmp 139) (.seq (.after (.region [⟨false, [], [⟨(some 4), none, .val (.const (.int .i64 (-1)))⟩]⟩]) [4])
  (.live [4] (.ret))) (.skip)) [8, 13]))
  (.seq (.after (.region [⟨false, [], [⟨(some 140), none, .val (.tmp 8)⟩,
      ⟨(some 141), none, .val (.tmp 13)⟩,
      ⟨(some 142), none, .bin .add (.tmp 140) (.tmp 141)⟩,
      ⟨(some 4), none, .val (.tmp 142)⟩]⟩]) [4])
  (.live [4] (.ret))))) (.skip)) [0, 1, 5, 6, 7, 8, 9, 10]))) [0, 1, 5, 6, 7, 8, 9, 10]))))))) [0, 1, 5, 6, 7, 8, 9, 10]))
/-- internal.stringslite.Index -/
def code205 : AFunc := ⟨false, false, 2, 143, [.tmp 4],
  .seq (.after (.region [⟨false, [], [⟨(some 4), none, .val (.const (.int .i64 0))⟩]⟩]) [0, 1])
  (.seq (.after (.region [⟨false, [], [⟨(some 14), none, .val (.tmp 1)⟩,
      ⟨(some 15), none, .len .str (.tmp 14)⟩,
      ⟨(some 5), none, .val (.tmp 15)⟩]⟩]) [0, 1, 5])
  (.seq (.after (.block 0 (.seq (.after (.region [⟨false, [], [⟨(some 17), none, .val (.tmp 5)⟩,
      ⟨(some 18), none, .bin .eql (.tmp 17) (.const (.int .i64 0))⟩,
      ⟨(some 19), none, .val (.tmp 18)⟩,
      ⟨(some 20), (some (19, false)), .val (.tmp 1)⟩,
      ⟨(some 21), (some (19, false)), .val (.tmp 0)⟩,
      ⟨(some 22), (some (19, false)), .bin .eql (.tmp 20) (.tmp 21)⟩,
      ⟨(some 23), none, .pick (.tmp 19) (.const (.bool true)) (.tmp 22)⟩,
      ⟨(some 16), none, .val (.tmp 23)⟩]⟩]) [0, 1, 5, 16])
  (.after (.cond (.tmp 16) (.seq (.after (.region [⟨false, [], [⟨(some 4), none, .val (.const (.int .i64 0))⟩]⟩]) [4])
  (.live [4] (.ret))) (.seq (.after (.region [⟨false, [], [⟨(some 25), none, .val (.tmp 5)⟩,
      ⟨(some 26), none, .bin .eql (.tmp 25) (.const (.int .i64 1))⟩,
      ⟨(some 24), none, .val (.tmp 26)⟩]⟩]) [0, 1, 5, 24])
  (.after (.cond (.tmp 24) (.seq (.after (.region [⟨false, [], [⟨(some 27), none, .val (.tmp 0)⟩,
      ⟨(some 28), none, .val (.tmp 1)⟩,
      ⟨(some 29), none, .index (.tmp 28) (.const (.int .i64 0))⟩,
      ⟨(some 30), none, .callg 226 [.tmp 27, .tmp 29]⟩,
      ⟨(some 4), none, .val (.tmp 30)⟩]⟩]) [4])
  (.live [4] (.ret))) (.seq (.after (.region [⟨false, [], [⟨(some 32), none, .val (.tmp 5)⟩,
      ⟨(some 33), none, .val (.tmp 0)⟩,
      ⟨(some 34), none, .len .str (.tmp 33)⟩,
      ⟨(some 35), none, .bin .geq (.tmp 32) (.tmp 34)⟩,
      ⟨(some 31), none, .val (.tmp 35)⟩]⟩]) [0, 1, 5, 31])
  (.after (.cond (.tmp 31) (.seq (.after (.region [⟨false, [], [⟨(some 4), none, .val (.const (.int .i64 (-1)))⟩]⟩]) [4])
  (.live [4] (.ret))) (.seq (.after (.region [⟨false, [], [⟨(some 37), none, .val (.tmp 5)⟩,
      ⟨(some 38), none, .nextStr (.const (.bool false))⟩,
      ⟨(some 39), none, .bin .leq (.tmp 37) (.tmp 38)⟩,
      ⟨(some 40), none, .val (.tmp 39)⟩,
      ⟨(some 41), (some (40, true)), .val (.tmp 0)⟩,
      ⟨(some 42), (some (40, true)), .len .str (.tmp 41)⟩,
      ⟨(some 43), (some (40, true)), .bin .leq (.tmp 42) (.const (.int .i64 64))⟩,
      ⟨(some 44), none, .pick (.tmp 40) (.tmp 43) (.const (.bool false))⟩,
      ⟨(some 36), none, .val (.tmp 44)⟩]⟩]) [0, 1, 5, 36])
  (.after (.cond (.tmp 36) (.seq (.after (.region [⟨false, [], [⟨(some 45), none, .val (.tmp 0)⟩,
      ⟨(some 46), none, .val (.tmp 1)⟩,
      ⟨(some 47), none, .nextStr (.const (.bool false))⟩,
      ⟨(some 4), none, .val (.tmp 47)⟩]⟩]) [4])
  (.live [4] (.ret))) (.skip)) [0, 1, 5]))) [0, 1, 5]))) [0, 1, 5]))) [0, 1, 5]))) [0, 1, 5])
  (.seq (.after (.region [⟨false, [], [⟨(some 48), none, .val (.tmp 1)⟩,
      ⟨(some 49), none, .index (.tmp 48) (.const (.int .i64 0))⟩,
      ⟨(some 6), none, .val (.tmp 49)⟩]⟩]) [0, 1, 5, 6])
  (.seq (.after (.region [⟨false, [], [⟨(some 50), none, .val (.tmp 1)⟩,
      ⟨(some 51), none, .index (.tmp 50) (.const (.int .i64 1))⟩,
      ⟨(some 7), none, .val (.tmp 51)⟩]⟩]) [0, 1, 5, 6, 7])
  (.seq (.after (.region [⟨false, [], [⟨(some 8), none, .val (.const (.int .i64 0))⟩]⟩]) [0, 1, 5, 6, 7, 8])
  (.seq (.after (.region [⟨false, [], [⟨(some 52), none, .val (.tmp 0)⟩,
      ⟨(some 53), none, .len .str (.tmp 52)⟩,
      ⟨(some 54), none, .val (.tmp 5)⟩,
      ⟨(some 55), none, .bin .sub (.tmp 53) (.tmp 54)⟩,
      ⟨(some 56), none, .bin .add (.tmp 55) (.const (.int .i64 1))⟩,
      ⟨(some 9), none, .val (.tmp 56)⟩]⟩]) [0, 1, 5, 6, 7, 8, 9])
  (.seq (.after (.region [⟨false, [], [⟨(some 10), none, .val (.const (.int .i64 0))⟩]⟩]) [0, 1, 5, 6, 7, 8, 9, 10])
  (.seq (.after (.block 1 (.loop code205L0)) [])
  (.seq (.after (.region [⟨false, [], [⟨(some 4), none, .val (.const (.int .i64 (-1)))⟩]⟩]) [4])
  (.live [4] (.ret))))))))))), none⟩
def code206L0 : ACode :=
  .live [2, 4] (.seq (.after (.region [⟨false, [], [⟨(some 5), none, .nextStr (.const (.bool false))⟩,
      ⟨(some 6), none, .extract (.tmp 5) 0⟩]⟩]) [2, 4, 6])
  (.seq (.after (.cond (.tmp 6) (.skip) (.live [2] (.exit 0))) [2, 4])
  (.after (.block 1 (.after (.region [⟨false, [], [⟨(some 7), none, .val (.tmp 2)⟩,
      ⟨(some 8), none, .bin .add (.tmp 7) (.const (.int .i64 1))⟩,
      ⟨(some 2), none, .val (.tmp 8)⟩]⟩]) [2, 4])) [2, 4])))
/-- unicode.utf8.RuneCountInString -/
def code206 : AFunc := ⟨false, false, 1, 10, [.tmp 2],
  .seq (.after (.region [⟨false, [], [⟨(some 2), none, .val (.const (.int .i64 0))⟩]⟩]) [0, 2])
  (.seq (.seq (.after (.region [⟨false, [], [⟨(some 3), none, .val (.tmp 0)⟩,
      ⟨(some 4), none, .nextStr (.const (.bool false))⟩]⟩]) [2, 4])
  (.after (.block 0 (.loop code206L0)) [2]))
  (.seq (.after (.region [⟨false, [], [⟨(some 9), none, .val (.tmp 2)⟩,
      ⟨(some 2), none, .val (.tmp 9)⟩]⟩]) [2])
  (.live [2] (.ret)))), none⟩
/-- unicode.utf8.decodeRuneInStringSlow -/
def code218 : AFunc := ⟨false, false, 1, 117, [.tmp 2, .tmp 3],
  .seq (.after (.region [⟨false, [], [⟨(some 2), none, .val (.const (.int .i32 0))⟩,
      ⟨(some 3), none, .val (.const (.int .i64 0))⟩]⟩]) [0])
  (.seq (.after (.region [⟨false, [], [⟨(some 13), none, .val (.tmp 0)⟩,
      ⟨(some 14), none, .len .str (.tmp 13)⟩,
      ⟨(some 4), none, .val (.tmp 14)⟩]⟩]) [0, 4])
  (.seq (.seq (.after (.region [⟨false, [], [⟨(some 15), none, .val (.tmp 4)⟩,
      ⟨(some 16), none, .bin .lss (.tmp 15) (.const (.int .i64 1))⟩]⟩]) [0, 4, 16])
  (.after (.cond (.tmp 16) (.seq (.after (.region [⟨false, [], [⟨(some 2), none, .val (.const (.int .i32 65533))⟩,
      ⟨(some 3), none, .val (.const (.int .i64 0))⟩]⟩]) [2, 3])
  (.live [2, 3] (.ret))) (.skip)) [0, 4]))
  (.seq (.after (.region [⟨false, [], [⟨(some 17), none, .val (.tmp 0)⟩,
      ⟨(some 18), none, .index (.tmp 17) (.const (.int .i64 0))⟩,
      ⟨(some 5), none, .val (.tmp 18)⟩]⟩]) [0, 4, 5])
  (.seq (.after (.region [⟨false, [], [⟨(some 19), none, .val (.tmp 5)⟩,
      ⟨(some 20), none, .nextStr (.const (.bool false))⟩,
      ⟨(some 21), none, .load none (.tmp 20)⟩,
      ⟨(some 6), none, .val (.tmp 21)⟩]⟩]) [0, 4, 5, 6])
  (.seq (.seq (.after (.region [⟨false, [], [⟨(some 22), none, .val (.tmp 6)⟩,
      ⟨(some 23), none, .bin .geq (.tmp 22) (.const (.int .u8 240))⟩]⟩]) [0, 4, 5, 6, 23])
  (.after (.cond (.tmp 23) (.seq (.after (.region [⟨false, [], [⟨(some 24), none, .val (.tmp 6)⟩,
      ⟨(some 25), none, .conv (.int .i32) (.tmp 24)⟩,
      ⟨(some 26), none, .bin .shl (.tmp 25) (.const (.int .u64 31))⟩,
      ⟨(some 27), none, .bin .shr (.tmp 26) (.const (.int .u64 31))⟩,
      ⟨(some 7), none, .val (.tmp 27)⟩]⟩]) [0, 7])
  (.seq (.after (.region [⟨false, [], [⟨(some 28), none, .val (.tmp 0)⟩,
      ⟨(some 29), none, .index (.tmp 28) (.const (.int .i64 0))⟩,
      ⟨(some 30), none, .conv (.int .i32) (.tmp 29)⟩,
      ⟨(some 31), none, .val (.tmp 7)⟩,
      ⟨(some 32), none, .bin .andNot (.tmp 30) (.tmp 31)⟩,
      ⟨(some 33), none, .val (.tmp 7)⟩,
      ⟨(some 34), none, .bin .and (.const (.int .i32 65533)) (.tmp 33)⟩,
      ⟨(some 35), none, .bin .or (.tmp 32) (.tmp 34)⟩,
      ⟨(some 2), none, .val (.tmp 35)⟩,
      ⟨(some 3), none, .val (.const (.int .i64 1))⟩]⟩]) [2, 3])
  (.live [2, 3] (.ret)))) (.skip)) [0, 4, 5, 6]))
  (.seq (.after (.region [⟨false, [], [⟨(some 36), none, .val (.tmp 6)⟩,
      ⟨(some 37), none, .bin .and (.tmp 36) (.const (.int .u8 7))⟩,
      ⟨(some 38), none, .conv (.int .i64) (.tmp 37)⟩,
      ⟨(some 8), none, .val (.tmp 38)⟩]⟩]) [0, 4, 5, 6, 8])
  (.seq (.after (.region [⟨false, [], [⟨(some 39), none, .val (.tmp 6)⟩,
      ⟨(some 40), none, .bin .shr (.tmp 39) (.const (.int .u64 4))⟩,
      ⟨(some 41), none, .nextStr (.const (.bool false))⟩,
      ⟨(some 42), none, .load (some 2) (.tmp 41)⟩,
      ⟨(some 9), none, .lalloc [.int .u8 0, .int .u8 0]⟩,
      ⟨none, none, .store 2 (.tmp 9) (.tmp 42)⟩]⟩]) [0, 4, 5, 8, 9])
  (.seq (.seq (.after (.region [⟨false, [], [⟨(some 43), none, .val (.tmp 4)⟩,
      ⟨(some 44), none, .val (.tmp 8)⟩,
      ⟨(some 45), none, .bin .lss (.tmp 43) (.tmp 44)⟩]⟩]) [0, 5, 8, 9, 45])
  (.after (.cond (.tmp 45) (.seq (.after (.region [⟨false, [], [⟨(some 2), none, .val (.const (.int .i32 65533))⟩,
      ⟨(some 3), none, .val (.const (.int .i64 1))⟩]⟩]) [2, 3])
  (.live [2, 3] (.ret))) (.skip)) [0, 5, 8, 9]))
  (.seq (.after (.region [⟨false, [], [⟨(some 46), none, .val (.tmp 0)⟩,
      ⟨(some 47), none, .index (.tmp 46) (.const (.int .i64 1))⟩,
      ⟨(some 10), none, .val (.tmp 47)⟩]⟩]) [0, 5, 8, 9, 10])
  (.seq (.seq (.after (.region [⟨false, [], [⟨(some 48), none, .val (.tmp 10)⟩,
      ⟨(some 49), none, .faddr (.tmp 9) 0⟩,
      ⟨(some 50), none, .load none (.tmp 49)⟩,
      ⟨(some 51), none, .bin .lss (.tmp 48) (.tmp 50)⟩,
      ⟨(some 52), none, .val (.tmp 51)⟩,
      ⟨(some 53), (some (52, false)), .faddr (.tmp 9) 1⟩,
      ⟨(some 54), (some (52, false)), .load none (.tmp 53)⟩,
      ⟨(some 55), (some (52, false)), .val (.tmp 10)⟩,
      ⟨(some 56), (some (52, false)), .bin .lss (.tmp 54) (.tmp 55)⟩,
      ⟨(some 57), none, .pick (.tmp 52) (.const (.bool true)) (.tmp 56)⟩]⟩]) [0, 5, 8, 10, 57])
  (.after (.cond (.tmp 57) (.seq (.after (.region [⟨false, [], [⟨(some 2), none, .val (.const (.int .i32 65533))⟩,
      ⟨(some 3), none, .val (.const (.int .i64 1))⟩]⟩]) [2, 3])
  (.live [2, 3] (.ret))) (.skip)) [0, 5, 8, 10]))
  (.seq (.seq (.after (.region [⟨false, [], [⟨(some 58), none, .val (.tmp 8)⟩,
      ⟨(some 59), none, .bin .leq (.tmp 58) (.const (.int .i64 2))⟩]⟩]) [0, 5, 8, 10, 59])
  (.after (.cond (.tmp 59) (.seq (.after (.region [⟨false, [], [⟨(some 60), none, .val (.tmp 5)⟩,
      ⟨(some 61), none, .bin .and (.tmp 60) (.const (.int .u8 31))⟩,
      ⟨(some 62), none, .conv (.int .i32) (.tmp 61)⟩,
      ⟨(some 63), none, .bin .shl (.tmp 62) (.const (.int .u64 6))⟩,
      ⟨(some 64), none, .val (.tmp 10)⟩,
      ⟨(some 65), none, .bin .and (.tmp 64) (.const (.int .u8 63))⟩,
      ⟨(some 66), none, .conv (.int .i32) (.tmp 65)⟩,
      ⟨(some 67), none, .bin .or (.tmp 63) (.tmp 66)⟩,
      ⟨(some 2), none, .val (.tmp 67)⟩,
      ⟨(some 3), none, .val (.const (.int .i64 2))⟩]⟩]) [2, 3])
  (.live [2, 3] (.ret))) (.skip)) [0, 5, 8, 10]))
  (.seq (.after (.region [⟨false, [], [⟨(some 68), none, .val (.tmp 0)⟩,
      ⟨(some 69), none, .index (.tmp 68) (.const (.int .i64 2))⟩,
      ⟨(some 11), none, .val (.tmp 69)⟩]⟩]) [0, 5, 8, 10, 11])
  (.seq (.seq (.after (.region [⟨false, [], [⟨(some 70), none, .val (.tmp 11)⟩,
      ⟨(some 71), none, .bin .lss (.tmp 70) (.const (.int .u8 128))⟩,
      ⟨(some 72), none, .val (.tmp 71)⟩,
      ⟨(some 73), (some (72, false)), .val (.tmp 11)⟩,
      ⟨(some 74), (some (72, false)), .bin .lss (.const (.int .u8 191)) (.tmp 73)⟩,
      ⟨(some 75), none, .pick (.tmp 72) (.const (.bool true)) (.tmp 74)⟩]⟩]) [0, 5, 8, 10, 11, 75])
  (.after (.cond (.tmp 75) (.seq (.after (.region [⟨false, [], [⟨(some 2), none, .val (.const (.int .i32 65533))⟩,
      ⟨(some 3), none, .val (.const (.int .i64 1))⟩]⟩]) [2, 3])
  (.live [2, 3] (.ret))) (.skip)) [0, 5, 8, 10, 11]))
  (.seq (.seq (.after (.region [⟨false, [], [⟨(some 76), none, .val (.tmp 8)⟩,
      ⟨(some 77), none, .bin .leq (.tmp 76) (.const (.int .i64 3))⟩]⟩]) [0, 5, 10, 11, 77])
  (.after (.cond (.tmp 77) (.seq (.after (.region [⟨false, [], [⟨(some 78), none, .val (.tmp 5)⟩,
      ⟨(some 79), none, .bin .and (.tmp 78) (.const (.int .u8 15))⟩,
      ⟨(some 80), none, .conv (.int .i32) (.tmp 79)⟩,
      ⟨(some 81), none, .bin .shl (.tmp 80) (.const (.int .u64 12))⟩,
      ⟨(some 82), none, .val (.tmp 10)⟩,
      ⟨(some 83), none, .bin .and (.tmp 82) (.const (.int .u8 63))⟩,
      ⟨(some 84), none, .conv (.int .i32) (.tmp 83)⟩,
      ⟨(some 85), none, .bin .shl (.tmp 84) (.const (.int .u64 6))⟩,
      ⟨(some 86), none, .bin .or (.tmp 81) (.tmp 85)⟩,
      ⟨(some 87), none, .val (.tmp 11)⟩,
      ⟨(some 88), none, .bin .and (.tmp 87) (.const (.int .u8 63))⟩,
      ⟨(some 89), none, .conv (.int .i32) (.tmp 88)⟩,
      ⟨(some 90), none, .bin .or (.tmp 86) (.tmp 89)⟩,
      ⟨(some 2), none, .val (.tmp 90)⟩,
      ⟨(some 3), none, .val (.const (.int .i64 3))⟩]⟩]) [2, 3])
  (.live [2, 3] (.ret))) (.skip)) [0, 5, 10, 11]))
  (.seq (.after (.region [⟨false, [], [⟨(some 91), none, .val (.tmp 0)⟩,
      ⟨(some 92), none, .index (.tmp 91) (.const (.int .i64 3))⟩,
      ⟨(some 12), none, .val (.tmp 92)⟩]⟩]) [5, 10, 11, 12])
  (.seq (.seq (.after (.region [⟨false, [], [⟨(some 93), none, .val (.tmp 12)⟩,
      ⟨(some 94), none, .bin .lss (.tmp 93) (.const (.int .u8 128))⟩,
      ⟨(some 95), none, .val (.tmp 94)⟩,
      ⟨(some 96), (some (95, false)), .val (.tmp 12)⟩,
      ⟨(some 97), (some (95, false)), .bin .lss (.const (.int .u8 191)) (.tmp 96)⟩,
      ⟨(some 98), none, .pick (.tmp 95) (.const (.bool true)) (.tmp 97)⟩]⟩]) [5, 10, 11, 12, 98])
  (.after (.cond (.tmp 98) (.seq (.after (.region [⟨false, [], [⟨(some 2), none, .val (.const (.int .i32 65533))⟩,
      ⟨(some 3), none, .val (.const (.int .i64 1))⟩]⟩]) [2, 3])
  (.live [2, 3] (.ret))) (.skip)) [5, 10, 11, 12]))
  (.seq (.after (.region [⟨false, [], [⟨(some 99), none, .val (.tmp 5)⟩,
      ⟨(some 100), none, .bin .and (.tmp 99) (.const (.int .u8 7))⟩,
      ⟨(some 101), none, .conv (.int .i32) (.tmp 100)⟩,
      ⟨(some 102), none, .bin .shl (.tmp 101) (.const (.int .u64 18))⟩,
      ⟨(some 103), none, .val (.tmp 10)⟩,
      ⟨(some 104), none, .bin .and (.tmp 103) (.const (.int .u8 63))⟩,
      ⟨(some 105), none, .conv (.int .i32) (.tmp 104)⟩,
      ⟨(some 106), none, .bin .shl (.tmp 105) (.const (.int .u64 12))⟩,
      ⟨(some 107), none, .bin .or (.tmp 102) (.tmp 106)⟩,
      ⟨(some 108), none, .val (.tmp 11)⟩,
      ⟨(some 109), none, .bin .and (.tmp 108) (.const (.int .u8 63))⟩,
      ⟨(some 110), none, .conv (.int .i32) (.tmp 109)⟩,
      ⟨(some 111), none, .bin .shl (.tmp 110) (.const (.int .u64 6))⟩,
      ⟨(some 112), none, .bin .or (.tmp 107) (.tmp 111)⟩,
      ⟨(some 113), none, .val (.tmp 12)⟩,
      ⟨(some 114), none, .bin .and (.tmp 113) (.const (.int .u8 63))⟩,
      ⟨(some 115), none, .conv (.int .i32) (.tmp 114)⟩,
      ⟨(some 116), none, .bin .or (.tmp 112) (.tmp 115)⟩,
      ⟨(some 2), none, .val (.tmp 116)⟩,
      ⟨(some 3), none, .val (.const (.int .i64 4))⟩]⟩]) [2, 3])
  (.live [2, 3] (.ret))))))))))))))))))), none⟩
def code219L0 : ACode :=
  .live [175] (.seq (.after (.region [⟨false, [], [⟨(some 176), none, .nextStr (.const (.bool false))⟩,
      ⟨(some 177), none, .extract (.tmp 176) 0⟩]⟩]) [175, 176, 177])
  (.seq (.after (.cond (.tmp 177) (.skip) (.live [] (.exit 9))) [175, 176])
  (.after (.block 10 (.seq (.after (.region [⟨false, [], [⟨(some 178), none, .extract (.tmp 176) 1⟩,
      ⟨(some 179), none, .extract (.tmp 176) 2⟩,
      ⟨(some 5), none, .val (.tmp 178)⟩,
      ⟨(some 6), none, .val (.tmp 179)⟩]⟩]) [5, 6, 175])
  (.seq (.after (.region [⟨false, [], [⟨(some 180), none, .val (.tmp 6)⟩,
      ⟨(some 181), none, .bin .eql (.tmp 180) (.const (.int .i32 65533))⟩]⟩]) [5, 175, 181])
  (.after (.cond (.tmp 181) (.seq (.after (.region [⟨false, [], [⟨(some 182), none, .val (.tmp 5)⟩,
      ⟨(some 4), none, .val (.tmp 182)⟩]⟩]) [4])
  (.live [4] (.ret))) (.skip)) [175])))) [175])))
/-- strings.IndexRune -/
def code219 : AFunc := ⟨false, false, 2, 187, [.tmp 4],
  .seq (.after (.region [⟨false, [], [⟨(some 4), none, .val (.const (.int .i64 0))⟩]⟩]) [0, 1])
  (.after (.block 0 (.seq (.after (.region [⟨false, [], [⟨(some 161), none, .val (.tmp 1)⟩,
      ⟨(some 162), none, .bin .leq (.const (.int .i32 0)) (.tmp 161)⟩,
      ⟨(some 163), none, .val (.tmp 162)⟩,
      ⟨(some 164), (some (163, true)), .val (.tmp 1)⟩,
      ⟨(some 165), (some (163, true)), .bin .lss (.tmp 164) (.const (.int .i32 128))⟩,
      ⟨(some 166), none, .pick (.tmp 163) (.tmp 165) (.const (.bool false))⟩,
      ⟨(some 160), none, .val (.tmp 166)⟩]⟩]) [0, 1, 160])
  (.after (.cond (.tmp 160) (.seq (.after (.region [⟨false, [], [⟨(some 167), none, .val (.tmp 0)⟩,
      ⟨(some 168), none, .val (.tmp 1)⟩,
      ⟨(some 169), none, .conv (.int .u8) (.tmp 168)⟩,
      ⟨(some 170), none, .callg 224 [.tmp 167, .tmp 169]⟩,
      ⟨(some 4), none, .val (.tmp 170)⟩]⟩]) [4])
  (.live [4] (.ret))) (.seq (.after (.region [⟨false, [], [⟨(some 172), none, .val (.tmp 1)⟩,
      ⟨(some 173), none, .bin .eql (.tmp 172) (.const (.int .i32 65533))⟩,
      ⟨(some 171), none, .val (.tmp 173)⟩]⟩]) [0, 1, 171])
  (.after (.cond (.tmp 171) (.seq (.seq (.after (.region [⟨false, [], [⟨(some 174), none, .val (.tmp 0)⟩,
      ⟨(some 175), none, .nextStr (.const (.bool false))⟩]⟩]) [175])
  (.after (.block 9 (.loop code219L0)) []))
  (.seq (.after (.region [⟨false, [], [⟨(some 4), none, .val (.const (.int .i64 (-1)))⟩]⟩]) [4])
  (.live [4] (.ret)))) (.seq (.after (.region [⟨false, [], [⟨(some 184), none, .val (.tmp 1)⟩,
      ⟨(some 185), none, .callg 229 [.tmp 184]⟩,
      ⟨(some 186), none, .un .not (.tmp 185)⟩,
      ⟨(some 183), none, .val (.tmp 186)⟩]⟩]) [183])
  (.after (.cond (.tmp 183) (.seq (.after (.region [⟨false, [], [⟨(some 4), none, .val (.const (.int .i64 (-1)))⟩]⟩]) [4])
  (.live [4] (.ret))) (.cond (.const (.str [])) (.skip) (.skip))) [4]))) [4]))) [4]))) [4]), none⟩
/-- internal.stringslite.IndexByte -/
def code226 : AFunc := ⟨false, false, 2, 8, [.tmp 4],
  .seq (.after (.region [⟨false, [], [⟨(some 4), none, .val (.const (.int .i64 0))⟩]⟩]) [0, 1])
  (.seq (.after (.region [⟨false, [], [⟨(some 5), none, .val (.tmp 0)⟩,
      ⟨(some 6), none, .val (.tmp 1)⟩,
      ⟨(some 7), none, .ext (.pure (.prim .indexByte)) [.tmp 5, .tmp 6]⟩,
      ⟨(some 4), none, .val (.tmp 7)⟩]⟩]) [4])
  (.live [4] (.ret))), none⟩
/-- internal.bytealg.Cutover -/
def code227 : AFunc := ⟨false, false, 1, 6, [.tmp 2],
  .seq (.after (.region [⟨false, [], [⟨(some 2), none, .val (.const (.int .i64 0))⟩]⟩]) [0])
  (.seq (.after (.region [⟨false, [], [⟨(some 3), none, .val (.tmp 0)⟩,
      ⟨(some 4), none, .bin .add (.tmp 3) (.const (.int .i64 16))⟩,
      ⟨(some 5), none, .bin .quo (.tmp 4) (.const (.int .i64 8))⟩,
      ⟨(some 2), none, .val (.tmp 5)⟩]⟩]) [2])
  (.live [2] (.ret))), none⟩
def code221L0 : ACode :=
  .live [0, 1, 5, 6, 7, 8, 10] (.seq (.seq (.after (.region [⟨false, [], [⟨(some 41), none, .val (.tmp 10)⟩,
      ⟨(some 42), none, .val (.tmp 0)⟩,
      ⟨(some 43), none, .len .str (.tmp 42)⟩,
      ⟨(some 44), none, .bin .lss (.tmp 41) (.tmp 43)⟩]⟩]) [0, 1, 5, 6, 7, 8, 10, 44])
  (.after (.cond (.tmp 44) (.skip) (.live [] (.exit 2))) [0, 1, 5, 6, 7, 8, 10]))
  (.after (.block 3 (.seq (.after (.region [⟨false, [], [⟨(some 45), none, .val (.tmp 8)⟩,
      ⟨(some 46), none, .bin .mul (.tmp 45) (.const (.int .u32 16777619))⟩,
      ⟨(some 8), none, .val (.tmp 46)⟩]⟩]) [0, 1, 5, 6, 7, 8, 10])
  (.seq (.after (.region [⟨false, [], [⟨(some 47), none, .val (.tmp 8)⟩,
      ⟨(some 48), none, .val (.tmp 0)⟩,
      ⟨(some 49), none, .val (.tmp 10)⟩,
      ⟨(some 50), none, .index (.tmp 48) (.tmp 49)⟩,
      ⟨(some 51), none, .conv (.int .u32) (.tmp 50)⟩,
      ⟨(some 52), none, .bin .add (.tmp 47) (.tmp 51)⟩,
      ⟨(some 8), none, .val (.tmp 52)⟩]⟩]) [0, 1, 5, 6, 7, 8, 10])
  (.seq (.after (.region [⟨false, [], [⟨(some 53), none, .val (.tmp 8)⟩,
      ⟨(some 54), none, .val (.tmp 6)⟩,
      ⟨(some 55), none, .val (.tmp 0)⟩,
      ⟨(some 56), none, .val (.tmp 10)⟩,
      ⟨(some 57), none, .val (.tmp 7)⟩,
      ⟨(some 58), none, .bin .sub (.tmp 56) (.tmp 57)⟩,
      ⟨(some 59), none, .index (.tmp 55) (.tmp 58)⟩,
      ⟨(some 60), none, .conv (.int .u32) (.tmp 59)⟩,
      ⟨(some 61), none, .bin .mul (.tmp 54) (.tmp 60)⟩,
      ⟨(some 62), none, .bin .sub (.tmp 53) (.tmp 61)⟩,
      ⟨(some 8), none, .val (.tmp 62)⟩]⟩]) [0, 1, 5, 6, 7, 8, 10])
  (.seq (.after (.region [⟨false, [], [⟨(some 63), none, .val (.tmp 10)⟩,
      ⟨(some 64), none, .bin .add (.tmp 63) (.const (.int .i64 1))⟩,
      ⟨(some 10), none, .val (.tmp 64)⟩]⟩]) [0, 1, 5, 6, 7, 8, 10])
  (.seq (.after (.region [⟨false, [], [⟨(some 65), none, .val (.tmp 8)⟩,
      ⟨(some 66), none, .val (.tmp 5)⟩,
      ⟨(some 67), none, .bin .eql (.tmp 65) (.tmp 66)⟩,
      ⟨(some 68), none, .val (.tmp 67)⟩,
      ⟨(some 69), (some (68, true)), .val (.tmp 0)⟩,
      ⟨(some 70), (some (68, true)), .val (.tmp 10)⟩,
      ⟨(some 71), (some (68, true)), .val (.tmp 7)⟩,
      ⟨(some 72), (some (68, true)), .bin .sub (.tmp 70) (.tmp 71)⟩,
      ⟨(some 73), (some (68, true)), .val (.tmp 10)⟩,
      ⟨(some 74), (some (68, true)), .slice .str (.tmp 69) (some (.tmp 72)) (some (.tmp 73)) none⟩,
      ⟨(some 75), (some (68, true)), .val (.tmp 1)⟩,
      ⟨(some 76), (some (68, true)), .bin .eql (.tmp 74) (.tmp 75)⟩,
      ⟨(some 77), none, .pick (.tmp 68) (.tmp 76) (.const (.bool false))⟩]⟩]) [0, 1, 5, 6, 7, 8, 10, 77])
  (.after (.cond (.tmp 77) (.seq (.after (.region [⟨false, [], [⟨(some 78), none, .val (.tmp 10)⟩,
      ⟨(some 79), none, .val (.tmp 7)⟩,
      ⟨(some 80), none, .bin .sub (.tmp 78) (.tmp 79)⟩,
      ⟨(some 4), none, .val (.tmp 80)⟩]⟩]) [4])
  (.live [4] (.ret))) (.skip)) [0, 1, 5, 6, 7, 8, 10]))))))) [0, 1, 5, 6, 7, 8, 10]))
def code221L1 : ACode :=
  .live [0, 1, 5, 6, 7, 8, 9] (.seq (.seq (.after (.region [⟨false, [], [⟨(some 18), none, .val (.tmp 9)⟩,
      ⟨(some 19), none, .val (.tmp 7)⟩,
      ⟨(some 20), none, .bin .lss (.tmp 18) (.tmp 19)⟩]⟩]) [0, 1, 5, 6, 7, 8, 9, 20])
  (.after (.cond (.tmp 20) (.skip) (.live [0, 1, 5, 6, 7, 8] (.exit 0))) [0, 1, 5, 6, 7, 8, 9]))
  (.seq (.after (.block 1 (.after (.region [⟨false, [], [⟨(some 23), none, .val (.tmp 8)⟩,
      ⟨(some 24), none, .bin .mul (.tmp 23) (.const (.int .u32 16777619))⟩,
      ⟨(some 25), none, .val (.tmp 0)⟩,
      ⟨(some 26), none, .val (.tmp 9)⟩,
      ⟨(some 27), none, .index (.tmp 25) (.tmp 26)⟩,
      ⟨(some 28), none, .conv (.int .u32) (.tmp 27)⟩,
      ⟨(some 29), none, .bin .add (.tmp 24) (.tmp 28)⟩,
      ⟨(some 8), none, .val (.tmp 29)⟩]⟩]) [0, 1, 5, 6, 7, 8, 9])) [0, 1, 5, 6, 7, 8, 9])
  (.after (.region [⟨false, [], [⟨(some 21), none, .val (.tmp 9)⟩,
      ⟨(some 22), none, .bin .add (.tmp 21) (.const (.int .i64 1))⟩,
      ⟨(some 9), none, .val (.tmp 22)⟩]⟩]) [0, 1, 5, 6, 7, 8, 9])))
/-- internal.bytealg.IndexRabinKarp[string] -/
def code221 : AFunc := ⟨false, false, 2, 81, [.tmp 4],
  .seq (.after (.region [⟨false, [], [⟨(some 4), none, .val (.const (.int .i64 0))⟩]⟩]) [0, 1])
  (.seq (.after (.region [⟨false, [], [⟨(some 12), none, .val (.tmp 1)⟩,
      ⟨(some 13), none, .callg 228 [.tmp 12]⟩,
      ⟨(some 11), none, .val (.tmp 13)⟩,
      ⟨(some 14), none, .extract (.tmp 11) 0⟩,
      ⟨(some 15), none, .extract (.tmp 11) 1⟩,
      ⟨(some 5), none, .val (.tmp 14)⟩,
      ⟨(some 6), none, .val (.tmp 15)⟩]⟩]) [0, 1, 5, 6])
  (.seq (.after (.region [⟨false, [], [⟨(some 16), none, .val (.tmp 1)⟩,
      ⟨(some 17), none, .len .str (.tmp 16)⟩,
      ⟨(some 7), none, .val (.tmp 17)⟩]⟩]) [0, 1, 5, 6, 7])
  (.seq (.after (.region [⟨false, [], [⟨(some 8), none, .val (.const (.int .u32 0))⟩]⟩]) [0, 1, 5, 6, 7, 8])
  (.seq (.seq (.after (.region [⟨false, [], [⟨(some 9), none, .val (.const (.int .i64 0))⟩]⟩]) [0, 1, 5, 6, 7, 8, 9])
  (.after (.block 0 (.loop code221L1)) [0, 1, 5, 6, 7, 8]))
  (.seq (.seq (.after (.region [⟨false, [], [⟨(some 30), none, .val (.tmp 8)⟩,
      ⟨(some 31), none, .val (.tmp 5)⟩,
      ⟨(some 32), none, .bin .eql (.tmp 30) (.tmp 31)⟩,
      ⟨(some 33), none, .val (.tmp 32)⟩,
      ⟨(some 34), (some (33, true)), .val (.tmp 0)⟩,
      ⟨(some 35), (some (33, true)), .val (.tmp 7)⟩,
      ⟨(some 36), (some (33, true)), .slice .str (.tmp 34) none (some (.tmp 35)) none⟩,
      ⟨(some 37), (some (33, true)), .val (.tmp 1)⟩,
      ⟨(some 38), (some (33, true)), .bin .eql (.tmp 36) (.tmp 37)⟩,
      ⟨(some 39), none, .pick (.tmp 33) (.tmp 38) (.const (.bool false))⟩]⟩]) [0, 1, 5, 6, 7, 8, 39])
  (.after (.cond (.tmp 39) (.seq (.after (.region [⟨false, [], [⟨(some 4), none, .val (.const (.int .i64 0))⟩]⟩]) [4])
  (.live [4] (.ret))) (.skip)) [0, 1, 5, 6, 7, 8]))
  (.seq (.seq (.after (.region [⟨false, [], [⟨(some 40), none, .val (.tmp 7)⟩,
      ⟨(some 10), none, .val (.tmp 40)⟩]⟩]) [0, 1, 5, 6, 7, 8, 10])
  (.after (.block 2 (.loop code221L0)) []))
  (.seq (.after (.region [⟨false, [], [⟨(some 4), none, .val (.const (.int .i64 (-1)))⟩]⟩]) [4])
  (.live [4] (.ret))))))))), none⟩
/-- strings.IndexByte -/
def code224 : AFunc := ⟨false, false, 2, 8, [.tmp 4],
  .seq (.after (.region [⟨false, [], [⟨(some 4), none, .val (.const (.int .i64 0))⟩]⟩]) [0, 1])
  (.seq (.after (.region [⟨false, [], [⟨(some 5), none, .val (.tmp 0)⟩,
      ⟨(some 6), none, .val (.tmp 1)⟩,
      ⟨(some 7), none, .callg 226 [.tmp 5, .tmp 6]⟩,
      ⟨(some 4), none, .val (.tmp 7)⟩]⟩]) [4])
  (.live [4] (.ret))), none⟩
/-- unicode.utf8.ValidRune -/
def code229 : AFunc := ⟨false, false, 1, 17, [.tmp 2],
  .seq (.after (.region [⟨false, [], [⟨(some 2), none, .val (.const (.bool false))⟩]⟩]) [0])
  (.seq (.after (.block 0 (.seq (.after (.region [⟨false, [], [⟨(some 4), none, .val (.tmp 0)⟩,
      ⟨(some 5), none, .bin .leq (.const (.int .i32 0)) (.tmp 4)⟩,
      ⟨(some 6), none, .val (.tmp 5)⟩,
      ⟨(some 7), (some (6, true)), .val (.tmp 0)⟩,
      ⟨(some 8), (some (6, true)), .bin .lss (.tmp 7) (.const (.int .i32 55296))⟩,
      ⟨(some 9), none, .pick (.tmp 6) (.tmp 8) (.const (.bool false))⟩,
      ⟨(some 3), none, .val (.tmp 9)⟩]⟩]) [0, 3])
  (.after (.cond (.tmp 3) (.seq (.after (.region [⟨false, [], [⟨(some 2), none, .val (.const (.bool true))⟩]⟩]) [2])
  (.live [2] (.ret))) (.seq (.after (.region [⟨false, [], [⟨(some 11), none, .val (.tmp 0)⟩,
      ⟨(some 12), none, .bin .lss (.const (.int .i32 57343)) (.tmp 11)⟩,
      ⟨(some 13), none, .val (.tmp 12)⟩,
      ⟨(some 14), (some (13, true)), .val (.tmp 0)⟩,
      ⟨(some 15), (some (13, true)), .bin .leq (.tmp 14) (.const (.int .i32 1114111))⟩,
      ⟨(some 16), none, .pick (.tmp 13) (.tmp 15) (.const (.bool false))⟩,
      ⟨(some 10), none, .val (.tmp 16)⟩]⟩]) [10])
  (.after (.cond (.tmp 10) (.seq (.after (.region [⟨false, [], [⟨(some 2), none, .val (.const (.bool true))⟩]⟩]) [2])
  (.live [2] (.ret))) (.skip)) []))) []))) [])
  (.seq (.after (.region [⟨false, [], [⟨(some 2), none, .val (.const (.bool false))⟩]⟩]) [2])
  (.live [2] (.ret)))), none⟩
def code228L0 : ACode :=
  .live [4, 6, 7, 8] (.seq (.seq (.after (.region [⟨false, [], [⟨(some 24), none, .val (.tmp 8)⟩,
      ⟨(some 25), none, .bin .gtr (.tmp 24) (.const (.int .i64 0))⟩]⟩]) [4, 6, 7, 8, 25])
  (.after (.cond (.tmp 25) (.skip) (.live [4, 6] (.exit 2))) [4, 6, 7, 8]))
  (.seq (.after (.block 3 (.seq (.seq (.after (.region [⟨false, [], [⟨(some 28), none, .val (.tmp 8)⟩,
      ⟨(some 29), none, .bin .and (.tmp 28) (.const (.int .i64 1))⟩,
      ⟨(some 30), none, .bin .neq (.tmp 29) (.const (.int .i64 0))⟩]⟩]) [4, 6, 7, 8, 30])
  (.after (.cond (.tmp 30) (.after (.region [⟨false, [], [⟨(some 31), none, .val (.tmp 6)⟩,
      ⟨(some 32), none, .val (.tmp 7)⟩,
      ⟨(some 33), none, .bin .mul (.tmp 31) (.tmp 32)⟩,
      ⟨(some 6), none, .val (.tmp 33)⟩]⟩]) [4, 6, 7, 8]) (.skip)) [4, 6, 7, 8]))
  (.after (.region [⟨false, [], [⟨(some 34), none, .val (.tmp 7)⟩,
      ⟨(some 35), none, .val (.tmp 7)⟩,
      ⟨(some 36), none, .bin .mul (.tmp 34) (.tmp 35)⟩,
      ⟨(some 7), none, .val (.tmp 36)⟩]⟩]) [4, 6, 7, 8]))) [4, 6, 7, 8])
  (.after (.region [⟨false, [], [⟨(some 26), none, .val (.tmp 8)⟩,
      ⟨(some 27), none, .bin .shr (.tmp 26) (.const (.int .u64 1))⟩,
      ⟨(some 8), none, .val (.tmp 27)⟩]⟩]) [4, 6, 7, 8])))
def code228L1 : ACode :=
  .live [0, 4, 5] (.seq (.seq (.after (.region [⟨false, [], [⟨(some 9), none, .val (.tmp 5)⟩,
      ⟨(some 10), none, .val (.tmp 0)⟩,
      ⟨(some 11), none, .len .str (.tmp 10)⟩,
      ⟨(some 12), none, .bin .lss (.tmp 9) (.tmp 11)⟩]⟩]) [0, 4, 5, 12])
  (.after (.cond (.tmp 12) (.skip) (.live [0, 4] (.exit 0))) [0, 4, 5]))
  (.seq (.after (.block 1 (.after (.region [⟨false, [], [⟨(some 15), none, .val (.tmp 4)⟩,
      ⟨(some 16), none, .bin .mul (.tmp 15) (.const (.int .u32 16777619))⟩,
      ⟨(some 17), none, .val (.tmp 0)⟩,
      ⟨(some 18), none, .val (.tmp 5)⟩,
      ⟨(some 19), none, .index (.tmp 17) (.tmp 18)⟩,
      ⟨(some 20), none, .conv (.int .u32) (.tmp 19)⟩,
      ⟨(some 21), none, .bin .add (.tmp 16) (.tmp 20)⟩,
      ⟨(some 4), none, .val (.tmp 21)⟩]⟩]) [0, 4, 5])) [0, 4, 5])
  (.after (.region [⟨false, [], [⟨(some 13), none, .val (.tmp 5)⟩,
      ⟨(some 14), none, .bin .add (.tmp 13) (.const (.int .i64 1))⟩,
      ⟨(some 5), none, .val (.tmp 14)⟩]⟩]) [0, 4, 5])))
/-- internal.bytealg.hashStr[string] -/
def code228 : AFunc := ⟨false, false, 1, 39, [.tmp 2, .tmp 3],
  .seq (.after (.region [⟨false, [], [⟨(some 2), none, .val (.const (.int .u32 0))⟩,
      ⟨(some 3), none, .val (.const (.int .u32 0))⟩]⟩]) [0])
  (.seq (.after (.region [⟨false, [], [⟨(some 4), none, .val (.const (.int .u32 0))⟩]⟩]) [0, 4])
  (.seq (.seq (.after (.region [⟨false, [], [⟨(some 5), none, .val (.const (.int .i64 0))⟩]⟩]) [0, 4, 5])
  (.after (.block 0 (.loop code228L1)) [0, 4]))
  (.seq (.after (.region [⟨false, [], [⟨(some 6), none, .val (.const (.int .u32 1))⟩,
      ⟨(some 7), none, .val (.const (.int .u32 16777619))⟩]⟩]) [0, 4, 6, 7])
  (.seq (.seq (.after (.region [⟨false, [], [⟨(some 22), none, .val (.tmp 0)⟩,
      ⟨(some 23), none, .len .str (.tmp 22)⟩,
      ⟨(some 8), none, .val (.tmp 23)⟩]⟩]) [4, 6, 7, 8])
  (.after (.block 2 (.loop code228L0)) [4, 6]))
  (.seq (.after (.region [⟨false, [], [⟨(some 37), none, .val (.tmp 4)⟩,
      ⟨(some 38), none, .val (.tmp 6)⟩,
      ⟨(some 2), none, .val (.tmp 37)⟩,
      ⟨(some 3), none, .val (.tmp 38)⟩]⟩]) [2, 3])
  (.live [2, 3] (.ret))))))), none⟩
/-- gosem.cut.vars -/
def code289 : AFunc := ⟨false, false, 0, 6, [],
  .after (.region [⟨false, [], [⟨(some 0), none, .build [.int .u8 0, .int .u8 0] [(0, 1, .const (.int .u8 128)), (1, 1, .const (.int .u8 191))]⟩,
      ⟨(some 1), none, .build [.int .u8 0, .int .u8 0] [(0, 1, .const (.int .u8 160)), (1, 1, .const (.int .u8 191))]⟩,
      ⟨(some 2), none, .build [.int .u8 0, .int .u8 0] [(0, 1, .const (.int .u8 128)), (1, 1, .const (.int .u8 159))]⟩,
      ⟨(some 3), none, .build [.int .u8 0, .int .u8 0] [(0, 1, .const (.int .u8 144)), (1, 1, .const (.int .u8 191))]⟩,
      ⟨(some 4), none, .build [.int .u8 0, .int .u8 0] [(0, 1, .const (.int .u8 128)), (1, 1, .const (.int .u8 143))]⟩,
      ⟨(some 5), none, .build [.int .u8 0, .int .u8 0, .int .u8 0, .int .u8 0, .int .u8 0, .int .u8 0, .int .u8 0, .int .u8 0, .int .u8 0, .int .u8 0, .int .u8 0, .int .u8 0, .int .u8 0, .int .u8 0, .int .u8 0, .int .u8 0, .int .u8 0, .int .u8 0, .int .u8 0, .int .u8 0, .int .u8 0, .int .u8 0, .int .u8 0, .int .u8 0, .int .u8 0, .int .u8 0, .int .u8 0, .int .u8 0, .int .u8 0, .int .u8 0, .int .u8 0, .int .u8 0] [(0, 2, .tmp 0), (2, 2, .tmp 1), (4, 2, .tmp 2), (6, 2, .tmp 3), (8, 2, .tmp 4)]⟩,
      ⟨none, none, .nextStr (.const (.bool false))⟩]⟩]) [], none⟩
def T : Nat → Option AFunc := fun g => List.lookup g [(24, code24), (40, code40), (41, code41), (46, code46), (39, code39), (38, code38), (37, code37), (36, code36), (35, code35), (34, code34), (33, code33), (25, code25), (26, code26), (27, code27), (28, code28), (29, code29), (30, code30), (31, code31), (32, code32), (45, code45), (42, code42), (43, code43), (44, code44), (85, code85), (86, code86), (87, code87), (88, code88), (89, code89), (91, code91), (90, code90), (92, code92), (144, code144), (93, code93), (94, code94), (137, code137), (139, code139), (138, code138), (140, code140), (141, code141), (142, code142), (143, code143), (146, code146), (145, code145), (149, code149), (148, code148), (147, code147), (171, code171), (170, code170), (169, code169), (168, code168), (172, code172), (175, code175), (174, code174), (173, code173), (176, code176), (178, code178), (177, code177), (202, code202), (204, code204), (203, code203), (205, code205), (206, code206), (218, code218), (219, code219), (226, code226), (227, code227), (221, code221), (224, code224), (229, code229), (228, code228), (289, code289)]
theorem t24 : T 24 = some code24 := rfl
theorem t40 : T 40 = some code40 := rfl
theorem t41 : T 41 = some code41 := rfl
theorem t46 : T 46 = some code46 := rfl
theorem t39 : T 39 = some code39 := rfl
theorem t38 : T 38 = some code38 := rfl
theorem t37 : T 37 = some code37 := rfl
theorem t36 : T 36 = some code36 := rfl
theorem t35 : T 35 = some code35 := rfl
theorem t34 : T 34 = some code34 := rfl
theorem t33 : T 33 = some code33 := rfl
theorem t25 : T 25 = some code25 := rfl
theorem t26 : T 26 = some code26 := rfl
theorem t27 : T 27 = some code27 := rfl
theorem t28 : T 28 = some code28 := rfl
theorem t29 : T 29 = some code29 := rfl
theorem t30 : T 30 = some code30 := rfl
theorem t31 : T 31 = some code31 := rfl
theorem t32 : T 32 = some code32 := rfl
theorem t45 : T 45 = some code45 := rfl
theorem t42 : T 42 = some code42 := rfl
theorem t43 : T 43 = some code43 := rfl
theorem t44 : T 44 = some code44 := rfl
theorem t85 : T 85 = some code85 := rfl
theorem t86 : T 86 = some code86 := rfl
theorem t87 : T 87 = some code87 := rfl
theorem t88 : T 88 = some code88 := rfl
theorem t89 : T 89 = some code89 := rfl
theorem t91 : T 91 = some code91 := rfl
theorem t90 : T 90 = some code90 := rfl
theorem t92 : T 92 = some code92 := rfl
theorem t144 : T 144 = some code144 := rfl
theorem t93 : T 93 = some code93 := rfl
theorem t94 : T 94 = some code94 := rfl
theorem t137 : T 137 = some code137 := rfl
theorem t139 : T 139 = some code139 := rfl
theorem t138 : T 138 = some code138 := rfl
theorem t140 : T 140 = some code140 := rfl
theorem t141 : T 141 = some code141 := rfl
theorem t142 : T 142 = some code142 := rfl
theorem t143 : T 143 = some code143 := rfl
theorem t146 : T 146 = some code146 := rfl
theorem t145 : T 145 = some code145 := rfl
theorem t149 : T 149 = some code149 := rfl
theorem t148 : T 148 = some code148 := rfl
theorem t147 : T 147 = some code147 := rfl
theorem t171 : T 171 = some code171 := rfl
theorem t170 : T 170 = some code170 := rfl
theorem t169 : T 169 = some code169 := rfl
theorem t168 : T 168 = some code168 := rfl
theorem t172 : T 172 = some code172 := rfl
theorem t175 : T 175 = some code175 := rfl
theorem t174 : T 174 = some code174 := rfl
theorem t173 : T 173 = some code173 := rfl
theorem t176 : T 176 = some code176 := rfl
theorem t178 : T 178 = some code178 := rfl
theorem t177 : T 177 = some code177 := rfl
theorem t202 : T 202 = some code202 := rfl
theorem t204 : T 204 = some code204 := rfl
theorem t203 : T 203 = some code203 := rfl
theorem t205 : T 205 = some code205 := rfl
theorem t206 : T 206 = some code206 := rfl
theorem t218 : T 218 = some code218 := rfl
theorem t219 : T 219 = some code219 := rfl
theorem t226 : T 226 = some code226 := rfl
theorem t227 : T 227 = some code227 := rfl
theorem t221 : T 221 = some code221 := rfl
theorem t224 : T 224 = some code224 := rfl
theorem t229 : T 229 = some code229 := rfl
theorem t228 : T 228 = some code228 := rfl
theorem t289 : T 289 = some code289 := rfl
end Go.Abs.AbsDesc

/-
  Layer 12: what its functions compute: bytes of names; one byte sought.
-/
namespace Go.Abs.AbsDesc
set_option maxRecDepth 100000
set_option linter.unusedSimpArgs false
variable {os : List AObj} {b w : Nat}

/-- May a byte stand in a part of a class's name? -/
def wordN (n : Nat) : Bool := (decide (97 ≤ n) && decide (n ≤ 122)) || (decide (65 ≤ n) && decide (n ≤ 90)) || (decide (48 ≤ n) && decide (n ≤ 57)) || decide (n = 95) || decide (n = 36)

/-- internal/stringslite.IndexByte -/
theorem s226 {s : List UInt8} {c : Int} {h : Heap} : xCall T 226 [.str s, .int .u8 c] h = some (.int .i64 (Lib.indexByte s c.toNat.toUInt8), h) := by
  obtain ⟨os, b, w⟩ := h
  simp [xCall_eq T t226, code226, evPrim]

/-- strings.Index of one byte -/
theorem s205 {s : List UInt8} {c : UInt8} {h : Heap} : xCall T 205 [.str s, .str [c]] h = some (.int .i64 (Lib.indexByte s c), h) := by
  obtain ⟨os, b, w⟩ := h
  by_cases e : [c] = s
  · subst e
    simp [xCall_eq T t205, code205, s226, inBounds, Lib.indexByte]
  · simp [xCall_eq T t205, code205, s226, inBounds, e]

theorem s173 {s : List UInt8} {c : UInt8} {h : Heap} : xCall T 173 [.str s, .str [c]] h = some (.int .i64 (Lib.indexByte s c), h) := by
  obtain ⟨os, b, w⟩ := h
  simp [xCall_eq T t173, code173, s205]

/-- strings.Count of one byte -/
theorem s174 {s : List UInt8} {c : UInt8} {h : Heap} : xCall T 174 [.str s, .str [c]] h = some (.int .i64 (Lib.countByte s c), h) := by
  obtain ⟨os, b, w⟩ := h
  simp [xCall_eq T t174, code174, evPrim, inBounds]

/-- which bytes are odd: desc.word's function -/
theorem s146 {n : Nat} {h : Heap} : xCall T 146 [.int .u8 n] h = some (.bool (!wordN n), h) := by
  obtain ⟨os, b, w⟩ := h
  by_cases c1 : 97 ≤ n <;> by_cases c2 : n ≤ 122
  · have d1 : (97 : Int) ≤ n := by omega
    have d2 : (n : Int) ≤ 122 := by omega
    simp [xCall_eq T t146, code146, wordN, c1, c2, d1, d2]
  all_goals
    by_cases c3 : 65 ≤ n <;> by_cases c4 : n ≤ 90 <;> by_cases c5 : 48 ≤ n <;> by_cases c6 : n ≤ 57 <;> (try (exfalso; omega)) <;> by_cases c7 : n = 95 <;> (try (exfalso; omega)) <;> by_cases c8 : n = 36 <;> (try (exfalso; omega))
    all_goals
      have e1 : ((97 : Int) ≤ n) = (97 ≤ n) := by apply propext; omega
      have e2 : ((n : Int) ≤ 122) = (n ≤ 122) := by apply propext; omega
      have e3 : ((65 : Int) ≤ n) = (65 ≤ n) := by apply propext; omega
      have e4 : ((n : Int) ≤ 90) = (n ≤ 90) := by apply propext; omega
      have e5 : ((48 : Int) ≤ n) = (48 ≤ n) := by apply propext; omega
      have e6 : ((n : Int) ≤ 57) = (n ≤ 57) := by apply propext; omega
      have e7 : ((n : Int) = 95) = (n = 95) := by apply propext; omega
      have e8 : ((n : Int) = 36) = (n = 36) := by apply propext; omega
      simp [xCall_eq T t146, code146, wordN, e1, e2, e3, e4, e5, e6, e7, e8, c1, c2, c3, c4, c5, c6, c7, c8]

end Go.Abs.AbsDesc

/-
  Layer 12: what its functions compute: parts of names.
-/
namespace Go.Abs.AbsDesc
set_option maxRecDepth 100000
set_option linter.unusedSimpArgs false
variable {os : List AObj} {b w : Nat}

/-- The place of the first that is asked for, else -1. -/
def firstIx {α : Type} (p : α → Bool) : List α → Nat → Int
  | [], _ => -1
  | x :: l, i => if p x then i else firstIx p l (i + 1)

theorem firstIx_ge {α : Type} (p : α → Bool) : ∀ (l : List α) (i : Nat), (decide (0 ≤ firstIx p l i)) = l.any p
  | [], i => by simp [firstIx]
  | x :: l, i => by
    simp only [firstIx, List.any_cons]
    by_cases h : p x = true
    · simp [h]
    · simp only [Bool.not_eq_true] at h
      simp [h, firstIx_ge p l (i + 1)]

theorem firstIx_none {α : Type} (p : α → Bool) : ∀ (l : List α) (i : Nat), (∀ x ∈ l, p x = false) → firstIx p l i = -1
  | [], _, _ => rfl
  | x :: l, i, h => by
    simp only [firstIx, h x (List.mem_cons_self ..), Bool.false_eq_true, if_false]
    exact firstIx_none p l (i + 1) fun y hy => h y (List.mem_cons_of_mem _ hy)

theorem firstIx_at {α : Type} (p : α → Bool) : ∀ (l : List α) (i j : Nat) (x : α), l[j]? = some x → p x = true → (∀ k, k < j → ∀ y, l[k]? = some y → p y = false) → firstIx p l i = (i + j : Nat)
  | [], i, j, x, h, _, _ => by simp at h
  | y :: l, i, 0, x, h, hp, _ => by
    simp at h; subst h
    simp [firstIx, hp]
  | y :: l, i, j + 1, x, h, hp, hb => by
    have h0 := hb 0 (by omega) y rfl
    simp only [firstIx, h0, Bool.false_eq_true, if_false]
    rw [firstIx_at p l (i + 1) j x (by simpa using h) hp (fun k hk z hz => hb (k + 1) (by omega) z (by simpa using hz))]
    congr 1; omega

/-- A loop that is left with the first that is asked for, or goes through all. -/
theorem loop_find {T : Nat → Option AFunc} {α : Type} {c : ACode} (p : α → Bool) (L : List α) (st : Nat → St) (out : Nat → St) (e1 e2 : AExit) (fin : St)
    (hs : ∀ (i : Nat) x, L[i]? = some x → xCode T c (st i) = some (if p x then (e1, out i) else (.normal, st (i + 1)))) (h1 : e1 ≠ .normal) (h2 : e2 ≠ .normal) (hx : xCode T c (st L.length) = some (e2, fin)) :
    (L.any p = false ∧ xCode T (.loop c) (st 0) = some (e2, fin)) ∨ ∃ (j : Nat) (x : α), L[j]? = some x ∧ p x = true ∧ (∀ k, k < j → ∀ y, L[k]? = some y → p y = false) ∧ xCode T (.loop c) (st 0) = some (e1, out j) := by
  rcases first_bad (fun x => p x = false) L with h | ⟨j, x, h3, h4, h5⟩
  · left
    refine ⟨by rw [List.any_eq_false]; exact fun x hx => by simp [h x hx], ?_⟩
    refine loop_all st L.length (fun i hi => ?_) h2 hx
    obtain ⟨x, hx⟩ : ∃ x, L[i]? = some x := ⟨_, List.getElem?_eq_getElem hi⟩
    rw [hs i x hx, h x (List.mem_of_getElem? hx)]
    rfl
  · right
    simp only [Bool.not_eq_false] at h4
    refine ⟨j, x, h3, h4, h5, ?_⟩
    refine loop_all st j (fun i hi => ?_) h1 (by rw [hs j x h3, h4]; rfl)
    obtain ⟨y, hy⟩ : ∃ y, L[i]? = some y := ⟨_, List.getElem?_eq_getElem (Nat.lt_trans hi (get_lt h3))⟩
    rw [hs i y hy, h5 i hi y hy]
    rfl

def byteCell (c : UInt8) : List AVal := [.int .u8 c.toNat]
def strCell (s : List UInt8) : List AVal := [.str s]

/-- slices.IndexFunc over bytes -/
theorem s176 {L : List UInt8} {a : Option (Nat × Nat)} {c : Option Nat} {g : Nat} {p : UInt8 → Bool} (hR : Row os 1 byteCell L a) (hn : L.length ≤ 9223372036854775807)
    (hg : ∀ (x : UInt8) (w : Nat), xCall T g [.int .u8 x.toNat] ⟨os, b, w⟩ = some (.bool (p x), ⟨os, b, w⟩)) :
    xCall T 176 [.slice a L.length c, .func g [] []] ⟨os, b, w⟩ = some (.int .i64 (firstIx p L 0), ⟨os, b, w⟩) := by
  have hl := loop_find (T := T) (c := code176L0) p L (fun i => ⟨[(0, .val (.slice a L.length c)), (1, .val (.func g [] [])), (7, .val (.int .i64 L.length)), (8, .val (.int .i64 i))], ⟨os, b, os.length⟩⟩)
    (fun i => ⟨[(4, .val (.int .i64 i))], ⟨os, b, os.length⟩⟩) .ret (.exit 0) ⟨[], ⟨os, b, os.length⟩⟩ ?_ (by simp) (by simp) (by simp [code176L0])
  · rcases hl with ⟨h1, h2⟩ | ⟨j, x, h1, h2, h3, h4⟩
    · rw [List.any_eq_false] at h1
      rw [firstIx_none p L 0 fun x hx => by simpa using h1 x hx]
      simp only [Int.cast_ofNat_Int] at h2
      simp [xCall_eq T t176, code176, h2]
    · rw [firstIx_at p L 0 j x h1 h2 h3]
      simp only [Int.cast_ofNat_Int] at h4
      simp [xCall_eq T t176, code176, h4]
  · intro i x hx
    obtain ⟨bb, o, cs, rfl, hrow, hpart⟩ := hR.at' (ne_of_get hx)
    obtain ⟨p1, p2⟩ := hpart i x hx
    have hw := wrap_next (get_lt hx) hn
    have hi' : (i : Int) < (L.length : Int) := by have := get_lt hx; omega
    have hge : (0 : Int) ≤ i := by omega
    have q3 : (List.take 1 (List.drop (o + i * 1) cs))[0]? = some (.int .u8 x.toNat) := by rw [p2]; rfl
    have q4 : cs[o + i]? = some (.int .u8 x.toNat) := by simpa using q3
    by_cases hp : p x = true
    · simp [code176L0, hi', hge, hrow, q4, hg, hp]
    · simp [code176L0, hi', hge, hrow, q4, hg, hp, hw]

/-- slices.IndexFunc over texts -/
theorem s142 {L : List (List UInt8)} {a : Option (Nat × Nat)} {c : Option Nat} {g : Nat} {p : List UInt8 → Bool} (hR : Row os 1 strCell L a) (hn : L.length ≤ 9223372036854775807)
    (hg : ∀ x ∈ L, ∀ (w : Nat), xCall T g [.str x] ⟨os, b, w⟩ = some (.bool (p x), ⟨os, b, w⟩)) :
    xCall T 142 [.slice a L.length c, .func g [] []] ⟨os, b, w⟩ = some (.int .i64 (firstIx p L 0), ⟨os, b, w⟩) := by
  have hl := loop_find (T := T) (c := code142L0) p L (fun i => ⟨[(0, .val (.slice a L.length c)), (1, .val (.func g [] [])), (7, .val (.int .i64 L.length)), (8, .val (.int .i64 i))], ⟨os, b, os.length⟩⟩)
    (fun i => ⟨[(4, .val (.int .i64 i))], ⟨os, b, os.length⟩⟩) .ret (.exit 0) ⟨[], ⟨os, b, os.length⟩⟩ ?_ (by simp) (by simp) (by simp [code142L0])
  · rcases hl with ⟨h1, h2⟩ | ⟨j, x, h1, h2, h3, h4⟩
    · rw [List.any_eq_false] at h1
      rw [firstIx_none p L 0 fun x hx => by simpa using h1 x hx]
      simp only [Int.cast_ofNat_Int] at h2
      simp [xCall_eq T t142, code142, h2]
    · rw [firstIx_at p L 0 j x h1 h2 h3]
      simp only [Int.cast_ofNat_Int] at h4
      simp [xCall_eq T t142, code142, h4]
  · intro i x hx
    obtain ⟨bb, o, cs, rfl, hrow, hpart⟩ := hR.at' (ne_of_get hx)
    obtain ⟨p1, p2⟩ := hpart i x hx
    have hw := wrap_next (get_lt hx) hn
    have hi' : (i : Int) < (L.length : Int) := by have := get_lt hx; omega
    have hge : (0 : Int) ≤ i := by omega
    have q3 : (List.take 1 (List.drop (o + i * 1) cs))[0]? = some (.str x) := by rw [p2]; rfl
    have q4 : cs[o + i]? = some (.str x) := by simpa using q3
    have hgx := hg x (List.mem_of_getElem? hx)
    by_cases hp : p x = true
    · simp [code142L0, hi', hge, hrow, q4, hgx, hp]
    · simp [code142L0, hi', hge, hrow, q4, hgx, hp, hw]

theorem s145 {L : List UInt8} {a : Option (Nat × Nat)} {c : Option Nat} {g : Nat} {p : UInt8 → Bool} (hR : Row os 1 byteCell L a) (hn : L.length ≤ 9223372036854775807)
    (hg : ∀ (x : UInt8) (w : Nat), xCall T g [.int .u8 x.toNat] ⟨os, b, w⟩ = some (.bool (p x), ⟨os, b, w⟩)) :
    xCall T 145 [.slice a L.length c, .func g [] []] ⟨os, b, w⟩ = some (.bool (L.any p), ⟨os, b, w⟩) := by
  have h := s176 (w := os.length) (c := c) hR hn hg
  have h2 := firstIx_ge p L 0
  simp [xCall_eq T t145, code145, h, h2]

theorem s91 {L : List (List UInt8)} {a : Option (Nat × Nat)} {c : Option Nat} {g : Nat} {p : List UInt8 → Bool} (hR : Row os 1 strCell L a) (hn : L.length ≤ 9223372036854775807)
    (hg : ∀ x ∈ L, ∀ (w : Nat), xCall T g [.str x] ⟨os, b, w⟩ = some (.bool (p x), ⟨os, b, w⟩)) :
    xCall T 91 [.slice a L.length c, .func g [] []] ⟨os, b, w⟩ = some (.bool (L.any p), ⟨os, b, w⟩) := by
  have h := s142 (w := os.length) (c := c) hR hn hg
  have h2 := firstIx_ge p L 0
  simp [xCall_eq T t91, code91, h, h2]

theorem flat_bytes : ∀ s : List UInt8, (s.map fun c => AVal.int .u8 c.toNat) = s.flatMap byteCell
  | [] => rfl
  | c :: s => by
    rw [List.map_cons, List.flatMap_cons, flat_bytes s]
    rfl

/-- May this be a part of a class's name? -/
def wordL (s : List UInt8) : Bool := !s.isEmpty && s.all fun c => wordN c.toNat

theorem any_not {α : Type} (p : α → Bool) : ∀ l : List α, (l.any fun x => !p x) = !l.all p
  | [] => rfl
  | x :: l => by rw [List.any_cons, List.all_cons, any_not p l, Bool.not_and]

/-- desc.word -/
theorem s144 {s : List UInt8} (hn : s.length ≤ 9223372036854775807) : xCall T 144 [.str s] ⟨os, b, w⟩ = some (.bool (wordL s), ⟨os, b, w⟩) := by
  have h := fun w => s145 (os := os ++ [.cells 1 (s.map fun c => AVal.int .u8 c.toNat)]) (b := b) (w := w) (L := s) (a := some (os.length, 0)) (c := none) (g := 146) (p := fun x => !wordN x.toNat)
    (Row.mk0 (fun _ => rfl) (by rw [← flat_bytes]; simp)) hn (fun x w => s146)
  by_cases e : s = []
  · subst e
    simp [xCall_eq T t144, code144, wordL]
  · have he : s.isEmpty = false := by cases s <;> simp_all
    simp [xCall_eq T t144, code144, wordL, h, e, he, any_not]

theorem s92 {s : List UInt8} (hn : s.length ≤ 9223372036854775807) : xCall T 92 [.str s] ⟨os, b, w⟩ = some (.bool (!wordL s), ⟨os, b, w⟩) := by
  have h := fun w => s144 (os := os) (b := b) (w := w) hn
  simp [xCall_eq T t92, code92, h]

end Go.Abs.AbsDesc

/-
  Layer 12: what its functions compute: a text split at a byte.
-/
namespace Go.Abs.AbsDesc
set_option maxRecDepth 100000
set_option linter.unusedSimpArgs false
variable {os : List AObj} {b w : Nat}

/-- The parts of a text between bytes c. -/
def parts (c : UInt8) : List UInt8 → List (List UInt8)
  | [] => [[]]
  | x :: r => if x == c then [] :: parts c r else match parts c r with
    | p :: ps => (x :: p) :: ps
    | [] => [[x]]

theorem parts_ne (c : UInt8) : ∀ s, parts c s ≠ []
  | [] => by simp [parts]
  | x :: r => by
    simp only [parts]
    split
    · simp
    · split <;> simp

theorem parts_length (c : UInt8) : ∀ s, (parts c s).length = Lib.countByte s c + 1
  | [] => rfl
  | x :: r => by
    have ih := parts_length c r
    simp only [parts, Lib.countByte, List.count_cons] at ih ⊢
    split
    · rw [List.length_cons, ih]
    · split
      · rename_i p ps hp
        rw [hp] at ih
        simpa using ih
      · rename_i hp
        exact absurd hp (parts_ne c r)

/-- No such byte: one part. -/
theorem parts_none {c : UInt8} : ∀ {s : List UInt8}, Lib.indexByte s c < 0 → parts c s = [s]
  | [], _ => rfl
  | x :: r, h => by
    unfold Lib.indexByte at h
    simp only [parts]
    split at h
    · omega
    · rename_i hx
      rw [if_neg hx]
      have : Lib.indexByte r c < 0 := by
        split at h
        · rename_i e; simp at e; omega
        · have := Lib.indexByte_ge r c; rename_i e; simp at e; omega
      rw [parts_none this]

/-- The first such byte is at k: the first part, and those of what is behind it. -/
theorem parts_some {c : UInt8} : ∀ {s : List UInt8} {k : Nat}, Lib.indexByte s c = k → k < s.length ∧ parts c s = s.take k :: parts c (s.drop (k + 1))
  | [], k, h => by simp [Lib.indexByte] at h
  | x :: r, k, h => by
    unfold Lib.indexByte at h
    simp only [parts]
    split at h
    · rename_i hx
      have : k = 0 := by omega
      subst this
      rw [if_pos hx]
      simp
    · rename_i hx
      rw [if_neg hx]
      have hge := Lib.indexByte_ge r c
      split at h
      · omega
      · cases k with
        | zero => rename_i e; simp at e; omega
        | succ k =>
          obtain ⟨h1, h2⟩ := parts_some (s := r) (k := k) (c := c) (by omega)
          rw [h2]
          simp [h1]

/-- What is left behind the first i parts. -/
def rest (c : UInt8) (s : List UInt8) : Nat → List UInt8
  | 0 => s
  | i + 1 => (rest c s i).drop ((Lib.indexByte (rest c s i) c).toNat + 1)

theorem rest_parts {c : UInt8} {s : List UInt8} : ∀ i, i < (parts c s).length → parts c (rest c s i) = (parts c s).drop i ∧ (rest c s i).length ≤ s.length
  | 0, _ => ⟨rfl, Nat.le_refl _⟩
  | i + 1, hi => by
    obtain ⟨h1, h2⟩ := rest_parts (c := c) (s := s) i (by omega)
    rcases (show Lib.indexByte (rest c s i) c < 0 ∨ 0 ≤ Lib.indexByte (rest c s i) c by omega) with h | h
    · rw [parts_none h] at h1
      have := congrArg List.length h1
      simp at this
      omega
    · obtain ⟨k, hk⟩ := Int.eq_ofNat_of_zero_le h
      obtain ⟨h3, h4⟩ := parts_some hk
      rw [h4] at h1
      have h5 := congrArg List.tail h1
      simp only [List.tail_cons, List.tail_drop] at h5
      refine ⟨?_, ?_⟩
      · simp only [rest, hk, Int.toNat_natCast]
        exact h5
      · simp only [rest, List.length_drop]; omega

/-- Ahead of the last part: the next part, and the byte that ends it. -/
theorem rest_next {c : UInt8} {s : List UInt8} {i : Nat} (hi : i + 1 < (parts c s).length) : ∃ k : Nat, Lib.indexByte (rest c s i) c = k ∧ k < (rest c s i).length ∧ (parts c s)[i]? = some ((rest c s i).take k) ∧ rest c s (i + 1) = (rest c s i).drop (k + 1) := by
  obtain ⟨h1, h2⟩ := rest_parts (c := c) (s := s) i (by omega)
  rcases (show Lib.indexByte (rest c s i) c < 0 ∨ 0 ≤ Lib.indexByte (rest c s i) c by omega) with h | h
  · rw [parts_none h] at h1
    have := congrArg List.length h1
    simp at this
    omega
  · obtain ⟨k, hk⟩ := Int.eq_ofNat_of_zero_le h
    obtain ⟨h3, h4⟩ := parts_some hk
    rw [h4] at h1
    refine ⟨k, hk, h3, ?_, by simp [rest, hk]⟩
    have := congrArg (fun l => l[0]?) h1
    simp only [List.getElem?_cons_zero, List.getElem?_drop, Nat.add_zero] at this
    exact this.symm

/-- The last part is what is left. -/
theorem rest_last {c : UInt8} {s : List UInt8} {i : Nat} (hi : i + 1 = (parts c s).length) : (parts c s)[i]? = some (rest c s i) := by
  obtain ⟨h1, h2⟩ := rest_parts (c := c) (s := s) i (by omega)
  rcases (show Lib.indexByte (rest c s i) c < 0 ∨ 0 ≤ Lib.indexByte (rest c s i) c by omega) with h | h
  · rw [parts_none h] at h1
    have := congrArg (fun l => l[0]?) h1
    simp only [List.getElem?_cons_zero, List.getElem?_drop, Nat.add_zero] at this
    exact this.symm
  · obtain ⟨k, hk⟩ := Int.eq_ofNat_of_zero_le h
    obtain ⟨h3, h4⟩ := parts_some hk
    rw [h4] at h1
    have hlen := congrArg List.length h1
    have hpos : 0 < (parts c ((rest c s i).drop (k + 1))).length := List.length_pos_iff.2 (parts_ne c _)
    simp only [List.length_cons, List.length_drop] at hlen
    omega

end Go.Abs.AbsDesc

/-
  Layer 12: strings.Split at one byte.
-/
namespace Go.Abs.AbsDesc
set_option maxRecDepth 100000
set_option linter.unusedSimpArgs false
variable {os : List AObj} {b w : Nat}

/-- A row of texts of which the first i are laid. -/
def mem (L : List (List UInt8)) (i : Nat) : List AVal := (L.take i).map AVal.str ++ List.replicate (L.length - i) (.str [])

theorem mem_len {L : List (List UInt8)} {i : Nat} (h : i ≤ L.length) : (mem L i).length = L.length := by
  simp [mem]; omega

theorem mem_set {L : List (List UInt8)} {i : Nat} {x : List UInt8} (h : L[i]? = some x) : splice (mem L i) i [.str x] = mem L (i + 1) := by
  have hi := lt_of_get h
  have h1 : ((L.take i).map AVal.str).length = i := by simp; omega
  have h2 : L.length - i = (L.length - (i + 1)) + 1 := by omega
  unfold splice mem
  rw [List.take_left' h1, h2, List.replicate_succ, List.drop_append, h1]
  rw [List.drop_of_length_le (by rw [h1]; simp), List.take_add_one, h]
  simp

theorem mem_all (L : List (List UInt8)) : mem L L.length = L.map AVal.str := by simp [mem]

theorem mem_zero (n : Nat) (L : List (List UInt8)) (h : L.length = n) : rep n [.str []] = mem L 0 := by
  subst h
  have : ∀ n : Nat, (List.replicate n [AVal.str []]).flatten = List.replicate n (.str []) := by
    intro n
    induction n with
    | zero => rfl
    | succ n ih => rw [List.replicate_succ, List.flatten_cons, ih]; rfl
  unfold rep mem
  rw [this]
  simp

theorem count_le (c : UInt8) (s : List UInt8) : Lib.countByte s c ≤ s.length := List.count_le_length

theorem split_loop {s : List UInt8} {c : UInt8} (hn : s.length ≤ 1000000) (hb : b ≤ os.length) :
    xCode T (.loop code143L0) ⟨[(0, .val (.str s)), (1, .val (.str [c])), (2, .val (.int .i64 0)), (3, .val (.int .i64 (Lib.countByte s c))), (9, .val (.slice (some (os.length, 0)) (Lib.countByte s c + 1) (some (Lib.countByte s c + 1)))), (10, .val (.int .i64 (0 : Nat)))], ⟨os ++ [.cells 1 (mem (parts c s) 0)], b, os.length⟩⟩ =
      some (.exit 0, ⟨[(0, .val (.str (rest c s (Lib.countByte s c)))), (9, .val (.slice (some (os.length, 0)) (Lib.countByte s c + 1) (some (Lib.countByte s c + 1)))), (10, .val (.int .i64 (Lib.countByte s c)))], ⟨os ++ [.cells 1 (mem (parts c s) (Lib.countByte s c))], b, os.length⟩⟩) := by
  have hlen := parts_length c s
  have hcnt := count_le c s
  refine loop_all (e := .exit 0) (fun i => ⟨[(0, .val (.str (rest c s i))), (1, .val (.str [c])), (2, .val (.int .i64 0)), (3, .val (.int .i64 (Lib.countByte s c))), (9, .val (.slice (some (os.length, 0)) (Lib.countByte s c + 1) (some (Lib.countByte s c + 1)))), (10, .val (.int .i64 i))], ⟨os ++ [.cells 1 (mem (parts c s) i)], b, os.length⟩⟩) (Lib.countByte s c) ?_ (by simp) ?_
  · intro i hi
    obtain ⟨k, h1, h2, h3, h4⟩ := rest_next (c := c) (s := s) (i := i) (by omega)
    have hrl := (rest_parts (c := c) (s := s) i (by omega)).2
    have hm := mem_set h3
    have hml := mem_len (L := parts c s) (i := i) (by omega)
    have hi' : (i : Int) < (Lib.countByte s c : Int) := by omega
    have hge : (0 : Int) ≤ i := by omega
    have hk0 : ¬ ((k : Int) < 0) := by omega
    have hk1 : (k : Int) ≤ ((rest c s i).length : Int) := by omega
    have hk2 : IntKind.i64.wrap ((k : Int) + 0) = (k : Int) := by rw [wrap64 (by omega) (by omega)]; omega
    have hk3 : IntKind.i64.wrap ((k : Int) + 1) = ((k + 1 : Nat) : Int) := by rw [wrap64 (by omega) (by omega)]; omega
    have hk3' : IntKind.i64.wrap ((k : Int)) = (k : Int) := by rw [wrap64 (by omega) (by omega)]
    have hw := wrap_next (i := i) (n := Lib.countByte s c) hi (by omega)
    have hi1 : (i : Int) < (Lib.countByte s c : Int) + 1 := by omega
    have hil : i + 1 ≤ (parts c s).length := by omega
    have hk4 : (k : Int) + 1 ≤ ((rest c s i).length : Int) := by omega
    have hk5 : (0 : Int) ≤ (k : Int) + 1 := by omega
    have htk : List.take ((rest c s i).length - (k + 1)) (List.drop (k + 1) (rest c s i)) = List.drop (k + 1) (rest c s i) := List.take_of_length_le (by simp)
    have hm' : List.take i (mem (parts c s) i) ++ AVal.str (List.take k (rest c s i)) :: List.drop (i + 1) (mem (parts c s) i) = mem (parts c s) (i + 1) := by simpa [splice] using hm
    simp only [h4]
    simp [code143L0, hi', hge, s173, h1, hk0, hk1, hk2, hk3, hk3', hw, hi1, hb, hil, hml, hm', hk4, hk5, htk]
    done
  · simp [code143L0]

end Go.Abs.AbsDesc
