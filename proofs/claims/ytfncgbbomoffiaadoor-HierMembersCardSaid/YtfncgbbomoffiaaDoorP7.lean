/-
  Layer 16: a unit's fields are put.
-/
import Derived.Test.YtfncgbbomoffiaaDoorP6
namespace Go.Abs.AbsHier
open Go.Abs.AbsDesc
set_option maxRecDepth 100000
set_option linter.unusedSimpArgs false
variable {os O : List AObj} {b w : Nat} {N : Nat} {S : List (Str × Str)} {F M : List (Key × Mem)} {V : List (Key × Bool)}

theorem World.setS (h : World O N S F M V) (S' : List (Str × Str)) : World (O.set (N + 1) (mObj .str .str S')) N S' F M V := by
  have hl := h.lt
  constructor
  · rw [List.getElem?_set_ne (by omega)]; exact h.w0
  · rw [List.getElem?_set, if_pos rfl, if_pos (by omega)]
  · rw [List.getElem?_set_ne (by omega)]; exact h.m2
  · rw [List.getElem?_set_ne (by omega)]; exact h.m3
  · rw [List.getElem?_set_ne (by omega)]; exact h.m4

theorem World.setF (h : World O N S F M V) (F' : List (Key × Mem)) : World (O.set (N + 2) (mObj keyF memF F')) N S F' M V := by
  have hl := h.lt
  constructor
  · rw [List.getElem?_set_ne (by omega)]; exact h.w0
  · rw [List.getElem?_set_ne (by omega)]; exact h.m1
  · rw [List.getElem?_set, if_pos rfl, if_pos (by omega)]
  · rw [List.getElem?_set_ne (by omega)]; exact h.m3
  · rw [List.getElem?_set_ne (by omega)]; exact h.m4

theorem World.setM (h : World O N S F M V) (M' : List (Key × Mem)) : World (O.set (N + 3) (mObj keyF memF M')) N S F M' V := by
  have hl := h.lt
  constructor
  · rw [List.getElem?_set_ne (by omega)]; exact h.w0
  · rw [List.getElem?_set_ne (by omega)]; exact h.m1
  · rw [List.getElem?_set_ne (by omega)]; exact h.m2
  · rw [List.getElem?_set, if_pos rfl, if_pos (by omega)]
  · rw [List.getElem?_set_ne (by omega)]; exact h.m4

def fieldOk (S : List (Str × Str)) (A : List (Str × Bool)) (f : FieldU) : Bool := isName f.name && isTy f.desc && thereS S f.desc && !(getE A f.name).getD false

/-- Are these fields right? A: what there is ahead of them. -/
def fieldsS (S : List (Str × Str)) : List (Str × Bool) → List FieldU → Bool
  | _, [] => true
  | A, f :: r => fieldOk S A f && fieldsS S (A ++ [(f.name, true)]) r

def fieldE (c : Str) (f : FieldU) : Key × Mem := ((c, f.name, f.desc), ⟨c, f.st⟩)

theorem l99 {u : UnitU} (hu : u.ok os) (hp : Pre os O) (hN : os.length ≤ N) (h : World O N S F M V) (hb : b ≤ N) : ∀ (j i : Nat) (F' : List (Key × Mem)) (A : List (Str × Bool)) (w : Nat), i + j = u.fields.length → N + 2 ≤ w →
    (∀ x ∈ F', x.1.1 = u.name → (getE A x.1.2.1).isSome = true) → (∀ x ∈ A, x.2 = true) →
    ∃ O' w' e s', N + 2 ≤ w' ∧ (if fieldsS S A (u.fields.drop i) then e = .exit 0 ∧ s' = [] ∧ (w' ≤ N + 2 ∨ (u.fields.drop i = [] ∧ w' = w)) ∧ ∃ X, O' = O.set (N + 2) (mObj keyF memF (F' ++ (u.fields.drop i).map (fieldE u.name))) ++ X else e = .ret ∧ s' = [(4, .val (.bool false))]) ∧
      ∀ (k : AExit → St → Option (AVal × Heap)),
      xK T (.loop code99L0) ⟨[(0, .val (.ptr (some (N, 0)))), (3, .var u.cells), (5, .val (.map (some O.length))), (10, .val (.slice u.fa u.fields.length u.fc)), (11, .val (.int .i64 u.fields.length)), (12, .val (.int .i64 i))],
        ⟨O.set (N + 2) (mObj keyF memF F') ++ [mObj .str .bool A], b, w⟩⟩ (k := ⟨k⟩) = k e ⟨s', ⟨O', b, w'⟩⟩
  | 0, i, F', A, w, hi, hw, hF, hA => by
    refine ⟨O.set (N + 2) (mObj keyF memF F') ++ [mObj .str .bool A], w, .exit 0, [], hw, ?_, fun k => ?_⟩
    · rw [List.drop_of_length_le (by omega)]
      simp only [fieldsS, if_true, List.map_nil, List.append_nil]
      exact ⟨trivial, trivial, .inr ⟨trivial, trivial⟩, _, rfl⟩
    · rw [xK_loop]
      simp (disch := omega) [-getElem?_pos, -getElem?_neg, code99L0, iltF]
  | j + 1, i, F', A, w, hi, hw, hF, hA => by
    obtain ⟨f, hf⟩ : ∃ f, u.fields[i]? = some f := ⟨_, List.getElem?_eq_getElem (by omega)⟩
    obtain ⟨p, o, cs, ha, hpp, hpl, hcs, ht⟩ := row_at hu.f hf
    have hfn : u.fields.length ≤ 9223372036854775807 := hu.fn
    obtain ⟨hn1, hn2⟩ := hu.fok f (List.mem_of_getElem? hf)
    have hd : u.fields.drop i = f :: u.fields.drop (i + 1) := by
      have := lt_of_get hf
      rw [List.getElem?_eq_getElem this] at hf
      rw [List.drop_eq_getElem_cons this, Option.some.inj hf]
    have hl := h.lt
    have hW := (h.setF F').app [mObj .str .bool A]
    have hpO : (O.set (N + 2) (mObj keyF memF F') ++ [mObj .str .bool A])[p]? = some (.cells 3 cs) := by
      rw [List.getElem?_append_left (by simp; omega), List.getElem?_set_ne (by omega)]; exact hp _ _ hpp
    have hAl : (O.set (N + 2) (mObj keyF memF F') ++ [mObj .str .bool A])[O.length]? = some (mObj .str .bool A) := by
      rw [List.getElem?_append_right (by simp)]; simp
    have hbO : b ≤ (O.set (N + 2) (mObj keyF memF F') ++ [mObj .str .bool A]).length := by simp; omega
    have h181 := fun w => s181 (O := O.set (N + 2) (mObj keyF memF F') ++ [mObj .str .bool A]) (b := b) (w := w) (s := f.name) hbO
    have h27 := fun w => s27 (os := O.set (N + 2) (mObj keyF memF F') ++ [mObj .str .bool A]) (b := b) (w := w) (s := f.desc) hn2 hbO
    have h103 := fun w => s103 (b := b) (w := w) hW (t := f.desc) hn2
    have hlk := fun w => lookup_v (b := b) (w := w) (kn := .one .s) (zero := .bool false) keyStr hAl (k := f.name) rfl
    have hlv : ((getE A f.name).map AVal.bool).getD (.bool false) = .bool ((getE A f.name).getD false) := by cases getE A f.name <;> rfl
    rw [hlv] at hlk
    have hm1 := hW.w0
    have hc0 : f.cells = [.bool f.st, .str f.name, .str f.desc] := rfl
    rw [hc0] at ht
    by_cases c : fieldOk S A f = true
    · have hc := c
      unfold fieldOk at hc
      simp only [Bool.and_eq_true, Bool.not_eq_true'] at hc
      obtain ⟨⟨⟨c1, c2⟩, c3⟩, c4⟩ := hc
      have hgA : getE A f.name = none := by
        cases hg : getE A f.name with
        | none => rfl
        | some v =>
          have := hA _ (getE_mem hg)
          simp only at this
          rw [hg, this] at c4; cases c4
      have hgF : getE F' (u.name, f.name, f.desc) = none := by
        cases hg : getE F' (u.name, f.name, f.desc) with
        | none => rfl
        | some v =>
          have := hF _ (getE_mem hg) rfl
          simp only at this
          rw [hgA] at this; cases this
      have hup1 := fun w => upd_new (b := b) (w := w) (kn := .one .s) keyStr hAl (k := f.name) true rfl (by omega) hgA
      have hs1 : (O.set (N + 2) (mObj keyF memF F') ++ [mObj .str .bool A]).set O.length (mObj .str .bool (A ++ [(f.name, true)])) = O.set (N + 2) (mObj keyF memF F') ++ [mObj .str .bool (A ++ [(f.name, true)])] := by
        rw [List.set_append_right _ _ (by simp)]; simp
      simp only [hs1] at hup1
      have hW2 := (h.setF F').app [mObj .str .bool (A ++ [(f.name, true)])]
      have hup2 := fun w => upd_new (b := b) (w := w) (kn := .agg [.s, .s, .s]) keyKey hW2.m2 (k := (u.name, f.name, f.desc)) ⟨u.name, f.st⟩ rfl (by omega) hgF
      have hs2 : (O.set (N + 2) (mObj keyF memF F') ++ [mObj .str .bool (A ++ [(f.name, true)])]).set (N + 2) (mObj keyF memF (F' ++ [((u.name, f.name, f.desc), ⟨u.name, f.st⟩)])) = O.set (N + 2) (mObj keyF memF (F' ++ [fieldE u.name f])) ++ [mObj .str .bool (A ++ [(f.name, true)])] := by
        rw [List.set_append_left _ _ (by simp; omega), List.set_set]; rfl
      simp only [hs2, keyF, memF] at hup2
      have hm2 := hW2.w0
      obtain ⟨O', w', e, s', r1, r2, ih⟩ := l99 hu hp hN h hb j (i + 1) (F' ++ [fieldE u.name f]) (A ++ [(f.name, true)]) (min (min w O.length) (N + 2)) (by omega) (by omega) (fun x hx hn => by
          rcases List.mem_append.1 hx with hx | hx
          · rw [getE_app]
            have := hF x hx hn
            cases hg : getE A x.1.2.1 with
            | none => rw [hg] at this; cases this
            | some v => rfl
          · rw [List.mem_singleton] at hx
            subst hx
            rw [getE_app]
            simp only [fieldE, hgA, Option.none_or, getE, if_true]
            rfl) (fun x hx => by
          rcases List.mem_append.1 hx with hx | hx
          · exact hA x hx
          · rw [List.mem_singleton] at hx; subst hx; rfl)
      refine ⟨O', w', e, s', r1, ?_, fun k => ?_⟩
      · rw [hd]
        simp only [fieldsS, c, Bool.true_and]
        rw [List.map_cons]
        rw [List.append_assoc, List.singleton_append] at r2
        split at r2
        · rename_i hff
          obtain ⟨q1, q2, q3, q4⟩ := r2
          rw [if_pos hff]
          refine ⟨q1, q2, .inl ?_, q4⟩
          rcases q3 with q3 | ⟨_, q3⟩ <;> omega
        · rename_i hff
          rw [if_neg hff]; exact r2
      have ih := ih k
      have e2 : ((i + 1 : Nat) : Int) = (i : Int) + 1 := by omega
      rw [e2] at ih
      rw [xK_loop, ← ih]
      generalize ACode.loop code99L0 = L
      generalize O.set (N + 2) (mObj keyF memF F') ++ [mObj .str .bool A] = H at hpO hAl hW hbO h181 h27 h103 hlk hup1 hm1 hs1 ⊢
      generalize O.set (N + 2) (mObj keyF memF F') ++ [mObj .str .bool (A ++ [(f.name, true)])] = H2 at hup1 hW2 hup2 hs1 hs2 hm2 ⊢
      generalize O.set (N + 2) (mObj keyF memF (F' ++ [fieldE u.name f])) ++ [mObj .str .bool (A ++ [(f.name, true)])] = H3 at hup2 hs2 ⊢
      simp (disch := omega) [-getElem?_pos, -getElem?_neg, -evExt, List.getElem?_cons_zero, List.getElem?_cons_succ, code99L0, h181, h27, h103, hlk, nltT, nltF, iltT, ileT, nleT, wrapI, hb, hpO, ht, ha, c1, c2, c3, c4, hup1, hup2, hm1, hm2, keyF, memF, UnitU.cells]
    · have hfl : fieldsS S A (u.fields.drop i) = false := by rw [hd]; simp only [fieldsS, Bool.and_eq_false_iff]; left; simpa using c
      rw [hfl]
      refine ⟨O.set (N + 2) (mObj keyF memF F') ++ [mObj .str .bool A], w, .ret, [(4, .val (.bool false))], hw, by simp, fun k => ?_⟩
      rw [xK_loop]
      generalize ACode.loop code99L0 = L
      generalize O.set (N + 2) (mObj keyF memF F') ++ [mObj .str .bool A] = H at hpO hAl hW hbO h181 h27 h103 hlk hm1 ⊢
      unfold fieldOk at c
      cases c1 : isName f.name with
      | false => simp (disch := omega) [-getElem?_pos, -getElem?_neg, -evExt, List.getElem?_cons_zero, List.getElem?_cons_succ, code99L0, h181, h27, h103, hlk, nltT, nltF, iltT, ileT, nleT, wrapI, hb, hpO, ht, ha, c1, UnitU.cells]
      | true =>
        cases c2 : isTy f.desc with
        | false => simp (disch := omega) [-getElem?_pos, -getElem?_neg, -evExt, List.getElem?_cons_zero, List.getElem?_cons_succ, code99L0, h181, h27, h103, hlk, nltT, nltF, iltT, ileT, nleT, wrapI, hb, hpO, ht, ha, c1, c2, UnitU.cells]
        | true =>
          cases c3 : thereS S f.desc with
          | false => simp (disch := omega) [-getElem?_pos, -getElem?_neg, -evExt, List.getElem?_cons_zero, List.getElem?_cons_succ, code99L0, h181, h27, h103, hlk, nltT, nltF, iltT, ileT, nleT, wrapI, hb, hpO, ht, ha, c1, c2, c3, UnitU.cells]
          | true =>
            cases c4 : (getE A f.name).getD false with
            | false => rw [c1, c2, c3, c4] at c; exact absurd rfl c
            | true => simp (disch := omega) [-getElem?_pos, -getElem?_neg, -evExt, List.getElem?_cons_zero, List.getElem?_cons_succ, code99L0, h181, h27, h103, hlk, nltT, nltF, iltT, ileT, nleT, wrapI, hb, hpO, ht, ha, c1, c2, c3, c4, UnitU.cells]

theorem mObj_set (h : World O N S F M V) : O.set (N + 2) (mObj keyF memF F) = O := by
  have := h.lt
  refine List.ext_getElem? fun i => ?_
  by_cases e : N + 2 = i
  · subst e; rw [List.getElem?_set, if_pos rfl, if_pos (by omega), h.m2]
  · rw [List.getElem?_set_ne e]

/-- A unit's fields are put. -/
theorem s99 {u : UnitU} (hu : u.ok os) (hp : Pre os O) (hN : os.length ≤ N) (h : World O N S F M V) (hb : b ≤ N) (hF : ∀ x ∈ F, x.1.1 ≠ u.name) :
    ∃ O' w', min w (N + 2) ≤ w' ∧ (fieldsS S [] u.fields = true → ∃ X, O' = O.set (N + 2) (mObj keyF memF (F ++ u.fields.map (fieldE u.name))) ++ X) ∧
      xCall T 99 [.ptr (some (N, 0)), .agg u.cells] ⟨O, b, w⟩ = some (.bool (fieldsS S [] u.fields), ⟨O', b, w'⟩) := by
  have hl := h.lt
  obtain ⟨O', w', e, s', r1, r2, hk⟩ := l99 hu hp hN h hb u.fields.length 0 F [] O.length (by omega) (by omega) (fun x hx hn => absurd hn (hF x hx)) (fun _ h => by cases h)
  rw [mObj_set h] at hk
  have hm0 : mObj AVal.str AVal.bool [] = .map [] 0 := rfl
  simp only [Int.cast_ofNat_Int, List.drop_zero, hm0] at hk r2
  by_cases c : fieldsS S [] u.fields = true
  · rw [if_pos c] at r2
    obtain ⟨rfl, rfl, q3, X, q4⟩ := r2
    rw [c]
    rcases q3 with q3 | ⟨q3, q5⟩
    · refine ⟨O', min w w', by omega, fun _ => ⟨X, q4⟩, ?_⟩
      unfold UnitU.cells at hk ⊢
      simp (disch := omega) [-getElem?_pos, -getElem?_neg, List.getElem?_cons_zero, List.getElem?_cons_succ, xCallK t99, code99, hk, nltT]
    · refine ⟨O, w, by omega, fun _ => ⟨[], by rw [q3, List.map_nil, List.append_nil, List.append_nil, mObj_set h]⟩, ?_⟩
      unfold UnitU.cells at hk ⊢
      simp (disch := omega) [-getElem?_pos, -getElem?_neg, List.getElem?_cons_zero, List.getElem?_cons_succ, xCallK t99, code99, hk, nltF]
  · rw [if_neg c] at r2
    obtain ⟨rfl, rfl⟩ := r2
    have c' : fieldsS S [] u.fields = false := by simpa using c
    rw [c']
    refine ⟨if w' < O.length then O' else O, if w' < O.length then min w w' else w, by split <;> omega, by simp, ?_⟩
    unfold UnitU.cells at hk ⊢
    simp (disch := omega) [-getElem?_pos, -getElem?_neg, List.getElem?_cons_zero, List.getElem?_cons_succ, xCallK t99, code99, hk]
    split <;> rfl

end Go.Abs.AbsHier

/-
  Layer 16: are the names of a method there?
-/
namespace Go.Abs.AbsHier
open Go.Abs.AbsDesc
set_option maxRecDepth 100000
set_option linter.unusedSimpArgs false
variable {os O : List AObj} {b w : Nat} {N : Nat} {S : List (Str × Str)} {F M : List (Key × Mem)} {V : List (Key × Bool)}

theorem methL_len {s : Str} {A : List Str} {r : Str} (h : methL s = some (A, r)) : A.length ≤ 16 ∧ r.length ≤ s.length ∧ ∀ t ∈ A, t.length ≤ s.length := by
  unfold methL at h
  split at h
  · split at h
    · rename_i A' r' hm
      split at h
      · cases h
        obtain ⟨h1, h2, h3⟩ := methA_len hm
        simp only [List.length_tail] at h2 h3
        exact ⟨h1, by simp only [List.length_tail]; omega, fun t ht => by have := h3 t ht; omega⟩
      · cases h
    · cases h
  · cases h

theorem l182 {H : List AObj} {L : List Str} {a : Option (Nat × Nat)} {c : Option Nat} {m : MethU} (h : World H N S F M V) (hR : Row H 1 strC L a) (hL : L.length ≤ 9223372036854775807) (ht : ∀ t ∈ L, t.length ≤ 9223372036854775807) :
    ∀ (j i : Nat) (w : Nat), i + j = L.length → ∀ (k : AExit → St → Option (AVal × Heap)),
    xK T (.loop code182L1) ⟨[(0, .val (.ptr (some (N, 0)))), (3, .var m.cells), (30, .val (.slice a L.length c)), (31, .val (.int .i64 L.length)), (32, .val (.int .i64 i))], ⟨H, b, w⟩⟩ (k := ⟨k⟩) =
      if (L.drop i).all (thereS S) then k (.exit 0) ⟨[(0, .val (.ptr (some (N, 0)))), (3, .var m.cells)], ⟨H, b, w⟩⟩ else k .ret ⟨[(4, .val (.bool false))], ⟨H, b, w⟩⟩
  | 0, i, w, hi, k => by
    rw [xK_loop, List.drop_of_length_le (by omega)]
    simp (disch := omega) [-getElem?_pos, -getElem?_neg, code182L1, iltF]
  | j + 1, i, w, hi, k => by
    obtain ⟨t, hx⟩ : ∃ t, L[i]? = some t := ⟨_, List.getElem?_eq_getElem (by omega)⟩
    obtain ⟨p, o, cs, rfl, hp, hpl, hcs, hv⟩ := row_at hR hx
    have hg : cs[o + i]? = some (.str t) := by
      have : (List.take 1 (List.drop (o + i * 1) cs))[0]? = some (.str t) := by rw [hv]; rfl
      simpa using this
    have hd : L.drop i = t :: L.drop (i + 1) := by
      have := lt_of_get hx
      rw [List.getElem?_eq_getElem this] at hx
      rw [List.drop_eq_getElem_cons this, Option.some.inj hx]
    have h103 := fun w => s103 (b := b) (w := w) h (t := t) (ht t (List.mem_of_getElem? hx))
    have ih := l182 (m := m) (c := c) h hR hL ht j (i + 1) w (by omega) k
    have e2 : ((i + 1 : Nat) : Int) = (i : Int) + 1 := by omega
    rw [e2] at ih
    rw [xK_loop, hd]
    simp only [List.all_cons]
    generalize ACode.loop code182L1 = L' at ih ⊢
    rcases Bool.eq_false_or_eq_true (thereS S t) with c1 | c1
    · simp (disch := omega) [-getElem?_pos, -getElem?_neg, List.getElem?_cons_zero, List.getElem?_cons_succ, code182L1, h103, iltT, ileT, nltT, nleT, wrapI, hp, hg, c1, ih]
    · simp (disch := omega) [-getElem?_pos, -getElem?_neg, List.getElem?_cons_zero, List.getElem?_cons_succ, code182L1, h103, iltT, ileT, nltT, nleT, wrapI, hp, hg, c1]

def trapOk (S : List (Str × Str)) (t : TrapU) : Bool := decide (t.cls = []) || (getE S t.cls).isSome

theorem l182t {H : List AObj} {L : List TrapU} {a : Option (Nat × Nat)} {c : Option Nat} (h : World H N S F M V) (hR : Row H 4 TrapU.cells L a) (hL : L.length ≤ 9223372036854775807) :
    ∀ (j i : Nat) (w : Nat), i + j = L.length → ∀ (k : AExit → St → Option (AVal × Heap)),
    xK T (.loop code182L0) ⟨[(0, .val (.ptr (some (N, 0)))), (42, .val (.slice a L.length c)), (43, .val (.int .i64 L.length)), (44, .val (.int .i64 i))], ⟨H, b, w⟩⟩ (k := ⟨k⟩) =
      if (L.drop i).all (trapOk S) then k (.exit 2) ⟨[], ⟨H, b, w⟩⟩ else k .ret ⟨[(4, .val (.bool false))], ⟨H, b, w⟩⟩
  | 0, i, w, hi, k => by
    rw [xK_loop, List.drop_of_length_le (by omega)]
    simp (disch := omega) [-getElem?_pos, -getElem?_neg, code182L0, iltF]
  | j + 1, i, w, hi, k => by
    obtain ⟨t, hx⟩ : ∃ t, L[i]? = some t := ⟨_, List.getElem?_eq_getElem (by omega)⟩
    obtain ⟨p, o, cs, rfl, hp, hpl, hcs, hv⟩ := row_at hR hx
    have hd : L.drop i = t :: L.drop (i + 1) := by
      have := lt_of_get hx
      rw [List.getElem?_eq_getElem this] at hx
      rw [List.drop_eq_getElem_cons this, Option.some.inj hx]
    have h54 := fun w => s54 (b := b) (w := w) h (c := t.cls)
    have ih := l182t (c := c) h hR hL j (i + 1) w (by omega) k
    have e2 : ((i + 1 : Nat) : Int) = (i : Int) + 1 := by omega
    rw [e2] at ih
    rw [xK_loop, hd]
    simp only [List.all_cons]
    generalize ACode.loop code182L0 = L' at ih ⊢
    unfold TrapU.cells at hv
    have ho : trapOk S t = (decide (t.cls = []) || (getE S t.cls).isSome) := rfl
    by_cases c0 : t.cls = []
    · have ho : trapOk S t = true := by rw [ho, c0]; rfl
      simp (disch := omega) [-getElem?_pos, -getElem?_neg, -List.all_eq_true, List.getElem?_cons_zero, List.getElem?_cons_succ, code182L0, iltT, ileT, nltT, nleT, wrapI, hp, hv, c0, ho, ih]
    · obtain ⟨x, c1⟩ | c1 : (∃ x, getE S t.cls = some x) ∨ getE S t.cls = none := by cases getE S t.cls <;> simp
      · have ho : trapOk S t = true := by rw [ho, c1]; simp
        simp (disch := omega) [-getElem?_pos, -getElem?_neg, -List.all_eq_true, List.getElem?_cons_zero, List.getElem?_cons_succ, code182L0, h54, iltT, ileT, nltT, nleT, wrapI, hp, hv, c0, c1, ho, ih]
      · have ho : trapOk S t = false := by rw [ho, c1]; simp [c0]
        simp (disch := omega) [-getElem?_pos, -getElem?_neg, -List.all_eq_true, List.getElem?_cons_zero, List.getElem?_cons_succ, code182L0, h54, iltT, ileT, nltT, nleT, wrapI, hp, hv, c0, c1, ho]

def rightS (S : List (Str × Str)) (m : MethU) : Bool := match methL m.desc with
  | some (A, r) => isName m.name && ((A ++ [r]).all (thereS S) && m.traps.all (trapOk S))
  | none => false

theorem s182 {m : MethU} (hm : m.ok O) (h : World O N S F M V) (hb : b ≤ O.length) : xCall T 182 [.ptr (some (N, 0)), .agg m.cells] ⟨O, b, w⟩ = some (.bool (rightS S m), ⟨O, b, w⟩) := by
  have hmd : m.desc.length ≤ 9223372036854775807 := hm.desc
  have h38 := fun w => s38 (os := O) (b := b) (w := w) (s := m.desc) hmd hb
  have hml : m.traps.length ≤ 9223372036854775807 := hm.tn
  unfold rightS
  cases hq : methL m.desc with
  | none =>
    rw [hq] at h38
    simp only [methV, methO] at h38
    unfold MethU.cells
    simp (disch := omega) [-getElem?_pos, -getElem?_neg, List.getElem?_cons_zero, List.getElem?_cons_succ, xCallK t182, code182, h38]
  | some q =>
    obtain ⟨A, r⟩ := q
    obtain ⟨q1, q2, q3⟩ := methL_len hq
    have h181 := fun w X (hX : b ≤ (O ++ X).length) => s181 (O := O ++ X) (b := b) (w := w) (s := m.name) hX
    simp only
    cases A with
    | nil =>
      rw [hq] at h38
      simp only [methV, methO] at h38
      have h181 := fun w => s181 (O := O) (b := b) (w := w) (s := m.name) hb
      have hl1 := fun w => l182 (b := b) (m := m) (c := none) (H := O ++ [.cells 1 [.str r], .cells 1 [.str r]]) (L := [r]) (a := some (O.length + 1, 0)) (h.app _)
        ⟨fun _ => ⟨_, _, _, rfl, by rw [get_k]; rfl, fun j x hx => by
          cases j with
          | zero => simp at hx; subst hx; simp [strC]
          | succ j => simp at hx⟩⟩ (by simp) (fun t ht => by simp at ht; subst ht; omega) 1 0 w rfl
      have hl2 := fun w => l182t (b := b) (c := m.tc) (H := O ++ [.cells 1 [.str r], .cells 1 [.str r]]) (a := m.ta) (h.app _) ((hm.pre (Pre.app _ _)).t) hml m.traps.length 0 w (by omega)
      simp only [Int.cast_ofNat_Int, List.drop_zero, List.length_singleton, List.length_cons, List.length_nil, Nat.zero_add, Int.natCast_one] at hl1 hl2
      simp only [List.nil_append]
      unfold MethU.cells at hl1 ⊢
      cases c0 : isName m.name with
      | false => simp (disch := omega) [-getElem?_pos, -getElem?_neg, List.getElem?_cons_zero, List.getElem?_cons_succ, -List.all_cons, -List.all_append, -List.all_eq_true, xCallK t182, code182, h38, h181, get_k, get_k0, set_k, set_k0, hb, c0, ]
      | true =>
        cases c1 : ([r] : List Str).all (thereS S) with
        | false =>
          simp only [c1, Bool.false_eq_true, if_false] at hl1
          simp (disch := omega) [-getElem?_pos, -getElem?_neg, List.getElem?_cons_zero, List.getElem?_cons_succ, -List.all_cons, -List.all_append, -List.all_eq_true, xCallK t182, code182, h38, h181, get_k, get_k0, set_k, set_k0, hb, c0, c1, hl1, ]
        | true =>
          simp only [c1, if_true] at hl1
          cases c2 : m.traps.all (trapOk S) with
          | false =>
            simp only [c2, Bool.false_eq_true, if_false] at hl2
            simp (disch := omega) [-getElem?_pos, -getElem?_neg, List.getElem?_cons_zero, List.getElem?_cons_succ, -List.all_cons, -List.all_append, -List.all_eq_true, xCallK t182, code182, h38, h181, get_k, get_k0, set_k, set_k0, hb, c0, c1, c2, hl1, hl2, ]
          | true =>
            simp only [c2, if_true] at hl2
            simp (disch := omega) [-getElem?_pos, -getElem?_neg, List.getElem?_cons_zero, List.getElem?_cons_succ, -List.all_cons, -List.all_append, -List.all_eq_true, xCallK t182, code182, h38, h181, get_k, get_k0, set_k, set_k0, hb, c0, c1, c2, hl1, hl2, ]
    | cons a A =>
      rw [hq] at h38
      simp only [methV, methO] at h38
      have h181 := fun w => s181 (O := O ++ [.cells 1 ((a :: A).map AVal.str)]) (b := b) (w := w) (s := m.name) (by simp; omega)
      have hAl : A.length + 1 ≤ 16 := by simpa using q1
      have hl1 := fun w => l182 (b := b) (m := m) (c := none) (H := O ++ [.dead, .cells 1 [.str r], .cells 1 ((a :: A).map AVal.str ++ [.str r])]) (L := a :: A ++ [r]) (a := some (O.length + 2, 0)) (h.app _)
        (Row.mk0 (fun _ => rfl) (by rw [get_k, List.flatMap_append, flat_strs]; rfl)) (by simp; omega) (fun t ht => by
          rcases List.mem_append.1 ht with ht | ht
          · have := q3 t ht; omega
          · simp at ht; subst ht; omega) (A.length + 2) 0 w (by simp)
      have hl2 := fun w => l182t (b := b) (c := m.tc) (H := O ++ [.dead, .cells 1 [.str r], .cells 1 ((a :: A).map AVal.str ++ [.str r])]) (a := m.ta) (h.app _) ((hm.pre (Pre.app _ _)).t) hml m.traps.length 0 w (by omega)
      simp only [Int.cast_ofNat_Int, List.drop_zero, List.length_append, List.length_cons, List.length_nil, Nat.add_assoc, Nat.reduceAdd] at hl1 hl2
      have hC : ((a :: A).map AVal.str).length = A.length + 1 := by simp
      have hT : ((a :: A).map AVal.str).take (A.length + 1) = (a :: A).map AVal.str := List.take_of_length_le (by simp)
      have z1 : (A.length + 2) * 16 ≤ 140737488355328 := by omega
      have z2 : A.length ≤ 9223372036854775805 := by omega
      have hi2 : ((A.length + 2 : Nat) : Int) = (A.length : Int) + 2 := by omega
      rw [hi2] at hl1
      generalize (a :: A).map AVal.str = C at h38 h181 hl1 hl2 hC hT
      generalize a :: A ++ [r] = L at hl1 ⊢
      unfold MethU.cells at hl1 ⊢
      cases c0 : isName m.name with
      | false => simp (disch := omega) [-getElem?_pos, -getElem?_neg, List.getElem?_cons_zero, List.getElem?_cons_succ, -List.all_cons, -List.all_append, -List.all_eq_true, xCallK t182, code182, h38, h181, get_k, get_k0, set_k, set_k0, hb, c0, hAl, hC, hT, z1, z2, nltT, nltF, Nat.add_assoc]
      | true =>
        cases c1 : L.all (thereS S) with
        | false =>
          simp only [c1, Bool.false_eq_true, if_false] at hl1
          simp (disch := omega) [-getElem?_pos, -getElem?_neg, List.getElem?_cons_zero, List.getElem?_cons_succ, -List.all_cons, -List.all_append, -List.all_eq_true, xCallK t182, code182, h38, h181, get_k, get_k0, set_k, set_k0, hb, c0, c1, hl1, hAl, hC, hT, z1, z2, nltT, nltF, Nat.add_assoc]
        | true =>
          simp only [c1, if_true] at hl1
          cases c2 : m.traps.all (trapOk S) with
          | false =>
            simp only [c2, Bool.false_eq_true, if_false] at hl2
            simp (disch := omega) [-getElem?_pos, -getElem?_neg, List.getElem?_cons_zero, List.getElem?_cons_succ, -List.all_cons, -List.all_append, -List.all_eq_true, xCallK t182, code182, h38, h181, get_k, get_k0, set_k, set_k0, hb, c0, c1, c2, hl1, hl2, hAl, hC, hT, z1, z2, nltT, nltF, Nat.add_assoc]
          | true =>
            simp only [c2, if_true] at hl2
            simp (disch := omega) [-getElem?_pos, -getElem?_neg, List.getElem?_cons_zero, List.getElem?_cons_succ, -List.all_cons, -List.all_append, -List.all_eq_true, xCallK t182, code182, h38, h181, get_k, get_k0, set_k, set_k0, hb, c0, c1, c2, hl1, hl2, hAl, hC, hT, z1, z2, nltT, nltF, Nat.add_assoc]

end Go.Abs.AbsHier

/-
  Layer 16: a unit's methods are put.
-/
namespace Go.Abs.AbsHier
open Go.Abs.AbsDesc
set_option maxRecDepth 100000
set_option linter.unusedSimpArgs false
variable {os O : List AObj} {b w : Nat} {N : Nat} {S : List (Str × Str)} {F M : List (Key × Mem)} {V : List (Key × Bool)}

def methE (c : Str) (m : MethU) : Key × Mem := ((c, m.name, m.desc), ⟨c, m.st⟩)
def methOk (S : List (Str × Str)) (M : List (Key × Mem)) (c : Str) (m : MethU) : Bool := !(getE M (c, m.name, m.desc)).isSome && rightS S m

def methsS (S : List (Str × Str)) (c : Str) : List (Key × Mem) → List MethU → Bool
  | _, [] => true
  | M, m :: r => methOk S M c m && methsS S c (M ++ [methE c m]) r

theorem l100 {u : UnitU} (hu : u.ok os) (hp : Pre os O) (hN : os.length ≤ N) (h : World O N S F M V) (hb : b ≤ N) : ∀ (j i : Nat) (M' : List (Key × Mem)) (w : Nat), i + j = u.meths.length → N + 3 ≤ w →
    ∃ M2 w' e s', N + 3 ≤ w' ∧ (if methsS S u.name M' (u.meths.drop i) then e = .exit 0 ∧ s' = [] ∧ (w' ≤ N + 3 ∨ (u.meths.drop i = [] ∧ w' = w)) ∧ M2 = M' ++ (u.meths.drop i).map (methE u.name) else e = .ret ∧ s' = [(4, .val (.bool false))]) ∧
      ∀ (k : AExit → St → Option (AVal × Heap)),
      xK T (.loop code100L0) ⟨[(0, .val (.ptr (some (N, 0)))), (3, .var u.cells), (11, .val (.slice u.ma u.meths.length u.mc)), (12, .val (.int .i64 u.meths.length)), (13, .val (.int .i64 i))],
        ⟨O.set (N + 3) (mObj keyF memF M'), b, w⟩⟩ (k := ⟨k⟩) = k e ⟨s', ⟨O.set (N + 3) (mObj keyF memF M2), b, w'⟩⟩
  | 0, i, M', w, hi, hw => by
    refine ⟨M', w, .exit 0, [], hw, ?_, fun k => ?_⟩
    · rw [List.drop_of_length_le (by omega)]
      simp only [methsS, if_true, List.map_nil, List.append_nil]
      exact ⟨trivial, trivial, .inr ⟨trivial, trivial⟩, trivial⟩
    · rw [xK_loop]
      simp (disch := omega) [-getElem?_pos, -getElem?_neg, code100L0, iltF]
  | j + 1, i, M', w, hi, hw => by
    obtain ⟨m, hm⟩ : ∃ m, u.meths[i]? = some m := ⟨_, List.getElem?_eq_getElem (by omega)⟩
    obtain ⟨p, o, cs, ha, hpp, hpl, hcs, ht⟩ := row_at hu.m hm
    have hmn : u.meths.length ≤ 9223372036854775807 := hu.mn
    have hd : u.meths.drop i = m :: u.meths.drop (i + 1) := by
      have := lt_of_get hm
      rw [List.getElem?_eq_getElem this] at hm
      rw [List.drop_eq_getElem_cons this, Option.some.inj hm]
    have hl := h.lt
    have hW := h.setM M'
    have hpO : (O.set (N + 3) (mObj keyF memF M'))[p]? = some (.cells 8 cs) := by
      rw [List.getElem?_set_ne (by omega)]; exact hp _ _ hpp
    have hbO : b ≤ (O.set (N + 3) (mObj keyF memF M')).length := by simp; omega
    have hmo : m.ok (O.set (N + 3) (mObj keyF memF M')) := (hu.mok m (List.mem_of_getElem? hm)).pre (hp.set _ (by omega))
    have h182 := fun w => s182 (b := b) (w := w) hmo hW hbO
    have hlk := fun w => lookup_ok (b := b) (w := w) (kn := .agg [.s, .s, .s]) (zero := .agg [.str [], .bool false]) keyKey hW.m3 (k := (u.name, m.name, m.desc)) rfl
    have hm1 := hW.w0
    have hml : m.cells.length = 8 := rfl
    have hup2 := fun w hg => upd_new (b := b) (w := w) (kn := .agg [.s, .s, .s]) keyKey hW.m3 (k := (u.name, m.name, m.desc)) ⟨u.name, m.st⟩ rfl (by omega) hg
    have hs2 : (O.set (N + 3) (mObj keyF memF M')).set (N + 3) (mObj keyF memF (M' ++ [((u.name, m.name, m.desc), ⟨u.name, m.st⟩)])) = O.set (N + 3) (mObj keyF memF (M' ++ [methE u.name m])) := by
      rw [List.set_set]; rfl
    simp only [hs2, keyF, memF] at hup2
    simp only [keyF] at hlk
    have hcm : m.cells = [.bool m.st, .str m.name, .str m.desc, .int .i64 m.stack, .int .i64 m.locals, .slice m.ca m.code.length m.cc, .slice m.ta m.traps.length m.tc, .slice m.xa m.maps.length m.xc] := rfl
    obtain ⟨y, hg⟩ | hg : (∃ y, getE M' (u.name, m.name, m.desc) = some y) ∨ getE M' (u.name, m.name, m.desc) = none := by cases getE M' (u.name, m.name, m.desc) <;> simp
    · rw [hg] at hlk
      simp only [Option.map_some, Option.getD_some, Option.isSome_some, memF] at hlk
      have hfl : methsS S u.name M' (u.meths.drop i) = false := by rw [hd]; simp [methsS, methOk, hg]
      rw [hfl]
      refine ⟨M', w, .ret, [(4, .val (.bool false))], hw, by simp, fun k => ?_⟩
      rw [xK_loop]
      generalize ACode.loop code100L0 = L
      generalize O.set (N + 3) (mObj keyF memF M') = H at hpO hW hbO h182 hlk hm1 ⊢
      rw [hcm] at h182 ht
      simp (disch := omega) [-getElem?_pos, -getElem?_neg, -evExt, List.getElem?_cons_zero, List.getElem?_cons_succ, code100L0, hlk, nltT, nltF, iltT, ileT, nleT, wrapI, hb, hpO, ht, ha, hm1, UnitU.cells]
    · rw [hg] at hlk
      have hup2 := fun w => hup2 w hg
      simp only [Option.map_none, Option.getD_none, Option.isSome_none] at hlk
      rcases Bool.eq_false_or_eq_true (rightS S m) with c | c
      · obtain ⟨M2, w', e, s', r1, r2, ih⟩ := l100 hu hp hN h hb j (i + 1) (M' ++ [methE u.name m]) (min w (N + 3)) (by omega) (by omega)
        refine ⟨M2, w', e, s', r1, ?_, fun k => ?_⟩
        · rw [hd]
          have c1 : methOk S M' u.name m = true := by simp [methOk, hg, c]
          simp only [methsS, c1, Bool.true_and]
          rw [List.map_cons]
          rw [List.append_assoc, List.singleton_append] at r2
          split at r2
          · rename_i hff
            obtain ⟨q1, q2, q3, q4⟩ := r2
            rw [if_pos hff]
            refine ⟨q1, q2, .inl ?_, q4⟩
            rcases q3 with q3 | ⟨_, q3⟩ <;> omega
          · rename_i hff
            rw [if_neg hff]; exact r2
        have ih := ih k
        have e2 : ((i + 1 : Nat) : Int) = (i : Int) + 1 := by omega
        rw [e2] at ih
        rw [xK_loop, ← ih]
        generalize ACode.loop code100L0 = L
        generalize O.set (N + 3) (mObj keyF memF M') = H at hpO hW hbO h182 hlk hm1 hup2 hs2 ⊢
        generalize O.set (N + 3) (mObj keyF memF (M' ++ [methE u.name m])) = H2 at hup2 hs2 ⊢
        rw [hcm] at h182 ht
        simp (disch := omega) [-getElem?_pos, -getElem?_neg, -evExt, List.getElem?_cons_zero, List.getElem?_cons_succ, code100L0, h182, hlk, hup2, c, nltT, nltF, iltT, ileT, nleT, wrapI, hb, hpO, ht, ha, hm1, UnitU.cells]
      · have hfl : methsS S u.name M' (u.meths.drop i) = false := by rw [hd]; simp [methsS, methOk, c]
        rw [hfl]
        refine ⟨M', w, .ret, [(4, .val (.bool false))], hw, by simp, fun k => ?_⟩
        rw [xK_loop]
        generalize ACode.loop code100L0 = L
        generalize O.set (N + 3) (mObj keyF memF M') = H at hpO hW hbO h182 hlk hm1 ⊢
        rw [hcm] at h182 ht
        simp (disch := omega) [-getElem?_pos, -getElem?_neg, -evExt, List.getElem?_cons_zero, List.getElem?_cons_succ, code100L0, h182, hlk, nltT, nltF, iltT, ileT, nleT, wrapI, hb, hpO, ht, ha, hm1, c, UnitU.cells]

theorem mObj_set3 (h : World O N S F M V) : O.set (N + 3) (mObj keyF memF M) = O := by
  have := h.lt
  refine List.ext_getElem? fun i => ?_
  by_cases e : N + 3 = i
  · subst e; rw [List.getElem?_set, if_pos rfl, if_pos (by omega), h.m3]
  · rw [List.getElem?_set_ne e]

/-- A unit's methods are put. -/
theorem s100 {u : UnitU} (hu : u.ok os) (hp : Pre os O) (hN : os.length ≤ N) (h : World O N S F M V) (hb : b ≤ N) :
    ∃ O' w', min w (N + 3) ≤ w' ∧ (methsS S u.name M u.meths = true → O' = O.set (N + 3) (mObj keyF memF (M ++ u.meths.map (methE u.name)))) ∧
      xCall T 100 [.ptr (some (N, 0)), .agg u.cells] ⟨O, b, w⟩ = some (.bool (methsS S u.name M u.meths), ⟨O', b, w'⟩) := by
  have hl := h.lt
  obtain ⟨M2, w', e, s', r1, r2, hk⟩ := l100 hu hp hN h hb u.meths.length 0 M O.length (by omega) (by omega)
  rw [mObj_set3 h] at hk
  simp only [Int.cast_ofNat_Int, List.drop_zero] at hk r2
  by_cases c : methsS S u.name M u.meths = true
  · rw [if_pos c] at r2
    obtain ⟨rfl, rfl, q3, q4⟩ := r2
    rw [c]
    rcases q3 with q3 | ⟨q3, q5⟩
    · refine ⟨O.set (N + 3) (mObj keyF memF M2), min w w', by omega, fun _ => by rw [q4], ?_⟩
      unfold UnitU.cells at hk ⊢
      simp (disch := omega) [-getElem?_pos, -getElem?_neg, List.getElem?_cons_zero, List.getElem?_cons_succ, xCallK t100, code100, hk, nltT]
    · refine ⟨O, w, by omega, fun _ => by rw [q3, List.map_nil, List.append_nil, mObj_set3 h], ?_⟩
      unfold UnitU.cells at hk ⊢
      simp (disch := omega) [-getElem?_pos, -getElem?_neg, List.getElem?_cons_zero, List.getElem?_cons_succ, xCallK t100, code100, hk, nltF]
  · rw [if_neg c] at r2
    obtain ⟨rfl, rfl⟩ := r2
    have c' : methsS S u.name M u.meths = false := by simpa using c
    rw [c']
    generalize O.set (N + 3) (mObj keyF memF M2) = O2 at hk
    refine ⟨if w' < O.length then O2 else O, if w' < O.length then min w w' else w, by split <;> omega, by simp, ?_⟩
    unfold UnitU.cells at hk ⊢
    simp (disch := omega) [-getElem?_pos, -getElem?_neg, List.getElem?_cons_zero, List.getElem?_cons_succ, xCallK t100, code100, hk]
    split <;> rfl

end Go.Abs.AbsHier

/-
  Layer 16: the world without units.
-/
namespace Go.Abs.AbsHier
open Go.Abs.AbsDesc
set_option maxRecDepth 100000
set_option linter.unusedSimpArgs false
variable {os O : List AObj} {b w : Nat} {N : Nat}

def sysT : Str := [115, 121, 115]
def throwT : Str := [84, 104, 114, 111, 119, 97, 98, 108, 101]
/-- The names of what is thrown by instructions. -/
def faultsL : List Str := [[78, 117, 108, 108, 70, 97, 117, 108, 116], [66, 111, 117, 110, 100, 115, 70, 97, 117, 108, 116], [77, 97, 116, 104, 70, 97, 117, 108, 116], [67, 97, 115, 116, 70, 97, 117, 108, 116], [83, 105, 122, 101, 70, 97, 117, 108, 116], [83, 116, 111, 114, 101, 70, 97, 117, 108, 116]]
/-- sys' methods. -/
def natL : List (Str × Str) := [([112, 114, 105, 110, 116], [40, 73, 41, 86]), ([112, 114, 105, 110, 116, 76, 111, 110, 103], [40, 74, 41, 86]), ([112, 114, 105, 110, 116, 84, 101, 120, 116], [40, 91, 66, 41, 86]), ([97, 100, 100], [40, 91, 66, 41, 73]),
  ([103, 101, 116], [40, 73, 41, 91, 66]), ([115, 101, 116], [40, 73, 91, 66, 41, 86]), ([100, 101, 108], [40, 73, 41, 86]), ([99, 111, 117, 110, 116], [40, 41, 73])]

def builtS : List (Str × Str) := [(objectT, []), (throwT, objectT), (sysT, objectT)] ++ faultsL.map fun n => (n, throwT)
def builtM : List (Key × Mem) := natL.map fun x => ((sysT, x.1, x.2), ⟨sysT, true⟩)
def builtV : List (Key × Bool) := natL.map fun x => ((sysT, x.1, x.2), true)

theorem s179 {h : Heap} : xCall T 179 [] h = some (.agg (natL.flatMap fun x => [.str x.1, .str x.2]), h) := by
  obtain ⟨os, b, w⟩ := h
  simp [xCallK t179, code179, natL]

def S0 : List (Str × Str) := [(objectT, []), (throwT, objectT), (sysT, objectT)]
def fE (n : Str) : Str × Str := (n, throwT)
def nE (x : Str × Str) : Key × Mem := ((sysT, x.1, x.2), ⟨sysT, true⟩)
def vE (x : Str × Str) : Key × Bool := ((sysT, x.1, x.2), true)

/-- Memory while it is made. -/
def bO (os : List AObj) (S : List (Str × Str)) (M : List (Key × Mem)) (V : List (Key × Bool)) : List AObj :=
  os ++ [mObj .str .str S, mObj keyF memF [], mObj keyF memF M, mObj keyF .bool V, .cells 4 [.map (some os.length), .map (some (os.length + 1)), .map (some (os.length + 2)), .map (some (os.length + 3))]]

theorem faults_new : ∀ i, i < 6 → getE (S0 ++ (faultsL.take i).map fE) (faultsL.getD i []) = none := by decide +kernel
theorem nats_newM : ∀ i, i < 8 → getE ((natL.take i).map nE) (sysT, (natL.getD i ([], [])).1, (natL.getD i ([], [])).2) = none := by decide +kernel
theorem nats_newV : ∀ i, i < 8 → getE ((natL.take i).map vE) (sysT, (natL.getD i ([], [])).1, (natL.getD i ([], [])).2) = none := by decide +kernel

theorem take_next {α : Type} {L : List α} {i : Nat} {x : α} (h : L[i]? = some x) : L.take (i + 1) = L.take i ++ [x] := by
  rw [List.take_add_one, h]; rfl

theorem bO_upS {S : List (Str × Str)} {M : List (Key × Mem)} {V : List (Key × Bool)} {x y : Str} (hb : b ≤ os.length) (hg : getE S x = none) :
    evExt (.mapupd (.one .s)) [.map (some os.length), .str x, .str y] ⟨bO os S M V, b, w⟩ = some (.tuple [], ⟨bO os (S ++ [(x, y)]) M V, b, min w os.length⟩) := by
  have := upd_new (os := bO os S M V) (b := b) (w := w) (r := os.length) (A := S) (vf := AVal.str) (kn := .one .s) keyStr (by unfold bO; rw [get_k0]; rfl) (k := x) y rfl hb hg
  rw [this]
  unfold bO
  rw [set_k0]; rfl

theorem bO_upM {S : List (Str × Str)} {M : List (Key × Mem)} {V : List (Key × Bool)} {x : Str × Str} (hb : b ≤ os.length) (hg : getE M (sysT, x.1, x.2) = none) :
    evExt (.mapupd (.agg [.s, .s, .s])) [.map (some (os.length + 2)), .agg [.str sysT, .str x.1, .str x.2], .agg [.str sysT, .bool true]] ⟨bO os S M V, b, w⟩ = some (.tuple [], ⟨bO os S (M ++ [nE x]) V, b, min w (os.length + 2)⟩) := by
  have := upd_new (os := bO os S M V) (b := b) (w := w) (r := os.length + 2) (A := M) (vf := memF) (kn := .agg [.s, .s, .s]) keyKey (by unfold bO; rw [get_k]; rfl) (k := (sysT, x.1, x.2)) ⟨sysT, true⟩ rfl (by omega) hg
  rw [show AVal.agg [.str sysT, .str x.1, .str x.2] = keyF (sysT, x.1, x.2) from rfl, show AVal.agg [.str sysT, .bool true] = memF ⟨sysT, true⟩ from rfl, this]
  unfold bO
  rw [set_k]; rfl

theorem bO_upV {S : List (Str × Str)} {M : List (Key × Mem)} {V : List (Key × Bool)} {x : Str × Str} (hb : b ≤ os.length) (hg : getE V (sysT, x.1, x.2) = none) :
    evExt (.mapupd (.agg [.s, .s, .s])) [.map (some (os.length + 3)), .agg [.str sysT, .str x.1, .str x.2], .bool true] ⟨bO os S M V, b, w⟩ = some (.tuple [], ⟨bO os S M (V ++ [vE x]), b, min w (os.length + 3)⟩) := by
  have := upd_new (os := bO os S M V) (b := b) (w := w) (r := os.length + 3) (A := V) (vf := AVal.bool) (kn := .agg [.s, .s, .s]) keyKey (by unfold bO; rw [get_k]; rfl) (k := (sysT, x.1, x.2)) true rfl (by omega) hg
  rw [show AVal.agg [.str sysT, .str x.1, .str x.2] = keyF (sysT, x.1, x.2) from rfl, this]
  unfold bO
  rw [set_k]; rfl

theorem bO_w {S : List (Str × Str)} {M : List (Key × Mem)} {V : List (Key × Bool)} : (bO os S M V)[os.length + 4]? = some (.cells 4 [.map (some os.length), .map (some (os.length + 1)), .map (some (os.length + 2)), .map (some (os.length + 3))]) := by
  unfold bO; rw [get_k]; rfl

theorem l284a (hb : b ≤ os.length) : ∀ (j i : Nat) (w : Nat), i + j = 6 → os.length ≤ w → ∃ w', os.length ≤ w' ∧ ∀ (k : AExit → St → Option (AVal × Heap)),
    xK T (.loop code284L1) ⟨[(1, .val (.ptr (some (os.length + 4, 0)))), (14, .val (.agg (faultsL.map AVal.str))), (15, .val (.int .i64 i))], ⟨bO os (S0 ++ (faultsL.take i).map fE) [] [], b, w⟩⟩ (k := ⟨k⟩) =
      k (.exit 0) ⟨[(1, .val (.ptr (some (os.length + 4, 0))))], ⟨bO os (S0 ++ faultsL.map fE) [] [], b, w'⟩⟩
  | 0, i, w, hi, hw => by
    refine ⟨w, hw, fun k => ?_⟩
    have : i = 6 := by omega
    subst this
    rw [xK_loop, List.take_of_length_le (by decide)]
    simp (disch := omega) [-getElem?_pos, -getElem?_neg, code284L1, iltF]
  | j + 1, i, w, hi, hw => by
    obtain ⟨x, hx⟩ : ∃ x, faultsL[i]? = some x := ⟨_, List.getElem?_eq_getElem (show i < faultsL.length by rw [show faultsL.length = 6 from rfl]; omega)⟩
    have hn := faults_new i (by omega)
    rw [List.getD_eq_getElem?_getD, hx, Option.getD_some] at hn
    have hup := fun w => bO_upS (w := w) (M := []) (V := []) (y := throwT) hb hn
    have ht := take_next hx
    have e3 : S0 ++ (faultsL.take i).map fE ++ [(x, throwT)] = S0 ++ (faultsL.take (i + 1)).map fE := by rw [ht, List.map_append, List.append_assoc]; rfl
    rw [e3] at hup
    unfold throwT at hup
    obtain ⟨w', hw', ih⟩ := l284a hb j (i + 1) (min w os.length) (by omega) (by omega)
    refine ⟨w', hw', fun k => ?_⟩
    have ih := ih k
    have e2 : ((i + 1 : Nat) : Int) = (i : Int) + 1 := by omega
    rw [e2] at ih
    have hwo := bO_w (os := os) (S := S0 ++ (faultsL.take i).map fE) (M := []) (V := [])
    have hxs : (faultsL.map AVal.str)[i]? = some (.str x) := by rw [List.getElem?_map, hx]; rfl
    rw [xK_loop, ← ih]
    generalize ACode.loop code284L1 = L
    generalize faultsL.map AVal.str = fs at hxs ⊢
    generalize bO os (S0 ++ (faultsL.take i).map fE) [] [] = H at hup hwo ⊢
    generalize bO os (S0 ++ (faultsL.take (i + 1)).map fE) [] [] = H2 at hup ⊢
    simp (disch := omega) [-getElem?_pos, -getElem?_neg, -evExt, List.getElem?_cons_zero, List.getElem?_cons_succ, code284L1, hup, hwo, hxs, iltT, ileT, nltT, nltF, nleT, wrapI]

theorem l284b {S : List (Str × Str)} (hb : b ≤ os.length) : ∀ (j i : Nat) (w : Nat), i + j = 8 → os.length ≤ w → ∃ w', os.length ≤ w' ∧ ∀ (k : AExit → St → Option (AVal × Heap)),
    xK T (.loop code284L0) ⟨[(1, .val (.ptr (some (os.length + 4, 0)))), (24, .val (.agg (natL.flatMap fun x => [.str x.1, .str x.2]))), (25, .val (.int .i64 i))], ⟨bO os S ((natL.take i).map nE) ((natL.take i).map vE), b, w⟩⟩ (k := ⟨k⟩) =
      k (.exit 2) ⟨[(1, .val (.ptr (some (os.length + 4, 0))))], ⟨bO os S (natL.map nE) (natL.map vE), b, w'⟩⟩
  | 0, i, w, hi, hw => by
    refine ⟨w, hw, fun k => ?_⟩
    have : i = 8 := by omega
    subst this
    rw [xK_loop, List.take_of_length_le (by decide)]
    simp (disch := omega) [-getElem?_pos, -getElem?_neg, code284L0, iltF]
  | j + 1, i, w, hi, hw => by
    obtain ⟨x, hx⟩ : ∃ x, natL[i]? = some x := ⟨_, List.getElem?_eq_getElem (show i < natL.length by rw [show natL.length = 8 from rfl]; omega)⟩
    have hn := nats_newM i (by omega)
    rw [List.getD_eq_getElem?_getD, hx, Option.getD_some] at hn
    have hn2 := nats_newV i (by omega)
    rw [List.getD_eq_getElem?_getD, hx, Option.getD_some] at hn2
    have hup := fun w => bO_upM (w := w) (S := S) (V := (natL.take i).map vE) hb hn
    have hup2 := fun w => bO_upV (w := w) (S := S) (M := (natL.take (i + 1)).map nE) hb hn2
    have ht := take_next hx
    have e3 : (natL.take i).map nE ++ [nE x] = (natL.take (i + 1)).map nE := by rw [ht, List.map_append]; rfl
    have e4 : (natL.take i).map vE ++ [vE x] = (natL.take (i + 1)).map vE := by rw [ht, List.map_append]; rfl
    rw [e3] at hup
    rw [e4] at hup2
    unfold sysT at hup hup2
    obtain ⟨w', hw', ih⟩ := l284b (S := S) hb j (i + 1) (min (min w (os.length + 2)) (os.length + 3)) (by omega) (by omega)
    refine ⟨w', hw', fun k => ?_⟩
    have ih := ih k
    have e2 : ((i + 1 : Nat) : Int) = (i : Int) + 1 := by omega
    rw [e2] at ih
    have hwo := bO_w (os := os) (S := S) (M := (natL.take i).map nE) (V := (natL.take i).map vE)
    have hwo2 := bO_w (os := os) (S := S) (M := (natL.take (i + 1)).map nE) (V := (natL.take i).map vE)
    obtain ⟨hx1, hx2⟩ := flat_at (fun x : Str × Str => [AVal.str x.1, AVal.str x.2]) 2 (fun _ => rfl) natL i x hx
    have hln : (natL.flatMap fun x : Str × Str => [AVal.str x.1, AVal.str x.2]).length = 16 := rfl
    rw [xK_loop, ← ih]
    generalize ACode.loop code284L0 = L
    generalize (natL.flatMap fun x : Str × Str => [AVal.str x.1, AVal.str x.2]) = fs at hx1 hx2 hln ⊢
    generalize bO os S ((natL.take i).map nE) ((natL.take i).map vE) = H at hup hwo ⊢
    generalize bO os S ((natL.take (i + 1)).map nE) ((natL.take i).map vE) = H2 at hup hup2 hwo2 ⊢
    generalize bO os S ((natL.take (i + 1)).map nE) ((natL.take (i + 1)).map vE) = H3 at hup2 ⊢
    simp (disch := omega) [-getElem?_pos, -getElem?_neg, -evExt, List.getElem?_cons_zero, List.getElem?_cons_succ, code284L0, hup, hup2, hwo, hwo2, hx2, iltT, ileT, nltT, nltF, nleT, wrapI]

theorem ents_ids {κ ν : Type} {kf : κ → AVal} {vf : ν → AVal} (hk : ∀ k, (kf k).ids = []) (hv : ∀ v, (vf v).ids = []) : ∀ (A : List (κ × ν)) (i : Nat), ((ents kf vf i A).flatMap fun (k, v, _) => k.ids ++ v.ids) = []
  | [], _ => rfl
  | x :: A, i => by simp only [ents, List.flatMap_cons, hk, hv, ents_ids hk hv A (i + 1), List.append_nil]
theorem ents_ren {κ ν : Type} {kf : κ → AVal} {vf : ν → AVal} {f : Nat → Nat} (hk : ∀ k, (kf k).ren f = kf k) (hv : ∀ v, (vf v).ren f = vf v) : ∀ (A : List (κ × ν)) (i : Nat), ((ents kf vf i A).map fun (k, v, b) => (k.ren f, v.ren f, b)) = ents kf vf i A
  | [], _ => rfl
  | x :: A, i => by simp only [ents, List.map_cons, hk, hv, ents_ren hk hv A (i + 1)]

theorem mObj_ids {κ ν : Type} {kf : κ → AVal} {vf : ν → AVal} (hk : ∀ k, (kf k).ids = []) (hv : ∀ v, (vf v).ids = []) (A : List (κ × ν)) : (mObj kf vf A).ids = [] := by
  simp only [mObj, AObj.ids]; exact ents_ids hk hv A 0
theorem mObj_ren {κ ν : Type} {kf : κ → AVal} {vf : ν → AVal} {f : Nat → Nat} (hk : ∀ k, (kf k).ren f = kf k) (hv : ∀ v, (vf v).ren f = vf v) (A : List (κ × ν)) : (mObj kf vf A).ren f = mObj kf vf A := by
  simp only [mObj, AObj.ren, ents_ren hk hv A 0]

theorem idsS (A : List (Str × Str)) : (mObj AVal.str AVal.str A).ids = [] := mObj_ids (fun _ => rfl) (fun _ => rfl) A
theorem idsM (A : List (Key × Mem)) : (mObj keyF memF A).ids = [] := mObj_ids (fun _ => rfl) (fun _ => rfl) A
theorem idsV (A : List (Key × Bool)) : (mObj keyF AVal.bool A).ids = [] := mObj_ids (fun _ => rfl) (fun _ => rfl) A
theorem renS (f : Nat → Nat) (A : List (Str × Str)) : (mObj AVal.str AVal.str A).ren f = mObj AVal.str AVal.str A := mObj_ren (fun _ => rfl) (fun _ => rfl) A
theorem renM (f : Nat → Nat) (A : List (Key × Mem)) : (mObj keyF memF A).ren f = mObj keyF memF A := mObj_ren (fun _ => rfl) (fun _ => rfl) A
theorem renV (f : Nat → Nat) (A : List (Key × Bool)) : (mObj keyF AVal.bool A).ren f = mObj keyF AVal.bool A := mObj_ren (fun _ => rfl) (fun _ => rfl) A

/-- A world behind what is there. -/
def wO (os : List AObj) (S : List (Str × Str)) (F M : List (Key × Mem)) (V : List (Key × Bool)) : List AObj :=
  os ++ [.cells 4 [.map (some (os.length + 1)), .map (some (os.length + 2)), .map (some (os.length + 3)), .map (some (os.length + 4))], mObj .str .str S, mObj keyF memF F, mObj keyF memF M, mObj keyF .bool V]

theorem wO_world (os : List AObj) (S : List (Str × Str)) (F M : List (Key × Mem)) (V : List (Key × Bool)) : World (wO os S F M V) os.length S F M V := by
  unfold wO
  constructor
  · rw [get_k0]; rfl
  · rw [get_k]; rfl
  · rw [get_k]; rfl
  · rw [get_k]; rfl
  · rw [get_k]; rfl

theorem built_fin {S : List (Str × Str)} {M : List (Key × Mem)} {V : List (Key × Bool)} {w2 : Nat} (hw : os.length ≤ w2) :
    finish ⟨os, b, w⟩ (.ptr (some (os.length + 4, 0))) ⟨bO os S M V, b, w2⟩ = (.ptr (some (os.length, 0)), ⟨wO os S [] M V, b, w⟩) := by
  have g4 := bO_w (os := os) (S := S) (M := M) (V := V)
  have g0 : (bO os S M V)[os.length]? = some (mObj .str .str S) := by unfold bO; rw [get_k0]; rfl
  have g1 : (bO os S M V)[os.length + 1]? = some (mObj keyF memF []) := by unfold bO; rw [get_k]; rfl
  have g2 : (bO os S M V)[os.length + 2]? = some (mObj keyF memF M) := by unfold bO; rw [get_k]; rfl
  have g3 : (bO os S M V)[os.length + 3]? = some (mObj keyF .bool V) := by unfold bO; rw [get_k]; rfl
  have idsC : ∀ e cs, (AObj.cells e cs).ids = AVal.idsL cs := fun _ _ => rfl
  have renC : ∀ (f : Nat → Nat) e cs, (AObj.cells e cs).ren f = .cells e (AVal.renL f cs) := fun _ _ _ => rfl
  have hr : reach ⟨bO os S M V, b, w2⟩ os.length 1000 [os.length + 4] [] = [os.length + 4, os.length, os.length + 1, os.length + 2, os.length + 3] := by
    simp (disch := omega) [-getElem?_pos, -getElem?_neg, -AObj.ids, reach_step, reach_done, nltF, g0, g1, g2, g3, g4, idsS, idsM, idsV, idsC]
  have hv : AVal.under os.length (.ptr (some (os.length + 4, 0))) = false := by simp [AVal.under]
  have hw2 : (⟨os, b, w⟩ : Heap).size ≤ (⟨bO os S M V, b, w2⟩ : Heap).wmin := hw
  refine (finish_keep hw2 hv hr fun i hi => ?_).trans ?_
  · simp (disch := omega) only [AVal.ids, List.flatMap_cons, List.flatMap_nil, List.map_cons, Heap.get, g0, g1, g2, g3, g4, idsS, idsM, idsV, idsC, Option.map_some, Option.getD_some, List.cons_append, List.nil_append, List.append_nil, AVal.idsL, List.mem_cons, List.not_mem_nil, or_false] at hi ⊢
    omega
  · simp (disch := omega) [-getElem?_pos, -getElem?_neg, -AObj.ids, -AObj.ren, nltF, g0, g1, g2, g3, g4, renS, renM, renV, renC, wO]

theorem s284 (hb : b ≤ os.length) : xCall T 284 [] ⟨os, b, w⟩ = some (.ptr (some (os.length, 0)), ⟨wO os builtS [] builtM builtV, b, w⟩) := by
  obtain ⟨w1, hw1, hk1⟩ := l284a (os := os) hb 6 0 os.length rfl (Nat.le_refl _)
  have e1 : S0 ++ faultsL.map fE = builtS := rfl
  rw [e1] at hk1
  obtain ⟨w2, hw2, hk2⟩ := l284b (os := os) (S := builtS) hb 8 0 w1 rfl hw1
  simp only [Int.cast_ofNat_Int, List.take_zero, List.map_nil, List.append_nil] at hk1 hk2
  have g0 : (bO os builtS (natL.map nE) (natL.map vE)) = bO os builtS builtM builtV := rfl
  rw [g0] at hk2
  have hfin := built_fin (b := b) (w := w) (S := builtS) (M := builtM) (V := builtV) hw2
  have h179 := fun h => s179 (h := h)
  generalize hH1 : bO os builtS [] [] = H1 at hk1 hk2
  generalize (natL.flatMap fun x : Str × Str => [AVal.str x.1, AVal.str x.2]) = fs at hk2 h179
  have hS0 : bO os S0 [] [] = os ++ [.map [(.str [79, 98, 106, 101, 99, 116], .str [], 0), (.str [84, 104, 114, 111, 119, 97, 98, 108, 101], .str [79, 98, 106, 101, 99, 116], 1), (.str [115, 121, 115], .str [79, 98, 106, 101, 99, 116], 2)] 3, .map [] 0, .map [] 0, .map [] 0,
    .cells 4 [.map (some os.length), .map (some (os.length + 1)), .map (some (os.length + 2)), .map (some (os.length + 3))]] := rfl
  have hfl : faultsL.map AVal.str = [.str [78, 117, 108, 108, 70, 97, 117, 108, 116], .str [66, 111, 117, 110, 100, 115, 70, 97, 117, 108, 116], .str [77, 97, 116, 104, 70, 97, 117, 108, 116], .str [67, 97, 115, 116, 70, 97, 117, 108, 116], .str [83, 105, 122, 101, 70, 97, 117, 108, 116], .str [83, 116, 111, 114, 101, 70, 97, 117, 108, 116]] := rfl
  rw [hS0, hfl] at hk1
  simp (disch := omega) [-getElem?_pos, -getElem?_neg, -finish, List.getElem?_cons_zero, List.getElem?_cons_succ, xCallK t284, code284, hk1, hk2, hfin, h179, get_k, get_k0, set_k, set_k0, hb, findA, akey, akey1, isKey, CK.is, Nat.add_assoc]

end Go.Abs.AbsHier

/-
  Layer 16: a world of units.
-/
namespace Go.Abs.AbsHier
open Go.Abs.AbsDesc
set_option maxRecDepth 100000
set_option linter.unusedSimpArgs false
variable {os O : List AObj} {b w : Nat} {N : Nat} {S : List (Str × Str)} {F M : List (Key × Mem)} {V : List (Key × Bool)}

theorem idsC (e : Nat) (cs : List AVal) : (AObj.cells e cs).ids = AVal.idsL cs := rfl
theorem renC (f : Nat → Nat) (e : Nat) (cs : List AVal) : (AObj.cells e cs).ren f = .cells e (AVal.renL f cs) := rfl

theorem world_fin (h : World O os.length S F M V) (w0 : Nat) {w2 : Nat} (hw : os.length ≤ w2) :
    finish ⟨os, b, w0⟩ (.tuple [.ptr (some (os.length, 0)), .int .i64 0]) ⟨O, b, w2⟩ = (.tuple [.ptr (some (os.length, 0)), .int .i64 0], ⟨wO os S F M V, b, w0⟩) := by
  have g0 := h.w0
  have g1 := h.m1
  have g2 := h.m2
  have g3 := h.m3
  have g4 := h.m4
  have hr : reach ⟨O, b, w2⟩ os.length 1000 [os.length] [] = [os.length, os.length + 1, os.length + 2, os.length + 3, os.length + 4] := by
    simp (disch := omega) [-getElem?_pos, -getElem?_neg, -AObj.ids, reach_step, reach_done, nltF, g0, g1, g2, g3, g4, idsS, idsM, idsV, idsC]
  have hv : AVal.under os.length (.tuple [.ptr (some (os.length, 0)), .int .i64 0]) = false := by simp [AVal.under]
  have hw2 : (⟨os, b, w0⟩ : Heap).size ≤ (⟨O, b, w2⟩ : Heap).wmin := hw
  refine (finish_keep hw2 hv hr fun i hi => ?_).trans ?_
  · simp (disch := omega) only [AVal.ids, List.flatMap_cons, List.flatMap_nil, List.map_cons, Heap.get, g0, g1, g2, g3, g4, idsS, idsM, idsV, idsC, Option.map_some, Option.getD_some, List.cons_append, List.nil_append, List.append_nil, AVal.idsL, List.mem_cons, List.not_mem_nil, or_false] at hi ⊢
    omega
  · simp (disch := omega) [-getElem?_pos, -getElem?_neg, -AObj.ids, -AObj.ren, nltF, g0, g1, g2, g3, g4, renS, renM, renV, renC, wO]

/-! ## The classes -/

def superOk (S : List (Str × Str)) (u : UnitU) : Bool := !(getE S u.name).isSome && isClass u.name && !decide (u.super = sysT)

def supersS : List (Str × Str) → List UnitU → Option (List (Str × Str))
  | S, [] => some S
  | S, u :: r => if superOk S u then supersS (S ++ [(u.name, u.super)]) r else none

theorem wO_upS {x y : Str} (hb : b ≤ os.length) (hg : getE S x = none) :
    evExt (.mapupd (.one .s)) [.map (some (os.length + 1)), .str x, .str y] ⟨wO os S F M V, b, w⟩ = some (.tuple [], ⟨wO os (S ++ [(x, y)]) F M V, b, min w (os.length + 1)⟩) := by
  have := upd_new (os := wO os S F M V) (b := b) (w := w) (r := os.length + 1) (A := S) (vf := AVal.str) (kn := .one .s) keyStr (wO_world os S F M V).m1 (k := x) y rfl (by omega) hg
  rw [this]
  unfold wO
  rw [set_k]; rfl

theorem wO_pre (os : List AObj) (S : List (Str × Str)) (F M : List (Key × Mem)) (V : List (Key × Bool)) : Pre os (wO os S F M V) := Pre.app _ _

abbrev slotL (a : Option (Nat × Nat)) (n : Nat) (c : Option Nat) : AVal := .slice a n c

theorem l49a {l : List UnitU} {a : Option (Nat × Nat)} {c : Option Nat} (hR : Row os 4 UnitU.cells l a) (hl : l.length ≤ 32) (hb : b ≤ os.length) : ∀ (j i : Nat) (S : List (Str × Str)) (w : Nat), i + j = l.length → os.length ≤ w →
    ∃ S' w' e s', os.length ≤ w' ∧ (match supersS S (l.drop i) with
      | some S2 => S' = S2 ∧ e = .exit 0 ∧ s' = [(0, .val (.slice a l.length c)), (4, .val (.ptr (some (os.length, 0))))]
      | none => e = .ret ∧ s' = [(2, .val (.ptr none)), (3, .val (.int .i64 15))]) ∧ ∀ (k : AExit → St → Option (AVal × Heap)),
      xK T (.loop code49L2) ⟨[(0, .val (.slice a l.length c)), (4, .val (.ptr (some (os.length, 0)))), (15, .val (.slice a l.length c)), (16, .val (.int .i64 l.length)), (17, .val (.int .i64 i))], ⟨wO os S F M V, b, w⟩⟩ (k := ⟨k⟩) =
      k e ⟨s', ⟨wO os S' F M V, b, w'⟩⟩
  | 0, i, S, w, hi, hw => by
    refine ⟨S, w, .exit 0, [(0, .val (.slice a l.length c)), (4, .val (.ptr (some (os.length, 0))))], hw, ?_, fun k => ?_⟩
    · rw [List.drop_of_length_le (by omega)]
      exact ⟨rfl, rfl, rfl⟩
    · rw [xK_loop]
      simp (disch := omega) [-getElem?_pos, -getElem?_neg, code49L2, iltF]
  | j + 1, i, S, w, hi, hw => by
    obtain ⟨u, hu⟩ : ∃ u, l[i]? = some u := ⟨_, List.getElem?_eq_getElem (by omega)⟩
    obtain ⟨p, o, cs, rfl, hpp, hpl, hcs, ht⟩ := row_at hR hu
    have hd : l.drop i = u :: l.drop (i + 1) := by
      have := lt_of_get hu
      rw [List.getElem?_eq_getElem this] at hu
      rw [List.drop_eq_getElem_cons this, Option.some.inj hu]
    have hW := wO_world os S F M V
    have hpO := wO_pre os S F M V _ _ hpp
    have hbO : b ≤ (wO os S F M V).length := by simp [wO]; omega
    have h54 := fun w => s54 (b := b) (w := w) hW (c := u.name)
    have h25 := fun w => s25 (os := wO os S F M V) (b := b) (w := w) (s := u.name) hbO
    have hup := fun w hg => wO_upS (S := S) (F := F) (M := M) (V := V) (w := w) (x := u.name) (y := u.super) hb hg
    have hw0 := hW.w0
    have hcu : u.cells = [.str u.name, .str u.super, .slice u.fa u.fields.length u.fc, .slice u.ma u.meths.length u.mc] := rfl
    rw [hcu] at ht
    rw [hd]
    rcases Bool.eq_false_or_eq_true (superOk S u) with c0 | c0
    · have hc := c0
      unfold superOk sysT at hc
      simp only [Bool.and_eq_true, Bool.not_eq_true', decide_eq_false_iff_not] at hc
      obtain ⟨⟨c1, c2⟩, c3⟩ := hc
      have hg : getE S u.name = none := by simpa using c1
      have hup := fun w => hup w hg
      obtain ⟨S', w', e, s', r1, r2, ih⟩ := l49a (c := c) hR hl hb j (i + 1) (S ++ [(u.name, u.super)]) (min w (os.length + 1)) (by omega) (by omega)
      refine ⟨S', w', e, s', r1, by simp only [supersS, c0, if_true]; exact r2, fun k => ?_⟩
      have ih := ih k
      have e2 : ((i + 1 : Nat) : Int) = (i : Int) + 1 := by omega
      rw [e2] at ih
      rw [xK_loop, ← ih]
      generalize ACode.loop code49L2 = L
      generalize wO os (S ++ [(u.name, u.super)]) F M V = H2 at hup ⊢
      generalize wO os S F M V = H at hpO h54 h25 hup hw0 ⊢
      simp (disch := omega) [-getElem?_pos, -getElem?_neg, -evExt, List.getElem?_cons_zero, List.getElem?_cons_succ, code49L2, h54, h25, hup, hw0, nltT, nltF, iltT, ileT, nleT, wrapI, hpO, ht, hg, c2, c3]
    · refine ⟨S, w, .ret, [(2, .val (.ptr none)), (3, .val (.int .i64 15))], hw, by simp only [supersS, c0]; exact ⟨trivial, trivial⟩, fun k => ?_⟩
      unfold superOk sysT at c0
      rw [xK_loop]
      generalize ACode.loop code49L2 = L
      generalize wO os S F M V = H at hpO h54 h25 hw0 ⊢
      cases c1 : (getE S u.name).isSome with
      | true => simp (disch := omega) [-getElem?_pos, -getElem?_neg, -evExt, List.getElem?_cons_zero, List.getElem?_cons_succ, code49L2, h54, h25, hw0, nltT, nltF, iltT, ileT, nleT, wrapI, hpO, ht, c1]
      | false =>
        cases c2 : isClass u.name with
        | false => simp (disch := omega) [-getElem?_pos, -getElem?_neg, -evExt, List.getElem?_cons_zero, List.getElem?_cons_succ, code49L2, h54, h25, hw0, nltT, nltF, iltT, ileT, nleT, wrapI, hpO, ht, c1, c2]
        | true =>
          by_cases c3 : u.super = [115, 121, 115]
          · simp (disch := omega) [-getElem?_pos, -getElem?_neg, -evExt, List.getElem?_cons_zero, List.getElem?_cons_succ, code49L2, h54, h25, hw0, nltT, nltF, iltT, ileT, nleT, wrapI, hpO, ht, c1, c2, c3]
          · rw [c1, c2, decide_eq_false c3] at c0; cases c0

/-! ## Their members -/

def unitOk (S : List (Str × Str)) (M : List (Key × Mem)) (u : UnitU) : Bool := endsS S u.name && fieldsS S [] u.fields && methsS S u.name M u.meths

def membersS (S : List (Str × Str)) : List (Key × Mem) → List (Key × Mem) → List UnitU → Option (List (Key × Mem) × List (Key × Mem))
  | F, M, [] => some (F, M)
  | F, M, u :: r => if unitOk S M u then membersS S (F ++ u.fields.map (fieldE u.name)) (M ++ u.meths.map (methE u.name)) r else none

theorem l49b {l : List UnitU} {a : Option (Nat × Nat)} {c : Option Nat} (hR : Row os 4 UnitU.cells l a) (hok : ∀ u ∈ l, u.ok os) (hl : l.length ≤ 32) (hb : b ≤ os.length) (hS : S.length ≤ 9223372036854775807) (hnd : (l.map UnitU.name).Nodup) :
    ∀ (j i : Nat) (O : List AObj) (F M : List (Key × Mem)) (w : Nat), i + j = l.length → os.length ≤ w → World O os.length S F M V → Pre os O → (∀ x ∈ F, ∀ u ∈ l.drop i, x.1.1 ≠ u.name) →
    ∃ O' w' e s', os.length ≤ w' ∧ (match membersS S F M (l.drop i) with
      | some q => World O' os.length S q.1 q.2 V ∧ Pre os O' ∧ e = .exit 2 ∧ s' = [(0, .val (.slice a l.length c)), (4, .val (.ptr (some (os.length, 0))))]
      | none => e = .ret ∧ s' = [(2, .val (.ptr none)), (3, .val (.int .i64 15))]) ∧ ∀ (k : AExit → St → Option (AVal × Heap)),
      xK T (.loop code49L1) ⟨[(0, .val (.slice a l.length c)), (4, .val (.ptr (some (os.length, 0)))), (45, .val (.slice a l.length c)), (46, .val (.int .i64 l.length)), (47, .val (.int .i64 i))], ⟨O, b, w⟩⟩ (k := ⟨k⟩) =
      k e ⟨s', ⟨O', b, w'⟩⟩
  | 0, i, O, F, M, w, hi, hw, h, hp, hF => by
    refine ⟨O, w, .exit 2, [(0, .val (.slice a l.length c)), (4, .val (.ptr (some (os.length, 0))))], hw, ?_, fun k => ?_⟩
    · rw [List.drop_of_length_le (by omega)]
      exact ⟨h, hp, rfl, rfl⟩
    · rw [xK_loop]
      simp (disch := omega) [-getElem?_pos, -getElem?_neg, code49L1, iltF]
  | j + 1, i, O, F, M, w, hi, hw, h, hp, hF => by
    obtain ⟨u, hu⟩ : ∃ u, l[i]? = some u := ⟨_, List.getElem?_eq_getElem (by omega)⟩
    obtain ⟨p, o, cs, rfl, hpp, hpl, hcs, ht⟩ := row_at hR hu
    have huo := hok u (List.mem_of_getElem? hu)
    have hd : l.drop i = u :: l.drop (i + 1) := by
      have := lt_of_get hu
      rw [List.getElem?_eq_getElem this] at hu
      rw [List.drop_eq_getElem_cons this, Option.some.inj hu]
    have hlt := h.lt
    have hpO := hp _ _ hpp
    have h98 := fun w => s98 (b := b) (w := w) h (by omega) hS (c := u.name)
    obtain ⟨O1, w1, hw1, h99a, h99⟩ := s99 (w := w) huo hp (Nat.le_refl _) h hb (fun x hx => hF x hx u (by rw [hd]; exact List.mem_cons_self ..))
    have hcu : u.cells = [.str u.name, .str u.super, .slice u.fa u.fields.length u.fc, .slice u.ma u.meths.length u.mc] := rfl
    rw [hcu] at ht h99
    rw [hd]
    rcases Bool.eq_false_or_eq_true (endsS S u.name) with c1 | c1
    · rcases Bool.eq_false_or_eq_true (fieldsS S [] u.fields) with c2 | c2
      · obtain ⟨X, rfl⟩ := h99a c2
        have h1 := (h.setF (F ++ u.fields.map (fieldE u.name))).app X
        have hp1 : Pre os (O.set (os.length + 2) (mObj keyF memF (F ++ u.fields.map (fieldE u.name))) ++ X) := (hp.set _ (by omega)).trans (Pre.app _ _)
        obtain ⟨O2, w2, hw2, h100a, h100⟩ := s100 (w := w1) huo hp1 (Nat.le_refl _) h1 hb
        rw [hcu] at h100
        rcases Bool.eq_false_or_eq_true (methsS S u.name M u.meths) with c3 | c3
        · have e3 := h100a c3
          have h2 := h1.setM (M ++ u.meths.map (methE u.name))
          have hp2 : Pre os O2 := by rw [e3]; exact hp1.set _ (by omega)
          rw [← e3] at h2
          obtain ⟨O', w', e, s', r1, r2, ih⟩ := l49b (c := c) hR hok hl hb hS hnd j (i + 1) O2 (F ++ u.fields.map (fieldE u.name)) (M ++ u.meths.map (methE u.name)) w2 (by omega) (by omega) h2 hp2 (fun x hx v hv => by
            rcases List.mem_append.1 hx with hx | hx
            · exact hF x hx v (by rw [hd]; exact List.mem_cons_of_mem _ hv)
            · obtain ⟨f, hf, rfl⟩ := List.mem_map.1 hx
              intro e
              have hnd2 : ((l.drop i).map UnitU.name).Nodup := by rw [List.map_drop]; exact hnd.sublist (List.drop_sublist _ _)
              rw [hd, List.map_cons, List.nodup_cons] at hnd2
              exact hnd2.1 (by rw [show u.name = v.name from e]; exact List.mem_map_of_mem hv))
          have c4 : unitOk S M u = true := by simp [unitOk, c1, c2, c3]
          refine ⟨O', w', e, s', r1, by simp only [membersS, c4, if_true]; exact r2, fun k => ?_⟩
          have ih := ih k
          have e2 : ((i + 1 : Nat) : Int) = (i : Int) + 1 := by omega
          rw [e2] at ih
          rw [xK_loop, ← ih]
          generalize ACode.loop code49L1 = L
          generalize O.set (os.length + 2) (mObj keyF memF (F ++ u.fields.map (fieldE u.name))) ++ X = H1 at h99 h100
          simp (disch := omega) [-getElem?_pos, -getElem?_neg, -evExt, List.getElem?_cons_zero, List.getElem?_cons_succ, code49L1, h98, nltT, nltF, iltT, ileT, nleT, wrapI, hpO, ht, h99, h100, c1, c2, c3]
        · have c4 : unitOk S M u = false := by simp [unitOk, c3]
          refine ⟨O2, w2, .ret, [(2, .val (.ptr none)), (3, .val (.int .i64 15))], by omega, by simp only [membersS, c4]; exact ⟨trivial, trivial⟩, fun k => ?_⟩
          rw [xK_loop]
          generalize ACode.loop code49L1 = L
          generalize O.set (os.length + 2) (mObj keyF memF (F ++ u.fields.map (fieldE u.name))) ++ X = H1 at h99 h100
          simp (disch := omega) [-getElem?_pos, -getElem?_neg, -evExt, List.getElem?_cons_zero, List.getElem?_cons_succ, code49L1, h98, nltT, nltF, iltT, ileT, nleT, wrapI, hpO, ht, h99, h100, c1, c2, c3]
      · have c4 : unitOk S M u = false := by simp [unitOk, c2]
        refine ⟨O1, w1, .ret, [(2, .val (.ptr none)), (3, .val (.int .i64 15))], by omega, by simp only [membersS, c4]; exact ⟨trivial, trivial⟩, fun k => ?_⟩
        rw [xK_loop]
        generalize ACode.loop code49L1 = L
        simp (disch := omega) [-getElem?_pos, -getElem?_neg, -evExt, List.getElem?_cons_zero, List.getElem?_cons_succ, code49L1, h98, nltT, nltF, iltT, ileT, nleT, wrapI, hpO, ht, h99, c1, c2]
    · have c4 : unitOk S M u = false := by simp [unitOk, c1]
      refine ⟨O, w, .ret, [(2, .val (.ptr none)), (3, .val (.int .i64 15))], hw, by simp only [membersS, c4]; exact ⟨trivial, trivial⟩, fun k => ?_⟩
      rw [xK_loop]
      generalize ACode.loop code49L1 = L
      simp (disch := omega) [-getElem?_pos, -getElem?_neg, -evExt, List.getElem?_cons_zero, List.getElem?_cons_succ, code49L1, h98, nltT, nltF, iltT, ileT, nleT, wrapI, hpO, ht, c1]

end Go.Abs.AbsHier

/-
  Layer 16: New.
-/
namespace Go.Abs.AbsHier
open Go.Abs.AbsDesc
set_option maxRecDepth 100000
set_option linter.unusedSimpArgs false
variable {os O : List AObj} {b w : Nat} {N : Nat} {S : List (Str × Str)} {F M : List (Key × Mem)} {V : List (Key × Bool)}

theorem l49c {l : List UnitU} {a : Option (Nat × Nat)} {c : Option Nat} (hR : Row os 4 UnitU.cells l a) (hok : ∀ u ∈ l, u.ok os) (hl : l.length ≤ 32) (hb : b ≤ os.length) (hS : S.length ≤ 9223372036854775807)
    (h : World O os.length S F M V) (hp : Pre os O) : ∀ (j i : Nat) (w : Nat), i + j = l.length → ∀ (k : AExit → St → Option (AVal × Heap)),
      xK T (.loop code49L0) ⟨[(4, .val (.ptr (some (os.length, 0)))), (69, .val (.slice a l.length c)), (70, .val (.int .i64 l.length)), (71, .val (.int .i64 i))], ⟨O, b, w⟩⟩ (k := ⟨k⟩) =
      if (l.drop i).all (overS S M) then k (.exit 4) ⟨[(4, .val (.ptr (some (os.length, 0))))], ⟨O, b, w⟩⟩ else k .ret ⟨[(2, .val (.ptr none)), (3, .val (.int .i64 15))], ⟨O, b, w⟩⟩
  | 0, i, w, hi, k => by
    rw [xK_loop, List.drop_of_length_le (by omega)]
    simp (disch := omega) [-getElem?_pos, -getElem?_neg, code49L0, iltF]
  | j + 1, i, w, hi, k => by
    obtain ⟨u, hu⟩ : ∃ u, l[i]? = some u := ⟨_, List.getElem?_eq_getElem (by omega)⟩
    obtain ⟨p, o, cs, rfl, hpp, hpl, hcs, ht⟩ := row_at hR hu
    have huo := hok u (List.mem_of_getElem? hu)
    have hd : l.drop i = u :: l.drop (i + 1) := by
      have := lt_of_get hu
      rw [List.getElem?_eq_getElem this] at hu
      rw [List.drop_eq_getElem_cons this, Option.some.inj hu]
    have hlt := h.lt
    have hpO := hp _ _ hpp
    have h97 := fun w => s97 (w := w) (b := b) (huo.pre hp) h (by omega) hS
    have hcu : u.cells = [.str u.name, .str u.super, .slice u.fa u.fields.length u.fc, .slice u.ma u.meths.length u.mc] := rfl
    rw [hcu] at ht h97
    have ih := l49c (c := c) hR hok hl hb hS h hp j (i + 1) w (by omega) k
    have e2 : ((i + 1 : Nat) : Int) = (i : Int) + 1 := by omega
    rw [e2] at ih
    rw [xK_loop, hd]
    simp only [List.all_cons]
    generalize ACode.loop code49L0 = L at ih ⊢
    rcases Bool.eq_false_or_eq_true (overS S M u) with c1 | c1
    · simp (disch := omega) [-getElem?_pos, -getElem?_neg, -List.all_eq_true, List.getElem?_cons_zero, List.getElem?_cons_succ, code49L0, h97, nltT, nltF, iltT, ileT, nleT, wrapI, hpO, ht, c1, ih]
    · simp (disch := omega) [-getElem?_pos, -getElem?_neg, -List.all_eq_true, List.getElem?_cons_zero, List.getElem?_cons_succ, code49L0, h97, nltT, nltF, iltT, ileT, nleT, wrapI, hpO, ht, c1]

def supE (u : UnitU) : Str × Str := (u.name, u.super)

theorem supersS_eq : ∀ {l : List UnitU} {S S2 : List (Str × Str)}, supersS S l = some S2 → S2 = S ++ l.map supE ∧ (l.map UnitU.name).Nodup ∧ ∀ u ∈ l, getE S u.name = none ∧ isClass u.name = true ∧ u.super ≠ sysT
  | [], S, S2, h => by simp only [supersS] at h; cases h; simp
  | u :: l, S, S2, h => by
    simp only [supersS] at h
    split at h
    case isFalse => cases h
    rename_i hu
    obtain ⟨h1, h2, h3⟩ := supersS_eq h
    unfold superOk at hu
    simp only [Bool.and_eq_true, Bool.not_eq_true', decide_eq_false_iff_not] at hu
    obtain ⟨⟨c1, c2⟩, c3⟩ := hu
    have hg : getE S u.name = none := by simpa using c1
    refine ⟨by rw [h1, List.append_assoc]; rfl, ?_, fun v hv => ?_⟩
    · rw [List.map_cons, List.nodup_cons]
      refine ⟨fun hm => ?_, h2⟩
      obtain ⟨v, hv, e⟩ := List.mem_map.1 hm
      have := (h3 v hv).1
      rw [getE_app, e, hg] at this
      simp [getE] at this
    · rcases List.mem_cons.1 hv with rfl | hv
      · exact ⟨hg, c2, c3⟩
      · obtain ⟨d1, d2, d3⟩ := h3 v hv
        rw [getE_app] at d1
        refine ⟨?_, d2, d3⟩
        cases hq : getE S v.name with
        | none => rfl
        | some y => rw [hq] at d1; cases d1

/-- A world of units: superclasses, fields, methods. -/
def worldS (l : List UnitU) : Option (List (Str × Str) × List (Key × Mem) × List (Key × Mem)) :=
  if l.length ≤ 32 then match supersS builtS l with
    | some S => match membersS S [] builtM l with
      | some q => if l.all (overS S q.2) then some (S, q.1, q.2) else none
      | none => none
    | none => none
  else none

def newV (N : Nat) : Option (List (Str × Str) × List (Key × Mem) × List (Key × Mem)) → AVal
  | none => .tuple [.ptr none, .int .i64 15]
  | some _ => .tuple [.ptr (some (N, 0)), .int .i64 0]
def newO (os : List AObj) : Option (List (Str × Str) × List (Key × Mem) × List (Key × Mem)) → List AObj
  | none => os
  | some q => wO os q.1 q.2.1 q.2.2 builtV

theorem fin_none {h0 h : Heap} (hw : h0.size ≤ h.wmin) : finish h0 (.tuple [.ptr none, .int .i64 15]) h = (.tuple [.ptr none, .int .i64 15], h0) := by
  unfold finish
  rw [if_neg (by omega)]
  simp [AVal.under, AVal.unders]

theorem s49 {l : List UnitU} {a : Option (Nat × Nat)} {c : Option Nat} (hR : Row os 4 UnitU.cells l a) (hok : ∀ u ∈ l, u.ok os) (hn : l.length ≤ 9223372036854775807) (hb : b ≤ os.length) :
    xCall T 49 [.slice a l.length c] ⟨os, b, w⟩ = some (newV os.length (worldS l), ⟨newO os (worldS l), b, w⟩) := by
  have h284 := fun w => s284 (os := os) (b := b) (w := w) hb
  have hlen : (wO os builtS [] builtM builtV).length = os.length + 5 := by simp [wO]
  unfold worldS
  by_cases hl : l.length ≤ 32
  · rw [if_pos hl]
    have hli : ¬ ((32 : Int) < l.length) := by omega
    obtain ⟨S1, w1, e1, s1, p1, p2, p3⟩ := l49a (F := []) (M := builtM) (V := builtV) (c := c) hR hl hb l.length 0 builtS os.length (by omega) (Nat.le_refl _)
    simp only [Int.cast_ofNat_Int, List.drop_zero] at p2 p3
    cases hs : supersS builtS l with
    | none =>
      rw [hs] at p2
      simp only at p2
      obtain ⟨rfl, rfl⟩ := p2
      have hf := fun X => fin_none (h0 := ⟨os, b, w⟩) (h := ⟨X, b, w1⟩) p1
      simp (disch := omega) [-getElem?_pos, -getElem?_neg, -finish, List.getElem?_cons_zero, List.getElem?_cons_succ, xCallK t49, code49, h284, p3, hl, hli, hf, newV, newO]
    | some S2 =>
      rw [hs] at p2
      simp only at p2
      obtain ⟨rfl, rfl, rfl⟩ := p2
      obtain ⟨q1, q2, q3⟩ := supersS_eq hs
      have hSl : S1.length ≤ 9223372036854775807 := by rw [q1]; simp [builtS, faultsL]; omega
      obtain ⟨O2, w2, e2, s2, r1, r2, r3⟩ := l49b (V := builtV) (c := c) hR hok hl hb hSl q2 l.length 0 (wO os S1 [] builtM builtV) [] builtM w1 (by omega) p1 (wO_world _ _ _ _ _) (wO_pre _ _ _ _ _) (fun _ h => by cases h)
      simp only [Int.cast_ofNat_Int, List.drop_zero] at r2 r3
      simp only
      cases hm : membersS S1 [] builtM l with
      | none =>
        rw [hm] at r2
        simp only at r2
        obtain ⟨rfl, rfl⟩ := r2
        have hf := fun X => fin_none (h0 := ⟨os, b, w⟩) (h := ⟨X, b, w2⟩) r1
        simp (disch := omega) [-getElem?_pos, -getElem?_neg, -finish, List.getElem?_cons_zero, List.getElem?_cons_succ, xCallK t49, code49, h284, p3, r3, hl, hli, hf, newV, newO]
      | some q =>
        obtain ⟨F2, M2⟩ := q
        rw [hm] at r2
        simp only at r2
        obtain ⟨hW, hP, rfl, rfl⟩ := r2
        have h3 := fun w => l49c (b := b) (c := c) hR hok hl hb hSl hW hP l.length 0 w (by omega)
        simp only [Int.cast_ofNat_Int, List.drop_zero] at h3
        simp only
        rcases Bool.eq_false_or_eq_true (l.all (overS S1 M2)) with c0 | c0
        · rw [c0] at h3 ⊢
          simp only [if_true] at h3 ⊢
          have hf := world_fin (b := b) hW w r1
          simp (disch := omega) [-getElem?_pos, -getElem?_neg, -finish, List.getElem?_cons_zero, List.getElem?_cons_succ, xCallK t49, code49, h284, p3, r3, h3, hl, hli, hf, newV, newO]
        · rw [c0] at h3 ⊢
          simp only [Bool.false_eq_true, if_false] at h3 ⊢
          have hf := fun X => fin_none (h0 := ⟨os, b, w⟩) (h := ⟨X, b, w2⟩) r1
          simp (disch := omega) [-getElem?_pos, -getElem?_neg, -finish, List.getElem?_cons_zero, List.getElem?_cons_succ, xCallK t49, code49, h284, p3, r3, h3, hl, hli, hf, newV, newO]
  · rw [if_neg hl]
    have hli : (32 : Int) < l.length := by omega
    simp (disch := omega) [-getElem?_pos, -getElem?_neg, List.getElem?_cons_zero, List.getElem?_cons_succ, xCallK t49, code49, h284, hl, hli, newV, newO]

end Go.Abs.AbsHier

/-
  Layer 16, the reference: a class is found; the classes that a type names; names.
-/
namespace Go.Abs.AbsHier
open Go.Abs.AbsDesc
set_option maxRecDepth 100000
set_option linter.unusedSimpArgs false
variable {os O : List AObj} {b w : Nat}

def findU (W : List UnitU) (n : Str) : Option UnitU := W.find? fun u => decide (u.name = n)
def zeroU : List AVal := [.str [], .str [], .slice none 0 (some 0), .slice none 0 (some 0)]
def cellsO : Option UnitU → List AVal
  | some u => u.cells
  | none => zeroU

theorem l160 {W : List UnitU} {a : Option (Nat × Nat)} {c : Option Nat} (hR : Row O 4 UnitU.cells W a) (hl : W.length ≤ 9223372036854775807) {n : Str} : ∀ (j i : Nat) (w : Nat), i + j = W.length → ∀ (k : AExit → St → Option (AVal × Heap)),
    xK T (.loop code160L0) ⟨[(1, .val (.str n)), (4, .var zeroU), (8, .val (.slice a W.length c)), (9, .val (.int .i64 W.length)), (10, .val (.int .i64 i))], ⟨O, b, w⟩⟩ (k := ⟨k⟩) =
    match findU (W.drop i) n with
    | some u => k .ret ⟨[(4, .var u.cells), (5, .val (.bool true))], ⟨O, b, w⟩⟩
    | none => k (.exit 0) ⟨[(4, .var zeroU)], ⟨O, b, w⟩⟩
  | 0, i, w, hi, k => by
    rw [xK_loop, List.drop_of_length_le (by omega)]
    simp (disch := omega) [-getElem?_pos, -getElem?_neg, code160L0, iltF, findU]
  | j + 1, i, w, hi, k => by
    obtain ⟨u, hu⟩ : ∃ u, W[i]? = some u := ⟨_, List.getElem?_eq_getElem (by omega)⟩
    obtain ⟨p, o, cs, rfl, hpp, hpl, hcs, ht⟩ := row_at hR hu
    have hd : W.drop i = u :: W.drop (i + 1) := by
      have := lt_of_get hu
      rw [List.getElem?_eq_getElem this] at hu
      rw [List.drop_eq_getElem_cons this, Option.some.inj hu]
    have ih := l160 (c := c) hR hl (n := n) j (i + 1) w (by omega) k
    have e2 : ((i + 1 : Nat) : Int) = (i : Int) + 1 := by omega
    rw [e2] at ih
    have hcu : u.cells = [.str u.name, .str u.super, .slice u.fa u.fields.length u.fc, .slice u.ma u.meths.length u.mc] := rfl
    rw [hcu] at ht
    rw [xK_loop, hd]
    unfold findU at ih ⊢
    rw [List.find?_cons]
    unfold zeroU at ih ⊢
    by_cases e : u.name = n
    · simp only [e, decide_true]
      generalize ACode.loop code160L0 = L
      simp (disch := omega) [-getElem?_pos, -getElem?_neg, List.getElem?_cons_zero, List.getElem?_cons_succ, code160L0, nltT, nltF, iltT, ileT, nleT, wrapI, hpp, ht, e, hcu]
    · simp only [e, decide_false]
      rw [← ih]
      generalize ACode.loop code160L0 = L
      simp (disch := omega) [-getElem?_pos, -getElem?_neg, List.getElem?_cons_zero, List.getElem?_cons_succ, code160L0, nltT, nltF, iltT, ileT, nleT, wrapI, hpp, ht, e, hcu]

theorem findU_mem {W : List UnitU} {n : Str} {u : UnitU} (h : findU W n = some u) : u ∈ W ∧ u.name = n := by
  unfold findU at h
  exact ⟨List.mem_of_find?_eq_some h, by simpa using List.find?_some h⟩

/-- Find -/
theorem s160 {W : List UnitU} {a : Option (Nat × Nat)} {c : Option Nat} (hR : Row O 4 UnitU.cells W a) (hl : W.length ≤ 9223372036854775807) (hok : ∀ u ∈ W, u.low O.length) {n : Str} :
    xCall T 160 [.slice a W.length c, .str n] ⟨O, b, w⟩ = some (.tuple [.agg (cellsO (findU W n)), .bool (findU W n).isSome], ⟨O, b, w⟩) := by
  have hk := fun w => l160 (b := b) (c := c) hR hl (n := n) W.length 0 w (by omega)
  simp only [Int.cast_ofNat_Int, List.drop_zero] at hk
  cases hf : findU W n with
  | none =>
    rw [hf] at hk
    simp only [zeroU] at hk
    simp (disch := omega) [-getElem?_pos, -getElem?_neg, List.getElem?_cons_zero, List.getElem?_cons_succ, xCallK t160, code160, hk, cellsO, zeroU]
  | some u =>
    rw [hf] at hk
    obtain ⟨hf1, hf2⟩ := hok u (findU_mem hf).1
    have h1 := under_val (n := O.length) (m := u.fields.length) (c := u.fc) hf1
    have h2 := under_val (n := O.length) (m := u.meths.length) (c := u.mc) hf2
    have hcu : u.cells = [.str u.name, .str u.super, .slice u.fa u.fields.length u.fc, .slice u.ma u.meths.length u.mc] := rfl
    simp only [zeroU, hcu] at hk
    simp (disch := omega) [-getElem?_pos, -getElem?_neg, List.getElem?_cons_zero, List.getElem?_cons_succ, xCallK t160, code160, hk, cellsO, hcu, h1, h2]

/-- there -/
def thereU (W : List UnitU) (t : Str) : Bool := match classOf (bare t) with
  | some c => (findU W c).isSome
  | none => true

theorem l159 {v : AVal} : ∀ (t : Str) (w : Nat), t.length ≤ 9223372036854775807 → ∀ (k : AExit → St → Option (AVal × Heap)),
    xK T (.loop code159L0) ⟨[(0, .val v), (1, .val (.str t))], ⟨O, b, w⟩⟩ (k := ⟨k⟩) = k (.exit 0) ⟨[(0, .val v), (1, .val (.str (bare t)))], ⟨O, b, w⟩⟩
  | [], w, hn, k => by
    rw [xK_loop]
    simp (disch := omega) [-getElem?_pos, -getElem?_neg, code159L0, bare]
  | x :: r, w, hn, k => by
    simp only [List.length_cons] at hn
    have h0 : (0 : Int) < (r.length : Int) + 1 := by omega
    have h1 : (1 : Int) ≤ (r.length : Int) + 1 := by omega
    have e1 : ((x.toNat : Int) = 91) = (x = 91) := u8_eq x 91 (by omega)
    have ih := l159 (v := v) r w (by omega) k
    rw [xK_loop]
    by_cases c1 : x = 91
    · have hb : bare (x :: r) = bare r := by simp [bare, c1]
      rw [hb, ← ih]
      generalize ACode.loop code159L0 = L
      simp (disch := omega) [-getElem?_pos, -getElem?_neg, List.getElem?_cons_zero, List.getElem?_cons_succ, code159L0, h0, h1, c1]
    · have hb : bare (x :: r) = x :: r := by simp [bare, c1]
      rw [hb]
      generalize ACode.loop code159L0 = L
      simp (disch := omega) [-getElem?_pos, -getElem?_neg, List.getElem?_cons_zero, List.getElem?_cons_succ, code159L0, h0, h1, e1, c1]

theorem s159 {W : List UnitU} {a : Option (Nat × Nat)} {c : Option Nat} (hR : Row O 4 UnitU.cells W a) (hl : W.length ≤ 9223372036854775807) (hok : ∀ u ∈ W, u.low O.length) {t : Str} (hn : t.length ≤ 9223372036854775807) :
    xCall T 159 [.slice a W.length c, .str t] ⟨O, b, w⟩ = some (.bool (thereU W t), ⟨O, b, w⟩) := by
  have hk := fun w => l159 (O := O) (b := b) (v := .slice a W.length c) t w hn
  have hb := bare_len t
  have h33 := fun w => s33 (os := O) (b := b) (w := w) (s := bare t) (by omega)
  have h160 := fun w n => s160 (b := b) (w := w) (c := c) hR hl hok (n := n)
  rw [classV_eq] at h33
  have hz : ∀ n, (cellsO (findU W n)).length = 4 := fun n => by cases findU W n <;> rfl
  unfold thereU
  cases hc : classOf (bare t) with
  | none => rw [hc] at h33; simp (disch := omega) [-getElem?_pos, -getElem?_neg, List.getElem?_cons_zero, List.getElem?_cons_succ, xCallK t159, code159, hk, h33, h160, hz]
  | some q => rw [hc] at h33; simp (disch := omega) [-getElem?_pos, -getElem?_neg, List.getElem?_cons_zero, List.getElem?_cons_succ, xCallK t159, code159, hk, h33, h160, hz]

end Go.Abs.AbsHier

/-
  Layer 16, the reference: names; a class's line.
-/
namespace Go.Abs.AbsHier
open Go.Abs.AbsDesc
set_option maxRecDepth 100000
set_option linter.unusedSimpArgs false
variable {os O : List AObj} {b w : Nat}

/-! ## IsName -/

theorem ib_iff (c : UInt8) : ∀ s : Str, 0 ≤ Lib.indexByte s c ↔ ∃ x ∈ s, x = c
  | [] => by simp [Lib.indexByte]
  | x :: s => by
    have ih := ib_iff c s
    have hge := Lib.indexByte_ge s c
    unfold Lib.indexByte
    by_cases e : x = c
    · simp [e]
    · have e' : (x == c) = false := by simpa using e
      rw [e']
      simp only [Bool.false_eq_true, if_false, List.mem_cons, exists_eq_or_imp, e, false_or, ← ih]
      by_cases h1 : Lib.indexByte s c = -1
      · simp [h1]
      · have h2 : (Lib.indexByte s c == -1) = false := by simpa using h1
        rw [h2]
        simp only [Bool.false_eq_true, if_false]
        omega

theorem ib_any (c : UInt8) (s : Str) : decide (0 ≤ Lib.indexByte s c) = s.any fun x => decide (x = c) := by
  rw [Bool.eq_iff_iff, decide_eq_true_eq, ib_iff]
  simp

theorem l158 {s : Str} (hn : s.length ≤ 9223372036854775807) : ∀ (j i : Nat) (w : Nat), i + j = s.length → ∀ (k : AExit → St → Option (AVal × Heap)),
    xK T (.loop code158L0) ⟨[(0, .val (.str s)), (3, .val (.int .i64 i))], ⟨O, b, w⟩⟩ (k := ⟨k⟩) =
    if (s.drop i).any (fun x => decide (x = 47)) then k .ret ⟨[(2, .val (.bool false))], ⟨O, b, w⟩⟩ else k (.exit 0) ⟨[(0, .val (.str s))], ⟨O, b, w⟩⟩
  | 0, i, w, hi, k => by
    rw [xK_loop, List.drop_of_length_le (by omega)]
    simp (disch := omega) [-getElem?_pos, -getElem?_neg, code158L0, iltF]
  | j + 1, i, w, hi, k => by
    obtain ⟨x, hx⟩ : ∃ x, s[i]? = some x := ⟨_, List.getElem?_eq_getElem (by omega)⟩
    have hd : s.drop i = x :: s.drop (i + 1) := by
      have := lt_of_get hx
      rw [List.getElem?_eq_getElem this] at hx
      rw [List.drop_eq_getElem_cons this, Option.some.inj hx]
    have ih := l158 hn j (i + 1) w (by omega) k
    have e2 : ((i + 1 : Nat) : Int) = (i : Int) + 1 := by omega
    rw [e2] at ih
    have e1 : ((x.toNat : Int) = 47) = (x = 47) := u8_eq x 47 (by omega)
    rw [xK_loop, hd]
    simp only [List.any_cons]
    generalize ACode.loop code158L0 = L at ih ⊢
    by_cases c : x = 47
    · simp (disch := omega) [-getElem?_pos, -getElem?_neg, List.getElem?_cons_zero, List.getElem?_cons_succ, code158L0, hx, iltT, ileT, nltT, nleT, wrapI, c]
    · simp (disch := omega) [-getElem?_pos, -getElem?_neg, -List.any_eq_true, List.getElem?_cons_zero, List.getElem?_cons_succ, code158L0, hx, e1, iltT, ileT, nltT, nleT, wrapI, c, ih]

theorem s158 {s : Str} (hn : s.length ≤ 9223372036854775807) : xCall T 158 [.str s] ⟨O, b, w⟩ = some (.bool (isName s), ⟨O, b, w⟩) := by
  have hl := fun w k => l158 (O := O) (b := b) hn s.length 0 w (by omega) k
  simp only [Int.cast_ofNat_Int, List.drop_zero] at hl
  have h26 := fun w => s26 (os := O) (b := b) (w := w) hn
  unfold isName
  rw [ib_any]
  rcases Bool.eq_false_or_eq_true (s.any fun x => decide (x = 47)) with c | c
  · simp only [c, if_true] at hl ⊢
    simp (disch := omega) [-getElem?_pos, -getElem?_neg, List.getElem?_cons_zero, List.getElem?_cons_succ, xCallK t158, code158, hl]
  · simp only [c, Bool.false_eq_true, if_false] at hl ⊢
    simp (disch := omega) [-getElem?_pos, -getElem?_neg, List.getElem?_cons_zero, List.getElem?_cons_succ, xCallK t158, code158, hl, h26]

/-! ## Line -/

def goL (W : List UnitU) : Nat → Option UnitU → List UnitU
  | 0, _ => []
  | _ + 1, none => []
  | k + 1, some v => v :: goL W k (findU W v.super)
def lineU (W : List UnitU) (k : Nat) (n : Str) : List UnitU := goL W k (findU W n)

theorem ids_slice {n m : Nat} {a : Option (Nat × Nat)} {c : Option Nat} (h : under n a) : ∀ i ∈ (AVal.slice a m c).ids, i < n := by
  cases a with
  | none => simp [AVal.ids]
  | some p => obtain ⟨j, o⟩ := p; simp only [AVal.ids, List.mem_singleton]; rintro i rfl; exact h _ _ rfl
theorem ids_unit {n : Nat} {u : UnitU} (h : u.low n) : ∀ i ∈ AVal.idsL u.cells, i < n := by
  intro i hi
  simp only [UnitU.cells, AVal.idsL, AVal.ids, List.nil_append, List.append_nil, List.mem_append] at hi
  rcases hi with hi | hi
  · exact ids_slice h.f i hi
  · exact ids_slice h.m i hi
theorem ids_units {n : Nat} : ∀ {L : List UnitU}, (∀ u ∈ L, u.low n) → ∀ i ∈ AVal.idsL (L.flatMap UnitU.cells), i < n
  | [], _ => by simp [AVal.idsL]
  | u :: L, h => by
    intro i hi
    rw [List.flatMap_cons, idsL_app, List.mem_append] at hi
    rcases hi with hi | hi
    · exact ids_unit (h u (List.mem_cons_self ..)) i hi
    · exact ids_units (fun v hv => h v (List.mem_cons_of_mem _ hv)) i hi

theorem ids_slice_len {m : Nat} {a : Option (Nat × Nat)} {c : Option Nat} : (AVal.slice a m c).ids.length ≤ 1 := by
  cases a with
  | none => simp [AVal.ids]
  | some p => simp [AVal.ids]
theorem ids_units_len : ∀ {L : List UnitU}, (AVal.idsL (L.flatMap UnitU.cells)).length ≤ 2 * L.length
  | [] => by simp [AVal.idsL]
  | u :: L => by
    have ih := ids_units_len (L := L)
    have h1 := ids_slice_len (m := u.fields.length) (a := u.fa) (c := u.fc)
    have h2 := ids_slice_len (m := u.meths.length) (a := u.ma) (c := u.mc)
    rw [List.flatMap_cons, idsL_app, List.length_append, List.length_cons]
    have : (AVal.idsL u.cells).length = (AVal.slice u.fa u.fields.length u.fc).ids.length + (AVal.slice u.ma u.meths.length u.mc).ids.length := by
      simp only [UnitU.cells, AVal.idsL, List.length_append, List.length_nil, Nat.add_zero]
      simp [AVal.ids]
    omega

theorem ren_slice {n m : Nat} {a : Option (Nat × Nat)} {c : Option Nat} {f : Nat → Nat} (hf : ∀ i, i < n → f i = i) (h : under n a) : (AVal.slice a m c).ren f = .slice a m c := by
  cases a with
  | none => simp [AVal.ren]
  | some p => obtain ⟨j, o⟩ := p; simp [AVal.ren, hf j (h _ _ rfl)]
theorem ren_unit {n : Nat} {u : UnitU} {f : Nat → Nat} (hf : ∀ i, i < n → f i = i) (h : u.low n) : AVal.renL f u.cells = u.cells := by
  simp only [UnitU.cells, AVal.renL, ren_slice hf h.f, ren_slice hf h.m]
  simp [AVal.ren]
theorem ren_units {n : Nat} {f : Nat → Nat} (hf : ∀ i, i < n → f i = i) : ∀ {L : List UnitU}, (∀ u ∈ L, u.low n) → AVal.renL f (L.flatMap UnitU.cells) = L.flatMap UnitU.cells
  | [], _ => rfl
  | u :: L, h => by
    rw [List.flatMap_cons, renL_app, ren_unit hf (h u (List.mem_cons_self ..)), ren_units hf fun v hv => h v (List.mem_cons_of_mem _ hv)]

theorem reach_low {h : Heap} {n0 : Nat} {acc : List Nat} : ∀ (l : List Nat) (f : Nat), l.length < f → (∀ i ∈ l, i < n0) → reach h n0 f l acc = acc
  | [], f + 1, _, _ => rfl
  | i :: l, f + 1, hf, hl => by
    rw [reach_step, if_pos (hl i (List.mem_cons_self ..))]
    exact reach_low l f (by simp at hf; omega) fun j hj => hl j (List.mem_cons_of_mem _ hj)

/-- A new row of units. -/
def rowV (n : Nat) (L : List UnitU) : AVal := if L = [] then .slice none 0 (some 0) else .slice (some (n, 0)) L.length none
def rowO (O : List AObj) (L : List UnitU) : List AObj := if L = [] then O else O ++ [.cells 4 (L.flatMap UnitU.cells)]

theorem row_fin {G : List AObj} {L : List UnitU} {w0 w2 : Nat} (hne : L ≠ []) (hl : L.length ≤ 400) (hlow : ∀ u ∈ L, u.low O.length) (hw : O.length ≤ w2) :
    finish ⟨O, b, w0⟩ (.slice (some (O.length + G.length, 0)) L.length none) ⟨O ++ (G ++ [.cells 4 (L.flatMap UnitU.cells)]), b, w2⟩ = (.slice (some (O.length, 0)) L.length none, ⟨O ++ [.cells 4 (L.flatMap UnitU.cells)], b, w0⟩) := by
  have hg : (O ++ (G ++ [AObj.cells 4 (L.flatMap UnitU.cells)]))[O.length + G.length]? = some (.cells 4 (L.flatMap UnitU.cells)) := by rw [get_k, get_k0]; rfl
  have hlen := ids_units_len (L := L)
  have hids := ids_units hlow
  have hr : reach ⟨O ++ (G ++ [AObj.cells 4 (L.flatMap UnitU.cells)]), b, w2⟩ O.length 1000 [O.length + G.length] [] = [O.length + G.length] := by
    rw [reach_step, if_neg (by omega), if_neg (by simp)]
    simp only [Heap.get, hg, Option.map_some, Option.getD_some, idsC, List.append_nil, List.nil_append]
    exact reach_low _ _ (by omega) hids
  have hv : AVal.under O.length (.slice (some (O.length + G.length, 0)) L.length none) = false := by simp [AVal.under]
  have hw2 : (⟨O, b, w0⟩ : Heap).size ≤ (⟨O ++ (G ++ [AObj.cells 4 (L.flatMap UnitU.cells)]), b, w2⟩ : Heap).wmin := hw
  refine (finish_keep hw2 hv hr fun i hi => ?_).trans ?_
  · simp only [AVal.ids, List.flatMap_cons, List.flatMap_nil, Heap.get, hg, Option.map_some, Option.getD_some, idsC, List.append_nil, List.cons_append, List.nil_append, List.mem_cons] at hi
    rcases hi with rfl | hi
    · exact .inr (List.mem_singleton_self _)
    · exact .inl (hids i hi)
  · have hfv : (fun i => if i < O.length then i else O.length + idxIn i [O.length + G.length]) (O.length + G.length) = O.length := by
      show (if O.length + G.length < O.length then _ else _) = _
      rw [if_neg (by omega)]; simp [idxIn]
    have hren : AVal.renL (fun i => if i < O.length then i else O.length + idxIn i [O.length + G.length]) (L.flatMap UnitU.cells) = L.flatMap UnitU.cells := ren_units (n := O.length) (fun i hi => if_pos hi) hlow
    have key : ∀ f : Nat → Nat, f (O.length + G.length) = O.length → AVal.renL f (L.flatMap UnitU.cells) = L.flatMap UnitU.cells →
        ((AVal.slice (some (O.length + G.length, 0)) L.length none).ren f, (⟨O ++ [O.length + G.length].map fun i => (((⟨O ++ (G ++ [AObj.cells 4 (L.flatMap UnitU.cells)]), b, w2⟩ : Heap).get i).map (AObj.ren f)).getD .dead, b, w0⟩ : Heap)) =
          (.slice (some (O.length, 0)) L.length none, ⟨O ++ [.cells 4 (L.flatMap UnitU.cells)], b, w0⟩) := by
      intro f h1 h2
      simp only [AVal.ren, Heap.get, hg, Option.map_some, Option.getD_some, List.map_cons, List.map_nil, renC, h1, h2]
    exact key _ hfv hren

def accV (n : Nat) (A : List UnitU) : AVal := if A = [] then .slice none 0 (some 0) else .slice (some (n, 0)) A.length none
def accR (A : List UnitU) : List AObj := if A = [] then [] else [.cells 4 (A.flatMap UnitU.cells)]

theorem cellsO_len (u : Option UnitU) : (cellsO u).length = 4 := by cases u <;> rfl

theorem l112 {W : List UnitU} {a : Option (Nat × Nat)} {c : Option Nat} (hR : Row O 4 UnitU.cells W a) (hl : W.length ≤ 200) (hok : ∀ u ∈ W, u.low O.length) (hb : b ≤ O.length) : ∀ (j : Nat) (u : Option UnitU) (A : List UnitU) (G : List AObj) (w : Nat), A.length + j = W.length + 1 → O.length ≤ w →
    ∃ G' w', O.length ≤ w' ∧ ∀ (k : AExit → St → Option (AVal × Heap)),
    xK T (.loop code112L0) ⟨[(0, .val (.slice a W.length c)), (5, .val (accV (O.length + G.length) A)), (6, .var (cellsO u)), (7, .val (.bool u.isSome))], ⟨O ++ (G ++ accR A), b, w⟩⟩ (k := ⟨k⟩) =
    k (.exit 0) ⟨[(5, .val (accV (O.length + G'.length) (A ++ goL W j u)))], ⟨O ++ (G' ++ accR (A ++ goL W j u)), b, w'⟩⟩
  | j, none, A, G, w, hj, hw => by
    refine ⟨G, w, hw, fun k => ?_⟩
    have e : goL W j none = [] := by cases j <;> rfl
    rw [xK_loop, e, List.append_nil]
    generalize accV (O.length + G.length) A = v
    simp (disch := omega) [-getElem?_pos, -getElem?_neg, code112L0]
  | 0, some u, A, G, w, hj, hw => by
    refine ⟨G, w, hw, fun k => ?_⟩
    have hne : A ≠ [] := by rintro rfl; simp at hj
    have hlt : ¬ ((A.length : Int) ≤ W.length) := by omega
    rw [xK_loop, show goL W 0 (some u) = [] from rfl, List.append_nil]
    simp only [accV, hne, if_false]
    simp (disch := omega) [-getElem?_pos, -getElem?_neg, code112L0, hlt]
  | j + 1, some u, A, G, w, hj, hw => by
    have hle : ((A.length : Int) ≤ W.length) := by omega
    have hcl : u.cells.length = 4 := rfl
    have hcz : cellsO (some u) = u.cells := rfl
    have h160 := fun X w => s160 (O := O ++ X) (b := b) (w := w) (c := c) ((Pre.app O X).row hR) (by omega) (fun v hv => ⟨(hok v hv).f.le (by simp), (hok v hv).m.le (by simp)⟩) (n := u.super)
    have hcz2 := cellsO_len (findU W u.super)
    have hcu : u.cells = [.str u.name, .str u.super, .slice u.fa u.fields.length u.fc, .slice u.ma u.meths.length u.mc] := rfl
    have hb1 : b ≤ O.length + G.length := by omega
    by_cases hA : A = []
    · subst hA
      obtain ⟨G', w', r1, ih⟩ := l112 (c := c) hR hl hok hb j (findU W u.super) [u] (G ++ [.cells 4 u.cells]) w (by simp only [List.length_singleton, List.length_nil] at hj ⊢; omega) hw
      refine ⟨G', w', r1, fun k => ?_⟩
      have ih := ih k
      have e : [u] ++ goL W j (findU W u.super) = [] ++ goL W (j + 1) (some u) := rfl
      rw [e] at ih
      rw [xK_loop, ← ih]
      generalize ACode.loop code112L0 = L
      simp only [accV, accR, if_true, List.append_nil, List.cons_ne_self, if_false, List.length_singleton, List.length_append, List.append_assoc, List.flatMap_cons, List.flatMap_nil, hcz, reduceCtorEq]
      simp only [List.length_nil] at hle
      generalize cellsO (findU W u.super) = z at h160 hcz2 ⊢
      simp (disch := omega) [-getElem?_pos, -getElem?_neg, List.getElem?_cons_zero, List.getElem?_cons_succ, code112L0, h160, hle, hcu, hcz2, get_k, get_k0, set_k, set_k0, nltT, nltF, iltT, ileT, nleT, Nat.add_assoc]
    · have hA0 : A.length ≠ 0 := fun e => hA (List.eq_nil_of_length_eq_zero e)
      obtain ⟨G', w', r1, ih⟩ := l112 (c := c) hR hl hok hb j (findU W u.super) (A ++ [u]) (G ++ [.dead, .cells 4 u.cells]) (min w (O.length + G.length)) (by simp only [List.length_append, List.length_singleton]; omega) (by omega)
      refine ⟨G', w', r1, fun k => ?_⟩
      have ih := ih k
      have e : A ++ [u] ++ goL W j (findU W u.super) = A ++ goL W (j + 1) (some u) := by rw [List.append_assoc]; rfl
      rw [e] at ih
      have hC : (A.flatMap UnitU.cells).length = A.length * 4 := flat_len UnitU.cells 4 (fun _ => rfl) A
      have hT : (A.flatMap UnitU.cells).take (A.length * 4) = A.flatMap UnitU.cells := List.take_of_length_le (by omega)
      have hA2 : A ++ [u] ≠ [] := by simp
      have z1 : (A.length + 1) * 80 ≤ 140737488355328 := by omega
      have z2 : A.length ≤ 9223372036854775806 := by omega
      rw [xK_loop, ← ih]
      generalize ACode.loop code112L0 = L
      simp only [accV, accR, hA, hA2, if_false, List.length_singleton, List.length_append, List.append_assoc, List.flatMap_append, List.flatMap_cons, List.flatMap_nil, List.append_nil, hcz, List.cons_append, List.nil_append, List.length_cons, List.length_nil]
      generalize A.flatMap UnitU.cells = C at hC hT ⊢
      generalize cellsO (findU W u.super) = z at h160 hcz2 ⊢
      simp (disch := omega) [-getElem?_pos, -getElem?_neg, List.getElem?_cons_zero, List.getElem?_cons_succ, code112L0, h160, hle, hcu, hcz2, hC, hT, hA0, hb1, z1, z2, get_k, get_k0, set_k, set_k0, nltT, nltF, iltT, ileT, nleT, Nat.add_assoc]

theorem goL_len (W : List UnitU) : ∀ (j : Nat) (u : Option UnitU), (goL W j u).length ≤ j
  | 0, _ => Nat.le_refl _
  | _ + 1, none => by simp [goL]
  | j + 1, some v => by
    have := goL_len W j (findU W v.super)
    simp only [goL, List.length_cons]; omega

theorem goL_mem {W : List UnitU} : ∀ {j : Nat} {u : Option UnitU}, (∀ v, u = some v → v ∈ W) → ∀ v ∈ goL W j u, v ∈ W
  | 0, _, _, v, hv => by simp [goL] at hv
  | _ + 1, none, _, v, hv => by simp [goL] at hv
  | j + 1, some x, h, v, hv => by
    simp only [goL, List.mem_cons] at hv
    rcases hv with rfl | hv
    · exact h _ rfl
    · exact goL_mem (fun y hy => (findU_mem hy).1) v hv

theorem lineU_mem {W : List UnitU} {k : Nat} {n : Str} {v : UnitU} (h : v ∈ lineU W k n) : v ∈ W := goL_mem (fun _ hy => (findU_mem hy).1) v h

/-- Line -/
theorem s112 {W : List UnitU} {a : Option (Nat × Nat)} {c : Option Nat} (hR : Row O 4 UnitU.cells W a) (hl : W.length ≤ 200) (hok : ∀ u ∈ W, u.low O.length) (hb : b ≤ O.length) {n : Str} :
    xCall T 112 [.slice a W.length c, .str n] ⟨O, b, w⟩ = some (rowV O.length (lineU W (W.length + 1) n), ⟨rowO O (lineU W (W.length + 1) n), b, w⟩) := by
  have h160 := fun w => s160 (b := b) (w := w) (c := c) hR (by omega) hok (n := n)
  obtain ⟨G', w', r1, hk⟩ := l112 (b := b) (c := c) hR hl hok hb (W.length + 1) (findU W n) [] [] O.length (by simp) (Nat.le_refl _)
  have hz := cellsO_len (findU W n)
  have hlen := goL_len W (W.length + 1) (findU W n)
  have hmem : ∀ v ∈ lineU W (W.length + 1) n, v.low O.length := fun v hv => hok v (lineU_mem hv)
  unfold lineU at hmem ⊢
  simp only [List.nil_append, List.append_nil, List.length_nil, Nat.add_zero, accV, accR, if_true] at hk
  generalize findU W n = u at *
  generalize goL W (W.length + 1) u = L at *
  by_cases hL : L = []
  · subst hL
    simp only [if_true, List.append_nil] at hk
    simp (disch := omega) [-getElem?_pos, -getElem?_neg, List.getElem?_cons_zero, List.getElem?_cons_succ, xCallK t112, code112, h160, hz, hk, rowV, rowO]
    intro h; omega
  · simp only [hL, if_false] at hk
    have hf := fun w0 => row_fin (b := b) (G := G') (w0 := w0) hL (by omega) hmem r1
    simp (disch := omega) [-getElem?_pos, -getElem?_neg, -finish, List.getElem?_cons_zero, List.getElem?_cons_succ, xCallK t112, code112, h160, hz, hk, hf, hL, rowV, rowO]

end Go.Abs.AbsHier

/-
  Layer 16, the reference: where a field and a method stands.
-/
namespace Go.Abs.AbsHier
open Go.Abs.AbsDesc
set_option maxRecDepth 100000
set_option linter.unusedSimpArgs false
variable {os O H : List AObj} {b w : Nat}

theorem row_rowO {O : List AObj} {L : List UnitU} : Row (rowO O L) 4 UnitU.cells L (if L = [] then none else some (O.length, 0)) := by
  by_cases h : L = []
  · subst h; exact ⟨fun h => absurd rfl h⟩
  · simp only [rowO, h, if_false]
    exact Row.mk0 (fun _ => rfl) (by rw [get_k0]; rfl)
theorem rowV_eq (n : Nat) (L : List UnitU) : rowV n L = .slice (if L = [] then none else some (n, 0)) L.length (if L = [] then some 0 else none) := by
  unfold rowV
  split <;> simp_all
theorem rowO_pre (O : List AObj) (L : List UnitU) : Pre O (rowO O L) := by
  unfold rowO
  split
  · exact Pre.refl _
  · exact Pre.app _ _
theorem drop_cons {α : Type} {L : List α} {i : Nat} {x : α} (h : L[i]? = some x) : L.drop i = x :: L.drop (i + 1) := by
  have := lt_of_get h
  rw [List.getElem?_eq_getElem this] at h
  rw [List.drop_eq_getElem_cons this, Option.some.inj h]

def fieldAt (L : List FieldU) (n d : Str) : Option FieldU := L.find? fun x => decide (x.name = n) && decide (x.desc = d)
def fieldU (L : List UnitU) (n d : Str) : Option Mem := L.findSome? fun u => (fieldAt u.fields n d).map fun x => ⟨u.name, x.st⟩

theorem l111 {L : List FieldU} {fa : Option (Nat × Nat)} {fc : Option Nat} {u : UnitU} {n d : Str} {s16 s17 s18 : AVal} (hR : Row H 3 FieldU.cells L fa) (hl : L.length ≤ 9223372036854775807) : ∀ (j i : Nat) (w : Nat), i + j = L.length → ∀ (k : AExit → St → Option (AVal × Heap)),
    xK T (.loop code111L0) ⟨[(2, .val (.str n)), (3, .val (.str d)), (8, .var [.str [], .bool false]), (11, .var u.cells), (16, .val s16), (17, .val s17), (18, .val s18), (23, .val (.slice fa L.length fc)), (24, .val (.int .i64 L.length)), (25, .val (.int .i64 i))], ⟨H, b, w⟩⟩ (k := ⟨k⟩) =
    match fieldAt (L.drop i) n d with
    | some x => k .ret ⟨[(8, .var [.str u.name, .bool x.st]), (9, .val (.bool true))], ⟨H, b, w⟩⟩
    | none => k (.exit 2) ⟨[(2, .val (.str n)), (3, .val (.str d)), (8, .var [.str [], .bool false]), (16, .val s16), (17, .val s17), (18, .val s18)], ⟨H, b, w⟩⟩
  | 0, i, w, hi, k => by
    rw [xK_loop, List.drop_of_length_le (by omega)]
    simp (disch := omega) [-getElem?_pos, -getElem?_neg, code111L0, iltF, fieldAt]
  | j + 1, i, w, hi, k => by
    obtain ⟨x, hx⟩ : ∃ x, L[i]? = some x := ⟨_, List.getElem?_eq_getElem (by omega)⟩
    obtain ⟨p, o, cs, rfl, hpp, hpl, hcs, ht⟩ := row_at hR hx
    have ih := l111 (fc := fc) (u := u) (n := n) (d := d) (s16 := s16) (s17 := s17) (s18 := s18) hR hl j (i + 1) w (by omega) k
    have e2 : ((i + 1 : Nat) : Int) = (i : Int) + 1 := by omega
    rw [e2] at ih
    have hcu : x.cells = [.bool x.st, .str x.name, .str x.desc] := rfl
    have hcn : u.cells = [.str u.name, .str u.super, .slice u.fa u.fields.length u.fc, .slice u.ma u.meths.length u.mc] := rfl
    rw [hcu] at ht
    rw [xK_loop, drop_cons hx]
    unfold fieldAt at ih ⊢
    rw [List.find?_cons]
    by_cases c1 : x.name = n
    · by_cases c2 : x.desc = d
      · simp only [c1, c2, decide_true, Bool.and_self]
        generalize ACode.loop code111L0 = L'
        simp (disch := omega) [-getElem?_pos, -getElem?_neg, List.getElem?_cons_zero, List.getElem?_cons_succ, code111L0, nltT, nltF, iltT, ileT, nleT, wrapI, hpp, ht, hcn, c1, c2]
      · simp only [c1, decide_eq_false c2, Bool.and_false]
        rw [← ih]
        generalize ACode.loop code111L0 = L'
        simp (disch := omega) [-getElem?_pos, -getElem?_neg, List.getElem?_cons_zero, List.getElem?_cons_succ, code111L0, nltT, nltF, iltT, ileT, nleT, wrapI, hpp, ht, hcn, c1, c2]
    · simp only [decide_eq_false c1, Bool.false_and]
      rw [← ih]
      generalize ACode.loop code111L0 = L'
      simp (disch := omega) [-getElem?_pos, -getElem?_neg, List.getElem?_cons_zero, List.getElem?_cons_succ, code111L0, nltT, nltF, iltT, ileT, nleT, wrapI, hpp, ht, hcn, c1]

theorem m111 {L : List UnitU} {a : Option (Nat × Nat)} {c : Option Nat} {n d : Str} (hR : Row H 4 UnitU.cells L a) (hl : L.length ≤ 9223372036854775807) (hok : ∀ u ∈ L, Row H 3 FieldU.cells u.fields u.fa ∧ u.fields.length ≤ 9223372036854775807) : ∀ (j i : Nat) (w : Nat), i + j = L.length → ∀ (k : AExit → St → Option (AVal × Heap)),
    ∃ e s', xK T (.loop code111L1) ⟨[(2, .val (.str n)), (3, .val (.str d)), (8, .var [.str [], .bool false]), (16, .val (.slice a L.length c)), (17, .val (.int .i64 L.length)), (18, .val (.int .i64 i))], ⟨H, b, w⟩⟩ (k := ⟨k⟩) =
      k e ⟨s', ⟨H, b, w⟩⟩ ∧ match fieldU (L.drop i) n d with
    | some x => e = .ret ∧ s' = [(8, .var [.str x.cls, .bool x.st]), (9, .val (.bool true))]
    | none => e = .exit 0 ∧ s' = [(8, .var [.str [], .bool false])]
  | 0, i, w, hi, k => by
    rw [xK_loop, List.drop_of_length_le (by omega)]
    refine ⟨.exit 0, [(8, .var [.str [], .bool false])], ?_, rfl, rfl⟩
    simp (disch := omega) [-getElem?_pos, -getElem?_neg, code111L1, iltF]
  | j + 1, i, w, hi, k => by
    obtain ⟨u, hu⟩ : ∃ u, L[i]? = some u := ⟨_, List.getElem?_eq_getElem (by omega)⟩
    obtain ⟨p, o, cs, rfl, hpp, hpl, hcs, ht⟩ := row_at hR hu
    obtain ⟨hr, hn⟩ := hok u (List.mem_of_getElem? hu)
    have hin := fun (s16 s17 s18 : AVal) w k => l111 (b := b) (fc := u.fc) (u := u) (n := n) (d := d) (s16 := s16) (s17 := s17) (s18 := s18) hr hn u.fields.length 0 w (by omega) k
    simp only [Int.cast_ofNat_Int, List.drop_zero] at hin
    obtain ⟨e, s', ih1, ih2⟩ := m111 (c := c) (n := n) (d := d) hR hl hok j (i + 1) w (by omega) k
    have e2 : ((i + 1 : Nat) : Int) = (i : Int) + 1 := by omega
    rw [e2] at ih1
    have hcu : u.cells = [.str u.name, .str u.super, .slice u.fa u.fields.length u.fc, .slice u.ma u.meths.length u.mc] := rfl
    rw [hcu] at ht hin
    rw [xK_loop, drop_cons hu]
    unfold fieldU at ih2 ⊢
    rw [List.findSome?_cons]
    generalize ACode.loop code111L1 = L' at ih1 ⊢
    cases hf : fieldAt u.fields n d with
    | some x =>
      rw [hf] at hin
      refine ⟨.ret, [(8, .var [.str u.name, .bool x.st]), (9, .val (.bool true))], ?_, rfl, rfl⟩
      simp (disch := omega) [-getElem?_pos, -getElem?_neg, List.getElem?_cons_zero, List.getElem?_cons_succ, code111L1, nltT, nltF, iltT, ileT, nleT, wrapI, hpp, ht, hin]
    | none =>
      rw [hf] at hin
      refine ⟨e, s', ?_, ih2⟩
      simp (disch := omega) [-getElem?_pos, -getElem?_neg, List.getElem?_cons_zero, List.getElem?_cons_succ, code111L1, nltT, nltF, iltT, ileT, nleT, wrapI, hpp, ht, hin, ih1]

theorem s111 {W : List UnitU} {a : Option (Nat × Nat)} {c : Option Nat} (hR : Row O 4 UnitU.cells W a) (hl : W.length ≤ 200) (hok : ∀ u ∈ W, u.low O.length ∧ Row O 3 FieldU.cells u.fields u.fa ∧ u.fields.length ≤ 9223372036854775807) (hb : b ≤ O.length) {cl n d : Str} :
    xCall T 111 [.slice a W.length c, .str cl, .str n, .str d] ⟨O, b, w⟩ = some (foundV (fieldU (lineU W (W.length + 1) cl) n d), ⟨O, b, w⟩) := by
  have h112 := fun w => s112 (b := b) (w := w) (c := c) hR hl (fun u hu => (hok u hu).1) hb (n := cl)
  have hmem : ∀ v ∈ lineU W (W.length + 1) cl, Row (rowO O (lineU W (W.length + 1) cl)) 3 FieldU.cells v.fields v.fa ∧ v.fields.length ≤ 9223372036854775807 := fun v hv => by
    obtain ⟨_, h2, h3⟩ := hok v (lineU_mem hv)
    exact ⟨(rowO_pre _ _).row h2, h3⟩
  have hlen : (lineU W (W.length + 1) cl).length ≤ W.length + 1 := goL_len _ _ _
  generalize lineU W (W.length + 1) cl = L at *
  rw [rowV_eq] at h112
  unfold foundV memF
  cases hf : fieldU L n d with
  | none =>
    have hk : ∀ c w k, xK T (.loop code111L1) ⟨[(2, .val (.str n)), (3, .val (.str d)), (8, .var [.str [], .bool false]), (16, .val (.slice (if L = [] then none else some (O.length, 0)) L.length c)), (17, .val (.int .i64 L.length)), (18, .val (.int .i64 0))], ⟨rowO O L, b, w⟩⟩ (k := ⟨k⟩) = k (.exit 0) ⟨[(8, .var [.str [], .bool false])], ⟨rowO O L, b, w⟩⟩ := fun c w k => by
      obtain ⟨e, s', h1, h2⟩ := m111 (b := b) (c := c) (n := n) (d := d) (row_rowO (O := O) (L := L)) (by omega) hmem L.length 0 w (by omega) k
      simp only [Int.cast_ofNat_Int, List.drop_zero, hf] at h1 h2
      obtain ⟨rfl, rfl⟩ := h2
      exact h1
    generalize (if L = [] then none else some (O.length, 0)) = aa at h112 hk
    generalize (if L = [] then some 0 else none) = cc at h112
    generalize rowO O L = HH at h112 hk
    simp (disch := omega) [-getElem?_pos, -getElem?_neg, List.getElem?_cons_zero, List.getElem?_cons_succ, xCallK t111, code111, h112, hk, mem0]
  | some x =>
    have hk : ∀ c w k, xK T (.loop code111L1) ⟨[(2, .val (.str n)), (3, .val (.str d)), (8, .var [.str [], .bool false]), (16, .val (.slice (if L = [] then none else some (O.length, 0)) L.length c)), (17, .val (.int .i64 L.length)), (18, .val (.int .i64 0))], ⟨rowO O L, b, w⟩⟩ (k := ⟨k⟩) = k .ret ⟨[(8, .var [.str x.cls, .bool x.st]), (9, .val (.bool true))], ⟨rowO O L, b, w⟩⟩ := fun c w k => by
      obtain ⟨e, s', h1, h2⟩ := m111 (b := b) (c := c) (n := n) (d := d) (row_rowO (O := O) (L := L)) (by omega) hmem L.length 0 w (by omega) k
      simp only [Int.cast_ofNat_Int, List.drop_zero, hf] at h1 h2
      obtain ⟨rfl, rfl⟩ := h2
      exact h1
    generalize (if L = [] then none else some (O.length, 0)) = aa at h112 hk
    generalize (if L = [] then some 0 else none) = cc at h112
    generalize rowO O L = HH at h112 hk
    simp (disch := omega) [-getElem?_pos, -getElem?_neg, List.getElem?_cons_zero, List.getElem?_cons_succ, xCallK t111, code111, h112, hk]

def methAt (L : List MethU) (n d : Str) : Option MethU := L.find? fun x => decide (x.name = n) && decide (x.desc = d)
def methU (L : List UnitU) (n d : Str) : Option Mem := L.findSome? fun u => (methAt u.meths n d).map fun x => ⟨u.name, x.st⟩

theorem l114 {L : List MethU} {fa : Option (Nat × Nat)} {fc : Option Nat} {u : UnitU} {n d : Str} {s16 s17 s18 : AVal} (hR : Row H 8 MethU.cells L fa) (hl : L.length ≤ 9223372036854775807) : ∀ (j i : Nat) (w : Nat), i + j = L.length → ∀ (k : AExit → St → Option (AVal × Heap)),
    xK T (.loop code114L0) ⟨[(2, .val (.str n)), (3, .val (.str d)), (8, .var [.str [], .bool false]), (11, .var u.cells), (16, .val s16), (17, .val s17), (18, .val s18), (23, .val (.slice fa L.length fc)), (24, .val (.int .i64 L.length)), (25, .val (.int .i64 i))], ⟨H, b, w⟩⟩ (k := ⟨k⟩) =
    match methAt (L.drop i) n d with
    | some x => k .ret ⟨[(8, .var [.str u.name, .bool x.st]), (9, .val (.bool true))], ⟨H, b, w⟩⟩
    | none => k (.exit 2) ⟨[(2, .val (.str n)), (3, .val (.str d)), (8, .var [.str [], .bool false]), (16, .val s16), (17, .val s17), (18, .val s18)], ⟨H, b, w⟩⟩
  | 0, i, w, hi, k => by
    rw [xK_loop, List.drop_of_length_le (by omega)]
    simp (disch := omega) [-getElem?_pos, -getElem?_neg, code114L0, iltF, methAt]
  | j + 1, i, w, hi, k => by
    obtain ⟨x, hx⟩ : ∃ x, L[i]? = some x := ⟨_, List.getElem?_eq_getElem (by omega)⟩
    obtain ⟨p, o, cs, rfl, hpp, hpl, hcs, ht⟩ := row_at hR hx
    have ih := l114 (fc := fc) (u := u) (n := n) (d := d) (s16 := s16) (s17 := s17) (s18 := s18) hR hl j (i + 1) w (by omega) k
    have e2 : ((i + 1 : Nat) : Int) = (i : Int) + 1 := by omega
    rw [e2] at ih
    have hcu : x.cells = [.bool x.st, .str x.name, .str x.desc, .int .i64 x.stack, .int .i64 x.locals, .slice x.ca x.code.length x.cc, .slice x.ta x.traps.length x.tc, .slice x.xa x.maps.length x.xc] := rfl
    have hcn : u.cells = [.str u.name, .str u.super, .slice u.fa u.fields.length u.fc, .slice u.ma u.meths.length u.mc] := rfl
    rw [hcu] at ht
    rw [xK_loop, drop_cons hx]
    unfold methAt at ih ⊢
    rw [List.find?_cons]
    by_cases c1 : x.name = n
    · by_cases c2 : x.desc = d
      · simp only [c1, c2, decide_true, Bool.and_self]
        generalize ACode.loop code114L0 = L'
        simp (disch := omega) [-getElem?_pos, -getElem?_neg, List.getElem?_cons_zero, List.getElem?_cons_succ, code114L0, nltT, nltF, iltT, ileT, nleT, wrapI, hpp, ht, hcn, c1, c2]
      · simp only [c1, decide_eq_false c2, Bool.and_false]
        rw [← ih]
        generalize ACode.loop code114L0 = L'
        simp (disch := omega) [-getElem?_pos, -getElem?_neg, List.getElem?_cons_zero, List.getElem?_cons_succ, code114L0, nltT, nltF, iltT, ileT, nleT, wrapI, hpp, ht, hcn, c1, c2]
    · simp only [decide_eq_false c1, Bool.false_and]
      rw [← ih]
      generalize ACode.loop code114L0 = L'
      simp (disch := omega) [-getElem?_pos, -getElem?_neg, List.getElem?_cons_zero, List.getElem?_cons_succ, code114L0, nltT, nltF, iltT, ileT, nleT, wrapI, hpp, ht, hcn, c1]

theorem m114 {L : List UnitU} {a : Option (Nat × Nat)} {c : Option Nat} {n d : Str} (hR : Row H 4 UnitU.cells L a) (hl : L.length ≤ 9223372036854775807) (hok : ∀ u ∈ L, Row H 8 MethU.cells u.meths u.ma ∧ u.meths.length ≤ 9223372036854775807) : ∀ (j i : Nat) (w : Nat), i + j = L.length → ∀ (k : AExit → St → Option (AVal × Heap)),
    ∃ e s', xK T (.loop code114L1) ⟨[(2, .val (.str n)), (3, .val (.str d)), (8, .var [.str [], .bool false]), (16, .val (.slice a L.length c)), (17, .val (.int .i64 L.length)), (18, .val (.int .i64 i))], ⟨H, b, w⟩⟩ (k := ⟨k⟩) =
      k e ⟨s', ⟨H, b, w⟩⟩ ∧ match methU (L.drop i) n d with
    | some x => e = .ret ∧ s' = [(8, .var [.str x.cls, .bool x.st]), (9, .val (.bool true))]
    | none => e = .exit 0 ∧ s' = [(8, .var [.str [], .bool false])]
  | 0, i, w, hi, k => by
    rw [xK_loop, List.drop_of_length_le (by omega)]
    refine ⟨.exit 0, [(8, .var [.str [], .bool false])], ?_, rfl, rfl⟩
    simp (disch := omega) [-getElem?_pos, -getElem?_neg, code114L1, iltF]
  | j + 1, i, w, hi, k => by
    obtain ⟨u, hu⟩ : ∃ u, L[i]? = some u := ⟨_, List.getElem?_eq_getElem (by omega)⟩
    obtain ⟨p, o, cs, rfl, hpp, hpl, hcs, ht⟩ := row_at hR hu
    obtain ⟨hr, hn⟩ := hok u (List.mem_of_getElem? hu)
    have hin := fun (s16 s17 s18 : AVal) w k => l114 (b := b) (fc := u.mc) (u := u) (n := n) (d := d) (s16 := s16) (s17 := s17) (s18 := s18) hr hn u.meths.length 0 w (by omega) k
    simp only [Int.cast_ofNat_Int, List.drop_zero] at hin
    obtain ⟨e, s', ih1, ih2⟩ := m114 (c := c) (n := n) (d := d) hR hl hok j (i + 1) w (by omega) k
    have e2 : ((i + 1 : Nat) : Int) = (i : Int) + 1 := by omega
    rw [e2] at ih1
    have hcu : u.cells = [.str u.name, .str u.super, .slice u.fa u.fields.length u.fc, .slice u.ma u.meths.length u.mc] := rfl
    rw [hcu] at ht hin
    rw [xK_loop, drop_cons hu]
    unfold methU at ih2 ⊢
    rw [List.findSome?_cons]
    generalize ACode.loop code114L1 = L' at ih1 ⊢
    cases hf : methAt u.meths n d with
    | some x =>
      rw [hf] at hin
      refine ⟨.ret, [(8, .var [.str u.name, .bool x.st]), (9, .val (.bool true))], ?_, rfl, rfl⟩
      simp (disch := omega) [-getElem?_pos, -getElem?_neg, List.getElem?_cons_zero, List.getElem?_cons_succ, code114L1, nltT, nltF, iltT, ileT, nleT, wrapI, hpp, ht, hin]
    | none =>
      rw [hf] at hin
      refine ⟨e, s', ?_, ih2⟩
      simp (disch := omega) [-getElem?_pos, -getElem?_neg, List.getElem?_cons_zero, List.getElem?_cons_succ, code114L1, nltT, nltF, iltT, ileT, nleT, wrapI, hpp, ht, hin, ih1]

theorem s114 {W : List UnitU} {a : Option (Nat × Nat)} {c : Option Nat} (hR : Row O 4 UnitU.cells W a) (hl : W.length ≤ 200) (hok : ∀ u ∈ W, u.low O.length ∧ Row O 8 MethU.cells u.meths u.ma ∧ u.meths.length ≤ 9223372036854775807) (hb : b ≤ O.length) {cl n d : Str} :
    xCall T 114 [.slice a W.length c, .str cl, .str n, .str d] ⟨O, b, w⟩ = some (foundV (methU (lineU W (W.length + 1) cl) n d), ⟨O, b, w⟩) := by
  have h112 := fun w => s112 (b := b) (w := w) (c := c) hR hl (fun u hu => (hok u hu).1) hb (n := cl)
  have hmem : ∀ v ∈ lineU W (W.length + 1) cl, Row (rowO O (lineU W (W.length + 1) cl)) 8 MethU.cells v.meths v.ma ∧ v.meths.length ≤ 9223372036854775807 := fun v hv => by
    obtain ⟨_, h2, h3⟩ := hok v (lineU_mem hv)
    exact ⟨(rowO_pre _ _).row h2, h3⟩
  have hlen : (lineU W (W.length + 1) cl).length ≤ W.length + 1 := goL_len _ _ _
  generalize lineU W (W.length + 1) cl = L at *
  rw [rowV_eq] at h112
  unfold foundV memF
  cases hf : methU L n d with
  | none =>
    have hk : ∀ c w k, xK T (.loop code114L1) ⟨[(2, .val (.str n)), (3, .val (.str d)), (8, .var [.str [], .bool false]), (16, .val (.slice (if L = [] then none else some (O.length, 0)) L.length c)), (17, .val (.int .i64 L.length)), (18, .val (.int .i64 0))], ⟨rowO O L, b, w⟩⟩ (k := ⟨k⟩) = k (.exit 0) ⟨[(8, .var [.str [], .bool false])], ⟨rowO O L, b, w⟩⟩ := fun c w k => by
      obtain ⟨e, s', h1, h2⟩ := m114 (b := b) (c := c) (n := n) (d := d) (row_rowO (O := O) (L := L)) (by omega) hmem L.length 0 w (by omega) k
      simp only [Int.cast_ofNat_Int, List.drop_zero, hf] at h1 h2
      obtain ⟨rfl, rfl⟩ := h2
      exact h1
    generalize (if L = [] then none else some (O.length, 0)) = aa at h112 hk
    generalize (if L = [] then some 0 else none) = cc at h112
    generalize rowO O L = HH at h112 hk
    simp (disch := omega) [-getElem?_pos, -getElem?_neg, List.getElem?_cons_zero, List.getElem?_cons_succ, xCallK t114, code114, h112, hk, mem0]
  | some x =>
    have hk : ∀ c w k, xK T (.loop code114L1) ⟨[(2, .val (.str n)), (3, .val (.str d)), (8, .var [.str [], .bool false]), (16, .val (.slice (if L = [] then none else some (O.length, 0)) L.length c)), (17, .val (.int .i64 L.length)), (18, .val (.int .i64 0))], ⟨rowO O L, b, w⟩⟩ (k := ⟨k⟩) = k .ret ⟨[(8, .var [.str x.cls, .bool x.st]), (9, .val (.bool true))], ⟨rowO O L, b, w⟩⟩ := fun c w k => by
      obtain ⟨e, s', h1, h2⟩ := m114 (b := b) (c := c) (n := n) (d := d) (row_rowO (O := O) (L := L)) (by omega) hmem L.length 0 w (by omega) k
      simp only [Int.cast_ofNat_Int, List.drop_zero, hf] at h1 h2
      obtain ⟨rfl, rfl⟩ := h2
      exact h1
    generalize (if L = [] then none else some (O.length, 0)) = aa at h112 hk
    generalize (if L = [] then some 0 else none) = cc at h112
    generalize rowO O L = HH at h112 hk
    simp (disch := omega) [-getElem?_pos, -getElem?_neg, List.getElem?_cons_zero, List.getElem?_cons_succ, xCallK t114, code114, h112, hk]

end Go.Abs.AbsHier

/-
  Layer 16, the reference: does a method go with the others?
-/
namespace Go.Abs.AbsHier
open Go.Abs.AbsDesc
set_option maxRecDepth 100000
set_option linter.unusedSimpArgs false
variable {os O H : List AObj} {b w : Nat}

theorem l157a {W : List UnitU} {a : Option (Nat × Nat)} {c : Option Nat} {L : List Str} {aa : Option (Nat × Nat)} {cc : Option Nat} {x4 x5 : List AVal} (hR : Row H 4 UnitU.cells W a) (hl : W.length ≤ 9223372036854775807) (hok : ∀ u ∈ W, u.low H.length) (hA : Row H 1 strC L aa) (hL : L.length ≤ 9223372036854775807) (ht : ∀ t ∈ L, t.length ≤ 9223372036854775807) :
    ∀ (j i : Nat) (w : Nat), i + j = L.length → ∀ (k : AExit → St → Option (AVal × Heap)),
    xK T (.loop code157L3) ⟨[(0, .val (.slice a W.length c)), (4, .var x4), (5, .var x5), (41, .val (.slice aa L.length cc)), (42, .val (.int .i64 L.length)), (43, .val (.int .i64 i))], ⟨H, b, w⟩⟩ (k := ⟨k⟩) =
      if (L.drop i).all (thereU W) then k (.exit 0) ⟨[(0, .val (.slice a W.length c)), (4, .var x4), (5, .var x5)], ⟨H, b, w⟩⟩ else k .ret ⟨[(6, .val (.bool false))], ⟨H, b, w⟩⟩
  | 0, i, w, hi, k => by
    rw [xK_loop, List.drop_of_length_le (by omega)]
    simp (disch := omega) [-getElem?_pos, -getElem?_neg, code157L3, iltF]
  | j + 1, i, w, hi, k => by
    obtain ⟨t, hx⟩ : ∃ t, L[i]? = some t := ⟨_, List.getElem?_eq_getElem (by omega)⟩
    obtain ⟨p, o, cs, rfl, hp, hpl, hcs, hv⟩ := row_at hA hx
    have hg : cs[o + i]? = some (.str t) := by
      have : (List.take 1 (List.drop (o + i * 1) cs))[0]? = some (.str t) := by rw [hv]; rfl
      simpa using this
    have h159 := fun w => s159 (b := b) (w := w) (c := c) hR hl hok (ht t (List.mem_of_getElem? hx))
    have ih := l157a (c := c) (cc := cc) (x4 := x4) (x5 := x5) hR hl hok hA hL ht j (i + 1) w (by omega) k
    have e2 : ((i + 1 : Nat) : Int) = (i : Int) + 1 := by omega
    rw [e2] at ih
    rw [xK_loop, drop_cons hx]
    simp only [List.all_cons]
    generalize ACode.loop code157L3 = L' at ih ⊢
    rcases Bool.eq_false_or_eq_true (thereU W t) with c1 | c1
    · simp (disch := omega) [-getElem?_pos, -getElem?_neg, -List.all_eq_true, List.getElem?_cons_zero, List.getElem?_cons_succ, code157L3, nltT, nltF, iltT, ileT, nleT, wrapI, h159, hp, hg, c1, ih]
    · simp (disch := omega) [-getElem?_pos, -getElem?_neg, -List.all_eq_true, List.getElem?_cons_zero, List.getElem?_cons_succ, code157L3, nltT, nltF, iltT, ileT, nleT, wrapI, h159, hp, hg, c1]

def trapU (W : List UnitU) (t : TrapU) : Bool := decide (t.cls = []) || (findU W t.cls).isSome

theorem l157t {W : List UnitU} {a : Option (Nat × Nat)} {c : Option Nat} {L : List TrapU} {aa : Option (Nat × Nat)} {cc : Option Nat} {x4 x5 : List AVal} (hR : Row H 4 UnitU.cells W a) (hl : W.length ≤ 9223372036854775807) (hok : ∀ u ∈ W, u.low H.length) (hA : Row H 4 TrapU.cells L aa) (hL : L.length ≤ 9223372036854775807) :
    ∀ (j i : Nat) (w : Nat), i + j = L.length → ∀ (k : AExit → St → Option (AVal × Heap)),
    xK T (.loop code157L2) ⟨[(0, .val (.slice a W.length c)), (4, .var x4), (5, .var x5), (53, .val (.slice aa L.length cc)), (54, .val (.int .i64 L.length)), (55, .val (.int .i64 i))], ⟨H, b, w⟩⟩ (k := ⟨k⟩) =
      if (L.drop i).all (trapU W) then k (.exit 2) ⟨[(0, .val (.slice a W.length c)), (4, .var x4), (5, .var x5)], ⟨H, b, w⟩⟩ else k .ret ⟨[(6, .val (.bool false))], ⟨H, b, w⟩⟩
  | 0, i, w, hi, k => by
    rw [xK_loop, List.drop_of_length_le (by omega)]
    simp (disch := omega) [-getElem?_pos, -getElem?_neg, code157L2, iltF]
  | j + 1, i, w, hi, k => by
    obtain ⟨t, hx⟩ : ∃ t, L[i]? = some t := ⟨_, List.getElem?_eq_getElem (by omega)⟩
    obtain ⟨p, o, cs, rfl, hp, hpl, hcs, hv⟩ := row_at hA hx
    have h160 := fun w => s160 (b := b) (w := w) (c := c) hR hl hok (n := t.cls)
    have hz := cellsO_len (findU W t.cls)
    have ih := l157t (c := c) (cc := cc) (x4 := x4) (x5 := x5) hR hl hok hA hL j (i + 1) w (by omega) k
    have e2 : ((i + 1 : Nat) : Int) = (i : Int) + 1 := by omega
    rw [e2] at ih
    rw [xK_loop, drop_cons hx]
    simp only [List.all_cons]
    generalize ACode.loop code157L2 = L' at ih ⊢
    unfold TrapU.cells at hv
    have ho : trapU W t = (decide (t.cls = []) || (findU W t.cls).isSome) := rfl
    generalize findU W t.cls = q at h160 hz ho
    by_cases c0 : t.cls = []
    · have ho : trapU W t = true := by rw [ho, c0]; rfl
      rw [c0] at h160
      simp (disch := omega) [-getElem?_pos, -getElem?_neg, -List.all_eq_true, List.getElem?_cons_zero, List.getElem?_cons_succ, code157L2, nltT, nltF, iltT, ileT, nleT, wrapI, h160, hz, hp, hv, c0, ho, ih]
    · cases q with
      | none =>
        have ho : trapU W t = false := by rw [ho]; simp [c0]
        simp (disch := omega) [-getElem?_pos, -getElem?_neg, -List.all_eq_true, List.getElem?_cons_zero, List.getElem?_cons_succ, code157L2, nltT, nltF, iltT, ileT, nleT, wrapI, h160, hz, hp, hv, c0, ho]
      | some q =>
        have ho : trapU W t = true := by rw [ho]; simp
        simp (disch := omega) [-getElem?_pos, -getElem?_neg, -List.all_eq_true, List.getElem?_cons_zero, List.getElem?_cons_succ, code157L2, nltT, nltF, iltT, ileT, nleT, wrapI, h160, hz, hp, hv, c0, ho, ih]

/-- Of the same name and description, and not of the same kind? -/
def oddM (m x : MethU) : Bool := decide (x.name = m.name) && (decide (x.desc = m.desc) && !decide (x.st = m.st))

theorem l157m {L : List MethU} {aa : Option (Nat × Nat)} {cc : Option Nat} {m : MethU} {x1 x2 x3 : AVal} (hA : Row H 8 MethU.cells L aa) (hL : L.length ≤ 9223372036854775807) :
    ∀ (j i : Nat) (w : Nat), i + j = L.length → ∀ (k : AExit → St → Option (AVal × Heap)),
    xK T (.loop code157L0) ⟨[(5, .var m.cells), (77, .val x1), (78, .val x2), (79, .val x3), (84, .val (.slice aa L.length cc)), (85, .val (.int .i64 L.length)), (86, .val (.int .i64 i))], ⟨H, b, w⟩⟩ (k := ⟨k⟩) =
      if (L.drop i).all (fun x => !oddM m x) then k (.exit 6) ⟨[(5, .var m.cells), (77, .val x1), (78, .val x2), (79, .val x3)], ⟨H, b, w⟩⟩ else k .ret ⟨[(6, .val (.bool false))], ⟨H, b, w⟩⟩
  | 0, i, w, hi, k => by
    rw [xK_loop, List.drop_of_length_le (by omega)]
    simp (disch := omega) [-getElem?_pos, -getElem?_neg, code157L0, iltF]
  | j + 1, i, w, hi, k => by
    obtain ⟨x, hx⟩ : ∃ x, L[i]? = some x := ⟨_, List.getElem?_eq_getElem (by omega)⟩
    obtain ⟨p, o, cs, rfl, hp, hpl, hcs, hv⟩ := row_at hA hx
    have ih := l157m (cc := cc) (m := m) (x1 := x1) (x2 := x2) (x3 := x3) hA hL j (i + 1) w (by omega) k
    have e2 : ((i + 1 : Nat) : Int) = (i : Int) + 1 := by omega
    rw [e2] at ih
    have hcm : m.cells = [.bool m.st, .str m.name, .str m.desc, .int .i64 m.stack, .int .i64 m.locals, .slice m.ca m.code.length m.cc, .slice m.ta m.traps.length m.tc, .slice m.xa m.maps.length m.xc] := rfl
    have hcx : x.cells = [.bool x.st, .str x.name, .str x.desc, .int .i64 x.stack, .int .i64 x.locals, .slice x.ca x.code.length x.cc, .slice x.ta x.traps.length x.tc, .slice x.xa x.maps.length x.xc] := rfl
    rw [hcm] at ih ⊢
    rw [hcx] at hv
    rw [xK_loop, drop_cons hx]
    simp only [List.all_cons]
    generalize ACode.loop code157L0 = L' at ih ⊢
    have ho : oddM m x = (decide (x.name = m.name) && (decide (x.desc = m.desc) && !decide (x.st = m.st))) := rfl
    by_cases c1 : x.name = m.name
    · by_cases c2 : x.desc = m.desc
      · by_cases c3 : x.st = m.st
        · have ho : oddM m x = false := by rw [ho, c1, c2, c3]; simp
          simp (disch := omega) [-getElem?_pos, -getElem?_neg, -List.all_eq_true, List.getElem?_cons_zero, List.getElem?_cons_succ, code157L0, nltT, nltF, iltT, ileT, nleT, wrapI, hp, hv, c1, c2, c3, ho, ih]
        · have ho : oddM m x = true := by rw [ho]; simp [c1, c2, c3]
          simp (disch := omega) [-getElem?_pos, -getElem?_neg, -List.all_eq_true, List.getElem?_cons_zero, List.getElem?_cons_succ, code157L0, nltT, nltF, iltT, ileT, nleT, wrapI, hp, hv, c1, c2, c3, ho]
      · have ho : oddM m x = false := by rw [ho]; simp [c1, c2]
        simp (disch := omega) [-getElem?_pos, -getElem?_neg, -List.all_eq_true, List.getElem?_cons_zero, List.getElem?_cons_succ, code157L0, nltT, nltF, iltT, ileT, nleT, wrapI, hp, hv, c1, c2, ho, ih]
    · have ho : oddM m x = false := by rw [ho]; simp [c1]
      simp (disch := omega) [-getElem?_pos, -getElem?_neg, -List.all_eq_true, List.getElem?_cons_zero, List.getElem?_cons_succ, code157L0, nltT, nltF, iltT, ileT, nleT, wrapI, hp, hv, c1, ho, ih]

def evenM (m : MethU) (v : UnitU) : Bool := v.meths.all fun x => !oddM m x

theorem l157l {L : List UnitU} {aa : Option (Nat × Nat)} {cc : Option Nat} {m : MethU} (hA : Row H 4 UnitU.cells L aa) (hL : L.length ≤ 9223372036854775807) (hm : ∀ u ∈ L, Row H 8 MethU.cells u.meths u.ma ∧ u.meths.length ≤ 9223372036854775807) :
    ∀ (j i : Nat) (w : Nat), i + j = L.length → ∀ (k : AExit → St → Option (AVal × Heap)),
    xK T (.loop code157L1) ⟨[(5, .var m.cells), (77, .val (.slice aa L.length cc)), (78, .val (.int .i64 L.length)), (79, .val (.int .i64 i))], ⟨H, b, w⟩⟩ (k := ⟨k⟩) =
      if (L.drop i).all (evenM m) then k (.exit 4) ⟨[], ⟨H, b, w⟩⟩ else k .ret ⟨[(6, .val (.bool false))], ⟨H, b, w⟩⟩
  | 0, i, w, hi, k => by
    rw [xK_loop, List.drop_of_length_le (by omega)]
    simp (disch := omega) [-getElem?_pos, -getElem?_neg, code157L1, iltF]
  | j + 1, i, w, hi, k => by
    obtain ⟨u, hx⟩ : ∃ u, L[i]? = some u := ⟨_, List.getElem?_eq_getElem (by omega)⟩
    obtain ⟨p, o, cs, rfl, hp, hpl, hcs, hv⟩ := row_at hA hx
    obtain ⟨h1, h2⟩ := hm u (List.mem_of_getElem? hx)
    have hin := fun (x1 x2 x3 : AVal) w k => l157m (b := b) (cc := u.mc) (m := m) (x1 := x1) (x2 := x2) (x3 := x3) h1 h2 u.meths.length 0 w (by omega) k
    simp only [Int.cast_ofNat_Int, List.drop_zero] at hin
    have ih := l157l (cc := cc) (m := m) hA hL hm j (i + 1) w (by omega) k
    have e2 : ((i + 1 : Nat) : Int) = (i : Int) + 1 := by omega
    rw [e2] at ih
    have hcu : u.cells = [.str u.name, .str u.super, .slice u.fa u.fields.length u.fc, .slice u.ma u.meths.length u.mc] := rfl
    rw [hcu] at hv
    rw [xK_loop, drop_cons hx]
    simp only [List.all_cons]
    generalize ACode.loop code157L1 = L' at ih ⊢
    have ho : evenM m u = u.meths.all fun x => !oddM m x := rfl
    rw [← ho] at hin
    generalize m.cells = mc at ih hin ⊢
    rcases Bool.eq_false_or_eq_true (evenM m u) with c1 | c1
    · rw [c1] at hin
      simp only [if_true] at hin
      simp (disch := omega) [-getElem?_pos, -getElem?_neg, -List.all_eq_true, List.getElem?_cons_zero, List.getElem?_cons_succ, code157L1, nltT, nltF, iltT, ileT, nleT, wrapI, hp, hv, c1, hin, ih]
    · rw [c1] at hin
      simp only [Bool.false_eq_true, if_false] at hin
      simp (disch := omega) [-getElem?_pos, -getElem?_neg, -List.all_eq_true, List.getElem?_cons_zero, List.getElem?_cons_succ, code157L1, nltT, nltF, iltT, ileT, nleT, wrapI, hp, hv, c1, hin]

def methodU (W : List UnitU) (u : UnitU) (m : MethU) : Bool := match methL m.desc with
  | some (A, r) => isName m.name && (thereU W r && (A.all (thereU W) && (m.traps.all (trapU W) && (lineU W (W.length + 1) u.name).all (evenM m))))
  | none => false

/-- What is asked of the memory by the reference's functions. -/
structure Units (O : List AObj) (W : List UnitU) (a : Option (Nat × Nat)) : Prop where
  r : Row O 4 UnitU.cells W a
  n : W.length ≤ 200
  ok : ∀ u ∈ W, u.ok O

theorem Units.pre {O O' : List AObj} {W : List UnitU} {a : Option (Nat × Nat)} (h : Units O W a) (hp : Pre O O') : Units O' W a := ⟨hp.row h.r, h.n, fun u hu => (h.ok u hu).pre hp⟩
theorem Units.low {O : List AObj} {W : List UnitU} {a : Option (Nat × Nat)} (h : Units O W a) : ∀ u ∈ W, u.low O.length := fun u hu => (h.ok u hu).low
theorem Units.len {O : List AObj} {W : List UnitU} {a : Option (Nat × Nat)} (h : Units O W a) : W.length ≤ 9223372036854775807 := Nat.le_trans h.n (by decide)

theorem methO_pre (O : List AObj) (q : Option (List Str × Str)) : Pre O (methO O q) := by
  unfold methO
  split
  · exact Pre.app _ _
  · exact Pre.refl _

/-- Where a method's types lie. -/
def argA (n : Nat) : List Str → Option (Nat × Nat)
  | [] => none
  | _ :: _ => some (n, 0)
def argC : List Str → Option Nat
  | [] => some 0
  | _ :: _ => none

theorem s157 {W : List UnitU} {a : Option (Nat × Nat)} {c : Option Nat} (hW : Units O W a) {u : UnitU} {m : MethU} (hm : m.ok O) (hb : b ≤ O.length) :
    xCall T 157 [.slice a W.length c, .agg u.cells, .agg m.cells] ⟨O, b, w⟩ = some (.bool (methodU W u m), ⟨O, b, w⟩) := by
  have hmd : m.desc.length ≤ 9223372036854775807 := hm.desc
  have hmn : m.name.length ≤ 9223372036854775807 := hm.name
  have h37 := fun w => s37 (os := O) (b := b) (w := w) (s := m.desc) hmd hb
  have hcm : m.cells = [.bool m.st, .str m.name, .str m.desc, .int .i64 m.stack, .int .i64 m.locals, .slice m.ca m.code.length m.cc, .slice m.ta m.traps.length m.tc, .slice m.xa m.maps.length m.xc] := rfl
  have hcu : u.cells = [.str u.name, .str u.super, .slice u.fa u.fields.length u.fc, .slice u.ma u.meths.length u.mc] := rfl
  unfold methodU
  cases hq : methL m.desc with
  | none =>
    rw [hq] at h37
    simp only [methV, methO] at h37
    have h158 := fun w => s158 (O := O) (b := b) (w := w) hmn
    cases c0 : isName m.name with
    | false => simp (disch := omega) [-getElem?_pos, -getElem?_neg, -List.all_eq_true, List.getElem?_cons_zero, List.getElem?_cons_succ, xCallK t157, code157, h37, h158, nltT, nltF, iltT, ileT, nleT, hcm, hcu, c0]
    | true => simp (disch := omega) [-getElem?_pos, -getElem?_neg, -List.all_eq_true, List.getElem?_cons_zero, List.getElem?_cons_succ, xCallK t157, code157, h37, h158, nltT, nltF, iltT, ileT, nleT, hcm, hcu, c0]
  | some q =>
    obtain ⟨A, r⟩ := q
    obtain ⟨q1, q2, q3⟩ := methL_len hq
    -- the memory behind the description
    have hp1 := methO_pre O (methL m.desc)
    rw [hq] at h37 hp1
    have hW1 := hW.pre hp1
    have hm1 := hm.pre hp1
    have hrow : Row (methO O (some (A, r))) 1 strC A (argA O.length A) := by
      cases A with
      | nil => exact ⟨fun h => absurd rfl h⟩
      | cons x A => exact Row.mk0 (fun _ => rfl) (by simp only [methO]; rw [get_k0, flat_strs]; rfl)
    have hv : methV O.length (some (A, r)) = .tuple [.slice (argA O.length A) A.length (argC A), .str r, .int .i64 0] := by cases A <;> rfl
    rw [hv] at h37
    have hb1 : b ≤ (methO O (some (A, r))).length := Nat.le_trans hb hp1.len
    have hlenO := hp1.len
    clear hv
    generalize argA O.length A = aa at h37 hrow
    generalize argC A = cc at h37
    generalize methO O (some (A, r)) = H at h37 hp1 hW1 hm1 hrow hb1 hlenO
    have h158 := fun w => s158 (O := H) (b := b) (w := w) hmn
    have h159 := fun w => s159 (b := b) (w := w) (c := c) hW1.r hW1.len hW1.low (t := r) (by omega)
    have hk1 := fun x4 x5 w k => l157a (b := b) (c := c) (cc := cc) (x4 := x4) (x5 := x5) hW1.r hW1.len hW1.low hrow (by omega) (fun t ht => by have := q3 t ht; omega) A.length 0 w (by omega) k
    have hk2 := fun x4 x5 w k => l157t (b := b) (c := c) (cc := m.tc) (x4 := x4) (x5 := x5) hW1.r hW1.len hW1.low hm1.t hm1.tn m.traps.length 0 w (by omega) k
    have h112 := fun w => s112 (b := b) (w := w) (c := c) hW1.r hW1.n hW1.low hb1 (n := u.name)
    rw [rowV_eq] at h112
    have hlen : (lineU W (W.length + 1) u.name).length ≤ W.length + 1 := goL_len _ _ _
    have hWn := hW.n
    have hmem : ∀ v ∈ lineU W (W.length + 1) u.name, Row (rowO H (lineU W (W.length + 1) u.name)) 8 MethU.cells v.meths v.ma ∧ v.meths.length ≤ 9223372036854775807 := fun v hv => by
      have := hW1.ok v (lineU_mem hv)
      exact ⟨(rowO_pre _ _).row this.m, this.mn⟩
    have hk3 := fun cc w k => l157l (b := b) (cc := cc) (m := m) row_rowO (by omega) hmem (lineU W (W.length + 1) u.name).length 0 w (by omega) k
    simp only [Int.cast_ofNat_Int, List.drop_zero] at hk1 hk2 hk3
    generalize lineU W (W.length + 1) u.name = L at *
    generalize (if L = [] then none else some (H.length, 0)) = la at h112 hk3
    generalize (if L = [] then some 0 else none : Option Nat) = lc at h112
    generalize rowO H L = H2 at h112 hk3
    rw [hcm, hcu] at *
    simp only
    cases c0 : isName m.name with
    | false => simp (disch := omega) [-getElem?_pos, -getElem?_neg, -List.all_eq_true, List.getElem?_cons_zero, List.getElem?_cons_succ, xCallK t157, code157, h37, h158, nltT, nltF, iltT, ileT, nleT, c0]
    | true =>
      cases c1 : thereU W r with
      | false => simp (disch := omega) [-getElem?_pos, -getElem?_neg, -List.all_eq_true, List.getElem?_cons_zero, List.getElem?_cons_succ, xCallK t157, code157, h37, h158, nltT, nltF, iltT, ileT, nleT, h159, c0, c1]
      | true =>
        cases c2 : A.all (thereU W) with
        | false =>
          simp only [c2, Bool.false_eq_true, if_false] at hk1
          simp (disch := omega) [-getElem?_pos, -getElem?_neg, -List.all_eq_true, List.getElem?_cons_zero, List.getElem?_cons_succ, xCallK t157, code157, h37, h158, nltT, nltF, iltT, ileT, nleT, h159, hk1, c0, c1, c2]
        | true =>
          simp only [c2, if_true] at hk1
          cases c3 : m.traps.all (trapU W) with
          | false =>
            simp only [c3, Bool.false_eq_true, if_false] at hk2
            simp (disch := omega) [-getElem?_pos, -getElem?_neg, -List.all_eq_true, List.getElem?_cons_zero, List.getElem?_cons_succ, xCallK t157, code157, h37, h158, nltT, nltF, iltT, ileT, nleT, h159, hk1, hk2, c0, c1, c2, c3]
          | true =>
            simp only [c3, if_true] at hk2
            cases c4 : L.all (evenM m) with
            | false =>
              simp only [c4, Bool.false_eq_true, if_false] at hk3
              simp (disch := omega) [-getElem?_pos, -getElem?_neg, -List.all_eq_true, List.getElem?_cons_zero, List.getElem?_cons_succ, xCallK t157, code157, h37, h158, nltT, nltF, iltT, ileT, nleT, h159, hk1, hk2, hk3, h112, c0, c1, c2, c3, c4]
            | true =>
              simp only [c4, if_true] at hk3
              simp (disch := omega) [-getElem?_pos, -getElem?_neg, -List.all_eq_true, List.getElem?_cons_zero, List.getElem?_cons_succ, xCallK t157, code157, h37, h158, nltT, nltF, iltT, ileT, nleT, h159, hk1, hk2, hk3, h112, c0, c1, c2, c3, c4]

end Go.Abs.AbsHier

/-
  Units that come in.
-/
namespace Go.Abs

/-! ## Nothing takes more bytes than there are addresses -/

def FieldU.fits (x : FieldU) : Prop := x.name.length ≤ reachB ∧ x.desc.length ≤ reachB
def InsU.fits (x : InsU) : Prop := x.cls.length ≤ reachB ∧ x.name.length ≤ reachB ∧ x.desc.length ≤ reachB ∧ x.text.length ≤ reachB
def TrapU.fits (x : TrapU) : Prop := x.cls.length ≤ reachB
structure MapU.fits (x : MapU) : Prop where
  l : x.locals.length ≤ reachB
  s : x.stack.length ≤ reachB
  ls : ∀ t ∈ x.locals, t.length ≤ reachB
  ss : ∀ t ∈ x.stack, t.length ≤ reachB
structure MethU.fits (m : MethU) : Prop where
  name : m.name.length ≤ reachB
  desc : m.desc.length ≤ reachB
  c : m.code.length ≤ reachB
  cs : ∀ x ∈ m.code, x.fits
  t : m.traps.length ≤ reachB
  ts : ∀ x ∈ m.traps, x.fits
  x : m.maps.length ≤ reachB
  xs : ∀ x ∈ m.maps, x.fits
/-- Rows have room for what they hold. -/
structure UnitU.cap (u : UnitU) : Prop where
  f : ∀ k, u.fc = some k → u.fields.length ≤ k
  m : ∀ k, u.mc = some k → u.meths.length ≤ k
structure UnitU.fits (u : UnitU) : Prop where
  name : u.name.length ≤ reachB
  super : u.super.length ≤ reachB
  f : u.fields.length ≤ reachB
  fs : ∀ x ∈ u.fields, x.fits
  m : u.meths.length ≤ reachB
  ms : ∀ x ∈ u.meths, x.fits
  cap : u.cap

section
variable {os : List AObj} {b w : Nat} {d : Dat} {cs : List AVal}

theorem has_strC (h : Has ⟨os, b, w⟩ .str d cs) : ∃ x : Str, cs = strC x ∧ x.length ≤ reachB := by
  obtain ⟨s, _, rfl, hs⟩ := h.str
  exact ⟨s, rfl, hs⟩

theorem has_field (h : Has ⟨os, b, w⟩ shField d cs) : ∃ x : FieldU, cs = x.cells ∧ x.fits := by
  obtain ⟨l, rfl, h⟩ := h.struct
  obtain ⟨_, _, _, _, rfl, rfl, h1, h⟩ := h.cons
  obtain ⟨_, _, _, _, rfl, rfl, h2, h⟩ := h.cons
  obtain ⟨_, _, _, _, rfl, rfl, h3, h⟩ := h.cons
  obtain ⟨rfl, rfl⟩ := h.nil
  obtain ⟨st, _, rfl⟩ := h1.bool
  obtain ⟨n, _, rfl, hn⟩ := h2.str
  obtain ⟨e, _, rfl, he⟩ := h3.str
  exact ⟨⟨st, n, e⟩, rfl, hn, he⟩

theorem has_ins (h : Has ⟨os, b, w⟩ shIns d cs) : ∃ x : InsU, cs = x.cells ∧ x.fits := by
  obtain ⟨l, rfl, h⟩ := h.struct
  obtain ⟨_, _, _, _, rfl, rfl, h1, h⟩ := h.cons
  obtain ⟨_, _, _, _, rfl, rfl, h2, h⟩ := h.cons
  obtain ⟨_, _, _, _, rfl, rfl, h3, h⟩ := h.cons
  obtain ⟨_, _, _, _, rfl, rfl, h4, h⟩ := h.cons
  obtain ⟨_, _, _, _, rfl, rfl, h5, h⟩ := h.cons
  obtain ⟨_, _, _, _, rfl, rfl, h6, h⟩ := h.cons
  obtain ⟨_, _, _, _, rfl, rfl, h7, h⟩ := h.cons
  obtain ⟨rfl, rfl⟩ := h.nil
  obtain ⟨op, _, rfl, _⟩ := h1.int
  obtain ⟨n, _, rfl, _⟩ := h2.int
  obtain ⟨m, _, rfl, _⟩ := h3.int
  obtain ⟨c, _, rfl, hc⟩ := h4.str
  obtain ⟨nm, _, rfl, hn⟩ := h5.str
  obtain ⟨e, _, rfl, he⟩ := h6.str
  obtain ⟨t, _, rfl, ht⟩ := h7.str
  exact ⟨⟨op, n, m, c, nm, e, t⟩, rfl, hc, hn, he, ht⟩

theorem has_trap (h : Has ⟨os, b, w⟩ shTrap d cs) : ∃ x : TrapU, cs = x.cells ∧ x.fits := by
  obtain ⟨l, rfl, h⟩ := h.struct
  obtain ⟨_, _, _, _, rfl, rfl, h1, h⟩ := h.cons
  obtain ⟨_, _, _, _, rfl, rfl, h2, h⟩ := h.cons
  obtain ⟨_, _, _, _, rfl, rfl, h3, h⟩ := h.cons
  obtain ⟨_, _, _, _, rfl, rfl, h4, h⟩ := h.cons
  obtain ⟨rfl, rfl⟩ := h.nil
  obtain ⟨p, _, rfl, _⟩ := h1.int
  obtain ⟨q, _, rfl, _⟩ := h2.int
  obtain ⟨r, _, rfl, _⟩ := h3.int
  obtain ⟨c, _, rfl, hc⟩ := h4.str
  exact ⟨⟨p, q, r, c⟩, rfl, hc⟩

theorem big_of {n : Nat} (h : n ≤ reachB) : n ≤ big := by
  have : n ≤ 140737488351232 := h
  show n ≤ 9223372036854775807
  omega

theorem under_of {n m : Nat} {a : Option (Nat × Nat)} (h : ∀ i o, a = some (i, o) → i < n) (hm : n ≤ m) : under m a := fun i o e => Nat.lt_of_lt_of_le (h i o e) hm

theorem has_map (hb : b ≤ os.length) (h : Has ⟨os, b, w⟩ shMap d cs) : ∃ x : MapU, cs = x.cells ∧ x.ok os ∧ x.fits := by
  obtain ⟨l, rfl, h⟩ := h.struct
  obtain ⟨_, _, _, _, rfl, rfl, h1, h⟩ := h.cons
  obtain ⟨_, _, _, _, rfl, rfl, h2, h⟩ := h.cons
  obtain ⟨_, _, _, _, rfl, rfl, h3, h⟩ := h.cons
  obtain ⟨rfl, rfl⟩ := h.nil
  obtain ⟨p, _, rfl, _⟩ := h1.int
  obtain ⟨la, L, lc, rfl, hL, hLn, hLs, hLu, _⟩ := h2.row fun d c h => has_strC h
  obtain ⟨sa, S, sc, rfl, hS, hSn, hSs, hSu, _⟩ := h3.row fun d c h => has_strC h
  exact ⟨⟨p, L, la, lc, S, sa, sc⟩, rfl, ⟨hL, big_of hLn, under_of hLu hb, hS, big_of hSn, under_of hSu hb, fun t ht => by
    rcases List.mem_append.1 ht with ht | ht
    · exact big_of (hLs t ht)
    · exact big_of (hSs t ht)⟩, ⟨hLn, hSn, hLs, hSs⟩⟩

theorem has_meth (hb : b ≤ os.length) (h : Has ⟨os, b, w⟩ shMeth d cs) : ∃ x : MethU, cs = x.cells ∧ x.ok os ∧ x.fits := by
  obtain ⟨l, rfl, h⟩ := h.struct
  obtain ⟨_, _, _, _, rfl, rfl, h1, h⟩ := h.cons
  obtain ⟨_, _, _, _, rfl, rfl, h2, h⟩ := h.cons
  obtain ⟨_, _, _, _, rfl, rfl, h3, h⟩ := h.cons
  obtain ⟨_, _, _, _, rfl, rfl, h4, h⟩ := h.cons
  obtain ⟨_, _, _, _, rfl, rfl, h5, h⟩ := h.cons
  obtain ⟨_, _, _, _, rfl, rfl, h6, h⟩ := h.cons
  obtain ⟨_, _, _, _, rfl, rfl, h7, h⟩ := h.cons
  obtain ⟨_, _, _, _, rfl, rfl, h8, h⟩ := h.cons
  obtain ⟨rfl, rfl⟩ := h.nil
  obtain ⟨st, _, rfl⟩ := h1.bool
  obtain ⟨n, _, rfl, hn⟩ := h2.str
  obtain ⟨e, _, rfl, he⟩ := h3.str
  obtain ⟨p, _, rfl, _⟩ := h4.int
  obtain ⟨q, _, rfl, _⟩ := h5.int
  obtain ⟨ca, C, cc, rfl, hC, hCn, hCs, hCu, _⟩ := h6.row fun d c h => has_ins h
  obtain ⟨ta, T, tc, rfl, hT, hTn, hTs, hTu, _⟩ := h7.row fun d c h => has_trap h
  obtain ⟨xa, X, xc, rfl, hX, hXn, hXs, hXu, _⟩ := h8.row (ok := fun x : MapU => x.ok os ∧ x.fits) fun d c h => has_map hb h
  exact ⟨⟨st, n, e, p, q, C, ca, cc, T, ta, tc, X, xa, xc⟩, rfl,
    ⟨big_of hn, big_of he, hC, big_of hCn, under_of hCu hb, fun x hx => ⟨big_of (hCs x hx).1, big_of (hCs x hx).2.1, big_of (hCs x hx).2.2.1, big_of (hCs x hx).2.2.2⟩, hT, big_of hTn, under_of hTu hb, fun x hx => big_of (hTs x hx), hX, big_of hXn, under_of hXu hb, fun x hx => (hXs x hx).1⟩,
    ⟨hn, he, hCn, hCs, hTn, hTs, hXn, fun x hx => (hXs x hx).2⟩⟩

theorem has_cap {e : Sh} {a : Option (Nat × Nat)} {n : Nat} {c : Option Nat} (h : Has ⟨os, b, w⟩ (.slice e) d [.slice a n c]) : ∀ k, c = some k → n ≤ k := by
  intro k hk
  cases d <;> simp only [Has] at h
  · simp only [List.cons.injEq, AVal.slice.injEq] at h
    omega
  · obtain ⟨_, _, _, h1, _⟩ := h
    simp only [List.cons.injEq, AVal.slice.injEq] at h1
    obtain ⟨⟨_, _, h3⟩, _⟩ := h1
    rw [h3] at hk; cases hk

theorem has_unit (hb : b ≤ os.length) (h : Has ⟨os, b, w⟩ shUnit d cs) : ∃ x : UnitU, cs = x.cells ∧ x.ok os ∧ x.fits := by
  obtain ⟨l, rfl, h⟩ := h.struct
  obtain ⟨_, _, _, _, rfl, rfl, h1, h⟩ := h.cons
  obtain ⟨_, _, _, _, rfl, rfl, h2, h⟩ := h.cons
  obtain ⟨_, _, _, _, rfl, rfl, h3, h⟩ := h.cons
  obtain ⟨_, _, _, _, rfl, rfl, h4, h⟩ := h.cons
  obtain ⟨rfl, rfl⟩ := h.nil
  obtain ⟨n, _, rfl, hn⟩ := h1.str
  obtain ⟨e, _, rfl, he⟩ := h2.str
  obtain ⟨fa, F, fc, rfl, hF, hFn, hFs, hFu, _⟩ := h3.row fun d c h => has_field h
  obtain ⟨ma, M, mc, rfl, hM, hMn, hMs, hMu, _⟩ := h4.row (ok := fun x : MethU => x.ok os ∧ x.fits) fun d c h => has_meth hb h
  exact ⟨⟨n, e, F, fa, fc, M, ma, mc⟩, rfl,
    ⟨big_of hn, big_of he, hF, big_of hFn, under_of hFu hb, fun x hx => ⟨big_of (hFs x hx).1, big_of (hFs x hx).2⟩, hM, big_of hMn, under_of hMu hb, fun x hx => (hMs x hx).1⟩,
    ⟨hn, he, hFn, hFs, hMn, fun x hx => (hMs x hx).2, has_cap h3, has_cap h4⟩⟩

/-- A slice of units. -/
theorem has_units (hb : b ≤ os.length) (h : Has ⟨os, b, w⟩ (.slice shUnit) d cs) : ∃ (a : Option (Nat × Nat)) (L : List UnitU) (c : Option Nat), cs = [.slice a L.length c] ∧ Row os 4 UnitU.cells L a ∧ L.length ≤ reachB ∧ (∀ x ∈ L, x.ok os ∧ x.fits) ∧ under os.length a := by
  obtain ⟨a, L, c, h1, h2, h3, h4, h5, _⟩ := h.row (ok := fun x : UnitU => x.ok os ∧ x.fits) fun d c h => has_unit hb h
  exact ⟨a, L, c, h1, h2, h3, h4, under_of h5 hb⟩

end
end Go.Abs

/-
  Layer 16, the reference: does a unit go with the others?
-/
namespace Go.Abs.AbsHier
open Go.Abs.AbsDesc
set_option maxRecDepth 100000
set_option linter.unusedSimpArgs false
variable {os O H : List AObj} {b w : Nat}

theorem row_take {α : Type} {e : Nat} {f : α → List AVal} {L : List α} {a : Option (Nat × Nat)} (h : Row H e f L a) (i : Nat) : Row H e f (L.take i) a :=
  ⟨fun hne => by
    obtain ⟨p, o, cs, h1, h2, h3⟩ := h.at' (fun e => hne (by rw [e, List.take_nil]))
    refine ⟨p, o, cs, h1, h2, fun j x hx => h3 j x ?_⟩
    have hj := lt_of_get hx
    rw [List.length_take] at hj
    rw [List.getElem?_take_of_lt (by omega)] at hx
    exact hx⟩

theorem l106f {L : List FieldU} {a : Option (Nat × Nat)} {c : Option Nat} {f : FieldU} {x0 x50 x51 x52 : AVal} {x3 : List AVal} (hR : Row H 3 FieldU.cells L a) (hL : L.length ≤ 9223372036854775807) : ∀ (j i : Nat) (w : Nat), i + j = L.length → ∀ (k : AExit → St → Option (AVal × Heap)),
    xK T (.loop code106L2) ⟨[(0, .val x0), (3, .var x3), (7, .var f.cells), (50, .val x50), (51, .val x51), (52, .val x52), (77, .val (.slice a L.length c)), (78, .val (.int .i64 L.length)), (79, .val (.int .i64 i))], ⟨H, b, w⟩⟩ (k := ⟨k⟩) =
      if (L.drop i).all (fun g => !decide (f.name = g.name)) then k (.exit 2) ⟨[(0, .val x0), (3, .var x3), (50, .val x50), (51, .val x51), (52, .val x52)], ⟨H, b, w⟩⟩ else k .ret ⟨[(4, .val (.bool false))], ⟨H, b, w⟩⟩
  | 0, i, w, hi, k => by
    rw [xK_loop, List.drop_of_length_le (by omega)]
    simp (disch := omega) [-getElem?_pos, -getElem?_neg, code106L2, iltF]
  | j + 1, i, w, hi, k => by
    obtain ⟨g, hx⟩ : ∃ g, L[i]? = some g := ⟨_, List.getElem?_eq_getElem (by omega)⟩
    obtain ⟨p, o, cs, rfl, hp, hpl, hcs, hv⟩ := row_at hR hx
    have ih := l106f (c := c) (f := f) (x0 := x0) (x50 := x50) (x51 := x51) (x52 := x52) (x3 := x3) hR hL j (i + 1) w (by omega) k
    have e2 : ((i + 1 : Nat) : Int) = (i : Int) + 1 := by omega
    rw [e2] at ih
    unfold FieldU.cells at hv ih ⊢
    rw [xK_loop, drop_cons hx]
    simp only [List.all_cons]
    generalize ACode.loop code106L2 = L' at ih ⊢
    by_cases c1 : f.name = g.name
    · simp only [c1, decide_true, Bool.not_true, Bool.false_and]
      simp (disch := omega) [-getElem?_pos, -getElem?_neg, -List.all_eq_true, List.getElem?_cons_zero, List.getElem?_cons_succ, code106L2, nltT, nltF, iltT, ileT, nleT, wrapI, hp, hv, c1]
    · simp only [decide_eq_false c1, Bool.not_false, Bool.true_and]
      simp (disch := omega) [-getElem?_pos, -getElem?_neg, -List.all_eq_true, List.getElem?_cons_zero, List.getElem?_cons_succ, code106L2, nltT, nltF, iltT, ileT, nleT, wrapI, hp, hv, c1, ih]

theorem l106m {L : List MethU} {a : Option (Nat × Nat)} {c : Option Nat} {m : MethU} {x0 x91 x92 x93 : AVal} {x3 : List AVal} (hR : Row H 8 MethU.cells L a) (hL : L.length ≤ 9223372036854775807) : ∀ (j i : Nat) (w : Nat), i + j = L.length → ∀ (k : AExit → St → Option (AVal × Heap)),
    xK T (.loop code106L0) ⟨[(0, .val x0), (3, .var x3), (11, .var m.cells), (91, .val x91), (92, .val x92), (93, .val x93), (106, .val (.slice a L.length c)), (107, .val (.int .i64 L.length)), (108, .val (.int .i64 i))], ⟨H, b, w⟩⟩ (k := ⟨k⟩) =
      if (L.drop i).all (fun g => !(decide (m.name = g.name) && decide (m.desc = g.desc))) then k (.exit 6) ⟨[(0, .val x0), (3, .var x3), (91, .val x91), (92, .val x92), (93, .val x93)], ⟨H, b, w⟩⟩ else k .ret ⟨[(4, .val (.bool false))], ⟨H, b, w⟩⟩
  | 0, i, w, hi, k => by
    rw [xK_loop, List.drop_of_length_le (by omega)]
    simp (disch := omega) [-getElem?_pos, -getElem?_neg, code106L0, iltF]
  | j + 1, i, w, hi, k => by
    obtain ⟨g, hx⟩ : ∃ g, L[i]? = some g := ⟨_, List.getElem?_eq_getElem (by omega)⟩
    obtain ⟨p, o, cs, rfl, hp, hpl, hcs, hv⟩ := row_at hR hx
    have ih := l106m (c := c) (m := m) (x0 := x0) (x91 := x91) (x92 := x92) (x93 := x93) (x3 := x3) hR hL j (i + 1) w (by omega) k
    have e2 : ((i + 1 : Nat) : Int) = (i : Int) + 1 := by omega
    rw [e2] at ih
    unfold MethU.cells at hv ih ⊢
    rw [xK_loop, drop_cons hx]
    simp only [List.all_cons]
    generalize ACode.loop code106L0 = L' at ih ⊢
    by_cases c1 : m.name = g.name
    · by_cases c2 : m.desc = g.desc
      · simp only [c1, c2, decide_true, Bool.and_self, Bool.not_true, Bool.false_and]
        simp (disch := omega) [-getElem?_pos, -getElem?_neg, -List.all_eq_true, List.getElem?_cons_zero, List.getElem?_cons_succ, code106L0, nltT, nltF, iltT, ileT, nleT, wrapI, hp, hv, c1, c2]
      · simp only [decide_eq_false c2, Bool.and_false, Bool.not_false, Bool.true_and]
        rw [c1] at ih
        simp (disch := omega) [-getElem?_pos, -getElem?_neg, -List.all_eq_true, List.getElem?_cons_zero, List.getElem?_cons_succ, code106L0, nltT, nltF, iltT, ileT, nleT, wrapI, hp, hv, c1, c2, ih]
    · simp only [decide_eq_false c1, Bool.false_and, Bool.not_false, Bool.true_and]
      simp (disch := omega) [-getElem?_pos, -getElem?_neg, -List.all_eq_true, List.getElem?_cons_zero, List.getElem?_cons_succ, code106L0, nltT, nltF, iltT, ileT, nleT, wrapI, hp, hv, c1, ih]

def fieldsU (W : List UnitU) : List FieldU → List FieldU → Bool
  | _, [] => true
  | A, f :: r => isName f.name && (isTy f.desc && (thereU W f.desc && (A.all (fun g => !decide (f.name = g.name)) && fieldsU W (A ++ [f]) r)))
def methsU (W : List UnitU) (u : UnitU) : List MethU → List MethU → Bool
  | _, [] => true
  | A, m :: r => methodU W u m && (A.all (fun g => !(decide (m.name = g.name) && decide (m.desc = g.desc))) && methsU W u (A ++ [m]) r)

theorem bounds_to {n i : Nat} {c : Option Nat} (hi : i ≤ n) (hc : ∀ k, c = some k → n ≤ k) : bounds n c none (some (.int .i64 i)) none = some (0, i, c) := by
  unfold bounds upTo lowB
  cases c with
  | none =>
    simp only [Option.getD_none]
    rw [if_pos ⟨by omega, by omega⟩]
    simp
  | some k =>
    have := hc k rfl
    simp only [Option.getD_some]
    rw [if_pos ⟨by omega, by omega⟩]
    simp

theorem l106F {W : List UnitU} {a : Option (Nat × Nat)} {c : Option Nat} (hW : Units O W a) {u : UnitU} (hu : u.ok O) (hc : u.cap) (hb : b ≤ O.length) : ∀ (j i : Nat) (w : Nat), i + j = u.fields.length → ∀ (k : AExit → St → Option (AVal × Heap)),
    xK T (.loop code106L3) ⟨[(0, .val (.slice a W.length c)), (3, .var u.cells), (50, .val (.slice u.fa u.fields.length u.fc)), (51, .val (.int .i64 u.fields.length)), (52, .val (.int .i64 i))], ⟨O, b, w⟩⟩ (k := ⟨k⟩) =
      if fieldsU W (u.fields.take i) (u.fields.drop i) then k (.exit 0) ⟨[(0, .val (.slice a W.length c)), (3, .var u.cells)], ⟨O, b, w⟩⟩ else k .ret ⟨[(4, .val (.bool false))], ⟨O, b, w⟩⟩
  | 0, i, w, hi, k => by
    rw [xK_loop, List.drop_of_length_le (by omega)]
    simp (disch := omega) [-getElem?_pos, -getElem?_neg, code106L3, iltF, fieldsU]
  | j + 1, i, w, hi, k => by
    obtain ⟨f, hx⟩ : ∃ f, u.fields[i]? = some f := ⟨_, List.getElem?_eq_getElem (by omega)⟩
    obtain ⟨p, o, cs, ha, hp, hpl, hcs, hv⟩ := row_at hu.f hx
    have hfn : u.fields.length ≤ 9223372036854775807 := hu.fn
    obtain ⟨hn1, hn2⟩ := hu.fok f (List.mem_of_getElem? hx)
    have ih := l106F (c := c) hW hu hc hb j (i + 1) w (by omega) k
    have e2 : ((i + 1 : Nat) : Int) = (i : Int) + 1 := by omega
    rw [e2, take_next hx] at ih
    have h158 := fun w => s158 (O := O) (b := b) (w := w) (s := f.name) hn1
    have h28 := fun w => s28 (os := O) (b := b) (w := w) (s := f.desc) hn2
    have h159 := fun w => s159 (b := b) (w := w) (c := c) hW.r hW.len hW.low (t := f.desc) hn2
    have hbd := bounds_to (n := u.fields.length) (i := i) (c := u.fc) (by omega) hc.f
    have hlt : (u.fields.take i).length = i := by rw [List.length_take]; omega
    have hin := fun (x0 x50 x51 x52 : AVal) x3 c w k => l106f (b := b) (c := c) (f := f) (x0 := x0) (x50 := x50) (x51 := x51) (x52 := x52) (x3 := x3) (row_take hu.f i) (by omega) i 0 w (by omega) k
    simp only [Int.cast_ofNat_Int, List.drop_zero, hlt] at hin
    have hcu : u.cells = [.str u.name, .str u.super, .slice u.fa u.fields.length u.fc, .slice u.ma u.meths.length u.mc] := rfl
    rw [hcu] at ih ⊢
    rw [ha] at hin ih ⊢
    unfold FieldU.cells at hv hin
    rw [xK_loop, drop_cons hx]
    simp only [fieldsU]
    generalize ACode.loop code106L3 = L' at ih ⊢
    rcases Bool.eq_false_or_eq_true (isName f.name) with c1 | c1
    · rcases Bool.eq_false_or_eq_true (isTy f.desc) with c2 | c2
      · rcases Bool.eq_false_or_eq_true (thereU W f.desc) with c3 | c3
        · rcases Bool.eq_false_or_eq_true ((u.fields.take i).all fun g => !decide (f.name = g.name)) with c4 | c4
          · rw [c4] at hin
            simp only [c1, c2, c3, c4, Bool.true_and, if_true] at hin ⊢
            simp (disch := omega) [-getElem?_pos, -getElem?_neg, -List.all_eq_true, List.getElem?_cons_zero, List.getElem?_cons_succ, code106L3, nltT, nltF, iltT, ileT, nleT, wrapI, -bounds, hbd, h158, h28, h159, hin, hp, hv, c1, c2, c3, ih]
          · rw [c4] at hin
            simp only [c1, c2, c3, c4, Bool.true_and, Bool.false_and, Bool.false_eq_true, if_false] at hin ⊢
            simp (disch := omega) [-getElem?_pos, -getElem?_neg, -List.all_eq_true, List.getElem?_cons_zero, List.getElem?_cons_succ, code106L3, nltT, nltF, iltT, ileT, nleT, wrapI, -bounds, hbd, h158, h28, h159, hin, hp, hv, c1, c2, c3]
        · simp only [c1, c2, c3, Bool.true_and, Bool.false_and, Bool.false_eq_true, if_false]
          simp (disch := omega) [-getElem?_pos, -getElem?_neg, -List.all_eq_true, List.getElem?_cons_zero, List.getElem?_cons_succ, code106L3, nltT, nltF, iltT, ileT, nleT, wrapI, h158, h28, h159, hp, hv, c1, c2, c3]
      · simp only [c1, c2, Bool.true_and, Bool.false_and, Bool.false_eq_true, if_false]
        simp (disch := omega) [-getElem?_pos, -getElem?_neg, -List.all_eq_true, List.getElem?_cons_zero, List.getElem?_cons_succ, code106L3, nltT, nltF, iltT, ileT, nleT, wrapI, h158, h28, hp, hv, c1, c2]
    · simp only [c1, Bool.false_and, Bool.false_eq_true, if_false]
      simp (disch := omega) [-getElem?_pos, -getElem?_neg, -List.all_eq_true, List.getElem?_cons_zero, List.getElem?_cons_succ, code106L3, nltT, nltF, iltT, ileT, nleT, wrapI, h158, hp, hv, c1]

theorem l106M {W : List UnitU} {a : Option (Nat × Nat)} {c : Option Nat} (hW : Units O W a) {u : UnitU} (hu : u.ok O) (hc : u.cap) (hb : b ≤ O.length) : ∀ (j i : Nat) (w : Nat), i + j = u.meths.length → ∀ (k : AExit → St → Option (AVal × Heap)),
    xK T (.loop code106L1) ⟨[(0, .val (.slice a W.length c)), (3, .var u.cells), (91, .val (.slice u.ma u.meths.length u.mc)), (92, .val (.int .i64 u.meths.length)), (93, .val (.int .i64 i))], ⟨O, b, w⟩⟩ (k := ⟨k⟩) =
      if methsU W u (u.meths.take i) (u.meths.drop i) then k (.exit 4) ⟨[], ⟨O, b, w⟩⟩ else k .ret ⟨[(4, .val (.bool false))], ⟨O, b, w⟩⟩
  | 0, i, w, hi, k => by
    rw [xK_loop, List.drop_of_length_le (by omega)]
    simp (disch := omega) [-getElem?_pos, -getElem?_neg, -List.all_eq_true, List.getElem?_cons_zero, List.getElem?_cons_succ, nltT, nltF, iltT, iltF, ileT, nleT, wrapI, code106L1, methsU]
  | j + 1, i, w, hi, k => by
    obtain ⟨m, hx⟩ : ∃ m, u.meths[i]? = some m := ⟨_, List.getElem?_eq_getElem (by omega)⟩
    obtain ⟨p, o, cs, ha, hp, hpl, hcs, hv⟩ := row_at hu.m hx
    have hfn : u.meths.length ≤ 9223372036854775807 := hu.mn
    have ih := l106M (c := c) hW hu hc hb j (i + 1) w (by omega) k
    have e2 : ((i + 1 : Nat) : Int) = (i : Int) + 1 := by omega
    rw [e2, take_next hx] at ih
    have h157 := fun w => s157 (b := b) (w := w) (c := c) hW (u := u) (hu.mok m (List.mem_of_getElem? hx)) hb
    have hbd := bounds_to (n := u.meths.length) (i := i) (c := u.mc) (by omega) hc.m
    have hlt : (u.meths.take i).length = i := by rw [List.length_take]; omega
    have hin := fun (x0 x91 x92 x93 : AVal) x3 c w k => l106m (b := b) (c := c) (m := m) (x0 := x0) (x91 := x91) (x92 := x92) (x93 := x93) (x3 := x3) (row_take hu.m i) (by omega) i 0 w (by omega) k
    simp only [Int.cast_ofNat_Int, List.drop_zero, hlt] at hin
    have hcu : u.cells = [.str u.name, .str u.super, .slice u.fa u.fields.length u.fc, .slice u.ma u.meths.length u.mc] := rfl
    have hcl : m.cells.length = 8 := rfl
    rw [hcu] at ih h157 ⊢
    rw [ha] at hin ih h157 ⊢
    rw [xK_loop, drop_cons hx]
    simp only [methsU]
    generalize ACode.loop code106L1 = L' at ih ⊢
    unfold MethU.cells at hv hin h157
    rcases Bool.eq_false_or_eq_true (methodU W u m) with c1 | c1
    · rcases Bool.eq_false_or_eq_true ((u.meths.take i).all fun g => !(decide (m.name = g.name) && decide (m.desc = g.desc))) with c4 | c4
      · rw [c4] at hin
        simp only [c1, c4, Bool.true_and, if_true] at hin ⊢
        simp (disch := omega) [-getElem?_pos, -getElem?_neg, -List.all_eq_true, List.getElem?_cons_zero, List.getElem?_cons_succ, nltT, nltF, iltT, iltF, ileT, nleT, wrapI, code106L1, -bounds, hbd, h157, hin, hp, hv, c1, ih]
      · rw [c4] at hin
        simp only [c1, c4, Bool.true_and, Bool.false_and, Bool.false_eq_true, if_false] at hin ⊢
        simp (disch := omega) [-getElem?_pos, -getElem?_neg, -List.all_eq_true, List.getElem?_cons_zero, List.getElem?_cons_succ, nltT, nltF, iltT, iltF, ileT, nleT, wrapI, code106L1, -bounds, hbd, h157, hin, hp, hv, c1]
    · simp only [c1, Bool.false_and, Bool.false_eq_true, if_false]
      simp (disch := omega) [-getElem?_pos, -getElem?_neg, -List.all_eq_true, List.getElem?_cons_zero, List.getElem?_cons_succ, nltT, nltF, iltT, iltF, ileT, nleT, wrapI, code106L1, -bounds, hbd, h157, hp, hv, c1]

def lastName (l : List UnitU) : Str := ((l.getLast?).map UnitU.name).getD []
def unitU (W : List UnitU) (u : UnitU) : Bool :=
  isClass u.name && (!decide (u.super = sysT) && (decide (2 ≤ (lineU W (W.length + 1) u.name).length) && (decide ((lineU W (W.length + 1) u.name).length ≤ W.length) && (decide (lastName (lineU W (W.length + 1) u.name) = objectT) && (fieldsU W [] u.fields && methsU W u [] u.meths)))))

end Go.Abs.AbsHier

/-
  Layer 16, the reference: a unit and the others, whole.
-/
namespace Go.Abs.AbsHier
open Go.Abs.AbsDesc
set_option maxRecDepth 100000
set_option linter.unusedSimpArgs false
variable {os O H : List AObj} {b w : Nat}

theorem getLast_at {L : List UnitU} {x : UnitU} (h : L[L.length - 1]? = some x) : lastName L = x.name := by
  unfold lastName
  rw [List.getLast?_eq_getElem?, h]; rfl

theorem s106 {W : List UnitU} {a : Option (Nat × Nat)} {c : Option Nat} (hW : Units O W a) {u : UnitU} (hu : u.ok O) (hc : u.cap) (hb : b ≤ O.length) :
    xCall T 106 [.slice a W.length c, .agg u.cells] ⟨O, b, w⟩ = some (.bool (unitU W u), ⟨O, b, w⟩) := by
  have h112 := fun w => s112 (b := b) (w := w) (c := c) hW.r hW.n hW.low hb (n := u.name)
  have hun : u.name.length ≤ 9223372036854775807 := hu.name
  have h26 := fun O w => s26 (os := O) (b := b) (w := w) (s := u.name) hun
  have hlen : (lineU W (W.length + 1) u.name).length ≤ W.length + 1 := goL_len _ _ _
  have hn := hW.n
  have hcu : u.cells = [.str u.name, .str u.super, .slice u.fa u.fields.length u.fc, .slice u.ma u.meths.length u.mc] := rfl
  unfold unitU sysT objectT
  generalize hl : lineU W (W.length + 1) u.name = l at *
  have hpre := rowO_pre O l
  have hb' : b ≤ (rowO O l).length := Nat.le_trans hb hpre.len
  have hF := fun w k => l106F (b := b) (c := c) (hW.pre hpre) (hu.pre hpre) hc hb' u.fields.length 0 w (by omega) k
  have hM := fun w k => l106M (b := b) (c := c) (hW.pre hpre) (hu.pre hpre) hc hb' u.meths.length 0 w (by omega) k
  simp only [Int.cast_ofNat_Int, List.take_zero, List.drop_zero] at hF hM
  rw [hcu] at hF hM ⊢
  rcases Bool.eq_false_or_eq_true (isClass u.name) with c1 | c1
  · by_cases c2 : u.super = [115, 121, 115]
    · simp only [c1, decide_eq_true c2, Bool.not_true, Bool.true_and, Bool.false_and]
      rw [rowV_eq] at h112
      generalize (if l = [] then none else some (O.length, 0)) = aa at h112
      generalize (if l = [] then some 0 else none) = cc at h112
      generalize rowO O l = HH at h112
      simp (disch := omega) [-getElem?_pos, -getElem?_neg, -List.all_eq_true, List.getElem?_cons_zero, List.getElem?_cons_succ, nltT, nltF, iltT, iltF, ileT, nleT, wrapI, xCallK t106, code106, h112, h26, c1, c2]
    · by_cases c3 : 2 ≤ l.length
      · have hne : l ≠ [] := by rintro rfl; simp at c3
        obtain ⟨x, hx⟩ : ∃ x, l[l.length - 1]? = some x := ⟨_, List.getElem?_eq_getElem (by omega)⟩
        have hR := row_rowO (O := O) (L := l)
        obtain ⟨p, o, cs, ha, hp, hpl, hcs, hv⟩ := row_at hR hx
        rw [rowV_eq, ha] at h112
        rw [getLast_at hx]
        have hsub : (l.length : Int) - 1 = ((l.length - 1 : Nat) : Int) := by omega
        have hcx : (cs.drop (o + (l.length - 1) * 4)).take 4 = [.str x.name, .str x.super, .slice x.fa x.fields.length x.fc, .slice x.ma x.meths.length x.mc] := hv
        have hx0 : cs[o + (l.length - 1) * 4]? = some (.str x.name) := by
          have := congrArg (fun z => z[0]?) hcx
          simpa [List.getElem?_take, List.getElem?_drop] using this
        generalize (if l = [] then some 0 else none) = cc at h112
        generalize rowO O l = HH at *
        have n3 : ¬ ((l.length : Int) < 2) := by omega
        simp only [c1, decide_eq_false c2, decide_eq_true c3, Bool.not_false, Bool.true_and]
        by_cases c4 : l.length ≤ W.length
        · have n4 : ¬ ((W.length : Int) < l.length) := by omega
          simp only [decide_eq_true c4, Bool.true_and]
          by_cases c5 : x.name = [79, 98, 106, 101, 99, 116]
          · simp only [decide_eq_true c5, Bool.true_and]
            rcases Bool.eq_false_or_eq_true (fieldsU W [] u.fields) with c6 | c6
            · simp only [c6, if_true, Bool.true_and] at hF ⊢
              rcases Bool.eq_false_or_eq_true (methsU W u [] u.meths) with c7 | c7
              · simp only [c7, if_true] at hM ⊢
                simp (disch := omega) [-getElem?_pos, -getElem?_neg, -List.all_eq_true, List.getElem?_cons_zero, List.getElem?_cons_succ, nltT, nltF, iltT, iltF, ileT, nleT, wrapI, xCallK t106, code106, h112, h26, c1, c2, n3, n4, hp, hsub, hx0, c5, hF, hM]
              · simp only [c7, Bool.false_eq_true, if_false] at hM ⊢
                simp (disch := omega) [-getElem?_pos, -getElem?_neg, -List.all_eq_true, List.getElem?_cons_zero, List.getElem?_cons_succ, nltT, nltF, iltT, iltF, ileT, nleT, wrapI, xCallK t106, code106, h112, h26, c1, c2, n3, n4, hp, hsub, hx0, c5, hF, hM]
            · simp only [c6, Bool.false_eq_true, if_false, Bool.false_and] at hF ⊢
              simp (disch := omega) [-getElem?_pos, -getElem?_neg, -List.all_eq_true, List.getElem?_cons_zero, List.getElem?_cons_succ, nltT, nltF, iltT, iltF, ileT, nleT, wrapI, xCallK t106, code106, h112, h26, c1, c2, n3, n4, hp, hsub, hx0, c5, hF]
          · simp only [decide_eq_false c5, Bool.false_and]
            simp (disch := omega) [-getElem?_pos, -getElem?_neg, -List.all_eq_true, List.getElem?_cons_zero, List.getElem?_cons_succ, nltT, nltF, iltT, iltF, ileT, nleT, wrapI, xCallK t106, code106, h112, h26, c1, c2, n3, n4, hp, hsub, hx0, c5]
        · have n4 : (W.length : Int) < l.length := by omega
          simp only [decide_eq_false c4, Bool.false_and]
          simp (disch := omega) [-getElem?_pos, -getElem?_neg, -List.all_eq_true, List.getElem?_cons_zero, List.getElem?_cons_succ, nltT, nltF, iltT, iltF, ileT, nleT, wrapI, xCallK t106, code106, h112, h26, c1, c2, n3, n4]
      · have n3 : (l.length : Int) < 2 := by omega
        simp only [c1, decide_eq_false c2, decide_eq_false c3, Bool.not_false, Bool.true_and, Bool.false_and]
        rw [rowV_eq] at h112
        generalize (if l = [] then none else some (O.length, 0)) = aa at h112
        generalize (if l = [] then some 0 else none) = cc at h112
        generalize rowO O l = HH at h112
        simp (disch := omega) [-getElem?_pos, -getElem?_neg, -List.all_eq_true, List.getElem?_cons_zero, List.getElem?_cons_succ, nltT, nltF, iltT, iltF, ileT, nleT, wrapI, xCallK t106, code106, h112, h26, c1, c2, n3]
  · simp only [c1, Bool.false_and]
    rw [rowV_eq] at h112
    generalize (if l = [] then none else some (O.length, 0)) = aa at h112
    generalize (if l = [] then some 0 else none) = cc at h112
    generalize rowO O l = HH at h112
    simp (disch := omega) [-getElem?_pos, -getElem?_neg, -List.all_eq_true, List.getElem?_cons_zero, List.getElem?_cons_succ, nltT, nltF, iltT, iltF, ileT, nleT, wrapI, xCallK t106, code106, h112, h26, c1]

end Go.Abs.AbsHier

/-
  Rows, read whole.
-/
namespace Go.Abs
set_option maxRecDepth 100000
set_option linter.unusedSimpArgs false

theorem row_flat {α : Type} {e : Nat} {f : α → List AVal} {cs : List AVal} : ∀ (L : List α) (o : Nat), (∀ (j : Nat) (x : α), L[j]? = some x → o + j * e + e ≤ cs.length ∧ (cs.drop (o + j * e)).take e = f x) → (cs.drop o).take (L.length * e) = L.flatMap f
  | [], o, _ => by simp
  | x :: L, o, h => by
    have h0 := (h 0 x rfl).2
    rw [Nat.zero_mul, Nat.add_zero] at h0
    have ih := row_flat L (o + e) fun j y hy => by
      have := h (j + 1) y hy
      rw [Nat.add_mul, Nat.one_mul, Nat.add_comm (j * e) e, ← Nat.add_assoc] at this
      exact this
    rw [List.length_cons, Nat.add_mul, Nat.one_mul, Nat.add_comm, List.take_add, List.flatMap_cons, h0, List.drop_drop, ih]

theorem rowOf_row {α : Type} {e : Nat} {f : α → List AVal} {h : Heap} {L : List α} {a : Option (Nat × Nat)} {c : Option Nat} (hR : Row h.objs e f L a) : rowOf e h (.slice a L.length c) = some (L.flatMap f) := by
  by_cases hL : L = []
  · subst hL
    cases a with
    | none => rfl
    | some p => rfl
  · obtain ⟨b, o, cs, h1, h2, h3⟩ := hR.at' hL
    subst h1
    have hl : L.length ≠ 0 := fun e => hL (List.eq_nil_of_length_eq_zero e)
    have hg : h.get b = some (.cells e cs) := h2
    unfold rowOf
    simp only
    rw [if_neg hl, hg]
    simp only
    obtain ⟨x, hx⟩ : ∃ x, L[L.length - 1]? = some x := ⟨_, List.getElem?_eq_getElem (by omega)⟩
    have hb := (h3 _ _ hx).1
    have he : (L.length - 1) * e + e = L.length * e := by
      rw [← Nat.succ_mul]; congr 1; omega
    have h2 : True ∧ o + L.length * e ≤ cs.length := ⟨trivial, by omega⟩
    rw [if_pos h2, row_flat L o h3]

theorem rowOf0 {e : Nat} {h : Heap} {a : Option (Nat × Nat)} {c : Option Nat} : rowOf e h (.slice a 0 c) = some [] := by
  cases a with
  | none => rfl
  | some p => rfl
theorem rowOfC {e n : Nat} {h : Heap} {i : Nat} {cs : List AVal} {c : Option Nat} (hg : h.objs[i]? = some (.cells e cs)) (hn : cs.length = n * e) : rowOf e h (.slice (some (i, 0)) n c) = some cs := by
  unfold rowOf
  simp only
  split
  · rename_i h0
    subst h0
    rw [Nat.zero_mul] at hn
    rw [List.eq_nil_of_length_eq_zero hn]
  · have hg' : h.get i = some (.cells e cs) := hg
    rw [hg']
    simp only
    have h2 : True ∧ 0 + n * e ≤ cs.length := ⟨trivial, by omega⟩
    rw [if_pos h2, List.drop_zero, ← hn, List.take_length]

theorem sgetN (t : Nat) : sget [] t = none := by simp
theorem sgetH (t : Nat) (x : Slot) (r : Slots) : sget ((t, x) :: r) t = some x := by simp
theorem sgetT (u t : Nat) (x : Slot) (r : Slots) (h : u ≠ t) : sget ((u, x) :: r) t = sget r t := by simp [h]

end Go.Abs

/-
  Layer 16, the reference: the built-in classes.
-/
namespace Go.Abs.AbsHier
open Go.Abs.AbsDesc
set_option maxRecDepth 100000
set_option linter.unusedSimpArgs false
variable {os O H : List AObj} {b w : Nat}

def natM (x : Str × Str) : MethU := ⟨true, x.1, x.2, 0, 0, [], none, some 0, [], none, some 0, [], none, some 0⟩
def plainU (n s : Str) : UnitU := ⟨n, s, [], none, some 0, [], none, some 0⟩
def sysU (m : Nat) : UnitU := ⟨sysT, objectT, [], none, some 0, natL.map natM, some (m, 0), some 8⟩
def built3 (m : Nat) : List UnitU := [plainU objectT [], plainU throwT objectT, sysU m]
def faultU (n : Str) : UnitU := plainU n throwT
def builtU (m : Nat) : List UnitU := built3 m ++ faultsL.map faultU
def natO : AObj := .cells 8 ((natL.map natM).flatMap MethU.cells)

theorem s115 {n d : Str} {h : Heap} : xCall T 115 [.str n, .str d] h = some (.agg (natM (n, d)).cells, h) := by
  obtain ⟨os, b, w⟩ := h
  simp (disch := omega) [-getElem?_pos, -getElem?_neg, -List.all_eq_true, List.getElem?_cons_zero, List.getElem?_cons_succ, nltT, nltF, iltT, iltF, ileT, nleT, wrapI, xCallK t115, code115, natM, MethU.cells]

theorem l108 {m q lo : Nat} (hlo : lo ≤ os.length) (hb : b ≤ os.length) (hq : os.length ≤ q) : ∀ (j i p : Nat) (M : List AObj) (cc : Option Nat) (w : Nat), i + j = 6 → lo ≤ w → Pre os M → p ≠ q → os.length ≤ p → (cc = none ∨ (cc = some 3 ∧ i = 0)) →
    M[p]? = some (.cells 4 ((built3 m ++ (faultsL.take i).map faultU).flatMap UnitU.cells)) → M[q]? = some (.cells 1 (faultsL.flatMap strC)) →
    ∃ M' p' w', lo ≤ w' ∧ Pre os M' ∧ os.length ≤ p' ∧ M'[p']? = some (.cells 4 ((builtU m).flatMap UnitU.cells)) ∧ ∀ (k : AExit → St → Option (AVal × Heap)),
    xK T (.loop code108L0) ⟨[(2, .val (.slice (some (p, 0)) (3 + i) cc)), (19, .val (.slice (some (q, 0)) 6 (some 6))), (20, .val (.int .i64 6)), (21, .val (.int .i64 i))], ⟨M, b, w⟩⟩ (k := ⟨k⟩) =
      k (.exit 0) ⟨[(2, .val (.slice (some (p', 0)) 9 none))], ⟨M', b, w'⟩⟩
  | 0, i, p, M, cc, w, hi, hw, hM, hpq, hp, hc, h1, h2 => by
    have : i = 6 := by omega
    subst this
    obtain rfl : cc = none := by rcases hc with h | ⟨_, h⟩
                                 · exact h
                                 · omega
    refine ⟨M, p, w, hw, hM, hp, h1, fun k => ?_⟩
    rw [xK_loop]
    simp (disch := omega) [-getElem?_pos, -getElem?_neg, -List.all_eq_true, List.getElem?_cons_zero, List.getElem?_cons_succ, nltT, nltF, iltT, iltF, ileT, nleT, wrapI, code108L0]
  | j + 1, i, p, M, cc, w, hi, hw, hM, hpq, hp, hc, h1, h2 => by
    obtain ⟨x, hx⟩ : ∃ x, faultsL[i]? = some x := ⟨_, List.getElem?_eq_getElem (show i < 6 by omega)⟩
    have hpl := lt_of_get h1
    have hql := lt_of_get h2
    have hx2 : (faultsL.flatMap strC)[i]? = some (.str x) := by
      have : faultsL.flatMap strC = faultsL.map AVal.str := rfl
      rw [this, List.getElem?_map, hx]; rfl
    generalize hA : built3 m ++ (faultsL.take i).map faultU = A at *
    have hAl : A.length = 3 + i := by
      rw [← hA]; simp [built3, faultsL]; omega
    have hfl : (A.flatMap UnitU.cells).length = A.length * 4 := flat_len UnitU.cells 4 (fun _ => rfl) A
    have hA2 : built3 m ++ (faultsL.take (i + 1)).map faultU = A ++ [faultU x] := by
      rw [take_next hx, List.map_append, ← List.append_assoc, hA]; rfl
    have e2 : ((i + 1 : Nat) : Int) = (i : Int) + 1 := by omega
    have e3 : (3 + (i + 1)) = 3 + i + 1 := by omega
    have hMl := hM.len
    have hbp : b ≤ p := by omega
    have hz : ∀ X w, rowOf 4 ⟨M ++ X, b, w⟩ (.slice (some (p, 0)) (3 + i) cc) = some (A.flatMap UnitU.cells) := fun X w => rowOfC (by show (M ++ X)[p]? = _; rw [List.getElem?_append_left hpl]; exact h1) (by omega)
    have hp1 : ∀ X, (M ++ X)[p]? = some (.cells 4 (A.flatMap UnitU.cells)) := fun X => by rw [List.getElem?_append_left hpl]; exact h1
    have hset : ∀ X y, (M ++ X).set p y = M.set p y ++ X := fun X y => by rw [List.set_append_left _ _ hpl]
    have hfc : (faultU x).cells = [.str x, .str throwT, .slice none 0 (some 0), .slice none 0 (some 0)] := rfl
    have hz2 : ∀ w, rowOf 4 ⟨M ++ [.cells 4 [.str x, .str [84, 104, 114, 111, 119, 97, 98, 108, 101], .slice none 0 (some 0), .slice none 0 (some 0)]], b, w⟩ (.slice (some (M.length, 0)) 1 (some 1)) = some [.str x, .str [84, 104, 114, 111, 119, 97, 98, 108, 101], .slice none 0 (some 0), .slice none 0 (some 0)] := fun w => rowOfC (by rw [get_k0]; rfl) rfl
    rcases hc with rfl | ⟨rfl, rfl⟩
    · obtain ⟨M', p', w', r1, r2, r3, r5, ih⟩ := l108 (m := m) hlo hb hq j (i + 1) (M.length + 1) (M.set p .dead ++ [.cells 4 (faultU x).cells, .cells 4 ((A ++ [faultU x]).flatMap UnitU.cells)]) none (min w p) (by omega) (by omega) ((hM.set _ hp).trans (Pre.app _ _)) (by omega) (by omega) (.inl rfl)
        (by rw [hA2, show M.length + 1 = (M.set p .dead).length + 1 by simp, get_k]; rfl) (by rw [List.getElem?_append_left (by simp; omega), List.getElem?_set_ne hpq]; exact h2)
      refine ⟨M', p', w', r1, r2, r3, r5, fun k => ?_⟩
      have ih := ih k
      rw [e2, e3, List.flatMap_append] at ih
      rw [xK_loop, ← ih]
      generalize ACode.loop code108L0 = L'
      simp only [List.flatMap_cons, List.flatMap_nil, List.append_nil, hfc, throwT]
      simp (disch := omega) [-getElem?_pos, -getElem?_neg, -List.all_eq_true, List.getElem?_cons_zero, List.getElem?_cons_succ, nltT, nltF, iltT, iltF, ileT, nleT, wrapI, code108L0, -rowOf, hz, hz2, hp1, h2, hx2, get_k, get_k0, hset]
    · obtain ⟨M', p', w', r1, r2, r3, r5, ih⟩ := l108 (m := m) hlo hb hq j (0 + 1) (M.length + 1) (M ++ [.cells 4 (faultU x).cells, .cells 4 ((A ++ [faultU x]).flatMap UnitU.cells)]) none w (by omega) (by omega) (hM.trans (Pre.app _ _)) (by omega) (by omega) (.inl rfl)
        (by rw [hA2, get_k]; rfl) (by rw [List.getElem?_append_left (by omega)]; exact h2)
      refine ⟨M', p', w', r1, r2, r3, r5, fun k => ?_⟩
      have ih := ih k
      rw [e2, e3, List.flatMap_append] at ih
      rw [xK_loop, ← ih]
      generalize ACode.loop code108L0 = L'
      simp only [List.flatMap_cons, List.flatMap_nil, List.append_nil, hfc, throwT]
      simp (disch := omega) [-getElem?_pos, -getElem?_neg, -List.all_eq_true, List.getElem?_cons_zero, List.getElem?_cons_succ, nltT, nltF, iltT, iltF, ileT, nleT, wrapI, code108L0, -rowOf, hz, hz2, hp1, h2, hx2, get_k, get_k0, hset]

theorem ids_built (m : Nat) : AVal.idsL ((builtU m).flatMap UnitU.cells) = [m] := rfl
theorem ren_built (f : Nat → Nat) (m : Nat) : AVal.renL f ((builtU m).flatMap UnitU.cells) = (builtU (f m)).flatMap UnitU.cells := rfl
theorem ids_nat : natO.ids = [] := rfl
theorem ren_nat (f : Nat → Nat) : natO.ren f = natO := rfl

theorem builtU_fin {M : List AObj} {p w0 w2 : Nat} (hM : Pre (O ++ [natO]) M) (hp : O.length + 1 ≤ p) (h1 : M[p]? = some (.cells 4 ((builtU O.length).flatMap UnitU.cells))) (hw : O.length ≤ w2) :
    finish ⟨O, b, w0⟩ (.slice (some (p, 0)) 9 none) ⟨M, b, w2⟩ = (.slice (some (O.length, 0)) 9 none, ⟨O ++ [.cells 4 ((builtU (O.length + 1)).flatMap UnitU.cells), natO], b, w0⟩) := by
  have h2 : M[O.length]? = some natO := hM _ _ (by rw [get_k0]; rfl)
  have hr : reach ⟨M, b, w2⟩ O.length 1000 [p] [] = [p, O.length] := by
    rw [reach_step, if_neg (by omega), if_neg (by simp)]
    simp only [Heap.get, h1, Option.map_some, Option.getD_some, idsC, ids_built, List.append_nil, List.nil_append]
    rw [reach_step, if_neg (by omega), if_neg (by simp; omega)]
    simp only [Heap.get, h2, Option.map_some, Option.getD_some, ids_nat, List.append_nil, List.nil_append, List.cons_append]
    rfl
  have hv : AVal.under O.length (.slice (some (p, 0)) 9 none) = false := by simp [AVal.under]; omega
  have hw2 : (⟨O, b, w0⟩ : Heap).size ≤ (⟨M, b, w2⟩ : Heap).wmin := hw
  refine (finish_keep hw2 hv hr fun i hi => ?_).trans ?_
  · simp only [AVal.ids, List.flatMap_cons, List.flatMap_nil, Heap.get, h1, h2, Option.map_some, Option.getD_some, idsC, ids_built, ids_nat, List.append_nil, List.cons_append, List.nil_append, List.mem_cons, List.not_mem_nil, or_false] at hi ⊢
    omega
  · have key : ∀ f : Nat → Nat, f p = O.length → f O.length = O.length + 1 →
        ((AVal.slice (some (p, 0)) 9 none).ren f, (⟨O ++ [p, O.length].map fun i => (((⟨M, b, w2⟩ : Heap).get i).map (AObj.ren f)).getD .dead, b, w0⟩ : Heap)) =
          (.slice (some (O.length, 0)) 9 none, ⟨O ++ [.cells 4 ((builtU (O.length + 1)).flatMap UnitU.cells), natO], b, w0⟩) := by
      intro f e1 e2
      simp only [AVal.ren, Heap.get, h1, h2, Option.map_some, Option.getD_some, List.map_cons, List.map_nil, renC, e1, e2, ren_built, ren_nat]
    refine key _ ?_ ?_
    · show (if p < O.length then p else _) = _
      rw [if_neg (by omega)]; simp [idxIn]
    · have : p ≠ O.length := by omega
      simp [idxIn, this]

theorem s108 (hb : b ≤ O.length) : xCall T 108 [] ⟨O, b, w⟩ = some (.slice (some (O.length, 0)) 9 none, ⟨O ++ [.cells 4 ((builtU (O.length + 1)).flatMap UnitU.cells), natO], b, w⟩) := by
  have h115 := fun n d w => s115 (n := n) (d := d) (h := ⟨O, b, w⟩)
  have hl := l108 (os := O ++ [natO]) (m := O.length) (q := O.length + 2) (lo := O.length) (b := b) (by simp) (by simp; omega) (by simp) 6 0 (O.length + 1) (O ++ [natO, .cells 4 ((built3 O.length).flatMap UnitU.cells), .cells 1 (faultsL.flatMap strC)]) (some 3) O.length (by simp) (Nat.le_refl _)
    (by have := Pre.app (O ++ [natO]) [.cells 4 ((built3 O.length).flatMap UnitU.cells), .cells 1 (faultsL.flatMap strC)]; simpa using this) (by omega) (by simp) (.inr ⟨rfl, rfl⟩) (by rw [get_k]; rfl) (by rw [get_k]; rfl)
  obtain ⟨M', p', w', r1, r2, r3, r5, hk⟩ := hl
  have hf := fun w0 => builtU_fin (b := b) (w0 := w0) r2 (by simpa using r3) r5 r1
  simp only [natM, MethU.cells, List.length_nil] at h115
  simp only [Int.cast_ofNat_Int, Nat.add_zero, natO, natL, natM, built3, plainU, sysU, faultsL, UnitU.cells, MethU.cells, strC, List.map_cons, List.map_nil, List.flatMap_cons, List.flatMap_nil, List.append_nil, List.cons_append, List.nil_append, List.length_nil, List.length_cons, objectT, throwT, sysT] at hk
  simp (disch := omega) [-getElem?_pos, -getElem?_neg, -List.all_eq_true, List.getElem?_cons_zero, List.getElem?_cons_succ, nltT, nltF, iltT, iltF, ileT, nleT, wrapI, xCallK t108, code108, h115, -finish, Nat.add_assoc, get_k, get_k0, hk, hf]

end Go.Abs.AbsHier

/-
  Layer 16, the reference: a world.
-/
namespace Go.Abs.AbsHier
open Go.Abs.AbsDesc
set_option maxRecDepth 100000
set_option linter.unusedSimpArgs false
variable {os O H : List AObj} {b w : Nat}

theorem l107a {L : List UnitU} {a : Option (Nat × Nat)} {c : Option Nat} {u : UnitU} {x0 x4 x17 x18 x19 : AVal} (hR : Row H 4 UnitU.cells L a) (hL : L.length ≤ 9223372036854775807) : ∀ (j i : Nat) (w : Nat), i + j = L.length → ∀ (k : AExit → St → Option (AVal × Heap)),
    xK T (.loop code107L1) ⟨[(0, .val x0), (4, .val x4), (6, .var u.cells), (17, .val x17), (18, .val x18), (19, .val x19), (26, .val (.slice a L.length c)), (27, .val (.int .i64 L.length)), (28, .val (.int .i64 i))], ⟨H, b, w⟩⟩ (k := ⟨k⟩) =
      if (L.drop i).all (fun v => !decide (u.name = v.name)) then k (.exit 2) ⟨[(0, .val x0), (4, .val x4), (17, .val x17), (18, .val x18), (19, .val x19)], ⟨H, b, w⟩⟩ else k .ret ⟨[(2, .val (.slice none 0 (some 0))), (3, .val (.bool false))], ⟨H, b, w⟩⟩
  | 0, i, w, hi, k => by
    rw [xK_loop, List.drop_of_length_le (by omega)]
    simp (disch := omega) [-getElem?_pos, -getElem?_neg, -List.all_eq_true, List.getElem?_cons_zero, List.getElem?_cons_succ, nltT, nltF, iltT, iltF, ileT, nleT, wrapI, code107L1]
  | j + 1, i, w, hi, k => by
    obtain ⟨v, hx⟩ : ∃ v, L[i]? = some v := ⟨_, List.getElem?_eq_getElem (by omega)⟩
    obtain ⟨p, o, cs, ha, hp, hpl, hcs, hv⟩ := row_at hR hx
    have ih := l107a (c := c) (u := u) (x0 := x0) (x4 := x4) (x17 := x17) (x18 := x18) (x19 := x19) hR hL j (i + 1) w (by omega) k
    have e2 : ((i + 1 : Nat) : Int) = (i : Int) + 1 := by omega
    rw [e2] at ih
    unfold UnitU.cells at ih hv ⊢
    rw [ha] at ih ⊢
    rw [xK_loop, drop_cons hx]
    simp only [List.all_cons]
    generalize ACode.loop code107L1 = L' at ih ⊢
    by_cases c1 : u.name = v.name
    · simp only [decide_eq_true c1, Bool.not_true, Bool.false_and]
      simp (disch := omega) [-getElem?_pos, -getElem?_neg, -List.all_eq_true, List.getElem?_cons_zero, List.getElem?_cons_succ, nltT, nltF, iltT, iltF, ileT, nleT, wrapI, code107L1, hp, hv, c1]
    · simp only [decide_eq_false c1, Bool.not_false, Bool.true_and]
      simp (disch := omega) [-getElem?_pos, -getElem?_neg, -List.all_eq_true, List.getElem?_cons_zero, List.getElem?_cons_succ, nltT, nltF, iltT, iltF, ileT, nleT, wrapI, code107L1, hp, hv, c1, ih]

def namesU : List UnitU → List UnitU → Bool
  | _, [] => true
  | A, u :: r => A.all (fun v => !decide (u.name = v.name)) && namesU (A ++ [u]) r

theorem l107b {L : List UnitU} {a : Option (Nat × Nat)} {x0 : AVal} (hR : Row H 4 UnitU.cells L a) (hL : L.length ≤ 9223372036854775807) : ∀ (j i : Nat) (w : Nat), i + j = L.length → ∀ (k : AExit → St → Option (AVal × Heap)),
    xK T (.loop code107L2) ⟨[(0, .val x0), (4, .val (.slice a L.length none)), (17, .val (.slice a L.length none)), (18, .val (.int .i64 L.length)), (19, .val (.int .i64 i))], ⟨H, b, w⟩⟩ (k := ⟨k⟩) =
      if namesU (L.take i) (L.drop i) then k (.exit 0) ⟨[(0, .val x0), (4, .val (.slice a L.length none))], ⟨H, b, w⟩⟩ else k .ret ⟨[(2, .val (.slice none 0 (some 0))), (3, .val (.bool false))], ⟨H, b, w⟩⟩
  | 0, i, w, hi, k => by
    rw [xK_loop, List.drop_of_length_le (by omega)]
    simp (disch := omega) [-getElem?_pos, -getElem?_neg, -List.all_eq_true, List.getElem?_cons_zero, List.getElem?_cons_succ, nltT, nltF, iltT, iltF, ileT, nleT, wrapI, code107L2, namesU]
  | j + 1, i, w, hi, k => by
    obtain ⟨u, hx⟩ : ∃ v, L[i]? = some v := ⟨_, List.getElem?_eq_getElem (by omega)⟩
    obtain ⟨p, o, cs, ha, hp, hpl, hcs, hv⟩ := row_at hR hx
    have ih := l107b (x0 := x0) hR hL j (i + 1) w (by omega) k
    have e2 : ((i + 1 : Nat) : Int) = (i : Int) + 1 := by omega
    rw [e2, take_next hx] at ih
    have hlt : (L.take i).length = i := by rw [List.length_take]; omega
    have hin := fun (x4 x17 x18 x19 : AVal) c w k => l107a (b := b) (c := c) (u := u) (x0 := x0) (x4 := x4) (x17 := x17) (x18 := x18) (x19 := x19) (row_take hR i) (by omega) i 0 w (by omega) k
    simp only [Int.cast_ofNat_Int, List.drop_zero, hlt] at hin
    have hbd := bounds_to (n := L.length) (i := i) (c := none) (by omega) (by simp)
    rw [ha] at hin ih ⊢
    rw [xK_loop, drop_cons hx]
    simp only [namesU]
    generalize ACode.loop code107L2 = L' at ih ⊢
    unfold UnitU.cells at hv hin
    rcases Bool.eq_false_or_eq_true ((L.take i).all (fun v => !decide (u.name = v.name))) with c4 | c4
    · rw [c4] at hin
      simp only [c4, Bool.true_and, if_true] at hin ⊢
      simp (disch := omega) [-getElem?_pos, -getElem?_neg, -List.all_eq_true, List.getElem?_cons_zero, List.getElem?_cons_succ, nltT, nltF, iltT, iltF, ileT, nleT, wrapI, code107L2, -bounds, hbd, hin, hp, hv, ih]
    · rw [c4] at hin
      simp only [c4, Bool.false_and, Bool.false_eq_true, if_false] at hin ⊢
      simp (disch := omega) [-getElem?_pos, -getElem?_neg, -List.all_eq_true, List.getElem?_cons_zero, List.getElem?_cons_succ, nltT, nltF, iltT, iltF, ileT, nleT, wrapI, code107L2, -bounds, hbd, hin, hp, hv]

theorem l107c {W : List UnitU} {p : Option (Nat × Nat)} {cw : Option Nat} {L : List UnitU} {a : Option (Nat × Nat)} {c : Option Nat} (hW : Units H W p) (hR : Row H 4 UnitU.cells L a) (hL : L.length ≤ 9223372036854775807) (hok : ∀ u ∈ L, u.ok H ∧ u.cap) (hb : b ≤ H.length) : ∀ (j i : Nat) (w : Nat), i + j = L.length → ∀ (k : AExit → St → Option (AVal × Heap)),
    xK T (.loop code107L0) ⟨[(4, .val (.slice p W.length cw)), (39, .val (.slice a L.length c)), (40, .val (.int .i64 L.length)), (41, .val (.int .i64 i))], ⟨H, b, w⟩⟩ (k := ⟨k⟩) =
      if (L.drop i).all (unitU W) then k (.exit 4) ⟨[(4, .val (.slice p W.length cw))], ⟨H, b, w⟩⟩ else k .ret ⟨[(2, .val (.slice none 0 (some 0))), (3, .val (.bool false))], ⟨H, b, w⟩⟩
  | 0, i, w, hi, k => by
    rw [xK_loop, List.drop_of_length_le (by omega)]
    simp (disch := omega) [-getElem?_pos, -getElem?_neg, -List.all_eq_true, List.getElem?_cons_zero, List.getElem?_cons_succ, nltT, nltF, iltT, iltF, ileT, nleT, wrapI, code107L0]
  | j + 1, i, w, hi, k => by
    obtain ⟨u, hx⟩ : ∃ v, L[i]? = some v := ⟨_, List.getElem?_eq_getElem (by omega)⟩
    obtain ⟨q, o, cs, ha, hp, hpl, hcs, hv⟩ := row_at hR hx
    have ih := l107c (c := c) (cw := cw) hW hR hL hok hb j (i + 1) w (by omega) k
    have e2 : ((i + 1 : Nat) : Int) = (i : Int) + 1 := by omega
    rw [e2] at ih
    obtain ⟨h1, h2⟩ := hok u (List.mem_of_getElem? hx)
    have h106 := fun w => s106 (b := b) (w := w) (c := cw) hW h1 h2 hb
    rw [ha] at ih ⊢
    rw [xK_loop, drop_cons hx]
    simp only [List.all_cons]
    generalize ACode.loop code107L0 = L' at ih ⊢
    unfold UnitU.cells at hv h106
    rcases Bool.eq_false_or_eq_true (unitU W u) with c4 | c4
    · rw [c4] at h106
      simp only [c4, Bool.true_and]
      simp (disch := omega) [-getElem?_pos, -getElem?_neg, -List.all_eq_true, List.getElem?_cons_zero, List.getElem?_cons_succ, nltT, nltF, iltT, iltF, ileT, nleT, wrapI, code107L0, h106, hp, hv, ih]
    · rw [c4] at h106
      simp only [c4, Bool.false_and, Bool.false_eq_true, if_false]
      simp (disch := omega) [-getElem?_pos, -getElem?_neg, -List.all_eq_true, List.getElem?_cons_zero, List.getElem?_cons_succ, nltT, nltF, iltT, iltF, ileT, nleT, wrapI, code107L0, h106, hp, hv]

def allU (m : Nat) (l : List UnitU) : List UnitU := builtU m ++ l
def worldU (m : Nat) (l : List UnitU) : Bool := decide (l.length ≤ 32) && (namesU [] (allU m l) && l.all (unitU (allU m l)))

theorem worldU_fin {p n w0 w2 : Nat} {l : List UnitU} (hl : l.length ≤ 40) (hlow : ∀ u ∈ l, u.low O.length) (hp : O.length ≤ p) (hp1 : p ≠ O.length + 1) (h1 : H[p]? = some (.cells 4 ((allU (O.length + 1) l).flatMap UnitU.cells))) (h2 : H[O.length + 1]? = some natO) (hw : O.length ≤ w2) :
    finish ⟨O, b, w0⟩ (.tuple [.slice (some (p, 0)) n none, .bool true]) ⟨H, b, w2⟩ = (.tuple [.slice (some (O.length, 0)) n none, .bool true], ⟨O ++ [.cells 4 ((allU (O.length + 1) l).flatMap UnitU.cells), natO], b, w0⟩) := by
  have hi : AVal.idsL ((allU (O.length + 1) l).flatMap UnitU.cells) = (O.length + 1) :: AVal.idsL (l.flatMap UnitU.cells) := by
    unfold allU; rw [List.flatMap_append, idsL_app, ids_built]; rfl
  have hlen := ids_units_len (L := l)
  have hids := ids_units hlow
  have hr : reach ⟨H, b, w2⟩ O.length 1000 [p] [] = [p, O.length + 1] := by
    rw [reach_step, if_neg (by omega), if_neg (by simp)]
    simp only [Heap.get, h1, Option.map_some, Option.getD_some, idsC, hi, List.append_nil, List.nil_append]
    rw [reach_step, if_neg (by omega), if_neg (by simp; omega)]
    simp only [Heap.get, h2, Option.map_some, Option.getD_some, ids_nat, List.append_nil, List.nil_append, List.cons_append]
    exact reach_low _ _ (by omega) hids
  have hv : AVal.under O.length (.tuple [.slice (some (p, 0)) n none, .bool true]) = false := by simp [AVal.under, AVal.unders]; omega
  have hw2 : (⟨O, b, w0⟩ : Heap).size ≤ (⟨H, b, w2⟩ : Heap).wmin := hw
  refine (finish_keep (k := [p, O.length + 1]) hw2 hv (by simpa [AVal.ids, AVal.idsL] using hr) fun i hi' => ?_).trans ?_
  · simp only [AVal.ids, AVal.idsL, List.flatMap_cons, List.flatMap_nil, Heap.get, h1, h2, Option.map_some, Option.getD_some, idsC, hi, ids_nat, List.append_nil, List.cons_append, List.nil_append, List.mem_cons, List.not_mem_nil, or_false] at hi' ⊢
    show i < O.length ∨ _
    rcases hi' with h | h | h
    · exact .inr (.inl h)
    · exact .inr (.inr h)
    · exact .inl (hids i h)
  · have key : ∀ f : Nat → Nat, f p = O.length → f (O.length + 1) = O.length + 1 → (∀ i, i < O.length → f i = i) →
        ((AVal.tuple [.slice (some (p, 0)) n none, .bool true]).ren f, (⟨O ++ [p, O.length + 1].map fun i => (((⟨H, b, w2⟩ : Heap).get i).map (AObj.ren f)).getD .dead, b, w0⟩ : Heap)) =
          (.tuple [.slice (some (O.length, 0)) n none, .bool true], ⟨O ++ [.cells 4 ((allU (O.length + 1) l).flatMap UnitU.cells), natO], b, w0⟩) := by
      intro f e1 e2 e3
      have hren : AVal.renL f ((allU (O.length + 1) l).flatMap UnitU.cells) = (allU (O.length + 1) l).flatMap UnitU.cells := by
        unfold allU; rw [List.flatMap_append, renL_app, ren_built, e2, ren_units e3 hlow]
      simp only [AVal.ren, AVal.renL, Heap.get, h1, h2, Option.map_some, Option.getD_some, List.map_cons, List.map_nil, renC, e1, hren, ren_nat]
    refine key _ ?_ ?_ fun i hi => if_pos hi
    · show (if p < O.length then p else _) = _
      rw [if_neg (by omega)]; simp [idxIn]
    · have : ¬ p = O.length + 1 := hp1
      simp [idxIn, this]

end Go.Abs.AbsHier

/-
  Layer 16, the reference: a world, whole.
-/
namespace Go.Abs.AbsHier
open Go.Abs.AbsDesc
set_option maxRecDepth 100000
set_option linter.unusedSimpArgs false
variable {os O H : List AObj} {b w : Nat}

theorem plain_ok {n s : Str} (hn : n.length ≤ big) (hs : s.length ≤ big) : (plainU n s).ok H :=
  ⟨hn, hs, ⟨fun h => absurd rfl h⟩, Nat.zero_le _, by simp [under, plainU], by simp [plainU], ⟨fun h => absurd rfl h⟩, Nat.zero_le _, by simp [under, plainU], by simp [plainU]⟩
theorem natM_ok {x : Str × Str} (h1 : x.1.length ≤ big) (h2 : x.2.length ≤ big) : (natM x).ok H :=
  ⟨h1, h2, ⟨fun h => absurd rfl h⟩, Nat.zero_le _, by simp [under, natM], by simp [natM], ⟨fun h => absurd rfl h⟩, Nat.zero_le _, by simp [under, natM], by simp [natM], ⟨fun h => absurd rfl h⟩, Nat.zero_le _, by simp [under, natM], by simp [natM]⟩
theorem sysU_ok {m : Nat} (h : H[m]? = some natO) : (sysU m).ok H :=
  ⟨by show sysT.length ≤ big; decide, by show objectT.length ≤ big; decide, ⟨fun h => absurd rfl h⟩, Nat.zero_le _, by simp [under, sysU], by simp [sysU], Row.mk0 (fun _ => rfl) h, by show (natL.map natM).length ≤ big; decide, by
    have := lt_of_get h
    intro i o e
    simp only [sysU, Option.some.injEq, Prod.mk.injEq] at e
    omega, fun x hx => by
    simp only [sysU, List.mem_map] at hx
    obtain ⟨y, hy, rfl⟩ := hx
    have : ∀ y ∈ natL, y.1.length ≤ big ∧ y.2.length ≤ big := by decide
    exact natM_ok (this y hy).1 (this y hy).2⟩
theorem builtU_ok {m : Nat} (h : H[m]? = some natO) : ∀ u ∈ builtU m, u.ok H := by
  intro u hu
  rcases List.mem_append.1 hu with hu | hu
  · simp only [built3, List.mem_cons, List.not_mem_nil, or_false] at hu
    rcases hu with rfl | rfl | rfl
    · exact plain_ok (by decide) (by decide)
    · exact plain_ok (by decide) (by decide)
    · exact sysU_ok h
  · simp only [List.mem_map] at hu
    obtain ⟨n, hn, rfl⟩ := hu
    have : ∀ n ∈ faultsL, n.length ≤ big := by decide
    exact plain_ok (this n hn) (by decide)
theorem allU_ok {m : Nat} {l : List UnitU} (h : H[m]? = some natO) (hl : ∀ u ∈ l, u.ok H) : ∀ u ∈ allU m l, u.ok H := fun u hu => by
  rcases List.mem_append.1 hu with hu | hu
  · exact builtU_ok h u hu
  · exact hl u hu

/-- The reference's world, as memory: the row of all classes, and sys' methods. -/
def worldO (O : List AObj) (l : List UnitU) : List AObj := O ++ [.cells 4 ((allU (O.length + 1) l).flatMap UnitU.cells), natO]

theorem allU_len (m : Nat) (l : List UnitU) : (allU m l).length = 9 + l.length := by simp [allU, builtU, built3, faultsL]; omega
theorem worldO_units {l : List UnitU} (hl : l.length ≤ 40) (hok : ∀ u ∈ l, u.ok O) : Units (worldO O l) (allU (O.length + 1) l) (some (O.length, 0)) :=
  ⟨Row.mk0 (fun _ => rfl) (by unfold worldO; rw [get_k0]; rfl), by rw [allU_len]; omega, allU_ok (by unfold worldO; rw [get_k]; rfl) fun u hu => (hok u hu).pre (Pre.app _ _)⟩

theorem s107 {l : List UnitU} {a : Option (Nat × Nat)} {c : Option Nat} (hR : Row O 4 UnitU.cells l a) (hl : l.length ≤ 40) (hok : ∀ u ∈ l, u.ok O ∧ u.cap) (hb : b ≤ O.length) :
    xCall T 107 [.slice a l.length c] ⟨O, b, w⟩ = some (if worldU (O.length + 1) l then (.tuple [.slice (some (O.length, 0)) (allU (O.length + 1) l).length none, .bool true], ⟨worldO O l, b, w⟩) else (.tuple [.slice none 0 (some 0), .bool false], ⟨O, b, w⟩)) := by
  have h108 := fun w => s108 (O := O) (b := b) (w := w) hb
  have hlen := allU_len (O.length + 1) l
  have hlow : ∀ u ∈ l, u.low O.length := fun u hu => (hok u hu).1.low
  unfold worldU
  by_cases c0 : l = []
  · subst c0
    have hW : Units (worldO O []) (allU (O.length + 1) []) (some (O.length, 0)) := worldO_units (by simp) (by simp)
    have e0 : builtU (O.length + 1) = allU (O.length + 1) [] := (List.append_nil _).symm
    have h1 := fun x0 w k => l107b (b := b) (x0 := x0) hW.r hW.len (allU (O.length + 1) []).length 0 w (by simp) k
    have h2 := fun w k => l107c (b := b) (cw := none) (a := a) (c := c) (L := []) hW ⟨fun h => absurd rfl h⟩ (by simp) (by simp) (by unfold worldO; simp; omega) 0 0 w (by simp) k
    have hf := fun w0 => worldU_fin (O := O) (b := b) (p := O.length) (n := 9) (w0 := w0) (l := []) (H := worldO O []) (by simp) (by simp) (by simp) (by simp) (by unfold worldO; rw [get_k0]; rfl) (by unfold worldO; rw [get_k]; rfl) (Nat.le_refl _)
    rw [e0] at h108
    rw [hlen] at h1 h2 ⊢
    simp only [Int.cast_ofNat_Int, List.length_nil, Nat.add_zero, List.take_zero, List.drop_zero, List.all_nil, if_true, Bool.and_true, Nat.zero_le, decide_true, Bool.true_and] at h1 h2 ⊢
    have hWl : (allU (O.length + 1) []).length = 9 := hlen
    have hz : ∀ w, rowOf 4 ⟨O ++ [.cells 4 ((allU (O.length + 1) []).flatMap UnitU.cells), natO], b, w⟩ (.slice (some (O.length, 0)) 9 none) = some ((allU (O.length + 1) []).flatMap UnitU.cells) := fun w => rowOfC (by rw [get_k0]; rfl) rfl
    unfold worldO at *
    generalize allU (O.length + 1) [] = W at *
    rcases Bool.eq_false_or_eq_true (namesU [] W) with c4 | c4
    · rw [c4] at h1
      simp only [c4, if_true] at h1 ⊢
      simp (disch := omega) [-getElem?_pos, -getElem?_neg, -List.all_eq_true, List.getElem?_cons_zero, List.getElem?_cons_succ, nltT, nltF, iltT, iltF, ileT, nleT, wrapI, xCallK t107, code107, h108, -finish, -rowOf, rowOf0, hz, h1, h2, hf]
    · rw [c4] at h1
      simp only [c4, Bool.false_eq_true, if_false] at h1 ⊢
      simp (disch := omega) [-getElem?_pos, -getElem?_neg, -List.all_eq_true, List.getElem?_cons_zero, List.getElem?_cons_succ, nltT, nltF, iltT, iltF, ileT, nleT, wrapI, xCallK t107, code107, h108, -rowOf, rowOf0, hz, h1]
  · have c1 : l.length ≠ 0 := fun e => c0 (List.eq_nil_of_length_eq_zero e)
    have hH : Pre O (O ++ [.dead, natO, .cells 4 ((allU (O.length + 1) l).flatMap UnitU.cells)]) := Pre.app _ _
    have hW : Units (O ++ [.dead, natO, .cells 4 ((allU (O.length + 1) l).flatMap UnitU.cells)]) (allU (O.length + 1) l) (some (O.length + 2, 0)) :=
      ⟨Row.mk0 (fun _ => rfl) (by rw [get_k]; rfl), by rw [hlen]; omega, allU_ok (by rw [get_k]; rfl) fun u hu => (hok u hu).1.pre hH⟩
    have hz : ∀ w, rowOf 4 ⟨O ++ [.cells 4 ((builtU (O.length + 1)).flatMap UnitU.cells), natO], b, w⟩ (.slice (some (O.length, 0)) 9 none) = some ((builtU (O.length + 1)).flatMap UnitU.cells) := fun w => rowOfC (by rw [get_k0]; rfl) rfl
    have hz2 := fun w => rowOf_row (h := ⟨O ++ [.cells 4 ((builtU (O.length + 1)).flatMap UnitU.cells), natO], b, w⟩) (c := c) ((Pre.app O _).row hR)
    have hl40 : (9 + l.length) * 80 ≤ 140737488355328 := by omega
    have hcat : (builtU (O.length + 1)).flatMap UnitU.cells ++ l.flatMap UnitU.cells = (allU (O.length + 1) l).flatMap UnitU.cells := by unfold allU; rw [List.flatMap_append]
    have h1 := fun x0 w k => l107b (b := b) (x0 := x0) hW.r hW.len (allU (O.length + 1) l).length 0 w (by simp) k
    have h2 := fun w k => l107c (b := b) (cw := none) (c := c) hW (hH.row hR) (by omega) (fun u hu => ⟨(hok u hu).1.pre hH, (hok u hu).2⟩) (by simp; omega) l.length 0 w (by simp) k
    have hf := fun w0 w2 hw => worldU_fin (O := O) (b := b) (p := O.length + 2) (n := 9 + l.length) (w0 := w0) (w2 := w2) (l := l) (H := O ++ [.dead, natO, .cells 4 ((allU (O.length + 1) l).flatMap UnitU.cells)]) hl hlow (by omega) (by omega) (by rw [get_k]; rfl) (by rw [get_k]; rfl) hw
    have hf := fun w0 => hf w0 O.length (Nat.le_refl _)
    rw [hlen] at h1 h2 ⊢
    simp only [Int.natCast_add, Int.cast_ofNat_Int, List.take_zero, List.drop_zero] at h1 h2 ⊢
    by_cases c2 : l.length ≤ 32
    · have n2 : ¬ ((32 : Int) < l.length) := by omega
      simp only [decide_eq_true c2, Bool.true_and]
      rcases Bool.eq_false_or_eq_true (namesU [] (allU (O.length + 1) l)) with c4 | c4
      · rw [c4] at h1
        simp only [c4, if_true, Bool.true_and] at h1 ⊢
        rcases Bool.eq_false_or_eq_true (l.all (unitU (allU (O.length + 1) l))) with c5 | c5
        · rw [c5] at h2
          simp only [c5, if_true] at h2 ⊢
          unfold worldO
          simp (disch := omega) [-getElem?_pos, -getElem?_neg, -List.all_eq_true, List.getElem?_cons_zero, List.getElem?_cons_succ, nltT, nltF, iltT, iltF, ileT, nleT, wrapI, xCallK t107, code107, h108, -finish, -rowOf, hz, hz2, hl40, hcat, get_k, get_k0, set_k, set_k0, c1, n2, h1, h2, hf]
        · rw [c5] at h2
          simp only [c5, Bool.false_eq_true, if_false] at h2 ⊢
          simp (disch := omega) [-getElem?_pos, -getElem?_neg, -List.all_eq_true, List.getElem?_cons_zero, List.getElem?_cons_succ, nltT, nltF, iltT, iltF, ileT, nleT, wrapI, xCallK t107, code107, h108, -rowOf, hz, hz2, hl40, hcat, get_k, get_k0, set_k, set_k0, c1, n2, h1, h2]
      · rw [c4] at h1
        simp only [c4, Bool.false_eq_true, if_false, Bool.false_and] at h1 ⊢
        simp (disch := omega) [-getElem?_pos, -getElem?_neg, -List.all_eq_true, List.getElem?_cons_zero, List.getElem?_cons_succ, nltT, nltF, iltT, iltF, ileT, nleT, wrapI, xCallK t107, code107, h108, -rowOf, hz, hz2, hl40, hcat, get_k, get_k0, set_k, set_k0, c1, n2, h1]
    · have n2 : (32 : Int) < l.length := by omega
      simp only [decide_eq_false c2, Bool.false_and, Bool.false_eq_true, if_false]
      simp (disch := omega) [-getElem?_pos, -getElem?_neg, -List.all_eq_true, List.getElem?_cons_zero, List.getElem?_cons_succ, nltT, nltF, iltT, iltF, ileT, nleT, wrapI, xCallK t107, code107, h108, -rowOf, hz, hz2, hl40, hcat, get_k, get_k0, set_k, set_k0, c1, n2]

end Go.Abs.AbsHier
