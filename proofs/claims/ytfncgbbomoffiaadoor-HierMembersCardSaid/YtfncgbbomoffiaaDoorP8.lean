/-
  Layer 16: the program's world and the reference's: plain lists.
-/
import Derived.Test.YtfncgbbomoffiaaDoorP7
import Derived.KernelRfl
namespace Go.Abs.AbsHier
open Go.Abs.AbsDesc
set_option maxRecDepth 100000
set_option linter.unusedSimpArgs false

theorem findU_none {W : List UnitU} {n : Str} : findU W n = none ↔ ∀ u ∈ W, u.name ≠ n := by
  unfold findU; rw [List.find?_eq_none]; simp
theorem findU_cons (u : UnitU) (W : List UnitU) (n : Str) : findU (u :: W) n = if u.name = n then some u else findU W n := by
  unfold findU; rw [List.find?_cons]
  by_cases h : u.name = n <;> simp [h]

theorem getE_sup : ∀ (W : List UnitU) (n : Str), getE (W.map supE) n = (findU W n).map UnitU.super
  | [], n => rfl
  | u :: W, n => by
    rw [findU_cons]
    simp only [List.map_cons, getE, supE]
    by_cases h : u.name = n
    · simp [h]
    · simp only [h, if_false]; exact getE_sup W n

theorem thereS_eq (W : List UnitU) (t : Str) : thereS (W.map supE) t = thereU W t := by
  unfold thereS thereU
  cases classOf (bare t) with
  | none => rfl
  | some c => simp [getE_sup]
theorem trapOk_eq (W : List UnitU) (t : TrapU) : trapOk (W.map supE) t = trapU W t := by
  unfold trapOk trapU; simp [getE_sup]

theorem lineS_eq (W : List UnitU) : ∀ (k : Nat) (c : Str), lineS (W.map supE) k c = (lineU W k c).map UnitU.name
  | 0, c => rfl
  | k + 1, c => by
    unfold lineU
    simp only [lineS, getE_sup]
    cases h : findU W c with
    | none => rfl
    | some v =>
      have := (findU_mem h).2
      simp only [Option.map_some, goL, List.map_cons, this]
      rw [lineS_eq W k v.super]; rfl

theorem goL_succ (W : List UnitU) : ∀ (k : Nat) (u : Option UnitU), (goL W (k + 1) u).length ≤ k → goL W (k + 1) u = goL W k u
  | 0, none, _ => rfl
  | 0, some v, h => by simp [goL] at h
  | k + 1, none, _ => rfl
  | k + 1, some v, h => by
    simp only [goL, List.length_cons] at h ⊢
    rw [goL_succ W k (findU W v.super) (by omega)]
theorem lineU_succ {W : List UnitU} {k : Nat} {c : Str} (h : (lineU W (k + 1) c).length ≤ k) : lineU W (k + 1) c = lineU W k c := goL_succ W k _ h

theorem lineU_cons {W : List UnitU} {k : Nat} {c : Str} {v : UnitU} (h : findU W c = some v) : lineU W (k + 1) c = v :: lineU W k v.super := by
  unfold lineU; rw [h]; rfl
theorem lineU_none {W : List UnitU} {k : Nat} {c : Str} (h : findU W c = none) : lineU W k c = [] := by
  unfold lineU; rw [h]; cases k <;> rfl

/-- A line that goes on behind so many ends there with a class that has one above. -/
theorem goL_last (W : List UnitU) : ∀ (k : Nat) (u : Option UnitU) (v : UnitU), (goL W (k + 1) u).length = k + 1 → (goL W k u).getLast? = some v → (findU W v.super).isSome = true
  | 0, u, v, _, h => by simp [goL] at h
  | k + 1, none, v, h, _ => by simp [goL] at h
  | 1, some x, v, h, h2 => by
    simp only [goL, List.getLast?_singleton, Option.some.injEq] at h2
    subst h2
    cases hf : findU W x.super with
    | none => simp [goL, hf] at h
    | some _ => rfl
  | k + 2, some x, v, h, h2 => by
    have h3 : (goL W (k + 2) (findU W x.super)).length = k + 2 := by simp only [goL, List.length_cons] at h ⊢; omega
    refine goL_last W (k + 1) (findU W x.super) v h3 ?_
    cases hf : findU W x.super with
    | none => rw [hf] at h3; simp [goL] at h3
    | some y =>
      simp only [goL, hf] at h2 ⊢
      rwa [List.getLast?_cons_cons] at h2

/-! ## Members -/

def rightU (W : List UnitU) (m : MethU) : Bool := match methL m.desc with
  | some (A, r) => isName m.name && (thereU W r && (A.all (thereU W) && m.traps.all (trapU W)))
  | none => false
theorem rightS_eq (W : List UnitU) (m : MethU) : rightS (W.map supE) m = rightU W m := by
  unfold rightS rightU
  cases methL m.desc with
  | none => rfl
  | some q =>
    obtain ⟨A, r⟩ := q
    simp only [List.all_append, List.all_cons, List.all_nil, Bool.and_true]
    have h1 : A.all (thereS (W.map supE)) = A.all (thereU W) := by congr 1; funext t; exact thereS_eq W t
    have h2 : m.traps.all (trapOk (W.map supE)) = m.traps.all (trapU W) := by congr 1; funext t; exact trapOk_eq W t
    rw [h1, h2, thereS_eq]
    cases isName m.name <;> cases thereU W r <;> cases A.all (thereU W) <;> cases m.traps.all (trapU W) <;> rfl
theorem methodU_eq (W : List UnitU) (u : UnitU) (m : MethU) : methodU W u m = (rightU W m && (lineU W (W.length + 1) u.name).all (evenM m)) := by
  unfold methodU rightU
  cases methL m.desc with
  | none => rfl
  | some q =>
    obtain ⟨A, r⟩ := q
    simp only [Bool.and_assoc]

def fieldsD : List FieldU → List FieldU → Bool
  | _, [] => true
  | A, f :: r => A.all (fun g => !decide (f.name = g.name)) && fieldsD (A ++ [f]) r
def methsD : List MethU → List MethU → Bool
  | _, [] => true
  | A, m :: r => A.all (fun g => !(decide (m.name = g.name) && decide (m.desc = g.desc))) && methsD (A ++ [m]) r
def fieldR (W : List UnitU) (f : FieldU) : Bool := isName f.name && (isTy f.desc && thereU W f.desc)

theorem fieldsU_eq (W : List UnitU) : ∀ (A l : List FieldU), fieldsU W A l = (l.all (fieldR W) && fieldsD A l)
  | _, [] => rfl
  | A, f :: r => by
    simp only [fieldsU, List.all_cons, fieldsD, fieldsU_eq W (A ++ [f]) r, fieldR]
    cases isName f.name <;> cases isTy f.desc <;> cases thereU W f.desc <;> cases A.all (fun g => !decide (f.name = g.name)) <;> simp
theorem methsU_eq (W : List UnitU) (u : UnitU) : ∀ (A l : List MethU), methsU W u A l = (l.all (methodU W u) && methsD A l)
  | _, [] => rfl
  | A, m :: r => by
    simp only [methsU, List.all_cons, methsD, methsU_eq W u (A ++ [m]) r]
    cases methodU W u m <;> cases A.all (fun g => !(decide (m.name = g.name) && decide (m.desc = g.desc))) <;> simp

theorem getE_names (n : Str) : ∀ A : List FieldU, (getE (A.map fun f => (f.name, true)) n).getD false = !(A.all fun g => !decide (n = g.name))
  | [] => rfl
  | f :: A => by
    simp only [List.map_cons, getE, List.all_cons]
    by_cases h : f.name = n
    · simp [h]
    · have h' : ¬ n = f.name := fun e => h e.symm
      simp only [h, h', if_false, decide_false, Bool.not_false, Bool.true_and]
      exact getE_names n A
theorem fieldsS_eq (W : List UnitU) : ∀ (A l : List FieldU), fieldsS (W.map supE) (A.map fun f => (f.name, true)) l = (l.all (fieldR W) && fieldsD A l)
  | _, [] => rfl
  | A, f :: r => by
    have ih := fieldsS_eq W (A ++ [f]) r
    rw [List.map_append] at ih
    simp only [List.map_cons, List.map_nil] at ih
    simp only [fieldsS, fieldOk, List.all_cons, fieldsD, fieldR, thereS_eq, getE_names, Bool.not_not, ih]
    cases isName f.name <;> cases isTy f.desc <;> cases thereU W f.desc <;> cases A.all (fun g => !decide (f.name = g.name)) <;> simp

theorem getE_meths (c n d : Str) : ∀ A : List MethU, getE (A.map (methE c)) (c, n, d) = (methAt A n d).map fun x => ⟨c, x.st⟩
  | [] => rfl
  | m :: A => by
    have ih := getE_meths c n d A
    unfold methAt at ih ⊢
    simp only [List.map_cons, getE, methE, List.find?_cons]
    by_cases h1 : m.name = n
    · by_cases h2 : m.desc = d
      · simp [h1, h2]
      · simp only [Prod.mk.injEq, h1, h2, and_false, if_false, decide_true, decide_false, Bool.and_false]
        exact ih
    · simp only [Prod.mk.injEq, h1, false_and, and_false, if_false, decide_false, Bool.false_and]
      exact ih
theorem getE_fields (c n d : Str) : ∀ A : List FieldU, getE (A.map (fieldE c)) (c, n, d) = (fieldAt A n d).map fun x => ⟨c, x.st⟩
  | [] => rfl
  | m :: A => by
    have ih := getE_fields c n d A
    unfold fieldAt at ih ⊢
    simp only [List.map_cons, getE, fieldE, List.find?_cons]
    by_cases h1 : m.name = n
    · by_cases h2 : m.desc = d
      · simp [h1, h2]
      · simp only [Prod.mk.injEq, h1, h2, and_false, if_false, decide_true, decide_false, Bool.and_false]
        exact ih
    · simp only [Prod.mk.injEq, h1, false_and, and_false, if_false, decide_false, Bool.false_and]
      exact ih

theorem methAt_isSome (n d : Str) (A : List MethU) : (methAt A n d).isSome = !(A.all fun g => !(decide (n = g.name) && decide (d = g.desc))) := by
  induction A with
  | nil => rfl
  | cons m A ih =>
    unfold methAt at ih ⊢
    rw [List.find?_cons]
    have e1 : decide (m.name = n) = decide (n = m.name) := by rw [decide_eq_decide]; exact eq_comm
    have e2 : decide (m.desc = d) = decide (d = m.desc) := by rw [decide_eq_decide]; exact eq_comm
    rw [e1, e2, List.all_cons]
    cases decide (n = m.name) && decide (d = m.desc) with
    | true => simp
    | false => simpa using ih

theorem methsS_eq (W : List UnitU) (c : Str) (M : List (Key × Mem)) (hM : ∀ x ∈ M, x.1.1 ≠ c) : ∀ (A l : List MethU), methsS (W.map supE) c (M ++ A.map (methE c)) l = (l.all (rightU W) && methsD A l)
  | _, [] => rfl
  | A, m :: r => by
    have ih := methsS_eq W c M hM (A ++ [m]) r
    rw [List.map_append, ← List.append_assoc] at ih
    simp only [List.map_cons, List.map_nil] at ih
    have hg : (getE (M ++ A.map (methE c)) (c, m.name, m.desc)).isSome = !(A.all fun g => !(decide (m.name = g.name) && decide (m.desc = g.desc))) := by
      rw [getE_app, getE_none.2 (fun x hx e => hM x hx (by rw [e])), Option.none_or, getE_meths, Option.isSome_map, methAt_isSome]
    simp only [methsS, methOk, List.all_cons, methsD, rightS_eq, hg, Bool.not_not, ih]
    cases rightU W m <;> cases A.all (fun g => !(decide (m.name = g.name) && decide (m.desc = g.desc))) <;> simp

/-! ## Worlds -/

def membF (u : UnitU) : List (Key × Mem) := u.fields.map (fieldE u.name)
def membM (u : UnitU) : List (Key × Mem) := u.meths.map (methE u.name)
theorem built_S (m : Nat) : (builtU m).map supE = builtS := rfl
theorem built_M (m : Nat) : (builtU m).flatMap membM = builtM := rfl
theorem built_F (m : Nat) : (builtU m).flatMap membF = [] := rfl

theorem getE_classes {g : UnitU → List (Key × Mem)} (hg : ∀ u, ∀ x ∈ g u, x.1.1 = u.name) (k : Key) : ∀ {W : List UnitU}, (W.map UnitU.name).Nodup → getE (W.flatMap g) k = (findU W k.1).bind fun u => getE (g u) k
  | [], _ => rfl
  | u :: W, h => by
    rw [List.map_cons, List.nodup_cons] at h
    rw [List.flatMap_cons, getE_app, getE_classes hg k h.2, findU_cons]
    by_cases e : u.name = k.1
    · have hn : findU W k.1 = none := findU_none.2 fun v hv e2 => h.1 (List.mem_map.2 ⟨v, hv, by rw [e2, e]⟩)
      rw [if_pos e, hn]
      simp
    · have hn : getE (g u) k = none := getE_none.2 fun x hx e2 => e (by rw [← hg u x hx, e2])
      rw [if_neg e, hn]; rfl

theorem memb_M (u : UnitU) : ∀ x ∈ membM u, x.1.1 = u.name := fun x hx => by
  obtain ⟨m, _, rfl⟩ := List.mem_map.1 hx; rfl
theorem memb_F (u : UnitU) : ∀ x ∈ membF u, x.1.1 = u.name := fun x hx => by
  obtain ⟨m, _, rfl⟩ := List.mem_map.1 hx; rfl

theorem getM {W : List UnitU} (h : (W.map UnitU.name).Nodup) (c n d : Str) : getE (W.flatMap membM) (c, n, d) = (findU W c).bind fun u => (methAt u.meths n d).map fun x => ⟨u.name, x.st⟩ := by
  rw [getE_classes memb_M _ h]
  cases hf : findU W c with
  | none => rfl
  | some u =>
    simp only [Option.bind_some, membM]
    rw [← (findU_mem hf).2, getE_meths]
theorem getF {W : List UnitU} (h : (W.map UnitU.name).Nodup) (c n d : Str) : getE (W.flatMap membF) (c, n, d) = (findU W c).bind fun u => (fieldAt u.fields n d).map fun x => ⟨u.name, x.st⟩ := by
  rw [getE_classes memb_F _ h]
  cases hf : findU W c with
  | none => rfl
  | some u =>
    simp only [Option.bind_some, membF]
    rw [← (findU_mem hf).2, getE_fields]

/-- Each class of a line is found by its name. -/
theorem goL_found (W : List UnitU) : ∀ (k : Nat) (u : Option UnitU), (∀ v, u = some v → findU W v.name = some v) → ∀ v ∈ goL W k u, findU W v.name = some v
  | 0, _, _, v, hv => by simp [goL] at hv
  | _ + 1, none, _, v, hv => by simp [goL] at hv
  | k + 1, some x, h, v, hv => by
    simp only [goL, List.mem_cons] at hv
    rcases hv with rfl | hv
    · exact h _ rfl
    · exact goL_found W k _ (fun y hy => by rw [(findU_mem hy).2]; exact hy) v hv
theorem lineU_found {W : List UnitU} {k : Nat} {c : Str} : ∀ v ∈ lineU W k c, findU W v.name = some v := goL_found W k _ fun y hy => by rw [(findU_mem hy).2]; exact hy

theorem first_M {W : List UnitU} (h : (W.map UnitU.name).Nodup) {k : Nat} {c n d : Str} : (lineS (W.map supE) k c).findSome? (fun c => getE (W.flatMap membM) (c, n, d)) = methU (lineU W k c) n d := by
  rw [lineS_eq]
  have hf := lineU_found (W := W) (k := k) (c := c)
  unfold methU
  generalize lineU W k c = L at hf ⊢
  induction L with
  | nil => rfl
  | cons v L ih =>
    rw [List.map_cons, List.findSome?_cons, List.findSome?_cons, getM h, hf v (List.mem_cons_self ..), ih fun x hx => hf x (List.mem_cons_of_mem _ hx)]
    rfl
theorem first_F {W : List UnitU} (h : (W.map UnitU.name).Nodup) {k : Nat} {c n d : Str} : (lineS (W.map supE) k c).findSome? (fun c => getE (W.flatMap membF) (c, n, d)) = fieldU (lineU W k c) n d := by
  rw [lineS_eq]
  have hf := lineU_found (W := W) (k := k) (c := c)
  unfold fieldU
  generalize lineU W k c = L at hf ⊢
  induction L with
  | nil => rfl
  | cons v L ih =>
    rw [List.map_cons, List.findSome?_cons, List.findSome?_cons, getF h, hf v (List.mem_cons_self ..), ih fun x hx => hf x (List.mem_cons_of_mem _ hx)]
    rfl

/-- What both ask of a unit. -/
def endsU (W : List UnitU) (c : Str) : Bool := decide (2 ≤ (lineU W (W.length + 1) c).length) && (decide ((lineU W (W.length + 1) c).length ≤ W.length) && decide (lastName (lineU W (W.length + 1) c) = objectT))
def ownU (W : List UnitU) (u : UnitU) : Bool := endsU W u.name && (u.fields.all (fieldR W) && (fieldsD [] u.fields && (u.meths.all (rightU W) && methsD [] u.meths)))
def nameU (u : UnitU) : Bool := isClass u.name && !decide (u.super = sysT)
def evenU (W : List UnitU) (u : UnitU) : Bool := u.meths.all fun m => (lineU W (W.length + 1) u.name).all (evenM m)

theorem unitU_eq (W : List UnitU) (u : UnitU) : unitU W u = (nameU u && (ownU W u && evenU W u)) := by
  have h : u.meths.all (methodU W u) = (u.meths.all (rightU W) && evenU W u) := by
    unfold evenU
    induction u.meths with
    | nil => rfl
    | cons m r ih =>
      simp only [List.all_cons, ih, methodU_eq]
      cases rightU W m <;> cases (lineU W (W.length + 1) u.name).all (evenM m) <;> simp
  unfold unitU nameU ownU endsU
  rw [fieldsU_eq, methsU_eq, h]
  simp only [Bool.and_assoc]
  cases isClass u.name <;> cases decide (u.super = sysT) <;> cases decide (2 ≤ (lineU W (W.length + 1) u.name).length) <;> cases decide ((lineU W (W.length + 1) u.name).length ≤ W.length) <;> cases decide (lastName (lineU W (W.length + 1) u.name) = objectT) <;>
    cases u.fields.all (fieldR W) <;> cases fieldsD [] u.fields <;> cases u.meths.all (rightU W) <;> cases evenU W u <;> simp

theorem namesU_eq : ∀ (A l : List UnitU), (A.map UnitU.name).Nodup → (namesU A l = true ↔ ((A ++ l).map UnitU.name).Nodup)
  | A, [], h => by simp [namesU, h]
  | A, u :: r, h => by
    have e : A ++ u :: r = (A ++ [u]) ++ r := by simp
    simp only [namesU, Bool.and_eq_true, List.all_eq_true]
    by_cases c : ∀ x ∈ A, (!decide (u.name = x.name)) = true
    · have h2 : ((A ++ [u]).map UnitU.name).Nodup := by
        rw [List.map_append, List.nodup_append]
        refine ⟨h, by simp, fun a ha b hb => ?_⟩
        obtain ⟨x, hx, rfl⟩ := List.mem_map.1 ha
        simp only [List.map_cons, List.map_nil, List.mem_singleton] at hb
        subst hb
        have := c x hx
        intro e
        simp [e] at this
      rw [e, ← namesU_eq (A ++ [u]) r h2]
      exact ⟨fun h => h.2, fun h => ⟨c, h⟩⟩
    · refine ⟨fun h => absurd h.1 c, fun hn => absurd (fun x hx => ?_) c⟩
      rw [List.map_append, List.nodup_append] at hn
      have := hn.2.2 x.name (List.mem_map.2 ⟨x, hx, rfl⟩) u.name (by simp)
      simpa using fun e => this e.symm

end Go.Abs.AbsHier

/-
  Layer 16: the program's world is there just if the reference's is.
-/
namespace Go.Abs.AbsHier
open Go.Abs.AbsDesc
set_option maxRecDepth 100000
set_option linter.unusedSimpArgs false

theorem supersS_iff : ∀ {l : List UnitU} {S : List (Str × Str)}, (supersS S l).isSome = true ↔ ((l.map UnitU.name).Nodup ∧ ∀ u ∈ l, getE S u.name = none ∧ nameU u = true)
  | [], S => by simp [supersS]
  | u :: l, S => by
    simp only [supersS]
    by_cases c : superOk S u = true
    · rw [if_pos c, supersS_iff]
      unfold superOk at c
      simp only [Bool.and_eq_true, Bool.not_eq_true', Option.isSome_eq_false_iff, Option.isNone_iff_eq_none] at c
      obtain ⟨⟨c1, c2⟩, c3⟩ := c
      have c4 : nameU u = true := by unfold nameU; rw [c2, c3]; rfl
      rw [List.map_cons, List.nodup_cons]
      refine ⟨fun ⟨h1, h2⟩ => ⟨⟨fun hm => ?_, h1⟩, fun v hv => ?_⟩, fun ⟨h1, h2⟩ => ⟨h1.2, fun v hv => ?_⟩⟩
      · obtain ⟨v, hv, e⟩ := List.mem_map.1 hm
        have := (h2 v hv).1
        rw [getE_app, e, c1] at this
        simp [getE] at this
      · rcases List.mem_cons.1 hv with rfl | hv
        · exact ⟨c1, c4⟩
        · have := (h2 v hv).1
          rw [getE_app] at this
          refine ⟨?_, (h2 v hv).2⟩
          cases hq : getE S v.name with
          | none => rfl
          | some y => rw [hq] at this; cases this
      · obtain ⟨d1, d2⟩ := h2 v (List.mem_cons_of_mem _ hv)
        refine ⟨?_, d2⟩
        rw [getE_app, d1, Option.none_or]
        simp only [getE]
        rw [if_neg fun e => h1.1 (List.mem_map.2 ⟨v, hv, e.symm⟩)]
    · rw [if_neg c]
      refine ⟨fun h => (by cases h), fun h => absurd ?_ c⟩
      have h2 := h.2
      obtain ⟨d1, d2⟩ := h2 u (List.mem_cons_self ..)
      unfold nameU at d2
      simp only [Bool.and_eq_true] at d2
      unfold superOk
      rw [d1, d2.1, d2.2]; rfl

theorem endsS_eq {W : List UnitU} {o : UnitU} (h0 : findU W [] = none) (ho : findU W objectT = some o) (hs : o.super = []) (c : Str) : endsS (W.map supE) c = endsU W c := by
  unfold endsS endsU
  rw [List.length_map, lineS_eq, List.length_map]
  have hlast : ∀ L : List UnitU, (L.map UnitU.name).getLastD [] = lastName L := fun L => by
    unfold lastName
    rw [List.getLastD_eq_getLast?, List.getLast?_map]
  rw [hlast]
  by_cases hl : (lineU W (W.length + 1) c).length ≤ W.length
  · have hl2 := lineU_succ hl
    rw [hl2] at hl ⊢
    have e : decide (1 < (lineU W W.length c).length) = decide (2 ≤ (lineU W W.length c).length) := rfl
    rw [e, decide_eq_true hl]
    cases decide (lastName (lineU W W.length c) = objectT) <;> cases decide (2 ≤ (lineU W W.length c).length) <;> rfl
  · rw [decide_eq_false hl, Bool.false_and, Bool.and_false, Bool.and_eq_false_iff]
    refine .inl (decide_eq_false ?_)
    intro e
    have hlen : (lineU W (W.length + 1) c).length = W.length + 1 := by have := goL_len W (W.length + 1) (findU W c); unfold lineU at hl ⊢; omega
    unfold lastName at e
    cases hv : (lineU W W.length c).getLast? with
    | none => rw [hv] at e; exact absurd e (by decide)
    | some v =>
      rw [hv] at e
      have e : v.name = objectT := e
      have hm : v ∈ lineU W W.length c := List.mem_of_getLast? hv
      have hf := lineU_found v hm
      rw [e, ho] at hf
      have := goL_last W W.length (findU W c) v hlen hv
      rw [← Option.some.inj hf, hs, h0] at this
      cases this

theorem membersS_eq {W : List UnitU} (hends : ∀ c, endsS (W.map supE) c = endsU W c) : ∀ {l : List UnitU} {F M : List (Key × Mem)}, (l.map UnitU.name).Nodup → (∀ x ∈ M, ∀ u ∈ l, x.1.1 ≠ u.name) →
    membersS (W.map supE) F M l = if l.all (ownU W) then some (F ++ l.flatMap membF, M ++ l.flatMap membM) else none
  | [], F, M, _, _ => by simp [membersS]
  | u :: l, F, M, hn, hM => by
    rw [List.map_cons, List.nodup_cons] at hn
    have hu : unitOk (W.map supE) M u = ownU W u := by
      have h1 := fieldsS_eq W [] u.fields
      have h2 := methsS_eq W u.name M (fun x hx => hM x hx u (List.mem_cons_self ..)) [] u.meths
      simp only [List.map_nil, List.append_nil] at h1 h2
      unfold unitOk ownU
      rw [hends, h1, h2]
      simp only [Bool.and_assoc]
    simp only [membersS, hu, List.all_cons]
    rcases Bool.eq_false_or_eq_true (ownU W u) with c | c
    · simp only [c, if_true, Bool.true_and]
      rw [membersS_eq hends hn.2]
      · simp only [List.flatMap_cons, List.append_assoc]; rfl
      · intro x hx v hv e
        rcases List.mem_append.1 hx with hx | hx
        · exact hM x hx v (List.mem_cons_of_mem _ hv) e
        · exact hn.1 (List.mem_map.2 ⟨v, hv, by rw [← e, memb_M u x hx]⟩)
    · simp [c]

def keysU (l : List MethU) : Prop := l.Pairwise fun a c => ¬ (a.name = c.name ∧ a.desc = c.desc)
theorem methsD_keys : ∀ (A l : List MethU), methsD A l = true → keysU A → keysU (A ++ l)
  | A, [], _, h => by simpa using h
  | A, m :: r, hd, h => by
    simp only [methsD, Bool.and_eq_true, List.all_eq_true] at hd
    have e : A ++ m :: r = (A ++ [m]) ++ r := by simp
    rw [e]
    refine methsD_keys (A ++ [m]) r hd.2 ?_
    unfold keysU
    rw [List.pairwise_append]
    refine ⟨h, by simp, fun a ha c hc hh => ?_⟩
    simp only [List.mem_singleton] at hc
    subst hc
    have := hd.1 a ha
    simp [hh.1, hh.2] at this

theorem even_eq {m : MethU} : ∀ {l : List MethU}, keysU l → (match (methAt l m.name m.desc).map MethU.st with | some y => y == m.st | none => true) = l.all fun x => !oddM m x
  | [], _ => rfl
  | x :: l, h => by
    have h := List.pairwise_cons.1 h
    have ih := even_eq (m := m) h.2
    unfold methAt at ih ⊢
    rw [List.find?_cons, List.all_cons]
    by_cases h1 : x.name = m.name
    · by_cases h2 : x.desc = m.desc
      · have hr : (l.all fun x => !oddM m x) = true := by
          rw [List.all_eq_true]
          intro y hy
          have := h.1 y hy
          unfold oddM
          by_cases g1 : y.name = m.name
          · by_cases g2 : y.desc = m.desc
            · exact absurd ⟨h1.trans g1.symm, h2.trans g2.symm⟩ this
            · simp [g2]
          · simp [g1]
        rw [hr]
        unfold oddM
        simp only [h1, h2, decide_true, Bool.and_self, Option.map_some, Bool.true_and, Bool.not_not, Bool.and_true]
        cases x.st <;> cases m.st <;> rfl
      · unfold oddM
        simp only [h1, h2, decide_true, decide_false, Bool.and_false, Bool.false_and, Bool.not_false, Bool.true_and]
        exact ih
    · unfold oddM
      simp only [h1, decide_false, Bool.false_and, Bool.not_false, Bool.true_and]
      exact ih

theorem overS_eq {W : List UnitU} (hn : (W.map UnitU.name).Nodup) (hk : ∀ v ∈ W, keysU v.meths) {u : UnitU} (hl : (lineU W (W.length + 1) u.name).length ≤ W.length) : overS (W.map supE) (W.flatMap membM) u = evenU W u := by
  unfold overS evenU
  congr 1
  funext m
  unfold overM
  rw [List.length_map, lineS_eq, lineU_succ hl]
  have hf := lineU_found (W := W) (k := W.length) (c := u.name)
  generalize lineU W W.length u.name = L at hf ⊢
  induction L with
  | nil => rfl
  | cons v L ih =>
    rw [List.map_cons, List.all_cons, List.all_cons, ih fun x hx => hf x (List.mem_cons_of_mem _ hx)]
    congr 1
    have hv := hf v (List.mem_cons_self ..)
    have := even_eq (m := m) (hk v (findU_mem hv).1)
    unfold overOk evenM
    rw [getM hn, hv, Option.bind_some]
    rw [← this]
    cases methAt v.meths m.name m.desc <;> rfl

theorem built_keys (m : Nat) : ∀ v ∈ builtU m, keysU v.meths := by
  have : (builtU m).all (fun v => methsD [] v.meths) = true := rfl
  intro v hv
  exact methsD_keys [] _ (List.all_eq_true.1 this v hv) List.Pairwise.nil

theorem isClass_nil : isClass [] = false := by decide

theorem built_none (m : Nat) : findU (builtU m) [] = none := rfl
theorem built_names (m : Nat) : ((builtU m).map UnitU.name).Nodup := by
  have : (builtU m).map UnitU.name = [objectT, throwT, sysT] ++ faultsL := rfl
  rw [this]; decide

theorem all_unit (W : List UnitU) : ∀ l : List UnitU, l.all (unitU W) = (l.all nameU && (l.all (ownU W) && l.all (evenU W)))
  | [] => rfl
  | u :: r => by
    simp only [List.all_cons, unitU_eq, all_unit W r]
    cases nameU u <;> cases ownU W u <;> cases evenU W u <;> cases r.all nameU <;> cases r.all (ownU W) <;> cases r.all (evenU W) <;> rfl

theorem worldS_eq (m : Nat) (l : List UnitU) : worldS l = if worldU m l then some ((allU m l).map supE, (allU m l).flatMap membF, (allU m l).flatMap membM) else none := by
  unfold worldS worldU
  by_cases c1 : l.length ≤ 32
  · rw [if_pos c1, decide_eq_true c1, Bool.true_and]
    have hS : builtS ++ l.map supE = (allU m l).map supE := by unfold allU; rw [List.map_append, built_S]
    have hM : builtM ++ l.flatMap membM = (allU m l).flatMap membM := by unfold allU; rw [List.flatMap_append, built_M]
    have hF : l.flatMap membF = (allU m l).flatMap membF := by unfold allU; rw [List.flatMap_append, built_F]; rfl
    have hnames : namesU [] (allU m l) = true ↔ ((allU m l).map UnitU.name).Nodup := namesU_eq [] _ (by simp)
    have hall : l.all (unitU (allU m l)) = (l.all nameU && (l.all (ownU (allU m l)) && l.all (evenU (allU m l)))) := by
      exact all_unit _ l
    have hcat : ((allU m l).map UnitU.name).Nodup ↔ ((l.map UnitU.name).Nodup ∧ ∀ u ∈ l, getE builtS u.name = none) := by
      unfold allU
      rw [List.map_append, List.nodup_append, ← built_S m]
      refine ⟨fun ⟨_, h2, h3⟩ => ⟨h2, fun u hu => ?_⟩, fun ⟨h1, h2⟩ => ⟨built_names m, h1, fun a ha b hb e => ?_⟩⟩
      · rw [getE_sup, Option.map_eq_none_iff, findU_none]
        exact fun v hv e => h3 v.name (List.mem_map.2 ⟨v, hv, rfl⟩) u.name (List.mem_map.2 ⟨u, hu, rfl⟩) e
      · obtain ⟨v, hv, rfl⟩ := List.mem_map.1 ha
        obtain ⟨u, hu, rfl⟩ := List.mem_map.1 hb
        have := h2 u hu
        rw [getE_sup, Option.map_eq_none_iff, findU_none] at this
        exact this v hv e
    rw [hall]
    by_cases c2 : ((allU m l).map UnitU.name).Nodup
    · rw [hnames.2 c2, Bool.true_and]
      rcases Bool.eq_false_or_eq_true (l.all nameU) with c3 | c3
      · have hsup : (supersS builtS l).isSome = true := supersS_iff.2 ⟨(hcat.1 c2).1, fun u hu => ⟨(hcat.1 c2).2 u hu, List.all_eq_true.1 c3 u hu⟩⟩
        obtain ⟨S, hS1⟩ := Option.isSome_iff_exists.1 hsup
        have hS2 := (supersS_eq hS1).1
        rw [hS] at hS2
        subst hS2
        rw [hS1, c3, Bool.true_and]
        have h0 : findU (allU m l) [] = none := by
          unfold allU findU
          rw [List.find?_append]
          have := built_none m
          unfold findU at this
          rw [this, Option.none_or, List.find?_eq_none]
          intro u hu
          have := List.all_eq_true.1 c3 u hu
          unfold nameU at this
          intro e
          have e : u.name = [] := by simpa using e
          rw [e, isClass_nil] at this
          cases this
        have hends := endsS_eq (W := allU m l) (o := plainU objectT []) h0 rfl rfl
        have hmem := membersS_eq (F := []) (M := builtM) hends (hcat.1 c2).1 (fun x hx u hu => by
          have h1 := (hcat.1 c2).2 u hu
          rw [← built_M m] at hx
          obtain ⟨v, hv, hx⟩ := List.mem_flatMap.1 hx
          rw [memb_M v x hx]
          rw [← built_S m, getE_sup, Option.map_eq_none_iff, findU_none] at h1
          exact h1 v hv)
        simp only
        rw [hmem, hM, List.nil_append, hF]
        rcases Bool.eq_false_or_eq_true (l.all (ownU (allU m l))) with c4 | c4
        · rw [c4, if_pos rfl, Bool.true_and]
          simp only
          have hkeys : ∀ v ∈ allU m l, keysU v.meths := fun v hv => by
            rcases List.mem_append.1 hv with hv | hv
            · exact built_keys m v hv
            · have := List.all_eq_true.1 c4 v hv
              unfold ownU at this
              simp only [Bool.and_eq_true] at this
              exact methsD_keys [] _ this.2.2.2.2 List.Pairwise.nil
          have hov : l.all (overS ((allU m l).map supE) ((allU m l).flatMap membM)) = l.all (evenU (allU m l)) := by
            rw [Bool.eq_iff_iff, List.all_eq_true, List.all_eq_true]
            have key : ∀ u ∈ l, overS ((allU m l).map supE) ((allU m l).flatMap membM) u = evenU (allU m l) u := fun u hu => by
              have := List.all_eq_true.1 c4 u hu
              unfold ownU endsU at this
              simp only [Bool.and_eq_true, decide_eq_true_eq] at this
              exact overS_eq c2 hkeys this.1.2.1
            exact ⟨fun h u hu => by rw [← key u hu]; exact h u hu, fun h u hu => by rw [key u hu]; exact h u hu⟩
          rw [hov]
        · rw [c4]; rfl
      · have hsup : supersS builtS l = none := by
          rw [← Option.not_isSome_iff_eq_none, supersS_iff]
          intro h
          have : l.all nameU = true := List.all_eq_true.2 fun u hu => (h.2 u hu).2
          rw [c3] at this; cases this
        rw [hsup, c3]; rfl
    · have hsup : supersS builtS l = none := by
        rw [← Option.not_isSome_iff_eq_none, supersS_iff]
        exact fun h => c2 (hcat.2 ⟨h.1, fun u hu => (h.2 u hu).1⟩)
      have hn : namesU [] (allU m l) = false := by
        rw [← Bool.not_eq_true]; exact fun h => c2 (hnames.1 h)
      rw [hsup, hn]; rfl
  · rw [if_neg c1, decide_eq_false c1]; rfl

end Go.Abs.AbsHier

/-
  Layer 16: where members stand: the program's and the reference's.
-/
namespace Go.Abs.AbsHier
open Go.Abs.AbsDesc
set_option maxRecDepth 100000
set_option linter.unusedSimpArgs false

theorem worldU_all {m : Nat} {l : List UnitU} (h : worldU m l = true) : l.length ≤ 32 ∧ ((allU m l).map UnitU.name).Nodup ∧ ∀ u ∈ l, nameU u = true ∧ ownU (allU m l) u = true ∧ evenU (allU m l) u = true := by
  unfold worldU at h
  simp only [Bool.and_eq_true, decide_eq_true_eq, List.all_eq_true] at h
  refine ⟨h.1, (namesU_eq [] _ (by simp)).1 h.2.1, fun u hu => ?_⟩
  have := h.2.2 u hu
  rw [unitU_eq] at this
  simpa only [Bool.and_eq_true] using this

theorem findU_nil {m : Nat} {l : List UnitU} (h : worldU m l = true) : findU (allU m l) [] = none := by
  obtain ⟨_, _, h3⟩ := worldU_all h
  rw [findU_none]
  intro u hu
  rcases List.mem_append.1 hu with hu | hu
  · exact findU_none.1 (built_none m) u hu
  · have := (h3 u hu).1
    unfold nameU at this
    intro e
    rw [e, isClass_nil] at this
    cases this

theorem line_short {m : Nat} {l : List UnitU} (h : worldU m l = true) (c : Str) : (lineU (allU m l) ((allU m l).length + 1) c).length ≤ (allU m l).length := by
  have hlen := allU_len m l
  have h0 := findU_nil h
  obtain ⟨_, _, h3⟩ := worldU_all h
  cases hf : findU (allU m l) c with
  | none => rw [lineU_none hf]; simp
  | some v =>
    obtain ⟨hv, rfl⟩ := findU_mem hf
    rcases List.mem_append.1 hv with hv | hv
    · have e0 : ∀ k, lineU (allU m l) k [] = [] := fun k => lineU_none h0
      have e1 : ∀ k, (lineU (allU m l) k objectT).length ≤ 1 := fun k => by
        cases k with
        | zero => exact Nat.zero_le _
        | succ k => rw [lineU_cons (v := plainU objectT []) rfl]; show (lineU (allU m l) k []).length + 1 ≤ 1; rw [e0]; simp
      have e2 : ∀ k, (lineU (allU m l) k throwT).length ≤ 2 := fun k => by
        cases k with
        | zero => exact Nat.zero_le _
        | succ k => rw [lineU_cons (v := plainU throwT objectT) rfl]; show (lineU (allU m l) k objectT).length + 1 ≤ 2; have := e1 k; omega
      have hs : v.super = [] ∨ v.super = objectT ∨ v.super = throwT := by
        have : ∀ v ∈ builtU m, v.super = [] ∨ v.super = objectT ∨ v.super = throwT := by
          intro v hv
          rcases List.mem_append.1 hv with hv | hv
          · simp only [built3, List.mem_cons, List.not_mem_nil, or_false] at hv
            rcases hv with rfl | rfl | rfl
            · exact .inl rfl
            · exact .inr (.inl rfl)
            · exact .inr (.inl rfl)
          · obtain ⟨n, _, rfl⟩ := List.mem_map.1 hv
            exact .inr (.inr rfl)
        exact this v hv
      rw [lineU_cons hf, List.length_cons]
      rcases hs with e | e | e <;> rw [e]
      · rw [e0]; simp; omega
      · have := e1 (allU m l).length; omega
      · have := e2 (allU m l).length; omega
    · have := (h3 v hv).2.1
      unfold ownU endsU at this
      simp only [Bool.and_eq_true, decide_eq_true_eq] at this
      exact this.1.2.1

theorem first_methU {m : Nat} {l : List UnitU} (h : worldU m l = true) (k : Key) : firstS ((allU m l).map supE) ((allU m l).flatMap membM) k = methU (lineU (allU m l) ((allU m l).length + 1) k.1) k.2.1 k.2.2 := by
  unfold firstS
  rw [List.length_map, lineU_succ (line_short h k.1)]
  exact first_M (worldU_all h).2.1
theorem first_fieldU {m : Nat} {l : List UnitU} (h : worldU m l = true) (k : Key) : firstS ((allU m l).map supE) ((allU m l).flatMap membF) k = fieldU (lineU (allU m l) ((allU m l).length + 1) k.1) k.2.1 k.2.2 := by
  unfold firstS
  rw [List.length_map, lineU_succ (line_short h k.1)]
  exact first_F (worldU_all h).2.1

theorem built_plain (m : Nat) : ∀ v ∈ builtU m, v.super ≠ sysT ∧ (v.name ≠ sysT → v.meths = []) := by
  intro v hv
  rcases List.mem_append.1 hv with hv | hv
  · simp only [built3, List.mem_cons, List.not_mem_nil, or_false] at hv
    rcases hv with rfl | rfl | rfl
    · exact ⟨by show ([] : Str) ≠ sysT; decide, fun _ => rfl⟩
    · exact ⟨by show objectT ≠ sysT; decide, fun _ => rfl⟩
    · exact ⟨by show objectT ≠ sysT; decide, fun h => absurd rfl h⟩
  · obtain ⟨n, _, rfl⟩ := List.mem_map.1 hv
    exact ⟨by show throwT ≠ sysT; decide, fun _ => rfl⟩

theorem built_line (m : Nat) : ∀ (k : Nat) (c : Str), c ≠ sysT → ∀ v ∈ lineU (builtU m) k c, v.meths = []
  | 0, c, _, v, hv => by simp [lineU, goL] at hv
  | k + 1, c, hc, v, hv => by
    cases hf : findU (builtU m) c with
    | none => rw [lineU_none hf] at hv; simp at hv
    | some x =>
      obtain ⟨hx, hn⟩ := findU_mem hf
      obtain ⟨h1, h2⟩ := built_plain m x hx
      rw [lineU_cons hf, List.mem_cons] at hv
      rcases hv with rfl | hv
      · exact h2 (by rw [hn]; exact hc)
      · exact built_line m k x.super h1 v hv

theorem methU_none {L : List UnitU} {n d : Str} (h : ∀ v ∈ L, v.meths = []) : methU L n d = none := by
  unfold methU
  rw [List.findSome?_eq_none_iff]
  intro v hv
  rw [h v hv]; rfl

theorem getV (n d : Str) : ∀ A : List (Str × Str), (getE (A.map vE) (sysT, n, d)).getD false = ((methAt (A.map natM) n d).map fun x => (⟨sysT, x.st⟩ : Mem)).isSome
  | [] => rfl
  | x :: A => by
    have ih := getV n d A
    unfold methAt at ih ⊢
    simp only [List.map_cons, getE, vE, List.find?_cons]
    by_cases h1 : x.1 = n
    · by_cases h2 : x.2 = d
      · simp [natM, h1, h2]
      · simp only [natM, Prod.mk.injEq, h1, h2, and_false, if_false, decide_true, decide_false, Bool.and_false]
        exact ih
    · simp only [natM, Prod.mk.injEq, h1, false_and, and_false, if_false, decide_false, Bool.false_and]
      exact ih

/-- Which methods are native. -/
theorem native_eq (m : Nat) (k : Key) : (getE builtV k).getD false = !decide (((methU (lineU (builtU m) ((builtU m).length + 1) k.1) k.2.1 k.2.2).getD mem0).cls = []) := by
  obtain ⟨c, n, d⟩ := k
  by_cases hc : c = sysT
  · subst hc
    have e1 : lineU (builtU m) ((builtU m).length + 1) sysT = [sysU m, plainU objectT []] := rfl
    show (getE (natL.map vE) (sysT, n, d)).getD false = _
    rw [getV]
    show _ = !decide (((methU (lineU (builtU m) ((builtU m).length + 1) sysT) n d).getD mem0).cls = [])
    rw [e1]
    have e2 : methU [sysU m, plainU objectT []] n d = (methAt (natL.map natM) n d).map fun x => ⟨sysT, x.st⟩ := by
      unfold methU
      rw [List.findSome?_cons]
      have e3 : methAt (sysU m).meths n d = methAt (natL.map natM) n d := rfl
      rw [e3]
      cases methAt (natL.map natM) n d with
      | none => rfl
      | some x => rfl
    rw [e2]
    cases methAt (natL.map natM) n d with
    | none => rfl
    | some x => rfl
  · have h1 : getE builtV (c, n, d) = none := getE_none.2 fun x hx e => by
      have hx : x ∈ natL.map vE := hx
      obtain ⟨y, _, rfl⟩ := List.mem_map.1 hx
      simp only [vE, Prod.mk.injEq] at e
      exact hc e.1.symm
    rw [h1, methU_none (built_line m _ c hc)]
    rfl

end Go.Abs.AbsHier

/-
  Units that are not too great: what the reference's Few tells is told in every case, and the memory stays.
-/
namespace Go.Abs.AbsHier
open Go.Abs.AbsDesc
set_option maxRecDepth 100000
set_option linter.unusedSimpArgs false
variable {os O H : List AObj} {b w : Nat}

/-- What is left, with so many steps to come; behind them. -/
structure Left (j : Nat) (r : Int) : Prop where
  hi : r ≤ 600
  lo : -1152921504606846976 + j * 562949953404928 ≤ r
structure Went (j : Nat) (r r' : Int) : Prop where
  hi : r' ≤ 600
  lo : r - j * 562949953404928 ≤ r'
theorem Left.zero {r : Int} (h : Left 0 r) : Went 0 r r := ⟨h.hi, by omega⟩
theorem Left.next {j : Nat} {r q : Int} (h : Left (j + 1) r) (h0 : 0 ≤ q) (h1 : q ≤ 562949953404928) : Left j (r - q) := ⟨by have := h.hi; omega, by have := h.lo; omega⟩
theorem Went.next {j : Nat} {r q r' : Int} (h : Went j (r - q) r') (h0 : 0 ≤ q) (h1 : q ≤ 562949953404928) : Went (j + 1) r r' := ⟨h.hi, by have := h.lo; omega⟩
theorem Left.wrap {j : Nat} {r q : Int} (h : Left (j + 1) r) (h0 : 0 ≤ q) (h1 : q ≤ 562949953404928) : IntKind.i64.wrap (r - q) = r - q := wrapI ⟨by have := h.lo; omega, by have := h.hi; omega⟩

theorem tdiv_le {n : Nat} {d : Int} (hd : 0 < d) (hn : n ≤ reachB * 4) : ∃ q : Int, (n : Int).tdiv d = q ∧ 0 ≤ q ∧ q ≤ 562949953404928 := by
  have hn' : n ≤ 562949953404928 := hn
  refine ⟨_, rfl, ?_, ?_⟩
  · exact Int.tdiv_nonneg (by omega) (by omega)
  · rw [Int.tdiv_eq_ediv_of_nonneg (by omega)]
    have := Int.ediv_le_self (b := d) (a := (n : Int)) (by omega)
    omega

theorem l104a {A : List Str} {aa : Option (Nat × Nat)} {cc : Option Nat} {x56 x57 x58 x124 x125 x126 : AVal} (hR : Row H 1 strC A aa) (hA : A.length ≤ 600) (hs : ∀ t ∈ A, t.length ≤ reachB) :
    ∀ (j i : Nat) (r : Int) (w : Nat), i + j = A.length → Left j r →
    ∃ r', Went j r r' ∧ ∀ (k : AExit → St → Option (AVal × Heap)),
    xK T (.loop code104L0) ⟨[(3, .val (.int .i64 r)), (56, .val x56), (57, .val x57), (58, .val x58), (124, .val x124), (125, .val x125), (126, .val x126), (148, .val (.slice aa A.length cc)), (149, .val (.int .i64 A.length)), (150, .val (.int .i64 i))], ⟨H, b, w⟩⟩ (k := ⟨k⟩) =
      k (.exit 10) ⟨[(3, .val (.int .i64 r')), (56, .val x56), (57, .val x57), (58, .val x58), (124, .val x124), (125, .val x125), (126, .val x126)], ⟨H, b, w⟩⟩
  | 0, i, r, w, hi, hr => by
    refine ⟨r, hr.zero, fun k => ?_⟩
    rw [xK_loop]
    simp (disch := omega) [-getElem?_pos, -getElem?_neg, -List.all_eq_true, List.getElem?_cons_zero, List.getElem?_cons_succ, nltT, nltF, iltT, iltF, ileT, nleT, wrapI, code104L0]
  | j + 1, i, r, w, hi, hr => by
    obtain ⟨t, hx⟩ : ∃ t, A[i]? = some t := ⟨_, List.getElem?_eq_getElem (by omega)⟩
    obtain ⟨p, o, cs, ha, hp, hpl, hcs, hv⟩ := row_at hR hx
    have ht := hs t (List.mem_of_getElem? hx)
    obtain ⟨q, hq, hq0, hq1⟩ := tdiv_le (n := t.length) (d := 100) (by decide) (by omega)
    have hql : (t.length : Int) ≤ 9223372036854775807 := by have : t.length ≤ 140737488351232 := ht; omega
    obtain ⟨r', h1, ih⟩ := l104a (x56 := x56) (x57 := x57) (x58 := x58) (x124 := x124) (x125 := x125) (x126 := x126) (cc := cc) hR hA hs j (i + 1) (r - q) w (by omega) (hr.next hq0 hq1)
    refine ⟨r', h1.next hq0 hq1, fun k => ?_⟩
    have hwr := hr.wrap hq0 hq1
    have ih := ih k
    have e2 : ((i + 1 : Nat) : Int) = (i : Int) + 1 := by omega
    rw [e2, ha] at ih
    rw [xK_loop, ha]
    have hv' : (List.drop (o + i * 1) cs).take 1 = [.str t] := hv
    have hv2 : cs[o + i]? = some (.str t) := by
      have := congrArg (fun z => z[0]?) hv'
      simpa [List.getElem?_take, List.getElem?_drop] using this
    generalize ACode.loop code104L0 = L' at ih ⊢
    simp (disch := omega) [-getElem?_pos, -getElem?_neg, -List.all_eq_true, List.getElem?_cons_zero, List.getElem?_cons_succ, nltT, nltF, iltT, iltF, ileT, nleT, wrapI, code104L0, hp, hv2, hq, hwr, ih]

theorem l104t {L : List TrapU} {aa : Option (Nat × Nat)} {cc : Option Nat} {x7 : List AVal} {x56 x57 x58 : AVal} (hR : Row H 4 TrapU.cells L aa) (hA : L.length ≤ 600) (hs : ∀ t ∈ L, t.fits) :
    ∀ (j i : Nat) (r : Int) (w : Nat), i + j = L.length → Left j r →
    ∃ r', Went j r r' ∧ ∀ (k : AExit → St → Option (AVal × Heap)),
    xK T (.loop code104L2) ⟨[(3, .val (.int .i64 r)), (7, .var x7), (56, .val x56), (57, .val x57), (58, .val x58), (110, .val (.slice aa L.length cc)), (111, .val (.int .i64 L.length)), (112, .val (.int .i64 i))], ⟨H, b, w⟩⟩ (k := ⟨k⟩) =
      k (.exit 6) ⟨[(3, .val (.int .i64 r')), (7, .var x7), (56, .val x56), (57, .val x57), (58, .val x58)], ⟨H, b, w⟩⟩
  | 0, i, r, w, hi, hr => by
    refine ⟨r, hr.zero, fun k => ?_⟩
    rw [xK_loop]
    simp (disch := omega) [-getElem?_pos, -getElem?_neg, -List.all_eq_true, List.getElem?_cons_zero, List.getElem?_cons_succ, nltT, nltF, iltT, iltF, ileT, nleT, wrapI, code104L2]
  | j + 1, i, r, w, hi, hr => by
    obtain ⟨t, hx⟩ : ∃ t, L[i]? = some t := ⟨_, List.getElem?_eq_getElem (by omega)⟩
    obtain ⟨p, o, cs, ha, hp, hpl, hcs, hv⟩ := row_at hR hx
    have ht : t.cls.length ≤ reachB := hs t (List.mem_of_getElem? hx)
    obtain ⟨q, hq, hq0, hq1⟩ := tdiv_le (n := t.cls.length) (d := 100) (by decide) (by omega)
    have hql : (t.cls.length : Int) ≤ 9223372036854775807 := by have : t.cls.length ≤ 140737488351232 := ht; omega
    obtain ⟨r', h1, ih⟩ := l104t (x7 := x7) (x56 := x56) (x57 := x57) (x58 := x58) (cc := cc) hR hA hs j (i + 1) (r - q) w (by omega) (hr.next hq0 hq1)
    refine ⟨r', h1.next hq0 hq1, fun k => ?_⟩
    have hwr := hr.wrap hq0 hq1
    have ih := ih k
    have e2 : ((i + 1 : Nat) : Int) = (i : Int) + 1 := by omega
    rw [e2, ha] at ih
    rw [xK_loop, ha]
    unfold TrapU.cells at hv
    generalize ACode.loop code104L2 = L' at ih ⊢
    simp (disch := omega) [-getElem?_pos, -getElem?_neg, -List.all_eq_true, List.getElem?_cons_zero, List.getElem?_cons_succ, nltT, nltF, iltT, iltF, ileT, nleT, wrapI, code104L2, hp, hv, hq, hwr, ih]

theorem l104c {L : List InsU} {aa : Option (Nat × Nat)} {cc : Option Nat} {x7 : List AVal} {x56 x57 x58 : AVal} (hR : Row H 7 InsU.cells L aa) (hA : L.length ≤ 600) (hs : ∀ t ∈ L, t.fits) :
    ∀ (j i : Nat) (r : Int) (w : Nat), i + j = L.length → Left j r →
    ∃ r', Went j r r' ∧ ∀ (k : AExit → St → Option (AVal × Heap)),
    xK T (.loop code104L3) ⟨[(3, .val (.int .i64 r)), (7, .var x7), (56, .val x56), (57, .val x57), (58, .val x58), (84, .val (.slice aa L.length cc)), (85, .val (.int .i64 L.length)), (86, .val (.int .i64 i))], ⟨H, b, w⟩⟩ (k := ⟨k⟩) =
      k (.exit 4) ⟨[(3, .val (.int .i64 r')), (7, .var x7), (56, .val x56), (57, .val x57), (58, .val x58)], ⟨H, b, w⟩⟩
  | 0, i, r, w, hi, hr => by
    refine ⟨r, hr.zero, fun k => ?_⟩
    rw [xK_loop]
    simp (disch := omega) [-getElem?_pos, -getElem?_neg, -List.all_eq_true, List.getElem?_cons_zero, List.getElem?_cons_succ, nltT, nltF, iltT, iltF, ileT, nleT, wrapI, code104L3]
  | j + 1, i, r, w, hi, hr => by
    obtain ⟨t, hx⟩ : ∃ t, L[i]? = some t := ⟨_, List.getElem?_eq_getElem (by omega)⟩
    obtain ⟨p, o, cs, ha, hp, hpl, hcs, hv⟩ := row_at hR hx
    obtain ⟨f1, f2, f3, f4⟩ := hs t (List.mem_of_getElem? hx)
    obtain ⟨q, hq, hq0, hq1⟩ := tdiv_le (n := t.cls.length + t.name.length + t.desc.length + t.text.length) (d := 100) (by decide) (by omega)
    simp only [Int.natCast_add] at hq
    have hb : reachB = 140737488351232 := rfl
    obtain ⟨r', h1, ih⟩ := l104c (x7 := x7) (x56 := x56) (x57 := x57) (x58 := x58) (cc := cc) hR hA hs j (i + 1) (r - q) w (by omega) (hr.next hq0 hq1)
    refine ⟨r', h1.next hq0 hq1, fun k => ?_⟩
    have hwr := hr.wrap hq0 hq1
    have ih := ih k
    have e2 : ((i + 1 : Nat) : Int) = (i : Int) + 1 := by omega
    rw [e2, ha] at ih
    rw [xK_loop, ha]
    unfold InsU.cells at hv
    generalize ACode.loop code104L3 = L' at ih ⊢
    simp (disch := omega) [-getElem?_pos, -getElem?_neg, -List.all_eq_true, List.getElem?_cons_zero, List.getElem?_cons_succ, nltT, nltF, iltT, iltF, ileT, nleT, wrapI, code104L3, hp, hv, hq, hwr, ih]

theorem ids_strC : ∀ L : List Str, AVal.idsL (L.flatMap strC) = []
  | [] => rfl
  | t :: L => by
    rw [List.flatMap_cons, idsL_app, ids_strC L]; rfl
theorem okId_low {n0 m i : Nat} {ds : List Did} (h : i < n0) : okId n0 m ds i = true := by
  unfold okId; simp [h]
theorem okIds_slice {n0 m n : Nat} {ds : List Did} {a : Option (Nat × Nat)} {c : Option Nat} (h : under n0 a) : (AVal.slice a n c).ids.all (okId n0 m ds) = true := by
  rw [List.all_eq_true]; exact fun i hi => okId_low (ids_slice h i hi)

set_option maxHeartbeats 2000000 in
theorem l104m {L : List MapU} {aa : Option (Nat × Nat)} {cc : Option Nat} {x56 x57 x58 : AVal} (hR : Row os 3 MapU.cells L aa) (hL : L.length ≤ reachB) (hok : ∀ x ∈ L, x.ok os) (hf : ∀ x ∈ L, x.fits) (hb : b ≤ os.length) :
    ∀ (j i : Nat) (r : Int) (O : List AObj) (w : Nat), i + j = L.length → Left 1000 r → os.length ≤ w → Pre os O →
    ∃ e s' O' w', os.length ≤ w' ∧ Pre os O' ∧ ((e = .ret ∧ s' = [(2, .val (.bool false))]) ∨ (e = .exit 8 ∧ ∃ r', Left 1000 r' ∧ s' = [(3, .val (.int .i64 r')), (56, .val x56), (57, .val x57), (58, .val x58)])) ∧ ∀ (k : AExit → St → Option (AVal × Heap)),
    xK T (.loop code104L1) ⟨[(3, .val (.int .i64 r)), (56, .val x56), (57, .val x57), (58, .val x58), (124, .val (.slice aa L.length cc)), (125, .val (.int .i64 L.length)), (126, .val (.int .i64 i))], ⟨O, b, w⟩⟩ (k := ⟨k⟩) =
      k e ⟨s', ⟨O', b, w'⟩⟩
  | 0, i, r, O, w, hi, hr, hw, hO => by
    refine ⟨.exit 8, _, O, w, hw, hO, .inr ⟨rfl, r, hr, rfl⟩, fun k => ?_⟩
    rw [xK_loop]
    simp (disch := omega) [-getElem?_pos, -getElem?_neg, -List.all_eq_true, List.getElem?_cons_zero, List.getElem?_cons_succ, nltT, nltF, iltT, iltF, ileT, nleT, wrapI, code104L1]
  | j + 1, i, r, O, w, hi, hr, hw, hO => by
    obtain ⟨x, hx⟩ : ∃ x, L[i]? = some x := ⟨_, List.getElem?_eq_getElem (by omega)⟩
    obtain ⟨p, o, cs, ha, hp, hpl, hcs, hv⟩ := row_at (hO.row hR) hx
    have hxm := List.mem_of_getElem? hx
    have hxo := (hok x hxm).pre hO
    obtain ⟨fl, fs, fls, fss⟩ := hf x hxm
    have hrb : reachB = 140737488351232 := rfl
    have hOl := hO.len
    have hb' : b ≤ O.length := by omega
    have r1 := hr.hi
    have r2 := hr.lo
    have e2 : ((i + 1 : Nat) : Int) = (i : Int) + 1 := by omega
    unfold MapU.cells at hv
    by_cases c0 : r - 1 - x.locals.length - x.stack.length < 0
    · refine ⟨.ret, _, O, w, hw, hO, .inl ⟨rfl, rfl⟩, fun k => ?_⟩
      rw [xK_loop, ha]
      simp (disch := omega) [-getElem?_pos, -getElem?_neg, -List.all_eq_true, List.getElem?_cons_zero, List.getElem?_cons_succ, nltT, nltF, iltT, iltF, ileT, nleT, wrapI, code104L1, hp, hv, c0]
    · have hl1 := fun b w => rowOf_row (f := strC) (e := 1) (h := ⟨O ++ [.cells 1 []], b, w⟩) (c := x.lc) ((Pre.app O _).row hxo.l)
      have hs1 := fun b w => rowOf_row (f := strC) (e := 1) (h := ⟨O ++ [.cells 1 []], b, w⟩) (c := x.sc) ((Pre.app O _).row hxo.s)
      have hl2 := fun b w => rowOf_row (f := strC) (e := 1) (h := ⟨O ++ [.cells 1 [], .cells 1 (x.locals.flatMap strC)], b, w⟩) (c := x.sc) ((Pre.app O _).row hxo.s)
      have flatL : (x.locals.flatMap strC).length = x.locals.length * 1 := flat_len strC 1 (fun _ => rfl) _
      have hla : (x.locals ++ x.stack).length = x.locals.length + x.stack.length := List.length_append
      by_cases c1 : x.locals.length = 0
      · by_cases c2 : x.stack.length = 0
        · have hin := fun w => l104a (b := b) (A := []) (aa := some (O.length, 0)) (cc := some 0) (H := O ++ [.cells 1 []]) (x56 := x56) (x57 := x57) (x58 := x58) (x124 := .slice (some (p, o)) L.length cc) (x125 := .int .i64 L.length) (x126 := .int .i64 i) ⟨fun h => absurd rfl h⟩ (by simp) (by simp) 0 0 (r - 1 - x.locals.length - x.stack.length) w (by simp) ⟨by omega, by omega⟩
          simp only [List.length_nil, Int.cast_ofNat_Int] at hin
          obtain ⟨r', g1, hin⟩ := hin w
          obtain ⟨e, s', O', w', q1, q2, q3, ih⟩ := l104m (x56 := x56) (x57 := x57) (x58 := x58) (cc := cc) hR hL hok hf hb j (i + 1) r' (O ++ [.cells 1 []]) w (by omega) ⟨g1.hi, by have := g1.lo; omega⟩ hw (hO.trans (Pre.app _ _))
          refine ⟨e, s', O', w', q1, q2, q3, fun k => ?_⟩
          have ih := ih k
          rw [e2, ha] at ih
          rw [xK_loop, ha]
          generalize ACode.loop code104L1 = L' at ih ⊢
          simp only [c1, c2, Int.cast_ofNat_Int, Int.sub_zero] at hv hin ⊢
          simp (disch := omega) [-getElem?_pos, -getElem?_neg, -List.all_eq_true, List.getElem?_cons_zero, List.getElem?_cons_succ, nltT, nltF, iltT, iltF, ileT, nleT, wrapI, -sget, sgetN, sgetH, sgetT, code104L1, hp, hv, c0, Nat.testBit_eq_decide_div_mod_eq, Nat.add_assoc, get_k, get_k0, set_k, set_k0, -rowOf, rowOf0, okIds_slice hxo.lu, okIds_slice hxo.su, hin, ih, ids_strC]
        · have hrow : Row (O ++ [.cells 1 [], .cells 1 (x.stack.flatMap strC)]) 1 strC x.stack (some (O.length + 1, 0)) := Row.mk0 (fun _ => rfl) (by rw [get_k]; rfl)
          obtain ⟨r', g1, hin⟩ := l104a (b := b) (cc := none) (x56 := x56) (x57 := x57) (x58 := x58) (x124 := .slice (some (p, o)) L.length cc) (x125 := .int .i64 L.length) (x126 := .int .i64 i) hrow (by omega) fss x.stack.length 0 (r - 1 - x.locals.length - x.stack.length) w (by simp) ⟨by omega, by omega⟩
          simp only [Int.cast_ofNat_Int] at hin
          obtain ⟨e, s', O', w', q1, q2, q3, ih⟩ := l104m (x56 := x56) (x57 := x57) (x58 := x58) (cc := cc) hR hL hok hf hb j (i + 1) r' (O ++ [.cells 1 [], .cells 1 (x.stack.flatMap strC)]) w (by omega) ⟨g1.hi, by have := g1.lo; omega⟩ hw (hO.trans (Pre.app _ _))
          refine ⟨e, s', O', w', q1, q2, q3, fun k => ?_⟩
          have ih := ih k
          rw [e2, ha] at ih
          rw [xK_loop, ha]
          generalize ACode.loop code104L1 = L' at ih ⊢
          simp only [c1, Int.cast_ofNat_Int, Int.sub_zero] at hv hin ⊢
          simp (disch := omega) [-getElem?_pos, -getElem?_neg, -List.all_eq_true, List.getElem?_cons_zero, List.getElem?_cons_succ, nltT, nltF, iltT, iltF, ileT, nleT, wrapI, -sget, sgetN, sgetH, sgetT, -rowOf, rowOf0, code104L1, hp, hv, c0, c2, hs1, Nat.testBit_eq_decide_div_mod_eq, Nat.add_assoc, get_k, get_k0, set_k, set_k0, okIds_slice hxo.lu, okIds_slice hxo.su, hin, ih, ids_strC]
      · by_cases c2 : x.stack.length = 0
        · have hrow : Row (O ++ [.cells 1 [], .cells 1 (x.locals.flatMap strC)]) 1 strC x.locals (some (O.length + 1, 0)) := Row.mk0 (fun _ => rfl) (by rw [get_k]; rfl)
          obtain ⟨r', g1, hin⟩ := l104a (b := b) (cc := none) (x56 := x56) (x57 := x57) (x58 := x58) (x124 := .slice (some (p, o)) L.length cc) (x125 := .int .i64 L.length) (x126 := .int .i64 i) hrow (by omega) fls x.locals.length 0 (r - 1 - x.locals.length - x.stack.length) w (by simp) ⟨by omega, by omega⟩
          simp only [Int.cast_ofNat_Int] at hin
          obtain ⟨e, s', O', w', q1, q2, q3, ih⟩ := l104m (x56 := x56) (x57 := x57) (x58 := x58) (cc := cc) hR hL hok hf hb j (i + 1) r' (O ++ [.cells 1 [], .cells 1 (x.locals.flatMap strC)]) w (by omega) ⟨g1.hi, by have := g1.lo; omega⟩ hw (hO.trans (Pre.app _ _))
          refine ⟨e, s', O', w', q1, q2, q3, fun k => ?_⟩
          have ih := ih k
          rw [e2, ha] at ih
          rw [xK_loop, ha]
          generalize ACode.loop code104L1 = L' at ih ⊢
          have hz := fun w => rowOfC (e := 1) (n := x.locals.length) (h := ⟨O ++ [.cells 1 [], .cells 1 (x.locals.flatMap strC)], b, w⟩) (i := O.length + 1) (c := none) (by rw [get_k]; rfl) flatL
          simp only [c2, Int.cast_ofNat_Int, Int.sub_zero] at hv hin ⊢
          simp (disch := omega) [-getElem?_pos, -getElem?_neg, -List.all_eq_true, List.getElem?_cons_zero, List.getElem?_cons_succ, nltT, nltF, iltT, iltF, ileT, nleT, wrapI, -sget, sgetN, sgetH, sgetT, -rowOf, rowOf0, hz, code104L1, hp, hv, c0, c1, hl1, Nat.testBit_eq_decide_div_mod_eq, Nat.add_assoc, get_k, get_k0, set_k, set_k0, okIds_slice hxo.lu, okIds_slice hxo.su, hin, ih, ids_strC]
        · have hrow : Row (O ++ [.cells 1 [], .dead, .cells 1 ((x.locals ++ x.stack).flatMap strC)]) 1 strC (x.locals ++ x.stack) (some (O.length + 2, 0)) := Row.mk0 (fun _ => rfl) (by rw [get_k]; rfl)
          obtain ⟨r', g1, hin⟩ := l104a (b := b) (cc := none) (x56 := x56) (x57 := x57) (x58 := x58) (x124 := .slice (some (p, o)) L.length cc) (x125 := .int .i64 L.length) (x126 := .int .i64 i) hrow (by simp; omega) (fun t ht => by
            rcases List.mem_append.1 ht with ht | ht
            · exact fls t ht
            · exact fss t ht) (x.locals ++ x.stack).length 0 (r - 1 - x.locals.length - x.stack.length) (min w (O.length + 1)) (by simp) ⟨by omega, by omega⟩
          simp only [Int.cast_ofNat_Int] at hin
          obtain ⟨e, s', O', w', q1, q2, q3, ih⟩ := l104m (x56 := x56) (x57 := x57) (x58 := x58) (cc := cc) hR hL hok hf hb j (i + 1) r' (O ++ [.cells 1 [], .dead, .cells 1 ((x.locals ++ x.stack).flatMap strC)]) (min w (O.length + 1)) (by omega) ⟨g1.hi, by have := g1.lo; omega⟩ (by omega) (hO.trans (Pre.app _ _))
          refine ⟨e, s', O', w', q1, q2, q3, fun k => ?_⟩
          have ih := ih k
          rw [e2, ha] at ih
          rw [xK_loop, ha]
          generalize ACode.loop code104L1 = L' at ih ⊢
          have hz := fun w => rowOfC (e := 1) (n := x.locals.length) (h := ⟨O ++ [.cells 1 [], .cells 1 (x.locals.flatMap strC)], b, w⟩) (i := O.length + 1) (c := none) (by rw [get_k]; rfl) flatL
          rw [List.flatMap_append] at hin ih
          rw [List.length_append, Int.natCast_add] at hin
          simp (disch := omega) [-getElem?_pos, -getElem?_neg, -List.all_eq_true, List.getElem?_cons_zero, List.getElem?_cons_succ, nltT, nltF, iltT, iltF, ileT, nleT, wrapI, -sget, sgetN, sgetH, sgetT, -rowOf, rowOf0, hz, hl2, code104L1, hp, hv, c0, c1, c2, hl1, Nat.testBit_eq_decide_div_mod_eq, Nat.add_assoc, get_k, get_k0, set_k, set_k0, okIds_slice hxo.lu, okIds_slice hxo.su, hin, ih, ids_strC]

end Go.Abs.AbsHier

/-
  Units that are not too great, whole.
-/
namespace Go.Abs.AbsHier
open Go.Abs.AbsDesc
set_option maxRecDepth 100000
set_option linter.unusedSimpArgs false
variable {os O H : List AObj} {b w : Nat}

theorem tdiv_50 {n : Nat} (hn : n ≤ reachB * 4) : ∃ q : Int, (n : Int).tdiv 50 = q ∧ 0 ≤ q ∧ q ≤ 281474976702464 := by
  have hn' : n ≤ 562949953404928 := hn
  refine ⟨_, rfl, ?_, ?_⟩
  · exact Int.tdiv_nonneg (by omega) (by omega)
  · rw [Int.tdiv_eq_ediv_of_nonneg (by omega)]
    omega

theorem l104f {L : List FieldU} {aa : Option (Nat × Nat)} {cc : Option Nat} {x1 : List AVal} (hR : Row H 3 FieldU.cells L aa) (hL : L.length ≤ reachB) (hs : ∀ t ∈ L, t.fits) :
    ∀ (j i : Nat) (r : Int) (w : Nat), i + j = L.length → Left j r →
    ∃ r', Went j r r' ∧ ∀ (k : AExit → St → Option (AVal × Heap)),
    xK T (.loop code104L5) ⟨[(1, .var x1), (3, .val (.int .i64 r)), (37, .val (.slice aa L.length cc)), (38, .val (.int .i64 L.length)), (39, .val (.int .i64 i))], ⟨H, b, w⟩⟩ (k := ⟨k⟩) =
      k (.exit 0) ⟨[(1, .var x1), (3, .val (.int .i64 r'))], ⟨H, b, w⟩⟩
  | 0, i, r, w, hi, hr => by
    refine ⟨r, hr.zero, fun k => ?_⟩
    rw [xK_loop]
    simp (disch := omega) [-getElem?_pos, -getElem?_neg, -List.all_eq_true, List.getElem?_cons_zero, List.getElem?_cons_succ, nltT, nltF, iltT, iltF, ileT, nleT, wrapI, code104L5]
  | j + 1, i, r, w, hi, hr => by
    obtain ⟨t, hx⟩ : ∃ t, L[i]? = some t := ⟨_, List.getElem?_eq_getElem (by omega)⟩
    obtain ⟨p, o, cs, ha, hp, hpl, hcs, hv⟩ := row_at hR hx
    obtain ⟨f1, f2⟩ := hs t (List.mem_of_getElem? hx)
    obtain ⟨q, hq, hq0, hq1⟩ := tdiv_50 (n := t.name.length + t.desc.length) (by omega)
    simp only [Int.natCast_add] at hq
    have hb : reachB = 140737488351232 := rfl
    have g0 : 0 ≤ 1 + q := by omega
    have g1 : 1 + q ≤ 562949953404928 := by omega
    obtain ⟨r', h1, ih⟩ := l104f (x1 := x1) (cc := cc) hR hL hs j (i + 1) (r - (1 + q)) w (by omega) (hr.next g0 g1)
    refine ⟨r', h1.next g0 g1, fun k => ?_⟩
    have r1 := hr.hi
    have r2 := hr.lo
    have ih := ih k
    have e2 : ((i + 1 : Nat) : Int) = (i : Int) + 1 := by omega
    have e3 : r - (1 + q) = r - 1 - q := by omega
    rw [e2, e3, ha] at ih
    rw [xK_loop, ha]
    unfold FieldU.cells at hv
    generalize ACode.loop code104L5 = L' at ih ⊢
    simp (disch := omega) [-getElem?_pos, -getElem?_neg, -List.all_eq_true, List.getElem?_cons_zero, List.getElem?_cons_succ, nltT, nltF, iltT, iltF, ileT, nleT, wrapI, code104L5, hp, hv, hq, ih]

theorem l104M {L : List MethU} {aa : Option (Nat × Nat)} {cc : Option Nat} (hR : Row os 8 MethU.cells L aa) (hL : L.length ≤ reachB) (hok : ∀ x ∈ L, x.ok os) (hf : ∀ x ∈ L, x.fits) (hb : b ≤ os.length) :
    ∀ (j i : Nat) (r : Int) (O : List AObj) (w : Nat), i + j = L.length → Left 1000 r → os.length ≤ w → Pre os O →
    ∃ e s' O' w', os.length ≤ w' ∧ Pre os O' ∧ ((e = .ret ∧ s' = [(2, .val (.bool false))]) ∨ (e = .exit 2 ∧ ∃ r', s' = [(3, .val (.int .i64 r'))])) ∧ ∀ (k : AExit → St → Option (AVal × Heap)),
    xK T (.loop code104L4) ⟨[(3, .val (.int .i64 r)), (56, .val (.slice aa L.length cc)), (57, .val (.int .i64 L.length)), (58, .val (.int .i64 i))], ⟨O, b, w⟩⟩ (k := ⟨k⟩) =
      k e ⟨s', ⟨O', b, w'⟩⟩
  | 0, i, r, O, w, hi, hr, hw, hO => by
    refine ⟨.exit 2, _, O, w, hw, hO, .inr ⟨rfl, r, rfl⟩, fun k => ?_⟩
    rw [xK_loop]
    simp (disch := omega) [-getElem?_pos, -getElem?_neg, -List.all_eq_true, List.getElem?_cons_zero, List.getElem?_cons_succ, nltT, nltF, iltT, iltF, ileT, nleT, wrapI, code104L4]
  | j + 1, i, r, O, w, hi, hr, hw, hO => by
    obtain ⟨x, hx⟩ : ∃ x, L[i]? = some x := ⟨_, List.getElem?_eq_getElem (by omega)⟩
    obtain ⟨p, o, cs, ha, hp, hpl, hcs, hv⟩ := row_at (hO.row hR) hx
    have hxm := List.mem_of_getElem? hx
    have hxo := (hok x hxm).pre hO
    have hxf := hf x hxm
    have hrb : reachB = 140737488351232 := rfl
    have hOl := hO.len
    have r1 := hr.hi
    have r2 := hr.lo
    have e2 : ((i + 1 : Nat) : Int) = (i : Int) + 1 := by omega
    have f1 := hxf.name
    have f2 := hxf.desc
    have f3 := hxf.c
    have f4 := hxf.t
    have f5 := hxf.x
    obtain ⟨q, hq, hq0, hq1⟩ := tdiv_50 (n := x.name.length + x.desc.length) (by omega)
    simp only [Int.natCast_add] at hq
    unfold MethU.cells at hv
    by_cases c0 : r - 1 - x.code.length - x.traps.length - q < 0
    · refine ⟨.ret, _, O, w, hw, hO, .inl ⟨rfl, rfl⟩, fun k => ?_⟩
      rw [xK_loop, ha]
      simp (disch := omega) [-getElem?_pos, -getElem?_neg, -List.all_eq_true, List.getElem?_cons_zero, List.getElem?_cons_succ, nltT, nltF, iltT, iltF, ileT, nleT, wrapI, code104L4, hp, hv, hq, c0]
    · obtain ⟨ra, ga, ha1⟩ := l104c (b := b) (cc := x.cc) (x7 := x.cells) (x56 := .slice (some (p, o)) L.length cc) (x57 := .int .i64 L.length) (x58 := .int .i64 i) hxo.c (by omega) hxf.cs x.code.length 0 (r - 1 - x.code.length - x.traps.length - q) w (by simp) ⟨by omega, by omega⟩
      have ga1 := ga.lo
      have ga2 := ga.hi
      obtain ⟨rb, gb, hb1⟩ := l104t (b := b) (cc := x.tc) (x7 := x.cells) (x56 := .slice (some (p, o)) L.length cc) (x57 := .int .i64 L.length) (x58 := .int .i64 i) hxo.t (by omega) hxf.ts x.traps.length 0 ra w (by simp) ⟨by omega, by omega⟩
      have gb1 := gb.lo
      have gb2 := gb.hi
      obtain ⟨e, s', O1, w1, q1, q2, q3, hc1⟩ := l104m (cc := x.xc) (x56 := .slice (some (p, o)) L.length cc) (x57 := .int .i64 L.length) (x58 := .int .i64 i) (hok x hxm).x f5 (hok x hxm).xok hxf.xs hb x.maps.length 0 rb O w (by simp) ⟨by omega, by omega⟩ hw hO
      simp only [Int.cast_ofNat_Int, MethU.cells] at ha1 hb1 hc1
      rcases q3 with ⟨rfl, rfl⟩ | ⟨rfl, rc, gc, rfl⟩
      · refine ⟨.ret, _, O1, w1, q1, q2, .inl ⟨rfl, rfl⟩, fun k => ?_⟩
        rw [xK_loop, ha]
        simp (disch := omega) [-getElem?_pos, -getElem?_neg, -List.all_eq_true, List.getElem?_cons_zero, List.getElem?_cons_succ, nltT, nltF, iltT, iltF, ileT, nleT, wrapI, code104L4, hp, hv, hq, c0, ha1, hb1, hc1]
      · by_cases c1 : rc < 0
        · refine ⟨.ret, _, O1, w1, q1, q2, .inl ⟨rfl, rfl⟩, fun k => ?_⟩
          rw [xK_loop, ha]
          simp (disch := omega) [-getElem?_pos, -getElem?_neg, -List.all_eq_true, List.getElem?_cons_zero, List.getElem?_cons_succ, nltT, nltF, iltT, iltF, ileT, nleT, wrapI, code104L4, hp, hv, hq, c0, ha1, hb1, hc1, c1]
        · obtain ⟨e, s', O2, w2, p1, p2, p3, ih⟩ := l104M (cc := cc) hR hL hok hf hb j (i + 1) rc O1 w1 (by omega) gc q1 q2
          refine ⟨e, s', O2, w2, p1, p2, p3, fun k => ?_⟩
          have ih := ih k
          rw [e2, ha] at ih
          rw [xK_loop, ha]
          generalize ACode.loop code104L4 = L' at ih ⊢
          simp (disch := omega) [-getElem?_pos, -getElem?_neg, -List.all_eq_true, List.getElem?_cons_zero, List.getElem?_cons_succ, nltT, nltF, iltT, iltF, ileT, nleT, wrapI, code104L4, hp, hv, hq, c0, ha1, hb1, hc1, c1, ih]

theorem s104 {u : UnitU} (hu : u.ok O) (hf : u.fits) (hb : b ≤ O.length) : ∃ r : Bool, xCall T 104 [.agg u.cells] ⟨O, b, w⟩ = some (.bool r, ⟨O, b, w⟩) := by
  have hcu : u.cells = [.str u.name, .str u.super, .slice u.fa u.fields.length u.fc, .slice u.ma u.meths.length u.mc] := rfl
  have hrb : reachB = 140737488351232 := rfl
  have f1 := hf.name
  have f2 := hf.super
  have f3 := hf.f
  have f4 := hf.m
  by_cases c1 : (70 : Int) < u.fields.length
  · refine ⟨false, ?_⟩
    rw [hcu]
    simp (disch := omega) [-getElem?_pos, -getElem?_neg, -List.all_eq_true, List.getElem?_cons_zero, List.getElem?_cons_succ, nltT, nltF, iltT, iltF, ileT, nleT, wrapI, xCallK t104, code104, c1]
  · by_cases c2 : (40 : Int) < u.meths.length
    · refine ⟨false, ?_⟩
      rw [hcu]
      simp (disch := omega) [-getElem?_pos, -getElem?_neg, -List.all_eq_true, List.getElem?_cons_zero, List.getElem?_cons_succ, nltT, nltF, iltT, iltF, ileT, nleT, wrapI, xCallK t104, code104, c1, c2]
    · by_cases c3 : (300 : Int) < u.name.length + u.super.length
      · refine ⟨false, ?_⟩
        rw [hcu]
        simp (disch := omega) [-getElem?_pos, -getElem?_neg, -List.all_eq_true, List.getElem?_cons_zero, List.getElem?_cons_succ, nltT, nltF, iltT, iltF, ileT, nleT, wrapI, xCallK t104, code104, c1, c2, c3]
      · obtain ⟨ra, ga, ha⟩ := l104f (b := b) (cc := u.fc) (x1 := u.cells) hu.f f3 hf.fs u.fields.length 0 600 O.length (by simp) ⟨by omega, by omega⟩
        have g1 := ga.lo
        have g2 := ga.hi
        obtain ⟨e, s', O1, w1, q1, q2, q3, hm⟩ := l104M (b := b) (cc := u.mc) hu.m f4 hu.mok hf.ms hb u.meths.length 0 ra O O.length (by simp) ⟨by omega, by omega⟩ (Nat.le_refl _) (Pre.refl _)
        simp only [Int.cast_ofNat_Int] at ha hm
        rw [hcu] at ha ⊢
        rcases q3 with ⟨rfl, rfl⟩ | ⟨rfl, rc, rfl⟩
        · refine ⟨false, ?_⟩
          simp (disch := omega) [-getElem?_pos, -getElem?_neg, -List.all_eq_true, List.getElem?_cons_zero, List.getElem?_cons_succ, nltT, nltF, iltT, iltF, ileT, nleT, wrapI, xCallK t104, code104, c1, c2, c3, ha, hm]
        · refine ⟨decide (0 ≤ rc), ?_⟩
          simp (disch := omega) [-getElem?_pos, -getElem?_neg, -List.all_eq_true, List.getElem?_cons_zero, List.getElem?_cons_succ, nltT, nltF, iltT, iltF, ileT, nleT, wrapI, xCallK t104, code104, c1, c2, c3, ha, hm]

theorem l105 {L : List UnitU} {aa : Option (Nat × Nat)} {cc : Option Nat} (hR : Row O 4 UnitU.cells L aa) (hL : L.length ≤ reachB) (hok : ∀ x ∈ L, x.ok O) (hf : ∀ x ∈ L, x.fits) (hb : b ≤ O.length) :
    ∀ (j i : Nat) (w : Nat), i + j = L.length →
    ∃ e s', ((e = .ret ∧ s' = [(2, .val (.bool false))]) ∨ (e = .exit 0 ∧ s' = [])) ∧ ∀ (k : AExit → St → Option (AVal × Heap)),
    xK T (.loop code105L0) ⟨[(8, .val (.slice aa L.length cc)), (9, .val (.int .i64 L.length)), (10, .val (.int .i64 i))], ⟨O, b, w⟩⟩ (k := ⟨k⟩) = k e ⟨s', ⟨O, b, w⟩⟩
  | 0, i, w, hi => by
    refine ⟨.exit 0, _, .inr ⟨rfl, rfl⟩, fun k => ?_⟩
    rw [xK_loop]
    simp (disch := omega) [-getElem?_pos, -getElem?_neg, -List.all_eq_true, List.getElem?_cons_zero, List.getElem?_cons_succ, nltT, nltF, iltT, iltF, ileT, nleT, wrapI, code105L0]
  | j + 1, i, w, hi => by
    obtain ⟨x, hx⟩ : ∃ x, L[i]? = some x := ⟨_, List.getElem?_eq_getElem (by omega)⟩
    obtain ⟨p, o, cs, ha, hp, hpl, hcs, hv⟩ := row_at hR hx
    have hxm := List.mem_of_getElem? hx
    have hrb : reachB = 140737488351232 := rfl
    have e2 : ((i + 1 : Nat) : Int) = (i : Int) + 1 := by omega
    obtain ⟨r, h104⟩ := s104 (b := b) (w := w) (hok x hxm) (hf x hxm) hb
    obtain ⟨e, s', q, ih⟩ := l105 (cc := cc) hR hL hok hf hb j (i + 1) w (by omega)
    unfold UnitU.cells at hv h104
    cases r with
    | false =>
      refine ⟨.ret, _, .inl ⟨rfl, rfl⟩, fun k => ?_⟩
      rw [xK_loop, ha]
      simp (disch := omega) [-getElem?_pos, -getElem?_neg, -List.all_eq_true, List.getElem?_cons_zero, List.getElem?_cons_succ, nltT, nltF, iltT, iltF, ileT, nleT, wrapI, code105L0, hp, hv, h104]
    | true =>
      refine ⟨e, s', q, fun k => ?_⟩
      have ih := ih k
      rw [e2, ha] at ih
      rw [xK_loop, ha]
      generalize ACode.loop code105L0 = L' at ih ⊢
      simp (disch := omega) [-getElem?_pos, -getElem?_neg, -List.all_eq_true, List.getElem?_cons_zero, List.getElem?_cons_succ, nltT, nltF, iltT, iltF, ileT, nleT, wrapI, code105L0, hp, hv, h104, ih]

theorem s105 {L : List UnitU} {aa : Option (Nat × Nat)} {cc : Option Nat} (hR : Row O 4 UnitU.cells L aa) (hL : L.length ≤ reachB) (hok : ∀ x ∈ L, x.ok O) (hf : ∀ x ∈ L, x.fits) (hb : b ≤ O.length) :
    ∃ r : Bool, xCall T 105 [.slice aa L.length cc] ⟨O, b, w⟩ = some (.bool r, ⟨O, b, w⟩) ∧ (r = true → L.length ≤ 40) := by
  have hrb : reachB = 140737488351232 := rfl
  by_cases c1 : (40 : Int) < L.length
  · refine ⟨false, ?_, by simp⟩
    simp (disch := omega) [-getElem?_pos, -getElem?_neg, -List.all_eq_true, List.getElem?_cons_zero, List.getElem?_cons_succ, nltT, nltF, iltT, iltF, ileT, nleT, wrapI, xCallK t105, code105, c1]
  · have hl := fun w => l105 (b := b) (cc := cc) hR hL hok hf hb L.length 0 w (by simp)
    obtain ⟨e, s', q, hk⟩ := hl O.length
    simp only [Int.cast_ofNat_Int] at hk
    rcases q with ⟨rfl, rfl⟩ | ⟨rfl, rfl⟩
    · refine ⟨false, ?_, by simp⟩
      simp (disch := omega) [-getElem?_pos, -getElem?_neg, -List.all_eq_true, List.getElem?_cons_zero, List.getElem?_cons_succ, nltT, nltF, iltT, iltF, ileT, nleT, wrapI, xCallK t105, code105, c1, hk]
    · refine ⟨true, ?_, fun _ => by omega⟩
      simp (disch := omega) [-getElem?_pos, -getElem?_neg, -List.all_eq_true, List.getElem?_cons_zero, List.getElem?_cons_succ, nltT, nltF, iltT, iltF, ileT, nleT, wrapI, xCallK t105, code105, c1, hk]

end Go.Abs.AbsHier

/-
  Layer 16, HierMembers: what the law's function computes.
-/
namespace Go.Abs.AbsHier
open Go.Abs.AbsDesc
set_option maxRecDepth 100000
set_option linter.unusedSimpArgs false
variable {os O H : List AObj} {b w : Nat}

theorem s50 {h : Heap} : xCall T 50 [] h = some (.bool true, h) :=
  closed_run (f := code50) t50 rfl 60 rfl rfl (h' := ⟨[], 0, 0⟩) (by kernel_rfl) h

theorem evEq_mem (x : Str) (y : Bool) : evEq false [.s, .b] (.agg [.str x, .bool y]) (.agg [.str x, .bool y]) = some (.bool true) := by
  simp [evEq, areKeys, CK.is, akeyL, akey1]

theorem worldU_any (m m' : Nat) (l : List UnitU) : worldU m l = worldU m' l := by
  have h1 := worldS_eq m l
  have h2 := worldS_eq m' l
  rw [h1] at h2
  cases h3 : worldU m l <;> cases h4 : worldU m' l <;> simp_all

theorem low_row {W : List UnitU} {a : Option (Nat × Nat)} (h : Units H W a) : ∀ u ∈ W, u.low H.length ∧ Row H 8 MethU.cells u.meths u.ma ∧ u.meths.length ≤ 9223372036854775807 := fun u hu => ⟨h.low u hu, (h.ok u hu).m, (h.ok u hu).mn⟩
theorem low_rowF {W : List UnitU} {a : Option (Nat × Nat)} (h : Units H W a) : ∀ u ∈ W, u.low H.length ∧ Row H 3 FieldU.cells u.fields u.fa ∧ u.fields.length ≤ 9223372036854775807 := fun u hu => ⟨h.low u hu, (h.ok u hu).f, (h.ok u hu).fn⟩

theorem s283 {l : List UnitU} {a : Option (Nat × Nat)} {c : Option Nat} {cl n d : Str} (hR : Row os 4 UnitU.cells l a) (hL : l.length ≤ reachB) (hok : ∀ x ∈ l, x.ok os ∧ x.fits) (hb : b ≤ os.length) (hc : cl.length ≤ reachB) (hn : n.length ≤ reachB) (hd : d.length ≤ reachB) :
    xCall T 283 [.slice a l.length c, .str cl, .str n, .str d] ⟨os, b, w⟩ = some (.bool true, ⟨os, b, w⟩) := by
  have hrb : reachB = 140737488351232 := rfl
  have h50 := fun h => s50 (h := h)
  obtain ⟨r, h105, hr⟩ := s105 (b := b) (w := os.length) (cc := c) hR hL (fun x hx => (hok x hx).1) (fun x hx => (hok x hx).2) hb
  cases r with
  | false => simp (disch := omega) [-getElem?_pos, -getElem?_neg, -List.all_eq_true, List.getElem?_cons_zero, List.getElem?_cons_succ, nltT, nltF, iltT, iltF, ileT, nleT, wrapI, xCallK t283, code283, h50, h105]
  | true =>
    have hl := hr rfl
    by_cases c1 : (300 : Int) < cl.length + n.length + d.length
    · simp (disch := omega) [-getElem?_pos, -getElem?_neg, -List.all_eq_true, List.getElem?_cons_zero, List.getElem?_cons_succ, nltT, nltF, iltT, iltF, ileT, nleT, wrapI, xCallK t283, code283, h50, h105, c1]
    · have h49 := fun w => s49 (b := b) (w := w) (c := c) hR (fun x hx => (hok x hx).1) (by omega) hb
      rcases Bool.eq_false_or_eq_true (worldU (os.length + 1) l) with c2 | c2
      · have c3 := (worldU_any (os.length + 1) (os.length + 5 + 1) l).symm.trans c2
        rw [worldS_eq (os.length + 5 + 1), c3] at h49
        simp only [if_true, newV, newO] at h49
        have hlen : (allU (os.length + 5 + 1) l).length = 9 + l.length := allU_len _ _
        have hW1 := wO_world os ((allU (os.length + 5 + 1) l).map supE) ((allU (os.length + 5 + 1) l).flatMap membF) ((allU (os.length + 5 + 1) l).flatMap membM) builtV
        have hP1 := wO_pre os ((allU (os.length + 5 + 1) l).map supE) ((allU (os.length + 5 + 1) l).flatMap membF) ((allU (os.length + 5 + 1) l).flatMap membM) builtV
        have hl1 : (wO os ((allU (os.length + 5 + 1) l).map supE) ((allU (os.length + 5 + 1) l).flatMap membF) ((allU (os.length + 5 + 1) l).flatMap membM) builtV).length = os.length + 5 := by simp [wO]
        have hF := first_fieldU c3 (cl, n, d)
        have hM := first_methU c3 (cl, n, d)
        have hSl : ((allU (os.length + 5 + 1) l).map supE).length ≤ 9223372036854775807 := by rw [List.length_map]; omega
        generalize (allU (os.length + 5 + 1) l).map supE = S at *
        generalize (allU (os.length + 5 + 1) l).flatMap membF = F at *
        generalize (allU (os.length + 5 + 1) l).flatMap membM = M at *
        generalize wO os S F M builtV = O1 at *
        have h107 := fun w => s107 (O := O1) (b := b) (w := w) (c := c) (hP1.row hR) hl (fun u hu => ⟨(hok u hu).1.pre hP1, (hok u hu).2.cap⟩) (by omega)
        rw [hl1, c3] at h107
        simp only [if_true] at h107
        have hU := worldO_units (O := O1) hl (fun u hu => (hok u hu).1.pre hP1)
        have hW2 : AbsHier.World (worldO O1 l) os.length S F M builtV := hW1.app _
        have hl2 : (worldO O1 l).length = os.length + 7 := by simp [worldO, hl1]
        rw [hl1] at hU
        generalize worldO O1 l = O2 at *
        generalize allU (os.length + 5 + 1) l = W at *
        have h110 := fun w => s110 (b := b) (w := w) (k := (cl, n, d)) hW2 (by omega) hSl
        have h113 := fun w => s113 (b := b) (w := w) (k := (cl, n, d)) hW2 (by omega) hSl
        have h95 := fun X w => s95 (b := b) (w := w) (k := (cl, n, d)) (hW2.app X)
        have h111 := fun w => s111 (b := b) (w := w) (c := none) hU.r hU.n (low_rowF hU) (by omega) (cl := cl) (n := n) (d := d)
        have h114 := fun w => s114 (b := b) (w := w) (c := none) hU.r hU.n (low_row hU) (by omega) (cl := cl) (n := n) (d := d)
        have h108 := fun w => s108 (O := O2) (b := b) (w := w) (by omega)
        have hB : Units (O2 ++ [.cells 4 ((builtU (O2.length + 1)).flatMap UnitU.cells), natO]) (builtU (O2.length + 1)) (some (O2.length, 0)) :=
          ⟨Row.mk0 (fun _ => rfl) (by rw [get_k0]; rfl), (by decide : 9 ≤ 200), builtU_ok (by rw [get_k]; rfl)⟩
        have h114b := fun w => s114 (b := b) (w := w) (c := none) hB.r hB.n (low_row hB) (by simp; omega) (cl := cl) (n := n) (d := d)
        have hnat := native_eq (O2.length + 1) (cl, n, d)
        have hbl : (builtU (O2.length + 1)).length = 9 := rfl
        rw [hbl] at h114b hnat
        simp only at h110 h113 h95 hF hM hnat
        rw [hF] at h110
        rw [hM] at h113
        rw [hnat] at h95
        generalize fieldU (lineU W (W.length + 1) cl) n d = f at *
        generalize methU (lineU W (W.length + 1) cl) n d = g at *
        generalize methU (lineU (builtU (O2.length + 1)) (9 + 1) cl) n d = z at *
        simp only [foundV, memF] at h110 h111 h113 h114 h114b
        simp (disch := omega) [-getElem?_pos, -getElem?_neg, -List.all_eq_true, List.getElem?_cons_zero, List.getElem?_cons_succ, nltT, nltF, iltT, iltF, ileT, nleT, wrapI, xCallK t283, code283, h50, h105, c1, h49, h107, h110, h111, h113, h114, h108, h114b, h95, evEq_mem]
      · have c3 := (worldU_any (os.length + 1) (os.length + 5 + 1) l).symm.trans c2
        rw [worldS_eq (os.length + 5 + 1), c3] at h49
        have h107 := fun w => s107 (O := os) (b := b) (w := w) (c := c) hR hl (fun u hu => ⟨(hok u hu).1, (hok u hu).2.cap⟩) hb
        rw [c2] at h107
        simp only [Bool.false_eq_true, if_false, newV, newO] at h49 h107
        simp (disch := omega) [-getElem?_pos, -getElem?_neg, -List.all_eq_true, List.getElem?_cons_zero, List.getElem?_cons_succ, nltT, nltF, iltT, iltF, ileT, nleT, wrapI, xCallK t283, code283, h50, h105, c1, h49, h107]

end Go.Abs.AbsHier
