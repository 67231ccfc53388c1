/-
  Layer 16: the order of types, of units that are made.
-/
import Derived.Test.YtknncfpfhjnjpaaDoorP7
import Derived.Test.YtknncfpfhjnjpaaDoorP8
import Derived.Test.YtknncfpfhjnjpaaDoorP6
namespace Go.Abs.AbsMake
open Go.Abs.AbsDesc Go.Abs.AbsHier
set_option maxRecDepth 100000
set_option linter.unusedSimpArgs false
section
variable {S : List (Str × Str)}
theorem goes_there {s t : Str} (h : goesS S s t = true) : thereS S s = true ∧ thereS S t = true := by
  cases s with
  | nil => unfold goesS at h; simp only [Bool.and_eq_true] at h; exact h.1
  | cons x r => unfold goesS at h; simp only [Bool.and_eq_true] at h; exact h.1
theorem goes_refl {s : Str} (h : thereS S s = true) : goesS S s s = true := by
  cases s with
  | nil => unfold goesS; simp [h]
  | cons x r => unfold goesS; simp [h]
theorem goes_cases {x : UInt8} {r t : Str} : goesS S (x :: r) t = true ↔ thereS S (x :: r) = true ∧ thereS S t = true ∧ (x :: r = t ∨ (x :: r = [78] ∧ isRef t = true) ∨ (x :: r ≠ [78] ∧ ((∃ a c, classOf (x :: r) = some a ∧ classOf t = some c ∧ isS S a c = true) ∨ (classOf (x :: r) = none ∧ classOf t = some objectT ∧ x = 91) ∨ (classOf (x :: r) = none ∧ classOf t = none ∧ x = 91 ∧ begins 91 t = true ∧ isRef r = true ∧ isRef t.tail = true ∧ goesS S r t.tail = true)))) := by
  rw [goesS]
  simp only [Bool.and_eq_true, Bool.or_eq_true, decide_eq_true_eq, and_assoc]
  refine and_congr_right fun _ => and_congr_right fun _ => ?_
  by_cases e : x :: r = t
  · simp [e]
  simp only [e, false_or]
  by_cases e2 : x :: r = [78]
  · rw [if_pos e2]; simp [e2]
  rw [if_neg e2]
  simp only [e2, false_and, false_or, ne_eq, not_false_eq_true, true_and]
  cases h1 : classOf (x :: r) with
  | none => cases h2 : classOf t with
    | none => simp [and_assoc]
    | some c => simp; exact and_comm
  | some a => cases h2 : classOf t with
    | none => simp
    | some c => simp
theorem begins_tail {t : Str} (h : begins 91 t = true) : ∃ r, t = 91 :: r := by
  cases t with
  | nil => simp [begins] at h
  | cons y r => simp only [begins, decide_eq_true_eq] at h; exact ⟨r, by rw [h]⟩
theorem isRef_of_class {t c : Str} (h : classOf t = some c) : isRef t = true := by
  unfold isRef; rw [(classOf_begins h).2, Bool.true_or]
theorem isRef_of_begins {t : Str} (h : begins 91 t = true) : isRef t = true := by
  unfold isRef; rw [h, Bool.or_true]
theorem goes_trans (h1 : ∀ a c d, isS S a c = true → isS S c d = true → isS S a d = true) (h2 : ∀ c, isS S objectT c = true → c = objectT) : ∀ (s t u : Str), goesS S s t = true → goesS S t u = true → goesS S s u = true
  | [], t, u, g1, g2 => by
    have e : t = [] := by unfold goesS at g1; simp only [Bool.and_eq_true, decide_eq_true_eq] at g1; exact g1.2
    rw [e] at g2; exact g2
  | x :: r, t, u, g1, g2 => by
    obtain ⟨p1, p2, p3⟩ := goes_cases.1 g1
    obtain ⟨q1, q2⟩ := goes_there g2
    rcases p3 with p3 | ⟨p3, p4⟩ | ⟨p3, p4⟩
    · rw [← p3] at g2; exact g2
    · -- N
      cases t with
      | nil => simp [isRef, begins] at p4
      | cons y v =>
        obtain ⟨_, _, q3⟩ := goes_cases.1 g2
        refine goes_cases.2 ⟨p1, q2, .inr (.inl ⟨p3, ?_⟩)⟩
        rcases q3 with q3 | ⟨q3, q4⟩ | ⟨q3, ⟨a, c, e1, e2, e3⟩ | ⟨e1, e2, e3⟩ | ⟨_, _, _, e, _⟩⟩
        · rw [← q3]; exact p4
        · exact q4
        · exact isRef_of_class e2
        · exact isRef_of_class e2
        · exact isRef_of_begins e
    · rcases p4 with ⟨a, c, e1, e2, e3⟩ | ⟨e1, e2, e3⟩ | ⟨e1, e2, e3, e4, e5, e6, e7⟩
      · -- a class goes for a class
        cases t with
        | nil => cases e2
        | cons y v =>
          obtain ⟨_, _, q3⟩ := goes_cases.1 g2
          rcases q3 with q3 | ⟨q3, q4⟩ | ⟨q3, ⟨a', c', f1, f2, f3⟩ | ⟨f1, _⟩ | ⟨f1, _⟩⟩
          · rw [← q3]; exact g1
          · rw [q3] at e2; cases e2
          · rw [e2] at f1; cases f1
            exact goes_cases.2 ⟨p1, q2, .inr (.inr ⟨p3, .inl ⟨a, c', e1, f2, h1 _ _ _ e3 f3⟩⟩)⟩
          · rw [e2] at f1; cases f1
          · rw [e2] at f1; cases f1
      · -- a row goes for Object
        cases t with
        | nil => cases e2
        | cons y v =>
          obtain ⟨_, _, q3⟩ := goes_cases.1 g2
          rcases q3 with q3 | ⟨q3, q4⟩ | ⟨q3, ⟨a', c', f1, f2, f3⟩ | ⟨f1, _⟩ | ⟨f1, _⟩⟩
          · rw [← q3]; exact g1
          · rw [q3] at e2; cases e2
          · rw [e2] at f1; cases f1
            have := h2 _ f3
            subst this
            exact goes_cases.2 ⟨p1, q2, .inr (.inr ⟨p3, .inr (.inl ⟨e1, f2, e3⟩)⟩)⟩
          · rw [e2] at f1; cases f1
          · rw [e2] at f1; cases f1
      · -- a row goes for a row
        obtain ⟨v, rfl⟩ := begins_tail e4
        obtain ⟨_, _, q3⟩ := goes_cases.1 g2
        rcases q3 with q3 | ⟨q3, q4⟩ | ⟨q3, ⟨a', c', f1, f2, f3⟩ | ⟨f1, f2, f3⟩ | ⟨f1, f2, f3, f4, f5, f6, f7⟩⟩
        · rw [← q3]; exact g1
        · simp only [List.cons.injEq] at q3; exact absurd q3.1 (by decide)
        · rw [e2] at f1; cases f1
        · exact goes_cases.2 ⟨p1, q2, .inr (.inr ⟨p3, .inr (.inl ⟨e1, f2, e3⟩)⟩)⟩
        · exact goes_cases.2 ⟨p1, q2, .inr (.inr ⟨p3, .inr (.inr ⟨e1, f2, e3, f4, e5, f6, goes_trans h1 h2 r v u.tail e7 f7⟩)⟩)⟩
end
def namesM : List Str := SM.map (·.1)
theorem line_names {S : List (Str × Str)} {k : Nat} {c : Str} (h : getE S c = none) : lineS S k c = [] := by
  cases k with
  | zero => rfl
  | succ k => simp only [lineS, h]
theorem getE_names {c : Str} (h : getE SM c ≠ none) : c ∈ namesM := by
  have : ∀ S : List (Str × Str), getE S c ≠ none → c ∈ S.map (·.1) := by
    intro S
    induction S with
    | nil => intro h; exact absurd rfl h
    | cons x S ih =>
      intro h
      simp only [getE] at h
      split at h
      · rename_i e; rw [← e]; simp
      · exact List.mem_cons_of_mem _ (ih h)
  exact this SM h
theorem isS_mem {S : List (Str × Str)} {a c : Str} : isS S a c = true ↔ c ∈ lineS S S.length a := by
  unfold isS
  rw [List.any_eq_true]
  constructor
  · rintro ⟨x, h1, h2⟩; rw [← of_decide_eq_true h2]; exact h1
  · intro h; exact ⟨c, h, by simp⟩
def closedM : Bool := namesM.all fun a => (lineS SM SM.length a).all fun c => (lineS SM SM.length c).all fun d => (lineS SM SM.length a).contains d
theorem closedM_ok : closedM = true := by kernel_rfl
theorem isM_trans (a c d : Str) (h1 : isS SM a c = true) (h2 : isS SM c d = true) : isS SM a d = true := by
  rw [isS_mem] at h1 h2 ⊢
  have ha : a ∈ namesM := getE_names fun e => by rw [line_names e] at h1; cases h1
  have := closedM_ok
  unfold closedM at this
  have h3 := List.all_eq_true.1 (List.all_eq_true.1 (List.all_eq_true.1 this a ha) c h1) d h2
  simpa using h3
theorem isM_object (c : Str) (h : isS SM objectT c = true) : c = objectT := by
  rw [isS_mem, show lineS SM SM.length objectT = [objectT] by kernel_rfl] at h
  exact List.mem_singleton.1 h
theorem goesM_trans (s t u : Str) (h1 : goesS SM s t = true) (h2 : goesS SM t u = true) : goesS SM s u = true := goes_trans isM_trans isM_object s t u h1 h2
end Go.Abs.AbsMake

/-
  Layer 16, HierOrder: what the law's function computes.
-/
namespace Go.Abs.AbsOrd
open Go.Abs.AbsDesc Go.Abs.AbsHier
open Go.Abs.AbsMake hiding T sub
set_option maxRecDepth 100000
set_option linter.unusedSimpArgs false
variable {os O : List AObj} {b w : Nat}
theorem subH : ∀ g f, AbsHier.T g = some f → AbsOrd.T g = some f := fun g f h => AbsOrd.sub g f (AbsMake.sub g f h)
theorem s50 {h : Heap} : xCall AbsOrd.T 50 [] h = some (.bool true, h) := xCall_sub subH (closed_run (f := code50) AbsHier.t50 rfl 60 rfl rfl (h' := ⟨[], 0, 0⟩) (by kernel_rfl) h)
theorem made_world {tb : List UInt8} {a : Option (Nat × Nat)} {c : Option Nat} (hR : Row O 1 byteCell tb a) (hu : under O.length a) (ht : tb.length ≤ 1000) (hb : b ≤ O.length) :
    ∃ (l : List UnitU) (ua : Option (Nat × Nat)) (uc : Option Nat) (O1 : List AObj) (F M : List (Key × Mem)) (w1 : Nat), l.length = 4 ∧ Skel l ∧ (∀ u ∈ l, u.ok O1 ∧ u.fits) ∧ Row O1 4 UnitU.cells l ua ∧ under O1.length ua ∧ O.length ≤ O1.length ∧ O.length ≤ w1 ∧ worldS l = some (SM, F, M) ∧ AbsHier.World (wO O1 SM F M builtV) O1.length SM F M builtV ∧
      xCall AbsOrd.T 48 [.ptr (some (O.length, 0))] ⟨O ++ [.cells 2 [.slice a tb.length c, .int .i64 0]], b, O.length⟩ = some (.slice ua 4 uc, ⟨O1, b, w1⟩) ∧
      ∀ w, xCall AbsOrd.T 49 [.slice ua 4 uc] ⟨O1, b, w⟩ = some (.tuple [.ptr (some (O1.length, 0)), .int .i64 0], ⟨wO O1 SM F M builtV, b, w⟩) := by
  have hG : AbsMake.Good (O ++ [.cells 2 [.slice a tb.length c, .int .i64 0]]) O.length tb (.slice a tb.length c) := by
    refine ⟨⟨0, by rw [get_k0]; rfl, Nat.zero_le _, ht⟩, a, c, rfl, (Pre.app O _).row hR, fun i o e => ?_⟩
    have := hu i o e; omega
  obtain ⟨ua, uc, l, O1, w1, e1, hl, hRl, hok, hul, hS, hK, hw, hw2⟩ := s48 hG (b := b) hb O.length
  obtain ⟨F, M, hW⟩ := worldS_made hS
  have hlen := hK.len
  simp only [List.length_append, List.length_singleton] at hlen
  have h49 := fun w => s49 (b := b) (w := w) (c := uc) hRl (fun u hm => (hok u hm).1) (by rw [hl]; decide) (by omega)
  rw [hl, hW] at h49
  simp only [newV, newO] at h49
  exact ⟨l, ua, uc, O1, F, M, w1, hl, hS, hok, hRl, hul, by omega, by omega, hW, wO_world _ _ _ _ _, xCall_sub AbsOrd.sub e1, fun w => xCall_sub subH (h49 w)⟩
theorem s51 {tb : List UInt8} {a : Option (Nat × Nat)} {c : Option Nat} {x y z : Str} (hR : Row O 1 byteCell tb a) (hu : under O.length a) (hn : tb.length ≤ reachB) (hb : b ≤ O.length) (hx : x.length ≤ reachB) (hy : y.length ≤ reachB) (hz : z.length ≤ reachB) :
    xCall AbsOrd.T 51 [.slice a tb.length c, .str x, .str y, .str z] ⟨O, b, w⟩ = some (.bool true, ⟨O, b, w⟩) := by
  have hrb : reachB = 140737488351232 := rfl
  have h50 := fun h => s50 (h := h)
  by_cases c1 : (200 : Int) < tb.length
  · simp (disch := omega) [-getElem?_pos, -getElem?_neg, -List.all_eq_true, gz, gs, nltT, nltF, iltT, iltF, ileT, nleT, wrapI, -sget, sgetN, sgetH, sgetT, xCallK AbsOrd.t51, code51, h50, c1]
  · by_cases c2 : (300 : Int) < x.length + y.length + z.length
    · simp (disch := omega) [-getElem?_pos, -getElem?_neg, -List.all_eq_true, gz, gs, nltT, nltF, iltT, iltF, ileT, nleT, wrapI, -sget, sgetN, sgetH, sgetT, xCallK AbsOrd.t51, code51, h50, c1, c2]
    · obtain ⟨l, ua, uc, O1, F, M, w1, hl, hS, hok, hRl, hul, hlen, hw1, hW, hWo, e1, e2⟩ := made_world (b := b) (c := c) hR hu (by omega) hb
      have hSl : SM.length ≤ 9223372036854775807 := by decide
      have hO2 : b ≤ (wO O1 SM F M builtV).length := by have := hWo.lt; omega
      have h47 := fun s t w hs ht => xCall_sub subH (s47 (b := b) hWo hO2 hSl s t w hs ht)
      have hxl : x.length ≤ 9223372036854775807 := by omega
      have hyl : y.length ≤ 9223372036854775807 := by omega
      have hzl : z.length ≤ 9223372036854775807 := by omega
      have g1 := fun w => h47 x y w hxl hyl
      have g2 := fun w => h47 x x w hxl hxl
      have g3 := fun w => h47 y y w hyl hyl
      have g4 := fun w => h47 y z w hyl hzl
      have g5 := fun w => h47 x z w hxl hzl
      have f1 : goesS SM x y = true → goesS SM x x = true ∧ goesS SM y y = true := fun h => ⟨goes_refl (goes_there h).1, goes_refl (goes_there h).2⟩
      have f2 : goesS SM x y = true → goesS SM y z = true → goesS SM x z = true := goesM_trans x y z
      have hl2 : O.length ≤ (wO O1 SM F M builtV).length := by have := hWo.lt; omega
      generalize goesS SM x y = r1 at *
      generalize goesS SM x x = r2 at *
      generalize goesS SM y y = r3 at *
      generalize goesS SM y z = r4 at *
      generalize goesS SM x z = r5 at *
      generalize wO O1 SM F M builtV = O2 at *
      cases r1 with
      | false => simp (disch := omega) [-getElem?_pos, -getElem?_neg, -List.all_eq_true, gz, gs, nltT, nltF, iltT, iltF, ileT, nleT, wrapI, -sget, sgetN, sgetH, sgetT, xCallK AbsOrd.t51, code51, h50, c1, c2, e1, e2, g1]
      | true =>
        obtain ⟨k1, k2⟩ := f1 rfl
        subst k1 k2
        cases r4 with
        | false => simp (disch := omega) [-getElem?_pos, -getElem?_neg, -List.all_eq_true, gz, gs, nltT, nltF, iltT, iltF, ileT, nleT, wrapI, -sget, sgetN, sgetH, sgetT, xCallK AbsOrd.t51, code51, h50, c1, c2, e1, e2, g1, g2, g3, g4]
        | true =>
          have k3 := f2 rfl rfl
          subst k3
          simp (disch := omega) [-getElem?_pos, -getElem?_neg, -List.all_eq_true, gz, gs, nltT, nltF, iltT, iltF, ileT, nleT, wrapI, -sget, sgetN, sgetH, sgetT, xCallK AbsOrd.t51, code51, h50, c1, c2, e1, e2, g1, g2, g3, g4, g5]
end Go.Abs.AbsOrd
