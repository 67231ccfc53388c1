/-
  Layer 16: what two classes have in common.
-/
import Derived.Test.YtknncfpfhjnjpaaDoorP8
namespace Go.Abs.AbsOrd
set_option linter.unusedVariables false
set_option linter.unusedSimpArgs false
open Go.Abs.AbsDesc Go.Abs.AbsHier
open Go.Abs.AbsMake hiding T sub
set_option maxRecDepth 100000
set_option linter.unusedSimpArgs false
variable {os O : List AObj} {b w : Nat} {N : Nat} {S : List (Str × Str)} {F M : List (Key × Mem)} {V : List (Key × Bool)}
theorem t155 : AbsOrd.T 155 = some code155 := subH _ _ AbsHier.t155
theorem t156 : AbsOrd.T 156 = some code156 := subH _ _ AbsHier.t156
theorem s156' {c : Str} (hN : N < O.length) : xCall AbsOrd.T 156 [.ptr (some (N, 0)), .str c] ⟨O, b, w⟩ =
    some (.func 155 [] [.ptr (some (O.length, 0)), .ptr (some (O.length + 1, 0))], ⟨O ++ [.cells 1 [.ptr (some (N, 0))], .cells 1 [.str c]], b, w⟩) := by
  simp (disch := omega) [xCallK AbsOrd.t156, code156, reach_step, reach_done, nltT, nltF, hN]
structure LineC {σ : Type} (B : σ → Str → AObj → List AObj) (N n i g lo : Nat) (sl : List (Nat × AVal)) (S : List (Str × Str)) (step : σ → Str → σ × Option AExit) (b : Nat) : Prop where
  bn : b ≤ n
  lon : lo ≤ n
  c0 : ∀ x c o, (B x c o)[n]? = some (.cells 1 [.ptr (some (N, 0))])
  c1 : ∀ x c o, (B x c o)[n + 1]? = some (.cells 1 [.str c])
  set : ∀ x c d o, (B x c o).set (n + 1) (.cells 1 [.str d]) = B x d o
  loop : ∀ x c o, (B x c o)[i]? = some o
  w0 : ∀ x c o, ∃ r, (B x c o)[N]? = some (.cells 4 (.map (some (N + 1)) :: r))
  m1 : ∀ x c o, (B x c o)[N + 1]? = some (mObj .str .str S)
  body : ∀ x c w, lo ≤ w → ∃ w', lo ≤ w' ∧ w' ≤ i ∧ xCall AbsOrd.T g [.ptr (some (i, 0)), .str c] ⟨B x c (.loop g .ready none sl), b, w⟩ =
    some (.bool (step x c).2.isNone, ⟨B (step x c).1 c (match (step x c).2 with | none => .loop g .ready none sl | some e => .loop g .done (some e) sl), b, w'⟩)
section
variable {σ : Type} {B : σ → Str → AObj → List AObj} {n i g lo : Nat} {sl : List (Nat × AVal)} {step : σ → Str → σ × Option AExit}
theorem l155' (h : LineC B N n i g lo sl S step b) (hS : S.length ≤ 9223372036854775807) : ∀ (j q : Nat) (x : σ) (c : Str) (w : Nat), q + j = S.length → lo ≤ w →
    ∃ c' w' e, lo ≤ w' ∧ (w' ≤ i ∨ (lineS S j c = [] ∧ c' = c ∧ w' = w)) ∧ (e = .ret ∨ e = .exit 0) ∧ ∀ (k : AExit → St → Option (AVal × Heap)), xK AbsOrd.T (.loop code155L0) ⟨[(0, .val (.yield i)), (1, .val (.ptr (some (n, 0)))), (2, .val (.ptr (some (n + 1, 0)))), (10, .val (.int .i64 S.length)), (11, .val (.int .i64 q))], ⟨B x c (.loop g .ready none sl), b, w⟩⟩ (k := ⟨k⟩) =
      k e ⟨[], ⟨B (runL step x (lineS S j c)).1 c' (endO g sl (runL step x (lineS S j c)).2), b, w'⟩⟩
  | 0, q, x, c, w, hq, hw => by
    refine ⟨c, w, .exit 0, hw, .inr ⟨rfl, rfl, rfl⟩, .inr rfl, fun k => ?_⟩
    rw [xK_loop]
    simp (disch := omega) [-getElem?_pos, -getElem?_neg, code155L0, iltF, lineS, runL, endO]
  | j + 1, q, x, c, w, hq, hw => by
    obtain ⟨r, hr⟩ := h.w0 x c (.loop g .ready none sl)
    have h0 := h.c0 x c (.loop g .ready none sl)
    have h1 := h.c1 x c (.loop g .ready none sl)
    have hl := h.loop x c (.loop g .ready none sl)
    have hlk := lookup_ok (b := b) (w := (B x c (.loop g .ready none sl)).length) (kn := .one .s) (zero := .str []) keyStr (h.m1 x c (.loop g .ready none sl)) (k := c) rfl
    have hlk2 := lookup_ok (b := b) (w := w) (kn := .one .s) (zero := .str []) keyStr (h.m1 x c (.loop g .ready none sl)) (k := c) rfl
    have e : ((getE S c).map AVal.str).getD (.str []) = .str ((getE S c).getD []) := by cases getE S c <;> rfl
    rw [e] at hlk hlk2
    cases hg : getE S c with
    | none =>
      refine ⟨c, w, .ret, hw, .inr ⟨by simp only [lineS, hg], rfl, rfl⟩, .inl rfl, fun k => ?_⟩
      rw [hg] at hlk hlk2
      simp only [Option.getD_none, Option.isSome_none, Option.getD_some, Option.isSome_some] at hlk hlk2
      rw [xK_loop]
      simp (disch := omega) [-getElem?_pos, -getElem?_neg, -evExt, gz, gs, code155L0, iltT, h0, h1, hr, hlk, hlk2, lineS, runL, endO, hg]
    | some d =>
      rw [hg] at hlk hlk2
      simp only [Option.getD_none, Option.isSome_none, Option.getD_some, Option.isSome_some] at hlk hlk2
      obtain ⟨w1, hw1, hwi, hb⟩ := h.body x c w hw
      have hbn := h.bn
      have hlon := h.lon
      cases hst : step x c with
      | mk y e =>
        rw [hst] at hb
        simp only at hb
        cases e with
        | some e =>
          refine ⟨c, w1, .ret, hw1, .inl hwi, .inl rfl, fun k => ?_⟩
          rw [xK_loop]
          simp (disch := omega) [-getElem?_pos, -getElem?_neg, -evExt, gz, gs, code155L0, iltT, h0, h1, hr, hl, hlk, hlk2, hb, lineS, runL, endO, hg, hst]
        | none =>
          obtain ⟨c', w', e', hw', hwj, he', ih⟩ := l155' h hS j (q + 1) y d (min w1 (n + 1)) (by omega) (by omega)
          refine ⟨c', w', e', hw', ?_, he', fun k => ?_⟩
          · rcases hwj with h2 | ⟨_, _, h2⟩
            · exact .inl h2
            · exact .inl (by omega)
          have ih := ih k
          have e2 : ((q + 1 : Nat) : Int) = (q : Int) + 1 := by omega
          rw [e2] at ih
          have h1' := h.c1 y c (.loop g .ready none sl)
          have hs := h.set y c d (.loop g .ready none sl)
          rw [xK_loop]
          generalize ACode.loop code155L0 = L at ih ⊢
          simp (disch := omega) [-getElem?_pos, -getElem?_neg, -evExt, gz, gs, code155L0, iltT, nleT, wrapI, h0, h1, h1', hr, hl, hlk, hlk2, hb, hs, lineS, runL, hg, hst, ih]
theorem s155' (h : LineC B N n i g lo sl S step b) (hS : S.length ≤ 9223372036854775807) (x : σ) (c : Str) (w : Nat) (hw : lo ≤ w) (hlo : lo ≤ (B x c (.loop g .ready none sl)).length) :
    ∃ c' w', lo ≤ w' ∧ xCall AbsOrd.T 155 [.yield i, .ptr (some (n, 0)), .ptr (some (n + 1, 0))] ⟨B x c (.loop g .ready none sl), b, w⟩ =
      some (.tuple [], ⟨B (runL step x (lineS S S.length c)).1 c' (endO g sl (runL step x (lineS S S.length c)).2), b, w'⟩) := by
  have h0 := h.c0 x c (.loop g .ready none sl)
  obtain ⟨r, hr⟩ := h.w0 x c (.loop g .ready none sl)
  have hlen := fun w => len_map (b := b) (w := w) (h.m1 x c (.loop g .ready none sl))
  obtain ⟨c', w', e, hw', hwi, he, hl⟩ := l155' h hS S.length 0 x c (B x c (.loop g .ready none sl)).length (by omega) hlo
  simp only [Int.cast_ofNat_Int] at hl
  have hil := lt_of_get (h.loop x c (.loop g .ready none sl))
  refine ⟨c', if w' < (B x c (.loop g .ready none sl)).length then min w w' else w, by split <;> omega, ?_⟩
  rcases he with rfl | rfl
  all_goals
    simp (disch := omega) [-getElem?_pos, -getElem?_neg, -evLen, gz, gs, xCallK AbsOrd.t155, code155, h0, hr, hlen, hl]
    rcases hwi with hwi | ⟨h1, h2, _⟩
    · rw [if_pos (by omega), if_pos (by omega)]
    · subst h2
      rw [h1]
      split <;> simp [runL, endO]
end
def comB (O : List AObj) (N : Nat) (d : Str) (x : Str) (c : Str) (o : AObj) : List AObj :=
  O ++ [.cells 1 [.ptr (some (N, 0))], .cells 1 [.str d], .cells 1 [.str x], .cells 1 [.ptr (some (N, 0))], .cells 1 [.str c], o]
def comStep (S : List (Str × Str)) (d : Str) (x : Str) (c : Str) : Str × Option AExit := if isS S d c then (c, some .ret) else (x, none)
theorem com_at {d : Str} (h : AbsHier.World O N S F M V) (hb : b ≤ O.length) (hS : S.length ≤ 9223372036854775807) : LineC (comB O N d) N (O.length + 3) (O.length + 5) 319 O.length [(3, .ptr (some (O.length, 0))), (5, .ptr (some (O.length + 1, 0))), (6, .ptr (some (O.length + 2, 0)))] S (comStep S d) b where
  bn := by omega
  lon := by omega
  c0 := fun x c o => by unfold comB; rw [get_k]; rfl
  c1 := fun x c o => by unfold comB; rw [Nat.add_assoc, get_k]; rfl
  set := fun x c d o => by unfold comB; rw [Nat.add_assoc, set_k]; rfl
  loop := fun x c o => by unfold comB; rw [get_k]; rfl
  w0 := fun x c o => ⟨_, by unfold comB; rw [List.getElem?_append_left (by have := h.lt; omega)]; exact h.w0⟩
  m1 := fun x c o => by unfold comB; rw [List.getElem?_append_left (by have := h.lt; omega)]; exact h.m1
  body := fun x c w hw => by
    have hb2 : b ≤ O.length + 2 := by omega
    have hb5 : b ≤ O.length + 5 := by omega
    have h52 := fun X w => xCall_sub subH (s52 (b := b) (w := w) (h.app X) (by simp; omega) hS (c := d) (d := c))
    rcases Bool.eq_false_or_eq_true (isS S d c) with e | e
    · refine ⟨min w (O.length + 2), by omega, by omega, ?_⟩
      simp (disch := omega) [-getElem?_pos, -getElem?_neg, gz, gs, xRoundK AbsOrd.t319 rfl, round319, rcode319a, rcode319b, roundSlots, roundIn, roundOut, setArgs, ofCaps, comB, comStep, nltT, nltF, get_k, get_k0, set_k, set_k0, hb, hb2, hb5, h52, e]
    · refine ⟨min w (O.length + 5), by omega, by omega, ?_⟩
      simp (disch := omega) [-getElem?_pos, -getElem?_neg, gz, gs, xRoundK AbsOrd.t319 rfl, round319, rcode319a, rcode319b, roundSlots, roundIn, roundOut, setArgs, ofCaps, comB, comStep, nltT, nltF, get_k, get_k0, set_k, set_k0, hb, hb2, hb5, h52, e]
theorem com_run (S : List (Str × Str)) (d : Str) : ∀ L : List Str, runL (comStep S d) [] L = match L.find? (isS S d) with
    | some c => (c, some .ret)
    | none => ([], none)
  | [] => rfl
  | c :: L => by
    have ih := com_run S d L
    rcases Bool.eq_false_or_eq_true (isS S d c) with e | e
    · simp [runL, comStep, e]
    · simp only [runL, comStep, e, Bool.false_eq_true, if_false, ih, List.find?_cons]
def comS (S : List (Str × Str)) (a d : Str) : Str := ((lineS S S.length a).find? (isS S d)).getD []
theorem s53 (h : AbsHier.World O N S F M V) (hb : b ≤ O.length) (hS : S.length ≤ 9223372036854775807) {c d : Str} : xCall AbsOrd.T 53 [.ptr (some (N, 0)), .str c, .str d] ⟨O, b, w⟩ = some (.str (comS S c d), ⟨O, b, w⟩) := by
  have hN := h.lt
  have hN2 : N < O.length + 3 := by omega
  have hb2 : b ≤ O.length + 2 := by omega
  have hb5 : b ≤ O.length + 5 := by omega
  have h1 := fun w => s156' (O := O ++ [.cells 1 [.ptr (some (N, 0))], .cells 1 [.str d], .cells 1 [.str []]]) (b := b) (w := w) (N := N) (c := c) (by simp; omega)
  simp only [List.length_append, List.length_cons, List.length_nil, Nat.zero_add, List.append_assoc, List.cons_append, List.nil_append, Nat.reduceAdd, Nat.add_assoc] at h1
  obtain ⟨c', w', hw', h2⟩ := s155' (com_at (d := d) h hb hS) hS [] c O.length (Nat.le_refl _) (by simp [comB])
  rw [com_run] at h2
  unfold comS
  generalize (lineS S S.length c).find? (isS S d) = r at h2 ⊢
  cases r with
  | some q =>
    simp only [comB, endO, Nat.add_assoc, Nat.reduceAdd] at h2
    simp (disch := omega) [-getElem?_pos, -getElem?_neg, gz, gs, xCallK AbsOrd.t53, code53, capsOf, callVal, h1, h2, loopEnd, nltT, nltF, get_k, get_k0, set_k, set_k0, hb, hb2, hb5]
  | none =>
    simp only [comB, endO, Nat.add_assoc, Nat.reduceAdd] at h2
    simp (disch := omega) [-getElem?_pos, -getElem?_neg, gz, gs, xCallK AbsOrd.t53, code53, capsOf, callVal, h1, h2, loopEnd, nltT, nltF, get_k, get_k0, set_k, set_k0, hb, hb2, hb5]
end Go.Abs.AbsOrd

/-
  Layer 16, HierCommon: what the law's function computes.
-/
namespace Go.Abs.AbsOrd
set_option linter.unusedVariables false
set_option linter.unusedSimpArgs false
open Go.Abs.AbsDesc Go.Abs.AbsHier
open Go.Abs.AbsMake hiding T sub
set_option maxRecDepth 100000
set_option linter.unusedSimpArgs false
variable {os O : List AObj} {b w : Nat}
def hasM (c : Str) : Bool := (getE SM c).isSome
def comOk (a d : Str) : Bool := !decide (comS SM a d = []) && isS SM a (comS SM a d) && isS SM d (comS SM a d) && decide (comS SM d a = comS SM a d) && ((lineS SM SM.length a).all fun c => !isS SM d c || isS SM (comS SM a d) c)
theorem comAll_ok : (namesM.all fun a => namesM.all fun d => comOk a d) = true := by kernel_rfl
theorem hasM_mem {c : Str} (h : hasM c = true) : c ∈ namesM := getE_names fun e => by unfold hasM at h; rw [e] at h; cases h
theorem com_none {a d : Str} (h : (!hasM a || !hasM d) = true) : comS SM a d = [] := by
  unfold comS
  rcases Bool.eq_false_or_eq_true (hasM a) with h1 | h1
  · rw [h1] at h
    have h2 : hasM d = false := by simpa using h
    have h3 : getE SM d = none := by unfold hasM at h2; simpa using h2
    have h4 : ∀ c, isS SM d c = false := fun c => by unfold isS; rw [line_names h3]; rfl
    have h5 : (lineS SM SM.length a).find? (isS SM d) = none := List.find?_eq_none.2 fun c _ => by rw [h4]; simp
    rw [h5]; rfl
  · have h3 : getE SM a = none := by unfold hasM at h1; simpa using h1
    rw [line_names h3]; rfl
theorem com_some {a d : Str} (h : (!hasM a || !hasM d) = false) : comS SM a d ≠ [] ∧ isS SM a (comS SM a d) = true ∧ isS SM d (comS SM a d) = true ∧ comS SM d a = comS SM a d ∧ ∀ c, isS SM a c = true → isS SM d c = true → isS SM (comS SM a d) c = true := by
  have h1 : hasM a = true ∧ hasM d = true := by simpa using h
  have h2 := List.all_eq_true.1 (List.all_eq_true.1 comAll_ok a (hasM_mem h1.1)) d (hasM_mem h1.2)
  unfold comOk at h2
  simp only [Bool.and_eq_true, Bool.not_eq_true', decide_eq_false_iff_not, decide_eq_true_eq] at h2
  obtain ⟨⟨⟨⟨a1, a2⟩, a3⟩, a4⟩, a5⟩ := h2
  refine ⟨a1, a2, a3, a4, fun c c1 c2 => ?_⟩
  have := List.all_eq_true.1 a5 c (isS_mem.1 c1)
  rw [c2] at this
  simpa using this
set_option maxHeartbeats 2000000 in
theorem s55 {tb : List UInt8} {a : Option (Nat × Nat)} {c : Option Nat} {x y z : Str} (hR : Row O 1 byteCell tb a) (hu : under O.length a) (hn : tb.length ≤ reachB) (hb : b ≤ O.length) (hx : x.length ≤ reachB) (hy : y.length ≤ reachB) (hz : z.length ≤ reachB) :
    xCall AbsOrd.T 55 [.slice a tb.length c, .str x, .str y, .str z] ⟨O, b, w⟩ = some (.bool true, ⟨O, b, w⟩) := by
  have hrb : reachB = 140737488351232 := rfl
  have h50 := fun h => s50 (h := h)
  by_cases c1 : (200 : Int) < tb.length
  · simp (disch := omega) [-getElem?_pos, -getElem?_neg, -List.all_eq_true, gz, gs, nltT, nltF, iltT, iltF, ileT, nleT, wrapI, -sget, sgetN, sgetH, sgetT, xCallK AbsOrd.t55, code55, h50, c1]
  · by_cases c2 : (300 : Int) < x.length + y.length + z.length
    · simp (disch := omega) [-getElem?_pos, -getElem?_neg, -List.all_eq_true, gz, gs, nltT, nltF, iltT, iltF, ileT, nleT, wrapI, -sget, sgetN, sgetH, sgetT, xCallK AbsOrd.t55, code55, h50, c1, c2]
    · obtain ⟨l, ua, uc, O1, F, M, w1, hl, hS, hok, hRl, hul, hlen, hw1, hW, hWo, e1, e2⟩ := made_world (b := b) (c := c) hR hu (by omega) hb
      have hSl : SM.length ≤ 9223372036854775807 := by decide
      have hO2 : b ≤ (wO O1 SM F M builtV).length := by have := hWo.lt; omega
      have h53 := fun s t w => s53 (b := b) (w := w) hWo hO2 hSl (c := s) (d := t)
      have h54 := fun s w => xCall_sub subH (s54 (b := b) (w := w) hWo (c := s))
      have h52 := fun s t w => xCall_sub subH (s52 (b := b) (w := w) hWo hO2 hSl (c := s) (d := t))
      have hl2 : O.length ≤ (wO O1 SM F M builtV).length := by have := hWo.lt; omega
      have g1 := fun w => h53 x y w
      have g2 := fun w => h53 y x w
      have g3 := fun w => h54 x w
      have g4 := fun w => h54 y w
      have k1 : (getE SM x).isSome = hasM x := rfl
      have k2 : (getE SM y).isSome = hasM y := rfl
      rw [k1] at g3
      rw [k2] at g4
      have f1 := com_none (a := x) (d := y)
      have f2 := com_some (a := x) (d := y)
      generalize comS SM x y = m at *
      generalize comS SM y x = m2 at *
      have g5 := fun w => h52 x m w
      have g6 := fun w => h52 y m w
      have g7 := fun w => h52 x z w
      have g8 := fun w => h52 y z w
      have g9 := fun w => h52 m z w
      generalize wO O1 SM F M builtV = O2 at *
      rcases Bool.eq_false_or_eq_true (!hasM x || !hasM y) with q | q
      · have q1 := f1 q
        subst q1
        cases p1 : hasM x with
        | false => simp (disch := omega) [-getElem?_pos, -getElem?_neg, -List.all_eq_true, gz, gs, nltT, nltF, iltT, iltF, ileT, nleT, wrapI, -sget, sgetN, sgetH, sgetT, xCallK AbsOrd.t55, code55, h50, c1, c2, e1, e2, g1, g3, g4, p1]
        | true =>
          have p2 : hasM y = false := by rw [p1] at q; simpa using q
          simp (disch := omega) [-getElem?_pos, -getElem?_neg, -List.all_eq_true, gz, gs, nltT, nltF, iltT, iltF, ileT, nleT, wrapI, -sget, sgetN, sgetH, sgetT, xCallK AbsOrd.t55, code55, h50, c1, c2, e1, e2, g1, g3, g4, p1, p2]
      · obtain ⟨b1, b2, b3, b4, b5⟩ := f2 q
        have p : hasM x = true ∧ hasM y = true := by simpa using q
        obtain ⟨p1, p2⟩ := p
        subst b4
        have b5 := b5 z
        generalize isS SM x m2 = r1 at *
        generalize isS SM y m2 = r2 at *
        generalize isS SM x z = r3 at *
        generalize isS SM y z = r4 at *
        generalize isS SM m2 z = r5 at *
        subst b2 b3
        cases r3 with
        | false => simp (disch := omega) [-getElem?_pos, -getElem?_neg, -List.all_eq_true, gz, gs, nltT, nltF, iltT, iltF, ileT, nleT, wrapI, -sget, sgetN, sgetH, sgetT, xCallK AbsOrd.t55, code55, h50, c1, c2, e1, e2, g1, g2, g3, g4, g5, g6, g7, p1, p2, b1]
        | true =>
          cases r4 with
          | false => simp (disch := omega) [-getElem?_pos, -getElem?_neg, -List.all_eq_true, gz, gs, nltT, nltF, iltT, iltF, ileT, nleT, wrapI, -sget, sgetN, sgetH, sgetT, xCallK AbsOrd.t55, code55, h50, c1, c2, e1, e2, g1, g2, g3, g4, g5, g6, g7, g8, p1, p2, b1]
          | true =>
            have b6 := b5 rfl rfl
            subst b6
            simp (disch := omega) [-getElem?_pos, -getElem?_neg, -List.all_eq_true, gz, gs, nltT, nltF, iltT, iltF, ileT, nleT, wrapI, -sget, sgetN, sgetH, sgetT, xCallK AbsOrd.t55, code55, h50, c1, c2, e1, e2, g1, g2, g3, g4, g5, g6, g7, g8, g9, p1, p2, b1]
end Go.Abs.AbsOrd
