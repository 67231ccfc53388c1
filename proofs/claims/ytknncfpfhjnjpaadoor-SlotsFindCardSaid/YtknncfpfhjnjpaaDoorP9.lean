/-
  Layer 24: targets; the reference: classes, lines.
-/
import Derived.Test.YtknncfpfhjnjpaaDoorP8
import Derived.KernelRfl
namespace Go.Abs.AbsSlot
open Go.Abs.AbsDesc Go.Abs.AbsHier
set_option maxRecDepth 100000
set_option linter.unusedSimpArgs false
variable {os O : List AObj} {b w : Nat}

/-! ## Targets: both are the same code -/

def tgtI (x : LayU) (z y : Int) : Option Int := (atI x.cs z).bind fun c => if 0 ≤ y then c.table[y.toNat]? else none
def tgtV (r : Option Int) : AVal := .tuple [.int .i64 (r.getD 0), .bool r.isSome]

theorem s64 {x : LayU} {z y : Int} (hx : x.ok O) : xCall T 64 [.agg x.cells, .int .i64 z, .int .i64 y] ⟨O, b, w⟩ = some (tgtV (tgtI x z y), ⟨O, b, w⟩) := by
  have hcu : x.cells = [.slice x.ca x.cs.length x.cc, .slice x.ma x.ms.length x.mc, .int .i64 x.stat, .slice x.ra x.refs.length x.rc] := rfl
  unfold tgtI
  rcases atI_cases x.cs z with ⟨h1, h2⟩ | ⟨q, u, rfl, h1, h2, h3⟩
  · rw [h1]
    rcases h2 with h2 | ⟨h2, h3⟩
    · simp (disch := omega) [-getElem?_pos, -getElem?_neg, -List.all_eq_true, List.getElem?_cons_zero, List.getElem?_cons_succ, nltT, nltF, iltT, iltF, ileT, nleT, wrapI, xCallK t64, code64, hcu, h2, tgtV]
    · simp (disch := omega) [-getElem?_pos, -getElem?_neg, -List.all_eq_true, List.getElem?_cons_zero, List.getElem?_cons_succ, nltT, nltF, iltT, iltF, ileT, nleT, wrapI, xCallK t64, code64, hcu, h2, h3, tgtV]
  · rw [h3]
    have n1 : ¬ ((q : Int) < 0) := by omega
    have n2 : ¬ ((x.cs.length : Int) ≤ q) := by omega
    obtain ⟨p, o, cs, ha, hpp, hpl, hcs, ht⟩ := row_at hx.c h2
    have huc : u.cells = [.str u.name, .int .i64 u.super, .int .i64 u.cells', .slice u.ra u.refs.length u.rc, .slice u.ta u.table.length u.tc] := rfl
    rw [huc] at ht
    have ht4 := take_get (k := 4) ht (by decide)
    simp only [List.getElem?_cons_zero, List.getElem?_cons_succ] at ht4
    have huo := hx.cok u (List.mem_of_getElem? h2)
    have htl := huo.tn
    by_cases c1 : y < 0
    · rw [Option.bind_some, if_neg (by omega)]
      simp (disch := omega) [-getElem?_pos, -getElem?_neg, -List.all_eq_true, List.getElem?_cons_zero, List.getElem?_cons_succ, nltT, nltF, iltT, iltF, ileT, nleT, wrapI, xCallK t64, code64, hcu, n1, n2, ha, hpp, ht4, c1, tgtV]
    · by_cases c2 : (u.table.length : Int) ≤ y
      · rw [Option.bind_some, if_pos (by omega), List.getElem?_eq_none (by omega)]
        simp (disch := omega) [-getElem?_pos, -getElem?_neg, -List.all_eq_true, List.getElem?_cons_zero, List.getElem?_cons_succ, nltT, nltF, iltT, iltF, ileT, nleT, wrapI, xCallK t64, code64, hcu, n1, n2, ha, hpp, ht4, c1, c2, tgtV]
      · obtain ⟨m, rfl⟩ : ∃ m : Nat, y = m := ⟨y.toNat, by omega⟩
        obtain ⟨v, hv⟩ : ∃ v, u.table[m]? = some v := ⟨_, List.getElem?_eq_getElem (by omega)⟩
        obtain ⟨p2, o2, cs2, ha2, hpp2, hpl2, hcs2, ht2⟩ := row_at huo.t hv
        have hcv := take_get (k := 0) ht2 (by decide)
        rw [show intC v = [.int .i64 v] from rfl] at hcv
        simp only [List.getElem?_cons_zero, Nat.add_zero, Nat.mul_one] at hcv
        rw [ha2] at ht4
        rw [Option.bind_some, if_pos (by omega), Int.toNat_natCast, hv]
        simp (disch := omega) [-getElem?_pos, -getElem?_neg, -List.all_eq_true, List.getElem?_cons_zero, List.getElem?_cons_succ, nltT, nltF, iltT, iltF, ileT, nleT, wrapI, xCallK t64, code64, hcu, n1, n2, ha, hpp, ht4, c1, c2, tgtV, hpp2, hcv]

theorem s63 {x : LayU} {z y : Int} (hx : x.ok O) : xCall T 63 [.agg x.cells, .int .i64 z, .int .i64 y] ⟨O, b, w⟩ = some (tgtV (tgtI x z y), ⟨O, b, w⟩) := by
  have hcu : x.cells = [.slice x.ca x.cs.length x.cc, .slice x.ma x.ms.length x.mc, .int .i64 x.stat, .slice x.ra x.refs.length x.rc] := rfl
  have h := s64 (b := b) (w := w) (z := z) (y := y) hx
  rw [← h, xCallK t64, xCallK t63]
  rfl

/-! ## The reference's Class -/

theorem l67 {C : List LClsU} {a : Option (Nat × Nat)} {c : Option Nat} (hR : Row O 5 LClsU.cells C a) (hl : C.length ≤ big) {n : Str} : ∀ (j i : Nat) (w : Nat), i + j = C.length → ∀ (k : AExit → St → Option (AVal × Heap)),
    xK T (.loop code67L0) ⟨[(1, .val (.str n)), (9, .val (.slice a C.length c)), (10, .val (.int .i64 C.length)), (11, .val (.int .i64 i))], ⟨O, b, w⟩⟩ (k := ⟨k⟩) =
    match clsI (C.drop i) n with
    | some q => k .ret ⟨[(4, .val (.int .i64 ((i + q : Nat) : Int))), (5, .val (.bool true))], ⟨O, b, w⟩⟩
    | none => k (.exit 0) ⟨[], ⟨O, b, w⟩⟩
  | 0, i, w, hi, k => by
    rw [xK_loop, List.drop_of_length_le (by omega)]
    simp (disch := omega) [-getElem?_pos, -getElem?_neg, -List.all_eq_true, List.getElem?_cons_zero, List.getElem?_cons_succ, nltT, nltF, iltT, iltF, ileT, nleT, wrapI, code67L0, clsI]
  | j + 1, i, w, hi, k => by
    have hl' : C.length ≤ 9223372036854775807 := hl
    obtain ⟨u, hu⟩ : ∃ u, C[i]? = some u := ⟨_, List.getElem?_eq_getElem (by omega)⟩
    obtain ⟨p, o, cs, rfl, hpp, hpl, hcs, ht⟩ := row_at hR hu
    have hd : C.drop i = u :: C.drop (i + 1) := by
      have := lt_of_get hu
      rw [List.getElem?_eq_getElem this] at hu
      rw [List.drop_eq_getElem_cons this, Option.some.inj hu]
    have ih := l67 (c := c) hR hl (n := n) j (i + 1) w (by omega) k
    have e2 : ((i + 1 : Nat) : Int) = (i : Int) + 1 := by omega
    rw [e2] at ih
    have hcu : u.cells = [.str u.name, .int .i64 u.super, .int .i64 u.cells', .slice u.ra u.refs.length u.rc, .slice u.ta u.table.length u.tc] := rfl
    rw [hcu] at ht
    rw [xK_loop, hd]
    unfold clsI at ih ⊢
    rw [List.findIdx?_cons]
    by_cases e : u.name = n
    · have hd1 : decide (u.name = n) = true := decide_eq_true e
      simp only [hd1, if_true, Nat.add_zero]
      generalize ACode.loop code67L0 = L
      simp (disch := omega) [-getElem?_pos, -getElem?_neg, -List.all_eq_true, List.getElem?_cons_zero, List.getElem?_cons_succ, nltT, nltF, iltT, iltF, ileT, nleT, wrapI, code67L0, hpp, ht, e]
    · have hd1 : decide (u.name = n) = false := decide_eq_false e
      simp only [hd1]
      generalize ACode.loop code67L0 = L at ih ⊢
      simp (disch := omega) [-getElem?_pos, -getElem?_neg, -List.all_eq_true, List.getElem?_cons_zero, List.getElem?_cons_succ, nltT, nltF, iltT, iltF, ileT, nleT, wrapI, code67L0, hpp, ht, e, ih]
      cases List.findIdx? _ _ with
      | none => rfl
      | some q =>
        simp only [Option.map_some, Bool.false_eq_true, if_false]
        rw [show (i : Int) + 1 + (q : Int) = (i : Int) + ((q + 1 : Nat) : Int) by omega]

theorem s67 {x : LayU} {n : Str} (hx : x.ok O) : xCall T 67 [.agg x.cells, .str n] ⟨O, b, w⟩ = some (idxV (clsI x.cs n), ⟨O, b, w⟩) := by
  have hcu : x.cells = [.slice x.ca x.cs.length x.cc, .slice x.ma x.ms.length x.mc, .int .i64 x.stat, .slice x.ra x.refs.length x.rc] := rfl
  have h1 := fun w => l67 (O := O) (b := b) (c := x.cc) (n := n) hx.c (big_of hx.cn) x.cs.length 0 w (by omega)
  simp only [Int.cast_ofNat_Int, List.drop_zero, Nat.zero_add] at h1
  have hc : x.cs.length ≤ 9223372036854775807 := big_of hx.cn
  cases hq : clsI x.cs n with
  | none => rw [hq] at h1; simp (disch := omega) [-getElem?_pos, -getElem?_neg, -List.all_eq_true, List.getElem?_cons_zero, List.getElem?_cons_succ, nltT, nltF, iltT, iltF, ileT, nleT, wrapI, xCallK t67, code67, hcu, h1, idxV]
  | some q => rw [hq] at h1; simp (disch := omega) [-getElem?_pos, -getElem?_neg, -List.all_eq_true, List.getElem?_cons_zero, List.getElem?_cons_succ, nltT, nltF, iltT, iltF, ileT, nleT, wrapI, xCallK t67, code67, hcu, h1, idxV]

/-! ## The reference's Line -/

def accI (n : Nat) (A : List Int) : AVal := if A = [] then .slice none 0 (some 0) else .slice (some (n, 0)) A.length none
def accIR (A : List Int) : List AObj := if A = [] then [] else [.cells 1 (A.map (AVal.int .i64))]

theorem l122 {C : List LClsU} {a : Option (Nat × Nat)} {c : Option Nat} {x1 x2 x3 : AVal} (hR : Row O 5 LClsU.cells C a) (hl : C.length ≤ 600) (hb : b ≤ O.length) : ∀ (j : Nat) (z : Int) (A : List Int) (G : List AObj) (w : Nat), A.length + j = C.length → O.length ≤ w →
    ∃ G' w', O.length ≤ w' ∧ ∀ (k : AExit → St → Option (AVal × Heap)),
    xK T (.loop code122L0) ⟨[(1, .val (.int .i64 z)), (2, .var [.slice a C.length c, x1, x2, x3]), (5, .val (accI (O.length + G.length) A))], ⟨O ++ (G ++ accIR A), b, w⟩⟩ (k := ⟨k⟩) =
    k (.exit 0) ⟨[(5, .val (accI (O.length + G'.length) (A ++ lineX C j z)))], ⟨O ++ (G' ++ accIR (A ++ lineX C j z)), b, w'⟩⟩
  | 0, z, A, G, w, hj, hw => by
    refine ⟨G, w, hw, fun k => ?_⟩
    rw [xK_loop, show lineX C 0 z = [] from rfl, List.append_nil]
    have hA : (C.length : Int) ≤ A.length := by omega
    by_cases c1 : 0 ≤ z
    · by_cases c2 : z < C.length
      · by_cases hA0 : A = []
        · subst hA0
          have hC : C.length = 0 := by simpa using hj.symm
          rw [hC] at c2; simp only [Int.cast_ofNat_Int] at c2; omega
        · simp only [accI, hA0, if_false]
          generalize accIR A = R
          simp (disch := omega) [-getElem?_pos, -getElem?_neg, -List.all_eq_true, List.getElem?_cons_zero, List.getElem?_cons_succ, nltT, nltF, iltT, iltF, ileT, nleT, wrapI, code122L0, c1, c2, hA]
      · generalize accI (O.length + G.length) A = v
        simp (disch := omega) [-getElem?_pos, -getElem?_neg, -List.all_eq_true, List.getElem?_cons_zero, List.getElem?_cons_succ, nltT, nltF, iltT, iltF, ileT, nleT, wrapI, code122L0, c1, c2]
    · generalize accI (O.length + G.length) A = v
      simp (disch := omega) [-getElem?_pos, -getElem?_neg, -List.all_eq_true, List.getElem?_cons_zero, List.getElem?_cons_succ, nltT, nltF, iltT, iltF, ileT, nleT, wrapI, code122L0, c1]
  | j + 1, z, A, G, w, hj, hw => by
    rcases atI_cases C z with ⟨h1, h2⟩ | ⟨q, u, rfl, h1, h2, h3⟩
    · refine ⟨G, w, hw, fun k => ?_⟩
      rw [xK_loop, show lineX C (j + 1) z = [] by simp only [lineX, h1], List.append_nil]
      generalize accI (O.length + G.length) A = v
      rcases h2 with h2 | ⟨h2, h4⟩
      · have c1 : ¬ 0 ≤ z := by omega
        simp (disch := omega) [-getElem?_pos, -getElem?_neg, -List.all_eq_true, List.getElem?_cons_zero, List.getElem?_cons_succ, nltT, nltF, iltT, iltF, ileT, nleT, wrapI, code122L0, c1]
      · have c1 : 0 ≤ z := by omega
        have c2 : ¬ z < C.length := by omega
        simp (disch := omega) [-getElem?_pos, -getElem?_neg, -List.all_eq_true, List.getElem?_cons_zero, List.getElem?_cons_succ, nltT, nltF, iltT, iltF, ileT, nleT, wrapI, code122L0, c1, c2]
    · have hlA : (A.length : Int) < C.length := by omega
      have c1 : (0 : Int) ≤ q := by omega
      have c2 : (q : Int) < C.length := by omega
      obtain ⟨p, o, cs, rfl, hpp, hpl, hcs, ht⟩ := row_at hR h2
      have huc : u.cells = [.str u.name, .int .i64 u.super, .int .i64 u.cells', .slice u.ra u.refs.length u.rc, .slice u.ta u.table.length u.tc] := rfl
      rw [huc] at ht
      have ht1 := take_get (k := 1) ht (by decide)
      simp only [List.getElem?_cons_zero, List.getElem?_cons_succ, Nat.add_assoc] at ht1
      have hpX : ∀ X, (O ++ X)[p]? = some (.cells 5 cs) := fun X => by rw [List.getElem?_append_left hpl]; exact hpp
      have hb1 : b ≤ O.length + G.length := by omega
      have hLe : lineX C (j + 1) (q : Int) = (q : Int) :: lineX C j u.super := by simp only [lineX, h3]
      by_cases hA : A = []
      · subst hA
        obtain ⟨G', w', r1, ih⟩ := l122 (c := c) (x1 := x1) (x2 := x2) (x3 := x3) hR hl hb j u.super [(q : Int)] (G ++ [.cells 1 [.int .i64 q]]) w (by simp only [List.length_singleton, List.length_nil] at hj ⊢; omega) hw
        refine ⟨G', w', r1, fun k => ?_⟩
        have ih := ih k
        rw [hLe]
        have e : [(q : Int)] ++ lineX C j u.super = [] ++ (q : Int) :: lineX C j u.super := rfl
        rw [e] at ih
        rw [xK_loop, ← ih]
        generalize ACode.loop code122L0 = L
        simp only [accI, accIR, if_true, List.append_nil, List.cons_ne_self, if_false, List.length_singleton, List.length_append, List.append_assoc, List.map_cons, List.map_nil, reduceCtorEq]
        simp only [List.length_nil, Int.cast_ofNat_Int] at hlA
        have hpX2 := fun X => hpX (G ++ X)
        simp (disch := omega) [-getElem?_pos, -getElem?_neg, -List.all_eq_true, List.getElem?_cons_zero, List.getElem?_cons_succ, nltT, nltF, iltT, iltF, ileT, nleT, wrapI, code122L0, c1, c2, hlA, hpX, hpX2, ht1, get_k, get_k0, set_k, set_k0, Nat.add_assoc]
      · have hA0 : A.length ≠ 0 := fun e => hA (List.eq_nil_of_length_eq_zero e)
        obtain ⟨G', w', r1, ih⟩ := l122 (c := c) (x1 := x1) (x2 := x2) (x3 := x3) hR hl hb j u.super (A ++ [(q : Int)]) (G ++ [.dead, .cells 1 [.int .i64 q]]) (min w (O.length + G.length)) (by simp only [List.length_append, List.length_singleton]; omega) (by omega)
        refine ⟨G', w', r1, fun k => ?_⟩
        have ih := ih k
        rw [hLe]
        have e : A ++ [(q : Int)] ++ lineX C j u.super = A ++ (q : Int) :: lineX C j u.super := by rw [List.append_assoc]; rfl
        rw [e] at ih
        have hC : (A.map (AVal.int .i64)).length = A.length := List.length_map _
        have hT : (A.map (AVal.int .i64)).take A.length = A.map (AVal.int .i64) := List.take_of_length_le (by omega)
        have hA2 : A ++ [(q : Int)] ≠ [] := by simp
        have z1 : (A.length + 1) * 8 ≤ 140737488355328 := by omega
        have z2 : A.length ≤ 9223372036854775806 := by omega
        rw [xK_loop, ← ih]
        generalize ACode.loop code122L0 = L
        simp only [accI, accIR, hA, hA2, if_false, List.length_singleton, List.length_append, List.append_assoc, List.map_append, List.map_cons, List.map_nil, List.append_nil, List.cons_append, List.nil_append, List.length_cons, List.length_nil]
        generalize A.map (AVal.int .i64) = R at hC hT ⊢
        simp (disch := omega) [-getElem?_pos, -getElem?_neg, -List.all_eq_true, List.getElem?_cons_zero, List.getElem?_cons_succ, nltT, nltF, iltT, iltF, ileT, nleT, wrapI, code122L0, c1, c2, hlA, hpX, ht1, hC, hT, hA0, hb1, z1, z2, get_k, get_k0, set_k, set_k0, Nat.add_assoc]

theorem idsL_int : ∀ A : List Int, AVal.idsL (A.map (AVal.int .i64)) = []
  | [] => rfl
  | a :: A => by simp only [List.map_cons, AVal.idsL, AVal.ids, List.nil_append, idsL_int A]
theorem renL_int (f : Nat → Nat) : ∀ A : List Int, AVal.renL f (A.map (AVal.int .i64)) = A.map (AVal.int .i64)
  | [] => rfl
  | a :: A => by simp only [List.map_cons, AVal.renL, AVal.ren, renL_int f A]

theorem rowI_fin {G : List AObj} {A : List Int} {w0 w2 n : Nat} {c : Option Nat} (hw : O.length ≤ w2) :
    finish ⟨O, b, w0⟩ (.slice (some (O.length + G.length, 0)) n c) ⟨O ++ (G ++ [.cells 1 (A.map (AVal.int .i64))]), b, w2⟩ = (.slice (some (O.length, 0)) n c, ⟨O ++ [.cells 1 (A.map (AVal.int .i64))], b, w0⟩) := by
  have hg : (O ++ (G ++ [AObj.cells 1 (A.map (AVal.int .i64))]))[O.length + G.length]? = some (.cells 1 (A.map (AVal.int .i64))) := by rw [get_k, get_k0]; rfl
  have hr : reach ⟨O ++ (G ++ [AObj.cells 1 (A.map (AVal.int .i64))]), b, w2⟩ O.length 1000 [O.length + G.length] [] = [O.length + G.length] := by
    rw [reach_step, if_neg (by omega), if_neg (by simp)]
    simp only [Heap.get, hg, Option.map_some, Option.getD_some, idsC, List.append_nil, List.nil_append]
    exact reach_low _ _ (by rw [idsL_int]; decide) (by rw [idsL_int]; simp)
  have hv : AVal.under O.length (.slice (some (O.length + G.length, 0)) n c) = false := by simp [AVal.under]
  have hw2 : (⟨O, b, w0⟩ : Heap).size ≤ (⟨O ++ (G ++ [AObj.cells 1 (A.map (AVal.int .i64))]), b, w2⟩ : Heap).wmin := hw
  refine (finish_keep hw2 hv hr fun i hi => ?_).trans ?_
  · simp only [AVal.ids, List.flatMap_cons, List.flatMap_nil, Heap.get, hg, Option.map_some, Option.getD_some, idsC, List.append_nil, List.cons_append, List.nil_append, List.mem_cons, idsL_int] at hi
    rcases hi with rfl | hi
    · exact .inr (List.mem_singleton_self _)
    · cases hi
  · have hfv : (fun i => if i < O.length then i else O.length + idxIn i [O.length + G.length]) (O.length + G.length) = O.length := by
      show (if O.length + G.length < O.length then _ else _) = _
      rw [if_neg (by omega)]; simp [idxIn]
    have key : ∀ f : Nat → Nat, f (O.length + G.length) = O.length →
        ((AVal.slice (some (O.length + G.length, 0)) n c).ren f, (⟨O ++ [O.length + G.length].map fun i => (((⟨O ++ (G ++ [AObj.cells 1 (A.map (AVal.int .i64))]), b, w2⟩ : Heap).get i).map (AObj.ren f)).getD .dead, b, w0⟩ : Heap)) =
          (.slice (some (O.length, 0)) n c, ⟨O ++ [.cells 1 (A.map (AVal.int .i64))], b, w0⟩) := by
      intro f h1
      simp only [AVal.ren, Heap.get, hg, Option.map_some, Option.getD_some, List.map_cons, List.map_nil, renC, h1, renL_int]
    exact key _ hfv

theorem s122 {x : LayU} {z : Int} (hx : x.ok O) (hl : x.cs.length ≤ 600) (hb : b ≤ O.length) : xCall T 122 [.agg x.cells, .int .i64 z] ⟨O, b, w⟩ = some (accI O.length (lineX x.cs x.cs.length z), ⟨O ++ accIR (lineX x.cs x.cs.length z), b, w⟩) := by
  have hcu : x.cells = [.slice x.ca x.cs.length x.cc, .slice x.ma x.ms.length x.mc, .int .i64 x.stat, .slice x.ra x.refs.length x.rc] := rfl
  obtain ⟨G', w', r1, hk⟩ := l122 (b := b) (c := x.cc) (x1 := .slice x.ma x.ms.length x.mc) (x2 := .int .i64 x.stat) (x3 := .slice x.ra x.refs.length x.rc) hx.c hl hb x.cs.length z [] [] O.length (by simp) (Nat.le_refl _)
  simp only [List.nil_append, List.append_nil, List.length_nil, Nat.add_zero, accI, accIR, if_true] at hk
  unfold accI accIR
  generalize lineX x.cs x.cs.length z = L at *
  by_cases hL : L = []
  · subst hL
    simp only [if_true, List.append_nil] at hk ⊢
    simp (disch := omega) [-getElem?_pos, -getElem?_neg, -List.all_eq_true, List.getElem?_cons_zero, List.getElem?_cons_succ, nltT, nltF, iltT, iltF, ileT, nleT, wrapI, xCallK t122, code122, hcu, hk]
  · simp only [hL, if_false] at hk ⊢
    have hf := fun w0 => rowI_fin (O := O) (b := b) (G := G') (A := L) (w0 := w0) (n := L.length) (c := none) r1
    simp (disch := omega) [-getElem?_pos, -getElem?_neg, -List.all_eq_true, List.getElem?_cons_zero, List.getElem?_cons_succ, nltT, nltF, iltT, iltF, ileT, nleT, wrapI, -finish, xCallK t122, code122, hcu, hk, hf]

end Go.Abs.AbsSlot

/-
  Layer 24, the reference: classes that are others, methods.
-/
namespace Go.Abs.AbsSlot
open Go.Abs.AbsDesc Go.Abs.AbsHier
set_option maxRecDepth 100000
set_option linter.unusedSimpArgs false
variable {os O H : List AObj} {b w : Nat}

theorem intC_flat : ∀ A : List Int, A.flatMap intC = A.map (AVal.int .i64)
  | [] => rfl
  | a :: A => by rw [List.flatMap_cons, List.map_cons, intC_flat A]; rfl

/-- Where a row of ints lies, behind what was there. -/
def rowAt (n : Nat) (A : List Int) : Option (Nat × Nat) := if A = [] then none else some (n, 0)
theorem accI_eq (n : Nat) (A : List Int) : ∃ c, accI n A = .slice (rowAt n A) A.length c := by
  unfold accI rowAt
  by_cases h : A = []
  · subst h; exact ⟨_, rfl⟩
  · exact ⟨none, by rw [if_neg h, if_neg h]⟩
theorem accI_row (A : List Int) (X : List AObj) : Row (O ++ accIR A ++ X) 1 intC A (rowAt O.length A) := by
  unfold rowAt accIR
  by_cases h : A = []
  · subst h; exact ⟨fun h => absurd rfl h⟩
  · rw [if_neg h, if_neg h]
    refine Row.mk0 (fun _ => rfl) ?_
    rw [List.append_assoc, get_k0, intC_flat]; rfl

theorem int_at {A : List Int} {a : Option (Nat × Nat)} {i : Nat} {v : Int} (hR : Row H 1 intC A a) (hv : A[i]? = some v) : ∃ p o cs, a = some (p, o) ∧ H[p]? = some (.cells 1 cs) ∧ o + i + 1 ≤ cs.length ∧ cs[o + i]? = some (.int .i64 v) := by
  obtain ⟨p2, o2, cs2, ha2, hpp2, hpl2, hcs2, ht2⟩ := row_at hR hv
  have hcv := take_get (k := 0) ht2 (by decide)
  rw [show intC v = [.int .i64 v] from rfl] at hcv
  simp only [List.getElem?_cons_zero, Nat.add_zero, Nat.mul_one] at hcv
  exact ⟨p2, o2, cs2, ha2, hpp2, by simpa using hcs2, hcv⟩

theorem drop_at {α : Type} {A : List α} {i : Nat} {v : α} (hv : A[i]? = some v) : A.drop i = v :: A.drop (i + 1) := by
  obtain ⟨h1, h2⟩ := List.getElem?_eq_some_iff.1 hv
  rw [List.drop_eq_getElem_cons h1, h2]

theorem l62 {A : List Int} {a : Option (Nat × Nat)} {c : Option Nat} {y : Int} (hR : Row H 1 intC A a) (hl : A.length ≤ big) : ∀ (j i : Nat) (w : Nat), i + j = A.length → ∀ (k : AExit → St → Option (AVal × Heap)),
    xK T (.loop code62L0) ⟨[(2, .val (.int .i64 y)), (11, .val (.slice a A.length c)), (12, .val (.int .i64 A.length)), (13, .val (.int .i64 i))], ⟨H, b, w⟩⟩ (k := ⟨k⟩) =
    if (A.drop i).any (fun x => decide (x = y)) then k .ret ⟨[(6, .val (.bool true))], ⟨H, b, w⟩⟩ else k (.exit 0) ⟨[], ⟨H, b, w⟩⟩
  | 0, i, w, hi, k => by
    rw [xK_loop, List.drop_of_length_le (by omega)]
    simp (disch := omega) [-getElem?_pos, -getElem?_neg, -List.all_eq_true, List.getElem?_cons_zero, List.getElem?_cons_succ, nltT, nltF, iltT, iltF, ileT, nleT, wrapI, code62L0]
  | j + 1, i, w, hi, k => by
    have hl' : A.length ≤ 9223372036854775807 := hl
    obtain ⟨v, hv⟩ : ∃ v, A[i]? = some v := ⟨_, List.getElem?_eq_getElem (by omega)⟩
    obtain ⟨p, o, cs, rfl, hpp, hcs, ht⟩ := int_at hR hv
    have ih := l62 (c := c) (y := y) hR hl j (i + 1) w (by omega) k
    have e2 : ((i + 1 : Nat) : Int) = (i : Int) + 1 := by omega
    rw [e2] at ih
    rw [xK_loop, drop_at hv]
    simp only [List.any_cons]
    generalize ACode.loop code62L0 = L at ih ⊢
    by_cases e : v = y
    · simp (disch := omega) [-getElem?_pos, -getElem?_neg, -List.all_eq_true, List.getElem?_cons_zero, List.getElem?_cons_succ, nltT, nltF, iltT, iltF, ileT, nleT, wrapI, code62L0, hpp, ht, e]
    · simp (disch := omega) [-getElem?_pos, -getElem?_neg, -List.all_eq_true, List.getElem?_cons_zero, List.getElem?_cons_succ, nltT, nltF, iltT, iltF, ileT, nleT, wrapI, -List.any_eq_true, code62L0, hpp, ht, e, ih]

theorem lineX_len (C : List LClsU) : ∀ (j : Nat) (z : Int), (lineX C j z).length ≤ j
  | 0, _ => Nat.le_refl _
  | j + 1, z => by
    simp only [lineX]
    cases atI C z with
    | none => simp
    | some u => have := lineX_len C j u.super; simp only [List.length_cons]; omega

theorem s62 {x : LayU} {z y : Int} (hx : x.ok O) (hl : x.cs.length ≤ 600) (hb : b ≤ O.length) : xCall T 62 [.agg x.cells, .int .i64 z, .int .i64 y] ⟨O, b, w⟩ = some (.bool ((lineX x.cs x.cs.length z).any fun c => decide (c = y)), ⟨O, b, w⟩) := by
  have hcu : x.cells = [.slice x.ca x.cs.length x.cc, .slice x.ma x.ms.length x.mc, .int .i64 x.stat, .slice x.ra x.refs.length x.rc] := rfl
  have h122 := fun w => s122 (b := b) (w := w) (z := z) hx hl hb
  obtain ⟨c, hc⟩ := accI_eq O.length (lineX x.cs x.cs.length z)
  have hR := accI_row (O := O) (lineX x.cs x.cs.length z) []
  have hlen : (lineX x.cs x.cs.length z).length ≤ x.cs.length := by
    exact lineX_len _ _ _
  rw [List.append_nil] at hR
  rw [hc] at h122
  have h1 := fun w => l62 (b := b) (c := c) (y := y) hR (by show _ ≤ 9223372036854775807; omega) (lineX x.cs x.cs.length z).length 0 w (by omega)
  simp only [Int.cast_ofNat_Int, List.drop_zero] at h1
  rw [hcu] at h122
  have hll : (lineX x.cs x.cs.length z).length ≤ 9223372036854775807 := by omega
  generalize lineX x.cs x.cs.length z = L at *
  generalize O ++ accIR L = O2 at *
  generalize L.any (fun x => decide (x = y)) = r at *
  cases r with
  | true => simp (disch := omega) [-getElem?_pos, -getElem?_neg, -List.all_eq_true, List.getElem?_cons_zero, List.getElem?_cons_succ, nltT, nltF, iltT, iltF, ileT, nleT, wrapI, xCallK t62, code62, hcu, h122, h1]
  | false => simp (disch := omega) [-getElem?_pos, -getElem?_neg, -List.all_eq_true, List.getElem?_cons_zero, List.getElem?_cons_succ, nltT, nltF, iltT, iltF, ileT, nleT, wrapI, xCallK t62, code62, hcu, h122, h1]

theorem l65m {M : List LMethU} {a : Option (Nat × Nat)} {x0 x2 x3 : AVal} {mc : Option Nat} {n d : Str} {z : Int} {v26 v27 v28 : AVal} (hR : Row H 6 LMethU.cells M a) (hl : M.length ≤ big) : ∀ (j i : Nat) (w : Nat), i + j = M.length → ∀ (k : AExit → St → Option (AVal × Heap)),
    xK T (.loop code65L0) ⟨[(2, .val (.str n)), (3, .val (.str d)), (4, .var [x0, .slice a M.length mc, x2, x3]), (13, .val (.int .i64 z)), (26, .val v26), (27, .val v27), (28, .val v28), (33, .val (.slice a M.length mc)), (34, .val (.int .i64 M.length)), (35, .val (.int .i64 i))], ⟨H, b, w⟩⟩ (k := ⟨k⟩) =
    match mtI (M.drop i) z n d with
    | some q => k .ret ⟨[(8, .val (.int .i64 ((i + q : Nat) : Int))), (9, .val (.bool true))], ⟨H, b, w⟩⟩
    | none => k (.exit 2) ⟨[(2, .val (.str n)), (3, .val (.str d)), (4, .var [x0, .slice a M.length mc, x2, x3]), (26, .val v26), (27, .val v27), (28, .val v28)], ⟨H, b, w⟩⟩
  | 0, i, w, hi, k => by
    rw [xK_loop, List.drop_of_length_le (by omega)]
    simp (disch := omega) [-getElem?_pos, -getElem?_neg, -List.all_eq_true, List.getElem?_cons_zero, List.getElem?_cons_succ, nltT, nltF, iltT, iltF, ileT, nleT, wrapI, code65L0, mtI]
  | j + 1, i, w, hi, k => by
    have hl' : M.length ≤ 9223372036854775807 := hl
    obtain ⟨u, hu⟩ : ∃ u, M[i]? = some u := ⟨_, List.getElem?_eq_getElem (by omega)⟩
    obtain ⟨p, o, cs, rfl, hpp, hpl, hcs, ht⟩ := row_at hR hu
    have ih := l65m (mc := mc) (x0 := x0) (x2 := x2) (x3 := x3) (n := n) (d := d) (z := z) (v26 := v26) (v27 := v27) (v28 := v28) hR hl j (i + 1) w (by omega) k
    have e2 : ((i + 1 : Nat) : Int) = (i : Int) + 1 := by omega
    rw [e2] at ih
    have hcu : u.cells = [.int .i64 u.cls, .str u.name, .str u.desc, .bool u.st, .int .i64 u.slot, .int .i64 u.native] := rfl
    rw [hcu] at ht
    rw [xK_loop, drop_at hu]
    unfold mtI at ih ⊢
    rw [List.findIdx?_cons]
    by_cases c1 : u.cls = z
    · by_cases c2 : u.name = n
      · by_cases c3 : u.desc = d
        · have hd1 : (decide (u.cls = z) && decide (u.name = n) && decide (u.desc = d)) = true := by simp [c1, c2, c3]
          simp only [hd1, if_true, Nat.add_zero]
          generalize ACode.loop code65L0 = L
          simp (disch := omega) [-getElem?_pos, -getElem?_neg, -List.all_eq_true, List.getElem?_cons_zero, List.getElem?_cons_succ, nltT, nltF, iltT, iltF, ileT, nleT, wrapI, code65L0, hpp, ht, c1, c2, c3]
        · have hd1 : (decide (u.cls = z) && decide (u.name = n) && decide (u.desc = d)) = false := by simp [c3]
          simp only [hd1]
          generalize ACode.loop code65L0 = L at ih ⊢
          simp (disch := omega) [-getElem?_pos, -getElem?_neg, -List.all_eq_true, List.getElem?_cons_zero, List.getElem?_cons_succ, nltT, nltF, iltT, iltF, ileT, nleT, wrapI, code65L0, hpp, ht, c1, c2, c3, ih]
          cases List.findIdx? _ _ with
          | none => rfl
          | some q =>
            simp only [Option.map_some, Bool.false_eq_true, if_false]
            rw [show (i : Int) + 1 + (q : Int) = (i : Int) + ((q + 1 : Nat) : Int) by omega]
      · have hd1 : (decide (u.cls = z) && decide (u.name = n) && decide (u.desc = d)) = false := by simp [c2]
        simp only [hd1]
        generalize ACode.loop code65L0 = L at ih ⊢
        simp (disch := omega) [-getElem?_pos, -getElem?_neg, -List.all_eq_true, List.getElem?_cons_zero, List.getElem?_cons_succ, nltT, nltF, iltT, iltF, ileT, nleT, wrapI, code65L0, hpp, ht, c1, c2, ih]
        cases List.findIdx? _ _ with
        | none => rfl
        | some q =>
          simp only [Option.map_some, Bool.false_eq_true, if_false]
          rw [show (i : Int) + 1 + (q : Int) = (i : Int) + ((q + 1 : Nat) : Int) by omega]
    · have hd1 : (decide (u.cls = z) && decide (u.name = n) && decide (u.desc = d)) = false := by simp [c1]
      simp only [hd1]
      generalize ACode.loop code65L0 = L at ih ⊢
      simp (disch := omega) [-getElem?_pos, -getElem?_neg, -List.all_eq_true, List.getElem?_cons_zero, List.getElem?_cons_succ, nltT, nltF, iltT, iltF, ileT, nleT, wrapI, code65L0, hpp, ht, c1, ih]
      cases List.findIdx? _ _ with
      | none => rfl
      | some q =>
        simp only [Option.map_some, Bool.false_eq_true, if_false]
        rw [show (i : Int) + 1 + (q : Int) = (i : Int) + ((q + 1 : Nat) : Int) by omega]

theorem l65 {M : List LMethU} {ma : Option (Nat × Nat)} {x0 x2 x3 : AVal} {mc : Option Nat} {n d : Str} {A : List Int} {a : Option (Nat × Nat)} {c : Option Nat} (hM : Row H 6 LMethU.cells M ma) (hMl : M.length ≤ big) (hR : Row H 1 intC A a) (hl : A.length ≤ big) : ∀ (j i : Nat) (w : Nat), i + j = A.length → ∀ (k : AExit → St → Option (AVal × Heap)),
    xK T (.loop code65L1) ⟨[(2, .val (.str n)), (3, .val (.str d)), (4, .var [x0, .slice ma M.length mc, x2, x3]), (26, .val (.slice a A.length c)), (27, .val (.int .i64 A.length)), (28, .val (.int .i64 i))], ⟨H, b, w⟩⟩ (k := ⟨k⟩) =
    match (A.drop i).findSome? fun z => mtI M z n d with
    | some q => k .ret ⟨[(8, .val (.int .i64 (q : Nat))), (9, .val (.bool true))], ⟨H, b, w⟩⟩
    | none => k (.exit 0) ⟨[], ⟨H, b, w⟩⟩
  | 0, i, w, hi, k => by
    rw [xK_loop, List.drop_of_length_le (by omega)]
    simp (disch := omega) [-getElem?_pos, -getElem?_neg, -List.all_eq_true, List.getElem?_cons_zero, List.getElem?_cons_succ, nltT, nltF, iltT, iltF, ileT, nleT, wrapI, code65L1]
  | j + 1, i, w, hi, k => by
    have hl' : A.length ≤ 9223372036854775807 := hl
    have hMl' : M.length ≤ 9223372036854775807 := hMl
    obtain ⟨v, hv⟩ : ∃ v, A[i]? = some v := ⟨_, List.getElem?_eq_getElem (by omega)⟩
    obtain ⟨p, o, cs, rfl, hpp, hcs, ht⟩ := int_at hR hv
    have ih := l65 (mc := mc) (x0 := x0) (x2 := x2) (x3 := x3) (n := n) (d := d) (c := c) hM hMl hR hl j (i + 1) w (by omega) k
    have e2 : ((i + 1 : Nat) : Int) = (i : Int) + 1 := by omega
    rw [e2] at ih
    have hm := fun v26 v27 v28 w k => l65m (b := b) (mc := mc) (x0 := x0) (x2 := x2) (x3 := x3) (n := n) (d := d) (z := v) (v26 := v26) (v27 := v27) (v28 := v28) hM hMl M.length 0 w (by omega) k
    simp only [Int.cast_ofNat_Int, List.drop_zero, Nat.zero_add] at hm
    rw [xK_loop, drop_at hv, List.findSome?_cons]
    generalize mtI M v n d = r at hm ⊢
    generalize ACode.loop code65L1 = L at ih ⊢
    cases r with
    | some q => simp (disch := omega) [-getElem?_pos, -getElem?_neg, -List.all_eq_true, List.getElem?_cons_zero, List.getElem?_cons_succ, nltT, nltF, iltT, iltF, ileT, nleT, wrapI, code65L1, hpp, ht, hm]
    | none => simp (disch := omega) [-getElem?_pos, -getElem?_neg, -List.all_eq_true, List.getElem?_cons_zero, List.getElem?_cons_succ, nltT, nltF, iltT, iltF, ileT, nleT, wrapI, code65L1, hpp, ht, hm, ih]

theorem s65 {x : LayU} {cl n d : Str} (hx : x.ok O) (hl : x.cs.length ≤ 600) (hb : b ≤ O.length) : xCall T 65 [.agg x.cells, .str cl, .str n, .str d] ⟨O, b, w⟩ =
    some (idxV ((clsI x.cs cl).bind fun k => methI x (lineX x.cs x.cs.length k) n d), ⟨O, b, w⟩) := by
  have hcu : x.cells = [.slice x.ca x.cs.length x.cc, .slice x.ma x.ms.length x.mc, .int .i64 x.stat, .slice x.ra x.refs.length x.rc] := rfl
  have h67 := fun w => s67 (b := b) (w := w) (n := cl) hx
  rw [hcu] at h67
  cases hq : clsI x.cs cl with
  | none =>
    rw [hq] at h67
    simp only [idxV] at h67
    simp (disch := omega) [-getElem?_pos, -getElem?_neg, -List.all_eq_true, List.getElem?_cons_zero, List.getElem?_cons_succ, nltT, nltF, iltT, iltF, ileT, nleT, wrapI, xCallK t65, code65, hcu, h67, idxV]
  | some z =>
    rw [hq] at h67
    simp only [idxV, Option.getD_some, Option.isSome_some] at h67
    have h122 := fun w => s122 (b := b) (w := w) (z := z) hx hl hb
    rw [hcu] at h122
    obtain ⟨c, hc⟩ := accI_eq O.length (lineX x.cs x.cs.length z)
    have hR := accI_row (O := O) (lineX x.cs x.cs.length z) []
    have hlen := lineX_len x.cs x.cs.length z
    rw [List.append_nil] at hR
    rw [hc] at h122
    have hll : (lineX x.cs x.cs.length z).length ≤ 9223372036854775807 := by omega
    have hM : Row (O ++ accIR (lineX x.cs x.cs.length z)) 6 LMethU.cells x.ms x.ma := (Pre.app O _).row hx.m
    simp only [Option.bind_some]
    unfold methI
    generalize lineX x.cs x.cs.length z = L at *
    have h1 := fun w => l65 (b := b) (c := c) (mc := x.mc) (x0 := .slice x.ca x.cs.length x.cc) (x2 := .int .i64 x.stat) (x3 := .slice x.ra x.refs.length x.rc) (n := n) (d := d) hM (big_of hx.mn) hR hll L.length 0 w (by omega)
    simp only [Int.cast_ofNat_Int, List.drop_zero] at h1
    have hl2 : O.length ≤ (O ++ accIR L).length := by simp
    generalize O ++ accIR L = O2 at *
    generalize L.findSome? (fun z => mtI x.ms z n d) = r at *
    cases r with
    | some q => simp (disch := omega) [-getElem?_pos, -getElem?_neg, -List.all_eq_true, List.getElem?_cons_zero, List.getElem?_cons_succ, nltT, nltF, iltT, iltF, ileT, nleT, wrapI, xCallK t65, code65, hcu, h67, h122, h1, idxV]
    | none => simp (disch := omega) [-getElem?_pos, -getElem?_neg, -List.all_eq_true, List.getElem?_cons_zero, List.getElem?_cons_succ, nltT, nltF, iltT, iltF, ileT, nleT, wrapI, xCallK t65, code65, hcu, h67, h122, h1, idxV]

end Go.Abs.AbsSlot

/-
  Layer 24: layouts that are not too great.
-/
namespace Go.Abs.AbsSlot
open Go.Abs.AbsDesc Go.Abs.AbsHier
set_option maxRecDepth 100000
set_option linter.unusedSimpArgs false
variable {os O H : List AObj} {b w : Nat}

theorem l69m {M : List LMethU} {a : Option (Nat × Nat)} {c : Option Nat} (hR : Row H 6 LMethU.cells M a) (hl : M.length ≤ big) (hok : ∀ m ∈ M, m.ok) : ∀ (j i : Nat) (r : Int) (w : Nat), i + j = M.length →
    ∃ r', ∀ (k : AExit → St → Option (AVal × Heap)),
    xK T (.loop code69L0) ⟨[(3, .val (.int .i64 r)), (45, .val (.slice a M.length c)), (46, .val (.int .i64 M.length)), (47, .val (.int .i64 i))], ⟨H, b, w⟩⟩ (k := ⟨k⟩) =
      k (.exit 2) ⟨[(3, .val (.int .i64 r'))], ⟨H, b, w⟩⟩
  | 0, i, r, w, hi => by
    refine ⟨r, fun k => ?_⟩
    rw [xK_loop]
    simp (disch := omega) [-getElem?_pos, -getElem?_neg, -List.all_eq_true, List.getElem?_cons_zero, List.getElem?_cons_succ, nltT, nltF, iltT, iltF, ileT, nleT, wrapI, code69L0]
  | j + 1, i, r, w, hi => by
    have hl' : M.length ≤ 9223372036854775807 := hl
    obtain ⟨u, hu⟩ : ∃ u, M[i]? = some u := ⟨_, List.getElem?_eq_getElem (by omega)⟩
    obtain ⟨p, o, cs, rfl, hpp, hpl, hcs, ht⟩ := row_at hR hu
    have huo := hok u (List.mem_of_getElem? hu)
    have hn1 : u.name.length ≤ 9223372036854775807 := big_of huo.name
    have hn2 : u.desc.length ≤ 9223372036854775807 := big_of huo.desc
    obtain ⟨r', ih⟩ := l69m (c := c) hR hl hok j (i + 1) (IntKind.i64.wrap (IntKind.i64.wrap (r - (u.name.length : Int) / 50) - (u.desc.length : Int) / 50)) w (by omega)
    refine ⟨r', fun k => ?_⟩
    have ih := ih k
    have e2 : ((i + 1 : Nat) : Int) = (i : Int) + 1 := by omega
    rw [e2] at ih
    have hcu : u.cells = [.int .i64 u.cls, .str u.name, .str u.desc, .bool u.st, .int .i64 u.slot, .int .i64 u.native] := rfl
    rw [hcu] at ht
    rw [xK_loop]
    generalize ACode.loop code69L0 = L at ih ⊢
    simp (disch := omega) [-getElem?_pos, -getElem?_neg, -List.all_eq_true, List.getElem?_cons_zero, List.getElem?_cons_succ, nltT, nltF, iltT, iltF, ileT, nleT, wrapI, code69L0, hpp, ht, ih]

theorem l69c {C : List LClsU} {a : Option (Nat × Nat)} {c : Option Nat} {v : List AVal} (hR : Row H 5 LClsU.cells C a) (hl : C.length ≤ big) (hok : ∀ x ∈ C, x.ok H) : ∀ (j i : Nat) (r : Int) (w : Nat), i + j = C.length →
    ∃ e s', (e = .ret ∧ s' = [(2, .val (.bool false))] ∨ (e = .exit 0 ∧ (r < 0 → j = 0) ∧ ∃ r', s' = [(1, .var v), (3, .val (.int .i64 r'))])) ∧ ∀ (k : AExit → St → Option (AVal × Heap)),
    xK T (.loop code69L1) ⟨[(1, .var v), (3, .val (.int .i64 r)), (21, .val (.slice a C.length c)), (22, .val (.int .i64 C.length)), (23, .val (.int .i64 i))], ⟨H, b, w⟩⟩ (k := ⟨k⟩) =
      k e ⟨s', ⟨H, b, w⟩⟩
  | 0, i, r, w, hi => by
    refine ⟨.exit 0, _, .inr ⟨rfl, fun _ => rfl, r, rfl⟩, fun k => ?_⟩
    rw [xK_loop]
    simp (disch := omega) [-getElem?_pos, -getElem?_neg, -List.all_eq_true, List.getElem?_cons_zero, List.getElem?_cons_succ, nltT, nltF, iltT, iltF, ileT, nleT, wrapI, code69L1]
  | j + 1, i, r, w, hi => by
    have hl' : C.length ≤ 9223372036854775807 := hl
    obtain ⟨u, hu⟩ : ∃ u, C[i]? = some u := ⟨_, List.getElem?_eq_getElem (by omega)⟩
    obtain ⟨p, o, cs, rfl, hpp, hpl, hcs, ht⟩ := row_at hR hu
    have huo := hok u (List.mem_of_getElem? hu)
    have hn1 : u.name.length ≤ 9223372036854775807 := big_of huo.name
    have hn2 : u.refs.length ≤ 9223372036854775807 := big_of huo.rn
    have hn3 : u.table.length ≤ 9223372036854775807 := big_of huo.tn
    have hcu : u.cells = [.str u.name, .int .i64 u.super, .int .i64 u.cells', .slice u.ra u.refs.length u.rc, .slice u.ta u.table.length u.tc] := rfl
    rw [hcu] at ht
    by_cases hr : r < 0
    · refine ⟨.ret, _, .inl ⟨rfl, rfl⟩, fun k => ?_⟩
      rw [xK_loop]
      generalize ACode.loop code69L1 = L
      simp (disch := omega) [-getElem?_pos, -getElem?_neg, -List.all_eq_true, List.getElem?_cons_zero, List.getElem?_cons_succ, nltT, nltF, iltT, iltF, ileT, nleT, wrapI, code69L1, hpp, ht, hr]
    · obtain ⟨e, s', he, ih⟩ := l69c (c := c) (v := v) hR hl hok j (i + 1) (IntKind.i64.wrap (IntKind.i64.wrap (IntKind.i64.wrap (r - u.refs.length) - u.table.length) - (u.name.length : Int) / 50)) w (by omega)
      refine ⟨e, s', ?_, fun k => ?_⟩
      · rcases he with h | ⟨h1, _, h3⟩
        · exact .inl h
        · exact .inr ⟨h1, fun h => absurd h hr, h3⟩
      have ih := ih k
      have e2 : ((i + 1 : Nat) : Int) = (i : Int) + 1 := by omega
      rw [e2] at ih
      rw [xK_loop]
      generalize ACode.loop code69L1 = L at ih ⊢
      simp (disch := omega) [-getElem?_pos, -getElem?_neg, -List.all_eq_true, List.getElem?_cons_zero, List.getElem?_cons_succ, nltT, nltF, iltT, iltF, ileT, nleT, wrapI, code69L1, hpp, ht, hr, ih]

/-- Few -/
theorem s69 {x : LayU} (hx : x.ok O) : ∃ r, (r = true → x.cs.length ≤ 600) ∧ ∀ w, xCall T 69 [.agg x.cells] ⟨O, b, w⟩ = some (.bool r, ⟨O, b, w⟩) := by
  have hcu : x.cells = [.slice x.ca x.cs.length x.cc, .slice x.ma x.ms.length x.mc, .int .i64 x.stat, .slice x.ra x.refs.length x.rc] := rfl
  have hrb : reachB = 140737488351232 := rfl
  have h1 := hx.cn
  have h2 := hx.mn
  have h3 := hx.rn
  have w1 : IntKind.i64.wrap (600 - (x.refs.length : Int)) = 600 - (x.refs.length : Int) := wrapI (by omega)
  have w2 : IntKind.i64.wrap (600 - (x.refs.length : Int) - (x.ms.length : Int)) = 600 - (x.refs.length : Int) - (x.ms.length : Int) := wrapI (by omega)
  have w3 : IntKind.i64.wrap (600 - (x.refs.length : Int) - (x.ms.length : Int) - (x.cs.length : Int)) = 600 - (x.refs.length : Int) - (x.ms.length : Int) - (x.cs.length : Int) := wrapI (by omega)
  have k1 : x.cs.length ≤ 9223372036854775807 := big_of h1
  have k2 : x.ms.length ≤ 9223372036854775807 := big_of h2
  have k3 : x.refs.length ≤ 9223372036854775807 := big_of h3
  obtain ⟨e, s', he, hc⟩ := l69c (b := b) (c := x.cc) (v := x.cells) hx.c (big_of hx.cn) hx.cok x.cs.length 0 (600 - (x.refs.length : Int) - (x.ms.length : Int) - (x.cs.length : Int)) O.length (by omega)
  rcases he with ⟨rfl, rfl⟩ | ⟨rfl, h5, r', rfl⟩
  · refine ⟨false, (by simp), fun w => ?_⟩
    simp only [Int.cast_ofNat_Int, hcu] at hc
    simp (disch := omega) [-getElem?_pos, -getElem?_neg, -List.all_eq_true, List.getElem?_cons_zero, List.getElem?_cons_succ, nltT, nltF, iltT, iltF, ileT, nleT, wrapI, xCallK t69, code69, hcu, w1, w2, w3, hc]
  · obtain ⟨r2, hm⟩ := l69m (b := b) (c := x.mc) hx.m (big_of hx.mn) hx.mok x.ms.length 0 r' O.length (by omega)
    refine ⟨decide (0 ≤ r2), fun _ => ?_, fun w => ?_⟩
    · rcases Nat.lt_or_ge 600 x.cs.length with h7 | h7
      · have := h5 (by omega); omega
      · exact h7
    · simp only [Int.cast_ofNat_Int, hcu] at hc hm
      simp (disch := omega) [-getElem?_pos, -getElem?_neg, -List.all_eq_true, List.getElem?_cons_zero, List.getElem?_cons_succ, nltT, nltF, iltT, iltF, ileT, nleT, wrapI, xCallK t69, code69, hcu, w1, w2, w3, hc, hm]

end Go.Abs.AbsSlot

/-
  Layer 24, SlotsFind: what the law's function computes.
-/
namespace Go.Abs.AbsSlot
open Go.Abs.AbsDesc Go.Abs.AbsHier
set_option maxRecDepth 100000
set_option linter.unusedSimpArgs false
variable {os O H : List AObj} {b w : Nat}

theorem s61 {h : Heap} : xCall T 61 [] h = some (.bool true, h) :=
  closed_run (f := code61) t61 rfl 60 rfl rfl (h' := ⟨[], 0, 0⟩) (by kernel_rfl) h


theorem s70 {x : LayU} {cl n d : Str} {z y : Int} (hx : x.ok O) (hb : b ≤ O.length) (h1 : cl.length ≤ reachB) (h2 : n.length ≤ reachB) (h3 : d.length ≤ reachB) :
    xCall T 70 [.agg x.cells, .str cl, .str n, .str d, .int .i64 z, .int .i64 y] ⟨O, b, w⟩ = some (.bool true, ⟨O, b, w⟩) := by
  have hcu : x.cells = [.slice x.ca x.cs.length x.cc, .slice x.ma x.ms.length x.mc, .int .i64 x.stat, .slice x.ra x.refs.length x.rc] := rfl
  have hrb : reachB = 140737488351232 := rfl
  have h61 := fun h => s61 (h := h)
  obtain ⟨r, hr, h69⟩ := s69 (b := b) hx
  cases r with
  | false =>
    rw [hcu] at h69
    simp (disch := omega) [-getElem?_pos, -getElem?_neg, -List.all_eq_true, List.getElem?_cons_zero, List.getElem?_cons_succ, nltT, nltF, iltT, iltF, ileT, nleT, wrapI, xCallK t70, code70, hcu, h61, h69]
  | true =>
    have hl := hr rfl
    by_cases c1 : (300 : Int) < cl.length + n.length + d.length
    · rw [hcu] at h69
      simp (disch := omega) [-getElem?_pos, -getElem?_neg, -List.all_eq_true, List.getElem?_cons_zero, List.getElem?_cons_succ, nltT, nltF, iltT, iltF, ileT, nleT, wrapI, xCallK t70, code70, hcu, h61, h69, c1]
    · have h68 := fun w => s68 (b := b) (w := w) (n := cl) hx hb
      have h67 := fun w => s67 (b := b) (w := w) (n := cl) hx
      have h66 := fun w => s66 (b := b) (w := w) (cl := cl) (n := n) (d := d) hx hb
      have h65 := fun w => s65 (b := b) (w := w) (cl := cl) (n := n) (d := d) hx hl hb
      have h64 := fun w => s64 (b := b) (w := w) (z := z) (y := y) hx
      have h63 := fun w => s63 (b := b) (w := w) (z := z) (y := y) hx
      have h56 := fun w => s56 (b := b) (w := w) (z := z) (y := y) hx hb
      have h62 := fun w => s62 (b := b) (w := w) (z := z) (y := y) hx hl hb
      generalize tgtI x z y = r1 at *
      generalize ((clsI x.cs cl).bind fun k => methI x (lineX x.cs x.cs.length k) n d) = r2 at *
      generalize clsI x.cs cl = r3 at *
      generalize ((lineX x.cs x.cs.length z).any fun c => decide (c = y)) = r4 at *
      rw [hcu] at h69 h68 h67 h66 h65 h64 h63 h56 h62
      simp only [idxV, tgtV] at h68 h67 h66 h65 h64 h63
      simp (disch := omega) [-getElem?_pos, -getElem?_neg, -List.all_eq_true, List.getElem?_cons_zero, List.getElem?_cons_succ, nltT, nltF, iltT, iltF, ileT, nleT, wrapI, xCallK t70, code70, hcu, h61, h69, c1, h68, h67, h66, h65, h64, h63, h56, h62]

end Go.Abs.AbsSlot
