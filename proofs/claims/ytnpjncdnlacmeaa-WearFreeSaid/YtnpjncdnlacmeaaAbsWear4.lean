/-
  Layer 7: the law WearEven.
-/
import Derived.Test.YtnpjncdnlacmeaaAbsWear3
namespace Go.Abs.AbsWear
set_option maxRecDepth 100000
set_option linter.unusedSimpArgs false
variable {os : List AObj} {b w : Nat}

/-! ## Lists that are written -/

theorem splice_flat {α : Type} (f : α → List AVal) (e : Nat) (hf : ∀ x, (f x).length = e) : ∀ (M : List α) (j : Nat) (x x' : α) (k : Nat) (v : AVal), M[j]? = some x → k < e → f x' = splice (f x) k [v] →
    splice (M.flatMap f) (j * e + k) [v] = (M.set j x').flatMap f
  | [], j, x, x', k, v, h, _, _ => by simp at h
  | y :: M, 0, x, x', k, v, h, hk, hx => by
    simp at h; subst h
    have hl := hf y
    simp only [List.set_cons_zero, List.flatMap_cons, hx]
    simp only [splice, Nat.zero_mul, Nat.zero_add, List.length_cons, List.length_nil]
    rw [List.take_append_of_le_length (by omega), List.drop_append_of_le_length (by omega)]
    simp
  | y :: M, j + 1, x, x', k, v, h, hk, hx => by
    simp at h
    have hl := hf y
    have ih := splice_flat f e hf M j x x' k v h hk hx
    simp only [List.set_cons_succ, List.flatMap_cons]
    rw [← ih]
    simp only [splice, List.length_cons, List.length_nil]
    have e1 : (j + 1) * e + k = (f y).length + (j * e + k) := by rw [Nat.add_mul, hl]; omega
    rw [e1, List.take_append, List.drop_append, List.take_of_length_le (by omega), List.drop_of_length_le (by omega)]
    simp [Nat.add_assoc]

theorem set_end {A B C : AObj} : (os ++ [A, B]).set (os.length + 1) C = os ++ [A, C] := by
  rw [List.set_append_right _ _ (by omega)]
  simp
theorem get_end {A B : AObj} : (os ++ [A, B])[os.length + 1]? = some B := by
  rw [List.getElem?_append_right (by omega)]; simp

/-- The first i are marked dirty. -/
def marks (L : List Sec) : Nat → List Sec
  | 0 => L
  | i + 1 => match L[i]? with
    | some x => (marks L i).set i { x with st := 1 }
    | none => marks L i

theorem marks_length (L : List Sec) : ∀ i, (marks L i).length = L.length
  | 0 => rfl
  | i + 1 => by
    simp only [marks]
    split
    · rw [List.length_set]; exact marks_length L i
    · exact marks_length L i

theorem marks_get (L : List Sec) : ∀ (i j : Nat) (x : Sec), L[j]? = some x → (marks L i)[j]? = some (if j < i then { x with st := 1 } else x)
  | 0, j, x, h => by simp [marks, h]
  | i + 1, j, x, h => by
    have ih := marks_get L i j x h
    simp only [marks]
    split
    · rename_i y hy
      rw [List.getElem?_set]
      split
      · rename_i e
        subst e
        rw [hy] at h; cases h
        rw [if_pos (by rw [marks_length]; exact get_lt hy), if_pos (by omega)]
      · rw [ih]
        congr 1
        by_cases h1 : j < i
        · rw [if_pos h1, if_pos (by omega)]
        · rw [if_neg h1, if_neg (by omega)]
    · rename_i hy
      have hj := get_lt h
      rw [List.getElem?_eq_none_iff] at hy
      rw [ih, if_pos (by omega), if_pos (by omega)]

/-! ## The least and the greatest -/

theorem lowF_le (L : List Sec) : ∀ i, i ≤ L.length → ∀ j x, j < i → L[j]? = some x → lowF L i ≤ x.er
  | 0, _, j, x, h, _ => absurd h (by omega)
  | i + 1, hi, j, x, h, hx => by
    obtain ⟨y, hy⟩ : ∃ y, L[i]? = some y := ⟨_, List.getElem?_eq_getElem (by omega)⟩
    simp only [lowF, hy]
    by_cases e : j = i
    · subst e
      rw [hy] at hx; cases hx
      split <;> omega
    · have := lowF_le L i (by omega) j x (by omega) hx
      split <;> omega
theorem highF_ge (L : List Sec) : ∀ i, i ≤ L.length → ∀ j x, j < i → L[j]? = some x → x.er ≤ highF L i
  | 0, _, j, x, h, _ => absurd h (by omega)
  | i + 1, hi, j, x, h, hx => by
    obtain ⟨y, hy⟩ : ∃ y, L[i]? = some y := ⟨_, List.getElem?_eq_getElem (by omega)⟩
    simp only [highF, hy]
    by_cases e : j = i
    · subst e
      rw [hy] at hx; cases hx
      split <;> omega
    · have := highF_ge L i (by omega) j x (by omega) hx
      split <;> omega
theorem lowF_is (L : List Sec) : ∀ i, 0 < L.length → i ≤ L.length → ∃ (j : Nat) (x : Sec), L[j]? = some x ∧ x.er = lowF L i
  | 0, h, _ => by
    obtain ⟨y, hy⟩ : ∃ y, L[0]? = some y := ⟨_, List.getElem?_eq_getElem h⟩
    exact ⟨0, y, hy, by simp [lowF, hy]⟩
  | i + 1, h, hi => by
    obtain ⟨y, hy⟩ : ∃ y, L[i]? = some y := ⟨_, List.getElem?_eq_getElem (by omega)⟩
    simp only [lowF, hy]
    split
    · exact ⟨i, y, hy, rfl⟩
    · exact lowF_is L i h (by omega)
theorem highF_is (L : List Sec) : ∀ i, 0 < L.length → i ≤ L.length → ∃ (j : Nat) (x : Sec), L[j]? = some x ∧ x.er = highF L i
  | 0, h, _ => by
    obtain ⟨y, hy⟩ : ∃ y, L[0]? = some y := ⟨_, List.getElem?_eq_getElem h⟩
    exact ⟨0, y, hy, by simp [highF, hy]⟩
  | i + 1, h, hi => by
    obtain ⟨y, hy⟩ : ∃ y, L[i]? = some y := ⟨_, List.getElem?_eq_getElem (by omega)⟩
    simp only [highF, hy]
    split
    · exact ⟨i, y, hy, rfl⟩
    · exact highF_is L i h (by omega)

/-- The least one is erased once more: the spread grows to no more than 1, or stays. -/
theorem spread_next {M : List Sec} {k : Nat} {y : Sec} (hy : M[k]? = some y) (hmin : y.er = lowF M M.length) :
    spread (M.set k { y with er := y.er + 1 }) ≤ max (spread M) 1 := by
  have hk := get_lt hy
  have hpos : 0 < M.length := by omega
  have hne : M ≠ [] := List.length_pos_iff.1 hpos
  have hne2 : M.set k { y with er := y.er + 1 } ≠ [] := by
    apply List.length_pos_iff.1; rw [List.length_set]; exact hpos
  simp only [spread, if_neg hne, if_neg hne2, List.length_set]
  obtain ⟨j, x, hx, hlow⟩ := lowF_is (M.set k { y with er := y.er + 1 }) M.length (by rw [List.length_set]; exact hpos) (by rw [List.length_set]; exact Nat.le_refl _)
  obtain ⟨j', x', hx', hhigh⟩ := highF_is (M.set k { y with er := y.er + 1 }) M.length (by rw [List.length_set]; exact hpos) (by rw [List.length_set]; exact Nat.le_refl _)
  rw [← hlow, ← hhigh]
  have hmem : ∀ (j : Nat) (x : Sec), (M.set k { y with er := y.er + 1 })[j]? = some x → x.er = lowF M M.length + 1 ∨ (lowF M M.length ≤ x.er ∧ x.er ≤ highF M M.length) := fun j x hx => by
    rw [List.getElem?_set] at hx
    split at hx
    · cases hx; left; simp [hmin]
    · exact .inr ⟨lowF_le M _ (Nat.le_refl _) j x (get_lt hx) hx, highF_ge M _ (Nat.le_refl _) j x (get_lt hx) hx⟩
  have h1 := hmem j x hx
  have h2 := hmem j' x' hx'
  omega

theorem Row.all {L : List Sec} {a : Option (Nat × Nat)} (hR : Row os 3 Sec.cells L a) (hne : L ≠ []) : ∃ bb o cs, a = some (bb, o) ∧ os[bb]? = some (.cells 3 cs) ∧ o + L.length * 3 ≤ cs.length ∧ (cs.drop o).take (L.length * 3) = L.flatMap Sec.cells := by
  obtain ⟨bb, o, cs, h1, h2, h3⟩ := hR.at' hne
  refine ⟨bb, o, cs, h1, h2, ?_, ?_⟩
  · have hpos : 0 < L.length := List.length_pos_iff.2 hne
    obtain ⟨y, hy⟩ : ∃ y, L[L.length - 1]? = some y := ⟨_, List.getElem?_eq_getElem (by omega)⟩
    have := (h3 _ y hy).1
    omega
  · have : ∀ k, k ≤ L.length → (cs.drop o).take (k * 3) = (L.take k).flatMap Sec.cells := by
      intro k
      induction k with
      | zero => intro _; simp
      | succ k ih =>
        intro hk
        obtain ⟨y, hy⟩ : ∃ y, L[k]? = some y := ⟨_, List.getElem?_eq_getElem (by omega)⟩
        have h4 := (h3 k y hy).2
        rw [Nat.add_mul, Nat.one_mul, List.take_add, ih (by omega), List.drop_drop, h4, List.take_add_one, hy, List.flatMap_append]
        simp
    have h5 := this L.length (Nat.le_refl _)
    rwa [List.take_length] at h5

def ownV (os : List AObj) (n : Nat) : AVal := .slice (some (os.length + 1, 0)) n none
def ownO (os : List AObj) (M : List Sec) : List AObj := os ++ [.cells 3 [], .cells 3 (M.flatMap Sec.cells)]

theorem ownRow (os : List AObj) (M : List Sec) : Row (ownO os M) 3 Sec.cells M (some (os.length + 1, 0)) := Row.mk0 (fun _ => rfl) get_end

theorem mark_loop {L : List Sec} (hn : L.length ≤ 9223372036854775807) (hb : b ≤ os.length) (n : AVal) :
    xCode T (.loop code11L1) ⟨[(1, .val n), (5, .val (ownV os L.length)), (24, .val (.int .i64 L.length)), (25, .val (.int .i64 (0 : Nat)))], ⟨ownO os L, b, os.length⟩⟩ =
      some (.exit 0, ⟨[(1, .val n), (5, .val (ownV os L.length))], ⟨ownO os (marks L L.length), b, os.length⟩⟩) := by
  refine loop_all (e := .exit 0) (fun i => ⟨[(1, .val n), (5, .val (ownV os L.length)), (24, .val (.int .i64 L.length)), (25, .val (.int .i64 i))], ⟨ownO os (marks L i), b, os.length⟩⟩) L.length ?_ (by simp) ?_
  · intro i hi
    obtain ⟨x, hx⟩ : ∃ x, L[i]? = some x := ⟨_, List.getElem?_eq_getElem hi⟩
    have hm := marks_get L i i x hx
    rw [if_neg (by omega)] at hm
    have hw := wrap_next hi hn
    have hi' : (i : Int) < (L.length : Int) := by omega
    have hge : (0 : Int) ≤ i := by omega
    have hsp := splice_flat Sec.cells 3 (fun _ => rfl) (marks L i) i x { x with st := 1 } 0 (.int .i64 1) hm (by omega) rfl
    have hlen : i * 3 + 1 ≤ ((marks L i).flatMap Sec.cells).length := by rw [flat_len Sec.cells 3 (fun _ => rfl), marks_length]; omega
    have hbb : b ≤ os.length + 1 := by omega
    have hmn : min os.length (os.length + 1) = os.length := by omega
    simp only [splice, Nat.add_zero, List.length_cons, List.length_nil, Nat.zero_add] at hsp
    simp only [marks, hx]
    simp [code11L1, ownV, ownO, hi', hge, hw, hbb, hmn, set_end, hlen, ← hsp, -List.length_flatMap]
  · simp [code11L1]

theorem wrap_u8 {i : Nat} (h : i < 255) : IntKind.u8.wrap ((i : Int) + 1) = ((i + 1 : Nat) : Int) := by
  simp only [IntKind.wrap, IntKind.bits, IntKind.signed]
  simp
  omega

theorem least_all {m : Sec → Bool} {k : Sec → Int} {L : List Sec} (h : ∀ x ∈ L, m x = true) : ∀ i, least m k L i = least (fun _ => true) k L i
  | 0 => rfl
  | i + 1 => by
    simp only [least, least_all h i]
    split
    · rename_i x hx
      rw [h x (List.mem_of_getElem? hx)]
    · rfl

/-- One more is erased, each time the least. -/
def step1 (M : List Sec) : List Sec :=
  match M[(least (fun _ => true) Sec.er M M.length).1]? with
  | some y => M.set (least (fun _ => true) Sec.er M M.length).1 { y with er := y.er + 1 }
  | none => M
def steps (M : List Sec) : Nat → List Sec
  | 0 => M
  | i + 1 => step1 (steps M i)

/-- What holds of the sectors in the loop. -/
structure Inv (n : Nat) (most : Int) (i : Nat) (M : List Sec) : Prop where
  len : M.length = n
  dirty : ∀ x ∈ M, x.st = 1 ∧ 0 ≤ x.er ∧ x.er ≤ 1048576 + i
  spread : spread M ≤ most

theorem Inv.next {n : Nat} (hn : 0 < n) {most : Int} (h1 : 1 ≤ most) {i : Nat} {M : List Sec} (h : Inv n most i M) :
    ∃ k y, least (fun _ => true) Sec.er M M.length = (k, true) ∧ M[k]? = some y ∧ y.st = 1 ∧ 0 ≤ y.er ∧ y.er ≤ 1048576 + i ∧ step1 M = M.set k { y with er := y.er + 1 } ∧ Inv n most (i + 1) (step1 M) := by
  obtain ⟨e1, y, e2, e3⟩ := least_low M M.length (by rw [h.len]; exact hn) (Nat.le_refl _)
  have hst : step1 M = M.set (least (fun _ => true) Sec.er M M.length).1 { y with er := y.er + 1 } := by simp [step1, e2]
  obtain ⟨d1, d2, d3⟩ := h.dirty y (List.mem_of_getElem? e2)
  refine ⟨_, y, ?_, e2, d1, d2, d3, hst, ?_⟩
  · exact Prod.ext rfl e1
  · rw [hst]
    refine ⟨by rw [List.length_set]; exact h.len, fun x hx => ?_, ?_⟩
    · rcases List.mem_or_eq_of_mem_set hx with hx | rfl
      · obtain ⟨a1, a2, a3⟩ := h.dirty x hx
        exact ⟨a1, a2, by omega⟩
      · exact ⟨d1, by simp only; omega, by simp only; omega⟩
    · have := spread_next e2 e3
      have h2 := h.spread
      omega

theorem steps_inv {n : Nat} (hn : 0 < n) {most : Int} (h1 : 1 ≤ most) {M : List Sec} (h : Inv n most 0 M) : ∀ i, Inv n most i (steps M i)
  | 0 => h
  | i + 1 => by
    obtain ⟨_, _, _, _, _, _, _, _, h2⟩ := (steps_inv hn h1 h i).next hn h1
    exact h2

theorem even_loop {M : List Sec} {n : Nat} (hn : 0 < n) (hn1 : n ≤ 100) {most : Int} (h1 : 1 ≤ most) (h : Inv n most 0 M) (hb : b ≤ os.length) {times : Nat} (ht : times ≤ 255) :
    xCode T (.loop code11L0) ⟨[(5, .val (ownV os n)), (7, .val (.int .i64 most)), (36, .val (.int .u8 times)), (37, .val (.int .u8 (0 : Nat)))], ⟨ownO os M, b, os.length⟩⟩ =
      some (.exit 2, ⟨[], ⟨ownO os (steps M times), b, os.length⟩⟩) := by
  refine loop_all (e := .exit 2) (fun i => ⟨[(5, .val (ownV os n)), (7, .val (.int .i64 most)), (36, .val (.int .u8 times)), (37, .val (.int .u8 i))], ⟨ownO os (steps M i), b, os.length⟩⟩) times ?_ (by simp) ?_
  · intro i hi
    have hinv := steps_inv hn h1 h i
    obtain ⟨k, y, q1, q2, q3, q4, q5, q6, q7⟩ := hinv.next hn h1
    simp only [steps]
    generalize steps M i = N at *
    have hl := hinv.len
    have hopn : ∀ x ∈ N, opn 1049576 x = true := fun x hx => by
      obtain ⟨a1, a2, a3⟩ := hinv.dirty x hx
      simp [opn, a1]; omega
    have h7 := fun w => s7 (b := b) (w := w) (c := none) (lim := 1049576) (ownRow os N) (by omega)
    rw [hl] at q1
    simp only [least_all hopn, hl, q1] at h7
    have hfine : ∀ x ∈ step1 N, fine x := fun x hx => by
      obtain ⟨a1, a2, a3⟩ := q7.dirty x hx
      exact ⟨a2, by omega⟩
    have h2 := fun w => s2 (b := b) (w := w) (c := none) (ownRow os (step1 N)) (by rw [q7.len]; omega) hfine
    rw [q7.len] at h2
    have hsp7 := q7.spread
    have hgt : ¬ (most < spread (step1 N)) := by omega
    rw [q6] at h2 hgt ⊢
    have hkl := get_lt q2
    have hk1 : ¬ ((k : Int) < 0) := by omega
    have hk2 : (0 : Int) ≤ k := by omega
    have hk3 : (k : Int) < (n : Int) := by omega
    have hk4 : ¬ ((n : Int) ≤ (k : Int)) := by omega
    have hi' : (i : Int) < (times : Int) := by omega
    have hw := wrap_u8 (i := i) (by omega)
    have hw2 : IntKind.i64.wrap (y.er + 1) = y.er + 1 := wrap64 (by omega) (by omega)
    have hld : (N.flatMap Sec.cells)[k * 3 + 2]? = some (.int .i64 y.er) := by
      have := congrArg (fun l => l[2]?) (flat_at Sec.cells 3 (fun _ => rfl) N k y q2).2
      simpa [List.getElem?_take, List.getElem?_drop, Sec.cells] using this
    have hlen : k * 3 + 2 + 1 ≤ (N.flatMap Sec.cells).length := by
      have := (flat_at Sec.cells 3 (fun _ => rfl) N k y q2).1
      omega
    have hsp := splice_flat Sec.cells 3 (fun _ => rfl) N k y { y with er := y.er + 1 } 2 (.int .i64 (y.er + 1)) q2 (by omega) rfl
    simp only [splice, List.length_cons, List.length_nil, Nat.zero_add] at hsp
    simp only [ownO] at h7 h2 ⊢
    rw [← hsp] at h2 ⊢
    simp only [List.append_assoc, List.cons_append, List.nil_append] at h2
    have hbb : b ≤ os.length + 1 := by omega
    have hmn : min os.length (os.length + 1) = os.length := by omega
    simp [code11L0, ownV, ownO, hi', h7, h2, hk1, hk2, hk3, hk4, hld, hw, hw2, hbb, hmn, set_end, hlen, hgt, -List.length_flatMap]
  · simp [code11L0]

end Go.Abs.AbsWear
