/-
  The machine's runs, symbolically: what 'simp' may open, and small facts of numbers, rows and loops.
-/
import Derived.Test.YtnpjncdnlacmeaaAbsRead
import Derived.KernelRfl
namespace Go.Abs

attribute [simp] xCode_skip xCode_exit xCode_ret xCode_region xCode_seq xCode_cond xCode_block xCode_live xCode_after evSegs evOps evQuiet evOper evRun evOp ok1 Opd.ev evs sget setSlot keep Opd.adr AVal.cells? outcome resultsL result1 tupled
  xFunc enter loadAt cellsAt storeAt part aBin aUn inBounds upTo lowB bounds aSlice eszIs optEv splice unloc Heap.get Heap.put Heap.push Heap.size AVal.under AVal.unders fill isVar evLen evConv aMin2 aMins aEqNil rowOf rowIs alen aApp aAppend finish AVal.ids AVal.idsL AVal.ren AVal.renL AObj.ids AObj.ren idxIn rep
  evExt evPure evOpen openAll openOne hide allSeen noClash clash okId seenBy slotIds dstSlot rdIds heapOpds AOp.isCall AOper.reads AOp.reads Opd.reads readsL readsO readsP Slot.ids Did.writes

@[simp] theorem wrapC_false (r : List AVal → Heap → Option (AVal × Heap)) : wrapC false r = r := rfl
@[simp] theorem wrapC_true (r : List AVal → Heap → Option (AVal × Heap)) : wrapC true r = evClosed r := rfl

theorem wrap64 {x : Int} (h1 : -9223372036854775808 ≤ x) (h2 : x ≤ 9223372036854775807) : IntKind.i64.wrap x = x := by
  simp only [IntKind.wrap, IntKind.bits, IntKind.signed]
  simp
  omega

/-- The next index. -/
theorem wrap_next {i n : Nat} (h : i < n) (hn : n ≤ 9223372036854775807) : IntKind.i64.wrap ((i : Int) + 1) = ((i + 1 : Nat) : Int) := by
  rw [wrap64 (by omega) (by omega)]; omega

theorem reach_step (h : Heap) (n0 f : Nat) (i : Nat) (r acc : List Nat) : reach h n0 (f + 1) (i :: r) acc = if i < n0 then reach h n0 f r acc
    else if acc.contains i then reach h n0 f r acc
    else reach h n0 f (((h.get i).map AObj.ids).getD [] ++ r) (acc ++ [i]) := rfl
theorem reach_done (h : Heap) (n0 f : Nat) (acc : List Nat) : reach h n0 (f + 1) [] acc = acc := rfl

/-! ## Rows -/

/-- A slice's elements. -/
structure Row {α : Type} (os : List AObj) (e : Nat) (f : α → List AVal) (L : List α) (a : Option (Nat × Nat)) : Prop where
  at' : L ≠ [] → ∃ b o cs, a = some (b, o) ∧ os[b]? = some (.cells e cs) ∧ ∀ (j : Nat) (x : α), L[j]? = some x → o + j * e + e ≤ cs.length ∧ (cs.drop (o + j * e)).take e = f x

theorem ne_of_get {α : Type} {L : List α} {j : Nat} {x : α} (h : L[j]? = some x) : L ≠ [] := by
  rintro rfl; simp at h

theorem get_lt {α : Type} {L : List α} {j : Nat} {x : α} (h : L[j]? = some x) : j < L.length := lt_of_get h

theorem flat_at {α : Type} (f : α → List AVal) (n : Nat) (hf : ∀ x, (f x).length = n) : ∀ (xs : List α) (j : Nat) (x : α), xs[j]? = some x → j * n + n ≤ (xs.flatMap f).length ∧ ((xs.flatMap f).drop (j * n)).take n = f x
  | [], j, x, h => by simp at h
  | y :: ys, 0, x, h => by
    simp at h; subst h
    simp only [List.flatMap_cons, Nat.zero_mul, List.drop_zero, List.length_append, hf]
    rw [List.take_append_of_le_length (by rw [hf]; omega), List.take_of_length_le (by rw [hf]; omega)]
    exact ⟨by omega, rfl⟩
  | y :: ys, j + 1, x, h => by
    simp at h
    obtain ⟨h1, h2⟩ := flat_at f n hf ys j x h
    rw [List.flatMap_cons, List.drop_append, hf, show (j + 1) * n - n = j * n from by rw [Nat.add_mul]; omega,
      List.drop_of_length_le (by rw [hf, Nat.add_mul]; omega), List.nil_append, List.length_append, hf, Nat.add_mul]
    exact ⟨by omega, h2⟩

theorem flat_len {α : Type} (f : α → List AVal) (n : Nat) (hf : ∀ x, (f x).length = n) (xs : List α) : (xs.flatMap f).length = xs.length * n := by
  induction xs with
  | nil => simp
  | cons x xs ih => rw [List.flatMap_cons, List.length_append, hf, ih, List.length_cons, Nat.add_mul]; omega

/-- A row that is a whole object. -/
theorem Row.mk0 {α : Type} {os : List AObj} {e : Nat} {f : α → List AVal} {L : List α} {b : Nat} (hf : ∀ x, (f x).length = e) (h : os[b]? = some (.cells e (L.flatMap f))) : Row os e f L (some (b, 0)) :=
  ⟨fun _ => ⟨b, 0, _, rfl, h, fun j x hx => by simpa using flat_at f e hf L j x hx⟩⟩

theorem Row.ext {α : Type} {os : List AObj} {e : Nat} {f : α → List AVal} {L : List α} {a : Option (Nat × Nat)} (h : Row os e f L a) (zs : List AObj) : Row (os ++ zs) e f L a :=
  ⟨fun hne => by
    obtain ⟨b, o, cs, h1, h2, h3⟩ := h.at' hne
    exact ⟨b, o, cs, h1, by rw [List.getElem?_append_left (lt_of_get h2)]; exact h2, h3⟩⟩

/-- A slice that came in. -/
theorem Has.row {α : Type} {os : List AObj} {b w : Nat} {e : Sh} {f : α → List AVal} {ok : α → Prop} {d : Dat} {cs : List AVal} (hconv : ∀ d c, Has ⟨os, b, w⟩ e d c → ∃ x, c = f x ∧ ok x) (h : Has ⟨os, b, w⟩ (.slice e) d cs) :
    ∃ (a : Option (Nat × Nat)) (L : List α) (c : Option Nat), cs = [.slice a L.length c] ∧ Row os e.size f L a ∧ L.length ≤ 9223372036854775807 ∧ (∀ x ∈ L, ok x) ∧ (a = none → L = []) := by
  cases d <;> simp only [Has] at h
  · subst h
    exact ⟨none, [], some 0, rfl, ⟨fun h => absurd rfl h⟩, by simp, by simp, fun _ => rfl⟩
  · rename_i l
    obtain ⟨h0, i, css, rfl, h2, h3, h4, h5⟩ := h
    have : ∀ (css : List (List AVal)) (l : List Dat), css.length = l.length → (∀ (k : Nat) (d : Dat) (c : List AVal), l[k]? = some d → css[k]? = some c → Has ⟨os, b, w⟩ e d c) →
        ∃ L : List α, css = L.map f ∧ ∀ x ∈ L, ok x ∧ (f x).length = e.size := by
      intro css
      induction css with
      | nil => exact fun _ _ _ => ⟨[], rfl, by simp⟩
      | cons c css ih =>
        intro l hl hh
        cases l with
        | nil => simp at hl
        | cons d l =>
          have hc := hh 0 d c rfl rfl
          obtain ⟨x, hx, hok⟩ := hconv d c hc
          obtain ⟨L, e1, e2⟩ := ih l (by simpa using hl) fun k d' c' hd hc => hh (k + 1) d' c' (by simpa using hd) (by simpa using hc)
          refine ⟨x :: L, by rw [List.map_cons, ← hx, ← e1], fun y hy => ?_⟩
          rcases List.mem_cons.1 hy with rfl | hy
          · exact ⟨hok, by rw [← hx]; exact hc.cells.1⟩
          · exact e2 y hy
    obtain ⟨L, e1, e2⟩ := this css l h3 h5
    have hlen : L.length = l.length := by rw [← h3, e1, List.length_map]
    refine ⟨some (i, 0), L, none, by rw [hlen], ⟨fun hne => ?_⟩, by rw [hlen]; exact h0, fun x hx => (e2 x hx).1, by simp⟩
    rcases h4 with h4 | ⟨rfl, _⟩
    · refine ⟨i, 0, css.flatten, rfl, h4, fun j x hx => ?_⟩
      have hfl : ∀ (L : List α), (∀ x ∈ L, (f x).length = e.size) → ∀ j x, L[j]? = some x → j * e.size + e.size ≤ (L.map f).flatten.length ∧ ((L.map f).flatten.drop (j * e.size)).take e.size = f x := by
        intro L
        induction L with
        | nil => intro _ j x hx; simp at hx
        | cons y L ih =>
          intro hL j x hx
          have hy := hL y (List.mem_cons_self ..)
          cases j with
          | zero =>
            simp at hx; subst hx
            simp only [List.map_cons, List.flatten_cons, Nat.zero_mul, List.drop_zero, List.length_append, hy]
            rw [List.take_append_of_le_length (by omega), List.take_of_length_le (by omega)]
            exact ⟨by omega, rfl⟩
          | succ j =>
            simp at hx
            obtain ⟨h1, h2⟩ := ih (fun x hx => hL x (List.mem_cons_of_mem _ hx)) j x hx
            rw [List.map_cons, List.flatten_cons, List.drop_append, hy, show (j + 1) * e.size - e.size = j * e.size from by rw [Nat.add_mul]; omega,
              List.drop_of_length_le (by rw [hy, Nat.add_mul]; omega), List.nil_append, List.length_append, hy, Nat.add_mul]
            exact ⟨by omega, h2⟩
      have := hfl L (fun x hx => (e2 x hx).2) j x hx
      rw [← e1] at this
      simpa using this
    · exact absurd (List.eq_nil_of_length_eq_zero (by rw [hlen]; rfl)) hne

/-! ## What came in, taken apart -/

section
variable {h : Heap} {d : Dat} {cs : List AVal}

theorem Has.int {k : IntKind} (hh : Has h (.int k) d cs) : ∃ n, d = .int n ∧ cs = [.int k n] ∧ k.min ≤ n ∧ n ≤ k.max := by
  cases d <;> simp only [Has] at hh
  exact ⟨_, rfl, hh⟩
theorem Has.bool (hh : Has h .bool d cs) : ∃ b, d = .bool b ∧ cs = [.bool b] := by
  cases d <;> simp only [Has] at hh
  exact ⟨_, rfl, hh⟩
theorem Has.str (hh : Has h .str d cs) : ∃ s, d = .str s ∧ cs = [.str s] ∧ s.length ≤ 9223372036854775807 := by
  cases d <;> simp only [Has] at hh
  exact ⟨_, rfl, hh⟩
theorem Has.struct {fs : List Sh} (hh : Has h (.struct fs) d cs) : ∃ l, d = .agg l ∧ HasL h fs l cs := by
  cases d <;> simp only [Has] at hh
  exact ⟨_, rfl, hh⟩
theorem HasL.cons {s : Sh} {r : List Sh} {l : List Dat} (hh : HasL h (s :: r) l cs) : ∃ d l' a b, l = d :: l' ∧ cs = a ++ b ∧ Has h s d a ∧ HasL h r l' b := by
  cases l <;> simp only [HasL] at hh
  obtain ⟨a, b, h1, h2, h3⟩ := hh
  exact ⟨_, _, a, b, rfl, h1, h2, h3⟩
theorem HasL.nil {l : List Dat} (hh : HasL h [] l cs) : l = [] ∧ cs = [] := by
  cases l <;> simp only [HasL] at hh
  exact ⟨rfl, hh⟩
theorem HasArgs.cons {s : Sh} {r : List Sh} {l : List Dat} {as : List AVal} (hh : HasArgs h (s :: r) l as) : ∃ d l' c t, l = d :: l' ∧ as = avalOf s c :: t ∧ Has h s d c ∧ HasArgs h r l' t := by
  cases l <;> simp only [HasArgs] at hh
  obtain ⟨a, b, h1, h2, h3⟩ := hh
  exact ⟨_, _, a, b, rfl, h1, h2, h3⟩
theorem HasArgs.nil {l : List Dat} {as : List AVal} (hh : HasArgs h [] l as) : l = [] ∧ as = [] := by
  cases l <;> simp only [HasArgs] at hh
  exact ⟨rfl, hh⟩
end

/-! ## Loops -/

/-- A loop that goes n times through, and ends then. -/
theorem loop_run {T : Nat → Option AFunc} {c : ACode} {e : AExit} {st' : St} (st : Nat → St) (n : Nat) (hs : ∀ i, i < n → xCode T c (st i) = some (.normal, st (i + 1))) (he : e ≠ .normal) (hx : xCode T c (st n) = some (e, st')) :
    ∀ k, k ≤ n → xCode T (.loop c) (st (n - k)) = some (e, st')
  | 0, _ => by
    rw [xCode_loop, Nat.sub_zero, hx]
    cases e <;> first | rfl | exact absurd rfl he
  | k + 1, hk => by
    rw [xCode_loop, hs (n - (k + 1)) (by omega)]
    simp only
    rw [show n - (k + 1) + 1 = n - k by omega]
    exact loop_run st n hs he hx k (by omega)

theorem loop_all {T : Nat → Option AFunc} {c : ACode} {e : AExit} {st' : St} (st : Nat → St) (n : Nat) (hs : ∀ i, i < n → xCode T c (st i) = some (.normal, st (i + 1))) (he : e ≠ .normal) (hx : xCode T c (st n) = some (e, st')) :
    xCode T (.loop c) (st 0) = some (e, st') := by
  have := loop_run st n hs he hx n (Nat.le_refl _)
  rwa [Nat.sub_self] at this

theorem first_bad {α : Type} (p : α → Prop) [DecidablePred p] : ∀ L : List α, (∀ x ∈ L, p x) ∨ ∃ (j : Nat) (x : α), L[j]? = some x ∧ ¬ p x ∧ ∀ i : Nat, i < j → ∀ y, L[i]? = some y → p y
  | [] => .inl (by simp)
  | x :: L => by
    by_cases hx : p x
    · rcases first_bad p L with h | ⟨j, y, h1, h2, h3⟩
      · exact .inl fun z hz => by
          rcases List.mem_cons.1 hz with rfl | hz
          · exact hx
          · exact h z hz
      · refine .inr ⟨j + 1, y, by simpa using h1, h2, fun i hi z hz => ?_⟩
        cases i with
        | zero => simp at hz; subst hz; exact hx
        | succ i => exact h3 i (by omega) z (by simpa using hz)
    · exact .inr ⟨0, x, rfl, hx, fun i hi => absurd hi (by omega)⟩

/-- A closed call: what the evaluator gives, asked once. -/
theorem closed_run {T : Nat → Option AFunc} {g : Nat} {f : AFunc} (hT : T g = some f) (hc : f.closed = true) (n : Nat) {args : List AVal} {v : AVal} {h' : Heap} (ha : AVal.unders 0 args = true) (hv : v.under 0 = true)
    (he : evFunc (evCall T n) n f args ⟨[], 0, 0⟩ = some (v, h')) (h : Heap) (hr : f.round = none := by rfl) : xCall T g args h = some (v, h) := by
  rw [xCall_eq T hT (hr := hr), hc]
  simp only [wrapC, evClosed, if_true]
  rw [if_pos ha, (xFunc_iff T f args _ _).2 ⟨n, he⟩]
  simp [hv]

end Go.Abs
