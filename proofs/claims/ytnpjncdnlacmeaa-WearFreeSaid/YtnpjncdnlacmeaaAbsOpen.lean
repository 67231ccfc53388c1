/-
  Open parts in the order of the text: what each operation gives, and what stands where.
-/
import Derived.Test.YtnpjncdnlacmeaaAbsStep
namespace Go.Abs

section
variable {call : CallSem} {n0 : Nat}

def dsl (D : Nat → Did) (x : Nat) : List Did := (List.range x).map D

theorem dsl_get {D : Nat → Did} {x y : Nat} (h : y < x) : (dsl D x)[y]? = some (D y) := by simp [dsl, h]
theorem dsl_length (D : Nat → Did) (x : Nat) : (dsl D x).length = x := by simp [dsl]

theorem open_text : ∀ (seg : List AOper) (ms : List Nat) (ds : List Did) (s s1 : Slots) (h h1 : Heap), openAll call n0 ms seg ds s h = some (s1, h1) →
    ∃ (S : Nat → Slots) (H : Nat → Heap) (r : Nat → Slot) (D : Nat → Did), S 0 = s ∧ H 0 = h ∧ S seg.length = s1 ∧ H seg.length = h1 ∧
      ∀ (x : Nat) (o : AOper), seg[x]? = some o → openOne call n0 (ms.getD x 0) (ds ++ dsl D x) o (S x) (H x) = some (r x, H (x + 1), D x) ∧ S (x + 1) = setSlot o.dst (r x) (S x) ∧
        (∀ d, o.dst = some d → isVar (S x) d = false) ∧ noClash (ms.getD x 0) (D x) 0 (ds ++ dsl D x) = true
  | [], ms, ds, s, s1, h, h1, e => by
    simp only [openAll] at e; cases e
    exact ⟨fun _ => s, fun _ => h, fun _ => .undef, fun _ => ⟨false, [], none, none, 0, 0⟩, rfl, rfl, rfl, rfl, fun x o hx => by simp at hx⟩
  | o :: seg, ms, ds, s, s1, h, h1, e => by
    simp only [openAll] at e
    split at e
    case h_2 => cases e
    rename_i y h2 d he
    split at e
    case isFalse => cases e
    rename_i hh
    obtain ⟨a1, a2⟩ := hh
    obtain ⟨S, H, r, D, b1, b2, b3, b4, b5⟩ := open_text seg ms.tail (ds ++ [d]) _ s1 h2 h1 e
    have hm0 : ms.headD 0 = ms.getD 0 0 := by cases ms <;> rfl
    refine ⟨fun x => match x with | 0 => s | x + 1 => S x, fun x => match x with | 0 => h | x + 1 => H x, fun x => match x with | 0 => y | x + 1 => r x, fun x => match x with | 0 => d | x + 1 => D x,
      rfl, rfl, by simpa using b3, by simpa using b4, fun x o1 hx => ?_⟩
    cases x with
    | zero =>
      simp at hx; subst hx
      rw [← hm0]
      refine ⟨by simp only [b2, dsl]; simpa using he, by simp only [b1], fun d hd => ?_, by simpa [dsl] using a2⟩
      rw [hd] at a1
      simpa using a1
    | succ x =>
      simp at hx
      have h3 := b5 x o1 hx
      have e1 : ds ++ [d] ++ dsl D x = ds ++ dsl (fun x => match x with | 0 => d | x + 1 => D x) (x + 1) := by
        rw [List.append_assoc]
        congr 1
        simp only [dsl, List.range_succ_eq_map, List.map_cons, List.map_map, List.singleton_append]
        rfl
      have e2 : ms.tail.getD x 0 = ms.getD (x + 1) 0 := by cases ms <;> simp
      rw [e1, e2] at h3
      exact h3

/-- What one operation did, in full. -/
structure OneCall (call : CallSem) (n0 m : Nat) (ds : List Did) (o : AOper) (s : Slots) (h : Heap) (y : Slot) (h' : Heap) (d : Did) : Prop where
  isc : o.op.isCall = true
  run : ∃ s1 g, evOper call o s ⟨hide m 0 ds h.objs, h.base, h.size⟩ = some (s1, g) ∧ y = dstSlot o.dst s1 ∧ h'.size = g.size ∧
    ((allSeen m 0 ds = true ∧ g.wmin < h.size ∧ d.wr = some g.wmin ∧ h' = ⟨g.objs, h.base, min h.wmin g.wmin⟩) ∨ (allSeen m 0 ds = true ∧ h.size ≤ g.wmin ∧ d.wr = none ∧ h' = ⟨g.objs, h.base, h.wmin⟩) ∨
      (h.size ≤ g.wmin ∧ d.wr = none ∧ (∀ i ∈ y.ids ++ (g.objs.drop h.size).flatMap AObj.ids, okId n0 m ds i = true ∨ h.size ≤ i) ∧ h' = ⟨h.objs ++ g.objs.drop h.size, h.base, h.wmin⟩))
  did : d.isCall = true ∧ d.rd = [] ∧ d.ch = none

structure OneSoft (n0 m : Nat) (ds : List Did) (o : AOper) (s : Slots) (h : Heap) (y : Slot) (h' : Heap) (d : Did) : Prop where
  isc : o.op.isCall = false
  run : ∃ s1 g, evOper noCall o s ⟨h.objs, h.base, h.size⟩ = some (s1, g) ∧ y = dstSlot o.dst s1 ∧
    ((g.size = h.size ∧ g.wmin = h.size ∧ (∀ i ∈ y.ids, okId n0 m ds i = true) ∧ h' = h ∧ d.ch = none) ∨
      (∃ ob, g.size = h.size + 1 ∧ g.objs[h.size]? = some ob ∧ (∀ i ∈ ob.ids, okId n0 m ds i = true) ∧ ((g.wmin = h.size ∧ d.ch = none ∧ h' = ⟨g.objs, h.base, h.wmin⟩) ∨ (g.wmin ≠ h.size ∧ d.ch = some g.wmin ∧ h' = ⟨g.objs, h.base, min h.wmin g.wmin⟩))))
  did : d.isCall = false ∧ d.rd = rdIds o.op s ∧ d.wr = none

theorem openOne_spec (hev0 : CallEvol call) {m : Nat} {ds : List Did} {o : AOper} {s : Slots} {h : Heap} {y : Slot} {h' : Heap} {d : Did} (e : openOne call n0 m ds o s h = some (y, h', d)) :
    ((∀ t ∈ o.reads, ∀ i ∈ slotIds s t, okId n0 m ds i = true) ∧ ∀ i ∈ rdIds o.op s, okId n0 m ds i = true) ∧ d.lo = h.size ∧ d.hi = h'.size ∧ h'.base = h.base ∧ (OneCall call n0 m ds o s h y h' d ∨ OneSoft n0 m ds o s h y h' d) := by
  unfold openOne at e
  split at e
  · cases e
  rename_i hr
  have hr' : (∀ t ∈ o.reads, ∀ i ∈ slotIds s t, okId n0 m ds i = true) ∧ ∀ i ∈ rdIds o.op s, okId n0 m ds i = true := by
    simp only [Bool.not_eq_false, List.all_eq_true, List.mem_flatMap, List.mem_append] at hr
    exact ⟨fun t ht i hi => hr i (.inl ⟨t, ht, hi⟩), fun i hi => hr i (.inr hi)⟩
  refine ⟨hr', ?_⟩
  split at e
  · rename_i hc
    split at e
    · cases e
    rename_i s1 g he
    simp only at e
    split at e
    · rename_i hw
      split at e
      · rename_i hall
        cases e
        exact ⟨rfl, rfl, rfl, .inl ⟨hc, ⟨s1, g, he, rfl, rfl, .inl ⟨hall, hw, rfl, rfl⟩⟩, rfl, rfl, rfl⟩⟩
      · cases e
    · rename_i hw
      split at e
      · rename_i hall
        cases e
        exact ⟨rfl, rfl, rfl, .inl ⟨hc, ⟨s1, g, he, rfl, rfl, .inr (.inl ⟨hall, by omega, rfl, rfl⟩)⟩, rfl, rfl, rfl⟩⟩
      · split at e
        · rename_i hids
          cases e
          rw [List.all_eq_true] at hids
          have hge : h.size ≤ g.size := by
            have := (oper_evol hev0 he).size
            simp only [Heap.size, hide_length] at this
            exact this
          have hsz : ({ objs := h.objs ++ List.drop h.size g.objs, base := h.base, wmin := h.wmin } : Heap).size = g.size := by
            simp only [Heap.size, List.length_append, List.length_drop] at hge ⊢; omega
          refine ⟨rfl, hsz.symm, rfl, .inl ⟨hc, ⟨s1, g, he, rfl, hsz, .inr (.inr ⟨by omega, rfl, fun i hi => ?_, rfl⟩)⟩, rfl, rfl, rfl⟩⟩
          have := hids i hi
          simpa using this
        · cases e
  · rename_i hc
    have hc : o.op.isCall = false := by simpa using hc
    split at e
    · cases e
    rename_i s1 g he
    simp only at e
    split at e
    · rename_i hsz
      split at e
      · rename_i hw
        cases e
        exact ⟨rfl, rfl, rfl, .inr ⟨hc, ⟨s1, g, he, rfl, .inl ⟨hsz, hw.1, List.all_eq_true.1 hw.2, rfl, rfl⟩⟩, rfl, rfl, rfl⟩⟩
      · cases e
    · split at e
      · rename_i hsz
        split at e
        · rename_i ob hob
          split at e
          · rename_i hids
            rw [List.all_eq_true] at hids
            split at e
            · rename_i hw
              cases e
              exact ⟨rfl, hsz.symm, rfl, .inr ⟨hc, ⟨s1, g, he, rfl, .inr ⟨ob, hsz, hob, hids, .inl ⟨hw, rfl, rfl⟩⟩⟩, rfl, rfl, rfl⟩⟩
            · rename_i hw
              cases e
              exact ⟨rfl, hsz.symm, rfl, .inr ⟨hc, ⟨s1, g, he, rfl, .inr ⟨ob, hsz, hob, hids, .inr ⟨hw, rfl, rfl⟩⟩⟩, rfl, rfl, rfl⟩⟩
          · cases e
        · cases e
      · cases e

/-! ## Memory, by what has been carried out -/

/-- Does x make or change object i? (lo, hi: what it makes) -/
def touched (D : Nat → Did) (sz : Nat → Nat) (x i : Nat) : Prop := i < sz (x + 1) ∧ (sz x ≤ i ∨ (D x).writes i = true)

open Classical in
noncomputable def upd (D : Nat → Did) (sz : Nat → Nat) (H : Nat → Heap) (x i : Nat) : Option AObj := if touched D sz x i then (H (x + 1)).objs[i]? else none

/-- Object i, when those in L have been carried out, of the first k. -/
noncomputable def mem (D : Nat → Did) (sz : Nat → Nat) (H : Nat → Heap) (L : Nat → Bool) : Nat → Nat → AObj
  | 0, i => ((H 0).objs[i]?).getD .dead
  | k + 1, i => if L k then (upd D sz H k i).getD (mem D sz H L k i) else mem D sz H L k i

section
variable {D : Nat → Did} {sz : Nat → Nat} {H : Nat → Heap} {L L' : Nat → Bool} {i : Nat}

theorem mem_congr : ∀ (k : Nat), (∀ y, y < k → upd D sz H y i ≠ none → L y = L' y) → mem D sz H L k i = mem D sz H L' k i
  | 0, _ => rfl
  | k + 1, h => by
    have ih := mem_congr k fun y hy => h y (by omega)
    simp only [mem]
    cases hu : upd D sz H k i with
    | none => simp only [Option.getD_none, ih, ite_self]
    | some o =>
      have := h k (by omega) (by rw [hu]; simp)
      rw [this, ih]

/-- The memory of the text: all of the first x. -/
theorem mem_text {n : Nat} (hsz : ∀ x, sz x = (H x).size) (hmono : ∀ x, x < n → sz x ≤ sz (x + 1)) (hun : ∀ x i, x < n → i < sz x → (D x).writes i = false → (H (x + 1)).objs[i]? = (H x).objs[i]?) :
    ∀ (x : Nat), x ≤ n → mem D sz H (fun _ => true) x i = ((H x).objs[i]?).getD .dead
  | 0, _ => rfl
  | x + 1, hx => by
    simp only [mem, if_true, mem_text hsz hmono hun x (by omega)]
    unfold upd
    by_cases ht : touched D sz x i
    · rw [if_pos ht]
      cases hq : (H (x + 1)).objs[i]? with
      | some o => rfl
      | none =>
        exfalso
        have := ht.1
        rw [hsz] at this
        rw [List.getElem?_eq_none_iff] at hq
        unfold Heap.size at this
        omega
    · rw [if_neg ht]
      simp only [Option.getD_none]
      by_cases h1 : i < sz (x + 1)
      · have h2 : i < sz x := by
          rcases Nat.lt_or_ge i (sz x) with h | h
          · exact h
          · exact absurd ⟨h1, .inl h⟩ ht
        have h3 : (D x).writes i = false := by
          cases hw : (D x).writes i with
          | false => rfl
          | true => exact absurd ⟨h1, .inr hw⟩ ht
        rw [hun x i (by omega) h2 h3]
      · have e1 : (H (x + 1)).objs[i]? = none := by
          rw [List.getElem?_eq_none_iff]; have := hsz (x + 1); unfold Heap.size at this; omega
        have e2 : (H x).objs[i]? = none := by
          rw [List.getElem?_eq_none_iff]; have h5 := hsz x; have := hmono x (by omega); unfold Heap.size at h5; omega
        rw [e1, e2]

/-- The first x of n. -/
theorem mem_prefix (x : Nat) : ∀ (k : Nat), mem D sz H (fun y => decide (y < x)) (x + k) i = mem D sz H (fun _ => true) x i
  | 0 => mem_congr x fun y hy _ => decide_eq_true hy
  | k + 1 => by
    rw [← Nat.add_assoc]
    simp only [mem]
    rw [if_neg (by simp), mem_prefix x k]

/-- One more: what it touches is as it left it. -/
theorem mem_insert_hit {x n : Nat} {o : AObj} (hx : x < n) (hu : upd D sz H x i = some o) (hno : ∀ y, y < n → x < y → L y = true → upd D sz H y i = none) : mem D sz H (fun y => y == x || L y) n i = o := by
  obtain ⟨k, rfl⟩ : ∃ k, n = x + 1 + k := ⟨n - (x + 1), by omega⟩
  clear hx
  induction k with
  | zero => simp [mem, hu]
  | succ k ih =>
    have ih := ih fun y hy => hno y (by omega)
    rw [← Nat.add_assoc]
    simp only [mem]
    rw [ih]
    have e1 : (x + 1 + k == x) = false := by simp; omega
    simp only [e1, Bool.false_or]
    split
    · rename_i hL
      rw [hno (x + 1 + k) (by omega) (by omega) hL]; rfl
    · rfl

theorem mem_insert_miss {x n : Nat} (hu : upd D sz H x i = none) : mem D sz H (fun y => y == x || L y) n i = mem D sz H L n i :=
  mem_congr n fun y _ hy => by
    by_cases e : y = x
    · subst e; exact absurd hu hy
    · simp [e]

/-- What it holds: from the beginning, or as one of those left it. -/
theorem mem_from : ∀ (n : Nat), mem D sz H L n i = ((H 0).objs[i]?).getD .dead ∧ (∀ y, y < n → L y = true → upd D sz H y i = none) ∨ ∃ y o, y < n ∧ L y = true ∧ upd D sz H y i = some o ∧ mem D sz H L n i = o
  | 0 => .inl ⟨rfl, fun y hy => by omega⟩
  | n + 1 => by
    simp only [mem]
    by_cases hL : L n = true
    · rw [if_pos hL]
      cases hu : upd D sz H n i with
      | some o => exact .inr ⟨n, o, by omega, hL, hu, rfl⟩
      | none =>
        simp only [Option.getD_none]
        rcases mem_from n with ⟨h1, h2⟩ | ⟨y, o, h1, h2, h3, h4⟩
        · refine .inl ⟨h1, fun y hy hl => ?_⟩
          by_cases e : y = n
          · subst e; exact hu
          · exact h2 y (by omega) hl
        · exact .inr ⟨y, o, by omega, h2, h3, h4⟩
    · rw [if_neg hL]
      rcases mem_from n with ⟨h1, h2⟩ | ⟨y, o, h1, h2, h3, h4⟩
      · refine .inl ⟨h1, fun y hy hl => ?_⟩
        by_cases e : y = n
        · subst e; exact absurd hl hL
        · exact h2 y (by omega) hl
      · exact .inr ⟨y, o, by omega, h2, h3, h4⟩

end

end
end Go.Abs
