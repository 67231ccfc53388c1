/-
  What the machine does to memory, on both sides: a new object, a store, an object that takes another's place.
-/
import Derived.Test.YtnpjncdnlacmeaaAbsRel
namespace Go.Abs

section
variable {E : Env} {μ : MM} {h : Heap} {w : World}

/-- The world with another thing in one block. -/
def withBlock (w : World) (b : Nat) (o : Obj) : World := { w with heap := w.heap.setIfInBounds b o }

theorem withBlock_same {w : World} {b : Nat} {o : Obj} (hb : b < w.heap.size) : (withBlock w b o).heap[b]? = some o := by
  simp [withBlock, hb]
theorem withBlock_other {w : World} {b k : Nat} {o : Obj} (hb : b ≠ k) : (withBlock w b o).heap[k]? = w.heap[k]? := by
  simp [withBlock, Array.getElem?_setIfInBounds_ne hb]

theorem lt_heap {w : World} {b : Nat} {o : Obj} (h : w.heap[b]? = some o) : b < w.heap.size := lt_of_get (l := w.heap.toList) (by simpa using h)

/-- Rel speaks of the heap alone, of the abstract heap's objects and base alone. -/
theorem Rel.same (hr : Rel E μ h w) {h' : Heap} {w' : World} (ho : h'.objs = h.objs) (hb : h'.base = h.base) (hw : w'.heap = w.heap) : Rel E μ h' w' := by
  refine ⟨by rw [ho]; exact hr.len, by rw [ho, hb]; exact hr.bs, fun i o hi => ?_, fun i j mi mj hn hi => ?_, fun i m hm => by rw [hw]; exact hr.lt i m hm⟩
  · rw [hb]; rw [ho] at hi
    exact (hr.obj i o hi).keep (Later.refl _) fun m hm => ⟨hm, by rw [hw]⟩
  · rw [hb] at hi; exact hr.sep i j mi mj hn hi

/-- Blocks that are no object's may change as they like. -/
theorem Rel.keep (hr : Rel E μ h w) {w' : World} (hs : w.heap.size ≤ w'.heap.size) (hk : ∀ (i : Nat) (m : M), μ[i]? = some (some m) → w'.heap[m.blk]? = w.heap[m.blk]?) : Rel E μ h w' :=
  ⟨hr.len, hr.bs, fun i o hi => (hr.obj i o hi).keep (Later.refl _) fun m hm => ⟨hm, hk i m hm⟩, hr.sep, fun i m hm => Nat.lt_of_lt_of_le (hr.lt i m hm) hs⟩

theorem later_push (μ : MM) (x : Option M) : Later μ (μ ++ [x]) :=
  ⟨by simp, fun i hi => .inl (by rw [List.getElem?_append_left hi])⟩

theorem get_push {μ : MM} {x : Option M} {i : Nat} {m : Option M} (hm : (μ ++ [x])[i]? = some m) : μ[i]? = some m ∨ (i = μ.length ∧ x = m) := by
  rcases Nat.lt_or_ge i μ.length with h1 | h1
  · rw [List.getElem?_append_left h1] at hm; exact .inl hm
  · rw [List.getElem?_append_right h1] at hm
    have : i - μ.length = 0 := by
      rcases Nat.eq_zero_or_pos (i - μ.length) with h2 | h2
      · exact h2
      · rw [List.getElem?_eq_none (by simp; omega)] at hm; cases hm
    rw [this] at hm; simp at hm
    exact .inr ⟨by omega, hm⟩

/-- A new object in a new block. -/
theorem Rel.push (hr : Rel E μ h w) (o : AObj) (B : Obj) (m : M) (hm : m.blk = w.heap.size)
    (ho : ORel E (μ ++ [some m]) h.base μ.length { w with heap := w.heap.push B } o) :
    Rel E (μ ++ [some m]) (h.push o) { w with heap := w.heap.push B } := by
  have hblk : ∀ k, k < w.heap.size → (w.heap.push B)[k]? = w.heap[k]? := fun k hk => by
    rw [Array.getElem?_push, if_neg (by omega)]
  refine ⟨by simp [Heap.push, hr.len], by have := hr.bs; simp [Heap.push]; omega, fun i o' hi => ?_, fun i j mi mj hn hi h1 h2 => ?_, fun i m' hm' => ?_⟩
  · simp only [Heap.push] at hi ⊢
    rcases Nat.lt_or_ge i h.objs.length with h1 | h1
    · rw [List.getElem?_append_left h1] at hi
      exact (hr.obj i o' hi).keep (later_push μ _) fun m' hm' => ⟨by rw [List.getElem?_append_left (lt_of_get hm')]; exact hm', hblk _ (hr.lt i m' hm')⟩
    · rw [List.getElem?_append_right h1] at hi
      have h2 : i - h.objs.length = 0 := by
        rcases Nat.eq_zero_or_pos (i - h.objs.length) with h2 | h2
        · exact h2
        · rw [List.getElem?_eq_none (by simp; omega)] at hi; cases hi
      rw [h2] at hi; simp at hi; subst hi
      have : i = μ.length := by rw [hr.len]; omega
      subst this; exact ho
  · rcases get_push h1 with a | ⟨rfl, a⟩ <;> rcases get_push h2 with b | ⟨rfl, b⟩
    · exact hr.sep i j mi mj hn hi a b
    · cases b; have := hr.lt i mi a; omega
    · cases a; have := hr.lt j mj b; omega
    · exact absurd rfl hn
  · rcases get_push hm' with a | ⟨rfl, a⟩
    · have := hr.lt i m' a; simp; omega
    · cases a; simp [hm]

theorem Step.push {X : Nat → Prop} (wm : Nat) (μ : MM) (w : World) (B : Obj) (m : M) (hm : w.heap.size ≤ m.blk) : Step X wm μ w (μ ++ [some m]) { w with heap := w.heap.push B } where
  os := rfl
  tape := rfl
  output := rfl
  size := by simp
  block := fun k hk _ _ => by
    show (w.heap.push B)[k]? = _
    rw [Array.getElem?_push, if_neg (by omega)]
  len := by simp
  old := fun i hi => .inl (by rw [List.getElem?_append_left hi])
  new := fun i m' hi hm' => by
    rcases get_push hm' with a | ⟨_, a⟩
    · exact absurd (lt_of_get a) (by omega)
    · cases a; exact .inl hm

/-- A draw, and what else is told of no block. -/
theorem Step.heap {X : Nat → Prop} {wm : Nat} {μ μ' : MM} {w w' w1 : World} (h : Step X wm μ w μ' w') (e1 : w1.heap = w'.heap) (e2 : w1.os = w'.os) (e3 : w1.tape = w'.tape) (e4 : w1.output = w'.output) : Step X wm μ w μ' w1 :=
  ⟨e2.trans h.os, e3.trans h.tape, e4.trans h.output, by rw [e1]; exact h.size, fun k hk hx hn => by rw [e1]; exact h.block k hk hx hn, h.len, h.old, h.new⟩

theorem get_set {μ : MM} {i j : Nat} {x : Option M} : (μ.set i x)[j]? = if i = j then (if j < μ.length then some x else none) else μ[j]? := by
  by_cases e : i = j
  · subst e; simp [List.getElem?_set_self']; split <;> simp_all
  · simp [e]

/-- A store into an object's block: the object is another one. -/
theorem Rel.put (hr : Rel E μ h w) {i : Nat} {m : M} {o : AObj} {B : Obj} (hi : h.base ≤ i) (hm : μ[i]? = some (some m))
    (ho : ORel E μ h.base i (withBlock w m.blk B) o) : Rel E μ (h.put i o) (withBlock w m.blk B) := by
  have hlt := hr.lt i m hm
  refine ⟨by simp [Heap.put, hr.len], by simpa [Heap.put] using hr.bs, fun j o' hj => ?_, hr.sep, fun j m' hm' => by simp [withBlock]; exact hr.lt j m' hm'⟩
  simp only [Heap.put] at hj ⊢
  by_cases e : i = j
  · subst e
    have : i < h.objs.length := by rw [← hr.len]; exact lt_of_get hm
    simp [this] at hj; subst hj; exact ho
  · rw [List.getElem?_set_ne e] at hj
    exact (hr.obj j o' hj).keep (Later.refl _) fun m' hm' => ⟨hm', withBlock_other (hr.sep i j m m' e hi hm hm')⟩

theorem Step.put {X : Nat → Prop} {wm : Nat} {i : Nat} {m : M} (hm : μ[i]? = some (some m)) (hw : wm ≤ i) (B : Obj) : Step X wm μ w μ (withBlock w m.blk B) where
  os := rfl
  tape := rfl
  output := rfl
  size := by simp [withBlock]
  block := fun k _ _ hn => withBlock_other (hn i m hw hm)
  len := Nat.le_refl _
  old := fun _ _ => .inl rfl
  new := fun j m' hj hm' => absurd (lt_of_get hm') (by omega)

theorem later_set (μ : MM) (i : Nat) : Later μ (μ.set i none) :=
  ⟨by simp, fun j hj => by
    rw [get_set]
    by_cases e : i = j
    · right; subst e; simp [hj]
    · left; simp [e]⟩

/-- An object goes (nothing of the world changes). -/
theorem Rel.kill (hr : Rel E μ h w) (i : Nat) : Rel E (μ.set i none) (h.put i .dead) w := by
  refine ⟨by simp [Heap.put, hr.len], by simpa [Heap.put] using hr.bs, fun j o hj => ?_, fun j k mj mk hn hj h1 h2 => ?_, fun j m hm => ?_⟩
  · simp only [Heap.put] at hj ⊢
    by_cases e : i = j
    · subst e
      rw [List.getElem?_set_self'] at hj
      cases hx : h.objs[i]? with
      | none => rw [hx] at hj; simp at hj
      | some y =>
        rw [hx] at hj; simp at hj; subst hj
        simp only [ORel]
        rw [get_set, if_pos rfl, if_pos (by rw [hr.len]; exact lt_of_get hx)]
    · rw [List.getElem?_set_ne e] at hj
      exact (hr.obj j o hj).keep (later_set μ i) fun m hm => ⟨by rw [get_set, if_neg e]; exact hm, rfl⟩
  · rw [get_set] at h1 h2
    simp only [Heap.put] at hj
    have e1 : i ≠ j := by
      intro e; rw [if_pos e] at h1
      split at h1 <;> cases h1
    have e2 : i ≠ k := by
      intro e; rw [if_pos e] at h2
      split at h2 <;> cases h2
    rw [if_neg e1] at h1; rw [if_neg e2] at h2
    exact hr.sep j k mj mk hn hj h1 h2
  · rw [get_set] at hm
    split at hm
    · split at hm <;> cases hm
    · exact hr.lt j m hm

theorem Step.kill {X : Nat → Prop} {wm : Nat} (μ : MM) (w : World) {i : Nat} (hw : wm ≤ i) : Step X wm μ w (μ.set i none) w where
  os := rfl
  tape := rfl
  output := rfl
  size := Nat.le_refl _
  block := fun _ _ _ _ => rfl
  len := by simp
  old := fun j hj => by
    rw [get_set]
    by_cases e : i = j
    · right; subst e; simp [hj, hw]
    · left; simp [e]
  new := fun j m hj hm => absurd (lt_of_get hm) (by simp; omega)

/-- An object takes the block of one that has gone: it is a new object in an old block. -/
theorem Rel.take (hr : Rel E μ h w) {i : Nat} {m m' : M} {o : AObj} {B : Obj} (hi : h.base ≤ i) (hm : μ[i]? = some (some m)) (hb : m'.blk = m.blk)
    (ho : ORel E (μ.set i none ++ [some m']) h.base μ.length (withBlock w m.blk B) o) :
    Rel E (μ.set i none ++ [some m']) ((h.put i .dead).push o) (withBlock w m.blk B) := by
  have hk := hr.kill i
  have hlen : (μ.set i none).length = μ.length := by simp
  have hne : ∀ (j : Nat) (mj : M), (μ.set i none)[j]? = some (some mj) → mj.blk ≠ m.blk := by
    intro j mj hj
    rw [get_set] at hj
    by_cases e : i = j
    · rw [if_pos e] at hj; split at hj <;> cases hj
    · rw [if_neg e] at hj; exact fun e' => hr.sep i j m mj e hi hm hj e'.symm
  refine ⟨by simp [Heap.push, Heap.put, hr.len], by have := hr.bs; simp [Heap.push, Heap.put]; omega, fun j o' hj => ?_, fun j k mj mk hn hj h1 h2 => ?_, fun j mj hmj => ?_⟩
  · simp only [Heap.push] at hj
    rcases Nat.lt_or_ge j (h.put i .dead).objs.length with h1 | h1
    · rw [List.getElem?_append_left h1] at hj
      exact (hk.obj j o' hj).keep (later_push _ _) fun mj hmj => ⟨by rw [List.getElem?_append_left (lt_of_get hmj)]; exact hmj, withBlock_other (hne j mj hmj).symm⟩
    · rw [List.getElem?_append_right h1] at hj
      have h2 : j - (h.put i .dead).objs.length = 0 := by
        rcases Nat.eq_zero_or_pos (j - (h.put i .dead).objs.length) with h2 | h2
        · exact h2
        · rw [List.getElem?_eq_none (by simp; omega)] at hj; cases hj
      rw [h2] at hj; simp at hj; subst hj
      have : j = μ.length := by rw [hr.len]; simp [Heap.put] at h1 h2; omega
      subst this; exact ho
  · rcases get_push h1 with a | ⟨e1, a⟩ <;> rcases get_push h2 with b | ⟨e2, b⟩
    · exact hk.sep j k mj mk hn hj a b
    · cases b; rw [hb]; exact hne j mj a
    · cases a; rw [hb]; exact fun e => hne k mk b e.symm
    · exact absurd (e1.trans e2.symm) hn
  · rcases get_push hmj with a | ⟨e, a⟩
    · have := hk.lt j mj a; simpa [withBlock] using this
    · cases a; rw [hb]; simpa [withBlock] using hr.lt i m hm

theorem Step.take {X : Nat → Prop} {wm : Nat} {i : Nat} {m m' : M} (B : Obj) (hm : μ[i]? = some (some m)) (hb : m'.blk = m.blk) (hw : wm ≤ i) :
    Step X wm μ w (μ.set i none ++ [some m']) (withBlock w m.blk B) where
  os := rfl
  tape := rfl
  output := rfl
  size := by simp [withBlock]
  block := fun k _ _ hn => withBlock_other (hn i m hw hm)
  len := by simp
  old := fun j hj => by
    rw [List.getElem?_append_left (by simpa using hj)]
    exact (Step.kill (X := X) μ w hw).old j hj
  new := fun j mj hj hmj => by
    rcases get_push hmj with a | ⟨_, a⟩
    · exact absurd (lt_of_get a) (by simp; omega)
    · cases a; exact .inr ⟨i, m, hw, hm, hb.symm⟩

end

/-! ## Loads and stores -/

def one? : Value → Bool
  | .agg _ | .tuple _ => false
  | _ => true

section
variable {P : Program} {w : World}

theorem cell_of_block {w : World} {b o : Nat} {c : Array Value} {e : TypeId} {fr : Nat × Nat} (hb : w.heap[b]? = some (.cells c e fr)) : w.cell? ⟨b, o, none⟩ = c[o]? := by
  simp [World.cell?, hb]

theorem frozen_of_block {w : World} {b o : Nat} {c : Array Value} {e : TypeId} {fr : Nat × Nat} (hb : w.heap[b]? = some (.cells c e fr)) : w.frozen? ⟨b, o, none⟩ = decide (fr.1 ≤ o ∧ o < fr.2) := by
  obtain ⟨lo, hi⟩ := fr
  simp [World.frozen?, hb]

theorem setCell_block {w : World} {b o : Nat} {c : Array Value} {e0 : TypeId} {fr : Nat × Nat} (v : Value) (hb : w.heap[b]? = some (.cells c e0 fr)) :
    w.setCell ⟨b, o, none⟩ v = withBlock w b (.cells (c.setIfInBounds o v) e0 fr) := by
  have hl := lt_heap hb
  simp only [World.setCell, withBlock]
  congr 1
  apply Array.ext_getElem?
  intro k
  rw [Array.getElem?_modify, Array.getElem?_setIfInBounds]
  by_cases e : b = k
  · subst e
    have hb' : w.heap[b] = .cells c e0 fr := by rw [Array.getElem?_eq_getElem hl] at hb; exact Option.some.inj hb
    simp [hl, hb']
  · simp [e]

theorem withBlock_twice (w : World) (b : Nat) (o o' : Obj) : withBlock (withBlock w b o) b o' = withBlock w b o' := by
  simp [withBlock]

def spliceA (c : Array Value) (off : Nat) (vs : List Value) : Array Value :=
  match vs with
  | [] => c
  | v :: r => spliceA (c.setIfInBounds off v) (off + 1) r

theorem spliceA_size : ∀ (vs : List Value) (c : Array Value) (off : Nat), (spliceA c off vs).size = c.size
  | [], _, _ => rfl
  | v :: r, c, off => by simp [spliceA, spliceA_size r]

theorem spliceA_get : ∀ (vs : List Value) (c : Array Value) (off k : Nat), off + vs.length ≤ c.size →
    (spliceA c off vs)[k]? = if off ≤ k ∧ k < off + vs.length then vs[k - off]? else c[k]?
  | [], c, off, k, _ => by
    simp only [spliceA, List.length_nil, Nat.add_zero]
    rw [if_neg (by omega)]
  | v :: r, c, off, k, h => by
    simp only [List.length_cons] at h
    simp only [spliceA]
    rw [spliceA_get r _ (off + 1) k (by simp; omega)]
    by_cases h1 : off = k
    · subst h1
      have h3 : off < c.size := by omega
      rw [if_neg (by omega), if_pos (by simp)]
      simp [h3]
    · by_cases h2 : off ≤ k ∧ k < off + (v :: r).length
      · rw [if_pos h2, if_pos (by simp at h2; omega)]
        have : k - off = (k - (off + 1)) + 1 := by omega
        rw [this]; simp
      · rw [if_neg h2, if_neg (by simp at h2; omega), Array.getElem?_setIfInBounds_ne h1]

theorem run_storeCells {b : Nat} {e : TypeId} {fr : Nat × Nat} {a : Addr} (ha : a.block = b) (hs : a.spot = none) : ∀ (vs : List Value) (i : Nat) (c : Array Value) (w : World),
    w.heap[b]? = some (.cells c e fr) → a.off + i + vs.length ≤ c.size → (∀ off, off < c.size → ¬ (fr.1 ≤ off ∧ off < fr.2)) → (∀ v ∈ vs, one? v = true) →
    (storeCells a vs i).run P w = .ok () (withBlock w b (.cells (spliceA c (a.off + i) vs) e fr))
  | [], i, c, w, hb, _, _, _ => by
    simp only [storeCells, spliceA]
    show Result.ok () w = _
    congr 1
    simp only [withBlock]
    have hl := lt_heap hb
    have : w.heap.setIfInBounds b (.cells c e fr) = w.heap := by
      apply Array.ext_getElem?
      intro k
      by_cases e : b = k
      · subst e; simp [hl]
        simpa [hl] using hb.symm
      · simp [Array.getElem?_setIfInBounds_ne e]
    rw [this]
  | v :: r, i, c, w, hb, hl, hf, h1 => by
    have hadd : a.add i = ⟨b, a.off + i, none⟩ := by
      unfold Addr.add
      split
      · rename_i h0; subst h0; cases a; simp at ha hs; subst ha; subst hs; simp
      · cases a; simp at ha; subst ha; rfl
    have hv : one? v = true := h1 v (List.mem_cons_self ..)
    have hi : a.off + i < c.size := by simp at hl; omega
    have hcell : w.cell? (a.add i) = some c[a.off + i] := by rw [hadd, cell_of_block hb]; simp [hi]
    have hfz : w.frozen? (a.add i) = false := by rw [hadd, frozen_of_block hb]; simpa using hf _ hi
    have hstore : (store (a.add i) v).run P w = .ok () (w.setCell (a.add i) v) := by
      cases v <;> simp only [one?, Bool.false_eq_true] at hv <;> simp [store, Sem.run, hcell, hfz]
    simp only [storeCells, Sem.run_bind, hstore, Result.andThen_ok]
    rw [hadd, setCell_block v hb]
    have hb' : (withBlock w b (.cells (c.setIfInBounds (a.off + i) v) e fr)).heap[b]? = some (.cells (c.setIfInBounds (a.off + i) v) e fr) := withBlock_same (lt_heap hb)
    rw [run_storeCells ha hs r (i + 1) _ _ hb' (by simp at hl ⊢; omega) (by simpa using hf) (fun x hx => h1 x (List.mem_cons_of_mem _ hx)), withBlock_twice]
    rfl

theorem oneCell_of {E : Env} {μ : MM} {a : AVal} {v : Value} (h : VRel E μ a v) (hc : a.isOne = true) : one? v = true := by
  obtain ⟨h1, h2⟩ := one_rel h hc
  cases v <;> first | rfl | (exact absurd ⟨_, rfl⟩ h1) | (exact absurd ⟨_, rfl⟩ h2)

theorem oneCell_all {E : Env} {μ : MM} {as : List AVal} {l : List Value} (h : VRels E μ as l) (hc : ∀ x ∈ as, x.isOne = true) : ∀ v ∈ l, one? v = true := by
  induction as generalizing l with
  | nil => simp only [VRels] at h; subst h; simp
  | cons a as ih =>
    simp only [VRels] at h
    obtain ⟨v, r, rfl, h1, h2⟩ := h
    intro x hx
    rcases List.mem_cons.1 hx with rfl | hx
    · exact oneCell_of h1 (hc a (List.mem_cons_self ..))
    · exact ih h2 (fun y hy => hc y (List.mem_cons_of_mem _ hy)) x hx

/-- Cells behind a splice, on both sides. -/
theorem CRel.splice {E : Env} {μ : MM} {cs xs : List AVal} {c : Array Value} {l : List Value} {b o : Nat} (h : CRel E μ cs c b) (hx : VRels E μ xs l) (h1 : ∀ x ∈ xs, x.isOne = true)
    (ho : o + xs.length ≤ cs.length) (hs : b + cs.length ≤ c.size) : CRel E μ (Abs.splice cs o xs) (spliceA c (b + o) l) b := by
  have hl := hx.length
  intro k v hk
  rw [spliceA_get l c (b + o) (b + k) (by omega)]
  simp only [Abs.splice] at hk
  by_cases h2 : k < o
  · rw [List.append_assoc, List.getElem?_append_left (by simp; omega), List.getElem?_take_of_lt h2] at hk
    rw [if_neg (by omega)]
    exact h k v hk
  · by_cases h3 : k < o + xs.length
    · rw [List.append_assoc, List.getElem?_append_right (by simp; omega), List.getElem?_append_left (by simp; omega)] at hk
      have : k - (List.take o cs).length = k - o := by simp; omega
      rw [this] at hk
      obtain ⟨v', hv', hr⟩ := hx.get hk
      rw [if_pos (by omega)]
      refine ⟨h1 v (List.mem_of_getElem? hk), v', ?_, hr⟩
      rw [← hv']; congr 1; omega
    · rw [List.getElem?_append_right (by simp; omega)] at hk
      rw [List.getElem?_drop] at hk
      have : o + xs.length + (k - (List.take o cs ++ xs).length) = k := by simp; omega
      rw [this] at hk
      rw [if_neg (by omega)]
      exact h k v hk

theorem splice_length (cs : List AVal) (o : Nat) (xs : List AVal) (h : o + xs.length ≤ cs.length) : (splice cs o xs).length = cs.length := by
  simp [splice]; omega

end
end Go.Abs
