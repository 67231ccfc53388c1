/-
  How a state of the abstract machine and a world of the model belong together.
-/
import Derived.Test.YtnpjncdnlacmeaaAbsComp
import Derived.Calls
import Derived.Laws.Sem
import Derived.Laws.Cells
namespace Go.Abs

/-- Where an object lies: its block, the place in it at which it begins, how many cells the block has, of how many cells an element is. -/
structure M where
  blk : Nat
  base : Nat
  size : Nat
  esz : Nat

abbrev MM := List (Option M)

def ARel (μ : MM) (i o : Nat) (a : Addr) : Prop := ∃ x, μ[i]? = some x ∧ ∀ m, x = some m → a = ⟨m.blk, m.base + o, none⟩

mutual
def VRel (E : Env) (μ : MM) : AVal → Value → Prop
  | .bool b, v => v = .bool b
  | .int k n, v => v = .int k n
  | .str s, v => v = .string ⟨s.toArray⟩
  | .ptr none, v => v = .pointer none
  | .ptr (some (i, o)), v => ∃ a, v = .pointer (some a) ∧ ARel μ i o a
  | .slice none n c, v => n = 0 ∧ c = some 0 ∧ v = .slice none 0 0
  | .slice (some (i, o)) n c, v => ∃ a cap, v = .slice (some a) n cap ∧ i < μ.length ∧ (0 < cap → ARel μ i o a) ∧ (∀ k, c = some k → cap = k) ∧ n ≤ cap ∧
      (∀ m, μ[i]? = some (some m) → m.base + o + cap * m.esz ≤ m.size)
  | .map none, v => v = .map none
  | .map (some i), v => ∃ b x, v = .map (some b) ∧ μ[i]? = some x ∧ ∀ m, x = some m → b = m.blk
  | .func g f c, v => ∃ fid f' c', v = .func (.func fid) f' c' ∧ E.gid fid = some g ∧ VRels E μ f f'.toList ∧ VRels E μ c c'.toList
  | .nilFunc, v => v = .nilFunc
  | .iface _ _, _ => False
  | .nilIface, v => v = .nilIface
  | .agg cs, v => ∃ cs', v = .agg cs' ∧ VRels E μ cs cs'.toList ∧ ∀ x ∈ cs, x.isOne = true
  | .tuple vs, v => ∃ vs', v = .tuple vs' ∧ VRels E μ vs vs'.toList
  | .yield i, v => ∃ l x, v = .func (.yield l) #[] #[] ∧ μ[i]? = some x ∧ ∀ m, x = some m → l = m.blk
def VRels (E : Env) (μ : MM) : List AVal → List Value → Prop
  | [], l => l = []
  | a :: as, l => ∃ v r, l = v :: r ∧ VRel E μ a v ∧ VRels E μ as r
end

section
variable {E : Env} {μ μ' : MM}

theorem VRels.length : ∀ {as : List AVal} {l : List Value}, VRels E μ as l → as.length = l.length
  | [], l, h => by simp only [VRels] at h; subst h; rfl
  | a :: as, l, h => by
    simp only [VRels] at h
    obtain ⟨v, r, rfl, _, h2⟩ := h
    simp [VRels.length h2]

theorem VRels.get : ∀ {as : List AVal} {l : List Value}, VRels E μ as l → ∀ {k : Nat} {a : AVal}, as[k]? = some a → ∃ v, l[k]? = some v ∧ VRel E μ a v
  | [], l, _, k, a, hk => by simp at hk
  | x :: as, l, h, 0, a, hk => by
    simp only [VRels] at h
    obtain ⟨v, r, rfl, h1, _⟩ := h
    simp at hk; subst hk
    exact ⟨v, rfl, h1⟩
  | x :: as, l, h, k + 1, a, hk => by
    simp only [VRels] at h
    obtain ⟨v, r, rfl, _, h2⟩ := h
    simp at hk
    obtain ⟨u, hu, hr⟩ := VRels.get h2 hk
    exact ⟨u, by simpa using hu, hr⟩

theorem VRels.of : ∀ {as : List AVal} {l : List Value}, as.length = l.length → (∀ (k : Nat) (a : AVal), as[k]? = some a → ∃ v : Value, l[k]? = some v ∧ VRel E μ a v) → VRels E μ as l
  | [], l, h, _ => by
    simp only [VRels]
    exact List.eq_nil_of_length_eq_zero (by simpa using h.symm)
  | a :: as, [], h, _ => by simp at h
  | a :: as, v :: l, h, hk => by
    simp only [VRels]
    refine ⟨v, l, rfl, ?_, VRels.of (by simpa using h) fun k a' hka => ?_⟩
    · obtain ⟨u, hu, hr⟩ := hk 0 a rfl
      simp at hu; subst hu; exact hr
    · obtain ⟨u, hu, hr⟩ := hk (k + 1) a' (by simpa using hka)
      exact ⟨u, by simpa using hu, hr⟩

theorem VRels.append {as bs : List AVal} {l r : List Value} (h1 : VRels E μ as l) (h2 : VRels E μ bs r) : VRels E μ (as ++ bs) (l ++ r) := by
  induction as generalizing l with
  | nil => simp only [VRels] at h1; subst h1; simpa using h2
  | cons a as ih =>
    simp only [VRels] at h1
    obtain ⟨v, t, rfl, hv, ht⟩ := h1
    simp only [List.cons_append, VRels]
    exact ⟨v, t ++ r, rfl, hv, ih ht⟩

/-- What was known of an object stays known, or the object is gone. -/
structure Later (μ μ' : MM) : Prop where
  len : μ.length ≤ μ'.length
  old : ∀ i, i < μ.length → μ'[i]? = μ[i]? ∨ μ'[i]? = some none

theorem Later.refl (μ : MM) : Later μ μ := ⟨Nat.le_refl _, fun _ _ => .inl rfl⟩
theorem Later.trans {a b c : MM} (h : Later a b) (k : Later b c) : Later a c :=
  ⟨Nat.le_trans h.len k.len, fun i hi => by
    rcases k.old i (Nat.lt_of_lt_of_le hi h.len) with h1 | h1
    · rcases h.old i hi with h2 | h2
      · exact .inl (h1.trans h2)
      · exact .inr (h1.trans h2)
    · exact .inr h1⟩

theorem lt_of_get {α : Type} {l : List α} {i : Nat} {x : α} (h : l[i]? = some x) : i < l.length := by
  rcases Nat.lt_or_ge i l.length with h1 | h1
  · exact h1
  · rw [List.getElem?_eq_none h1] at h; cases h

theorem Later.get (h : Later μ μ') {i : Nat} {x : Option M} (hi : μ[i]? = some x) : μ'[i]? = some x ∨ μ'[i]? = some none := by
  rcases h.old i (lt_of_get hi) with h1 | h1
  · exact .inl (h1.trans hi)
  · exact .inr h1

theorem Later.back (h : Later μ μ') {i : Nat} {m : M} (hl : i < μ.length) (hi : μ'[i]? = some (some m)) : μ[i]? = some (some m) := by
  rcases h.old i hl with h1 | h1
  · exact h1.symm.trans hi
  · rw [hi] at h1; cases h1

theorem ARel.later (h : Later μ μ') {i o : Nat} {a : Addr} (ha : ARel μ i o a) : ARel μ' i o a := by
  obtain ⟨x, hx, hm⟩ := ha
  rcases h.get hx with h1 | h1
  · exact ⟨x, h1, hm⟩
  · exact ⟨none, h1, fun m hm => by cases hm⟩

mutual
theorem VRel.later (h : Later μ μ') : ∀ {a : AVal} {v : Value}, VRel E μ a v → VRel E μ' a v
  | .bool b, v, hv => by simpa only [VRel] using hv
  | .int k n, v, hv => by simpa only [VRel] using hv
  | .str s, v, hv => by simpa only [VRel] using hv
  | .ptr none, v, hv => by simpa only [VRel] using hv
  | .ptr (some (i, o)), v, hv => by
    simp only [VRel] at hv ⊢
    obtain ⟨a, ha, hr⟩ := hv
    exact ⟨a, ha, hr.later h⟩
  | .slice none n c, v, hv => by simpa only [VRel] using hv
  | .slice (some (i, o)) n c, v, hv => by
    simp only [VRel] at hv ⊢
    obtain ⟨a, cap, ha, hi, hr, h1, h2, h3⟩ := hv
    exact ⟨a, cap, ha, Nat.lt_of_lt_of_le hi h.len, fun hc => (hr hc).later h, h1, h2, fun m hm => h3 m (h.back hi hm)⟩
  | .map none, v, hv => by simpa only [VRel] using hv
  | .map (some i), v, hv => by
    simp only [VRel] at hv ⊢
    obtain ⟨b, x, ha, hx, hm⟩ := hv
    rcases h.get hx with h1 | h1
    · exact ⟨b, x, ha, h1, hm⟩
    · exact ⟨b, none, ha, h1, fun m hm => by cases hm⟩
  | .func g f c, v, hv => by
    simp only [VRel] at hv ⊢
    obtain ⟨fid, f', c', e, hg, h1, h2⟩ := hv
    exact ⟨fid, f', c', e, hg, VRels.later h h1, VRels.later h h2⟩
  | .nilFunc, v, hv => by simpa only [VRel] using hv
  | .iface _ _, v, hv => by simp only [VRel] at hv
  | .nilIface, v, hv => by simpa only [VRel] using hv
  | .agg cs, v, hv => by
    simp only [VRel] at hv ⊢
    obtain ⟨cs', e, h1, h2⟩ := hv
    exact ⟨cs', e, VRels.later h h1, h2⟩
  | .tuple vs, v, hv => by
    simp only [VRel] at hv ⊢
    obtain ⟨cs', e, h1⟩ := hv
    exact ⟨cs', e, VRels.later h h1⟩
  | .yield i, v, hv => by
    simp only [VRel] at hv ⊢
    obtain ⟨b, x, ha, hx, hm⟩ := hv
    rcases h.get hx with h1 | h1
    · exact ⟨b, x, ha, h1, hm⟩
    · exact ⟨b, none, ha, h1, fun m hm => by cases hm⟩
theorem VRels.later (h : Later μ μ') : ∀ {as : List AVal} {l : List Value}, VRels E μ as l → VRels E μ' as l
  | [], l, hl => by simpa only [VRels] using hl
  | a :: as, l, hl => by
    simp only [VRels] at hl ⊢
    obtain ⟨v, r, e, h1, h2⟩ := hl
    exact ⟨v, r, e, VRel.later h h1, VRels.later h h2⟩
end

theorem toA1_rel {v : Value} {a : AVal} (h : toA1 v = some a) (μ : MM) : VRel E μ a v ∧ a.isOne = true := by
  unfold toA1 at h
  split at h <;> cases h <;> simp [VRel, AVal.isOne]

theorem toAs_rel : ∀ {l : List Value} {as : List AVal}, toAs l = some as → ∀ μ : MM, VRels E μ as l ∧ ∀ x ∈ as, x.isOne = true
  | [], as, h, μ => by simp only [toAs] at h; cases h; simp [VRels]
  | v :: r, as, h, μ => by
    simp only [toAs] at h
    split at h
    · rename_i a as' h1 h2
      cases h
      obtain ⟨k1, k2⟩ := toA1_rel (E := E) h1 μ
      obtain ⟨k3, k4⟩ := toAs_rel h2 μ
      refine ⟨?_, ?_⟩
      · simp only [VRels]; exact ⟨v, r, rfl, k1, k3⟩
      · intro x hx
        rcases List.mem_cons.1 hx with rfl | hx
        · exact k2
        · exact k4 x hx
    · simp at h

theorem toA_rel {v : Value} {a : AVal} (h : toA v = some a) (μ : MM) : VRel E μ a v := by
  unfold toA at h
  split at h
  · rename_i cs
    rw [Option.map_eq_some_iff] at h
    obtain ⟨as, h1, rfl⟩ := h
    obtain ⟨k1, k2⟩ := toAs_rel (E := E) h1 μ
    simp only [VRel]
    exact ⟨cs, rfl, k1, k2⟩
  · exact (toA1_rel h μ).1

/-- A value's cells. -/
theorem cells_rel {a : AVal} {v : Value} {as : List AVal} (h : VRel E μ a v) (hc : a.cells? = some as) :
    VRels E μ as v.cells.toList ∧ ∀ x ∈ as, x.isOne = true := by
  have one : ∀ {a : AVal} {v : Value}, a.isOne = true → v.cells = #[v] → VRel E μ a v → VRels E μ [a] v.cells.toList ∧ ∀ x ∈ [a], x.isOne = true := by
    intro a v h1 h2 h3
    rw [h2]
    refine ⟨?_, ?_⟩
    · simp only [VRels]; exact ⟨v, [], rfl, h3, rfl⟩
    · intro x hx; rw [List.mem_singleton] at hx; subst hx; exact h1
  cases a with
  | agg cs =>
    simp only [AVal.cells?] at hc; cases hc
    simp only [VRel] at h
    obtain ⟨cs', rfl, h1, h2⟩ := h
    exact ⟨h1, h2⟩
  | tuple vs => simp [AVal.cells?] at hc
  | iface t x => simp only [VRel] at h
  | bool b => simp only [AVal.cells?] at hc; cases hc; exact one rfl (by simp only [VRel] at h; subst h; rfl) h
  | int k n => simp only [AVal.cells?] at hc; cases hc; exact one rfl (by simp only [VRel] at h; subst h; rfl) h
  | str s => simp only [AVal.cells?] at hc; cases hc; exact one rfl (by simp only [VRel] at h; subst h; rfl) h
  | yield i => simp only [AVal.cells?] at hc; cases hc; exact one rfl (by simp only [VRel] at h; obtain ⟨_, _, rfl, _⟩ := h; rfl) h
  | nilFunc => simp only [AVal.cells?] at hc; cases hc; exact one rfl (by simp only [VRel] at h; subst h; rfl) h
  | nilIface => simp only [AVal.cells?] at hc; cases hc; exact one rfl (by simp only [VRel] at h; subst h; rfl) h
  | ptr a =>
    simp only [AVal.cells?] at hc; cases hc
    refine one rfl ?_ h
    cases a with
    | none => simp only [VRel] at h; subst h; rfl
    | some p => simp only [VRel] at h; obtain ⟨_, rfl, _⟩ := h; rfl
  | slice a n c =>
    simp only [AVal.cells?] at hc; cases hc
    refine one rfl ?_ h
    cases a with
    | none => simp only [VRel] at h; obtain ⟨_, _, rfl⟩ := h; rfl
    | some p => simp only [VRel] at h; obtain ⟨_, _, rfl, _⟩ := h; rfl
  | map a =>
    simp only [AVal.cells?] at hc; cases hc
    refine one rfl ?_ h
    cases a with
    | none => simp only [VRel] at h; subst h; rfl
    | some p => simp only [VRel] at h; obtain ⟨_, _, rfl, _⟩ := h; rfl
  | func g f c =>
    simp only [AVal.cells?] at hc; cases hc
    refine one rfl ?_ h
    simp only [VRel] at h; obtain ⟨_, _, _, rfl, _⟩ := h; rfl

/-- A value of one cell is the model's, too. -/
theorem one_rel {a : AVal} {v : Value} (h : VRel E μ a v) (hc : a.isOne = true) : ¬ (∃ x, v = .agg x) ∧ ¬ (∃ x, v = .tuple x) := by
  cases a with
  | agg cs => simp [AVal.isOne] at hc
  | tuple vs => simp [AVal.isOne] at hc
  | iface t x => simp only [VRel] at h
  | ptr a => cases a <;> simp only [VRel] at h <;> (first | (subst h; simp) | (obtain ⟨_, rfl, _⟩ := h; simp))
  | slice a n c => cases a <;> simp only [VRel] at h <;> (first | (obtain ⟨_, _, rfl⟩ := h; simp) | (obtain ⟨_, _, rfl, _⟩ := h; simp))
  | map a => cases a <;> simp only [VRel] at h <;> (first | (subst h; simp) | (obtain ⟨_, _, rfl, _⟩ := h; simp))
  | func g f c => simp only [VRel] at h; obtain ⟨_, _, _, rfl, _⟩ := h; simp
  | yield i => simp only [VRel] at h; obtain ⟨_, _, rfl, _⟩ := h; simp
  | _ => simp only [VRel] at h; subst h; simp

end

/-! ## Memory -/

/-- Cells of a block, from 'base' on. -/
def CRel (E : Env) (μ : MM) (cs : List AVal) (c : Array Value) (base : Nat) : Prop :=
  ∀ (k : Nat) (v : AVal), cs[k]? = some v → v.isOne = true ∧ ∃ v' : Value, c[base + k]? = some v' ∧ VRel E μ v v'

def Free (fr : Nat × Nat) (n : Nat) : Prop := ∀ off, off < n → ¬ (fr.1 ≤ off ∧ off < fr.2)

def LoopSt.is : LoopSt → LoopState → Prop
  | .ready, s => s = .ready
  | .busy, s => s = .busy
  | .done, s => s = .done

def AExit.code : AExit → Code
  | .normal => .skip
  | .exit id => .exit id
  | .ret => .ret

/-- The record of a loop over a function. -/
structure LoopRel (E : Env) (μ : MM) (g : Nat) (st : LoopSt) (p : Option AExit) (sl : List (Nat × AVal)) (r : Loop) : Prop where
  code : ∃ (ar : ARound) (ha hb : Hint), E.rnd g = some ar ∧ r.params.toList = ar.params ∧ (∀ t ∈ ar.params, t < r.tmps.size) ∧ cCode E r.tmps.size true ha r.assign = some ar.assign ∧ cCode E r.tmps.size true hb r.body = some ar.body
  st : st.is r.state
  pend : r.pending = p.map AExit.code
  slots : ∀ (k : Nat) (x : Nat × AVal), sl[k]? = some x → ∃ v', r.tmps[x.1]? = some v' ∧ VRel E μ x.2 v'

theorem LoopRel.later {E : Env} {μ μ' : MM} {g : Nat} {st : LoopSt} {p : Option AExit} {sl : List (Nat × AVal)} {r : Loop} (hl : Later μ μ') (h : LoopRel E μ g st p sl r) : LoopRel E μ' g st p sl r :=
  ⟨h.code, h.st, h.pend, fun k x hk => by obtain ⟨v', h1, h2⟩ := h.slots k x hk; exact ⟨v', h1, h2.later hl⟩⟩

def ORel (E : Env) (μ : MM) (b : Nat) (i : Nat) (w : World) : AObj → Prop
  | .dead => μ[i]? = some none
  | .cells esz cs => ∃ (m : M) (c : Array Value) (e : TypeId) (fr : Nat × Nat), μ[i]? = some (some m) ∧ m.esz = esz ∧ w.heap[m.blk]? = some (.cells c e fr) ∧ c.size = m.size ∧ m.base + cs.length ≤ m.size ∧
      CRel E μ cs c m.base ∧ (b ≤ i → Free fr m.size)
  | .map es clock => ∃ (m : M) (es' : Array MapEntry), μ[i]? = some (some m) ∧ w.heap[m.blk]? = some (.map es' clock) ∧ es'.size = es.length ∧
      ∀ (k : Nat) (x : AVal × AVal × Nat), es[k]? = some x → ∃ y : MapEntry, es'[k]? = some y ∧ VRel E μ x.1 y.key ∧ VRel E μ x.2.1 y.val ∧ y.born = x.2.2
  | .iter s pos => ∃ m : M, μ[i]? = some (some m) ∧ w.heap[m.blk]? = some (.stringIter ⟨s.toArray⟩ pos)
  | .loop g st p sl => ∃ (m : M) (r : Loop), μ[i]? = some (some m) ∧ w.heap[m.blk]? = some (.loop r) ∧ LoopRel E μ g st p sl r

structure Rel (E : Env) (μ : MM) (h : Heap) (w : World) : Prop where
  len : μ.length = h.objs.length
  bs : h.base ≤ h.objs.length
  obj : ∀ (i : Nat) (o : AObj), h.objs[i]? = some o → ORel E μ h.base i w o
  sep : ∀ (i j : Nat) (mi mj : M), i ≠ j → h.base ≤ i → μ[i]? = some (some mi) → μ[j]? = some (some mj) → mi.blk ≠ mj.blk
  lt : ∀ (i : Nat) (m : M), μ[i]? = some (some m) → m.blk < w.heap.size

/-- What a part of a run may have done: X: blocks of the frame's own; from 'wm' on: objects that were written. -/
structure Step (X : Nat → Prop) (wm : Nat) (μ : MM) (w : World) (μ' : MM) (w' : World) : Prop where
  os : w'.os = w.os
  tape : w'.tape = w.tape
  output : w'.output = w.output
  size : w.heap.size ≤ w'.heap.size
  block : ∀ k, k < w.heap.size → ¬ X k → (∀ i m, wm ≤ i → μ[i]? = some (some m) → m.blk ≠ k) → w'.heap[k]? = w.heap[k]?
  len : μ.length ≤ μ'.length
  old : ∀ i, i < μ.length → μ'[i]? = μ[i]? ∨ (wm ≤ i ∧ μ'[i]? = some none)
  new : ∀ i m, μ.length ≤ i → μ'[i]? = some (some m) → w.heap.size ≤ m.blk ∨ ∃ r m0, wm ≤ r ∧ μ[r]? = some (some m0) ∧ m0.blk = m.blk

section
variable {E : Env} {X Y : Nat → Prop} {wm wm' : Nat} {μ μ' μ'' : MM} {w w' w'' : World}

theorem Step.refl (X : Nat → Prop) (wm : Nat) (μ : MM) (w : World) : Step X wm μ w μ w :=
  ⟨rfl, rfl, rfl, Nat.le_refl _, fun _ _ _ _ => rfl, Nat.le_refl _, fun _ _ => .inl rfl, fun i m h hm => absurd (lt_of_get hm) (by omega)⟩

theorem Step.later (h : Step X wm μ w μ' w') : Later μ μ' := ⟨h.len, fun i hi => (h.old i hi).imp id And.right⟩

theorem Step.trans (h : Step X wm μ w μ' w') (k : Step X wm' μ' w' μ'' w'') (hw : wm' ≤ wm) : Step X wm' μ w μ'' w'' where
  os := k.os.trans h.os
  tape := k.tape.trans h.tape
  output := k.output.trans h.output
  size := Nat.le_trans h.size k.size
  block := fun b hb hx hn => by
    have h1 : w'.heap[b]? = w.heap[b]? := h.block b hb hx fun i m hi hm => hn i m (Nat.le_trans hw hi) hm
    rw [← h1]
    refine k.block b (Nat.lt_of_lt_of_le hb h.size) hx fun i m hi hm => ?_
    rcases Nat.lt_or_ge i μ.length with hl | hl
    · exact hn i m hi (h.later.back hl hm)
    · rcases h.new i m hl hm with h2 | ⟨r, m0, hr, hm0, e⟩
      · omega
      · rw [← e]; exact hn r m0 (Nat.le_trans hw hr) hm0
  len := Nat.le_trans h.len k.len
  old := fun i hi => by
    rcases k.old i (Nat.lt_of_lt_of_le hi h.len) with h1 | ⟨h1, h2⟩
    · rcases h.old i hi with h3 | ⟨h3, h4⟩
      · exact .inl (h1.trans h3)
      · exact .inr ⟨Nat.le_trans hw h3, h1.trans h4⟩
    · exact .inr ⟨h1, h2⟩
  new := fun i m hl hm => by
    rcases Nat.lt_or_ge i μ'.length with h1 | h1
    · have h2 : μ'[i]? = some (some m) := k.later.back h1 hm
      rcases h.new i m hl h2 with h3 | ⟨r, m0, hr, hm0, e⟩
      · exact .inl h3
      · exact .inr ⟨r, m0, Nat.le_trans hw hr, hm0, e⟩
    · rcases k.new i m h1 hm with h3 | ⟨r, m0, hr, hm0, e⟩
      · exact .inl (Nat.le_trans h.size h3)
      · rcases Nat.lt_or_ge r μ.length with h4 | h4
        · exact .inr ⟨r, m0, hr, h.later.back h4 hm0, e⟩
        · rcases h.new r m0 h4 hm0 with h5 | ⟨r', m1, hr', hm1, e'⟩
          · exact .inl (by rw [← e]; exact h5)
          · exact .inr ⟨r', m1, Nat.le_trans hw hr', hm1, e'.trans e⟩

/-- Weaker: more may have been written, more blocks are the frame's own. -/
theorem Step.weaken (h : Step X wm μ w μ' w') (hw : wm' ≤ wm) (hX : ∀ b, X b → b < w.heap.size → Y b) : Step Y wm' μ w μ' w' where
  os := h.os
  tape := h.tape
  output := h.output
  size := h.size
  block := fun b hb hx hn => h.block b hb (fun hxb => hx (hX b hxb hb)) fun i m hi hm => hn i m (Nat.le_trans hw hi) hm
  len := h.len
  old := fun i hi => (h.old i hi).imp id fun ⟨a, b⟩ => ⟨Nat.le_trans hw a, b⟩
  new := fun i m hl hm => (h.new i m hl hm).imp id fun ⟨r, m0, hr, x⟩ => ⟨r, m0, Nat.le_trans hw hr, x⟩

/-- Nothing that was there was written: then from whatever number on. -/
theorem Step.fresh (h : Step X μ.length μ w μ' w') (wm' : Nat) : Step X wm' μ w μ' w' where
  os := h.os
  tape := h.tape
  output := h.output
  size := h.size
  block := fun b hb hx _ => h.block b hb hx fun i m hi hm => absurd (lt_of_get hm) (by omega)
  len := h.len
  old := fun i hi => .inl ((h.old i hi).resolve_right fun ⟨a, _⟩ => by omega)
  new := fun i m hl hm => (h.new i m hl hm).imp id fun ⟨r, m0, hr, hm0, _⟩ => absurd (lt_of_get hm0) (by omega)

theorem CRel.later {cs : List AVal} {c : Array Value} {b : Nat} (hl : Later μ μ') (h : CRel E μ cs c b) : CRel E μ' cs c b := fun k v hk => by
  obtain ⟨h1, v', h2, h3⟩ := h k v hk
  exact ⟨h1, v', h2, h3.later hl⟩

/-- An object's relation, carried to a later world in which its block is as it was. -/
theorem ORel.keep {b i : Nat} {o : AObj} (hl : Later μ μ') (h : ORel E μ b i w o) (hm : ∀ m, μ[i]? = some (some m) → μ'[i]? = some (some m) ∧ w'.heap[m.blk]? = w.heap[m.blk]?) :
    ORel E μ' b i w' o := by
  cases o with
  | dead =>
    rcases hl.get h with h1 | h1 <;> exact h1
  | cells esz cs =>
    obtain ⟨m, c, e, fr, h1, h2, h3, h4, h5, h6, h7⟩ := h
    obtain ⟨k1, k2⟩ := hm m h1
    exact ⟨m, c, e, fr, k1, h2, k2.trans h3, h4, h5, h6.later hl, h7⟩
  | map es clock =>
    obtain ⟨m, es', h1, h2, h3, h4⟩ := h
    obtain ⟨k1, k2⟩ := hm m h1
    refine ⟨m, es', k1, k2.trans h2, h3, fun k x hk => ?_⟩
    obtain ⟨y, y1, y2, y3, y4⟩ := h4 k x hk
    exact ⟨y, y1, y2.later hl, y3.later hl, y4⟩
  | iter s pos =>
    obtain ⟨m, h1, h2⟩ := h
    obtain ⟨k1, k2⟩ := hm m h1
    exact ⟨m, k1, k2.trans h2⟩
  | loop g st p sl =>
    obtain ⟨m, r, h1, h2, h3⟩ := h
    obtain ⟨k1, k2⟩ := hm m h1
    exact ⟨m, r, k1, k2.trans h2, h3.later hl⟩
end

/-! ## Slots -/

abbrev SlotFn := Nat → Option Slot

/-- Where the frame's variables lie; the blocks that its loops over functions have laid for deferred calls. -/
structure Fr where
  v : Nat → Nat
  ds : List Nat

instance : CoeFun Fr (fun _ => Nat → Nat) := ⟨Fr.v⟩

/-- The frame's slots: values; variables of its own, each in a block of its own, from block 'lo' on; ways into those. -/
structure FRel (E : Env) (lo : Nat) (ν : Fr) (μ : MM) (g : SlotFn) (tmps : Array Value) (w : World) : Prop where
  val : ∀ (t : Nat) (v : AVal), g t = some (.val v) → ∃ v' : Value, tmps[t]? = some v' ∧ VRel E μ v v'
  undef : ∀ t : Nat, g t = some .undef → tmps[t]? = some Go.undef
  var : ∀ (t : Nat) (cs : List AVal), g t = some (.var cs) → tmps[t]? = some (.pointer (some ⟨ν t, 0, none⟩)) ∧ lo ≤ ν t ∧
    ∃ (c : Array Value) (e : TypeId) (fr : Nat × Nat), w.heap[ν t]? = some (.cells c e fr) ∧ c.size = cs.length ∧ CRel E μ cs c 0 ∧ Free fr c.size
  loc : ∀ (t t' o : Nat) (cs : List AVal), g t = some (.loc t' o) → g t' = some (.var cs) → tmps[t]? = some (.pointer (some ⟨ν t', o, none⟩))
  sepv : ∀ (t t' : Nat) (cs cs' : List AVal), t ≠ t' → g t = some (.var cs) → g t' = some (.var cs') → ν t ≠ ν t'
  sepm : ∀ (t : Nat) (cs : List AVal) (i : Nat) (m : M), g t = some (.var cs) → μ[i]? = some (some m) → m.blk ≠ ν t
  ds : ∀ r ∈ ν.ds, lo ≤ r ∧ w.heap[r]? = some (.deferred (some []))
  sepd : ∀ r ∈ ν.ds, (∀ (i : Nat) (m : M), μ[i]? = some (some m) → m.blk ≠ r) ∧ ∀ (t : Nat) (cs : List AVal), g t = some (.var cs) → ν t ≠ r
  nodup : ν.ds.Nodup

theorem FRel.congr {E : Env} {lo : Nat} {ν : Fr} {μ : MM} {g g' : SlotFn} {tmps : Array Value} {w : World} (h : FRel E lo ν μ g tmps w) (hg : ∀ t, g' t = g t) : FRel E lo ν μ g' tmps w := by
  have : g' = g := funext hg
  rw [this]; exact h

/-- Fewer slots. -/
theorem FRel.less {E : Env} {lo : Nat} {ν : Fr} {μ : MM} {g g' : SlotFn} {tmps : Array Value} {w : World} (h : FRel E lo ν μ g tmps w) (hg : ∀ t x, g' t = some x → g t = some x) : FRel E lo ν μ g' tmps w where
  val := fun t v hv => h.val t v (hg _ _ hv)
  undef := fun t hv => h.undef t (hg _ _ hv)
  var := fun t cs hv => h.var t cs (hg _ _ hv)
  loc := fun t t' o cs hv hv' => h.loc t t' o cs (hg _ _ hv) (hg _ _ hv')
  sepv := fun t t' cs cs' hn hv hv' => h.sepv t t' cs cs' hn (hg _ _ hv) (hg _ _ hv')
  sepm := fun t cs i m hv hm => h.sepm t cs i m (hg _ _ hv) hm
  ds := h.ds
  sepd := fun r hr => ⟨(h.sepd r hr).1, fun t cs hv => (h.sepd r hr).2 t cs (hg _ _ hv)⟩
  nodup := h.nodup

section
variable {E : Env} {lo : Nat} {ν : Fr} {μ μ' : MM} {g : SlotFn} {tmps : Array Value} {w w' : World}

/-- The slots' relation, carried over a step that leaves the frame's own blocks alone. -/
theorem FRel.keep (h : FRel E lo ν μ g tmps w) (hl : Later μ μ') (hb : ∀ t cs, g t = some (.var cs) → w'.heap[ν t]? = w.heap[ν t]?)
    (hm : ∀ (t : Nat) (cs : List AVal) (i : Nat) (m : M), g t = some (.var cs) → μ.length ≤ i → μ'[i]? = some (some m) → m.blk ≠ ν t)
    (hd : ∀ r ∈ ν.ds, w'.heap[r]? = w.heap[r]? ∧ ∀ (i : Nat) (m : M), μ.length ≤ i → μ'[i]? = some (some m) → m.blk ≠ r) : FRel E lo ν μ' g tmps w' where
  val := fun t v hv => by
    obtain ⟨v', h1, h2⟩ := h.val t v hv
    exact ⟨v', h1, h2.later hl⟩
  undef := h.undef
  var := fun t cs hv => by
    obtain ⟨h1, h2, c, e, fr, h3, h4, h5, h6⟩ := h.var t cs hv
    exact ⟨h1, h2, c, e, fr, (hb t cs hv).trans h3, h4, h5.later hl, h6⟩
  loc := h.loc
  sepv := h.sepv
  sepm := fun t cs i m hv him => by
    rcases Nat.lt_or_ge i μ.length with h1 | h1
    · exact h.sepm t cs i m hv (hl.back h1 him)
    · exact hm t cs i m hv h1 him
  ds := fun r hr => ⟨(h.ds r hr).1, (hd r hr).1.trans (h.ds r hr).2⟩
  sepd := fun r hr => ⟨fun i m him => by
    rcases Nat.lt_or_ge i μ.length with h1 | h1
    · exact (h.sepd r hr).1 i m (hl.back h1 him)
    · exact (hd r hr).2 i m h1 him, (h.sepd r hr).2⟩
  nodup := h.nodup

theorem FRel.lt_ds (h : FRel E lo ν μ g tmps w) {r : Nat} (hr : r ∈ ν.ds) : r < w.heap.size := lt_of_get (l := w.heap.toList) (by simpa using (h.ds r hr).2)

theorem FRel.lt (h : FRel E lo ν μ g tmps w) {t : Nat} {cs : List AVal} (hv : g t = some (.var cs)) : ν t < w.heap.size := by
  obtain ⟨_, _, c, e, fr, h3, _⟩ := h.var t cs hv
  exact lt_of_get (l := w.heap.toList) (by simpa using h3)

/-- A callee's step: the frame's own blocks are no object's. -/
theorem FRel.step {X : Nat → Prop} {wm : Nat} (h : FRel E lo ν μ g tmps w) (hs : Step X wm μ w μ' w') (hX : ∀ b, b < w.heap.size → ¬ X b) : FRel E lo ν μ' g tmps w' := by
  refine h.keep hs.later (fun t cs hv => hs.block _ (h.lt hv) (hX _ (h.lt hv)) fun i m _ hm => h.sepm t cs i m hv hm) (fun t cs i m hv hi hm => ?_) fun r hr => ?_
  · rcases hs.new i m hi hm with h1 | ⟨r, m0, _, hm0, e⟩
    · have := h.lt hv; omega
    · rw [← e]; exact h.sepm t cs r m0 hv hm0
  · refine ⟨hs.block r (h.lt_ds hr) (hX r (h.lt_ds hr)) fun i m _ hm => (h.sepd r hr).1 i m hm, fun i m hi hm => ?_⟩
    rcases hs.new i m hi hm with h1 | ⟨r', m0, _, hm0, e⟩
    · have := h.lt_ds hr; omega
    · rw [← e]; exact (h.sepd r hr).1 r' m0 hm0

def putT (tmps : Array Value) (d : Option Nat) (v : Value) : Array Value :=
  match d with
  | some x => tmps.setIfInBounds x v
  | none => tmps

def put1 (g : SlotFn) (d : Option Nat) (x : Slot) : SlotFn := fun t => if d = some t then some x else g t

theorem sget_setSlot (d : Option Nat) (x : Slot) (s : Slots) (t : Nat) : sget (setSlot d x s) t = put1 (sget s) d x t := by
  cases d with
  | none => simp [setSlot, put1]
  | some d => simp [setSlot, put1, sget]

/-- A slot is set to a value. -/
theorem FRel.setVal (h : FRel E lo ν μ g tmps w) {d : Option Nat} {v : AVal} {v' : Value} (hd : ∀ x, d = some x → x < tmps.size) (hv : VRel E μ v v') :
    FRel E lo ν μ (put1 g d (.val v)) (putT tmps d v') w := by
  cases d with
  | none => exact h.congr fun t => by simp [put1]
  | some d =>
    have hd := hd d rfl
    show FRel E lo ν μ _ (tmps.setIfInBounds d _) w
    have key : ∀ t, d ≠ t → (tmps.setIfInBounds d v')[t]? = tmps[t]? := fun t ht => Array.getElem?_setIfInBounds_ne ht
    refine ⟨fun t u hu => ?_, fun t hu => ?_, fun t cs hu => ?_, fun t t' o cs hu hu' => ?_, fun t t' cs cs' hn hu hu' => ?_, fun t cs i m hu hm => ?_, h.ds, fun r hr => ⟨(h.sepd r hr).1, fun t cs hu => ?_⟩, h.nodup⟩
    · by_cases e : d = t
      · subst e
        simp [put1] at hu; subst hu
        exact ⟨v', by simp [hd], hv⟩
      · simp [put1, e] at hu; rw [key t e]; exact h.val t u hu
    · by_cases e : d = t
      · subst e; simp [put1] at hu
      · simp [put1, e] at hu; rw [key t e]; exact h.undef t hu
    · by_cases e : d = t
      · subst e; simp [put1] at hu
      · simp [put1, e] at hu; rw [key t e]; exact h.var t cs hu
    · by_cases e : d = t
      · subst e; simp [put1] at hu
      · by_cases e' : d = t'
        · subst e'; simp [put1] at hu'
        · simp [put1, e] at hu; simp [put1, e'] at hu'; rw [key t e]; exact h.loc t t' o cs hu hu'
    · by_cases e : d = t
      · subst e; simp [put1] at hu
      · by_cases e' : d = t'
        · subst e'; simp [put1] at hu'
        · simp [put1, e] at hu; simp [put1, e'] at hu'; exact h.sepv t t' cs cs' hn hu hu'
    · by_cases e : d = t
      · subst e; simp [put1] at hu
      · simp [put1, e] at hu; exact h.sepm t cs i m hu hm
    · by_cases e : d = t
      · subst e; simp [put1] at hu
      · simp [put1, e] at hu; exact (h.sepd r hr).2 t cs hu

theorem FRel.setUndef (h : FRel E lo ν μ g tmps w) {d : Option Nat} (hd : ∀ x, d = some x → x < tmps.size) :
    FRel E lo ν μ (put1 g d .undef) (putT tmps d Go.undef) w := by
  cases d with
  | none => exact h.congr fun t => by simp [put1]
  | some d =>
    have hd := hd d rfl
    show FRel E lo ν μ _ (tmps.setIfInBounds d _) w
    have key : ∀ t, d ≠ t → (tmps.setIfInBounds d Go.undef)[t]? = tmps[t]? := fun t ht => Array.getElem?_setIfInBounds_ne ht
    refine ⟨fun t u hu => ?_, fun t hu => ?_, fun t cs hu => ?_, fun t t' o cs hu hu' => ?_, fun t t' cs cs' hn hu hu' => ?_, fun t cs i m hu hm => ?_, h.ds, fun r hr => ⟨(h.sepd r hr).1, fun t cs hu => ?_⟩, h.nodup⟩
    · by_cases e : d = t
      · subst e; simp [put1] at hu
      · simp [put1, e] at hu; rw [key t e]; exact h.val t u hu
    · by_cases e : d = t
      · subst e; simp [hd]
      · simp [put1, e] at hu; rw [key t e]; exact h.undef t hu
    · by_cases e : d = t
      · subst e; simp [put1] at hu
      · simp [put1, e] at hu; rw [key t e]; exact h.var t cs hu
    · by_cases e : d = t
      · subst e; simp [put1] at hu
      · by_cases e' : d = t'
        · subst e'; simp [put1] at hu'
        · simp [put1, e] at hu; simp [put1, e'] at hu'; rw [key t e]; exact h.loc t t' o cs hu hu'
    · by_cases e : d = t
      · subst e; simp [put1] at hu
      · by_cases e' : d = t'
        · subst e'; simp [put1] at hu'
        · simp [put1, e] at hu; simp [put1, e'] at hu'; exact h.sepv t t' cs cs' hn hu hu'
    · by_cases e : d = t
      · subst e; simp [put1] at hu
      · simp [put1, e] at hu; exact h.sepm t cs i m hu hm
    · by_cases e : d = t
      · subst e; simp [put1] at hu
      · simp [put1, e] at hu; exact (h.sepd r hr).2 t cs hu

/-- A slot is set to a way into a variable. -/
theorem FRel.setLoc (h : FRel E lo ν μ g tmps w) {d u o : Nat} (hd : d < tmps.size) :
    FRel E lo ν μ (put1 g (some d) (.loc u o)) (tmps.setIfInBounds d (.pointer (some ⟨ν u, o, none⟩))) w := by
  have key : ∀ t, d ≠ t → (tmps.setIfInBounds d (.pointer (some ⟨ν u, o, none⟩)))[t]? = tmps[t]? := fun t ht => Array.getElem?_setIfInBounds_ne ht
  refine ⟨fun t x hx => ?_, fun t hx => ?_, fun t cs hx => ?_, fun t t' o' cs hx hx' => ?_, fun t t' cs cs' hn hx hx' => ?_, fun t cs i m hx hm => ?_, h.ds, fun r hr => ⟨(h.sepd r hr).1, fun t cs hx => ?_⟩, h.nodup⟩
  · by_cases e : d = t
    · subst e; simp [put1] at hx
    · simp [put1, e] at hx; rw [key t e]; exact h.val t x hx
  · by_cases e : d = t
    · subst e; simp [put1] at hx
    · simp [put1, e] at hx; rw [key t e]; exact h.undef t hx
  · by_cases e : d = t
    · subst e; simp [put1] at hx
    · simp [put1, e] at hx; rw [key t e]; exact h.var t cs hx
  · by_cases e : d = t
    · subst e; simp [put1] at hx; obtain ⟨rfl, rfl⟩ := hx; simp [hd]
    · by_cases e' : d = t'
      · subst e'; simp [put1] at hx'
      · simp [put1, e] at hx; simp [put1, e'] at hx'; rw [key t e]; exact h.loc t t' o' cs hx hx'
  · by_cases e : d = t
    · subst e; simp [put1] at hx
    · by_cases e' : d = t'
      · subst e'; simp [put1] at hx'
      · simp [put1, e] at hx; simp [put1, e'] at hx'; exact h.sepv t t' cs cs' hn hx hx'
  · by_cases e : d = t
    · subst e; simp [put1] at hx
    · simp [put1, e] at hx; exact h.sepm t cs i m hx hm
  · by_cases e : d = t
    · subst e; simp [put1] at hx
    · simp [put1, e] at hx; exact (h.sepd r hr).2 t cs hx

end
end Go.Abs
