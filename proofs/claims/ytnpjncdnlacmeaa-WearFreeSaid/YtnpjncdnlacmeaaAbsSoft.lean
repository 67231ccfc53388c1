/-
  Operations that change nothing but make at most one object: what of the memory they look at.
-/
import Derived.Test.YtnpjncdnlacmeaaAbsQuiet
import Derived.Test.YtnpjncdnlacmeaaAbsIds
namespace Go.Abs

section
variable {s : Slots} {h1 h2 : Heap} {X : List Nat}

/-- A new object's number, in what is made of it. -/
inductive NewF : (Nat → Slot) → Prop where
  | ptr : NewF fun k => .val (.ptr (some (k, 0)))
  | slice (n : Nat) (c : Option Nat) : NewF fun k => .val (.slice (some (k, 0)) n c)
  | map : NewF fun k => .val (.map (some k))

theorem NewF.ids {f : Nat → Slot} (h : NewF f) (k : Nat) : (f k).ids = [k] := by cases h <;> rfl
theorem NewF.ren {f : Nat → Slot} (h : NewF f) (N r : Nat) : (f N).ren (mv N r) = f r := by cases h <;> simp [Slot.ren, AVal.ren, mv]
theorem NewF.novar {f : Nat → Slot} (h : NewF f) (k : Nat) (cs : List AVal) : f k ≠ .var cs := by cases h <;> simp
theorem NewF.val {f : Nat → Slot} (h : NewF f) (k : Nat) : ∃ v, f k = .val v := by cases h <;> exact ⟨_, rfl⟩

def Moved (o : AOp) (s : Slots) (h1 h2 : Heap) (a b : Option (Slot × Slots × Heap)) : Prop :=
  ∀ x s' h', a = some (x, s', h') → s' = s ∧ ((h' = h1 ∧ b = some (x, s, h2)) ∨ (∃ ob f, NewF f ∧ x = f h1.size ∧ h' = h1.push ob ∧ b = some (f h2.size, s, h2.push ob)) ∨
    (∃ i ob f, NewF f ∧ h1.base ≤ i ∧ i < h1.size ∧ i ∈ rdIds o s ∧ x = f h1.size ∧ h' = (h1.put i .dead).push ob ∧ b = some (f h2.size, s, (h2.put i .dead).push ob)))

variable {o : AOp}

theorem moved_none (b : Option (Slot × Slots × Heap)) : Moved o s h1 h2 none b := fun _ _ _ e => by cases e
theorem moved_ok1 (v : Option AVal) : Moved o s h1 h2 (ok1 s h1 v) (ok1 s h2 v) := fun x s' h' e => by
  unfold ok1 at e ⊢
  rw [Option.map_eq_some_iff] at e
  obtain ⟨u, rfl, e⟩ := e
  cases e
  exact ⟨rfl, .inl ⟨rfl, rfl⟩⟩
theorem moved_same (y : Slot) : Moved o s h1 h2 (some (y, s, h1)) (some (y, s, h2)) := fun x s' h' e => by
  cases e
  exact ⟨rfl, .inl ⟨rfl, rfl⟩⟩
theorem moved_map {α : Type} (v : Option α) (f : α → Slot) : Moved o s h1 h2 (v.map fun j => (f j, s, h1)) (v.map fun j => (f j, s, h2)) := fun x s' h' e => by
  rw [Option.map_eq_some_iff] at e
  obtain ⟨u, rfl, e⟩ := e
  cases e
  exact ⟨rfl, .inl ⟨rfl, rfl⟩⟩
theorem moved_push {f : Nat → Slot} (hf : NewF f) (ob : AObj) : Moved o s h1 h2 (some (f h1.size, s, h1.push ob)) (some (f h2.size, s, h2.push ob)) := fun x s' h' e => by
  cases e
  exact ⟨rfl, .inr (.inl ⟨ob, f, hf, rfl, rfl, rfl⟩)⟩

theorem rowOf_same {e : Nat} {v : AVal} (ha : ∀ i ∈ v.ids, h2.get i = h1.get i) : rowOf e h2 v = rowOf e h1 v := by
  unfold rowOf
  split
  · rfl
  · rename_i i o n c
    rw [ha i (by simp [AVal.ids])]
  · rfl
  · rfl

theorem adr_get {x : Opd} {i o : Nat} (ha : ∀ v, x.ev s = some v → ∀ i ∈ v.ids, h2.get i = h1.get i) (hx : x.adr s = some (.glob i o)) : h2.get i = h1.get i := by
  unfold Opd.adr at hx
  split at hx
  · rename_i t
    split at hx <;> cases hx
    rename_i hs
    exact ha (.ptr (some (i, o))) (by simp [Opd.ev, hs]) i (by simp [AVal.ids])
  · cases hx

theorem evs_mem : ∀ {xs : List Opd} {vs : List AVal} {v : AVal}, evs s xs = some vs → v ∈ vs → ∃ x ∈ xs, x.ev s = some v
  | [], vs, v, h, hv => by simp only [evs] at h; cases h; cases hv
  | x :: xs, vs, v, h, hv => by
    simp only [evs] at h
    split at h
    · rename_i u us hu hus
      cases h
      rcases List.mem_cons.1 hv with rfl | hv
      · exact ⟨x, List.mem_cons_self .., hu⟩
      · obtain ⟨y, hy, h3⟩ := evs_mem hus hv
        exact ⟨y, List.mem_cons_of_mem _ hy, h3⟩
    · cases h

theorem op_heap {call : CallSem} {d : Nat} {o : AOp} (hc : soft o = true) (hcc : o.isCall = false) (hb : h2.base = h1.base) (ha : ∀ x ∈ heapOpds o, ∀ v, x.ev s = some v → ∀ i ∈ v.ids, h2.get i = h1.get i) :
    Moved o s h1 h2 (evOp call d o s h1) (evOp call d o s h2) := by
  cases o with
  | lalloc z => cases hc
  | lbox x => cases hc
  | store n a x => cases hc
  | copy e d s => cases hc
  | call f args => cases hcc
  | callg g args => cases hcc
  | alloc e z => simp only [evOp]; exact moved_push .ptr _
  | box x =>
    simp only [evOp]
    split
    · exact moved_push .ptr _
    · exact moved_none _
  | mkslice e n z ps =>
    simp only [evOp]
    split
    · exact moved_push (.slice _ _) _
    · exact moved_none _
  | make e b z l c =>
    simp only [evOp]
    split
    · split
      · exact moved_push (.slice _ _) _
      · exact moved_none _
    · exact moved_none _
  | load n a =>
    simp only [evOp]
    split
    · rename_i ad had
      have : loadAt s h2 ad n = loadAt s h1 ad n := by
        unfold loadAt cellsAt
        cases ad with
        | glob i o => simp only; rw [adr_get (ha a (by simp [heapOpds])) had]
        | loc t o => rfl
      rw [this]
      exact moved_ok1 _
    · exact moved_none _
  | len k x =>
    simp only [evOp]
    split
    · rename_i v hv
      have : evLen k v h2 = evLen k v h1 := by
        unfold evLen
        split
        · rfl
        · rfl
        · split
          · rfl
          · rename_i r
            rw [ha x (by simp [heapOpds]) _ hv r (by simp [AVal.ids])]
          · rfl
      rw [this]
      exact moved_ok1 _
    · exact moved_none _
  | conv k x =>
    simp only [evOp]
    split
    · rename_i v hv
      have hav := ha x (by simp [heapOpds]) v hv
      unfold evConv
      split
      · split
        · exact moved_ok1 _
        · exact moved_none _
      · split
        · exact moved_ok1 _
        · exact moved_none _
      · split
        · exact moved_push (.slice _ _) _
        · exact moved_none _
      · split
        · rename_i a n c
          rw [rowOf_same hav]
          split
          · exact moved_ok1 _
          · exact moved_none _
        · exact moved_none _
    · exact moved_none _
  | slice k x lo hi mx =>
    simp only [evOp]
    split
    · rename_i lo' hi' mx' _ _ _
      have hav := ha x (by simp [heapOpds])
      have : aSlice k s h2 x lo' hi' mx' = aSlice k s h1 x lo' hi' mx' := by
        unfold aSlice
        cases k with
        | str => rfl
        | sl e =>
          simp only
          cases hx : x.ev s with
          | none => rfl
          | some v =>
            cases v with
            | slice p n c =>
              cases p with
              | none => rfl
              | some p =>
                obtain ⟨i, o⟩ := p
                have h3 := hav _ hx i (by simp [AVal.ids])
                have h4 : eszIs h2 i e = eszIs h1 i e := by unfold eszIs; rw [h3]
                simp only [h4]
            | _ => rfl
        | arr n e =>
          simp only
          cases hx : x.adr s with
          | none => rfl
          | some ad =>
            cases ad with
            | glob i o => simp only [adr_get hav hx]
            | loc t o => rfl
      rw [this]
      exact moved_ok1 _
    · exact moved_none _
  | append e b x y =>
    simp only [evOp]
    split
    · rename_i vx vy hx hy
      have hax := ha x (by simp [heapOpds]) vx hx
      have hay := ha y (by simp [heapOpds]) vy hy
      unfold aAppend
      split
      · rename_i a n c
        rw [rowOf_same hax, rowOf_same hay]
        split
        · rename_i old new _ _
          unfold aApp
          split
          · exact moved_same _
          · split
            · cases a with
              | none => simp only; exact moved_push (.slice _ _) _
              | some p =>
                obtain ⟨i, o⟩ := p
                simp only
                split
                · exact moved_push (.slice _ _) _
                · have hr : rowIs h2 i e = rowIs h1 i e := by
                    unfold rowIs
                    rw [hax i (by simp [AVal.ids])]
                  rw [hb, hr]
                  split
                  · rename_i hh
                    intro x' s' h' e'
                    cases e'
                    have hlt : i < h1.size := by
                      have h3 := hh.2
                      unfold rowIs at h3
                      split at h3
                      · rename_i hg; exact lt_of_get hg
                      · cases h3
                    refine ⟨rfl, .inr (.inr ⟨i, _, _, .slice _ _, hh.1, hlt, ?_, rfl, rfl, ?_⟩)⟩
                    · simp [rdIds, heapOpds, hx, AVal.ids]
                    · simp [Heap.size, Heap.put]
                  · exact moved_none _
            · exact moved_none _
        · exact moved_none _
      · exact moved_none _
    · exact moved_none _
  | val x => exact moved_ok1 _
  | build z ps => exact moved_ok1 _
  | faddr x off =>
    simp only [evOp]
    split
    · exact moved_ok1 _
    · split
      · exact moved_same _
      · exact moved_none _
    · exact moved_none _
  | pick c x y =>
    simp only [evOp]
    split
    · exact moved_ok1 _
    · exact moved_ok1 _
    · exact moved_none _
  | bin op x y =>
    simp only [evOp]
    split
    · exact moved_ok1 _
    · exact moved_none _
  | un op x =>
    simp only [evOp]
    split
    · exact moved_ok1 _
    · exact moved_none _
  | mkfunc g f c =>
    simp only [evOp]
    split
    · exact moved_ok1 _
    · exact moved_none _
  | field x off n =>
    simp only [evOp]
    split
    · exact moved_ok1 _
    · exact moved_none _
  | iaddr e x i =>
    simp only [evOp]
    split
    · exact moved_ok1 _
    · exact moved_none _
  | aaddr n e x i =>
    simp only [evOp]
    split
    · exact moved_ok1 _
    · split
      · exact moved_map _ _
      · exact moved_none _
    · exact moved_none _
  | index x i =>
    simp only [evOp]
    split
    · exact moved_ok1 _
    · exact moved_none _
  | aindex n e k x i =>
    simp only [evOp]
    split
    · exact moved_ok1 _
    · exact moved_none _
  | extract x i =>
    simp only [evOp]
    split
    · exact moved_ok1 _
    · exact moved_none _
  | minmax m xs =>
    simp only [evOp]
    split
    · exact moved_ok1 _
    · exact moved_none _
  | nilcheck x =>
    simp only [evOp]
    split
    · exact moved_ok1 _
    · split
      · split
        · exact moved_same _
        · exact moved_none _
      · exact moved_none _
  | eqnil k neg x y =>
    simp only [evOp]
    split
    · exact moved_ok1 _
    · exact moved_none _
  | beq neg x y =>
    simp only [evOp]
    split
    · exact moved_ok1 _
    · exact moved_none _
  | ext k xs =>
    simp only [evOp]
    split
    · rename_i vs hvs
      have hent : (∀ x ∈ xs, ∀ v, x.ev s = some v → ∀ i ∈ v.ids, h2.get i = h1.get i) → ∀ v ∈ vs, entriesOf h2 v = entriesOf h1 v := by
        intro ha v hv
        have := evs_mem hvs hv
        obtain ⟨x, hx, hxv⟩ := this
        unfold entriesOf
        split
        · rfl
        · rename_i r
          rw [ha x hx _ hxv r (by simp [AVal.ids])]
        · rfl
      cases k with
      | mkmap =>
        cases vs with
        | nil => simp only [evExt, Option.map_some]; exact moved_push .map _
        | cons v vs => exact moved_none _
      | mapupd kn => cases hc
      | delete kn => cases hc
      | lookup kn z ok =>
        have hent := hent (fun x hx => ha x (by simpa [heapOpds] using hx))
        cases vs with
        | nil => exact moved_none _
        | cons m vs =>
          cases vs with
          | nil => exact moved_none _
          | cons y vs =>
            cases vs with
            | cons _ _ => exact moved_none _
            | nil =>
              simp only [evExt, hent m (List.mem_cons_self ..)]
              split
              · split
                · split
                  · exact moved_same _
                  · exact moved_same _
                  · exact moved_none _
                · exact moved_none _
              · exact moved_none _
      | pure p =>
        simp only [evExt]
        cases evPure p vs with
        | none => exact moved_none _
        | some r => exact moved_same _
    · exact moved_none _
  | nextStr _ => exact moved_none _

end
end Go.Abs
