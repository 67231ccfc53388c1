/-
  A quiet part of a statement: its operations may come in any order that the edges allow.
-/
import Derived.Test.YtnpjncdnlacmeaaAbsSound
namespace Go.Abs

structure Agree (S S2 : Slots) (ts : List Nat) : Prop where
  at_ : ∀ t ∈ ts, sget S t = sget S2 t
  var : ∀ t cs, sget S t = some (.var cs) ↔ sget S2 t = some (.var cs)

section
variable {S S2 : Slots} {ts us : List Nat} {h : Heap}

theorem Agree.left (ha : Agree S S2 (ts ++ us)) : Agree S S2 ts := ⟨fun t ht => ha.at_ t (List.mem_append_left _ ht), ha.var⟩
theorem Agree.right (ha : Agree S S2 (ts ++ us)) : Agree S S2 us := ⟨fun t ht => ha.at_ t (List.mem_append_right _ ht), ha.var⟩

theorem ev_congr {x : Opd} (ha : Agree S S2 x.reads) : x.ev S2 = x.ev S := by
  cases x with
  | const v => rfl
  | tmp t => simp only [Opd.ev, ← ha.at_ t (by simp [Opd.reads])]

theorem evs_congr : ∀ {xs : List Opd}, Agree S S2 (readsL xs) → evs S2 xs = evs S xs
  | [], _ => rfl
  | x :: xs, ha => by
    simp only [readsL] at ha
    simp only [evs, ev_congr ha.left, evs_congr ha.right]

theorem optEv_congr {x : Option Opd} (ha : Agree S S2 (readsO x)) : optEv S2 x = optEv S x := by
  cases x with
  | none => rfl
  | some x => simp only [readsO] at ha; simp only [optEv, ev_congr ha]

theorem adr_congr {x : Opd} (ha : Agree S S2 x.reads) : x.adr S2 = x.adr S := by
  cases x with
  | const v => rfl
  | tmp t => simp only [Opd.adr, ← ha.at_ t (by simp [Opd.reads])]

theorem isVar_congr (ha : Agree S S2 ts) (t : Nat) : isVar S2 t = isVar S t := by
  have key : ∀ (A B : Slots), (∀ cs, sget A t = some (.var cs) → sget B t = some (.var cs)) → isVar A t = true → isVar B t = true := by
    intro A B hab h1
    unfold isVar at h1
    split at h1
    · rename_i cs h2; unfold isVar; rw [hab cs h2]
    · cases h1
  rw [Bool.eq_iff_iff]
  exact ⟨key S2 S fun cs => (ha.var t cs).2, key S S2 fun cs => (ha.var t cs).1⟩

theorem cellsAt_congr (ha : Agree S S2 ts) (ad : AAddr) : cellsAt S2 h ad = cellsAt S h ad := by
  cases ad with
  | glob i o => rfl
  | loc t o =>
    simp only [cellsAt]
    cases h1 : sget S t with
    | none =>
      cases h2 : sget S2 t with
      | none => rfl
      | some y => cases y <;> first | rfl | (rename_i cs; have := (ha.var t cs).2 h2; rw [h1] at this; cases this)
    | some x =>
      cases x with
      | var cs => rw [(ha.var t cs).1 h1]
      | _ =>
        cases h2 : sget S2 t with
        | none => rfl
        | some y => cases y <;> first | rfl | (rename_i cs; have := (ha.var t cs).2 h2; rw [h1] at this; cases this)

theorem loadAt_congr (ha : Agree S S2 ts) (ad : AAddr) (n : Option Nat) : loadAt S2 h ad n = loadAt S h ad n := by simp only [loadAt, cellsAt_congr ha]

theorem fill_congr : ∀ {ps : List (Nat × Nat × Opd)} {cs : List AVal}, Agree S S2 (readsP ps) → fill S2 cs ps = fill S cs ps
  | [], _, _ => rfl
  | (o, n, x) :: ps, cs, ha => by
    simp only [readsP] at ha
    simp only [fill, ev_congr ha.left]
    split
    · split
      · exact fill_congr ha.right
      · rfl
    · rfl

theorem aSlice_congr {k : SliceKind} {x : Opd} {lo hi mx : Option AVal} (ha : Agree S S2 x.reads) : aSlice k S2 h x lo hi mx = aSlice k S h x lo hi mx := by
  cases k <;> simp only [aSlice, ev_congr ha, adr_congr ha]

/-- What an operation gave at the slots S it gives at S2. -/
def Same (S S2 : Slots) (r r2 : Option (Slot × Slots × Heap)) : Prop :=
  ∀ x s' h', r = some (x, s', h') → s' = S ∧ r2 = some (x, S2, h') ∧ ∀ cs, x ≠ .var cs

theorem same_ok1 (v : Option AVal) : Same S S2 (ok1 S h v) (ok1 S2 h v) := by
  intro x s' h' e
  obtain ⟨u, rfl, rfl, rfl, rfl⟩ := ok1_some e
  exact ⟨rfl, rfl, fun cs e => by cases e⟩

theorem same_none (r2 : Option (Slot × Slots × Heap)) : Same S S2 none r2 := by intro x s' h' e; cases e

theorem same_val (v : AVal) (h' : Heap) : Same S S2 (some (.val v, S, h')) (some (.val v, S2, h')) := by
  intro x s' h1 e; cases e; exact ⟨rfl, rfl, fun cs e => by cases e⟩

theorem same_loc (t o : Nat) : Same S S2 (some (.loc t o, S, h)) (some (.loc t o, S2, h)) := by
  intro x s' h1 e; cases e; exact ⟨rfl, rfl, fun cs e => by cases e⟩

theorem same_map {α : Type} (r : Option α) (f : α → AVal) (g : α → Heap) : Same S S2 (r.map fun y => (.val (f y), S, g y)) (r.map fun y => (.val (f y), S2, g y)) := by
  cases r with
  | none => exact same_none _
  | some y => exact same_val _ _

theorem conv_same (k : ConvKind) (v : AVal) : Same S S2 (evConv k v S h) (evConv k v S2 h) := by
  unfold evConv
  cases k <;> simp only
  · split
    · exact same_ok1 _
    · exact same_none _
  · split
    · exact same_ok1 _
    · exact same_none _
  · split
    · exact same_val _ _
    · exact same_none _
  · split
    · split
      · exact same_ok1 _
      · exact same_none _
    · exact same_none _

theorem op_congr {call : CallSem} {d : Nat} {o : AOp} (hc : calm o = true) (ha : Agree S S2 o.reads) : Same S S2 (evOp call d o S h) (evOp call d o S2 h) := by
  cases o with
  | lalloc z => cases hc
  | lbox x => cases hc
  | store n a x => cases hc
  | copy e d s => cases hc
  | val x => simp only [evOp, ev_congr ha]; exact same_ok1 _
  | pick c a b =>
    simp only [evOp, ev_congr ha.left.left, ev_congr ha.left.right, ev_congr ha.right]
    split
    · exact same_ok1 _
    · exact same_ok1 _
    · exact same_none _
  | alloc e z => exact same_val _ _
  | box x =>
    simp only [evOp, ev_congr ha]
    split
    · exact same_val _ _
    · exact same_none _
  | build z ps => simp only [evOp, fill_congr ha]; exact same_ok1 _
  | mkslice e n z ps =>
    simp only [evOp, fill_congr ha]
    split
    · exact same_val _ _
    · exact same_none _
  | load n a =>
    simp only [evOp, adr_congr ha]
    split
    · simp only [loadAt_congr ha]; exact same_ok1 _
    · exact same_none _
  | bin op x y =>
    simp only [evOp, ev_congr ha.left, ev_congr ha.right]
    split
    · exact same_ok1 _
    · exact same_none _
  | un op x =>
    simp only [evOp, ev_congr ha]
    split
    · exact same_ok1 _
    · exact same_none _
  | conv k x =>
    simp only [evOp, ev_congr ha]
    split
    · exact conv_same _ _
    · exact same_none _
  | mkfunc g f c =>
    simp only [evOp, evs_congr ha.left, evs_congr ha.right]
    split
    · exact same_ok1 _
    · exact same_none _
  | make e b z l c =>
    simp only [evOp, ev_congr ha.left, ev_congr ha.right]
    split
    · split
      · exact same_val _ _
      · exact same_none _
    · exact same_none _
  | slice k x lo hi mx =>
    simp only [evOp, optEv_congr ha.right, optEv_congr ha.left.right, optEv_congr ha.left.left.right]
    split
    · rw [aSlice_congr ha.left.left.left]; exact same_ok1 _
    · exact same_none _
  | faddr x off =>
    simp only [evOp, adr_congr ha]
    split
    · exact same_ok1 _
    · rw [isVar_congr ha]
      split
      · exact same_loc _ _
      · exact same_none _
    · exact same_none _
  | field x off n =>
    simp only [evOp, ev_congr ha]
    split
    · exact same_ok1 _
    · exact same_none _
  | iaddr e x i =>
    simp only [evOp, ev_congr ha.left, ev_congr ha.right]
    split
    · exact same_ok1 _
    · exact same_none _
  | aaddr n e x i =>
    simp only [evOp, adr_congr ha.left, ev_congr ha.right]
    split
    · exact same_ok1 _
    · rw [isVar_congr ha.left]
      split
      · rename_i t o i' _ _ _
        cases inBounds n i' with
        | none => exact same_none _
        | some j => exact same_loc _ _
      · exact same_none _
    · exact same_none _
  | index x i =>
    simp only [evOp, ev_congr ha.left, ev_congr ha.right]
    split
    · exact same_ok1 _
    · exact same_none _
  | aindex n e k x i =>
    simp only [evOp, ev_congr ha.left, ev_congr ha.right]
    split
    · exact same_ok1 _
    · exact same_none _
  | extract x i =>
    simp only [evOp, ev_congr ha]
    split
    · exact same_ok1 _
    · exact same_none _
  | call f args =>
    simp only [evOp, ev_congr ha.left, evs_congr ha.right]
    split
    · exact same_map _ _ _
    · split
      · exact same_map _ _ _
      · exact same_none _
    · exact same_none _
  | ext k xs =>
    simp only [evOp, evs_congr ha]
    split
    · exact same_map _ _ _
    · exact same_none _
  | callg g args =>
    simp only [evOp, evs_congr ha]
    split
    · exact same_map _ _ _
    · exact same_none _
  | len k x =>
    simp only [evOp, ev_congr ha]
    split
    · exact same_ok1 _
    · exact same_none _
  | append e b x y =>
    simp only [evOp, ev_congr ha.left, ev_congr ha.right]
    split
    · exact same_map _ _ _
    · exact same_none _
  | minmax m xs =>
    simp only [evOp, evs_congr ha]
    split
    · exact same_ok1 _
    · exact same_none _
  | nilcheck x =>
    simp only [evOp, ev_congr ha, adr_congr ha]
    split
    · exact same_ok1 _
    · split
      · rw [isVar_congr ha]
        split
        · exact same_loc _ _
        · exact same_none _
      · exact same_none _
  | eqnil k neg x y =>
    simp only [evOp, ev_congr ha.left, ev_congr ha.right]
    split
    · exact same_ok1 _
    · exact same_none _
  | beq neg x y =>
    simp only [evOp, ev_congr ha.left, ev_congr ha.right]
    split
    · exact same_ok1 _
    · exact same_none _
  | nextStr x => exact same_none _

/-- A calm operation, at slots that look the same to it: its slot gets the same. -/
theorem oper_congr {call : CallSem} {o : AOper} (hc : calm o.op = true) (ha : Agree S S2 o.reads) {s' : Slots} {h' : Heap} (e : evOper call o S h = some (s', h')) :
    ∃ x, s' = setSlot o.dst x S ∧ evOper call o S2 h = some (setSlot o.dst x S2, h') ∧ ∀ cs, x ≠ .var cs := by
  have run : evRun call o S h = some (s', h') → ∃ x, s' = setSlot o.dst x S ∧ evRun call o S2 h = some (setSlot o.dst x S2, h') ∧ ∀ cs, x ≠ .var cs := by
    intro e
    unfold evRun at e
    split at e
    · rename_i x s1 h1 h2
      cases e
      obtain ⟨e1, e2, e3⟩ := op_congr hc ha.left _ _ _ h2
      subst e1
      exact ⟨x, rfl, by unfold evRun; rw [e2], e3⟩
    · cases e
  unfold evOper at e ⊢
  cases hg : o.guard with
  | none =>
    rw [hg] at e
    exact run e
  | some tw =>
    obtain ⟨t, want⟩ := tw
    rw [hg] at e
    have ht : sget S2 t = sget S t := (ha.at_ t (by simp [AOper.reads, hg])).symm
    simp only at e ⊢
    rw [ht]
    split at e
    · split at e
      · rename_i hb
        obtain ⟨x, e1, e2, e3⟩ := run e
        exact ⟨x, e1, by rw [if_pos hb]; exact e2, e3⟩
      · rename_i hb
        cases e
        exact ⟨.undef, rfl, by rw [if_neg hb], fun cs e => by cases e⟩
    · cases e; exact ⟨.undef, rfl, rfl, fun cs e => by cases e⟩
    · cases e

end
end Go.Abs
