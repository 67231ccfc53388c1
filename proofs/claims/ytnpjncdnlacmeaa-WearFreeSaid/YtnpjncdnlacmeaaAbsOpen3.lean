/-
  Open parts: operations neither of which waits for the other touch nothing that the other looks at.
-/
import Derived.Test.YtnpjncdnlacmeaaAbsJoin
namespace Go.Abs

section
variable {ops : Array Oper}

theorem chain_trans {i j k : Nat} (h1 : Chain ops i j) (h2 : Chain ops j k) : Chain ops i k := by
  induction h1 with
  | one ho he hb => exact .step ho he hb h2
  | step ho he hb _ ih => exact .step ho he hb (ih h2)

theorem chain_lt (hb : edgesBack ops = true) {j i : Nat} (h : Chain ops j i) : i < j := by
  have step : ∀ {j : Nat} {o : Oper} {e : Edge}, ops[j]? = some o → e ∈ o.after → Region.binds .any e = true → e.on < j := by
    intro j o e ho he hbb
    have hjs : j < ops.size := lt_of_get (l := ops.toList) (by simpa using ho)
    unfold edgesBack at hb
    rw [List.all_eq_true] at hb
    have := hb j (List.mem_range.2 hjs)
    rw [ho] at this
    simp only [Array.all_eq_true'] at this
    have := this e he
    simpa [hbb] using this
  induction h with
  | one ho he hbb => exact step ho he hbb
  | step ho he hbb _ ih => have := step ho he hbb; omega

theorem mask_edge (acc : List Nat) (l : List Edge) (s i : Nat) (e : Edge) (he : e ∈ l) (hb : Region.binds .any e = true) (h : e.on = i ∨ (acc.getD e.on 0).testBit i = true) :
    (l.foldl (fun s e => if Region.binds .any e then s ||| 2 ^ e.on ||| acc.getD e.on 0 else s) s).testBit i = true := by
  have keep : ∀ (l : List Edge) (s : Nat), s.testBit i = true → (l.foldl (fun s e => if Region.binds .any e then s ||| 2 ^ e.on ||| acc.getD e.on 0 else s) s).testBit i = true := by
    intro l
    induction l with
    | nil => exact fun s h => h
    | cons x l ih =>
      intro s h
      simp only [List.foldl_cons]
      refine ih _ ?_
      split
      · rw [Nat.testBit_or, Nat.testBit_or, h]; rfl
      · exact h
  induction l generalizing s with
  | nil => cases he
  | cons x l ih =>
    simp only [List.foldl_cons]
    rcases List.mem_cons.1 he with rfl | he
    · refine keep l _ ?_
      rw [if_pos hb, Nat.testBit_or, Nat.testBit_or, Nat.testBit_two_pow]
      rcases h with h | h
      · simp [h]
      · rw [h]; simp
    · exact ih _ he

/-- What is waited for, through others, is in the mask. -/
theorem chain_bit (hb : edgesBack ops = true) : ∀ (l : List Oper) (acc : List Nat), ops.toList.drop acc.length = l → (∀ k i, k < acc.length → Chain ops k i → (acc.getD k 0).testBit i = true) →
    ∀ k i, k < acc.length + l.length → Chain ops k i → ((befs l acc).getD k 0).testBit i = true
  | [], acc, _, h, k, i, hk, hc => h k i (by simpa using hk) hc
  | o :: l, acc, hd, h, k, i, hk, hc => by
    simp only [befs]
    have ho : ops[acc.length]? = some o := by
      have := congrArg (fun l => l[0]?) hd
      simpa using this
    refine chain_bit hb l (acc ++ [maskOf acc o]) ?_ (fun k' i' hk' hc' => ?_) k i (by simp at hk ⊢; omega) hc
    · have := congrArg List.tail hd
      simpa using this
    · rcases Nat.lt_or_ge k' acc.length with h1 | h1
      · rw [List.getD_eq_getElem?_getD, List.getElem?_append_left h1, ← List.getD_eq_getElem?_getD]
        exact h k' i' h1 hc'
      · have h2 : k' = acc.length := by simp at hk'; omega
        subst h2
        rw [List.getD_eq_getElem?_getD, List.getElem?_append_right (Nat.le_refl _)]
        simp only [Nat.sub_self, List.getElem?_cons_zero, Option.getD_some]
        unfold maskOf
        cases hc' with
        | one ho' he hbb => rw [ho] at ho'; cases ho'; exact mask_edge acc _ 0 _ _ (by simpa using he) hbb (.inl rfl)
        | step ho' he hbb hrest =>
          rw [ho] at ho'; cases ho'
          refine mask_edge acc _ 0 _ _ (by simpa using he) hbb (.inr (h _ _ ?_ hrest))
          exact chain_lt hb (.one ho he hbb)
end

section
theorem heapOpds_reads {o : AOp} {x : Opd} (hx : x ∈ heapOpds o) : ∀ t ∈ x.reads, t ∈ o.reads := by
  intro t ht
  have inL : ∀ {xs : List Opd}, x ∈ xs → t ∈ readsL xs := by
    intro xs
    induction xs with
    | nil => intro h; cases h
    | cons y ys ih =>
      intro h
      simp only [readsL, List.mem_append]
      rcases List.mem_cons.1 h with rfl | h
      · exact .inl ht
      · exact .inr (ih h)
  cases o <;> simp only [heapOpds, List.mem_cons, List.not_mem_nil, or_false] at hx <;> (try (cases hx; done))
  case ext k xs => cases k <;> simp only [heapOpds, List.not_mem_nil] at hx <;> exact inL hx
  case append e b y z =>
    simp only [AOp.reads, List.mem_append]
    rcases hx with rfl | rfl
    · exact .inl ht
    · exact .inr ht
  case slice k y a b c => subst hx; simp only [AOp.reads, List.mem_append]; exact .inl (.inl (.inl ht))
  all_goals (subst hx; simpa [AOp.reads] using ht)

theorem rdIds_congr {S S2 : Slots} {o : AOp} (ha : Agree S S2 o.reads) : rdIds o S2 = rdIds o S := by
  unfold rdIds
  have : ∀ (l : List Opd), (∀ x ∈ l, x.ev S2 = x.ev S) → (l.flatMap fun x => match x.ev S2 with | some v => v.ids | none => []) = l.flatMap fun x => match x.ev S with | some v => v.ids | none => [] := by
    intro l
    induction l with
    | nil => intro _; rfl
    | cons y l ih =>
      intro h
      rw [List.flatMap_cons, List.flatMap_cons, ih fun x hx => h x (List.mem_cons_of_mem _ hx), h y (List.mem_cons_self ..)]
  exact this _ fun x hx => ev_congr ⟨fun t ht => ha.at_ t (heapOpds_reads hx t ht), ha.var⟩

theorem rdIds_mem {o : AOp} {s : Slots} {x : Opd} {v : AVal} {i : Nat} (hx : x ∈ heapOpds o) (hv : x.ev s = some v) (hi : i ∈ v.ids) : i ∈ rdIds o s := by
  unfold rdIds
  rw [List.mem_flatMap]
  exact ⟨x, hx, by rw [hv]; exact hi⟩

theorem dstSlot_set (d : Option Nat) (x : Slot) (s s2 : Slots) : setSlot d (dstSlot d (setSlot d x s)) s2 = setSlot d x s2 := by
  cases d with
  | none => rfl
  | some d => simp [dstSlot, setSlot, sget]

variable {call : CallSem} {n : Nat} {ops : Nat → Option AOper} {ms : Nat → Nat} {S : Nat → Slots} {H : Nat → Heap} {r : Nat → Slot} {D : Nat → Did}

/-- What a soft operation did in the text. -/
inductive SForm (o : AOper) (Sx : Slots) (Hx Hx' : Heap) (rx : Slot) (d : Did) : Prop where
  | none (x : Slot) : evOper noCall o Sx ⟨Hx.objs, Hx.base, Hx.size⟩ = some (setSlot o.dst x Sx, ⟨Hx.objs, Hx.base, Hx.size⟩) → rx = dstSlot o.dst (setSlot o.dst x Sx) → Hx' = Hx → d.ch = Option.none → SForm o Sx Hx Hx' rx d
  | push (ob : AObj) (f : Nat → Slot) : NewF f → evOper noCall o Sx ⟨Hx.objs, Hx.base, Hx.size⟩ = some (setSlot o.dst (f Hx.size) Sx, (⟨Hx.objs, Hx.base, Hx.size⟩ : Heap).push ob) → rx = dstSlot o.dst (setSlot o.dst (f Hx.size) Sx) →
      Hx'.objs = Hx.objs ++ [ob] → d.ch = Option.none → SForm o Sx Hx Hx' rx d
  | kill (i : Nat) (ob : AObj) (f : Nat → Slot) : NewF f → i < Hx.size → Hx.base ≤ i → i ∈ rdIds o.op Sx → evOper noCall o Sx ⟨Hx.objs, Hx.base, Hx.size⟩ = some (setSlot o.dst (f Hx.size) Sx, ((⟨Hx.objs, Hx.base, Hx.size⟩ : Heap).put i .dead).push ob) →
      rx = dstSlot o.dst (setSlot o.dst (f Hx.size) Sx) → Hx'.objs = Hx.objs.set i .dead ++ [ob] → d.ch = some i → Hx'.wmin ≤ i → SForm o Sx Hx Hx' rx d

theorem soft_form {n0 m : Nat} {ds : List Did} {o : AOper} {s : Slots} {h h' : Heap} {y : Slot} {d : Did} (hs : soft o.op = true) (h1 : OneSoft n0 m ds o s h y h' d) : SForm o s h h' y d ∧ (h'.size = h.size → ∀ i ∈ y.ids, okId n0 m ds i = true) ∧
    ∀ ob, h'.size = h.size + 1 → h'.objs[h.size]? = some ob → ∀ i ∈ ob.ids, okId n0 m ds i = true := by
  obtain ⟨s1, g, he, hy, hrest⟩ := h1.run
  have hform := oper_heap hs h1.isc (h2 := ⟨h.objs, h.base, h.size⟩) rfl (fun _ _ _ _ _ _ => rfl) he
  rcases hform with ⟨x, e1, e2, e3⟩ | ⟨ob, f, hf, e1, e2, e3⟩ | ⟨i, ob, f, hf, hb, hi, hir, e1, e2, e3⟩
  · subst e1; subst e2
    rcases hrest with ⟨_, _, q1, q2, q3⟩ | ⟨ob', q1, _⟩
    · subst q2
      exact ⟨.none x e3 hy rfl q3, fun _ => q1, fun ob h2 => by omega⟩
    · simp only [Heap.size] at q1; omega
  · subst e1; subst e2
    rcases hrest with ⟨q1, _⟩ | ⟨ob', q1, q2, q3, q4⟩
    · simp [Heap.push, Heap.size] at q1
    · have hob : ob' = ob := by
        simp only [Heap.push, Heap.size] at q2
        rw [List.getElem?_append_right (Nat.le_refl _)] at q2
        simpa using q2.symm
      subst hob
      rcases q4 with ⟨q5, q6, q7⟩ | ⟨q5, q6, q7⟩
      · subst q7
        refine ⟨.push _ f hf e3 hy rfl q6, fun h2 => by simp [Heap.push, Heap.size] at h2, fun ob2 _ h3 => ?_⟩
        simp only [Heap.push, Heap.size] at h3
        rw [List.getElem?_append_right (Nat.le_refl _)] at h3
        simp at h3; subst h3
        exact q3
      · simp [Heap.push] at q5
  · subst e1; subst e2
    have hsz : (((⟨h.objs, h.base, h.size⟩ : Heap).put i .dead).push ob).size = h.size + 1 := by simp [Heap.push, Heap.put, Heap.size]
    rcases hrest with ⟨q1, _⟩ | ⟨ob', q1, q2, q3, q4⟩
    · omega
    · have hob : ob' = ob := by
        simp only [Heap.push, Heap.put, Heap.size] at q2
        rw [List.getElem?_append_right (by simp)] at q2
        simpa using q2.symm
      subst hob
      have hwm : (((⟨h.objs, h.base, h.size⟩ : Heap).put i .dead).push ob').wmin = i := by
        have hi' : i < h.size := hi
        simp only [Heap.push, Heap.put]; omega
      rcases q4 with ⟨q5, q6, q7⟩ | ⟨q5, q6, q7⟩
      · have hi' : i < h.size := hi
        omega
      · rw [hwm] at q6
        subst q7
        refine ⟨.kill i _ f hf hi hb hir e3 hy rfl q6 (by simp only [hwm]; exact Nat.min_le_right _ _), fun h2 => by simp [Heap.push, Heap.put, Heap.size] at h2, fun ob2 _ h3 => ?_⟩
        simp only [Heap.push, Heap.put, Heap.size] at h3
        rw [List.getElem?_append_right (by simp)] at h3
        simp at h3; subst h3
        exact q3

namespace Txt
variable (T : Txt call n ops ms S H r D) (hev0 : CallEvol call)
include T hev0

theorem form {x : Nat} {o : AOper} (hx : x < n) (ho : ops x = some o) (hc : o.op.isCall = false) : SForm o (S x) (H x) (H (x + 1)) (r x) (D x) ∧ (D x).isCall = false ∧ (D x).rd = rdIds o.op (S x) ∧ (D x).wr = none := by
  obtain ⟨_, _, _, _, hs | hs⟩ := T.spec hev0 hx ho
  · rw [hs.isc] at hc; cases hc
  · exact ⟨(soft_form (T.soft x o hx ho) hs).1, hs.did⟩

/-- What it does not write to is as it was. -/
theorem unwritten {x i : Nat} (hx : x < n) (hi : i < (H x).size) (hw : (D x).writes i = false) : (H (x + 1)).objs[i]? = (H x).objs[i]? := by
  obtain ⟨o, ho⟩ := T.all x hx
  have hw2 : (D x).ch ≠ some i ∧ ∀ w, (D x).wr = some w → i < w := by
    unfold Did.writes at hw
    simp only [Bool.or_eq_false_iff, beq_eq_false_iff_ne] at hw
    refine ⟨hw.1, fun w h => ?_⟩
    have := hw.2
    rw [h] at this
    simpa using this
  obtain ⟨_, _, _, _, hs | hs⟩ := T.spec hev0 hx ho
  · obtain ⟨s1, g, he, _, _, h1⟩ := hs.run
    have hev := oper_evol hev0 he
    have hgo : i < g.wmin → allSeen (ms x) 0 (dsl D x) = true → g.objs[i]? = (H x).objs[i]? := fun h2 h3 => by
      have := hev.objs i (by simp only [Heap.size, hide_length]; exact hi) h2
      simp only [hide_all _ _ 0 _ h3] at this
      exact this
    rcases h1 with ⟨a1, a2, a3, a4⟩ | ⟨a1, a2, a3, a4⟩ | ⟨a1, a2, a3, a4⟩
    · rw [a4]; exact hgo (hw2.2 _ a3) a1
    · rw [a4]; exact hgo (by omega) a1
    · rw [a4]; exact List.getElem?_append_left hi
  · rcases (soft_form (T.soft x o hx ho) hs).1 with ⟨y, _, _, e, _⟩ | ⟨ob, f, _, _, _, e, _⟩ | ⟨j, ob, f, _, _, _, _, _, _, e, ec, _⟩
    · rw [e]
    · rw [e]; exact List.getElem?_append_left hi
    · rw [e, List.getElem?_append_left (by rw [List.length_set]; exact hi), List.getElem?_set_ne]
      intro e2; subst e2; exact hw2.1 ec

abbrev sz (H : Nat → Heap) (x : Nat) : Nat := (H x).size

omit T hev0 in
theorem upd_some {x i : Nat} (h : upd D (sz H) H x i ≠ none) : i < (H (x + 1)).size ∧ ((H x).size ≤ i ∨ (D x).writes i = true) := by
  unfold upd at h
  split at h
  · rename_i ht; exact ht
  · exact absurd rfl h

/-- What x may name and another one, that has nothing to do with it, does not touch. -/
theorem untouched {x y i : Nat} (hx : x < n) (hy : y < n) (hne : y ≠ x) (h1 : (ms x).testBit y = false) (hvis : Vis ms H x i) (hnw : (D y).writes i = false) : upd D (sz H) H y i = none := by
  cases hu : upd D (sz H) H y i with
  | none => rfl
  | some o =>
    exfalso
    obtain ⟨h2, h3⟩ := upd_some (D := D) (H := H) (x := y) (i := i) (by rw [hu]; simp)
    rcases h3 with h3 | h3
    · rcases hvis with hv | ⟨z, hz, hb, h4, h5⟩
      · have := T.mono hev0 (Nat.zero_le y) (by omega); omega
      · have := T.apart hev0 (by omega) hy h4 h5 h3 h2
        subst this
        rw [hb] at h1; cases h1
    · rw [hnw] at h3; cases h3

omit hev0 in
/-- Neither waits for the other: they don't clash. -/
theorem noclash2 {x y : Nat} (hx : x < n) (hy : y < n) (hne : y ≠ x) (h1 : (ms x).testBit y = false) (h2 : (ms y).testBit x = false) : clash (D x) (D y) = false ∨ clash (D y) (D x) = false := by
  rcases Nat.lt_or_ge y x with h | h
  · exact .inl (T.noclash hx h h1)
  · exact .inr (T.noclash hy (by omega) h2)

omit T hev0 in
theorem clash_rd {x y : Did} (h : clash x y = false ∨ clash y x = false) (i : Nat) (hi : i ∈ x.rd ++ x.ch.toList) : y.writes i = false := by
  unfold clash at h
  simp only [Bool.or_eq_false_iff, List.any_eq_false] at h
  rcases h with h | h
  · have := h.2 i hi; simpa using this
  · have := h.1.2 i hi; simpa using this

omit T hev0 in
theorem clash_call {x y : Did} (h : clash x y = false ∨ clash y x = false) (hx : x.isCall = true) : y.isCall = false ∧ y.ch = none := by
  unfold clash at h
  simp only [Bool.or_eq_false_iff, List.any_eq_false, Bool.and_eq_false_iff] at h
  rcases h with h | h
  · obtain ⟨⟨⟨⟨h1, h2⟩, h3⟩, h4⟩, h5⟩ := h
    refine ⟨?_, ?_⟩
    · rcases h1 with h1 | h1
      · rw [hx] at h1; cases h1
      · exact h1
    · rcases h3 with h3 | h3
      · cases hq : y.ch with
        | none => rfl
        | some j => rw [hq] at h3; cases h3
      · rw [hx] at h3; cases h3
  · obtain ⟨⟨⟨⟨h1, h2⟩, h3⟩, h4⟩, h5⟩ := h
    refine ⟨?_, ?_⟩
    · rcases h1 with h1 | h1
      · exact h1
      · rw [hx] at h1; cases h1
    · rcases h2 with h2 | h2
      · cases hq : y.ch with
        | none => rfl
        | some j => rw [hq] at h2; cases h2
      · rw [hx] at h2; cases h2

/-- A soft one writes but to what it has named; a call is told from where on. -/
theorem wr_call {y : Nat} (hy : y < n) : (D y).isCall = false → (D y).wr = none := by
  intro h
  obtain ⟨o, ho⟩ := T.all y hy
  obtain ⟨_, _, _, _, hs | hs⟩ := T.spec hev0 hy ho
  · rw [hs.did.1] at h; cases h
  · exact hs.did.2.2

theorem ch_rd {y i : Nat} (hy : y < n) (h : (D y).ch = some i) : i ∈ (D y).rd ∧ i < (H y).size ∧ Vis ms H y i := by
  obtain ⟨o, ho⟩ := T.all y hy
  obtain ⟨⟨_, hrd⟩, _, _, _, hs | hs⟩ := T.spec hev0 hy ho
  · rw [hs.did.2.2] at h; cases h
  · rcases (soft_form (T.soft y o hy ho) hs).1 with ⟨_, _, _, _, e⟩ | ⟨_, _, _, _, _, _, e⟩ | ⟨j, _, _, _, hj, _, hr, _, _, _, e, _⟩
    · rw [e] at h; cases h
    · rw [e] at h; cases h
    · rw [e] at h; cases h
      exact ⟨by rw [hs.did.2.1]; exact hr, hj, (T.okId_iff hev0 hy).1 (hrd i hr)⟩

/-- A call sees what it sees, whatever the others do. -/
theorem cvis {x y i : Nat} (hx : x < n) (hy : y < n) (hne : y ≠ x) (h1 : (ms x).testBit y = false) (h2 : (ms y).testBit x = false) (hc : (D x).isCall = true) (hvis : Vis ms H x i) : upd D (sz H) H y i = none := by
  refine T.untouched hev0 hx hy hne h1 hvis ?_
  obtain ⟨q1, q2⟩ := clash_call (T.noclash2 hx hy hne h1 h2) hc
  simp [Did.writes, q2, T.wr_call hev0 hy q1]

/-- What a soft one looks at. -/
theorem crd {x y i : Nat} (hx : x < n) (hy : y < n) (hne : y ≠ x) (h1 : (ms x).testBit y = false) (h2 : (ms y).testBit x = false) (hi : i ∈ (D x).rd) (hvis : Vis ms H x i) : upd D (sz H) H y i = none :=
  T.untouched hev0 hx hy hne h1 hvis (clash_rd (T.noclash2 hx hy hne h1 h2) i (List.mem_append_left _ hi))

/-- No two write to the same. -/
theorem cww {x y i : Nat} (hx : x < n) (hy : y < n) (hne : y ≠ x) (h1 : (ms x).testBit y = false) (h2 : (ms y).testBit x = false) (hu : upd D (sz H) H x i ≠ none) : upd D (sz H) H y i = none := by
  cases hu2 : upd D (sz H) H y i with
  | none => rfl
  | some o =>
    exfalso
    obtain ⟨a1, a2⟩ := upd_some hu
    obtain ⟨b1, b2⟩ := upd_some (D := D) (H := H) (x := y) (i := i) (by rw [hu2]; simp)
    have hcl := T.noclash2 hx hy hne h1 h2
    -- one makes it, the other writes to it
    have mk : ∀ {x y : Nat}, x < n → y < n → y ≠ x → (ms y).testBit x = false → i < (H (x + 1)).size → (H x).size ≤ i → (D y).writes i = true → i < (H (y + 1)).size → i < (H y).size → False := by
      intro x y hx hy hne h2 a1 a2 b2 b1 b3
      have hyx : x < y := by
        rcases Nat.lt_trichotomy x y with h | h | h
        · exact h
        · exact absurd h.symm hne
        · have := T.mono hev0 (show y ≤ x by omega) (by omega); omega
      unfold Did.writes at b2
      simp only [Bool.or_eq_true, beq_iff_eq] at b2
      rcases b2 with b2 | b2
      · obtain ⟨_, _, hv⟩ := T.ch_rd hev0 hy b2
        rcases hv with hv | ⟨z, hz, hb, h4, h5⟩
        · have := T.mono hev0 (Nat.zero_le x) (by omega); omega
        · have := T.apart hev0 (by omega) hx h4 h5 a2 a1
          subst this
          rw [hb] at h2; cases h2
      · have := T.writer hev0 hy (fun e => by rw [e] at b2; cases b2) hyx (by omega)
        rw [this] at h2; cases h2
    by_cases a3 : (H x).size ≤ i
    · by_cases b3 : (H y).size ≤ i
      · exact hne (T.apart hev0 hy hx b3 b1 a3 a1)
      · exact mk hx hy hne h2 a1 a3 (b2.resolve_left b3) b1 (by omega)
    · by_cases b3 : (H y).size ≤ i
      · exact mk hy hx (fun e => hne e.symm) h1 b1 b3 (a2.resolve_left a3) a1 (by omega)
      · have a4 := a2.resolve_left a3
        have b4 := b2.resolve_left b3
        unfold Did.writes at a4
        simp only [Bool.or_eq_true, beq_iff_eq] at a4
        rcases a4 with a4 | a4
        · have := clash_rd hcl i (List.mem_append_right _ (by rw [a4]; simp))
          rw [this] at b4; cases b4
        · have hc : (D x).isCall = true := by
            cases hq : (D x).isCall with
            | true => rfl
            | false => rw [T.wr_call hev0 hx hq] at a4; cases a4
          obtain ⟨q1, q2⟩ := clash_call hcl hc
          simp [Did.writes, q2, T.wr_call hev0 hy q1] at b4

end Txt
end
end Go.Abs
