/-
  Open parts: whatever order is drawn, it does what the evaluator says.
-/
import Derived.Test.YtnpjncdnlacmeaaAbsOpen3
namespace Go.Abs

section
variable {E : Env}

theorem Rel.ids {μ : MM} {h : Heap} {w : World} (hr : Rel E μ h w) {i : Nat} {o : AObj} (ho : h.objs[i]? = some o) : ∀ j ∈ o.ids, j < h.size := by
  have hat : At E 0 0 μ w [] [] ⟨h.objs, h.base, μ.length⟩ { tmps := #[], defers := [] } w :=
    ⟨μ, ⟨fun _ => 0, []⟩, Step.refl _ _ _ _, hr.same rfl rfl rfl, ⟨by simp [sget], by simp [sget], by simp [sget], by simp [sget], by simp [sget], by simp [sget], by simp, by simp, by simp⟩, rfl, rfl, Nat.zero_le _⟩
  exact hat.ids.2.1 i o ho

theorem app_last {l : List AObj} {o : AObj} {k : Nat} (h : l.length = k) : (l ++ [o])[k]? = some o := by
  subst h; simp

def restr (p : Nat → Bool) (s : Slots) : Slots := s.filter fun x => p x.1

theorem restr_get (p : Nat → Bool) : ∀ (s : Slots) (t : Nat), sget (restr p s) t = if p t = true then sget s t else none
  | [], t => by simp [restr, sget]
  | (u, x) :: s, t => by
    have ih := restr_get p s t
    unfold restr at ih ⊢
    rw [List.filter_cons]
    by_cases hu : p u = true
    · rw [if_pos hu]
      simp only [sget]
      by_cases e : u = t
      · subst e; simp [hu]
      · rw [if_neg e, ih, if_neg e]
    · rw [if_neg hu, ih]
      simp only [sget]
      by_cases e : u = t
      · subst e; simp [hu]
      · rw [if_neg e]

theorem cOper_dst {nt : Nat} {ops : Array Oper} {loc : Bool} {o : Oper} {o' : AOper} (h : cOper E nt ops loc o = some o') : o'.dst = o.dst ∧ ∀ t, o.dst = some t → t < nt := by
  unfold cOper at h
  split at h
  case isFalse => cases h
  rename_i hh
  simp only [Bool.and_eq_true] at hh
  refine ⟨?_, fun t ht => by have := hh.1; rw [ht] at this; simpa using this⟩
  split at h
  · cases h; rfl
  · split at h
    · cases h; rfl
    · cases h

theorem calm_of_soft {o : AOp} (h : soft o = true) : calm o = true := by
  cases o <;> simp_all [soft, calm]

variable {call : CallSem} {n : Nat} {aops : Nat → Option AOper} {ms : Nat → Nat} {S : Nat → Slots} {H : Nat → Heap} {r : Nat → Slot} {D : Nat → Did}

open Txt

/-- What stands where, when those in L have been carried out. -/
noncomputable def memL (D : Nat → Did) (H : Nat → Heap) (n : Nat) (L : Nat → Bool) : List AObj := (List.range (H n).size).map (mem D (sz H) H L n)

theorem memL_length (L : Nat → Bool) : (memL D H n L).length = (H n).size := by simp [memL]
theorem memL_get {L : Nat → Bool} {i : Nat} (hi : i < (H n).size) : (memL D H n L)[i]? = some (mem D (sz H) H L n i) := by
  simp [memL, hi]

def okL (H : Nat → Heap) (n : Nat) (L : Nat → Bool) (i : Nat) : Prop := i < (H 0).size ∨ ∃ y, y < n ∧ L y = true ∧ (H y).size ≤ i ∧ i < (H (y + 1)).size
def okA (ms : Nat → Nat) (H : Nat → Heap) (n y i : Nat) : Prop := i < (H 0).size ∨ ∃ z, z < n ∧ (z = y ∨ (ms y).testBit z = true) ∧ (H z).size ≤ i ∧ i < (H (z + 1)).size

/-- What holds when those in L have been carried out. -/
structure Inv (E : Env) (lo nt : Nat) (μ0 : MM) (w0 : World) (ds : List Deferred) (n : Nat) (ms : Nat → Nat) (H : Nat → Heap) (r : Nat → Slot) (D : Nat → Did) (L : Nat → Bool) (sD : Slots) (a : Act) (w : World) : Prop where
  at' : At E lo nt μ0 w0 ds sD ⟨memL D H n L, (H 0).base, (H n).wmin⟩ a w
  slots : ∀ t y, sget sD t = some y → ∀ i ∈ y.ids, okL H n L i
  vars : ∀ t cs, sget sD t = some (.var cs) → ∀ i ∈ AVal.idsL cs, i < (H 0).size
  down : ∀ x y, x < n → L x = true → (ms x).testBit y = true → L y = true
  upds : ∀ y, y < n → L y = true → (∀ i o, upd D (sz H) H y i = some o → ∀ j ∈ o.ids, okA ms H n y j) ∧ ∀ j ∈ (r y).ids, okA ms H n y j

variable {lo nt : Nat} {μ0 : MM} {w0 : World} {ds : List Deferred} {ops : Array Oper} {Q : Exit → Act → World → Prop} {ro : Option Nat}

/-- What is known of operation x, when it comes up. -/
structure Up (n : Nat) (ms : Nat → Nat) (L : Nat → Bool) (x : Nat) : Prop where
  lt : x < n
  not : L x = false
  below : ∀ y, y < n → (ms x).testBit y = true → L y = true
  above : ∀ y, y < n → L y = true → (ms y).testBit x = false

section
variable (T : Txt call n aops ms S H r D) (hev0 : CallEvol call)
include T hev0

omit T hev0 in
theorem Inv.objs {L : Nat → Bool} {sD : Slots} {a : Act} {w : World} (h0 : ∀ (i : Nat) o, (H 0).objs[i]? = some o → ∀ j ∈ o.ids, j < (H 0).size) (hI : Inv E lo nt μ0 w0 ds n ms H r D L sD a w) (i : Nat) : ∀ j ∈ (mem D (sz H) H L n i).ids, okL H n L j := by
  intro j hj
  rcases mem_from (D := D) (sz := sz H) (H := H) (L := L) (i := i) n with ⟨h1, _⟩ | ⟨y, o, h1, h2, h3, h4⟩
  · rw [h1] at hj
    cases hq : (H 0).objs[i]? with
    | none => rw [hq] at hj; simp [AObj.ids] at hj
    | some o => rw [hq] at hj; exact .inl (h0 i o hq j hj)
  · rw [h4] at hj
    rcases (hI.upds y h1 h2).1 i o h3 j hj with h5 | ⟨z, hz, h5, h6⟩
    · exact .inl h5
    · rcases h5 with rfl | h5
      · exact .inr ⟨z, hz, h2, h6⟩
      · exact .inr ⟨z, hz, hI.down y z h1 h2 h5, h6⟩

/-- The memory that x looks at is that of the text. -/
theorem mem_same {L : Nat → Bool} {x i : Nat} (hU : Up n ms L x) (h : ∀ y, y < n → y ≠ x → (ms x).testBit y = false → (ms y).testBit x = false → upd D (sz H) H y i = none) :
    mem D (sz H) H L n i = ((H x).objs[i]?).getD .dead := by
  have hx := hU.lt
  rw [← mem_text (D := D) (sz := sz H) (H := H) (i := i) (n := n) (fun _ => rfl) (fun y hy => (T.evol hev0 hy).size) (fun y i hy hi hw => T.unwritten hev0 hy hi hw) x (by omega)]
  obtain ⟨k, rfl⟩ : ∃ k, n = x + k := ⟨n - x, by omega⟩
  rw [← mem_prefix x k]
  refine mem_congr _ fun y hy hu => ?_
  by_cases e : y = x
  · subst e; rw [hU.not]; simp
  · cases hb : (ms x).testBit y with
    | true =>
      rw [hU.below y hy hb]
      have := T.back x y hx hb
      simp [this]
    | false =>
      cases hb2 : (ms y).testBit x with
      | true =>
        have h1 := T.back y x hy hb2
        cases hl : L y with
        | false => simp; omega
        | true =>
          have := hU.above y hy hl
          rw [hb2] at this; cases this
      | false => exact absurd (h y hy e hb hb2) hu

/-- One more has been carried out: object i. -/
theorem mem_hit {L : Nat → Bool} {x i : Nat} {o : AObj} (hU : Up n ms L x) (hu : upd D (sz H) H x i = some o) : mem D (sz H) H (fun y => y == x || L y) n i = o := by
  refine mem_insert_hit hU.lt hu fun y hy hxy hl => ?_
  refine T.cww hev0 hU.lt hy (by omega) ?_ (hU.above y hy hl) (by rw [hu]; simp)
  cases hb : (ms x).testBit y with
  | false => rfl
  | true => have := T.back x y hU.lt hb; omega

theorem okL_new {L : Nat → Bool} {x i : Nat} (hU : Up n ms L x) (h : okL H n L i) : ¬ ((H x).size ≤ i ∧ i < (H (x + 1)).size) := by
  rintro ⟨h1, h2⟩
  rcases h with h | ⟨y, hy, hl, h3, h4⟩
  · have := T.mono hev0 (Nat.zero_le x) (by have := hU.lt; omega); omega
  · have := T.apart hev0 hU.lt hy h1 h2 h3 h4
    subst this
    rw [hU.not] at hl; cases hl

theorem okL_lt {L : Nat → Bool} {i : Nat} (h : okL H n L i) : i < (H n).size := by
  rcases h with h | ⟨y, hy, hl, h3, h4⟩
  · exact Nat.lt_of_lt_of_le h (T.mono hev0 (Nat.zero_le n) (Nat.le_refl _))
  · exact Nat.lt_of_lt_of_le h4 (T.mono hev0 hy (Nat.le_refl _))

omit hev0 in
/-- What x did is put to the rest. -/
theorem Inv.next {L : Nat → Bool} {sD : Slots} {a a' : Act} {w w' : World} {x : Nat} {o' : AOper} (hU : Up n ms L x) (ho : aops x = some o') (hI : Inv E lo nt μ0 w0 ds n ms H r D L sD a w)
    (hat : At E lo nt μ0 w0 ds (setSlot o'.dst (r x) sD) ⟨memL D H n (fun y => y == x || L y), (H 0).base, (H n).wmin⟩ a' w')
    (hr : ∀ j ∈ (r x).ids, okA ms H n x j) (hu : ∀ i o, upd D (sz H) H x i = some o → ∀ j ∈ o.ids, okA ms H n x j) (hrv : ∀ cs, r x ≠ .var cs) : Inv E lo nt μ0 w0 ds n ms H r D (fun y => y == x || L y) (setSlot o'.dst (r x) sD) a' w' := by
  have up : ∀ {i}, okL H n L i → okL H n (fun y => y == x || L y) i := fun h => by
    rcases h with h | ⟨y, hy, hl, h3⟩
    · exact .inl h
    · exact .inr ⟨y, hy, by simp [hl], h3⟩
  have dn : ∀ {j}, okA ms H n x j → okL H n (fun y => y == x || L y) j := fun h => by
    rcases h with h | ⟨z, hz, h1, h2⟩
    · exact .inl h
    · rcases h1 with rfl | h1
      · exact .inr ⟨z, hz, by simp, h2⟩
      · exact .inr ⟨z, hz, by simp [hU.below z hz h1], h2⟩
  refine ⟨hat, fun t y hy i hi => ?_, fun t cs hy i hi => ?_, fun y z hy hl hb => ?_, fun y hy hl => ?_⟩
  · rw [setSlot_get] at hy
    split at hy
    · cases hy; exact dn (hr i hi)
    · exact up (hI.slots t y hy i hi)
  · rw [setSlot_get] at hy
    split at hy
    · exact absurd (Option.some.inj hy) (hrv cs)
    · exact hI.vars t cs hy i hi
  · simp only [Bool.or_eq_true, beq_iff_eq] at hl ⊢
    rcases hl with rfl | hl
    · by_cases hz : z < n
      · exact .inr (hU.below z hz hb)
      · have := T.back y z hy hb; omega
    · exact .inr (hI.down y z hy hl hb)
  · simp only [Bool.or_eq_true, beq_iff_eq] at hl
    rcases hl with rfl | hl
    · exact ⟨hu, hr⟩
    · exact hI.upds y hy hl

/-- What x makes is not there ahead of it. -/
theorem mem_new {L : Nat → Bool} {x i : Nat} (hU : Up n ms L x) (h1 : (H x).size ≤ i) (h2 : i < (H (x + 1)).size) : mem D (sz H) H L n i = .dead := by
  have hx := hU.lt
  have hu : upd D (sz H) H x i ≠ none := by
    unfold upd
    rw [if_pos (show touched D (sz H) x i from ⟨h2, .inl h1⟩), List.getElem?_eq_getElem (show i < (H (x + 1)).objs.length from h2)]
    simp
  rcases mem_from (D := D) (sz := sz H) (H := H) (L := L) (i := i) n with ⟨h3, _⟩ | ⟨y, o, h3, h4, h5, _⟩
  · rw [h3, List.getElem?_eq_none]
    · rfl
    · have := T.mono hev0 (Nat.zero_le x) (by omega)
      show (H 0).size ≤ i
      omega
  · exfalso
    have hne : y ≠ x := fun e => by subst e; rw [hU.not] at h4; cases h4
    have hb2 := hU.above y h3 h4
    cases hb : (ms x).testBit y with
    | false =>
      have := T.cww hev0 hx h3 hne hb hb2 hu
      rw [h5] at this; cases this
    | true =>
      have hyx := T.back x y hx hb
      obtain ⟨u1, _⟩ := upd_some (D := D) (H := H) (x := y) (i := i) (by rw [h5]; simp)
      have := T.mono hev0 (show y + 1 ≤ x from hyx) (by omega)
      omega

/-- A soft operation, when it comes up. -/
theorem soft_up (hg : GidOK E) (h0 : ∀ (i : Nat) o, (H 0).objs[i]? = some o → ∀ j ∈ o.ids, j < (H 0).size) (hμ0 : μ0.length ≤ (H 0).size) (hbase0 : (H 0).base ≤ (H 0).size) {L : Nat → Bool} {sD : Slots} {a : Act} {w : World} {x : Nat} {loc : Bool} {o : Oper} {o' : AOper} (hU : Up n ms L x)
    (ho : aops x = some o') (hop : cOper E nt ops loc o = some o') (hc : o'.op.isCall = false) (hrv : ∀ cs, r x ≠ .var cs) (hag : Agree (S x) sD o'.reads) (hI : Inv E lo nt μ0 w0 ds n ms H r D L sD a w)
    (next : Act → World → Prop) (hn : ∀ a' w', Inv E lo nt μ0 w0 ds n ms H r D (fun y => y == x || L y) (setSlot o'.dst (r x) sD) a' w' → next a' w') :
    if Region.wanted o (yielded ops a.tmps) then o.wpIn (F0 ro) 0 E.P a w next Q else next (a.put o.dst Go.undef) w := by
  have hx := hU.lt
  have hb : (H x).base = (H 0).base := T.base hev0 (by omega)
  have hszx : (H x).size ≤ (H (x + 1)).size := (T.evol hev0 hx).size
  have hszn : (H (x + 1)).size ≤ (H n).size := T.mono hev0 hx (Nat.le_refl _)
  have h0x : (H 0).size ≤ (H x).size := T.mono hev0 (Nat.zero_le x) (by omega)
  have hbase : (H 0).base ≤ (H x).size := by omega
  obtain ⟨hform, hd1, hd2, hd3⟩ := T.form hev0 hx ho hc
  obtain ⟨⟨hrok, hrd⟩, _, _, _, hsp⟩ := T.spec hev0 hx ho
  have hsoft := T.soft x o' hx ho
  have hone : OneSoft (H 0).size (ms x) (dsl D x) o' (S x) (H x) (r x) (H (x + 1)) (D x) := by
    rcases hsp with h | h
    · rw [h.isc] at hc; cases hc
    · exact h
  obtain ⟨_, hids1, hids2⟩ := soft_form hsoft hone
  have okV : ∀ {i}, okId (H 0).size (ms x) (dsl D x) i = true → okA ms H n x i := fun h => by
    rcases (T.okId_iff hev0 hx).1 h with h | ⟨z, hz, hb', h2⟩
    · exact .inl h
    · exact .inr ⟨z, by omega, .inr hb', h2⟩
  have okVL : ∀ {i}, okId (H 0).size (ms x) (dsl D x) i = true → okL H n L i := fun h => by
    rcases (T.okId_iff hev0 hx).1 h with h | ⟨z, hz, hb', h2⟩
    · exact .inl h
    · exact .inr ⟨z, by omega, hU.below z (by omega) hb', h2⟩
  -- it looks at what it looked at in the text
  have hlook : ∀ i ∈ (D x).rd, i < (H x).size ∧ mem D (sz H) H L n i = ((H x).objs[i]?).getD .dead := fun i hi => by
    rw [hd2] at hi
    have hv := (T.okId_iff hev0 hx).1 (hrd i hi)
    refine ⟨?_, mem_same T hev0 hU fun y hy hne h1 h2 => T.crd hev0 hx hy hne h1 h2 (by rw [hd2]; exact hi) hv⟩
    rcases hv with hv | ⟨z, hz, _, _, h4⟩
    · omega
    · have := T.mono hev0 (show z + 1 ≤ x from hz) (by omega); omega
  have hheap : ∀ {sX : Slots}, rdIds o'.op sX = rdIds o'.op (S x) → ∀ y ∈ heapOpds o'.op, ∀ v, y.ev sX = some v → ∀ i ∈ v.ids, (⟨memL D H n L, (H 0).base, (H n).size⟩ : Heap).get i = (⟨(H x).objs, (H x).base, (H x).size⟩ : Heap).get i := by
    intro sX hr' y hy v hv i hi
    have h1 : i ∈ (D x).rd := by rw [hd2, ← hr']; exact rdIds_mem hy hv hi
    obtain ⟨h2, h3⟩ := hlook i h1
    simp only [Heap.get]
    rw [memL_get (by omega), h3]
    have h2' : i < (H x).objs.length := h2
    rw [List.getElem?_eq_getElem h2']; rfl
  have hrd' := rdIds_congr (o := o'.op) (S := S x) (S2 := sD) ⟨fun t ht => hag.at_ t (List.mem_append_left _ ht), hag.var⟩
  have hwn : (H n).wmin ≤ (H (x + 1)).wmin := T.wmin hev0 hx (Nat.le_refl _)
  let W := max (H n).size (H n).wmin
  have hW : (H n).wmin ≤ W := Nat.le_max_right _ _
  have hml : (memL D H n L).length = (H n).size := memL_length L
  -- slots' numbers, objects' numbers
  have hne : ∀ {i}, (H x).size < (H (x + 1)).size → okL H n L i → i < (H n).size ∧ i ≠ (H x).size := fun h1 h => ⟨okL_lt T hev0 h, fun e => okL_new T hev0 hU h ⟨by omega, by omega⟩⟩
  have hobj : ∀ (k : Nat) (ob : AObj), (memL D H n L)[k]? = some ob → ∀ i ∈ ob.ids, okL H n L i := fun k ob hk i hi => by
    have hk' : k < (H n).size := by rw [← hml]; exact lt_of_get hk
    rw [memL_get hk'] at hk; cases hk
    exact hI.objs h0 k i hi
  have hdst := cOper_dst hop
  rcases hform with ⟨x0, e1, e2, e3, e4⟩ | ⟨ob, f, hf, e1, e2, e3, e4⟩ | ⟨i, ob, f, hf, hi, hib, hir, e1, e2, e3, e4, e5⟩
  · -- nothing is made
    obtain ⟨x1, c1, c2, _⟩ := oper_congr (calm_of_soft hsoft) hag e1
    rcases oper_heap (h1 := ⟨(H x).objs, (H x).base, (H x).size⟩) (h2 := ⟨memL D H n L, (H 0).base, W⟩) hsoft hc hb.symm (hheap hrd') c2 with ⟨x2, d1, _, d3⟩ | ⟨ob, f, _, _, d3, _⟩ | ⟨i, ob, f, _, _, _, _, _, d3, _⟩
    · refine soft_step hg hop d3 hW hI.at' fun a' w' hat' => hn a' w' ?_
      have hno : ∀ j, upd D (sz H) H x j = none := fun j => by
        cases hu : upd D (sz H) H x j with
        | none => rfl
        | some o2 =>
          exfalso
          obtain ⟨u1, u2⟩ := upd_some (D := D) (H := H) (x := x) (i := j) (by rw [hu]; simp)
          rw [e3] at u1
          rcases u2 with u2 | u2
          · omega
          · simp [Did.writes, e4, hd3] at u2
      have hmem : memL D H n (fun y => y == x || L y) = memL D H n L := by
        unfold memL
        apply List.map_congr_left
        intro j _
        exact mem_insert_miss (hno j)
      have hslot : setSlot o'.dst (r x) sD = setSlot o'.dst x2 sD := by
        rw [e2, c1, dstSlot_set, d1]
      refine Inv.next T hU ho hI (by rw [hmem, hslot]; exact hat') (fun j hj => okV (hids1 (by rw [e3]) j hj)) (fun j o2 hu => by rw [hno j] at hu; cases hu) hrv
    · exfalso; have := congrArg Heap.size d3; simp [Heap.size, Heap.push] at this
    · exfalso; have := congrArg Heap.size d3; simp [Heap.size, Heap.push, Heap.put] at this
  · -- an object is made
    have hsz1 : (H (x + 1)).size = (H x).size + 1 := by simp [Heap.size, e3]
    obtain ⟨x1, c1, c2, _⟩ := oper_congr (calm_of_soft hsoft) hag e1
    rcases oper_heap (h1 := ⟨(H x).objs, (H x).base, (H x).size⟩) (h2 := ⟨memL D H n L, (H 0).base, W⟩) hsoft hc hb.symm (hheap hrd') c2 with ⟨x2, _, d2, _⟩ | ⟨ob2, f2, hf2, d1, d3, d4⟩ | ⟨i2, ob2, f2, _, _, hi2, _, _, d3, _⟩
    · exfalso; have := congrArg Heap.size d2; simp [Heap.size, Heap.push] at this
    · have hob : ob2 = ob := by
        have := congrArg Heap.objs d3
        simp [Heap.push] at this
        exact this.symm
      subst hob
      have hupd : ∀ j, upd D (sz H) H x j = if j = (H x).size then some ob2 else none := fun j => by
        unfold upd touched
        by_cases hj : j = (H x).size
        · subst hj
          rw [if_pos ⟨by rw [show sz H (x + 1) = (H (x + 1)).size from rfl, hsz1]; omega, .inl (Nat.le_refl _)⟩, if_pos rfl, e3]; exact app_last rfl
        · rw [if_neg hj, if_neg]
          rintro ⟨h1, h2 | h2⟩
          · have h1' : j < (H (x + 1)).size := h1
            have h2' : (H x).size ≤ j := h2
            omega
          · simp [Did.writes, e4, hd3] at h2
      have hobids := hids2 ob2 hsz1 (by rw [e3]; exact app_last rfl)
      have hslot : setSlot o'.dst (r x) sD = setSlot o'.dst (f2 (H x).size) sD := by
        rw [e2, c1, dstSlot_set, d1]; rfl
      refine soft_step hg hop d4 (by simp only [Heap.push]; exact hW) hI.at' fun a' w' hat' => hn a' w' ?_
      have hmv := At.move (N := (H n).size) (r := (H x).size) (h := ⟨memL D H n L, (H 0).base, (H n).wmin⟩) (x := f2 (H n).size) (ob := ob2) (wm := (H n).wmin) (d := o'.dst) (s := sD) (by
          have : (⟨memL D H n L, (H 0).base, W⟩ : Heap).size = (H n).size := hml
          rw [this] at hat'; exact hat') hml (by rw [memL_get (by omega), mem_new T hev0 hU (Nat.le_refl _) (by omega)]) (by
          have : (H 0).base ≤ (H x).size := hbase
          exact this) (by omega) (fun t y hy i hi => hne (by omega) (hI.slots t y hy i hi)) (fun v hv i hi => by
          have := hf2.ids (H n).size
          rw [hv] at this
          simp only [Slot.ids] at this
          rw [this] at hi
          simp at hi; omega) (fun cs => hf2.novar _ cs) (fun i hi => hne (by omega) (okVL (hobids i hi))) (fun k o2 hk i hi => hne (by omega) (hobj k o2 hk i hi))
      rw [hf2.ren, ← hslot] at hmv
      have hmem : (memL D H n L).set (H x).size ob2 = memL D H n (fun y => y == x || L y) := by
        apply List.ext_getElem?
        intro j
        rcases Nat.lt_or_ge j (H n).size with hj | hj
        · rw [memL_get hj]
          by_cases ej : j = (H x).size
          · subst ej
            rw [List.getElem?_set, if_pos rfl, if_pos (by omega), mem_hit T hev0 hU (by rw [hupd, if_pos rfl])]
          · rw [List.getElem?_set_ne (fun e => ej e.symm), memL_get hj, mem_insert_miss (by rw [hupd, if_neg ej])]
        · rw [List.getElem?_eq_none (by simp [hml]; exact hj), List.getElem?_eq_none (by rw [memL_length]; exact hj)]
      simp only [hmem] at hmv
      refine Inv.next T hU ho hI hmv (fun j hj => ?_) (fun j o2 hu k hk => ?_) hrv
      · refine .inr ⟨x, hx, .inl rfl, ?_⟩
        have : r x = f (H x).size ∨ r x = .undef := by
          rw [e2]
          cases o'.dst with
          | none => exact .inr rfl
          | some d => exact .inl (by simp [dstSlot, setSlot, sget])
        rcases this with e | e
        · rw [e, hf.ids] at hj; simp at hj; omega
        · rw [e] at hj; simp [Slot.ids] at hj
      · rw [hupd] at hu
        split at hu
        · cases hu; exact okV (hobids k hk)
        · cases hu
    · exfalso
      have := congrArg Heap.wmin d3
      have hi2' : i2 < (H x).size := hi2
      simp [Heap.push, Heap.put] at this
      omega
  · -- an object is made, another one is gone
    have hsz1 : (H (x + 1)).size = (H x).size + 1 := by simp [Heap.size, e3]
    obtain ⟨x1, c1, c2, _⟩ := oper_congr (calm_of_soft hsoft) hag e1
    rcases oper_heap (h1 := ⟨(H x).objs, (H x).base, (H x).size⟩) (h2 := ⟨memL D H n L, (H 0).base, W⟩) hsoft hc hb.symm (hheap hrd') c2 with ⟨x2, _, d2, _⟩ | ⟨ob2, f2, hf2, d1, d3, d4⟩ | ⟨i2, ob2, f2, hf2, _, hi2, _, d1, d3, d4⟩
    · exfalso; have := congrArg Heap.size d2; simp [Heap.size, Heap.push, Heap.put] at this
    · exfalso
      have := congrArg Heap.wmin d3
      simp [Heap.push, Heap.put] at this
      omega
    · have hi2' : i2 < (H x).size := hi2
      have hii : i2 = i := by
        have := congrArg Heap.wmin d3
        simp [Heap.push, Heap.put] at this
        omega
      subst hii
      have hob : ob2 = ob := by
        have := congrArg Heap.objs d3
        simp [Heap.push, Heap.put] at this
        exact this.symm
      subst hob
      have hupd : ∀ j, upd D (sz H) H x j = if j = (H x).size then some ob2 else if j = i2 then some .dead else none := fun j => by
        unfold upd touched
        by_cases hj : j = (H x).size
        · subst hj
          rw [if_pos ⟨by rw [show sz H (x + 1) = (H (x + 1)).size from rfl, hsz1]; omega, .inl (Nat.le_refl _)⟩, if_pos rfl, e3]; exact app_last (List.length_set ..)
        · rw [if_neg hj]
          by_cases hj2 : j = i2
          · subst hj2
            rw [if_pos ⟨by rw [show sz H (x + 1) = (H (x + 1)).size from rfl, hsz1]; omega, .inr (by simp [Did.writes, e4])⟩, if_pos rfl, e3]
            have hlt : j < (H x).objs.length := hi2
            rw [List.getElem?_append_left (by simpa using hlt), List.getElem?_set, if_pos rfl, if_pos hlt]
          · rw [if_neg hj2, if_neg]
            rintro ⟨h1, h2 | h2⟩
            · have h1' : j < (H (x + 1)).size := h1
              have h2' : (H x).size ≤ j := h2
              omega
            · simp [Did.writes, e4, hd3] at h2
              exact hj2 h2.symm
      have hobids := hids2 ob2 hsz1 (by rw [e3]; exact app_last (List.length_set ..))
      have hslot : setSlot o'.dst (r x) sD = setSlot o'.dst (f2 (H x).size) sD := by
        rw [e2, c1, dstSlot_set, d1]; rfl
      refine soft_step hg hop d4 (by simp only [Heap.push, Heap.put]; omega) hI.at' fun a' w' hat' => hn a' w' ?_
      have hml2 : ((memL D H n L).set i2 .dead).length = (H n).size := by rw [List.length_set]; exact hml
      have hmv := At.move (N := (H n).size) (r := (H x).size) (h := ⟨(memL D H n L).set i2 .dead, (H 0).base, (H n).wmin⟩) (x := f2 (H n).size) (ob := ob2) (wm := (H n).wmin) (d := o'.dst) (s := sD) (by
          have : (⟨memL D H n L, (H 0).base, W⟩ : Heap).size = (H n).size := hml
          rw [this] at hat'; exact hat') hml2 (by rw [List.getElem?_set_ne (by omega), memL_get (by omega), mem_new T hev0 hU (Nat.le_refl _) (by omega)]) (by
          have : (H 0).base ≤ (H x).size := hbase
          exact this) (by omega) (fun t y hy i hi => hne (by omega) (hI.slots t y hy i hi)) (fun v hv i hi => by
          have := hf2.ids (H n).size
          rw [hv] at this
          simp only [Slot.ids] at this
          rw [this] at hi
          simp at hi; omega) (fun cs => hf2.novar _ cs) (fun i hi => hne (by omega) (okVL (hobids i hi))) (fun k o2 hk i hi => by
          by_cases ek : i2 = k
          · subst ek
            rw [List.getElem?_set, if_pos rfl] at hk
            split at hk
            · cases hk; simp [AObj.ids] at hi
            · cases hk
          · rw [List.getElem?_set_ne ek] at hk
            exact hne (by omega) (hobj k o2 hk i hi))
      rw [hf2.ren, ← hslot] at hmv
      have hmem : ((memL D H n L).set i2 .dead).set (H x).size ob2 = memL D H n (fun y => y == x || L y) := by
        apply List.ext_getElem?
        intro j
        rcases Nat.lt_or_ge j (H n).size with hj | hj
        · rw [memL_get hj]
          by_cases ej : j = (H x).size
          · subst ej
            rw [List.getElem?_set, if_pos rfl, if_pos (by omega), mem_hit T hev0 hU (by rw [hupd, if_pos rfl])]
          · rw [List.getElem?_set_ne (fun e => ej e.symm)]
            by_cases ej2 : j = i2
            · subst ej2
              rw [List.getElem?_set, if_pos rfl, if_pos (by omega), mem_hit T hev0 hU (by rw [hupd, if_neg ej, if_pos rfl])]
            · rw [List.getElem?_set_ne (fun e => ej2 e.symm), memL_get hj, mem_insert_miss (by rw [hupd, if_neg ej, if_neg ej2])]
        · rw [List.getElem?_eq_none (by simp [hml]; exact hj), List.getElem?_eq_none (by rw [memL_length]; exact hj)]
      simp only [hmem] at hmv
      refine Inv.next T hU ho hI hmv (fun j hj => ?_) (fun j o2 hu k hk => ?_) hrv
      · refine .inr ⟨x, hx, .inl rfl, ?_⟩
        have : r x = f (H x).size ∨ r x = .undef := by
          rw [e2]
          cases o'.dst with
          | none => exact .inr rfl
          | some d => exact .inl (by simp [dstSlot, setSlot, sget])
        rcases this with e | e
        · rw [e, hf.ids] at hj; simp at hj; omega
        · rw [e] at hj; simp [Slot.ids] at hj
      · rw [hupd] at hu
        split at hu
        · cases hu; exact okV (hobids k hk)
        · split at hu
          · cases hu; simp [AObj.ids] at hk
          · cases hu

end
end
end Go.Abs
