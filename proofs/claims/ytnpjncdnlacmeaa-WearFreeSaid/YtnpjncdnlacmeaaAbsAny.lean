/-
  A part whose order is open and in which objects are made: whatever order is drawn, it does what the evaluator says.
-/
import Derived.Test.YtnpjncdnlacmeaaAbsMove
namespace Go.Abs

section
variable {E : Env} {X : Nat → Prop}

/-- Objects from L on may be written, L being beyond what there was at first: that tells nothing new of what there was. -/
theorem Step.trans_high {wm L : Nat} {μ μ' μ'' : MM} {w w' w'' : World} (h : Step X wm μ w μ' w') (k : Step X L μ' w' μ'' w'') (hL : μ.length ≤ L) : Step X wm μ w μ'' w'' where
  os := k.os.trans h.os
  tape := k.tape.trans h.tape
  output := k.output.trans h.output
  size := Nat.le_trans h.size k.size
  block := fun b hb hx hn => by
    rw [← h.block b hb hx hn]
    refine k.block b (Nat.lt_of_lt_of_le hb h.size) hx fun i m hi hm => ?_
    rcases h.new i m (Nat.le_trans hL hi) hm with h2 | ⟨r, m0, hr, hm0, e⟩
    · omega
    · rw [← e]; exact hn r m0 hr hm0
  len := Nat.le_trans h.len k.len
  old := fun i hi => by
    rcases k.old i (Nat.lt_of_lt_of_le hi h.len) with h1 | ⟨h1, _⟩
    · rcases h.old i hi with h3 | ⟨h3, h4⟩
      · exact .inl (h1.trans h3)
      · exact .inr ⟨h3, h1.trans h4⟩
    · omega
  new := fun i m hl hm => by
    rcases Nat.lt_or_ge i μ'.length with h1 | h1
    · exact h.new i m hl (k.later.back h1 hm)
    · rcases k.new i m h1 hm with h3 | ⟨r, m0, hr, hm0, e⟩
      · exact .inl (Nat.le_trans h.size h3)
      · rcases h.new r m0 (Nat.le_trans hL hr) hm0 with h5 | ⟨r', m1, hr', hm1, e'⟩
        · exact .inl (by rw [← e]; exact h5)
        · exact .inr ⟨r', m1, hr', hm1, e'.trans e⟩

/-! ## Reserved numbers -/

theorem At.reserve {lo nt : Nat} {μ0 : MM} {w0 : World} {ds : List Deferred} {s : Slots} {h : Heap} {a : Act} {w : World} (hat : At E lo nt μ0 w0 ds s h a w) (n : Nat) :
    At E lo nt μ0 w0 ds s ⟨h.objs ++ List.replicate n .dead, h.base, h.wmin⟩ a w := by
  obtain ⟨μ, ν, k1, k2, k3, k4, k5, k6⟩ := hat
  have hl : Later μ (μ ++ List.replicate n none) := ⟨by simp, fun i hi => .inl (List.getElem?_append_left hi)⟩
  have hold : ∀ i, i < μ.length → (μ ++ List.replicate n none)[i]? = μ[i]? := fun i hi => List.getElem?_append_left hi
  have hnew : ∀ i m, (μ ++ List.replicate n none)[i]? = some (some m) → μ[i]? = some (some m) := fun i m hm => by
    rcases Nat.lt_or_ge i μ.length with h1 | h1
    · rw [← hold i h1]; exact hm
    · rw [List.getElem?_append_right h1, List.getElem?_replicate] at hm
      split at hm
      · cases hm
      · cases hm
  refine ⟨μ ++ List.replicate n none, ν, ?_, ?_, ?_, k4, k5, k6⟩
  · refine ⟨k1.os, k1.tape, k1.output, k1.size, k1.block, Nat.le_trans k1.len hl.len, fun i hi => ?_, fun i m hi hm => k1.new i m hi (hnew i m hm)⟩
    rw [hold i (Nat.lt_of_lt_of_le hi k1.len)]; exact k1.old i hi
  · constructor
    · simp [k2.len]
    · have := k2.bs; simp; omega
    · intro i o hi
      simp only at hi
      rcases Nat.lt_or_ge i h.objs.length with h1 | h1
      · rw [List.getElem?_append_left h1] at hi
        exact (k2.obj i o hi).keep hl fun m hm => ⟨by rw [hold i (by rw [k2.len]; exact h1)]; exact hm, rfl⟩
      · have hlt := lt_of_get hi
        rw [List.getElem?_append_right h1, List.getElem?_replicate] at hi
        split at hi
        · cases hi
          show (μ ++ _)[i]? = _
          rw [List.getElem?_append_right (by rw [k2.len]; exact h1), List.getElem?_replicate, k2.len]
          rw [if_pos (by assumption)]
        · cases hi
    · intro i j mi mj hij hi hmi hmj
      exact k2.sep i j mi mj hij hi (hnew _ _ hmi) (hnew _ _ hmj)
    · intro i m hm; exact k2.lt i m (hnew _ _ hm)
  · exact k3.keep hl (fun _ _ _ => rfl) (fun t cs i m hv hi hm => k3.sepm t cs i m hv (hnew _ _ hm)) fun r hr => ⟨rfl, fun i m hi hm => (k3.sepd r hr).1 i m (hnew _ _ hm)⟩

/-! ## What slots and objects name -/

theorem At.ids {lo nt : Nat} {μ0 : MM} {w0 : World} {ds : List Deferred} {s : Slots} {h : Heap} {a : Act} {w : World} (hat : At E lo nt μ0 w0 ds s h a w) :
    (∀ t y, sget s t = some y → ∀ i ∈ y.ids, i < h.size) ∧ (∀ (k : Nat) (o : AObj), h.objs[k]? = some o → ∀ i ∈ o.ids, i < h.size) ∧ μ0.length ≤ h.size := by
  obtain ⟨μ, ν, k1, k2, k3, k4, k5, k6⟩ := hat
  have hlen : μ.length = h.size := k2.len
  have hcells : ∀ {cs : List AVal} {c : Array Value} {b : Nat}, CRel E μ cs c b → ∀ i ∈ AVal.idsL cs, i < h.size := by
    intro cs c b hc i hi
    have : ∀ {cs : List AVal}, i ∈ AVal.idsL cs → ∃ (k : Nat) (v : AVal), cs[k]? = some v ∧ i ∈ v.ids := by
      intro cs
      induction cs with
      | nil => intro h; simp [AVal.idsL] at h
      | cons v cs ih =>
        intro h
        simp only [AVal.idsL, List.mem_append] at h
        rcases h with h | h
        · exact ⟨0, v, rfl, h⟩
        · obtain ⟨k, v', h1, h2⟩ := ih h
          exact ⟨k + 1, v', by simpa using h1, h2⟩
    obtain ⟨k, v, h1, h2⟩ := this hi
    obtain ⟨_, v', _, h3⟩ := hc k v h1
    rw [← hlen]; exact h3.ids_lt i h2
  refine ⟨fun t y hy i hi => ?_, fun k o ho i hi => ?_, by rw [← hlen]; exact k1.len⟩
  · cases y with
    | val v =>
      obtain ⟨v', _, h2⟩ := k3.val t v hy
      rw [← hlen]; exact h2.ids_lt i hi
    | var cs =>
      obtain ⟨_, _, c, e, fr, _, _, h5, _⟩ := k3.var t cs hy
      exact hcells h5 i hi
    | _ => simp [Slot.ids] at hi
  · have := k2.obj k o ho
    cases o with
    | dead => simp [AObj.ids] at hi
    | cells esz cs =>
      obtain ⟨m, c, e, fr, _, _, _, _, _, h6, _⟩ := this
      exact hcells h6 i hi
    | map es clock =>
      obtain ⟨m, es', _, _, _, h4⟩ := this
      simp only [AObj.ids, List.mem_flatMap, List.mem_append] at hi
      obtain ⟨x, hx, hi⟩ := hi
      obtain ⟨k', hk'⟩ := List.getElem?_of_mem hx
      obtain ⟨y, _, h5, h6, _⟩ := h4 k' x hk'
      rw [← hlen]
      rcases hi with hi | hi
      · exact h5.ids_lt i hi
      · exact h6.ids_lt i hi
    | iter s pos => simp [AObj.ids] at hi
    | loop g st p sl =>
      obtain ⟨m, r, _, _, h3⟩ := this
      simp only [AObj.ids] at hi
      have : ∀ {l : List AVal}, i ∈ AVal.idsL l → ∃ (k : Nat) (v : AVal), l[k]? = some v ∧ i ∈ v.ids := by
        intro l
        induction l with
        | nil => intro h; simp [AVal.idsL] at h
        | cons v l ih =>
          intro h
          simp only [AVal.idsL, List.mem_append] at h
          rcases h with h | h
          · exact ⟨0, v, rfl, h⟩
          · obtain ⟨k, v', h1, h2⟩ := ih h
            exact ⟨k + 1, v', by simpa using h1, h2⟩
      obtain ⟨k, v, h1, h2⟩ := this hi
      rw [List.getElem?_map, Option.map_eq_some_iff] at h1
      obtain ⟨x, hx, rfl⟩ := h1
      obtain ⟨v', _, h4⟩ := h3.slots k x hx
      rw [← hlen]; exact h4.ids_lt i h2

/-! ## One operation -/

theorem noCall_ok (E : Env) : CallOK E noCall := ⟨fun _ _ _ _ _ h => by simp [noCall] at h, fun _ _ _ _ _ _ _ _ _ _ h => by simp [noCall] at h⟩
theorem noCall_evol : CallEvol noCall := fun _ _ _ _ _ h => by simp [noCall] at h

variable {ops : Array Oper} {lo nt : Nat} {μ0 : MM} {w0 : World} {ds : List Deferred} {s : Slots} {a : Act} {w : World} {Q : Exit → Act → World → Prop} {ro : Option Nat}

theorem soft_step (hg : GidOK E) {loc : Bool} {o : Oper} {o' : AOper} {s1 : Slots} {h1 : Heap} {os : List AObj} {base wm N : Nat} (hop : cOper E nt ops loc o = some o')
    (hev : evOper noCall o' s ⟨os, base, N⟩ = some (s1, h1)) (hw : wm ≤ h1.wmin) (hat : At E lo nt μ0 w0 ds s ⟨os, base, wm⟩ a w) {next : Act → World → Prop} (hn : ∀ a' w', At E lo nt μ0 w0 ds s1 ⟨h1.objs, base, wm⟩ a' w' → next a' w') :
    if Region.wanted o (yielded ops a.tmps) then o.wpIn (F0 ro) 0 E.P a w next Q else next (a.put o.dst Go.undef) w := by
  obtain ⟨μ, ν, k1, k2, k3, k4, k5, k6⟩ := hat
  have hevol := oper_evol noCall_evol hev
  have hat' : At E lo nt μ w ds s ⟨os, base, N⟩ a w := ⟨μ, ν, Step.refl _ _ _ _, k2.same rfl rfl rfl, k3, k4, k5, k6⟩
  refine oper_sound (noCall_ok E) noCall_evol hg hop hev hat' fun a' w' hat1 => hn a' w' ?_
  obtain ⟨μ', ν', j1, j2, j3, j4, j5, j6⟩ := hat1
  exact ⟨μ', ν', k1.trans (j1.weaken hw fun _ h _ => h) (Nat.le_refl _), j2.same rfl hevol.base.symm rfl, j3, j4, j5, j6⟩

theorem oper_heap {call : CallSem} {o : AOper} {h1 h2 : Heap} {s' : Slots} {h' : Heap} (hso : soft o.op = true) (hcc : o.op.isCall = false) (hb : h2.base = h1.base) (ha : ∀ x ∈ heapOpds o.op, ∀ v, x.ev s = some v → ∀ i ∈ v.ids, h2.get i = h1.get i)
    (e : evOper call o s h1 = some (s', h')) :
    (∃ x, s' = setSlot o.dst x s ∧ h' = h1 ∧ evOper call o s h2 = some (setSlot o.dst x s, h2)) ∨
    (∃ ob f, NewF f ∧ s' = setSlot o.dst (f h1.size) s ∧ h' = h1.push ob ∧ evOper call o s h2 = some (setSlot o.dst (f h2.size) s, h2.push ob)) ∨
      (∃ i ob f, NewF f ∧ h1.base ≤ i ∧ i < h1.size ∧ i ∈ rdIds o.op s ∧ s' = setSlot o.dst (f h1.size) s ∧ h' = (h1.put i .dead).push ob ∧ evOper call o s h2 = some (setSlot o.dst (f h2.size) s, (h2.put i .dead).push ob)) := by
  have run : ∀ {s' h'}, evRun call o s h1 = some (s', h') → (∃ x, s' = setSlot o.dst x s ∧ h' = h1 ∧ evRun call o s h2 = some (setSlot o.dst x s, h2)) ∨
    (∃ ob f, NewF f ∧ s' = setSlot o.dst (f h1.size) s ∧ h' = h1.push ob ∧ evRun call o s h2 = some (setSlot o.dst (f h2.size) s, h2.push ob)) ∨
      (∃ i ob f, NewF f ∧ h1.base ≤ i ∧ i < h1.size ∧ i ∈ rdIds o.op s ∧ s' = setSlot o.dst (f h1.size) s ∧ h' = (h1.put i .dead).push ob ∧ evRun call o s h2 = some (setSlot o.dst (f h2.size) s, (h2.put i .dead).push ob)) := by
    intro s' h' e
    unfold evRun at e ⊢
    split at e
    case h_2 => cases e
    rename_i x s1 h3 he
    cases e
    obtain ⟨rfl, hm⟩ := op_heap (d := o.dst.getD 0) hso hcc hb ha x s1 _ he
    rcases hm with ⟨rfl, hm⟩ | ⟨ob, f, hf, rfl, rfl, hm⟩ | ⟨i, ob, f, hf, hi, hi2, hi3, rfl, rfl, hm⟩
    · exact .inl ⟨x, rfl, rfl, by rw [hm]⟩
    · exact .inr (.inl ⟨ob, f, hf, rfl, rfl, by rw [hm]⟩)
    · exact .inr (.inr ⟨i, ob, f, hf, hi, hi2, hi3, rfl, rfl, by rw [hm]⟩)
  unfold evOper at e ⊢
  split at e
  · exact run e
  · rename_i t want hg
    split at e
    · split at e
      · rename_i hbw
        rw [if_pos hbw]
        exact run e
      · rename_i hbw
        rw [if_neg hbw]
        cases e
        exact .inl ⟨.undef, rfl, rfl, rfl⟩
    · cases e
      exact .inl ⟨.undef, rfl, rfl, rfl⟩
    · cases e

end
end Go.Abs
