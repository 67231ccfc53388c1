/-
  A call was carried out in a memory that told less than all: what it left, joined to the rest.
-/
import Derived.Test.YtnpjncdnlacmeaaAbsOpen2
namespace Go.Abs

section
variable {E : Env}

open Classical in
/-- Of the first k objects those that are seen. -/
noncomputable def maskM (vis : Nat → Prop) (k : Nat) (μ : MM) : MM := (List.range k).map fun i => if vis i then (μ[i]?).getD none else none

theorem maskM_length (vis : Nat → Prop) (k : Nat) (μ : MM) : (maskM vis k μ).length = k := by simp [maskM]

theorem maskM_get {vis : Nat → Prop} {k i : Nat} {μ : MM} (hi : i < k) (hk : k ≤ μ.length) : (vis i → (maskM vis k μ)[i]? = μ[i]?) ∧ (¬ vis i → (maskM vis k μ)[i]? = some none) := by
  unfold maskM
  rw [List.getElem?_map, List.getElem?_range hi]
  simp only [Option.map_some]
  constructor
  · intro h
    rw [if_pos h, List.getElem?_eq_getElem (by omega)]; rfl
  · intro h
    rw [if_neg h]

theorem maskM_some {vis : Nat → Prop} {k i : Nat} {μ : MM} {m : M} (hk : k ≤ μ.length) (h : (maskM vis k μ)[i]? = some (some m)) : vis i ∧ i < k ∧ μ[i]? = some (some m) := by
  have hi : i < k := by have := lt_of_get h; rwa [maskM_length] at this
  by_cases hv : vis i
  · exact ⟨hv, hi, ((maskM_get hi hk).1 hv).symm.trans h⟩
  · rw [(maskM_get hi hk).2 hv] at h; cases h

variable {lo nt : Nat} {μ0 μ : MM} {w0 w : World} {ds : List Deferred} {s : Slots} {a : Act} {ν : Fr}

/-- What is seen, of a memory. -/
theorem Rel.mask {vis : Nat → Prop} {k : Nat} {objs os : List AObj} {base wm wm' : Nat} (hr : Rel E μ ⟨objs, base, wm⟩ w) (hk : k ≤ objs.length) (hb : base ≤ k) (hos : os.length = k)
    (h1 : ∀ i, i < k → vis i → os[i]? = objs[i]?) (h2 : ∀ i, i < k → ¬ vis i → os[i]? = some .dead) (hids : ∀ i o, i < k → vis i → objs[i]? = some o → ∀ j ∈ o.ids, j < k ∧ vis j) : Rel E (maskM vis k μ) ⟨os, base, wm'⟩ w := by
  have hkl : k ≤ μ.length := by rw [hr.len]; exact hk
  constructor
  · rw [maskM_length]; exact hos.symm
  · simp only [hos]; exact hb
  · intro i o ho
    simp only at ho
    have hi : i < k := by rw [← hos]; exact lt_of_get ho
    by_cases hv : vis i
    · rw [h1 i hi hv] at ho
      exact (hr.obj i o ho).same ((maskM_get hi hkl).1 hv) fun j hj hl => by
        obtain ⟨q1, q2⟩ := hids i o hi hv ho j hj
        exact (maskM_get q1 hkl).1 q2
    · rw [h2 i hi hv] at ho; cases ho
      exact (maskM_get hi hkl).2 hv
  · intro i j mi mj hij hi hmi hmj
    exact hr.sep i j mi mj hij hi (maskM_some hkl hmi).2.2 (maskM_some hkl hmj).2.2
  · intro i m hm; exact hr.lt i m (maskM_some hkl hm).2.2

/-- Slots whose values name only what is seen. -/
theorem FRel.mask {vis : Nat → Prop} {k : Nat} {g : SlotFn} {tmps : Array Value} (h : FRel E lo ν μ g tmps w) (hk : k ≤ μ.length) (hids : ∀ t y, g t = some y → ∀ i ∈ y.ids, i < k ∧ vis i) : FRel E lo ν (maskM vis k μ) g tmps w where
  val := fun t v hv => by
    obtain ⟨v', h1, h2⟩ := h.val t v hv
    exact ⟨v', h1, same_rel (fun i hi _ => by obtain ⟨q1, q2⟩ := hids t _ hv i hi; exact (maskM_get q1 hk).1 q2) h2⟩
  undef := h.undef
  var := fun t cs hv => by
    obtain ⟨h1, h2, c, e, fr, h3, h4, h5, h6⟩ := h.var t cs hv
    refine ⟨h1, h2, c, e, fr, h3, h4, fun q v hq => ?_, h6⟩
    obtain ⟨z1, v', z2, z3⟩ := h5 q v hq
    exact ⟨z1, v', z2, same_rel (fun i hi _ => by obtain ⟨q1, q2⟩ := hids t _ hv i (idsL_mem hq hi); exact (maskM_get q1 hk).1 q2) z3⟩
  loc := h.loc
  sepv := h.sepv
  sepm := fun t cs i m hv hm => h.sepm t cs i m hv (maskM_some hk hm).2.2
  ds := h.ds
  sepd := fun r hr => ⟨fun i m hm => (h.sepd r hr).1 i m (maskM_some hk hm).2.2, (h.sepd r hr).2⟩
  nodup := h.nodup

open Classical in
/-- The rest, and what the call left. -/
noncomputable def joinM (vis : Nat → Prop) (lo1 hi1 : Nat) (μ μ' : MM) : MM :=
  (List.range μ.length).map fun i => if (i < lo1 ∧ vis i) ∨ (lo1 ≤ i ∧ i < hi1) then (μ'[i]?).getD none else (μ[i]?).getD none

theorem joinM_length (vis : Nat → Prop) (lo1 hi1 : Nat) (μ μ' : MM) : (joinM vis lo1 hi1 μ μ').length = μ.length := by simp [joinM]

def Now (vis : Nat → Prop) (lo1 hi1 i : Nat) : Prop := (i < lo1 ∧ vis i) ∨ (lo1 ≤ i ∧ i < hi1)

theorem joinM_get {vis : Nat → Prop} {lo1 hi1 i : Nat} {μ μ' : MM} (hi : i < μ.length) (hl : μ'.length = hi1) : (Now vis lo1 hi1 i → i < hi1 → (joinM vis lo1 hi1 μ μ')[i]? = μ'[i]?) ∧ (¬ Now vis lo1 hi1 i → (joinM vis lo1 hi1 μ μ')[i]? = μ[i]?) := by
  unfold joinM Now
  rw [List.getElem?_map, List.getElem?_range hi]
  simp only [Option.map_some]
  constructor
  · intro h h2
    rw [if_pos h, List.getElem?_eq_getElem (by omega)]; rfl
  · intro h
    rw [if_neg h, List.getElem?_eq_getElem hi]; rfl

/-- What a call left, joined to the rest. -/
theorem At.join {objs objs' : List AObj} {base wF lo1 hi1 : Nat} {vis : Nat → Prop} {g : Heap} {μ' : MM} {w' : World} {d : Option Nat} {x : Slot} {v : Value}
    (k1 : Step (fun k => lo ≤ k) wF μ0 w0 μ w) (k2 : Rel E μ ⟨objs, base, wF⟩ w) (k3 : FRel E lo ν μ (sget s) a.tmps w) (k4 : a.tmps.size = nt) (k5 : a.defers = ν.ds.map markOf ++ ds) (k6 : lo ≤ w.heap.size)
    (hle : lo1 ≤ hi1) (hhi : hi1 ≤ objs.length) (hb : base ≤ lo1)
    (j1 : Step (fun _ => False) g.wmin (maskM vis lo1 μ) w μ' w') (j2 : Rel E μ' g w') (hg : g.size = hi1) (hgb : g.base = base)
    (hhid : ∀ i, i < lo1 → ¬ vis i → base ≤ i) (hμ0 : μ0.length ≤ lo1 ∧ ∀ i, i < μ0.length → vis i) (hw : wF ≤ g.wmin ∨ lo1 ≤ g.wmin)
    (hdead : ∀ i, lo1 ≤ i → i < hi1 → objs[i]? = some .dead) (hlen : objs'.length = objs.length)
    (hnow : ∀ i, Now vis lo1 hi1 i → objs'[i]? = g.objs[i]?) (hels : ∀ i, i < objs.length → ¬ Now vis lo1 hi1 i → objs'[i]? = objs[i]?)
    (hidg : ∀ i o, Now vis lo1 hi1 i → g.objs[i]? = some o → ∀ j ∈ o.ids, Now vis lo1 hi1 j) (hido : ∀ (i : Nat) o, objs[i]? = some o → ∀ j ∈ o.ids, ¬ (lo1 ≤ j ∧ j < hi1))
    (hids : ∀ t y, sget s t = some y → ∀ j ∈ y.ids, ¬ (lo1 ≤ j ∧ j < hi1)) (hx : SlotIs E μ' x v) (hxid : ∀ j ∈ x.ids, Now vis lo1 hi1 j) (hd : ∀ t, d = some t → t < nt) :
    At E lo nt μ0 w0 ds (setSlot d x s) ⟨objs', base, wF⟩ (a.put d v) w' := by
  have hml : μ.length = objs.length := k2.len
  have hkl : lo1 ≤ μ.length := by omega
  have hl' : μ'.length = hi1 := by rw [j2.len]; exact hg
  have now_lt : ∀ i, Now vis lo1 hi1 i → i < hi1 := fun i h => by rcases h with h | h <;> omega
  -- through the call
  have hstep : ∀ i, i < lo1 → vis i → μ'[i]? = μ[i]? ∨ (g.wmin ≤ i ∧ μ'[i]? = some none) := fun i hi hv => by
    rcases j1.old i (by rw [maskM_length]; exact hi) with h | h
    · exact .inl (h.trans ((maskM_get hi hkl).1 hv))
    · exact .inr h
  have hnew : ∀ i m, lo1 ≤ i → μ'[i]? = some (some m) → w.heap.size ≤ m.blk ∨ ∃ r m0, g.wmin ≤ r ∧ r < lo1 ∧ vis r ∧ μ[r]? = some (some m0) ∧ m0.blk = m.blk := fun i m hi hm => by
    rcases j1.new i m (by rw [maskM_length]; exact hi) hm with h | ⟨r, m0, h1, h2, h3⟩
    · exact .inl h
    · obtain ⟨q1, q2, q3⟩ := maskM_some hkl h2
      exact .inr ⟨r, m0, h1, q2, q1, q3, h3⟩
  have hblk : ∀ b, b < w.heap.size → (∀ i m, g.wmin ≤ i → i < lo1 → vis i → μ[i]? = some (some m) → m.blk ≠ b) → w'.heap[b]? = w.heap[b]? := fun b hb hn =>
    j1.block b hb (fun h => h) fun i m hi hm => by
      obtain ⟨q1, q2, q3⟩ := maskM_some hkl hm
      exact hn i m hi q2 q1 q3
  -- the rest, before the new ones
  let μ1 : MM := joinM vis lo1 lo1 μ μ'
  have hμ1l : μ1.length = μ.length := joinM_length ..
  have hμ1 : ∀ i, i < μ.length → (i < lo1 ∧ vis i → μ1[i]? = μ'[i]?) ∧ (¬ (i < lo1 ∧ vis i) → μ1[i]? = μ[i]?) := fun i hi => by
    show _ ∧ _
    unfold μ1 joinM
    rw [List.getElem?_map, List.getElem?_range hi]
    simp only [Option.map_some]
    constructor
    · intro h
      rw [if_pos (.inl h), List.getElem?_eq_getElem (show i < μ'.length by omega)]; rfl
    · intro h
      rw [if_neg (by rintro (h2 | h2); exact h h2; omega), List.getElem?_eq_getElem hi]; rfl
  have hlater : Later μ μ1 := ⟨by rw [hμ1l]; exact Nat.le_refl _, fun i hi => by
    by_cases h : i < lo1 ∧ vis i
    · rcases hstep i h.1 h.2 with h1 | ⟨_, h1⟩
      · exact .inl (((hμ1 i hi).1 h).trans h1)
      · exact .inr (((hμ1 i hi).1 h).trans h1)
    · exact .inl ((hμ1 i hi).2 h)⟩
  let μ2 : MM := joinM vis lo1 hi1 μ μ'
  have hμ2l : μ2.length = μ.length := joinM_length ..
  have hnow2 : ∀ i, Now vis lo1 hi1 i → μ2[i]? = μ'[i]? := fun i h => (joinM_get (by have := now_lt i h; omega) hl').1 h (now_lt i h)
  have hels2 : ∀ i, i < μ.length → ¬ Now vis lo1 hi1 i → μ2[i]? = μ[i]? := fun i hi h => (joinM_get hi hl').2 h
  have h12 : ∀ i, i < μ.length → ¬ (lo1 ≤ i ∧ i < hi1) → μ2[i]? = μ1[i]? := fun i hi h => by
    by_cases h1 : i < lo1 ∧ vis i
    · rw [hnow2 i (.inl h1), (hμ1 i hi).1 h1]
    · rw [hels2 i hi (by rintro (h2 | h2); exact h1 h2; exact h h2), (hμ1 i hi).2 h1]
  -- where each comes from
  have hfrom : ∀ i m, μ2[i]? = some (some m) → (Now vis lo1 hi1 i ∧ μ'[i]? = some (some m)) ∨ (¬ Now vis lo1 hi1 i ∧ μ[i]? = some (some m)) := fun i m hm => by
    have hi : i < μ.length := by rw [← hμ2l]; exact lt_of_get hm
    by_cases h : Now vis lo1 hi1 i
    · exact .inl ⟨h, (hnow2 i h).symm.trans hm⟩
    · exact .inr ⟨h, (hels2 i hi h).symm.trans hm⟩
  have hoth : ∀ i m, ¬ Now vis lo1 hi1 i → μ[i]? = some (some m) → base ≤ i := fun i m h hm => by
    rcases Nat.lt_or_ge i lo1 with h1 | h1
    · exact hhid i h1 fun hv => h (.inl ⟨h1, hv⟩)
    · omega
  have hothblk : ∀ i m, ¬ Now vis lo1 hi1 i → μ[i]? = some (some m) → w'.heap[m.blk]? = w.heap[m.blk]? := fun i m h hm =>
    hblk m.blk (k2.lt i m hm) fun j m' _ hj hv hm' => (k2.sep i j m m' (fun e => h (.inl ⟨by omega, by rw [e]; exact hv⟩)) (hoth i m h hm) hm hm').symm
  have hsz := j1.size
  refine ⟨μ2, ν, ?_, ?_, ?_, by rw [put_size]; exact k4, by rw [put_defers]; exact k5, Nat.le_trans k6 hsz⟩
  · -- since the frame began
    refine ⟨j1.os.trans k1.os, j1.tape.trans k1.tape, j1.output.trans k1.output, Nat.le_trans k1.size hsz, ?_, ?_, ?_, ?_⟩
    · intro b hb hx hn
      rw [← k1.block b hb hx hn]
      refine hblk b (Nat.lt_of_lt_of_le hb k1.size) fun i m hi hil hv hm => ?_
      rcases Nat.lt_or_ge i μ0.length with h1 | h1
      · rcases k1.old i h1 with h2 | ⟨_, h2⟩
        · exact hn i m (show wF ≤ _ by rcases hw with hw | hw <;> omega) (h2.symm.trans hm)
        · rw [h2] at hm; cases hm
      · rcases k1.new i m h1 hm with h2 | ⟨r, m0, h2, h3, h4⟩
        · omega
        · rw [← h4]; exact hn r m0 h2 h3
    · rw [hμ2l]; exact k1.len
    · intro i hi
      have hv := hμ0.2 i hi
      have hil : i < lo1 := by omega
      rw [hnow2 i (.inl ⟨hil, hv⟩)]
      rcases hstep i hil hv with h1 | ⟨h1, h2⟩
      · rw [h1]; exact k1.old i hi
      · exact .inr ⟨show wF ≤ _ by rcases hw with hw | hw <;> omega, h2⟩
    · intro i m hi hm
      rcases hfrom i m hm with ⟨h1, h2⟩ | ⟨h1, h2⟩
      · rcases Nat.lt_or_ge i lo1 with h3 | h3
        · have hv : vis i := by rcases h1 with h1 | h1; exact h1.2; omega
          rcases hstep i h3 hv with h4 | ⟨_, h4⟩
          · exact k1.new i m hi (h4.symm.trans h2)
          · rw [h2] at h4; cases h4
        · rcases hnew i m h3 h2 with h4 | ⟨r, m0, h4, h5, h6, h7, h8⟩
          · exact .inl (Nat.le_trans k1.size h4)
          · rcases Nat.lt_or_ge r μ0.length with h9 | h9
            · rcases k1.old r h9 with q | ⟨_, q⟩
              · exact .inr ⟨r, m0, show wF ≤ _ by rcases hw with hw | hw <;> omega, q.symm.trans h7, h8⟩
              · rw [q] at h7; cases h7
            · rcases k1.new r m0 h9 h7 with q | ⟨r', m1, q1, q2, q3⟩
              · exact .inl (by rw [← h8]; exact q)
              · exact .inr ⟨r', m1, q1, q2, q3.trans h8⟩
      · exact k1.new i m hi h2
  · -- memory
    constructor
    · rw [hμ2l, hml]; exact hlen.symm
    · simp only [hlen]; have := k2.bs; exact this
    · intro i o ho
      simp only at ho ⊢
      have hi : i < objs.length := by rw [← hlen]; exact lt_of_get ho
      by_cases h : Now vis lo1 hi1 i
      · rw [hnow i h] at ho
        have := j2.obj i o ho
        rw [hgb] at this
        exact this.same (hnow2 i h) fun j hj _ => hnow2 j (hidg i o h ho j hj)
      · rw [hels i hi h] at ho
        have h1 : ORel E μ1 base i w' o := (k2.obj i o ho).keep hlater fun m hm => by
          have hi' : i < μ.length := lt_of_get hm
          exact ⟨((hμ1 i hi').2 fun h2 => h (.inl h2)).trans hm, hothblk i m h hm⟩
        exact h1.same (h12 i (by omega) fun h2 => h (.inr h2)) fun j hj hl => h12 j (by rw [hμ1l] at hl; exact hl) (hido i o ho j hj)
    · intro i j mi mj hij hi hmi hmj
      simp only at hi
      have both : ∀ p q mp mq, p ≠ q → Now vis lo1 hi1 p → μ'[p]? = some (some mp) → ¬ Now vis lo1 hi1 q → μ[q]? = some (some mq) → mp.blk ≠ mq.blk := by
        intro p q mp mq hpq hp hmp hq hmq
        have hqb := hoth q mq hq hmq
        rcases Nat.lt_or_ge p lo1 with h3 | h3
        · have hv : vis p := by rcases hp with h1 | h1; exact h1.2; omega
          rcases hstep p h3 hv with h4 | ⟨_, h4⟩
          · exact (k2.sep q p mq mp (fun e => hpq e.symm) hqb hmq (h4.symm.trans hmp)).symm
          · rw [hmp] at h4; cases h4
        · rcases hnew p mp h3 hmp with h4 | ⟨r, m0, h4, h5, h6, h7, h8⟩
          · have := k2.lt q mq hmq; omega
          · rw [← h8]
            exact (k2.sep q r mq m0 (fun e => hq (.inl ⟨by omega, by rw [e]; exact h6⟩)) hqb hmq h7).symm
      rcases hfrom i mi hmi with ⟨h1, h2⟩ | ⟨h1, h2⟩ <;> rcases hfrom j mj hmj with ⟨h3, h4⟩ | ⟨h3, h4⟩
      · exact j2.sep i j mi mj hij (by rw [hgb]; exact hi) h2 h4
      · exact both i j mi mj hij h1 h2 h3 h4
      · exact (both j i mj mi (fun e => hij e.symm) h3 h4 h1 h2).symm
      · exact k2.sep i j mi mj hij hi h2 h4
    · intro i m hm
      rcases hfrom i m hm with ⟨_, h2⟩ | ⟨_, h2⟩
      · exact j2.lt i m h2
      · have := k2.lt i m h2; omega
  · -- slots
    have hvar : ∀ t cs, sget s t = some (.var cs) → w'.heap[ν t]? = w.heap[ν t]? := fun t cs hv => hblk (ν t) (k3.lt hv) fun i m _ _ _ hm => k3.sepm t cs i m hv hm
    have hblk2 : ∀ (i : Nat) (m : M), μ2[i]? = some (some m) → (∃ (r : Nat) (m0 : M), μ[r]? = some (some m0) ∧ m0.blk = m.blk) ∨ w.heap.size ≤ m.blk := fun i m hm => by
      rcases hfrom i m hm with ⟨h1, h2⟩ | ⟨h1, h2⟩
      · rcases Nat.lt_or_ge i lo1 with h3 | h3
        · have hv : vis i := by rcases h1 with h1 | h1; exact h1.2; omega
          rcases hstep i h3 hv with h4 | ⟨_, h4⟩
          · exact .inl ⟨i, m, h4.symm.trans h2, rfl⟩
          · rw [h2] at h4; cases h4
        · rcases hnew i m h3 h2 with h4 | ⟨r, m0, _, _, _, h7, h8⟩
          · exact .inr h4
          · exact .inl ⟨r, m0, h7, h8⟩
      · exact .inl ⟨i, m, h2, rfl⟩
    have hf2 : FRel E lo ν μ2 (sget s) a.tmps w' := by
      have same2 : ∀ {cs : AVal} {v : Value}, (∀ j ∈ cs.ids, ¬ (lo1 ≤ j ∧ j < hi1)) → VRel E μ cs v → VRel E μ2 cs v := fun h1 h2 => same_rel (fun j hj hl => h12 j (by rw [hμ1l] at hl; exact hl) (h1 j hj)) (h2.later hlater)
      refine ⟨fun t u hu => ?_, k3.undef, fun t cs hu => ?_, k3.loc, k3.sepv, fun t cs i m hu hm => ?_, fun q hq => ?_, fun q hq => ⟨fun i m hm => ?_, (k3.sepd q hq).2⟩, k3.nodup⟩
      · obtain ⟨v', h1, h2⟩ := k3.val t u hu
        exact ⟨v', h1, same2 (hids t _ hu) h2⟩
      · obtain ⟨h1, h2, c, e, fr, h3, h4, h5, h6⟩ := k3.var t cs hu
        refine ⟨h1, h2, c, e, fr, (hvar t cs hu).trans h3, h4, fun q v hq => ?_, h6⟩
        obtain ⟨z1, v', z2, z3⟩ := h5 q v hq
        exact ⟨z1, v', z2, same2 (fun j hj => hids t _ hu j (idsL_mem hq hj)) z3⟩
      · rcases hblk2 i m hm with ⟨r, m0, h1, h2⟩ | h1
        · rw [← h2]; exact k3.sepm t cs r m0 hu h1
        · have := k3.lt hu; omega
      · obtain ⟨h1, h2⟩ := k3.ds q hq
        refine ⟨h1, ?_⟩
        rw [hblk q (k3.lt_ds hq) fun i m _ _ _ hm => (k3.sepd q hq).1 i m hm]; exact h2
      · rcases hblk2 i m hm with ⟨r, m0, h1, h2⟩ | h1
        · rw [← h2]; exact (k3.sepd q hq).1 r m0 h1
        · have := k3.lt_ds hq; omega
    rw [put_tmps]
    have hd' : ∀ t, d = some t → t < a.tmps.size := fun t ht => by rw [k4]; exact hd t ht
    rcases hx with ⟨rfl, rfl⟩ | ⟨u, rfl, hu⟩
    · exact (hf2.setUndef hd').congr fun t => sget_setSlot _ _ _ _
    · exact (hf2.setVal hd' (same_rel (fun j hj _ => hnow2 j (hxid j hj)) hu)).congr fun t => sget_setSlot _ _ _ _

end
end Go.Abs
