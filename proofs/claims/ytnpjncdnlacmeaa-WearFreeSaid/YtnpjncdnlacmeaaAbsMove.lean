/-
  An object at the memory's end takes a number that was kept for it.
-/
import Derived.Test.YtnpjncdnlacmeaaAbsSoft
import Derived.Test.YtnpjncdnlacmeaaAbsDraw
namespace Go.Abs

section
variable {E : Env}

theorem LoopRel.same {μ μ' : MM} {g : Nat} {st : LoopSt} {p : Option AExit} {sl : List (Nat × AVal)} {r : Loop} (h : LoopRel E μ g st p sl r) (hm : ∀ j ∈ AObj.ids (.loop g st p sl), j < μ.length → μ'[j]? = μ[j]?) : LoopRel E μ' g st p sl r :=
  ⟨h.code, h.st, h.pend, fun k x hk => by
    obtain ⟨v', h1, h2⟩ := h.slots k x hk
    refine ⟨v', h1, same_rel (fun j hj => hm j ?_) h2⟩
    simp only [AObj.ids]
    exact idsL_mem (k := k) (a := x.2) (by rw [List.getElem?_map, hk]; rfl) hj⟩

theorem ORel.same {μ μ' : MM} {b i : Nat} {w : World} {o : AObj} (h : ORel E μ b i w o) (hi : μ'[i]? = μ[i]?) (hm : ∀ j ∈ o.ids, j < μ.length → μ'[j]? = μ[j]?) : ORel E μ' b i w o := by
  cases o with
  | dead => exact hi.trans h
  | cells esz cs =>
    obtain ⟨m, c, e, fr, h1, h2, h3, h4, h5, h6, h7⟩ := h
    refine ⟨m, c, e, fr, hi.trans h1, h2, h3, h4, h5, fun k v hk => ?_, h7⟩
    obtain ⟨k1, v', k2, k3⟩ := h6 k v hk
    exact ⟨k1, v', k2, same_rel (fun j hj => hm j (idsL_mem hk hj)) k3⟩
  | map es clock =>
    obtain ⟨m, es', h1, h2, h3, h4⟩ := h
    refine ⟨m, es', hi.trans h1, h2, h3, fun k x hk => ?_⟩
    obtain ⟨y, y1, y2, y3, y4⟩ := h4 k x hk
    have hin : ∀ j, j ∈ x.1.ids ∨ j ∈ x.2.1.ids → j ∈ AObj.ids (.map es clock) := fun j hj => by
      simp only [AObj.ids, List.mem_flatMap, List.mem_append]
      exact ⟨x, List.mem_of_getElem? hk, hj⟩
    exact ⟨y, y1, same_rel (fun j hj => hm j (hin j (.inl hj))) y2, same_rel (fun j hj => hm j (hin j (.inr hj))) y3, y4⟩
  | iter s pos =>
    obtain ⟨m, h1, h2⟩ := h
    exact ⟨m, hi.trans h1, h2⟩
  | loop g st p sl =>
    obtain ⟨m, r, h1, h2, h3⟩ := h
    exact ⟨m, r, hi.trans h1, h2, h3.same hm⟩

/-- An object under another number. -/
theorem ORel.moved {μ μ' : MM} {b i i' : Nat} {w : World} {o : AObj} (h : ORel E μ b i w o) (hi : μ'[i']? = μ[i]?) (hm : ∀ j ∈ o.ids, j < μ.length → μ'[j]? = μ[j]?) (hb : b ≤ i) : ORel E μ' b i' w o := by
  cases o with
  | dead => exact hi.trans h
  | cells esz cs =>
    obtain ⟨m, c, e, fr, h1, h2, h3, h4, h5, h6, h7⟩ := h
    refine ⟨m, c, e, fr, hi.trans h1, h2, h3, h4, h5, fun k v hk => ?_, fun _ => h7 hb⟩
    obtain ⟨k1, v', k2, k3⟩ := h6 k v hk
    exact ⟨k1, v', k2, same_rel (fun j hj => hm j (idsL_mem hk hj)) k3⟩
  | map es clock =>
    obtain ⟨m, es', h1, h2, h3, h4⟩ := h
    refine ⟨m, es', hi.trans h1, h2, h3, fun k x hk => ?_⟩
    obtain ⟨y, y1, y2, y3, y4⟩ := h4 k x hk
    have hin : ∀ j, j ∈ x.1.ids ∨ j ∈ x.2.1.ids → j ∈ AObj.ids (.map es clock) := fun j hj => by
      simp only [AObj.ids, List.mem_flatMap, List.mem_append]
      exact ⟨x, List.mem_of_getElem? hk, hj⟩
    exact ⟨y, y1, same_rel (fun j hj => hm j (hin j (.inl hj))) y2, same_rel (fun j hj => hm j (hin j (.inr hj))) y3, y4⟩
  | iter s pos =>
    obtain ⟨m, h1, h2⟩ := h
    exact ⟨m, hi.trans h1, h2⟩
  | loop g st p sl =>
    obtain ⟨m, r, h1, h2, h3⟩ := h
    exact ⟨m, r, hi.trans h1, h2, h3.same hm⟩

variable {lo nt : Nat} {μ0 : MM} {w0 : World} {ds : List Deferred} {s : Slots} {h : Heap} {a : Act} {w : World}

/-- The object at the end moves to r. -/
theorem At.move {N r wm : Nat} {d : Option Nat} {x : Slot} {ob : AObj} (hat : At E lo nt μ0 w0 ds (setSlot d x s) ⟨h.objs ++ [ob], h.base, wm⟩ a w) (hN : h.objs.length = N) (hr : h.objs[r]? = some .dead) (hbr : h.base ≤ r) (h0 : μ0.length ≤ r)
    (hs : ∀ t y, sget s t = some y → ∀ i ∈ y.ids, i < N ∧ i ≠ r) (hx : ∀ v, x = .val v → ∀ i ∈ v.ids, i ≠ r) (hxv : ∀ cs, x ≠ .var cs) (hob : ∀ i ∈ ob.ids, i < N ∧ i ≠ r)
    (ho : ∀ (k : Nat) (o : AObj), h.objs[k]? = some o → ∀ i ∈ o.ids, i < N ∧ i ≠ r) :
    At E lo nt μ0 w0 ds (setSlot d (x.ren (mv N r)) s) ⟨h.objs.set r ob, h.base, wm⟩ a w := by
  obtain ⟨μ, ν, k1, k2, k3, k4, k5, k6⟩ := hat
  have hrN : r < N := by rw [← hN]; exact lt_of_get hr
  have hlen : μ.length = N + 1 := by have := k2.len; simpa [hN] using this
  let μ' : MM := (μ.take N).set r ((μ[N]?).getD none)
  have hl' : μ'.length = N := by simp [μ', hlen]
  have hat : ∀ i, i < N → i ≠ r → μ'[i]? = μ[i]? := fun i hi hne => by
    simp only [μ']
    rw [List.getElem?_set_ne (Ne.symm hne), List.getElem?_take, if_pos hi]
  have hatr : μ'[r]? = μ[N]? := by
    simp only [μ']
    rw [List.getElem?_set, if_pos rfl, if_pos (by simp [hlen]; omega), List.getElem?_eq_getElem (by omega)]
    rfl
  have hsame : ∀ i, i < N ∧ i ≠ r → i < μ.length → μ'[i]? = μ[i]? := fun i hi _ => hat i hi.1 hi.2
  -- where each comes from
  have hfrom : ∀ i m, μ'[i]? = some (some m) → ∃ p, μ[p]? = some (some m) ∧ ((i = r ∧ p = N) ∨ (i ≠ r ∧ p = i ∧ i < N)) := fun i m hm => by
    by_cases e : i = r
    · subst e
      exact ⟨N, hatr.symm.trans hm, .inl ⟨rfl, rfl⟩⟩
    · have hi : i < N := by rw [← hl']; exact lt_of_get hm
      exact ⟨i, (hat i hi e).symm.trans hm, .inr ⟨e, rfl, hi⟩⟩
  refine ⟨μ', ν, ?_, ?_, ?_, k4, k5, k6⟩
  · refine ⟨k1.os, k1.tape, k1.output, k1.size, k1.block, by rw [hl']; omega, fun i hi => ?_, fun i m hi hm => ?_⟩
    · rw [hat i (by omega) (by omega)]; exact k1.old i hi
    · obtain ⟨p, hp, h1 | h1⟩ := hfrom i m hm
      · exact k1.new p m (by omega) hp
      · exact k1.new p m (by omega) hp
  · have hbs := k2.bs
    constructor
    · rw [hl']; simp [hN]
    · simp only [List.length_set]; simp at hbs; omega
    · intro i o hi
      simp only at hi ⊢
      rw [List.getElem?_set] at hi
      split at hi
      · rename_i e
        subst e
        split at hi
        · cases hi
          have hb : h.base ≤ N := by omega
          exact (k2.obj N ob (by simp [← hN])).moved hatr (fun j hj => hsame j (hob j hj)) hb
        · cases hi
      · rename_i e
        have hiN : i < N := by rw [← hN]; exact lt_of_get hi
        exact (k2.obj i o (by rw [List.getElem?_append_left (by omega)]; exact hi)).same (hat i hiN (Ne.symm e)) fun j hj => hsame j (ho i o hi j hj)
    · intro i j mi mj hij hi hmi hmj
      obtain ⟨p, hp, hp'⟩ := hfrom i mi hmi
      obtain ⟨q, hq, hq'⟩ := hfrom j mj hmj
      refine k2.sep p q mi mj ?_ ?_ hp hq
      · rcases hp' with ⟨a1, a2⟩ | ⟨a1, a2, a3⟩ <;> rcases hq' with ⟨b1, b2⟩ | ⟨b1, b2, b3⟩ <;> omega
      · simp only at hi ⊢
        rcases hp' with ⟨a1, a2⟩ | ⟨a1, a2, a3⟩ <;> omega
    · intro i m hm
      obtain ⟨p, hp, _⟩ := hfrom i m hm
      exact k2.lt p m hp
  · have hget : ∀ t y, sget (setSlot d (x.ren (mv N r)) s) t = some y → (d = some t ∧ y = x.ren (mv N r)) ∨ (d ≠ some t ∧ sget s t = some y) := fun t y hy => by
      rw [setSlot_get] at hy
      split at hy
      · rename_i e; cases hy; exact .inl ⟨e, rfl⟩
      · rename_i e; exact .inr ⟨e, hy⟩
    have hvar : ∀ t cs, sget (setSlot d (x.ren (mv N r)) s) t = some (.var cs) → sget (setSlot d x s) t = some (.var cs) ∧ ∀ i ∈ AVal.idsL cs, i < N ∧ i ≠ r := fun t cs hy => by
      rcases hget t _ hy with ⟨e, h1⟩ | ⟨e, h1⟩
      · exfalso
        cases x <;> simp [Slot.ren] at h1
        exact hxv _ rfl
      · exact ⟨by rw [setSlot_get, if_neg e]; exact h1, hs t _ h1⟩
    constructor
    · intro t v hv
      rcases hget t _ hv with ⟨e, h1⟩ | ⟨e, h1⟩
      · cases x with
        | val u =>
          simp only [Slot.ren] at h1
          cases h1
          obtain ⟨v', j1, j2⟩ := k3.val t u (by rw [setSlot_get, if_pos e])
          refine ⟨v', j1, ren_rel (mv N r) (fun i hi hl => ?_) j2⟩
          unfold mv
          split
          · rename_i e2; subst e2; exact hatr
          · rename_i e2
            exact hat i (by omega) (hx u rfl i hi)
        | _ => simp [Slot.ren] at h1
      · obtain ⟨v', j1, j2⟩ := k3.val t v (by rw [setSlot_get, if_neg e]; exact h1)
        exact ⟨v', j1, same_rel (fun i hi => hsame i (hs t _ h1 i hi)) j2⟩
    · intro t hv
      rcases hget t _ hv with ⟨e, h1⟩ | ⟨e, h1⟩
      · cases x <;> simp [Slot.ren] at h1
        exact k3.undef t (by rw [setSlot_get, if_pos e])
      · exact k3.undef t (by rw [setSlot_get, if_neg e]; exact h1)
    · intro t cs hv
      obtain ⟨j1, j2⟩ := hvar t cs hv
      obtain ⟨q1, q2, c, e, fr, q3, q4, q5, q6⟩ := k3.var t cs j1
      refine ⟨q1, q2, c, e, fr, q3, q4, fun k v hk => ?_, q6⟩
      obtain ⟨z1, v', z2, z3⟩ := q5 k v hk
      exact ⟨z1, v', z2, same_rel (fun i hi => hsame i (j2 i (idsL_mem hk hi))) z3⟩
    · intro t t' o cs hv hv'
      obtain ⟨j1, _⟩ := hvar t' cs hv'
      rcases hget t _ hv with ⟨e, h1⟩ | ⟨e, h1⟩
      · cases x <;> simp [Slot.ren] at h1
        obtain ⟨rfl, rfl⟩ := h1
        exact k3.loc t _ _ cs (by rw [setSlot_get, if_pos e]) j1
      · exact k3.loc t t' o cs (by rw [setSlot_get, if_neg e]; exact h1) j1
    · intro t t' cs cs' hne hv hv'
      exact k3.sepv t t' cs cs' hne (hvar t cs hv).1 (hvar t' cs' hv').1
    · intro t cs i m hv hm
      obtain ⟨p, hp, _⟩ := hfrom i m hm
      exact k3.sepm t cs p m (hvar t cs hv).1 hp
    · exact k3.ds
    · refine fun q hq => ⟨fun i m hm => ?_, fun t cs hv => (k3.sepd q hq).2 t cs (hvar t cs hv).1⟩
      obtain ⟨p, hp, _⟩ := hfrom i m hm
      exact (k3.sepd q hq).1 p m hp
    · exact k3.nodup

end
end Go.Abs
