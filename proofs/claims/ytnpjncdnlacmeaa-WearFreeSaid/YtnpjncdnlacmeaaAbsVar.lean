/-
  Slots: operands and addresses; a new variable of the frame; a store into one.
-/
import Derived.Test.YtnpjncdnlacmeaaAbsMem
namespace Go.Abs

section
variable {E : Env} {lo : Nat} {ν : Fr} {μ : MM} {s : Slots} {a : Act} {w : World}

theorem sget_unloc (d : Nat) : ∀ (s : Slots) (t : Nat), sget (unloc d s) t = match sget s t with
    | some (.loc t' o) => if t' = d then some .gone else some (.loc t' o)
    | x => x
  | [], t => rfl
  | (u, x) :: r, t => by
    have ih := sget_unloc d r t
    cases x with
    | loc t' o =>
      simp only [unloc, sget]
      by_cases e : u = t
      · simp [e]; split <;> rfl
      · simp [e, ih]
    | _ =>
      simp only [unloc, sget]
      by_cases e : u = t
      · simp [e]
      · simp [e, ih]

theorem sget_keep (l : List Nat) (s : Slots) (t : Nat) (x : Slot) (h : sget (keep l s) t = some x) : sget s t = some x := by
  unfold keep at h
  induction l with
  | nil => simp [sget] at h
  | cons u r ih =>
    simp only [List.filterMap_cons] at h
    split at h
    · exact ih h
    · rename_i y hy
      have : y.1 = u ∧ sget s u = some y.2 := by
        cases hs : sget s u with
        | none => rw [hs] at hy; simp at hy
        | some z => rw [hs] at hy; cases z <;> simp at hy <;> subst hy <;> simp
      obtain ⟨e1, e2⟩ := this
      obtain ⟨y1, y2⟩ := y
      simp only at e1 e2
      subst e1
      simp only [sget] at h
      split at h
      · rename_i e; subst e; cases h; exact e2
      · exact ih h

theorem eval_tmp {t : Nat} {v : Value} (h : a.tmps[t]? = some v) : a.eval (.tmp t) = v := by
  simp [Act.eval, h]

theorem opd_rel (hf : FRel E lo ν μ (sget s) a.tmps w) {x : Operand} {y : Opd} {v : AVal} (hc : cOpd E x = some y) (he : y.ev s = some v) : VRel E μ v (a.eval x) := by
  cases x with
  | tmp t =>
    simp only [cOpd] at hc; cases hc
    simp only [Opd.ev] at he
    split at he
    · rename_i v' hs
      cases he
      obtain ⟨u, hu, hr⟩ := hf.val t _ hs
      rw [eval_tmp hu]; exact hr
    · simp at he
  | const c =>
    simp only [cOpd] at hc
    rw [Option.map_eq_some_iff] at hc
    obtain ⟨b, hb, rfl⟩ := hc
    simp only [Opd.ev] at he; cases he
    exact toA_rel hb μ
  | func f =>
    simp only [cOpd] at hc
    rw [Option.map_eq_some_iff] at hc
    obtain ⟨g, hg, rfl⟩ := hc
    simp only [Opd.ev] at he; cases he
    simp only [VRel, Act.eval]
    exact ⟨f, #[], #[], rfl, hg, by simp [VRels], by simp [VRels]⟩
  | global g => simp [cOpd] at hc

theorem opds_rel (hf : FRel E lo ν μ (sget s) a.tmps w) : ∀ {xs : List Operand} {ys : List Opd} {vs : List AVal}, cOpds E xs = some ys → evs s ys = some vs → VRels E μ vs (xs.map a.eval)
  | [], ys, vs, hc, he => by
    simp only [cOpds] at hc; cases hc
    simp only [evs] at he; cases he
    simp [VRels]
  | x :: xs, ys, vs, hc, he => by
    simp only [cOpds] at hc
    split at hc
    · rename_i y ys' h1 h2
      cases hc
      simp only [evs] at he
      split at he
      · rename_i v vs' h3 h4
        cases he
        simp only [VRels, List.map_cons]
        exact ⟨_, _, rfl, opd_rel hf h1 h3, opds_rel hf h2 h4⟩
      · simp at he
    · simp at hc

theorem adr_glob (hf : FRel E lo ν μ (sget s) a.tmps w) {x : Operand} {y : Opd} {i o : Nat} (hc : cOpd E x = some y) (he : y.adr s = some (.glob i o)) :
    ∃ ad, a.eval x = .pointer (some ad) ∧ ARel μ i o ad := by
  cases x with
  | tmp t =>
    simp only [cOpd] at hc; cases hc
    simp only [Opd.adr] at he
    split at he
    · rename_i i' o' hs
      cases he
      obtain ⟨u, hu, hr⟩ := hf.val t _ hs
      simp only [VRel] at hr
      obtain ⟨ad, rfl, hr⟩ := hr
      exact ⟨ad, eval_tmp hu, hr⟩
    · cases he
    · cases he
    · simp at he
  | const c => simp only [cOpd] at hc; rw [Option.map_eq_some_iff] at hc; obtain ⟨b, _, rfl⟩ := hc; simp [Opd.adr] at he
  | func f => simp only [cOpd] at hc; rw [Option.map_eq_some_iff] at hc; obtain ⟨b, _, rfl⟩ := hc; simp [Opd.adr] at he
  | global g => simp [cOpd] at hc

theorem adr_loc (hf : FRel E lo ν μ (sget s) a.tmps w) {x : Operand} {y : Opd} {t o : Nat} {cs : List AVal} (hc : cOpd E x = some y) (he : y.adr s = some (.loc t o)) (hv : sget s t = some (.var cs)) :
    a.eval x = .pointer (some ⟨ν t, o, none⟩) := by
  cases x with
  | tmp u =>
    simp only [cOpd] at hc; cases hc
    simp only [Opd.adr] at he
    split at he
    · cases he
    · rename_i cs' hs
      cases he
      exact eval_tmp (hf.var _ _ hs).1
    · rename_i t' o' hs
      cases he
      exact eval_tmp (hf.loc _ _ _ _ hs hv)
    · simp at he
  | const c => simp only [cOpd] at hc; rw [Option.map_eq_some_iff] at hc; obtain ⟨b, _, rfl⟩ := hc; simp [Opd.adr] at he
  | func f => simp only [cOpd] at hc; rw [Option.map_eq_some_iff] at hc; obtain ⟨b, _, rfl⟩ := hc; simp [Opd.adr] at he
  | global g => simp [cOpd] at hc

/-- A new variable of the frame's own, in a new block. -/
theorem FRel.setVar {d : Nat} {tmps : Array Value} (hf : FRel E lo ν μ (sget s) tmps w) (hm : ∀ (i : Nat) (m : M), μ[i]? = some (some m) → m.blk < w.heap.size) (hlo : lo ≤ w.heap.size) (hd : d < tmps.size)
    {cs : List AVal} {c : Array Value} (e : TypeId) (hc : VRels E μ cs c.toList) (h1 : ∀ x ∈ cs, x.isOne = true) :
    FRel E lo ⟨fun t => if t = d then w.heap.size else ν t, ν.ds⟩ μ (put1 (sget (unloc d s)) (some d) (.var cs)) (tmps.setIfInBounds d (.pointer (some ⟨w.heap.size, 0, none⟩)))
      { w with heap := w.heap.push (.cells c e (0, 0)) } := by
  have key : ∀ t, d ≠ t → (tmps.setIfInBounds d (.pointer (some ⟨w.heap.size, 0, none⟩)))[t]? = tmps[t]? := fun t ht => Array.getElem?_setIfInBounds_ne ht
  have old : ∀ {t : Nat} {x : Slot}, d ≠ t → put1 (sget (unloc d s)) (some d) (.var cs) t = some x → x ≠ .gone → sget s t = some x ∧ ∀ t' o, x = .loc t' o → t' ≠ d := by
    intro t x ht hx hg
    have ht' : ¬ (d = t) := ht
    simp only [put1, Option.some.injEq, ht', if_false] at hx
    rw [sget_unloc] at hx
    split at hx
    · rename_i t' o hs
      split at hx
      · cases hx; exact absurd rfl hg
      · rename_i hne; cases hx; exact ⟨hs, fun t'' o' e => by cases e; exact hne⟩
    · rename_i hne
      exact ⟨hx, fun t' o e => by subst e; exact absurd hx (hne t' o)⟩
  have blk : ∀ k, k < w.heap.size → (w.heap.push (.cells c e (0, 0)))[k]? = w.heap[k]? := fun k hk => by rw [Array.getElem?_push, if_neg (by omega)]
  refine ⟨fun t u hu => ?_, fun t hu => ?_, fun t cs' hu => ?_, fun t t' o cs' hu hu' => ?_, fun t t' cs1 cs2 hn hu hu' => ?_, fun t cs' i m hu him => ?_, fun r hr => ?_, fun r hr => ⟨fun i m him => (hf.sepd r hr).1 i m him, fun t cs' hu => ?_⟩, hf.nodup⟩
  · by_cases ht : d = t
    · subst ht; simp [put1] at hu
    · rw [key t ht]; exact hf.val t u (old ht hu (by simp)).1
  · by_cases ht : d = t
    · subst ht; simp [put1] at hu
    · rw [key t ht]; exact hf.undef t (old ht hu (by simp)).1
  · by_cases ht : d = t
    · subst ht
      simp [put1] at hu; subst hu
      refine ⟨by simp [hd], by simp [hlo], c, e, (0, 0), by simp, by rw [hc.length]; simp, fun k v hk => ?_, fun off _ => by simp⟩
      obtain ⟨v', hv', hr⟩ := hc.get hk
      exact ⟨h1 v (List.mem_of_getElem? hk), v', by simpa using hv', hr⟩
    · obtain ⟨k1, k2, c', e', fr, k3, k4, k5, k6⟩ := hf.var t cs' (old ht hu (by simp)).1
      have ht' : ¬ (t = d) := fun e => ht e.symm
      simp only [ht', if_false]
      exact ⟨by rw [key t ht]; exact k1, k2, c', e', fr, by rw [blk _ (lt_heap k3)]; exact k3, k4, k5, k6⟩
  · by_cases ht : d = t
    · subst ht; simp [put1] at hu
    · obtain ⟨k1, k2⟩ := old ht hu (by simp)
      have ht' : t' ≠ d := k2 t' o rfl
      have ht'' : d ≠ t' := fun e => ht' e.symm
      obtain ⟨k3, _⟩ := old ht'' hu' (by simp)
      rw [key t ht]
      simp only [ht', if_false]
      exact hf.loc t t' o cs' k1 k3
  · by_cases ht : d = t
    · subst ht
      have k2 := (old hn hu' (by simp)).1
      have hn' : ¬ (t' = d) := fun e => hn e.symm
      simp only [if_true, hn', if_false]
      have := hf.lt k2
      omega
    · have k1 := (old ht hu (by simp)).1
      have ht' : ¬ (t = d) := fun e => ht e.symm
      by_cases ht2 : d = t'
      · subst ht2
        simp only [if_true, ht', if_false]
        have := hf.lt k1
        omega
      · have k2 := (old ht2 hu' (by simp)).1
        have ht2' : ¬ (t' = d) := fun e => ht2 e.symm
        simp only [ht', ht2', if_false]
        exact hf.sepv t t' cs1 cs2 hn k1 k2
  · by_cases ht : d = t
    · subst ht
      simp only [if_true]
      have := hm i m him
      omega
    · have k1 := (old ht hu (by simp)).1
      have ht' : ¬ (t = d) := fun e => ht e.symm
      simp only [ht', if_false]
      exact hf.sepm t cs' i m k1 him
  · obtain ⟨k1, k2⟩ := hf.ds r hr
    exact ⟨k1, by rw [blk _ (lt_heap k2)]; exact k2⟩
  · by_cases ht : d = t
    · subst ht
      have := lt_heap (hf.ds r hr).2
      simp only [if_true]
      omega
    · have k1 := (old ht hu (by simp)).1
      have ht' : ¬ (t = d) := fun e => ht e.symm
      simp only [ht', if_false]
      exact (hf.sepd r hr).2 t cs' k1

/-- A store into a variable of the frame's own. -/
theorem FRel.putVar {t : Nat} {tmps : Array Value} (hf : FRel E lo ν μ (sget s) tmps w) {cs cs' : List AVal} {c' : Array Value} {e : TypeId} {fr : Nat × Nat}
    (ht : sget s t = some (.var cs)) (hs : c'.size = cs'.length) (hc : CRel E μ cs' c' 0) (hfr : Free fr c'.size) :
    FRel E lo ν μ (sget ((t, .var cs') :: s)) tmps (withBlock w (ν t) (.cells c' e fr)) := by
  have hlt := hf.lt ht
  have old : ∀ {u : Nat} {x : Slot}, t ≠ u → sget ((t, .var cs') :: s) u = some x → sget s u = some x := by
    intro u x hu hx
    have hu' : ¬ (t = u) := hu
    simpa [sget, hu'] using hx
  have isvar : ∀ {u : Nat} {cs1 : List AVal}, sget ((t, .var cs') :: s) u = some (.var cs1) → ∃ cs2, sget s u = some (.var cs2) := by
    intro u cs1 hu
    by_cases e : t = u
    · subst e; exact ⟨cs, ht⟩
    · exact ⟨cs1, old e hu⟩
  refine ⟨fun u v hu => ?_, fun u hu => ?_, fun u cs1 hu => ?_, fun u u' o cs1 hu hu' => ?_, fun u u' cs1 cs2 hn hu hu' => ?_, fun u cs1 i m hu him => ?_, fun r hr => ?_, fun r hr => ⟨(hf.sepd r hr).1, fun u cs1 hu => ?_⟩, hf.nodup⟩
  · by_cases e : t = u
    · subst e; simp [sget] at hu
    · exact hf.val u v (old e hu)
  · by_cases e : t = u
    · subst e; simp [sget] at hu
    · exact hf.undef u (old e hu)
  · by_cases e' : t = u
    · subst e'
      simp [sget] at hu; subst hu
      obtain ⟨k1, k2, _⟩ := hf.var t cs ht
      exact ⟨k1, k2, c', e, fr, withBlock_same hlt, hs, hc, hfr⟩
    · have ho := old e' hu
      obtain ⟨k1, k2, c1, e1, fr1, k3, k4, k5, k6⟩ := hf.var u cs1 ho
      exact ⟨k1, k2, c1, e1, fr1, by rw [withBlock_other (hf.sepv t u cs cs1 e' ht ho)]; exact k3, k4, k5, k6⟩
  · by_cases e : t = u
    · subst e; simp [sget] at hu
    · obtain ⟨cs2, h2⟩ := isvar hu'
      exact hf.loc u u' o cs2 (old e hu) h2
  · obtain ⟨a1, h1⟩ := isvar hu
    obtain ⟨a2, h2⟩ := isvar hu'
    exact hf.sepv u u' a1 a2 hn h1 h2
  · obtain ⟨a1, h1⟩ := isvar hu
    exact hf.sepm u a1 i m h1 him
  · obtain ⟨k1, k2⟩ := hf.ds r hr
    exact ⟨k1, by rw [withBlock_other ((hf.sepd r hr).2 t cs ht)]; exact k2⟩
  · obtain ⟨a1, h1⟩ := isvar hu
    exact (hf.sepd r hr).2 u a1 h1

end
end Go.Abs
