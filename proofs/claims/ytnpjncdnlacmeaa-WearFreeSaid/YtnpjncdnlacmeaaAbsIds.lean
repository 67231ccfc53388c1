/-
  The numbers of objects that a value names.
-/
import Derived.Test.YtnpjncdnlacmeaaAbsRel
namespace Go.Abs

section
variable {E : Env} {μ μ' : MM}

mutual
theorem VRel.ids_lt : ∀ {a : AVal} {v : Value}, VRel E μ a v → ∀ i ∈ a.ids, i < μ.length
  | .bool _, _, _, i, hi => by simp [AVal.ids] at hi
  | .int _ _, _, _, i, hi => by simp [AVal.ids] at hi
  | .str _, _, _, i, hi => by simp [AVal.ids] at hi
  | .ptr none, _, _, i, hi => by simp [AVal.ids] at hi
  | .ptr (some (j, o)), v, h, i, hi => by
    simp only [AVal.ids, List.mem_singleton] at hi; subst hi
    simp only [VRel] at h
    obtain ⟨_, _, x, hx, _⟩ := h
    exact lt_of_get hx
  | .slice none _ _, _, _, i, hi => by simp [AVal.ids] at hi
  | .slice (some (j, o)) n c, v, h, i, hi => by
    simp only [AVal.ids, List.mem_singleton] at hi; subst hi
    simp only [VRel] at h
    obtain ⟨_, _, _, hl, _⟩ := h
    exact hl
  | .map none, _, _, i, hi => by simp [AVal.ids] at hi
  | .map (some j), v, h, i, hi => by
    simp only [AVal.ids, List.mem_singleton] at hi; subst hi
    simp only [VRel] at h
    obtain ⟨_, x, _, hx, _⟩ := h
    exact lt_of_get hx
  | .yield j, v, h, i, hi => by
    simp only [AVal.ids, List.mem_singleton] at hi; subst hi
    simp only [VRel] at h
    obtain ⟨_, x, _, hx, _⟩ := h
    exact lt_of_get hx
  | .func g f c, v, h, i, hi => by
    simp only [VRel] at h
    obtain ⟨_, f', c', _, _, h1, h2⟩ := h
    simp only [AVal.ids, List.mem_append] at hi
    rcases hi with hi | hi
    · exact VRels.ids_lt h1 i hi
    · exact VRels.ids_lt h2 i hi
  | .nilFunc, _, _, i, hi => by simp [AVal.ids] at hi
  | .iface _ _, _, h, _, _ => by simp only [VRel] at h
  | .nilIface, _, _, i, hi => by simp [AVal.ids] at hi
  | .agg cs, v, h, i, hi => by
    simp only [VRel] at h
    obtain ⟨_, _, h1, _⟩ := h
    exact VRels.ids_lt h1 i (by simpa [AVal.ids] using hi)
  | .tuple vs, v, h, i, hi => by
    simp only [VRel] at h
    obtain ⟨_, _, h1⟩ := h
    exact VRels.ids_lt h1 i (by simpa [AVal.ids] using hi)
theorem VRels.ids_lt : ∀ {as : List AVal} {l : List Value}, VRels E μ as l → ∀ i ∈ AVal.idsL as, i < μ.length
  | [], _, _, i, hi => by simp [AVal.idsL] at hi
  | a :: as, l, h, i, hi => by
    simp only [VRels] at h
    obtain ⟨_, _, _, h1, h2⟩ := h
    simp only [AVal.idsL, List.mem_append] at hi
    rcases hi with hi | hi
    · exact VRel.ids_lt h1 i hi
    · exact VRels.ids_lt h2 i hi
end

mutual
/-- What is known of the objects that a value names is all that counts. -/
theorem same_rel : ∀ {a : AVal} {v : Value}, (∀ i ∈ a.ids, i < μ.length → μ'[i]? = μ[i]?) → VRel E μ a v → VRel E μ' a v
  | .bool _, _, _, h => by simpa only [VRel] using h
  | .int _ _, _, _, h => by simpa only [VRel] using h
  | .str _, _, _, h => by simpa only [VRel] using h
  | .ptr none, _, _, h => by simpa only [VRel] using h
  | .ptr (some (j, o)), v, hi, h => by
    have h3 := hi j (by simp [AVal.ids])
    simp only [VRel, ARel] at h ⊢
    obtain ⟨a, e, x, hx, hm⟩ := h
    exact ⟨a, e, x, (h3 (lt_of_get hx)).trans hx, hm⟩
  | .slice none _ _, _, _, h => by simpa only [VRel] using h
  | .slice (some (j, o)) n c, v, hi, h => by
    have h3 := hi j (by simp [AVal.ids])
    simp only [VRel, ARel] at h ⊢
    obtain ⟨a, cap, e, h1, h2⟩ := h
    have h4 := h3 h1
    rw [h4]
    refine ⟨a, cap, e, ?_, h2⟩
    rw [List.getElem?_eq_getElem h1] at h4
    exact lt_of_get h4
  | .map none, _, _, h => by simpa only [VRel] using h
  | .map (some j), v, hi, h => by
    have h3 := hi j (by simp [AVal.ids])
    simp only [VRel] at h ⊢
    obtain ⟨b, x, e, hx, hm⟩ := h
    exact ⟨b, x, e, (h3 (lt_of_get hx)).trans hx, hm⟩
  | .yield j, v, hi, h => by
    have h3 := hi j (by simp [AVal.ids])
    simp only [VRel] at h ⊢
    obtain ⟨b, x, e, hx, hm⟩ := h
    exact ⟨b, x, e, (h3 (lt_of_get hx)).trans hx, hm⟩
  | .func g f c, v, hi, h => by
    simp only [VRel] at h ⊢
    obtain ⟨fid, f', c', e, hg, h1, h2⟩ := h
    exact ⟨fid, f', c', e, hg, sames_rel (fun i hi' => hi i (by simp [AVal.ids, hi'])) h1, sames_rel (fun i hi' => hi i (by simp [AVal.ids, hi'])) h2⟩
  | .nilFunc, _, _, h => by simpa only [VRel] using h
  | .iface _ _, _, _, h => by simp only [VRel] at h
  | .nilIface, _, _, h => by simpa only [VRel] using h
  | .agg cs, v, hi, h => by
    simp only [VRel] at h ⊢
    obtain ⟨cs', e, h1, h2⟩ := h
    exact ⟨cs', e, sames_rel (fun i hi' => hi i (by simp [AVal.ids, hi'])) h1, h2⟩
  | .tuple vs, v, hi, h => by
    simp only [VRel] at h ⊢
    obtain ⟨cs', e, h1⟩ := h
    exact ⟨cs', e, sames_rel (fun i hi' => hi i (by simp [AVal.ids, hi'])) h1⟩
theorem sames_rel : ∀ {as : List AVal} {l : List Value}, (∀ i ∈ AVal.idsL as, i < μ.length → μ'[i]? = μ[i]?) → VRels E μ as l → VRels E μ' as l
  | [], _, _, h => by simpa only [VRels] using h
  | a :: as, l, hi, h => by
    simp only [VRels] at h ⊢
    obtain ⟨v, r, e, h1, h2⟩ := h
    exact ⟨v, r, e, same_rel (fun i hi' => hi i (by simp [AVal.idsL, hi'])) h1, sames_rel (fun i hi' => hi i (by simp [AVal.idsL, hi'])) h2⟩
end

end
/-! ## What a call leaves behind -/

section
variable {E : Env} {μ μ' : MM} {n : Nat}

mutual
/-- A value whose objects are all among the first n: what stands beyond does not matter. -/
theorem under_rel (hm : ∀ i, i < n → μ'[i]? = μ[i]?) : ∀ {a : AVal} {v : Value}, a.under n = true → VRel E μ' a v → VRel E μ a v
  | .bool b, v, _, h => by simpa only [VRel] using h
  | .int k m, v, _, h => by simpa only [VRel] using h
  | .str s, v, _, h => by simpa only [VRel] using h
  | .ptr none, v, _, h => by simpa only [VRel] using h
  | .ptr (some (i, o)), v, hu, h => by
    simp only [AVal.under, decide_eq_true_eq] at hu
    simp only [VRel, ARel] at h ⊢
    rw [hm i hu] at h; exact h
  | .slice none m c, v, _, h => by simpa only [VRel] using h
  | .slice (some (i, o)) m c, v, hu, h => by
    simp only [AVal.under, decide_eq_true_eq] at hu
    simp only [VRel, ARel] at h ⊢
    rw [hm i hu] at h
    obtain ⟨a, cap, e, h1, h2⟩ := h
    refine ⟨a, cap, e, ?_, h2⟩
    have h3 := hm i hu
    rcases Nat.lt_or_ge i μ.length with h4 | h4
    · exact h4
    · rw [List.getElem?_eq_none h4, List.getElem?_eq_getElem h1] at h3; cases h3
  | .map none, v, _, h => by simpa only [VRel] using h
  | .map (some i), v, hu, h => by
    simp only [AVal.under, decide_eq_true_eq] at hu
    simp only [VRel] at h ⊢
    rw [hm i hu] at h; exact h
  | .yield i, v, hu, h => by
    simp only [AVal.under, decide_eq_true_eq] at hu
    simp only [VRel] at h ⊢
    rw [hm i hu] at h; exact h
  | .func g f c, v, hu, h => by
    simp only [AVal.under, Bool.and_eq_true] at hu
    simp only [VRel] at h ⊢
    obtain ⟨fid, f', c', e, hg, h1, h2⟩ := h
    exact ⟨fid, f', c', e, hg, unders_rel hm hu.1 h1, unders_rel hm hu.2 h2⟩
  | .nilFunc, v, _, h => by simpa only [VRel] using h
  | .iface _ _, v, _, h => by simp only [VRel] at h
  | .nilIface, v, _, h => by simpa only [VRel] using h
  | .agg cs, v, hu, h => by
    simp only [AVal.under] at hu
    simp only [VRel] at h ⊢
    obtain ⟨cs', e, h1, h2⟩ := h
    exact ⟨cs', e, unders_rel hm hu h1, h2⟩
  | .tuple vs, v, hu, h => by
    simp only [AVal.under] at hu
    simp only [VRel] at h ⊢
    obtain ⟨cs', e, h1⟩ := h
    exact ⟨cs', e, unders_rel hm hu h1⟩
theorem unders_rel (hm : ∀ i, i < n → μ'[i]? = μ[i]?) : ∀ {as : List AVal} {l : List Value}, AVal.unders n as = true → VRels E μ' as l → VRels E μ as l
  | [], l, _, h => by simpa only [VRels] using h
  | a :: as, l, hu, h => by
    simp only [AVal.unders, Bool.and_eq_true] at hu
    simp only [VRels] at h ⊢
    obtain ⟨v, r, e, h1, h2⟩ := h
    exact ⟨v, r, e, under_rel hm hu.1 h1, unders_rel hm hu.2 h2⟩
end

theorem isOne_ren (f : Nat → Nat) (a : AVal) : (a.ren f).isOne = a.isOne := by
  cases a with
  | ptr p => cases p <;> simp [AVal.ren, AVal.isOne]
  | slice p m c => cases p <;> simp [AVal.ren, AVal.isOne]
  | map p => cases p <;> simp [AVal.ren, AVal.isOne]
  | _ => simp [AVal.ren, AVal.isOne]

mutual
/-- Objects get other numbers. -/
theorem ren_rel (f : Nat → Nat) : ∀ {a : AVal} {v : Value}, (∀ i ∈ a.ids, i < μ.length → μ'[f i]? = μ[i]?) → VRel E μ a v → VRel E μ' (a.ren f) v
  | .bool b, v, _, h => by simpa only [AVal.ren, VRel] using h
  | .int k m, v, _, h => by simpa only [AVal.ren, VRel] using h
  | .str s, v, _, h => by simpa only [AVal.ren, VRel] using h
  | .ptr none, v, _, h => by simpa only [AVal.ren, VRel] using h
  | .ptr (some (i, o)), v, hi, h => by
    have h3 := hi i (by simp [AVal.ids])
    simp only [AVal.ren, VRel, ARel] at h ⊢
    obtain ⟨a, e, x, hx, hm⟩ := h
    exact ⟨a, e, x, (h3 (lt_of_get hx)).trans hx, hm⟩
  | .slice none m c, v, _, h => by simpa only [AVal.ren, VRel] using h
  | .slice (some (i, o)) m c, v, hi, h => by
    have h3 := hi i (by simp [AVal.ids])
    simp only [AVal.ren, VRel, ARel] at h ⊢
    obtain ⟨a, cap, e, h1, h2⟩ := h
    have h4 := h3 h1
    rw [h4]
    refine ⟨a, cap, e, ?_, h2⟩
    rw [List.getElem?_eq_getElem h1] at h4
    exact lt_of_get h4
  | .map none, v, _, h => by simpa only [AVal.ren, VRel] using h
  | .map (some i), v, hi, h => by
    have h3 := hi i (by simp [AVal.ids])
    simp only [AVal.ren, VRel] at h ⊢
    obtain ⟨b, x, e, hx, hm⟩ := h
    exact ⟨b, x, e, (h3 (lt_of_get hx)).trans hx, hm⟩
  | .yield i, v, hi, h => by
    have h3 := hi i (by simp [AVal.ids])
    simp only [AVal.ren, VRel] at h ⊢
    obtain ⟨b, x, e, hx, hm⟩ := h
    exact ⟨b, x, e, (h3 (lt_of_get hx)).trans hx, hm⟩
  | .func g a c, v, hi, h => by
    simp only [AVal.ren, VRel] at h ⊢
    obtain ⟨fid, f', c', e, hg, h1, h2⟩ := h
    exact ⟨fid, f', c', e, hg, rens_rel f (fun i hi' => hi i (by simp [AVal.ids, hi'])) h1, rens_rel f (fun i hi' => hi i (by simp [AVal.ids, hi'])) h2⟩
  | .nilFunc, v, _, h => by simpa only [AVal.ren, VRel] using h
  | .iface _ _, v, _, h => by simp only [VRel] at h
  | .nilIface, v, _, h => by simpa only [AVal.ren, VRel] using h
  | .agg cs, v, hi, h => by
    simp only [AVal.ren, VRel] at h ⊢
    obtain ⟨cs', e, h1, h2⟩ := h
    exact ⟨cs', e, rens_rel f (fun i hi' => hi i (by simp [AVal.ids, hi'])) h1, rens_one f h2⟩
  | .tuple vs, v, hi, h => by
    simp only [AVal.ren, VRel] at h ⊢
    obtain ⟨cs', e, h1⟩ := h
    exact ⟨cs', e, rens_rel f (fun i hi' => hi i (by simp [AVal.ids, hi'])) h1⟩
theorem rens_rel (f : Nat → Nat) : ∀ {as : List AVal} {l : List Value}, (∀ i ∈ AVal.idsL as, i < μ.length → μ'[f i]? = μ[i]?) → VRels E μ as l → VRels E μ' (AVal.renL f as) l
  | [], l, _, h => by simpa only [AVal.renL, VRels] using h
  | a :: as, l, hi, h => by
    simp only [AVal.renL, VRels] at h ⊢
    obtain ⟨v, r, e, h1, h2⟩ := h
    exact ⟨v, r, e, ren_rel f (fun i hi' => hi i (by simp [AVal.idsL, hi'])) h1, rens_rel f (fun i hi' => hi i (by simp [AVal.idsL, hi'])) h2⟩
theorem rens_one (f : Nat → Nat) : ∀ {as : List AVal}, (∀ x ∈ as, x.isOne = true) → ∀ x ∈ AVal.renL f as, x.isOne = true
  | [], _ => by simp [AVal.renL]
  | a :: as, h => by
    intro x hx
    simp only [AVal.renL, List.mem_cons] at hx
    rcases hx with rfl | hx
    · rw [isOne_ren]; exact h a (List.mem_cons_self ..)
    · exact rens_one f (fun y hy => h y (List.mem_cons_of_mem _ hy)) x hx
end

theorem renL_get (f : Nat → Nat) : ∀ (as : List AVal) (k : Nat), (AVal.renL f as)[k]? = (as[k]?).map (AVal.ren f)
  | [], k => by simp [AVal.renL]
  | a :: as, 0 => by simp [AVal.renL]
  | a :: as, k + 1 => by simpa [AVal.renL] using renL_get f as k

theorem renL_length (f : Nat → Nat) : ∀ (as : List AVal), (AVal.renL f as).length = as.length
  | [] => rfl
  | a :: as => by simp [AVal.renL, renL_length f as]

theorem idsL_mem : ∀ {as : List AVal} {k : Nat} {a : AVal} {i : Nat}, as[k]? = some a → i ∈ a.ids → i ∈ AVal.idsL as
  | [], k, a, i, h, _ => by simp at h
  | x :: as, 0, a, i, h, hi => by simp at h; subst h; simp [AVal.idsL, hi]
  | x :: as, k + 1, a, i, h, hi => by
    simp at h
    simp [AVal.idsL, idsL_mem h hi]

end
end Go.Abs
