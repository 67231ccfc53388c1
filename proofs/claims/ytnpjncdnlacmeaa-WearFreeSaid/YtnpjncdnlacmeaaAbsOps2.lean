/-
  Each operation, going on: indexes, slices, aggregates, conversions; what makes memory, and what writes to it.
-/
import Derived.Test.YtnpjncdnlacmeaaAbsOps
namespace Go.Abs

section
variable {E : Env} {lo : Nat} {ν : Fr} {μ : MM} {s : Slots} {h : Heap} {a : Act} {w : World} {d : Nat}

/-! ## Indexes and bounds -/

theorem inBounds_rel {n k : Nat} {v : AVal} {u : Value} (hv : VRel E μ v u) (h : inBounds n v = some k) : ∃ kd i, u = .int kd i ∧ 0 ≤ i ∧ i < n ∧ k = i.toNat := by
  cases v <;> simp only [inBounds] at h <;> (try cases h)
  case int kd i =>
    split at h
    · rename_i hh; cases h
      simp only [VRel] at hv
      exact ⟨kd, i, hv, hh.1, hh.2, rfl⟩
    · cases h

theorem upTo_rel {P : Program} {n y k : Nat} {v : AVal} {u : Value} (hv : VRel E μ v u) (h : upTo n v = some k) (hn : n ≤ y) (code : BoundsCode) (w : World) :
    (Instr.sliceBound u y code).run P w = .ok k w ∧ k ≤ n := by
  cases v <;> simp only [upTo] at h <;> (try cases h)
  case int kd i =>
    split at h
    · rename_i hh; cases h
      simp only [VRel] at hv; subst hv
      refine ⟨?_, by omega⟩
      have : 0 ≤ i ∧ i ≤ y := ⟨hh.1, by omega⟩
      simp [Instr.sliceBound, asIntOf, this]
    · cases h

def OptRel (E : Env) (μ : MM) : Option AVal → Option Value → Prop
  | none, u => u = none
  | some v, u => ∃ x, u = some x ∧ VRel E μ v x

theorem opt_rel (hf : FRel E lo ν μ (sget s) a.tmps w) {x : Option Operand} {y : Option Opd} {v : Option AVal} (hc : cOpt E x = some y) (he : optEv s y = some v) : OptRel E μ v (x.map a.eval) := by
  cases x with
  | none =>
    simp only [cOpt] at hc; cases hc
    simp only [optEv] at he; cases he
    simp [OptRel]
  | some x =>
    simp only [cOpt] at hc
    rw [Option.map_eq_some_iff] at hc
    obtain ⟨y', hy, rfl⟩ := hc
    simp only [optEv] at he
    rw [Option.map_eq_some_iff] at he
    obtain ⟨v', hv, rfl⟩ := he
    exact ⟨_, rfl, opd_rel hf hy hv⟩

theorem low_rel {P : Program} {b a' : Nat} {l1 : Option AVal} {l2 : Option Value} (hl : OptRel E μ l1 l2) (h : lowB b l1 = some a') (code : BoundsCode) (w : World) :
    a' ≤ b ∧ ∀ (β : Type) (f : Nat → Sem β), (match l2 with
      | some v => Instr.sliceBound v b code >>= f
      | none => pure 0 >>= f).run P w = (f a').run P w := by
  cases l1 with
  | none =>
    simp only [OptRel] at hl; subst hl
    simp only [lowB] at h; cases h
    exact ⟨Nat.zero_le _, fun β f => rfl⟩
  | some l =>
    simp only [OptRel] at hl
    obtain ⟨x, rfl, hx⟩ := hl
    simp only [lowB] at h
    obtain ⟨k1, k2⟩ := upTo_rel (P := P) hx h (Nat.le_refl _) code w
    exact ⟨k2, fun β f => by simp only [Sem.run_bind, k1, Result.andThen_ok]⟩

theorem bounds_rel {P : Program} {n cap a' b : Nat} {c m : Option Nat} {l1 h1 m1 : Option AVal} {l2 h2 m2 : Option Value} (isS : Bool) (hl : OptRel E μ l1 l2) (hh : OptRel E μ h1 h2) (hm : OptRel E μ m1 m2)
    (hb : bounds n c l1 h1 m1 = some (a', b, m)) (hn : n ≤ cap) (hc : ∀ k, c = some k → cap = k) (w : World) :
    (Instr.sliceBounds isS n cap l2 h2 m2).run P w = .ok (a', b, m.getD cap) w ∧ a' ≤ b ∧ b ≤ m.getD cap ∧ m.getD cap ≤ cap := by
  have hcn : c.getD n ≤ cap := by
    cases c with
    | none => exact hn
    | some k => have := hc k rfl; simp; omega
  have hcc : c.getD cap = cap := by
    cases c with
    | none => rfl
    | some k => have := hc k rfl; simpa using this.symm
  unfold bounds at hb
  cases m1 with
  | some mv =>
    simp only [OptRel] at hm
    obtain ⟨mx, rfl, hmx⟩ := hm
    simp only at hb
    split at hb
    · rename_i m' hm'
      obtain ⟨k1, k2⟩ := upTo_rel (P := P) hmx hm' hcn (if isS then .slice3Acap else .slice3Alen) w
      cases h1 with
      | none => cases hb
      | some hv =>
        simp only [OptRel] at hh
        obtain ⟨hx, rfl, hhx⟩ := hh
        simp only at hb
        split at hb
        · rename_i b' hb'
          obtain ⟨k3, k4⟩ := upTo_rel (P := P) hhx hb' (Nat.le_refl _) .slice3B w
          rw [Option.map_eq_some_iff] at hb
          obtain ⟨a1, ha1, e⟩ := hb
          cases e
          obtain ⟨k5, k6⟩ := low_rel (P := P) hl ha1 .slice3C w
          refine ⟨?_, k5, by simpa using k4, by simp; omega⟩
          simp only [Instr.sliceBounds, Sem.run_bind, k1, Result.andThen_ok, k3, Option.isSome_some, if_true, Option.getD_some]
          exact k6 _ fun l => pure (l, b, m')
        · cases hb
    · cases hb
  | none =>
    simp only [OptRel] at hm; subst hm
    simp only at hb
    cases h1 with
    | none =>
      simp only [OptRel] at hh; subst hh
      simp only at hb
      rw [Option.map_eq_some_iff] at hb
      obtain ⟨a1, ha1, e⟩ := hb
      cases e
      obtain ⟨k5, k6⟩ := low_rel (P := P) hl ha1 .sliceB w
      refine ⟨?_, k5, by rw [hcc]; exact hn, by rw [hcc]; exact Nat.le_refl _⟩
      rw [hcc]
      simp only [Instr.sliceBounds, Sem.run_bind, Sem.run_pure, Result.andThen_ok, Option.isSome_none, Bool.false_eq_true, if_false]
      exact k6 _ fun l => pure (l, n, cap)
    | some hv =>
      simp only [OptRel] at hh
      obtain ⟨hx, rfl, hhx⟩ := hh
      simp only at hb
      split at hb
      · rename_i b' hb'
        obtain ⟨k3, k4⟩ := upTo_rel (P := P) hhx hb' hcn (if isS then .sliceAcap else .sliceAlen) w
        rw [Option.map_eq_some_iff] at hb
        obtain ⟨a1, ha1, e⟩ := hb
        cases e
        obtain ⟨k5, k6⟩ := low_rel (P := P) hl ha1 .sliceB w
        refine ⟨?_, k5, by rw [hcc]; omega, by rw [hcc]; exact Nat.le_refl _⟩
        rw [hcc]
        simp only [Instr.sliceBounds, Sem.run_bind, Sem.run_pure, Result.andThen_ok, k3, Option.isSome_none, Bool.false_eq_true, if_false]
        exact k6 _ fun l => pure (l, b, cap)
      · cases hb

theorem extract_mk (t : List UInt8) (a b : Nat) : (⟨t.toArray⟩ : ByteArray).extract a b = ⟨((t.drop a).take (b - a)).toArray⟩ := by
  apply ByteArray.ext
  apply Array.ext'
  simp [ByteArray.data_extract]

theorem row_slice {i o e cap a' b : Nat} {m : Option Nat} {ad : Addr} (hr : Rel E μ h w) (hi : i < μ.length) (hA : 0 < cap → ARel μ i o ad) (hs : ∀ m : M, μ[i]? = some (some m) → m.base + o + cap * m.esz ≤ m.size)
    (he : eszIs h i e = true) (h1 : a' ≤ b) (h2 : b ≤ m.getD cap) (h3 : m.getD cap ≤ cap) :
    VRel E μ (.slice (some (i, if m = some a' then o else o + a' * e)) (b - a') (m.map (· - a'))) (.slice (if m.getD cap = a' then some ad else (some ad).map (·.add (a' * e))) (b - a') (m.getD cap - a')) := by
  have hesz : ∀ m : M, μ[i]? = some (some m) → m.esz = e := by
    intro m hm
    unfold eszIs at he
    split at he
    · rename_i e' cs hg
      obtain ⟨m', c, te, fr, k1, k2, _⟩ := hr.obj i _ hg
      rw [hm] at k1; cases k1
      rw [k2]; simpa using he
    · rename_i hg
      have := hr.obj i _ hg
      simp only [ORel] at this
      rw [hm] at this; cases this
    · cases he
  have hmap : ∀ k, m.map (· - a') = some k → m.getD cap - a' = k := by
    intro k hk
    rw [Option.map_eq_some_iff] at hk
    obtain ⟨x, rfl, rfl⟩ := hk
    rfl
  simp only [VRel]
  by_cases hc : m.getD cap = a'
  · -- nothing is left: where it stands does not matter
    rw [if_pos hc]
    refine ⟨ad, m.getD cap - a', rfl, hi, fun h0 => absurd h0 (by omega), hmap, by omega, fun m' hm' => ?_⟩
    have k1 := hs m' hm'
    have k2 := hesz m' hm'
    have : m.getD cap - a' = 0 := by omega
    rw [this, Nat.zero_mul, Nat.add_zero]
    split
    · have := Nat.zero_le (cap * m'.esz); omega
    · rw [k2] at k1
      have : a' * e ≤ cap * e := Nat.mul_le_mul_right _ (by omega)
      omega
  · rw [if_neg hc]
    have hne : ¬ (m = some a') := by intro e'; rw [e'] at hc; simp at hc
    rw [if_neg hne]
    refine ⟨ad.add (a' * e), m.getD cap - a', rfl, hi, fun h0 => ?_, hmap, by omega, fun m' hm' => ?_⟩
    · obtain ⟨x, hx, hm⟩ := hA (by omega)
      refine ⟨x, hx, fun m' hm' => ?_⟩
      rw [hm m' hm', add_plain]
      congr 1
      omega
    · have k1 := hs m' hm'
      have k2 := hesz m' hm'
      rw [k2] at k1 ⊢
      have : a' * e + (m.getD cap - a') * e ≤ cap * e := by rw [← Nat.add_mul]; exact Nat.mul_le_mul_right _ (by omega)
      omega

theorem slice_rel (hf : FRel E lo ν μ (sget s) a.tmps w) (hr : Rel E μ h w) {t : TypeId} {x : Operand} {lo' hi' mx' : Option Operand} {ao : AOp} {k : SliceKind} {y : Opd} {l1 h1 m1 : Option Opd} {lv hv mv : Option AVal} {r : AVal}
    (hop : cOp E false (.slice t x lo' hi' mx') = some ao) (hao : ao = .slice k y l1 h1 m1) (hl : optEv s l1 = some lv) (hh : optEv s h1 = some hv) (hm : optEv s m1 = some mv) (he : aSlice k s h y lv hv mv = some r) :
    ∃ v, (Instr.sliceAt t (a.eval x) (lo'.map a.eval) (hi'.map a.eval) (mx'.map a.eval)).run E.P w = .ok v w ∧ VRel E μ r v := by
  subst hao
  simp only [cOp] at hop
  split at hop
  case h_2 => cases hop
  rename_i y' l1' h1' m1' cx cl ch cm
  split at hop
  · rename_i hu
    cases hop
    have rl := opt_rel hf cl hl
    have rh := opt_rel hf ch hh
    simp only [aSlice] at he
    split at he
    · rename_i t' hx
      have rx := opd_rel hf cx hx
      simp only [VRel] at rx
      split at he
      · have rm := opt_rel hf cm hm
        simp only [OptRel] at rm
        rw [Option.map_eq_some_iff] at he
        obtain ⟨⟨a', b, m⟩, hb, rfl⟩ := he
        obtain ⟨k1, k2, k3, k4⟩ := bounds_rel (P := E.P) false rl rh (by simp only [OptRel] : OptRel E μ none none) hb (Nat.le_refl _) (fun k hk => by cases hk; rfl) w
        refine ⟨.string ⟨((t'.drop a').take (b - a')).toArray⟩, ?_, by simp [VRel]⟩
        simp only [Instr.sliceAt, Sem.run_bind, run_underlying hu, Result.andThen_ok, Instr.slice, rx, rm, Option.isSome_none, Bool.false_eq_true, if_false, mk_size, k1, extract_mk]
        rfl
      · cases he
    · cases he
  · rename_i e hu
    rw [Option.map_eq_some_iff] at hop
    obtain ⟨n, hn, hop⟩ := hop
    cases hop
    have rl := opt_rel hf cl hl
    have rh := opt_rel hf ch hh
    have rm := opt_rel hf cm hm
    have hz := run_sizeOf (P := E.P) hn w
    simp only [aSlice] at he
    split at he
    · rename_i n' c' hx
      have rx := opd_rel hf cx hx
      simp only [VRel] at rx
      obtain ⟨e1, e2, rx⟩ := rx
      rw [Option.map_eq_some_iff] at he
      obtain ⟨⟨a', b, m⟩, hb, rfl⟩ := he
      obtain ⟨k1, k2, k3, k4⟩ := bounds_rel (P := E.P) true rl rh rm hb (Nat.le_refl _) (fun k hk => by cases hk; rfl) w
      have h0 : m.getD 0 = 0 := by omega
      have hb0 : b = 0 := by omega
      have ha0 : a' = 0 := by omega
      refine ⟨.slice none 0 0, ?_, by simp [VRel]⟩
      simp only [Instr.sliceAt, Sem.run_bind, run_underlying hu, Result.andThen_ok, Instr.slice, rx, k1, hz, h0, hb0, ha0]
      rfl
    · rename_i i o n' c' hx
      have rx := opd_rel hf cx hx
      simp only [VRel] at rx
      obtain ⟨ad, cap, rx, r1, r2, r3, r4, r5⟩ := rx
      split at he
      · rename_i hes
        rw [Option.map_eq_some_iff] at he
        obtain ⟨⟨a', b, m⟩, hb, rfl⟩ := he
        obtain ⟨k1, k2, k3, k4⟩ := bounds_rel (P := E.P) true rl rh rm hb r4 r3 w
        refine ⟨_, ?_, row_slice hr r1 r2 r5 hes k2 k3 k4⟩
        simp only [Instr.sliceAt, Sem.run_bind, run_underlying hu, Result.andThen_ok, Instr.slice, rx, k1, hz]
        rfl
      · cases he
    · cases he
  · rename_i n e hu
    rw [Option.map_eq_some_iff] at hop
    obtain ⟨k, hk, hop⟩ := hop
    cases hop
    have rl := opt_rel hf cl hl
    have rh := opt_rel hf ch hh
    have rm := opt_rel hf cm hm
    have hz := run_sizeOf (P := E.P) hk w
    simp only [aSlice] at he
    split at he
    · rename_i i o hx
      obtain ⟨ad, rx, rA⟩ := adr_glob hf cx hx
      split at he
      · rename_i e' cs hg
        split at he
        · rename_i hh'
          obtain ⟨rfl, hlen⟩ := hh'
          rw [Option.map_eq_some_iff] at he
          obtain ⟨⟨a', b, m⟩, hb, rfl⟩ := he
          obtain ⟨k1, k2, k3, k4⟩ := bounds_rel (P := E.P) false rl rh rm hb (Nat.le_refl _) (fun k hk => by cases hk; rfl) w
          obtain ⟨m0, c, te, fr, j1, j2, j3, j4, j5, j6, _⟩ := hr.obj i _ hg
          have := row_slice (e := e') (m := m) (cap := n) hr (lt_of_get j1) (fun _ => rA) (fun m' hm' => by rw [j1] at hm'; cases hm'; rw [j2]; omega) (by simp [eszIs, hg]) k2 k3 k4
          refine ⟨_, ?_, this⟩
          simp only [Instr.sliceAt, Sem.run_bind, run_underlying hu, Result.andThen_ok, rx, Instr.sureAddr, Sem.run_pure, k1, hz]
          congr 1
          split <;> rfl
        · cases he
      · cases he
    · cases he
  · cases hop

theorem string_get (t : List UInt8) (j : Nat) : (⟨t.toArray⟩ : ByteArray)[j]? = t[j]? := by
  by_cases h : j < t.length
  · have h' : j < (⟨t.toArray⟩ : ByteArray).size := by rw [mk_size]; exact h
    rw [getElem?_pos (⟨t.toArray⟩ : ByteArray) j h', List.getElem?_eq_getElem h]; rfl
  · have h' : ¬ j < (⟨t.toArray⟩ : ByteArray).size := by rw [mk_size]; exact h
    rw [getElem?_neg (⟨t.toArray⟩ : ByteArray) j h', List.getElem?_eq_none (by omega)]

end
end Go.Abs
