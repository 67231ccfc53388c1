/-
  Keys, comparisons of structs and arrays, maps: what the abstract machine gives, the model's operation does.
-/
import Derived.Test.YtnpjncdnlacmeaaAbsOps4
import Derived.MapKept
import Derived.DeepKeys
namespace Go.Abs

section
variable {E : Env} {lo : Nat} {ν : Fr} {μ : MM} {s : Slots} {h : Heap} {a : Act} {w : World}

/-- A part's value: an aggregate's, or one cell's. -/
def FitV (n : Option Nat) (x : AVal) : Prop := match n with
  | some _ => ∃ cs, x = .agg cs
  | none => x.isOne = true

theorem part_fit {cs : List AVal} {o : Nat} {n : Option Nat} {r : AVal} (h1 : ∀ x ∈ cs, x.isOne = true) (h : Abs.part cs o n = some r) : FitV n r := by
  cases n with
  | none => simp only [Abs.part] at h; exact h1 _ (List.mem_of_getElem? h)
  | some k =>
    simp only [Abs.part] at h
    split at h
    · cases h; exact ⟨_, rfl⟩
    · cases h

theorem areKeys_length : ∀ {ks : List CK} {as : List AVal}, areKeys ks as = true → as.length = ks.length
  | [], [], _ => rfl
  | _ :: ks, _ :: as, h => by
    simp only [areKeys, Bool.and_eq_true] at h
    simp [areKeys_length h.2]
  | [], _ :: _, h => by simp [areKeys] at h
  | _ :: _, [], h => by simp [areKeys] at h

theorem areKeys_append : ∀ {k1 k2 : List CK} {as : List AVal}, areKeys (k1 ++ k2) as = true → areKeys k1 (as.take k1.length) = true ∧ areKeys k2 (as.drop k1.length) = true
  | [], k2, as, h => by simpa [areKeys] using h
  | c :: k1, k2, [], h => by simp [areKeys] at h
  | c :: k1, k2, a :: as, h => by
    simp only [List.cons_append, areKeys, Bool.and_eq_true] at h
    obtain ⟨h1, h2⟩ := areKeys_append h.2
    simp only [List.length_cons, List.take_succ_cons, List.drop_succ_cons, areKeys, Bool.and_eq_true]
    exact ⟨⟨h.1, h1⟩, h2⟩

theorem akeyL_length : ∀ {as bs : List AVal}, akeyL as bs = some true → as.length = bs.length
  | [], [], _ => rfl
  | a :: as, b :: bs, h => by
    simp only [akeyL] at h
    split at h
    · simp [akeyL_length h]
    · cases h
    · cases h
  | [], _ :: _, h => by simp [akeyL] at h
  | _ :: _, [], h => by simp [akeyL] at h

/-- Of the first k cells, then of the rest. -/
theorem akeyL_split : ∀ (k : Nat) {as bs : List AVal} {r : Bool}, k ≤ as.length → as.length = bs.length → akeyL as bs = some r → ∃ r1, akeyL (as.take k) (bs.take k) = some r1 ∧ (r1 = true → akeyL (as.drop k) (bs.drop k) = some r) ∧ (r1 = false → r = false)
  | 0, as, bs, r, _, _, h => ⟨true, by simp [akeyL], fun _ => by simpa using h, fun e => by cases e⟩
  | k + 1, [], bs, r, hk, _, _ => by simp at hk
  | k + 1, a :: as, [], r, _, hl, _ => by simp at hl
  | k + 1, a :: as, b :: bs, r, hk, hl, h => by
    simp only [akeyL] at h
    cases hab : akey1 a b with
    | none => rw [hab] at h; cases h
    | some q =>
      rw [hab] at h
      cases q with
      | false =>
        cases h
        exact ⟨false, by simp [akeyL, hab], (fun e => by cases e), (fun _ => rfl)⟩
      | true =>
        obtain ⟨r1, h1, h2, h3⟩ := akeyL_split k (by simpa using hk) (by simpa using hl) h
        exact ⟨r1, by simp [akeyL, hab, h1], h2, h3⟩

/-- Comparing two values of a type whose cells are l. -/
def EqOK (E : Env) (d : Nat) (t : TypeId) (l : List CK) : Prop :=
  ∀ (μ : MM) (w : World) (n : Option Nat) (x y : AVal) (u v : Value) (as bs : List AVal) (r : Bool), partT E.P t = some n → FitV n x → FitV n y → VRel E μ x u → VRel E μ y v → x.cells? = some as → y.cells? = some bs →
    as.length = bs.length → areKeys l as = true → akeyL as bs = some r → (Op.equalIn d t u v).run E.P w = .ok r w

theorem eq_one {d : Nat} {t : TypeId} {c : CK} {l : List CK} (hl : l = [c]) (ht : (c = .b ∧ E.P.underlying t = some .bool) ∨ (c = .i ∧ ∃ k, E.P.underlying t = some (.int k)) ∨ (c = .s ∧ E.P.underlying t = some .string)) : EqOK E (d + 1) t l := by
  intro μ w n x y u v as bs r hn fx fy hx hy cx cy hlen hk hr
  subst hl
  have hn0 : n = none := by
    unfold partT at hn
    rcases ht with ⟨_, ht⟩ | ⟨_, k, ht⟩ | ⟨_, ht⟩ <;> (rw [ht] at hn; simp at hn; simp [← hn])
  subst hn0
  have one : ∀ {z : AVal} {zs : List AVal}, FitV none z → z.cells? = some zs → zs = [z] := by
    intro z zs hz hc
    have hz : z.isOne = true := hz
    cases z <;> simp [AVal.cells?, AVal.isOne] at hc hz <;> exact hc.symm
  have e1 := one fx cx
  have e2 := one fy cy
  subst e1; subst e2
  simp only [areKeys, Bool.and_true] at hk
  simp only [akeyL] at hr
  have hr2 : akey1 x y = some r := by
    cases hab : akey1 x y with
    | none => rw [hab] at hr; cases hr
    | some q =>
      rw [hab] at hr
      cases q with
      | false => exact hr
      | true => exact hr
  clear hr
  rcases ht with ⟨rfl, ht⟩ | ⟨rfl, k, ht⟩ | ⟨rfl, ht⟩
  · cases x <;> simp only [CK.is, Bool.false_eq_true] at hk
    cases y <;> simp only [akey1, reduceCtorEq] at hr2
    simp only [VRel] at hx hy
    subst hx; subst hy
    injection hr2 with hr2
    rw [run_equalIn_bool' w d t _ _ ht, ← hr2]
    congr 1
  · cases x <;> simp only [CK.is, Bool.false_eq_true] at hk
    cases y <;> simp only [akey1, reduceCtorEq] at hr2
    simp only [VRel] at hx hy
    subst hx; subst hy
    split at hr2
    · rename_i hkk
      subst hkk
      injection hr2 with hr2
      rw [run_equalIn_int w d t _ _ _ _ ht, ← hr2]
      congr 1
    · cases hr2
  · cases x <;> simp only [CK.is, Bool.false_eq_true] at hk
    cases y <;> simp only [akey1, reduceCtorEq] at hr2
    simp only [VRel] at hx hy
    subst hx; subst hy
    injection hr2 with hr2
    rw [run_equalIn_string w d t _ _ ht, ← hr2]
    congr 1
    rw [Bool.eq_iff_iff]; simp [ByteArray.toList_eq]

theorem cells_part {cs : List AVal} {o k : Nat} {n : Option Nat} {r : AVal} (h1 : ∀ x ∈ cs, x.isOne = true) (hk : n = some k ∨ (n = none ∧ k = 1)) (h : Abs.part cs o n = some r) : r.cells? = some ((cs.drop o).take k) := by
  rcases hk with rfl | ⟨rfl, rfl⟩
  · simp only [Abs.part] at h
    split at h
    · cases h; rfl
    · cases h
  · simp only [Abs.part] at h
    have h2 := h1 _ (List.mem_of_getElem? h)
    have h3 : (cs.drop o).take 1 = [r] := by
      have hlt := lt_of_get h
      rw [List.drop_eq_getElem_cons hlt, List.take_succ_cons]
      rw [List.getElem?_eq_getElem hlt] at h
      simp [Option.some.inj h]
    rw [h3]
    cases r <;> simp [AVal.cells?, AVal.isOne] at h2 ⊢

theorem part_at {cs : List AVal} {o k : Nat} {n : Option Nat} (hk : n = some k ∨ (n = none ∧ k = 1)) (ho : o + k ≤ cs.length) : ∃ r, Abs.part cs o n = some r := by
  rcases hk with rfl | ⟨rfl, rfl⟩
  · exact ⟨_, by simp only [Abs.part]; rw [if_pos ho]⟩
  · exact ⟨_, by simp only [Abs.part]; exact List.getElem?_eq_getElem (by omega)⟩

theorem ckOf_part {P : Program} {n : Nat} {t : TypeId} {l : List CK} (h : ckOf P n t = some l) (hs : sizeT P t = some l.length) : ∃ m, partT P t = some m ∧ (m = some l.length ∨ (m = none ∧ l.length = 1)) := by
  cases n with
  | zero => simp [ckOf] at h
  | succ n =>
    unfold partT
    simp only [ckOf] at h
    split at h <;> (try cases h)
    · rename_i ht; rw [ht]; exact ⟨none, rfl, .inr ⟨rfl, rfl⟩⟩
    · rename_i ht; rw [ht]; exact ⟨none, rfl, .inr ⟨rfl, rfl⟩⟩
    · rename_i ht; rw [ht]; exact ⟨none, rfl, .inr ⟨rfl, rfl⟩⟩
    · rename_i ht; rw [ht]; exact ⟨some l.length, by simp [hs], .inl rfl⟩
    · rename_i ht; rw [ht]; exact ⟨some l.length, by simp [hs], .inl rfl⟩

theorem eq_fields {d : Nat} {g : TypeId → Option (List CK)} (hg : ∀ t l, g t = some l → EqOK E d t l) (hgp : ∀ t l, g t = some l → sizeT E.P t = some l.length → ∃ m, partT E.P t = some m ∧ (m = some l.length ∨ (m = none ∧ l.length = 1)))
    {A B : List AVal} {xs ys : Array Value} (hA : VRels E μ A xs.toList) (hB : VRels E μ B ys.toList) (hA1 : ∀ x ∈ A, x.isOne = true) (hB1 : ∀ x ∈ B, x.isOne = true) (hlen : A.length = B.length) :
    ∀ (fs : List Field) (off : Nat) (l : List CK) (r : Bool), ckFields g E.P off fs = some l → areKeys l (A.drop off) = true → akeyL (A.drop off) (B.drop off) = some r → (Op.eqFields d xs ys fs).run E.P w = .ok r w
  | [], off, l, r, hl, hk, hr => by
    simp only [ckFields] at hl; cases hl
    have h1 := areKeys_length hk
    have e1 : A.drop off = [] := List.eq_nil_of_length_eq_zero (by simpa using h1)
    rw [e1] at hr
    cases hb : B.drop off with
    | nil => rw [hb] at hr; simp [akeyL] at hr; subst hr; simp [Op.eqFields]
    | cons b bs => rw [hb] at hr; simp [akeyL] at hr
  | f :: fs, off, l, r, hl, hk, hr => by
    simp only [ckFields] at hl
    split at hl
    case h_2 => cases hl
    rename_i l1 hl1
    split at hl
    case isFalse => cases hl
    rename_i hh
    obtain ⟨ho, hn, hs, h0⟩ := hh
    rw [Option.map_eq_some_iff] at hl
    obtain ⟨l2, hl2, rfl⟩ := hl
    obtain ⟨k1, k2⟩ := areKeys_append hk
    have hkl := areKeys_length hk
    simp only [List.length_drop, List.length_append] at hkl
    obtain ⟨m, hm, hmk⟩ := hgp f.type l1 hl1 hs
    have hoff : off + l1.length ≤ A.length := by omega
    obtain ⟨x, hx⟩ := part_at (cs := A) (o := off) hmk hoff
    obtain ⟨y, hy⟩ := part_at (cs := B) (o := off) hmk (by omega)
    obtain ⟨u, p1, q1⟩ := part_rel w hm hA hA1 hx
    obtain ⟨v, p2, q2⟩ := part_rel w hm hB hB1 hy
    obtain ⟨r1, s1, s2, s3⟩ := akeyL_split l1.length (by simp; omega) (by simp; omega) hr
    have he := hg f.type l1 hl1 μ w m x y u v _ _ r1 hm (part_fit hA1 hx) (part_fit hB1 hy) q1 q2 (cells_part hA1 hmk hx) (cells_part hB1 hmk hy) (by simp; omega) k1 s1
    rw [← ho] at p1 p2
    simp only [Op.eqFields, hn, ne_eq, not_false_eq_true, if_true, Sem.run_bind, p1, p2, he, Result.andThen_ok]
    cases r1 with
    | false => rw [s3 rfl]; simp
    | true =>
      have := eq_fields hg hgp hA hB hA1 hB1 hlen fs (off + l1.length) l2 r hl2 (by rw [List.drop_drop] at k2; exact k2) (by have := s2 rfl; rwa [List.drop_drop, List.drop_drop] at this)
      simpa using this

theorem eq_items {d : Nat} {e : TypeId} {le : List CK} (he : EqOK E d e le) {m : Option Nat} (hm : partT E.P e = some m) (hmk : m = some le.length ∨ (m = none ∧ le.length = 1)) (h0 : 0 < le.length) (hc : E.P.cellsOf e = le.length)
    {A B : List AVal} {xs ys : Array Value} (hA : VRels E μ A xs.toList) (hB : VRels E μ B ys.toList) (hA1 : ∀ x ∈ A, x.isOne = true) (hB1 : ∀ x ∈ B, x.isOne = true) (hlen : A.length = B.length) :
    ∀ (k j : Nat) (r : Bool), areKeys (List.replicate k le).flatten (A.drop (j * le.length)) = true → akeyL (A.drop (j * le.length)) (B.drop (j * le.length)) = some r →
      (Op.eqItems d e (E.P.cellsOf e) xs ys (List.range' j k)).run E.P w = .ok r w
  | 0, j, r, hk, hr => by
    have h1 := areKeys_length hk
    have e1 : A.drop (j * le.length) = [] := List.eq_nil_of_length_eq_zero (by simpa using h1)
    rw [e1] at hr
    cases hb : B.drop (j * le.length) with
    | nil => rw [hb] at hr; simp [akeyL] at hr; subst hr; simp [Op.eqItems]
    | cons b bs => rw [hb] at hr; simp [akeyL] at hr
  | k + 1, j, r, hk, hr => by
    rw [List.replicate_succ, List.flatten_cons] at hk
    obtain ⟨k1, k2⟩ := areKeys_append hk
    have hkl := areKeys_length hk
    simp only [List.length_drop, List.length_append] at hkl
    have hoff : j * le.length + le.length ≤ A.length := by omega
    obtain ⟨x, hx⟩ := part_at (cs := A) (o := j * le.length) hmk hoff
    obtain ⟨y, hy⟩ := part_at (cs := B) (o := j * le.length) hmk (by omega)
    obtain ⟨u, p1, q1⟩ := part_rel w hm hA hA1 hx
    obtain ⟨v, p2, q2⟩ := part_rel w hm hB hB1 hy
    obtain ⟨r1, s1, s2, s3⟩ := akeyL_split le.length (by simp; omega) (by simp; omega) hr
    have hq := he μ w m x y u v _ _ r1 hm (part_fit hA1 hx) (part_fit hB1 hy) q1 q2 (cells_part hA1 hmk hx) (cells_part hB1 hmk hy) (by simp; omega) k1 s1
    simp only [List.range'_succ, Op.eqItems, hc, Sem.run_bind, p1, p2, hq, Result.andThen_ok]
    cases r1 with
    | false => rw [s3 rfl]; simp
    | true =>
      have e1 : j * le.length + le.length = (j + 1) * le.length := by rw [Nat.add_mul, Nat.one_mul]
      have := eq_items he hm hmk h0 hc hA hB hA1 hB1 hlen k (j + 1) r (by rw [List.drop_drop, e1] at k2; exact k2) (by have := s2 rfl; rwa [List.drop_drop, List.drop_drop, e1] at this)
      rw [hc] at this
      simpa using this

theorem eq_ck : ∀ (n : Nat) (t : TypeId) (l : List CK), ckOf E.P n t = some l → ∀ d, EqOK E (d + n) t l
  | 0, t, l, h, d => by simp [ckOf] at h
  | n + 1, t, l, h, d => by
    have h0 := h
    simp only [ckOf] at h
    split at h <;> (try cases h)
    · rename_i ht; exact eq_one rfl (.inl ⟨rfl, ht⟩)
    · rename_i ht; exact eq_one rfl (.inr (.inl ⟨rfl, _, ht⟩))
    · rename_i ht; exact eq_one rfl (.inr (.inr ⟨rfl, ht⟩))
    · rename_i fs ht
      split at h
      · cases h
      rename_i hst
      intro μ w m x y u v as bs r hm fx fy hx hy cx cy hlen hk hr
      have hmm : ∃ k, m = some k := by
        unfold partT at hm
        rw [ht] at hm
        simp only [Option.map_eq_some_iff] at hm
        obtain ⟨k, _, rfl⟩ := hm
        exact ⟨k, rfl⟩
      obtain ⟨k, rfl⟩ := hmm
      obtain ⟨A, rfl⟩ := fx
      obtain ⟨B, rfl⟩ := fy
      simp only [AVal.cells?] at cx cy; cases cx; cases cy
      simp only [VRel] at hx hy
      obtain ⟨xs, rfl, hA, hA1⟩ := hx
      obtain ⟨ys, rfl, hB, hB1⟩ := hy
      have hfs : E.P.fieldsOf t = fs := by simp [Program.fieldsOf, ht]
      have := eq_fields (d := d + n) (w := w) (g := ckOf E.P n) (fun t l h => eq_ck n t l h d) (fun t l h hs => ckOf_part h hs) hA hB hA1 hB1 hlen fs.toList 0 l r h (by simpa using hk) (by simpa using hr)
      rw [show d + (n + 1) = (d + n) + 1 from rfl, run_equalIn_struct w (d + n) t xs ys (by rw [hfs]; exact ht) (by simpa using hst), hfs]
      exact this
    · rename_i k e ht
      split at h
      case h_2 => cases h
      rename_i le hle
      split at h
      case isFalse => cases h
      rename_i hs
      cases h
      intro μ w m x y u v as bs r hm fx fy hx hy cx cy hlen hk hr
      have hmm : ∃ k, m = some k := by
        unfold partT at hm
        rw [ht] at hm
        simp only [Option.map_eq_some_iff] at hm
        obtain ⟨k, _, rfl⟩ := hm
        exact ⟨k, rfl⟩
      obtain ⟨q, rfl⟩ := hmm
      obtain ⟨A, rfl⟩ := fx
      obtain ⟨B, rfl⟩ := fy
      simp only [AVal.cells?] at cx cy; cases cx; cases cy
      simp only [VRel] at hx hy
      obtain ⟨xs, rfl, hA, hA1⟩ := hx
      obtain ⟨ys, rfl, hB, hB1⟩ := hy
      obtain ⟨m', hm', hmk⟩ := ckOf_part hle hs.1
      have hinfo : ∃ i, E.P.info? e = some i ∧ i.size = le.length := by
        have := hs.1
        unfold sizeT at this
        rw [Option.map_eq_some_iff] at this
        exact this
      obtain ⟨i, hi, hisz⟩ := hinfo
      have hc : E.P.cellsOf e = le.length := by simp [Program.cellsOf, hi, hisz]
      have := eq_items (w := w) (eq_ck n e le hle d) hm' hmk hs.2 hc hA hB hA1 hB1 hlen k 0 r (by simpa using hk) (by simpa using hr)
      rw [show d + (n + 1) = (d + n) + 1 from rfl, run_equalIn_array w (d + n) xs ys ht hi, List.range_eq_range']
      exact this

/-! ## Keys -/

theorem key_ck {P : Program} {t : TypeId} {kn : KeyT} (h : keyT P t = some kn) : (∃ c, kn = .one c ∧ ckOf P 2 t = some [c] ∧ partT P t = some none) ∨ (∃ l m, kn = .agg l ∧ ckOf P 2 t = some l ∧ (partT P t = some (some m) ∨ partT P t = none)) := by
  unfold keyT at h
  split at h
  · cases h
  split at h <;> (try cases h)
  · rename_i ht; exact .inl ⟨.b, rfl, by simp [ckOf, ht], by simp [partT, ht]⟩
  · rename_i ht; exact .inl ⟨.i, rfl, by simp [ckOf, ht], by simp [partT, ht]⟩
  · rename_i ht; exact .inl ⟨.s, rfl, by simp [ckOf, ht], by simp [partT, ht]⟩
  · rename_i ht
    rw [Option.map_eq_some_iff] at h
    obtain ⟨l, hl, rfl⟩ := h
    cases hs : sizeT P t with
    | none => exact .inr ⟨l, 0, rfl, hl, .inr (by simp [partT, ht, hs])⟩
    | some m => exact .inr ⟨l, m, rfl, hl, .inl (by simp [partT, ht, hs])⟩

theorem key_size {P : Program} {t : TypeId} {kn : KeyT} (h : keyT P t = some kn) : sizeT P t ≠ none := by
  unfold keyT at h
  split at h
  · cases h
  · assumption

theorem key_eq {t : TypeId} {kn : KeyT} {x y : AVal} {u v : Value} {r : Bool} (hk : keyT E.P t = some kn) (hx : VRel E μ x u) (hy : VRel E μ y v) (hkx : isKey kn x = true) (hr : akey x y = some r) (w : World) :
    (Op.equal t u v).run E.P w = .ok r w := by
  rcases key_ck hk with ⟨c, rfl, hc, hp⟩ | ⟨l, m, rfl, hc, hp⟩
  · have he := eq_ck 2 t _ hc 9998
    have h1 : x.isOne = true ∧ x.cells? = some [x] := by cases x <;> cases c <;> simp [isKey, CK.is] at hkx <;> simp [AVal.isOne, AVal.cells?]
    have h2 : akey1 x y = some r := by
      cases x <;> first | exact hr | (simp [AVal.isOne] at h1)
    have h3 : y.isOne = true ∧ y.cells? = some [y] := by
      cases x <;> cases y <;> simp [akey1] at h2 <;> simp [AVal.isOne, AVal.cells?]
    refine he μ w none x y u v [x] [y] r hp h1.1 h3.1 hx hy h1.2 h3.2 rfl (by simpa [areKeys, isKey] using hkx) ?_
    simp only [akeyL, h2]
    cases r <;> rfl
  · have he := eq_ck 2 t _ hc 9998
    have hp' : partT E.P t = some (some m) := by
      rcases hp with hp | hp
      · exact hp
      · exfalso
        have : ∃ ty, E.P.underlying t = some ty := by
          cases hu : E.P.underlying t with
          | none => simp [keyT, hu] at hk
          | some ty => exact ⟨ty, rfl⟩
        obtain ⟨ty, hty⟩ := this
        unfold partT at hp
        rw [hty] at hp
        split at hp
        · rw [Option.map_eq_none_iff] at hp; exact key_size hk hp
        · rw [Option.map_eq_none_iff] at hp; exact key_size hk hp
        · cases hp
        · rename_i e; cases e
    cases x <;> simp only [isKey, Bool.false_eq_true] at hkx
    cases y <;> simp only [akey, akey1, reduceCtorEq] at hr
    split at hr
    · rename_i hlen
      exact he μ w (some m) _ _ u v _ _ r hp' ⟨_, rfl⟩ ⟨_, rfl⟩ hx hy rfl rfl hlen hkx hr
    · cases hr

theorem key_check {t : TypeId} {kn : KeyT} {x : AVal} {u : Value} (hk : keyT E.P t = some kn) (hx : VRel E μ x u) (hkx : isKey kn x = true) (em : Bool) (n : Nat) (w : World) : (Instr.checkKey em (n + 2) t u).run E.P w = .ok () w := by
  have basic : ∀ (n : Nat) (t : TypeId) (u : Value) (w : World), (E.P.underlying t = some .bool ∨ (∃ k, E.P.underlying t = some (.int k)) ∨ E.P.underlying t = some .string) → (Instr.checkKey em (n + 1) t u).run E.P w = .ok () w := by
    intro n t u w ht
    rcases ht with ht | ⟨k, ht⟩ | ht <;> (unfold Instr.checkKey; simp [run_underlying ht])
  unfold keyT at hk
  split at hk
  · cases hk
  split at hk <;> (try cases hk)
  · rename_i ht; exact basic _ _ _ _ (.inl ht)
  · rename_i k ht; exact basic _ _ _ _ (.inr (.inl ⟨_, ht⟩))
  · rename_i ht; exact basic _ _ _ _ (.inr (.inr ht))
  · rename_i fs ht
    rw [Option.map_eq_some_iff] at hk
    obtain ⟨l, hl, rfl⟩ := hk
    simp only [ckOf, ht] at hl
    split at hl
    · cases hl
    cases x <;> simp only [isKey, Bool.false_eq_true] at hkx
    rename_i A
    simp only [VRel] at hx
    obtain ⟨xs, rfl, hA, hA1⟩ := hx
    rw [show n + 2 = (n + 1) + 1 from rfl, Instr.checkKey]
    simp only [Sem.run_bind, run_underlying ht, Result.andThen_ok]
    rw [← Array.forIn_toList]
    have key : ∀ (fs : List Field) (off : Nat) (l : List CK), ckFields (ckOf E.P 1) E.P off fs = some l → areKeys l (A.drop off) = true →
        (forIn fs PUnit.unit fun f r => do
          if f.name ≠ "_" then do
            let a ← Go.part f.type xs f.offset
            Instr.checkKey em (n + 1) f.type a
            pure (ForInStep.yield PUnit.unit)
          else pure (ForInStep.yield PUnit.unit) : Sem PUnit).run E.P w = .ok () w := by
      intro fs
      induction fs with
      | nil => intro off l _ _; simp
      | cons f fs ih =>
        intro off l hl hk
        simp only [ckFields] at hl
        split at hl
        case h_2 => cases hl
        rename_i l1 hl1
        split at hl
        case isFalse => cases hl
        rename_i hh
        obtain ⟨ho, hn, hs, h0⟩ := hh
        rw [Option.map_eq_some_iff] at hl
        obtain ⟨l2, hl2, rfl⟩ := hl
        obtain ⟨k1, k2⟩ := areKeys_append hk
        have hkl := areKeys_length hk
        simp only [List.length_drop, List.length_append] at hkl
        obtain ⟨m, hm, hmk⟩ := ckOf_part hl1 hs
        obtain ⟨x, hx⟩ := part_at (cs := A) (o := off) hmk (by omega)
        obtain ⟨u, p1, _⟩ := part_rel w hm hA hA1 hx
        rw [← ho] at p1
        have hb : (Instr.checkKey em (n + 1) f.type u).run E.P w = .ok () w := by
          apply basic
          simp only [ckOf] at hl1
          split at hl1 <;> (try cases hl1)
          · exact .inl (by assumption)
          · exact .inr (.inl ⟨_, by assumption⟩)
          · exact .inr (.inr (by assumption))
          · rename_i fs2 hu
            split at hl1
            · cases hl1
            · cases hfs : fs2.toList with
              | nil => rw [hfs] at hl1; simp [ckFields] at hl1; subst hl1; simp at h0
              | cons q qs => rw [hfs] at hl1; simp [ckFields, ckOf] at hl1
        simp only [List.forIn_cons, Sem.run_bind, hn, ne_eq, not_false_eq_true, if_true, p1, hb, Result.andThen_ok, Sem.run_pure]
        exact ih (off + l1.length) l2 hl2 (by rw [List.drop_drop] at k2; exact k2)
    have := key fs.toList 0 l hl (by simpa using hkx)
    have h2 : ∀ (S : Sem PUnit), S.run E.P w = .ok () w → (S.run E.P w).andThen (fun _ w' => Result.ok () w') = .ok () w := fun S h => by rw [h]; rfl
    exact h2 _ (by simpa using this)

/-! ## Entries -/

def Found (E : Env) (μ : MM) (i : Nat) (res : Option (Nat × AVal)) (r : Option (Nat × Value)) : Prop :=
  match res, r with
  | none, none => True
  | some (j, v), some (j', v') => j' = i + j ∧ VRel E μ v v'
  | _, _ => False

def Entries (E : Env) (μ : MM) (es : List (AVal × AVal × Nat)) (l : List MapEntry) : Prop :=
  l.length = es.length ∧ ∀ (k : Nat) (x : AVal × AVal × Nat), es[k]? = some x → ∃ y : MapEntry, l[k]? = some y ∧ VRel E μ x.1 y.key ∧ VRel E μ x.2.1 y.val ∧ y.born = x.2.2

theorem Entries.cons {x : AVal × AVal × Nat} {es : List (AVal × AVal × Nat)} {l : List MapEntry} (h : Entries E μ (x :: es) l) : ∃ y l', l = y :: l' ∧ VRel E μ x.1 y.key ∧ VRel E μ x.2.1 y.val ∧ Entries E μ es l' := by
  obtain ⟨h1, h2⟩ := h
  cases l with
  | nil => simp at h1
  | cons y l =>
    obtain ⟨y', e, h3, h4, _⟩ := h2 0 x rfl
    simp at e; subst e
    exact ⟨y, l, rfl, h3, h4, by simpa using h1, fun k z hz => by simpa using h2 (k + 1) z (by simpa using hz)⟩

theorem key_cases {x y : AVal} {r : Bool} (h : akey x y = some r) : (∃ a b, x = .str a ∧ y = .str b ∧ r = decide (a = b)) ∨ (∃ k a b, x = .int k a ∧ y = .int k b ∧ r = decide (a = b)) ∨ (∃ a b, x = .bool a ∧ y = .bool b ∧ r = decide (a = b)) ∨ ∃ a b, x = .agg a ∧ y = .agg b := by
  unfold akey at h
  split at h
  · exact .inr (.inr (.inr ⟨_, _, rfl, rfl⟩))
  · unfold akey1 at h
    split at h
    · cases h; exact .inl ⟨_, _, rfl, rfl, rfl⟩
    · split at h
      · rename_i e; subst e; cases h; exact .inr (.inl ⟨_, _, _, rfl, rfl, rfl⟩)
      · cases h
    · cases h; exact .inr (.inr (.inl ⟨_, _, rfl, rfl, rfl⟩))
    · cases h

theorem sameNow_rel {d : TypeDesc} {x y : AVal} {u v : Value} {b r : Bool} (hx : VRel E μ x u) (hy : VRel E μ y v) (hs : Instr.sameNow d u v = some b) (hr : akey x y = some r) : b = r := by
  rcases key_cases hr with ⟨p, q, rfl, rfl, rfl⟩ | ⟨k, p, q, rfl, rfl, rfl⟩ | ⟨p, q, rfl, rfl, rfl⟩ | ⟨p, q, rfl, rfl⟩
  · simp only [VRel] at hx hy; subst hx; subst hy
    cases d <;> simp only [Instr.sameNow, reduceCtorEq] at hs
    injection hs with hs
    rw [← hs, Bool.eq_iff_iff, MapKept.bytes_beq]; simp
  · simp only [VRel] at hx hy; subst hx; subst hy
    cases d <;> simp only [Instr.sameNow, reduceCtorEq] at hs
    simp at hs
    rw [← hs, Bool.eq_iff_iff]; simp
  · simp only [VRel] at hx hy; subst hx; subst hy
    cases d <;> simp only [Instr.sameNow, reduceCtorEq] at hs
    injection hs with hs
    rw [← hs, Bool.eq_iff_iff]; simp
  · simp only [VRel] at hx hy
    obtain ⟨_, rfl, _⟩ := hx
    obtain ⟨_, rfl, _⟩ := hy
    cases d <;> simp [Instr.sameNow] at hs

theorem findNow_rel {d : TypeDesc} {x : AVal} {u : Value} (hx : VRel E μ x u) : ∀ {es : List (AVal × AVal × Nat)} {l : List MapEntry} {i : Nat} {res : Option (Nat × AVal)} {r : Option (Nat × Value)}, Entries E μ es l → findA x es = some res → Instr.findNow d u l i = some r → Found E μ i res r
  | [], l, i, res, r, he, hf, hn => by
    have : l = [] := List.eq_nil_of_length_eq_zero (by simpa using he.1)
    subst this
    simp only [findA] at hf; cases hf
    simp only [Instr.findNow] at hn; cases hn
    trivial
  | e :: es, l, i, res, r, he, hf, hn => by
    obtain ⟨y, l', rfl, h1, h2, h3⟩ := he.cons
    simp only [findA] at hf
    simp only [Instr.findNow] at hn
    split at hn
    · rename_i hs
      cases hn
      cases hk : akey x e.1 with
      | none => rw [hk] at hf; cases hf
      | some q =>
        have := sameNow_rel hx h1 hs hk
        subst this
        rw [hk] at hf
        simp only at hf; cases hf
        exact ⟨rfl, h2⟩
    · rename_i hs
      cases hk : akey x e.1 with
      | none => rw [hk] at hf; cases hf
      | some q =>
        have := sameNow_rel hx h1 hs hk
        subst this
        rw [hk] at hf
        simp only at hf
        rw [Option.map_eq_some_iff] at hf
        obtain ⟨res', hf', rfl⟩ := hf
        have ih := findNow_rel hx h3 hf' hn
        cases res' with
        | none => cases r <;> exact ih
        | some p =>
          cases r with
          | none => exact ih
          | some q => exact ⟨by have := ih.1; omega, ih.2⟩
    · cases hn

theorem findAsking_rel {t : TypeId} {kn : KeyT} {x : AVal} {u : Value} (hk : keyT E.P t = some kn) (hx : VRel E μ x u) (hkx : isKey kn x = true) (w : World) : ∀ {es : List (AVal × AVal × Nat)} {l : List MapEntry} {i : Nat} {res : Option (Nat × AVal)},
    Entries E μ es l → findA x es = some res → ∃ r, (Instr.findAsking t u l i).run E.P w = .ok r w ∧ Found E μ i res r
  | [], l, i, res, he, hf => by
    have : l = [] := List.eq_nil_of_length_eq_zero (by simpa using he.1)
    subst this
    simp only [findA] at hf; cases hf
    exact ⟨none, by simp [Instr.findAsking], trivial⟩
  | e :: es, l, i, res, he, hf => by
    obtain ⟨y, l', rfl, h1, h2, h3⟩ := he.cons
    simp only [findA] at hf
    cases hke : akey x e.1 with
    | none => rw [hke] at hf; cases hf
    | some q =>
      have heq := key_eq hk hx h1 hkx hke w
      rw [hke] at hf
      cases q with
      | true =>
        simp only at hf; cases hf
        exact ⟨some (i, y.val), by simp [Instr.findAsking, heq], rfl, h2⟩
      | false =>
        simp only at hf
        rw [Option.map_eq_some_iff] at hf
        obtain ⟨res', hf', rfl⟩ := hf
        obtain ⟨r, hr, ih⟩ := findAsking_rel hk hx hkx w (i := i + 1) h3 hf'
        refine ⟨r, by simp [Instr.findAsking, heq, hr], ?_⟩
        cases res' with
        | none => cases r <;> exact ih
        | some p =>
          cases r with
          | none => exact ih
          | some q => exact ⟨by have := ih.1; omega, ih.2⟩

theorem findKey_rel {t : TypeId} {kn : KeyT} {x : AVal} {u : Value} (hk : keyT E.P t = some kn) (hx : VRel E μ x u) (hkx : isKey kn x = true) (w : World) {es : List (AVal × AVal × Nat)} {l : List MapEntry} {res : Option (Nat × AVal)}
    (he : Entries E μ es l) (hf : findA x es = some res) : ∃ r, (Instr.findKey t u l).run E.P w = .ok r w ∧ Found E μ 0 res r := by
  have hu : ∃ d, E.P.underlying t = some d := by
    cases hu : E.P.underlying t with
    | none => simp [keyT, hu] at hk
    | some ty => exact ⟨ty, rfl⟩
  obtain ⟨d, hd⟩ := hu
  cases hn : Instr.findNow d u l 0 with
  | some r => exact ⟨r, MapKept.run_findKey hd hn, findNow_rel hx he hf hn⟩
  | none =>
    obtain ⟨r, hr, h2⟩ := findAsking_rel hk hx hkx w (i := 0) he hf
    exact ⟨r, by simp [Instr.findKey, run_underlying hd, Result.andThen, hn, hr], h2⟩

/-! ## The operations -/

theorem akey1_true {x y : AVal} (h : akey1 x y = some true) : x = y ∧ (∃ c : CK, c.is x = true) := by
  unfold akey1 at h
  split at h
  · simp at h; exact ⟨by rw [h], .s, rfl⟩
  · split at h
    · rename_i e; subst e; simp at h; exact ⟨by rw [h], .i, rfl⟩
    · cases h
  · simp at h; exact ⟨by rw [h], .b, rfl⟩
  · cases h

theorem akeyL_true : ∀ {as bs : List AVal}, akeyL as bs = some true → as = bs ∧ ∀ x ∈ as, ∃ c : CK, c.is x = true
  | [], [], _ => ⟨rfl, by simp⟩
  | a :: as, b :: bs, h => by
    simp only [akeyL] at h
    split at h
    · rename_i h1
      obtain ⟨rfl, h2⟩ := akey1_true h1
      obtain ⟨rfl, h3⟩ := akeyL_true h
      exact ⟨rfl, fun x hx => by
        rcases List.mem_cons.1 hx with rfl | hx
        · exact h2
        · exact h3 x hx⟩
    · cases h
    · cases h
  | [], _ :: _, h => by simp [akeyL] at h
  | _ :: _, [], h => by simp [akeyL] at h

theorem key_val {x : AVal} {u v : Value} (hc : ∃ c : CK, c.is x = true) (hu : VRel E μ x u) (hv : VRel E μ x v) : u = v ∧ ∀ n, Instr.sameBits n u u = true := by
  obtain ⟨c, hc⟩ := hc
  cases x <;> cases c <;> simp only [CK.is, Bool.false_eq_true] at hc <;> (simp only [VRel] at hu hv; subst hu; subst hv; refine ⟨rfl, fun n => ?_⟩; cases n <;> simp [Instr.sameBits, MapKept.bytes_beq])

theorem keys_val : ∀ {as : List AVal} {l r : List Value}, (∀ x ∈ as, ∃ c : CK, c.is x = true) → VRels E μ as l → VRels E μ as r → l = r ∧ ∀ u ∈ l, ∀ n, Instr.sameBits n u u = true
  | [], l, r, _, h1, h2 => by
    simp only [VRels] at h1 h2; subst h1; subst h2
    exact ⟨rfl, by simp⟩
  | a :: as, l, r, h, h1, h2 => by
    simp only [VRels] at h1 h2
    obtain ⟨u, l, rfl, h3, h4⟩ := h1
    obtain ⟨v, r, rfl, h5, h6⟩ := h2
    obtain ⟨rfl, h7⟩ := key_val (h a (List.mem_cons_self ..)) h3 h5
    obtain ⟨rfl, h8⟩ := keys_val (fun x hx => h x (List.mem_cons_of_mem _ hx)) h4 h6
    exact ⟨rfl, fun z hz => by
      rcases List.mem_cons.1 hz with rfl | hz
      · exact h7
      · exact h8 z hz⟩

theorem run_stays {x y : AVal} {u v : Value} (h : akey x y = some true) (hx : VRel E μ x u) (hy : VRel E μ y v) (w : World) : (Instr.keyThatStays v u).run E.P w = .ok u w := by
  have : Instr.sameBits 10000 v u = true := by
    unfold akey at h
    split at h
    · split at h
      · obtain ⟨rfl, h1⟩ := akeyL_true h
        simp only [VRel] at hx hy
        obtain ⟨a, rfl, h2, _⟩ := hx
        obtain ⟨b, rfl, h3, _⟩ := hy
        obtain ⟨e, h4⟩ := keys_val h1 h2 h3
        have e' : a = b := Array.toList_inj.1 e
        subst e'
        have hall : (a.toList.zip a.toList).all (fun (x, y) => Instr.sameBits 9999 x y) = true := by
          rw [List.all_eq_true]
          rintro ⟨p, q⟩ hpq
          have : p = q ∧ p ∈ a.toList := by
            obtain ⟨k, hk⟩ := List.getElem?_of_mem hpq
            rw [List.getElem?_zip_eq_some] at hk
            obtain ⟨k1, k2⟩ := hk
            simp only at k1 k2
            rw [k1] at k2
            exact ⟨Option.some.inj k2, List.mem_of_getElem? k1⟩
          obtain ⟨rfl, hp⟩ := this
          exact h4 p hp 9999
        show (a.size == a.size && _) = true
        rw [hall]; simp
      · cases h
    · obtain ⟨rfl, h1⟩ := akey1_true h
      obtain ⟨rfl, h2⟩ := key_val h1 hx hy
      exact h2 10000
  simp [Instr.keyThatStays, this]

theorem findA_get {x : AVal} : ∀ {es : List (AVal × AVal × Nat)} {j : Nat} {v : AVal}, findA x es = some (some (j, v)) → ∃ e, es[j]? = some e ∧ akey x e.1 = some true
  | [], j, v, h => by simp [findA] at h
  | e :: es, j, v, h => by
    simp only [findA] at h
    split at h
    · rename_i hk; cases h; exact ⟨e, rfl, hk⟩
    · rw [Option.map_eq_some_iff] at h
      obtain ⟨r, h1, h2⟩ := h
      cases r with
      | none => simp at h2
      | some p =>
        obtain ⟨j', v'⟩ := p
        simp at h2
        obtain ⟨rfl, rfl⟩ := h2
        obtain ⟨e', h3, h4⟩ := findA_get h1
        exact ⟨e', by simpa using h3, h4⟩
    · cases h

theorem run_zeroA {P : Program} {t : TypeId} {z : AVal} (hz : zeroA P t = some z) (μ : MM) (w : World) : ∃ v, (zeroValue t).run P w = .ok v w ∧ VRel E μ z v := by
  unfold zeroA at hz
  split at hz
  case h_2 => cases hz
  rename_i i hi
  split at hz
  case h_2 => cases hz
  rename_i v hv
  exact ⟨v, by simp [zeroValue, typeInfo, hi, hv], toA_rel hz μ⟩

theorem map_obj (hr : Rel E μ h w) {r : Nat} {es : List (AVal × AVal × Nat)} {c : Nat} (hg : h.get r = some (.map es c)) : ∃ (m : M) (es' : Array MapEntry), μ[r]? = some (some m) ∧ w.heap[m.blk]? = some (.map es' c) ∧ Entries E μ es es'.toList := by
  obtain ⟨m, es', h1, h2, h3, h4⟩ := hr.obj r _ hg
  exact ⟨m, es', h1, h2, by simpa using h3, fun k x hk => by obtain ⟨y, y1, y2⟩ := h4 k x hk; exact ⟨y, by simpa using y1, y2⟩⟩

/-- A map's number: where it lies. -/
theorem map_at {r : Nat} {u : Value} {m : M} (hx : VRel E μ (.map (some r)) u) (hm : μ[r]? = some (some m)) : u = .map (some m.blk) := by
  simp only [VRel] at hx
  obtain ⟨b, x, rfl, h1, h2⟩ := hx
  rw [hm] at h1; cases h1
  rw [h2 m rfl]

theorem lookup_rel (hr : Rel E μ h w) {t k e : TypeId} {kn : KeyT} {z : AVal} {ok : Bool} {x y v : AVal} {u i : Value} {h' : Heap} (ht : E.P.underlying t = some (.map k e)) (hk : keyT E.P k = some kn) (hz : zeroA E.P e = some z) (hx : VRel E μ x u) (hy : VRel E μ y i)
    (he : evExt (.lookup kn z ok) [x, y] h = some (v, h')) : h' = h ∧ ∃ r, (Instr.lookup t u i ok).run E.P w = .ok r w ∧ VRel E μ v r := by
  simp only [evExt] at he
  split at he
  case isFalse => cases he
  rename_i hkey
  split at he
  case h_2 => cases he
  rename_i es hes
  have hent : ∃ l : Array MapEntry, Entries E μ es l.toList ∧ ((u = .map none ∧ l = #[]) ∨ ∃ b c, u = .map (some b) ∧ w.heap[b]? = some (.map l c)) := by
    unfold entriesOf at hes
    split at hes
    · cases hes
      simp only [VRel] at hx
      exact ⟨#[], ⟨rfl, by simp⟩, .inl ⟨hx, rfl⟩⟩
    · rename_i r
      split at hes
      · rename_i es0 c hg
        cases hes
        obtain ⟨m, es', h1, h2, h3⟩ := map_obj hr hg
        exact ⟨es', h3, .inr ⟨_, _, map_at hx h1, h2⟩⟩
      · cases hes
    · cases hes
  obtain ⟨l, hl, hu⟩ := hent
  have hchk := key_check hk hy hkey l.isEmpty 9998 w
  split at he
  · rename_i j v0 hf
    cases he
    refine ⟨rfl, ?_⟩
    obtain ⟨r, hr1, hr2⟩ := findKey_rel hk hy hkey w hl hf
    cases r with
    | none => exact hr2.elim
    | some p =>
      refine ⟨if ok then .tuple #[p.2, .bool true] else p.2, ?_, ?_⟩
      · rcases hu with ⟨rfl, rfl⟩ | ⟨b, c, rfl, hb⟩
        · simp at hchk hr1
          simp [Instr.lookup, run_underlying ht, hchk, hr1]
        · simp at hchk hr1
          simp [Instr.lookup, run_underlying ht, MapKept.run_getObj_map hb, hchk, hr1]
      · cases ok with
        | true => simp only [if_true, VRel]; exact ⟨_, rfl, by simp [VRels, VRel, hr2.2]⟩
        | false => simpa using hr2.2
  · rename_i hf
    cases he
    refine ⟨rfl, ?_⟩
    obtain ⟨r, hr1, hr2⟩ := findKey_rel hk hy hkey w hl hf
    obtain ⟨zv, hz1, hz2⟩ := run_zeroA (E := E) hz μ w
    cases r with
    | some p => exact hr2.elim
    | none =>
      refine ⟨if ok then .tuple #[zv, .bool false] else zv, ?_, ?_⟩
      · rcases hu with ⟨rfl, rfl⟩ | ⟨b, c, rfl, hb⟩
        · simp at hchk hr1
          simp [Instr.lookup, run_underlying ht, hchk, hr1, hz1]
        · simp at hchk hr1
          simp [Instr.lookup, run_underlying ht, MapKept.run_getObj_map hb, hchk, hr1, hz1]
      · cases ok with
        | true => simp only [if_true, VRel]; exact ⟨_, rfl, by simp [VRels, VRel, hz2]⟩
        | false => simpa using hz2
  · cases he

/-- A map's object becomes another. -/
theorem map_put (hf : FRel E lo ν μ (sget s) a.tmps w) (hr : Rel E μ h w) {dst : Option Tmp} {rr : Result Next} (hd : ∀ x, dst = some x → x < a.tmps.size) {r : Nat} {m : M} {es : List (AVal × AVal × Nat)} {es' l : Array MapEntry} {c c0 : Nat}
    (hb : h.base ≤ r) (hm : μ[r]? = some (some m)) (hblk : w.heap[m.blk]? = some (.map l c0)) (hes : Entries E μ es es'.toList)
    (hrun : rr = .ok .skip (withBlock w m.blk (.map es' c)) ∨ rr = .ok (.value (.tuple #[])) (withBlock w m.blk (.map es' c))) :
    OpDone E lo ν.ds μ w a dst rr (.val (.tuple [])) s (h.put r (.map es c)) := by
  have hlt := hr.lt r m hm
  refine ⟨Go.undef, withBlock w m.blk (.map es' c), μ, ν, rfl, ?_, Step.put hm (Nat.min_le_right _ _) _, hr.put hb hm ?_, ?_⟩
  · rcases hrun with h1 | h1
    · exact .inr ⟨rfl, h1⟩
    · exact .inl h1
  · exact ⟨m, es', hm, withBlock_same hlt, by simpa using hes.1, fun k x hk => by obtain ⟨y, y1, y2⟩ := hes.2 k x hk; exact ⟨y, by simpa using y1, y2⟩⟩
  · rw [put_tmps]
    refine FRel.setVal ?_ hd (by simp only [VRel]; exact ⟨#[], rfl, by simp [VRels]⟩)
    exact hf.keep (Later.refl _) (fun t cs' hv => withBlock_other (hf.sepm t cs' r m hv hm)) (fun t cs' j m' _ hj hm => absurd (lt_of_get hm) (by omega)) fun q hq => ⟨withBlock_other ((hf.sepd q hq).1 r m hm), fun j m' hj hm => absurd (lt_of_get hm) (by omega)⟩

theorem mapupd_done (hf : FRel E lo ν μ (sget s) a.tmps w) (hr : Rel E μ h w) {dst : Option Tmp} {rr : Result Next} (hd : ∀ x, dst = some x → x < a.tmps.size) {t k e : TypeId} {kn : KeyT} {x y z v : AVal} {u i p : Value} {h' : Heap}
    (ht : E.P.underlying t = some (.map k e)) (hk : keyT E.P k = some kn) (hx : VRel E μ x u) (hy : VRel E μ y i) (hz : VRel E μ z p) (he : evExt (.mapupd kn) [x, y, z] h = some (v, h'))
    (hrun : rr = ((Instr.mapUpdate t u i p).run E.P w).andThen fun _ w' => .ok .skip w') : OpDone E lo ν.ds μ w a dst rr (.val v) s h' := by
  cases x <;> simp only [evExt, reduceCtorEq] at he
  rename_i q
  cases q with
  | none => cases he
  | some r =>
    simp only at he
    split at he
    case isFalse => cases he
    rename_i hh
    obtain ⟨hkey, hb⟩ := hh
    split at he
    case h_2 => cases he
    rename_i es c hg
    obtain ⟨m, l, h1, h2, h3⟩ := map_obj hr hg
    have hu := map_at hx h1
    subst hu
    have hchk := key_check hk hy hkey false 9998 w
    split at he
    · rename_i j v0 hfd
      cases he
      obtain ⟨q, hr1, hr2⟩ := findKey_rel hk hy hkey w h3 hfd
      cases q with
      | none => exact hr2.elim
      | some q =>
        obtain ⟨j', v'⟩ := q
        obtain ⟨rfl, _⟩ := hr2
        obtain ⟨e0, g1, g2⟩ := findA_get hfd
        obtain ⟨y0, g3, g4, g5, g6⟩ := h3.2 _ _ g1
        have hst := run_stays g2 hy g4 w
        have g3' : l[j]? = some y0 := by simpa using g3
        refine map_put (c := c) (es' := l.modify j fun x => { x with key := i, val := p }) hf hr hd hb h1 h2 ⟨?_, fun k' x' hk' => ?_⟩ (.inl ?_)
        · simp [h3.1]
        · rw [List.getElem?_modify] at hk'
          by_cases ej : j = k'
          · subst ej
            rw [g1] at hk'
            simp at hk'
            subst hk'
            refine ⟨{ y0 with key := i, val := p }, ?_, hy, hz, g6⟩
            simp [Array.getElem?_modify, g3']
          · have hk'' : es[k']? = some x' := by
              cases hq : es[k']? with
              | none => rw [hq] at hk'; simp at hk'
              | some z0 => rw [hq] at hk'; simp [ej] at hk'; rw [hk']
            obtain ⟨y1, q1, q2⟩ := h3.2 _ _ hk''
            refine ⟨y1, ?_, q2⟩
            have q1' : l[k']? = some y1 := by simpa using q1
            simp [Array.getElem?_modify, ej, q1']
        · rw [hrun]
          simp [Instr.mapUpdate, run_underlying ht, MapKept.run_getObj_map h2, hchk, hr1, g3', hst, MapKept.run_setObj_map _ h2]
          rfl
    · rename_i hfd
      cases he
      obtain ⟨q, hr1, hr2⟩ := findKey_rel hk hy hkey w h3 hfd
      cases q with
      | some q => exact hr2.elim
      | none =>
        refine map_put (c := c + 1) (es' := l.push { key := i, val := p, born := c }) hf hr hd hb h1 h2 ⟨?_, fun k' x' hk' => ?_⟩ (.inl ?_)
        · have := h3.1; simp at this ⊢; exact this
        · have hl := h3.1
          simp at hl
          rcases Nat.lt_or_ge k' es.length with hlt | hge
          · rw [List.getElem?_append_left hlt] at hk'
            obtain ⟨y1, q1, q2⟩ := h3.2 _ _ hk'
            refine ⟨y1, ?_, q2⟩
            have q1' : l[k']? = some y1 := by simpa using q1
            rw [Array.getElem?_toList, Array.getElem?_push, if_neg (by omega)]
            exact q1'
          · rw [List.getElem?_append_right hge] at hk'
            have h0 : k' = es.length := by
              have := lt_of_get hk'
              simp at this; omega
            subst h0
            simp at hk'
            subst hk'
            exact ⟨{ key := i, val := p, born := c }, by simp [Array.getElem?_push, hl], hy, hz, rfl⟩
        · rw [hrun]
          simp [Instr.mapUpdate, run_underlying ht, MapKept.run_getObj_map h2, hchk, hr1, MapKept.run_setObj_map _ h2]
          rfl
    · cases he

theorem delete_done (hf : FRel E lo ν μ (sget s) a.tmps w) (hr : Rel E μ h w) {dst : Option Tmp} {rr : Result Next} (hd : ∀ x, dst = some x → x < a.tmps.size) {t k e : TypeId} {ts : Array TypeId} {ty : TypeId} {kn : KeyT} {x y v : AVal} {u i : Value} {h' : Heap}
    (hts : ts[0]? = some t) (ht : E.P.underlying t = some (.map k e)) (hk : keyT E.P k = some kn) (hx : VRel E μ x u) (hy : VRel E μ y i) (he : evExt (.delete kn) [x, y] h = some (v, h'))
    (hrun : rr = ((Builtin.delete_ ts ty #[u, i]).run E.P w).andThen fun v w' => .ok (.value v) w') : OpDone E lo ν.ds μ w a dst rr (.val v) s h' := by
  cases x <;> simp only [evExt, reduceCtorEq] at he
  rename_i q
  cases q with
  | none =>
    simp only at he
    split at he
    case isFalse => cases he
    rename_i hkey
    cases he
    simp only [VRel] at hx; subst hx
    have hchk := key_check hk hy hkey true 9998 w
    refine done_val hf hr hd (v := .tuple #[]) ?_ (by simp only [VRel]; exact ⟨#[], rfl, by simp [VRels]⟩)
    rw [hrun]
    simp [Builtin.delete_, hts, run_underlying ht, hchk]
  | some r =>
    simp only at he
    split at he
    case isFalse => cases he
    rename_i hh
    obtain ⟨hkey, hb⟩ := hh
    split at he
    case h_2 => cases he
    rename_i es c hg
    obtain ⟨m, l, h1, h2, h3⟩ := map_obj hr hg
    have hu := map_at hx h1
    subst hu
    have hchk := key_check hk hy hkey l.isEmpty 9998 w
    split at he
    · rename_i j v0 hfd
      cases he
      obtain ⟨q, hr1, hr2⟩ := findKey_rel hk hy hkey w h3 hfd
      cases q with
      | none => exact hr2.elim
      | some q =>
        obtain ⟨j', v'⟩ := q
        obtain ⟨rfl, _⟩ := hr2
        obtain ⟨e0, g1, _⟩ := findA_get hfd
        have hl := h3.1
        simp at hl
        have hj : j < l.size := by rw [hl]; exact lt_of_get g1
        refine map_put (c := c) (es' := l.eraseIdxIfInBounds j) hf hr hd hb h1 h2 ⟨?_, fun k' x' hk' => ?_⟩ (.inr ?_)
        · simp [Array.eraseIdxIfInBounds, hj, List.length_eraseIdx, ← hl, lt_of_get g1]
        · rw [List.getElem?_eraseIdx] at hk'
          simp only [Array.eraseIdxIfInBounds, hj, dif_pos, Array.toList_eraseIdx, List.getElem?_eraseIdx]
          split at hk'
          · rename_i hlt; rw [if_pos hlt]; exact h3.2 _ _ hk'
          · rename_i hlt; rw [if_neg hlt]; exact h3.2 _ _ hk'
        · rw [hrun]
          simp [Builtin.delete_, hts, run_underlying ht, MapKept.run_getObj_map h2, hchk, hr1, MapKept.run_setObj_map _ h2]
          rfl
    · rename_i hfd
      cases he
      obtain ⟨q, hr1, hr2⟩ := findKey_rel hk hy hkey w h3 hfd
      cases q with
      | some q => exact hr2.elim
      | none =>
        have hsame : ({ w with heap := w.heap.setIfInBounds m.blk (.map l c) } : World) = w := by
          congr 1
          apply Array.ext_getElem?
          intro k'
          by_cases e : m.blk = k'
          · subst e
            rw [h2]
            have := hr.lt _ _ h1
            simp [this]
          · rw [Array.getElem?_setIfInBounds_ne e]
        refine done_val hf hr hd (v := .tuple #[]) ?_ (by simp only [VRel]; exact ⟨#[], rfl, by simp [VRels]⟩)
        rw [hrun]
        simp [Builtin.delete_, hts, run_underlying ht, MapKept.run_getObj_map h2, hchk, hr1, MapKept.run_setObj_map _ h2, hsame]
    · cases he

end
end Go.Abs
