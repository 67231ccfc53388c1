/-
  Operations whose order is open: what each order has in common.
-/
import Derived.Test.YtnpjncdnlacmeaaAbsAny
namespace Go.Abs

section
variable {E : Env} {nt : Nat} {s : Slots} {ops : Array Oper} {locs : List Nat} {as : List AOper} {Q : Exit → Act → World → Prop} {ro : Option Nat}

/-- Which of a part's operations are listed. -/
def Ld (listed : Array Bool) (p n x : Nat) : Bool := decide (x < n) && (listed[p + x]? == some true)

theorem any_order (has : cOpers E nt ops locs 0 ops.toList = some as) (hb : edgesBack ops = true)
    {p n : Nat} (hpn : p + n ≤ as.length) (hw1 : waits (befs ops.toList []) (p + n) = true)
    (hap : ∀ x y oi oj, x < n → y < n → as[p + x]? = some oi → as[p + y]? = some oj → apart (befs ops.toList []) (p + x) (p + y) oi oj = true)
    (S : Nat → Slots) (r : Nat → Slot) (b2 : S 0 = s) (text : ∀ x o', x < n → as[p + x]? = some o' → S (x + 1) = setSlot o'.dst (r x) (S x) ∧ (∀ cs, r x ≠ .var cs) ∧ ∀ d, o'.dst = some d → isVar (S x) d = false)
    (Inv : (Nat → Bool) → Slots → Act → World → Prop)
    (hstep : ∀ (L : Nat → Bool) (sD : Slots) (a : Act) (w : World) (x : Nat) (o : Oper) (o' : AOper), x < n → ops[p + x]? = some o → as[p + x]? = some o' → cOper E nt ops (locs.contains (p + x)) o = some o' → L x = false →
      (∀ y, y < n → ((befs ops.toList []).getD (p + x) 0).testBit (p + y) = true → L y = true) → (∀ y, y < n → L y = true → ((befs ops.toList []).getD (p + y) 0).testBit (p + x) = false) → Agree (S x) sD o'.reads → Inv L sD a w →
      ∀ (next : Act → World → Prop), (∀ a' w', Inv (fun y => y == x || L y) (setSlot o'.dst (r x) sD) a' w' → next a' w') → if Region.wanted o (yielded ops a.tmps) then o.wpIn (F0 ro) 0 E.P a w next Q else next (a.put o.dst Go.undef) w)
    (hk : ∀ listed' sD a' w', Exact ops listed' (p + n) → (∀ t, sget sD t = sget (S n) t) → Inv (fun x => decide (x < n)) sD a' w' → wpAnyIn (F0 ro) 0 E.P .any ops Q (ops.size - (p + n)) listed' a' w') :
    ∀ listed a w, Exact ops listed p → Inv (fun _ => false) s a w → wpAnyIn (F0 ro) 0 E.P .any ops Q (ops.size - p) listed a w := by
  obtain ⟨q1, q2⟩ := opers_get _ _ _ has
  simp only [Array.length_toList] at q1
  have hchain := befs_chain (ops := ops) ops.toList [] (by simp) (fun k i hk => by simp at hk)
  have hblen := befs_length ops.toList []
  simp only [List.length_nil, Nat.zero_add, Array.length_toList] at hblen
  -- the operations of the part
  have opat : ∀ x, x < n → ∃ o o', ops[p + x]? = some o ∧ as[p + x]? = some o' ∧ cOper E nt ops (locs.contains (p + x)) o = some o' := by
    intro x hx
    have hlt : p + x < ops.size := by omega
    obtain ⟨o', h2, h3⟩ := q2 (p + x) ops[p + x] (by simp [hlt])
    exact ⟨ops[p + x], o', by simp [hlt], h2, by simpa using h3⟩
  -- no two of them set one slot
  have dst_ne : ∀ x y oi oj d, x < n → y < n → x ≠ y → as[p + x]? = some oi → as[p + y]? = some oj → oj.dst = some d → oi.dst ≠ some d := by
    intro x y oi oj d hx hy hne hi hj hd e
    have := hap x y oi oj hx hy hi hj
    unfold apart at this
    rw [hd] at this
    simp only [Bool.and_eq_true, Bool.or_eq_true, beq_iff_eq, bne_iff_ne] at this
    rcases this.1 with h2 | h2
    · omega
    · exact h2 e
  -- the slots in the order of the text
  have text_hit : ∀ x y o d, x ≤ n → y < x → as[p + y]? = some o → o.dst = some d → sget (S x) d = some (r y) := by
    intro x
    induction x with
    | zero => intro y o d _ hy; omega
    | succ x ih =>
      intro y o d hx hy ho hd
      obtain ⟨_, o', _, ho', _⟩ := opat x (by omega)
      obtain ⟨t2, _, _⟩ := text x o' (by omega) ho'
      rw [t2, setSlot_get]
      by_cases e : y = x
      · subst e; rw [ho] at ho'; cases ho'; rw [if_pos hd]
      · rw [if_neg (dst_ne x y o' o d (by omega) (by omega) (fun e' => e e'.symm) ho' ho hd)]
        exact ih y o d (by omega) (by omega) ho hd
  have text_miss : ∀ x t, x ≤ n → (∀ y o, y < x → as[p + y]? = some o → o.dst ≠ some t) → sget (S x) t = sget s t := by
    intro x
    induction x with
    | zero => intro t _ _; rw [b2]
    | succ x ih =>
      intro t hx hno
      obtain ⟨_, o', _, ho', _⟩ := opat x (by omega)
      obtain ⟨t2, _, _⟩ := text x o' (by omega) ho'
      rw [t2, setSlot_get, if_neg (hno x o' (by omega) ho')]
      exact ih t (by omega) fun y o hy => hno y o (by omega)
  have dst_novar : ∀ x o d cs, x < n → as[p + x]? = some o → o.dst = some d → sget s d ≠ some (.var cs) := by
    intro x o d cs hx ho hd hv
    obtain ⟨_, _, t4⟩ := text x o hx ho
    have h2 := t4 d hd
    have h3 : sget (S x) d = sget s d := text_miss x d (by omega) fun y o2 hy ho2 => dst_ne y x o2 o d (by omega) hx (by omega) ho2 ho hd
    unfold isVar at h2
    rw [h3, hv] at h2
    simp at h2
  -- the invariant over the orders
  have main : ∀ (k : Nat) (listed : Array Bool) (sD : Slots) (a : Act) (w : World), listed.size = ops.size → Down ops listed → (∀ i, i < p → listed[i]? = some true) → (∀ i, p + n ≤ i → i < ops.size → listed[i]? = some false) →
      ((List.range n).filter fun x => listed[p + x]? == some false).length = k →
      (∀ x o d, x < n → as[p + x]? = some o → listed[p + x]? = some true → o.dst = some d → sget sD d = some (r x)) →
      (∀ t, (∀ x o, x < n → as[p + x]? = some o → listed[p + x]? = some true → o.dst ≠ some t) → sget sD t = sget s t) →
      Inv (Ld listed p n) sD a w → wpAnyIn (F0 ro) 0 E.P .any ops Q (ops.size - (p + n) + k) listed a w := by
    intro k
    induction k with
    | zero =>
      intro listed sD a w hsz hdn hlow hhigh hcount hhit hmiss hat
      have hall : ∀ x, x < n → listed[p + x]? = some true := by
        intro x hx
        have hlt : p + x < listed.size := by omega
        have hmem : x ∉ (List.range n).filter fun x => listed[p + x]? == some false := by
          rw [List.eq_nil_of_length_eq_zero hcount]; simp
        rw [List.mem_filter] at hmem
        have h2 : ¬ (listed[p + x]? = some false) := fun h2 => hmem ⟨List.mem_range.2 hx, by simp [h2]⟩
        rw [Array.getElem?_eq_getElem hlt] at h2 ⊢
        cases hv : listed[p + x] with
        | true => rfl
        | false => rw [hv] at h2; exact absurd rfl h2
      have hex : Exact ops listed (p + n) := by
        refine ⟨hsz, fun i hi => ?_⟩
        rcases Nat.lt_or_ge i p with h2 | h2
        · rw [hlow i h2]; simp; omega
        · rcases Nat.lt_or_ge i (p + n) with h3 | h3
          · have := hall (i - p) (by omega)
            rw [show p + (i - p) = i by omega] at this
            rw [this]; simp [h3]
          · rw [hhigh i h3 hi]; simp; omega
      have hLd : Ld listed p n = fun x => decide (x < n) := by
        funext x
        unfold Ld
        by_cases hx : x < n
        · rw [hall x hx]; simp [hx]
        · simp [hx]
      rw [hLd] at hat
      refine hk listed sD a w hex (fun t => ?_) hat
      by_cases hx : ∃ x o, x < n ∧ as[p + x]? = some o ∧ o.dst = some t
      · obtain ⟨x, o, h2, h3, h4⟩ := hx
        rw [text_hit n x o t (Nat.le_refl _) h2 h3 h4, hhit x o t h2 h3 (hall x h2) h4]
      · have hno : ∀ x o, x < n → as[p + x]? = some o → o.dst ≠ some t := fun x o h2 h3 h4 => hx ⟨x, o, h2, h3, h4⟩
        rw [text_miss n t (Nat.le_refl _) hno, hmiss t fun x o h2 h3 _ => hno x o h2 h3]
    | succ k ih =>
      intro listed sD a w hsz hdn hlow hhigh hcount hhit hmiss hat
      have hsome : ∃ x, x < n ∧ listed[p + x]? = some false := by
        have hne : (List.range n).filter (fun x => listed[p + x]? == some false) ≠ [] := fun e => by rw [e] at hcount; simp at hcount
        obtain ⟨x, hx⟩ := List.exists_mem_of_ne_nil _ hne
        rw [List.mem_filter, List.mem_range] at hx
        exact ⟨x, hx.1, by simpa using hx.2⟩
      obtain ⟨xu, hxu, hxf⟩ := hsome
      refine ⟨fun hr => ?_, fun i hi => ?_⟩
      · have := all_listed hb hsz hr (p + xu) (by omega)
        rw [hxf] at this; cases this
      · obtain ⟨oi, k1, k2, k3⟩ := ready_mem hsz hi
        have his : i < ops.size := lt_of_get (l := ops.toList) (by simpa using k1)
        have hip : p ≤ i := by
          rcases Nat.lt_or_ge i p with h2 | h2
          · rw [hlow i h2] at k2; cases k2
          · exact h2
        have hin : i < p + n := by
          rcases Nat.lt_or_ge i (p + n) with h2 | h2
          · exact h2
          · exfalso
            have hbit := waits_at hw1 (j := i) (i := p + xu) (by rw [hblen]; exact his) h2 (by omega)
            have hl := chain_listed hdn (hchain _ _ hbit) fun o e ho he hbb => by rw [k1] at ho; cases ho; exact k3 e he hbb
            rw [hxf] at hl; cases hl
        obtain ⟨x, rfl⟩ : ∃ x, i = p + x := ⟨i - p, by omega⟩
        have hxn : x < n := by omega
        obtain ⟨o, o', h2, h3, h4⟩ := opat x hxn
        rw [h2] at k1; cases k1
        obtain ⟨t2, t3, t4⟩ := text x o' hxn h3
        have waitsl : ∀ j, (((befs ops.toList []).getD (p + x) 0).testBit j = true) → listed[j]? = some true := fun j hbit =>
          chain_listed hdn (hchain _ _ hbit) fun o2 e ho he hbb => by rw [h2] at ho; cases ho; exact k3 e he hbb
        have hag : Agree (S x) sD o'.reads := by
          constructor
          · intro t ht
            by_cases hy : ∃ y oj, y < n ∧ as[p + y]? = some oj ∧ oj.dst = some t
            · obtain ⟨y, oj, hy1, hy2, hy3⟩ := hy
              have others : ∀ z oz, z < n → z ≠ y → as[p + z]? = some oz → oz.dst ≠ some t := fun z oz hz hne hoz => dst_ne z y oz oj t hz hy1 hne hoz hy2 hy3
              by_cases hxy : y = x
              · -- its own slot
                subst hxy
                rw [text_miss y t (by omega) fun z oz hz hoz => others z oz (by omega) (by omega) hoz]
                rw [hmiss t fun z oz hz hoz hl => by
                  by_cases e : z = y
                  · subst e; rw [k2] at hl; cases hl
                  · exact others z oz hz e hoz]
              · have := hap x y o' oj hxn hy1 h3 hy2
                unfold apart at this
                rw [hy3] at this
                simp only [Bool.and_eq_true, Bool.or_eq_true, beq_iff_eq, Bool.not_eq_true', List.contains_eq_mem, decide_eq_false_iff_not, decide_eq_true_eq] at this
                rcases this.2 with ((h5 | h5) | h5) | h5
                · omega
                · exact absurd ht h5
                · obtain ⟨h5, h6⟩ := h5
                  rw [text_hit x y oj t (by omega) (by omega) hy2 hy3, hhit y oj t hy1 hy2 (waitsl _ h6) hy3]
                · obtain ⟨h5, h6⟩ := h5
                  have hnl : listed[p + y]? ≠ some true := by
                    intro hl
                    have := chain_listed hdn (hchain _ _ h6) fun o2 e ho he hbb => hdn _ _ _ hl ho he hbb
                    rw [k2] at this; cases this
                  rw [text_miss x t (by omega) fun z oz hz hoz => others z oz (by omega) (by omega) hoz]
                  rw [hmiss t fun z oz hz hoz hl => by
                    by_cases e : z = y
                    · subst e; exact absurd hl hnl
                    · exact others z oz hz e hoz]
            · have hno : ∀ z oz, z < n → as[p + z]? = some oz → oz.dst ≠ some t := fun z oz hz hoz hd => hy ⟨z, oz, hz, hoz, hd⟩
              rw [text_miss x t (by omega) fun z oz hz hoz => hno z oz (by omega) hoz, hmiss t fun z oz hz hoz _ => hno z oz hz hoz]
          · intro t cs
            have v1 : sget (S x) t = some (.var cs) ↔ sget s t = some (.var cs) := by
              by_cases hy : ∃ y oj, y < x ∧ as[p + y]? = some oj ∧ oj.dst = some t
              · obtain ⟨y, oj, hy1, hy2, hy3⟩ := hy
                rw [text_hit x y oj t (by omega) hy1 hy2 hy3]
                constructor
                · intro e; exact absurd (Option.some.inj e) ((text y oj (by omega) hy2).2.1 cs)
                · intro e; exact absurd e (dst_novar y oj t cs (by omega) hy2 hy3)
              · rw [text_miss x t (by omega) fun z oz hz hoz hd => hy ⟨z, oz, hz, hoz, hd⟩]
            have v2 : sget sD t = some (.var cs) ↔ sget s t = some (.var cs) := by
              by_cases hy : ∃ y oj, y < n ∧ as[p + y]? = some oj ∧ listed[p + y]? = some true ∧ oj.dst = some t
              · obtain ⟨y, oj, hy1, hy2, hyl, hy3⟩ := hy
                rw [hhit y oj t hy1 hy2 hyl hy3]
                constructor
                · intro e; exact absurd (Option.some.inj e) ((text y oj hy1 hy2).2.1 cs)
                · intro e; exact absurd e (dst_novar y oj t cs hy1 hy2 hy3)
              · rw [hmiss t fun z oz hz hoz hl hd => hy ⟨z, oz, hz, hoz, hl, hd⟩]
            exact v1.trans v2.symm
        have hLx : Ld listed p n x = false := by unfold Ld; rw [k2]; simp
        refine wpOp_of h2 (hstep (Ld listed p n) sD a w x _ o' hxn h2 h3 h4 hLx (fun y hy hbit => ?_) (fun y hy hl => ?_) hag hat _ fun a' w' hat' => ?_)
        · unfold Ld; rw [waitsl _ hbit]; simp [hy]
        · have hl' : listed[p + y]? = some true := by unfold Ld at hl; simpa [hy] using hl
          cases hbit : ((befs ops.toList []).getD (p + y) 0).testBit (p + x) with
          | false => rfl
          | true =>
            exfalso
            have := chain_listed hdn (hchain _ _ hbit) fun o2 e ho he hbb => hdn _ _ _ hl' ho he hbb
            rw [k2] at this; cases this
        have hset : ∀ j, j ≠ p + x → (listed.setIfInBounds (p + x) true)[j]? = listed[j]? := fun j hj => Array.getElem?_setIfInBounds_ne (fun e => hj e.symm)
        have hself : (listed.setIfInBounds (p + x) true)[p + x]? = some true := by simp [hsz, his]
        have hLd' : (fun y => y == x || Ld listed p n y) = Ld (listed.setIfInBounds (p + x) true) p n := by
          funext y
          unfold Ld
          by_cases ey : y = x
          · subst ey; rw [hself]; simp [hxn]
          · rw [hset (p + y) (by omega)]; simp [ey]
        rw [hLd'] at hat'
        refine ih (listed.setIfInBounds (p + x) true) (setSlot o'.dst (r x) sD) a' w' (by simp [hsz]) ?_ ?_ ?_ ?_ ?_ ?_ hat'
        · intro j oj e hj hoj he hbb
          by_cases ej : j = p + x
          · subst ej
            rw [h2] at hoj; cases hoj
            have := k3 e he hbb
            by_cases ee : e.on = p + x
            · rw [ee]; exact hself
            · rw [hset _ ee]; exact this
          · rw [hset _ ej] at hj
            have := hdn j oj e hj hoj he hbb
            by_cases ee : e.on = p + x
            · rw [ee]; exact hself
            · rw [hset _ ee]; exact this
        · intro j hj; rw [hset j (by omega)]; exact hlow j hj
        · intro j hj hj'; rw [hset j (by omega)]; exact hhigh j hj hj'
        · -- one less is to come
          have hperm : ((List.range n).filter fun y => (listed.setIfInBounds (p + x) true)[p + y]? == some false) = ((List.range n).filter fun y => listed[p + y]? == some false).filter fun y => y != x := by
            rw [List.filter_filter]
            apply List.filter_congr
            intro y _
            by_cases ey : y = x
            · subst ey; rw [hself]; simp
            · rw [hset _ (by omega)]; simp [ey]
          rw [hperm]
          have hmem : x ∈ (List.range n).filter fun y => listed[p + y]? == some false := by
            rw [List.mem_filter]; exact ⟨List.mem_range.2 hxn, by simp [k2]⟩
          have hnd : ((List.range n).filter fun y => listed[p + y]? == some false).Nodup := List.nodup_range.sublist List.filter_sublist
          generalize (List.range n).filter (fun y => listed[p + y]? == some false) = L at hcount hmem hnd
          have herase : L.filter (fun y => y != x) = L.erase x := (hnd.erase_eq_filter x).symm
          rw [herase, List.length_erase_of_mem hmem, hcount]
          rfl
        · intro y oy d hy hoy hl hd
          rw [setSlot_get]
          by_cases ey : y = x
          · subst ey; rw [h3] at hoy; cases hoy
            rw [if_pos hd]
          · rw [hset _ (by omega)] at hl
            rw [if_neg (dst_ne x y o' oy d hxn hy (fun e => ey e.symm) h3 hoy hd)]
            exact hhit y oy d hy hoy hl hd
        · intro t hno
          rw [setSlot_get, if_neg (hno x o' hxn h3 hself)]
          refine hmiss t fun y oy hy hoy hl => ?_
          by_cases ey : y = x
          · subst ey; rw [k2] at hl; cases hl
          · exact hno y oy hy hoy (by rw [hset _ (by omega)]; exact hl)
  intro listed a w hex hat
  have hcount : ((List.range n).filter fun x => listed[p + x]? == some false).length = n := by
    have : (List.range n).filter (fun x => listed[p + x]? == some false) = List.range n := by
      rw [List.filter_eq_self]
      intro x hx
      rw [List.mem_range] at hx
      rw [hex.2 (p + x) (by omega)]
      simp
    rw [this, List.length_range]
  have hL0 : Ld listed p n = fun _ => false := by
    funext x
    unfold Ld
    by_cases hx : x < n
    · rw [hex.2 (p + x) (by omega)]; simp
    · simp [hx]
  rw [← hL0] at hat
  have := main n listed s a w hex.1 (hex.down hb) (fun i hi => by rw [hex.2 i (by omega)]; simp [hi]) (fun i hi hi' => by rw [hex.2 i hi']; simp; omega) hcount
    (fun x o d hx ho hl _ => by
      have h5 := hex.2 (p + x) (by omega)
      rw [hl] at h5
      have h6 := of_decide_eq_true (Option.some.inj h5).symm
      omega) (fun t _ => rfl) hat
  rwa [show ops.size - (p + n) + n = ops.size - p by omega] at this

end
end Go.Abs
