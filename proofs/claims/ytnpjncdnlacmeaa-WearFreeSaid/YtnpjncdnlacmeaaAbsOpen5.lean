/-
  Open parts: a call, when it comes up; the whole.
-/
import Derived.Test.YtnpjncdnlacmeaaAbsOpen4
namespace Go.Abs

section
variable {E : Env} {call : CallSem} {n : Nat} {aops : Nat → Option AOper} {ms : Nat → Nat} {S : Nat → Slots} {H : Nat → Heap} {r : Nat → Slot} {D : Nat → Did}
variable {lo nt : Nat} {μ0 : MM} {w0 : World} {ds : List Deferred} {ops : Array Oper} {Q : Exit → Act → World → Prop} {ro : Option Nat}
open Txt

section
variable (T : Txt call n aops ms S H r D) (hev0 : CallEvol call)
include T hev0

theorem vis_lt {x i : Nat} (hx : x < n) (h : Vis ms H x i) : i < (H x).size := by
  rcases h with h | ⟨y, hy, _, _, h4⟩
  · exact Nat.lt_of_lt_of_le h (T.mono hev0 (Nat.zero_le x) (by omega))
  · exact Nat.lt_of_lt_of_le h4 (T.mono hev0 hy (by omega))

theorem hid_iff {x i : Nat} (hx : x < n) (hi : i < (H x).size) : Hid (ms x) 0 (dsl D x) i ↔ ¬ Vis ms H x i := by
  constructor
  · rintro ⟨y, d, h1, h2, h3, h4⟩ hv
    have hy : y < x := by have := lt_of_get h1; rwa [dsl_length] at this
    rw [dsl_get hy] at h1; cases h1
    rw [T.lo hev0 (by omega)] at h3
    rw [T.hi hev0 (by omega)] at h4
    rw [Nat.zero_add] at h2
    rcases hv with hv | ⟨z, hz, hb, h5, h6⟩
    · have := T.mono hev0 (Nat.zero_le y) (by omega); omega
    · have := T.apart hev0 (by omega) (by omega) h5 h6 h3 h4
      subst this
      rw [hb] at h2; cases h2
  · intro hv
    have h0 : (H 0).size ≤ i := by
      rcases Nat.lt_or_ge i (H 0).size with h | h
      · exact absurd (.inl h) hv
      · exact h
    obtain ⟨y, hy, h1, h2⟩ := inRange h0 (x := x) (Nat.le_refl x) hi
    refine ⟨y, D y, dsl_get hy, ?_, by rw [T.lo hev0 (by omega)]; exact h1, by rw [T.hi hev0 (by omega)]; exact h2⟩
    rw [Nat.zero_add]
    cases hb : (ms x).testBit y with
    | false => rfl
    | true => exact absurd (.inr ⟨y, hy, hb, h1, h2⟩) hv

theorem all_vis {x i : Nat} (hx : x < n) (hall : allSeen (ms x) 0 (dsl D x) = true) (hi : i < (H x).size) : Vis ms H x i := by
  rcases Nat.lt_or_ge i (H 0).size with h | h
  · exact .inl h
  · obtain ⟨y, hy, h1, h2⟩ := inRange h (x := x) (Nat.le_refl x) hi
    have := allSeen_get _ 0 hall y (D y) (dsl_get hy)
    rw [Nat.zero_add, T.lo hev0 (by omega), T.hi hev0 (by omega)] at this
    rcases this with h3 | h3
    · exact .inr ⟨y, hy, h3, h1, h2⟩
    · omega

/-- A call, when it comes up. -/
theorem call_up (hc0 : CallOK E call) (hg : GidOK E) (h0 : ∀ (i : Nat) o, (H 0).objs[i]? = some o → ∀ j ∈ o.ids, j < (H 0).size) (hμ0 : μ0.length ≤ (H 0).size) (hbase0 : (H 0).base ≤ (H 0).size) {L : Nat → Bool} {sD : Slots} {a : Act} {w : World} {x : Nat} {loc : Bool} {o : Oper} {o' : AOper} (hU : Up n ms L x)
    (ho : aops x = some o') (hop : cOper E nt ops loc o = some o') (hc : o'.op.isCall = true) (hrv : ∀ cs, r x ≠ .var cs) (hag : Agree (S x) sD o'.reads) (hI : Inv E lo nt μ0 w0 ds n ms H r D L sD a w)
    (next : Act → World → Prop) (hn : ∀ a' w', Inv E lo nt μ0 w0 ds n ms H r D (fun y => y == x || L y) (setSlot o'.dst (r x) sD) a' w' → next a' w') :
    if Region.wanted o (yielded ops a.tmps) then o.wpIn (F0 ro) 0 E.P a w next Q else next (a.put o.dst Go.undef) w := by
  have hx := hU.lt
  have hb : (H x).base = (H 0).base := T.base hev0 (by omega)
  have hszx : (H x).size ≤ (H (x + 1)).size := (T.evol hev0 hx).size
  have hszn : (H (x + 1)).size ≤ (H n).size := T.mono hev0 hx (Nat.le_refl _)
  have h0x : (H 0).size ≤ (H x).size := T.mono hev0 (Nat.zero_le x) (by omega)
  have hwn : (H n).wmin ≤ (H (x + 1)).wmin := T.wmin hev0 hx (Nat.le_refl _)
  obtain ⟨⟨hrok, _⟩, _, _, _, hsp⟩ := T.spec hev0 hx ho
  have hone : OneCall call (H 0).size (ms x) (dsl D x) o' (S x) (H x) (r x) (H (x + 1)) (D x) := by
    rcases hsp with h | h
    · exact h
    · rw [h.isc] at hc; cases hc
  obtain ⟨hcall, hrd, hch⟩ := hone.did
  obtain ⟨s1, g, he, hry, hgsz, hrest⟩ := hone.run
  have hdst := cOper_dst hop
  have hml : (memL D H n L).length = (H n).size := memL_length L
  have hevg := oper_evol hev0 he
  have hgb : g.base = (H 0).base := hevg.base.trans hb
  have hms : ∀ {i}, Vis ms H x i → mem D (sz H) H L n i = ((H x).objs[i]?).getD .dead := fun hv => mem_same T hev0 hU fun y hy hne h1 h2 => T.cvis hev0 hx hy hne h1 h2 hcall hv
  have hmsome : ∀ {i}, Vis ms H x i → (memL D H n L)[i]? = (H x).objs[i]? := fun {i} hv => by
    have hi := vis_lt T hev0 hx hv
    have hi' : i < (H x).objs.length := hi
    rw [memL_get (by omega), hms hv, List.getElem?_eq_getElem hi']; rfl
  -- what is seen names what is seen
  have hclos : ∀ i, Vis ms H x i → ∀ j ∈ (mem D (sz H) H L n i).ids, Vis ms H x j := fun i hv j hj => by
    rcases mem_from (D := D) (sz := sz H) (H := H) (L := L) (i := i) n with ⟨h1, _⟩ | ⟨y, ob, h1, h2, h3, h4⟩
    · rw [h1] at hj
      cases hq : (H 0).objs[i]? with
      | none => rw [hq] at hj; simp [AObj.ids] at hj
      | some ob => rw [hq] at hj; exact .inl (h0 i ob hq j hj)
    · rw [h4] at hj
      have hne : y ≠ x := fun e => by subst e; rw [hU.not] at h2; cases h2
      have hbit : (ms x).testBit y = true := by
        cases hb : (ms x).testBit y with
        | true => rfl
        | false =>
          have := T.cvis hev0 hx h1 hne hb (hU.above y h1 h2) hcall hv
          rw [h3] at this; cases this
      rcases (hI.upds y h1 h2).1 i ob h3 j hj with h5 | ⟨z, hz, h5, h6⟩
      · exact .inl h5
      · have hbz : (ms x).testBit z = true := by
          rcases h5 with rfl | h5
          · exact hbit
          · exact T.trans x y z hx hbit h5
        exact .inr ⟨z, T.back x z hx hbz, hbz, h6⟩
  obtain ⟨μ, ν, k1, k2, k3, k4, k5, k6⟩ := hI.at'
  have hkl : (H x).size ≤ μ.length := by rw [k2.len]; simp only [hml]; omega
  -- the memory that it is given
  have hvis : ∀ i, i < (H x).size → (Vis ms H x i → (hide (ms x) 0 (dsl D x) (H x).objs)[i]? = (H x).objs[i]?) ∧ (¬ Vis ms H x i → (hide (ms x) 0 (dsl D x) (H x).objs)[i]? = some .dead) := fun i hi => by
    have hi' : i < (H x).objs.length := hi
    obtain ⟨q1, q2⟩ := hide_get (m := ms x) (i := i) (dsl D x) 0 (H x).objs
    refine ⟨fun hv => q2 fun h => (hid_iff T hev0 hx hi).1 h hv, fun hv => ?_⟩
    rw [q1 ((hid_iff T hev0 hx hi).2 hv), List.getElem?_eq_getElem hi']; rfl
  have hrm : Rel E (maskM (Vis ms H x) (H x).size μ) ⟨hide (ms x) 0 (dsl D x) (H x).objs, (H x).base, (H x).size⟩ w := by
    have := k2.mask (vis := Vis ms H x) (k := (H x).size) (os := hide (ms x) 0 (dsl D x) (H x).objs) (wm' := (H x).size) (by rw [hml]; omega) (by omega) (hide_length ..) (fun i hi hv => by rw [(hvis i hi).1 hv]; exact (hmsome hv).symm) (fun i hi hv => (hvis i hi).2 hv) (fun i ob hi hv hob j hj => by
      rw [memL_get (by omega)] at hob; cases hob
      have := hclos i hv j hj
      exact ⟨vis_lt T hev0 hx this, this⟩)
    rw [hb]; exact this
  -- the slots that it looks at
  let p : Nat → Bool := fun t => o'.reads.contains t || isVar sD t
  have hag0 : Agree (S x) (restr p sD) o'.reads := by
    refine ⟨fun t ht => ?_, fun t cs => ?_⟩
    · rw [restr_get, if_pos (by simp [p, ht])]; exact hag.at_ t ht
    · rw [hag.var t cs, restr_get]
      constructor
      · intro h; rw [if_pos (by simp [p, isVar, h])]; exact h
      · intro h; split at h
        · exact h
        · cases h
  have hfm : FRel E lo ν (maskM (Vis ms H x) (H x).size μ) (sget (restr p sD)) a.tmps w := by
    have hless : FRel E lo ν μ (sget (restr p sD)) a.tmps w := k3.less fun t y hy => by
      rw [restr_get] at hy; split at hy
      · exact hy
      · cases hy
    refine hless.mask hkl fun t y hy i hi => ?_
    rw [restr_get] at hy
    split at hy
    case isFalse => cases hy
    rename_i hp
    have hv : Vis ms H x i := by
      simp only [p, Bool.or_eq_true, List.contains_eq_mem, decide_eq_true_eq] at hp
      rcases hp with hp | hp
      · refine (T.okId_iff hev0 hx).1 (hrok t hp i ?_)
        unfold slotIds
        rw [hag.at_ t hp, hy]; exact hi
      · unfold isVar at hp
        rw [hy] at hp
        cases y with
        | var cs => exact .inl (hI.vars t cs hy i hi)
        | _ => simp at hp
    exact ⟨vis_lt T hev0 hx hv, hv⟩
  obtain ⟨x1, c1, c2, _⟩ := oper_congr (calm_of_soft (T.soft x o' hx ho)) hag0 he
  refine call_step hc0 hg hop hc c2 hfm hrm fun x2 v w' μ' d1 d2 d3 d4 => ?_
  have hgsz' : g.size = (H (x + 1)).size := hgsz.symm
  have hgobj : ∀ {i : Nat} {ob : AObj}, g.objs[i]? = some ob → ∀ j ∈ ob.ids, j < (H (x + 1)).size := fun ho' j hj => by rw [← hgsz']; exact d4.ids ho' j hj
  -- the result's slot
  have hrx : ∃ v', SlotIs E μ' (r x) v' ∧ a.put o.dst v = a.put o'.dst v' := by
    rw [← hdst.1]
    cases hd : o'.dst with
    | none => exact ⟨Go.undef, .inl ⟨by rw [hry, hd]; rfl, rfl⟩, rfl⟩
    | some d =>
      refine ⟨v, ?_, rfl⟩
      have e1 : x1 = x2 := by
        rw [hd] at d1
        simp only [setSlot] at d1
        injection d1 with d1 _
        injection d1
      have e2 : r x = x1 := by rw [hry, c1, hd]; simp [dstSlot, setSlot, sget]
      rw [e2, e1]; exact d2
  obtain ⟨v', hsl, hput⟩ := hrx
  rw [hput]
  have hrlt : ∀ j ∈ (r x).ids, j < (H (x + 1)).size := fun j hj => by
    rcases hsl with ⟨e, _⟩ | ⟨u, e, hu⟩
    · rw [e] at hj; simp [Slot.ids] at hj
    · rw [e] at hj
      have := hu.ids_lt j hj
      rw [d4.len] at this
      have h2 : g.objs.length = g.size := rfl
      omega
  -- what it left, in the three cases
  have hcase : (∀ i, i < (H (x + 1)).size → (Now (Vis ms H x) (H x).size (H (x + 1)).size i) → (H (x + 1)).objs[i]? = g.objs[i]?) ∧ (∀ i, (D x).writes i = true → i < (H x).size → Vis ms H x i) ∧
      (∀ i ob, Now (Vis ms H x) (H x).size (H (x + 1)).size i → g.objs[i]? = some ob → ∀ j ∈ ob.ids, Now (Vis ms H x) (H x).size (H (x + 1)).size j) ∧ (∀ j ∈ (r x).ids, Now (Vis ms H x) (H x).size (H (x + 1)).size j) ∧ ((H n).wmin ≤ g.wmin ∨ (H x).size ≤ g.wmin) := by
    have full : allSeen (ms x) 0 (dsl D x) = true → (H (x + 1)).objs = g.objs → ((H n).wmin ≤ g.wmin ∨ (H x).size ≤ g.wmin) → _ := fun hall hobj hw => by
      have hnow : ∀ j, j < (H (x + 1)).size → Now (Vis ms H x) (H x).size (H (x + 1)).size j := fun j hj => by
        rcases Nat.lt_or_ge j (H x).size with h | h
        · exact .inl ⟨h, all_vis T hev0 hx hall h⟩
        · exact .inr ⟨h, hj⟩
      exact And.intro (fun (i : Nat) (_ : i < (H (x + 1)).size) (_ : Now (Vis ms H x) (H x).size (H (x + 1)).size i) => congrArg (fun l => l[i]?) hobj) (And.intro (fun (i : Nat) (_ : (D x).writes i = true) (hi : i < (H x).size) => all_vis T hev0 hx hall hi)
        (And.intro (fun (i : Nat) (ob : AObj) (_ : Now (Vis ms H x) (H x).size (H (x + 1)).size i) (hob : g.objs[i]? = some ob) j hj => hnow j (hgobj hob j hj)) (And.intro (fun j hj => hnow j (hrlt j hj)) hw)))
    rcases hrest with ⟨q1, q2, q3, q4⟩ | ⟨q1, q2, q3, q4⟩ | ⟨q1, q2, q3, q4⟩
    · refine full q1 (by rw [q4]) (.inl ?_)
      rw [q4] at hwn
      have : (H n).wmin ≤ min (H x).wmin g.wmin := hwn
      omega
    · exact full q1 (by rw [q4]) (.inr q2)
    · have hgold : ∀ i, i < (H x).size → g.objs[i]? = (hide (ms x) 0 (dsl D x) (H x).objs)[i]? := fun i hi => by
        have := hevg.objs i (by simp only [Heap.size, hide_length]; exact hi) (by omega)
        exact this
      have hobj : (H (x + 1)).objs = (H x).objs ++ g.objs.drop (H x).size := by rw [q4]
      refine ⟨fun i hi hnow => ?_, fun i hw hi => ?_, fun i ob hnow hob j hj => ?_, fun j hj => ?_, .inr q1⟩
      · rw [hobj]
        rcases Nat.lt_or_ge i (H x).size with h | h
        · have h' : i < (H x).objs.length := h
          rw [List.getElem?_append_left h', hgold i h]
          refine ((hvis i h).1 ?_).symm
          rcases hnow with h2 | h2
          · exact h2.2
          · omega
        · have h' : (H x).objs.length ≤ i := h
          rw [List.getElem?_append_right h', List.getElem?_drop]
          congr 1
          show (H x).size + (i - (H x).size) = i
          omega
      · simp [Did.writes, hch, q2] at hw
      · have hjl := hgobj hob j hj
        rcases Nat.lt_or_ge i (H x).size with h | h
        · have hv : Vis ms H x i := by
            rcases hnow with h2 | h2
            · exact h2.2
            · omega
          rw [hgold i h, (hvis i h).1 hv, ← hmsome hv, memL_get (by omega)] at hob
          cases hob
          have := hclos i hv j hj
          exact .inl ⟨vis_lt T hev0 hx this, this⟩
        · have hmem : ob ∈ g.objs.drop (H x).size := by
            refine List.mem_of_getElem? (i := i - (H x).size) ?_
            rw [List.getElem?_drop, show (H x).size + (i - (H x).size) = i by omega]; exact hob
          rcases q3 j (List.mem_append_right _ (List.mem_flatMap.2 ⟨ob, hmem, hj⟩)) with h2 | h2
          · have := (T.okId_iff hev0 hx).1 h2
            exact .inl ⟨vis_lt T hev0 hx this, this⟩
          · exact .inr ⟨h2, hjl⟩
      · rcases q3 j (List.mem_append_left _ hj) with h2 | h2
        · have := (T.okId_iff hev0 hx).1 h2
          exact .inl ⟨vis_lt T hev0 hx this, this⟩
        · exact .inr ⟨h2, hrlt j hj⟩
  obtain ⟨hc1, hc2, hc3, hc4, hc5⟩ := hcase
  have htouch : ∀ i, touched D (sz H) x i → Now (Vis ms H x) (H x).size (H (x + 1)).size i := fun i ⟨t1, t2⟩ => by
    have t1' : i < (H (x + 1)).size := t1
    rcases Nat.lt_or_ge i (H x).size with h | h
    · rcases t2 with t2 | t2
      · have t2' : (H x).size ≤ i := t2
        omega
      · exact .inl ⟨h, hc2 i t2 h⟩
    · exact .inr ⟨h, t1'⟩
  have hnowlt : ∀ i, Now (Vis ms H x) (H x).size (H (x + 1)).size i → i < (H (x + 1)).size := fun i h => by rcases h with h | h <;> omega
  have hmem : ∀ i, Now (Vis ms H x) (H x).size (H (x + 1)).size i → (memL D H n fun y => y == x || L y)[i]? = (H (x + 1)).objs[i]? := fun i hnow => by
    have hi := hnowlt i hnow
    have hi' : i < (H (x + 1)).objs.length := hi
    rw [memL_get (by omega)]
    by_cases ht : touched D (sz H) x i
    · have hu : upd D (sz H) H x i = some ((H (x + 1)).objs[i]) := by unfold upd; rw [if_pos ht, List.getElem?_eq_getElem hi']
      rw [mem_hit T hev0 hU hu, List.getElem?_eq_getElem hi']
    · have hu : upd D (sz H) H x i = none := by unfold upd; rw [if_neg ht]
      rw [mem_insert_miss hu]
      have hlt : i < (H x).size := by
        rcases Nat.lt_or_ge i (H x).size with h | h
        · exact h
        · exact absurd ⟨hi, .inl h⟩ ht
      have hv : Vis ms H x i := by
        rcases hnow with h | h
        · exact h.2
        · omega
      have hw : (D x).writes i = false := by
        cases hq : (D x).writes i with
        | false => rfl
        | true => exact absurd ⟨hi, .inr hq⟩ ht
      rw [hms hv, T.unwritten hev0 hx hlt hw]
      have hlt' : i < (H x).objs.length := hlt
      rw [List.getElem?_eq_getElem hlt']; rfl
  have hatj := At.join (E := E) (lo := lo) (nt := nt) (ds := ds) (objs := memL D H n L) (objs' := memL D H n fun y => y == x || L y) (base := (H 0).base) (wF := (H n).wmin) (lo1 := (H x).size) (hi1 := (H (x + 1)).size) (vis := Vis ms H x) (d := o'.dst) (x := r x) (v := v')
    k1 k2 k3 k4 k5 k6 hszx (by rw [hml]; exact hszn) (by omega) d3 d4 hgsz' hgb (fun i hi hv => by
      rcases Nat.lt_or_ge i (H 0).size with h | h
      · exact absurd (.inl h) hv
      · omega) ⟨by omega, fun i hi => .inl (by omega)⟩ hc5 (fun i h1 h2 => by rw [memL_get (by omega), mem_new T hev0 hU h1 h2]) (by rw [memL_length, memL_length]) (fun i hnow => by rw [hmem i hnow, hc1 i (hnowlt i hnow) hnow])
    (fun i hi hnow => by
      rw [hml] at hi
      rw [memL_get hi, memL_get hi, mem_insert_miss]
      unfold upd
      rw [if_neg fun ht => hnow (htouch i ht)]) hc3 (fun i ob hob j hj => okL_new T hev0 hU (by
      have hi : i < (H n).size := by rw [← hml]; exact lt_of_get hob
      rw [memL_get hi] at hob; cases hob
      exact hI.objs h0 i j hj)) (fun t y hy j hj => okL_new T hev0 hU (hI.slots t y hy j hj)) hsl hc4 (fun t ht => hdst.2 t (by rw [← hdst.1]; exact ht))
  have okN : ∀ j, Now (Vis ms H x) (H x).size (H (x + 1)).size j → okA ms H n x j := fun j h => by
    rcases h with h | h
    · rcases h.2 with h2 | ⟨z, hz, hb', h2⟩
      · exact .inl h2
      · exact .inr ⟨z, by omega, .inr hb', h2⟩
    · exact .inr ⟨x, hx, .inl rfl, h⟩
  refine hn _ _ (Inv.next T hU ho hI hatj (fun j hj => okN j (hc4 j hj)) (fun i ob hu j hj => ?_) hrv)
  unfold upd at hu
  split at hu
  · rename_i ht
    have hnow := htouch i ht
    rw [hc1 i (hnowlt i hnow) hnow] at hu
    exact okN j (hc3 i ob hnow hu j hj)
  · cases hu

end
end
end Go.Abs
