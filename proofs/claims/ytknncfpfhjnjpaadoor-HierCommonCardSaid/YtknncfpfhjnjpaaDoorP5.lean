/-
  Open parts: a call, when it comes up; the whole.
-/
import Derived.Test.YtknncfpfhjnjpaaDoorP4
import Derived.Maps.RangeRun
import Derived.Test.YtknncfpfhjnjpaaDoorP2
import Derived.RangeFuncLeaves
import Derived.ChangeArms
import Derived.Handed
import Derived.Below
import Derived.KernelRfl
namespace Go.Abs
section
variable {E : Env} {call : CallSem} {n : Nat} {aops : Nat → Option AOper} {ms : Nat → Nat} {S : Nat → Slots} {H : Nat → Heap} {r : Nat → Slot} {D : Nat → Did}
variable {lo nt : Nat} {μ0 : MM} {w0 : World} {ds : List Deferred} {ops : Array Oper} {Q : Exit → Act → World → Prop} {ro : Option Nat}
open Txt
section
variable (T : Txt call n aops ms S H r D) (hev0 : CallEvol call)
include T hev0
theorem vis_lt {x i : Nat} (hx : x < n) (h : Vis ms H x i) : i < (H x).size := by
  rcases h with h | ⟨y, hy, _, _, h4⟩
  · exact Nat.lt_of_lt_of_le h (T.mono hev0 (Nat.zero_le x) (by omega))
  · exact Nat.lt_of_lt_of_le h4 (T.mono hev0 hy (by omega))
theorem hid_iff {x i : Nat} (hx : x < n) (hi : i < (H x).size) : Hid (ms x) 0 (dsl D x) i ↔ ¬ Vis ms H x i := by
  constructor
  · rintro ⟨y, d, h1, h2, h3, h4⟩ hv
    have hy : y < x := by have := lt_of_get h1; rwa [dsl_length] at this
    rw [dsl_get hy] at h1; cases h1
    rw [T.lo hev0 (by omega)] at h3
    rw [T.hi hev0 (by omega)] at h4
    rw [Nat.zero_add] at h2
    rcases hv with hv | ⟨z, hz, hb, h5, h6⟩
    · have := T.mono hev0 (Nat.zero_le y) (by omega); omega
    · have := T.apart hev0 (by omega) (by omega) h5 h6 h3 h4
      subst this
      rw [hb] at h2; cases h2
  · intro hv
    have h0 : (H 0).size ≤ i := by
      rcases Nat.lt_or_ge i (H 0).size with h | h
      · exact absurd (.inl h) hv
      · exact h
    obtain ⟨y, hy, h1, h2⟩ := inRange h0 (x := x) (Nat.le_refl x) hi
    refine ⟨y, D y, dsl_get hy, ?_, by rw [T.lo hev0 (by omega)]; exact h1, by rw [T.hi hev0 (by omega)]; exact h2⟩
    rw [Nat.zero_add]
    cases hb : (ms x).testBit y with
    | false => rfl
    | true => exact absurd (.inr ⟨y, hy, hb, h1, h2⟩) hv
theorem all_vis {x i : Nat} (hx : x < n) (hall : allSeen (ms x) 0 (dsl D x) = true) (hi : i < (H x).size) : Vis ms H x i := by
  rcases Nat.lt_or_ge i (H 0).size with h | h
  · exact .inl h
  · obtain ⟨y, hy, h1, h2⟩ := inRange h (x := x) (Nat.le_refl x) hi
    have := allSeen_get _ 0 hall y (D y) (dsl_get hy)
    rw [Nat.zero_add, T.lo hev0 (by omega), T.hi hev0 (by omega)] at this
    rcases this with h3 | h3
    · exact .inr ⟨y, hy, h3, h1, h2⟩
    · omega
theorem call_up (hc0 : CallOK E call) (hg : GidOK E) (h0 : ∀ (i : Nat) o, (H 0).objs[i]? = some o → ∀ j ∈ o.ids, j < (H 0).size) (hμ0 : μ0.length ≤ (H 0).size) (hbase0 : (H 0).base ≤ (H 0).size) {L : Nat → Bool} {sD : Slots} {a : Act} {w : World} {x : Nat} {loc : Bool} {o : Oper} {o' : AOper} (hU : Up n ms L x)
    (ho : aops x = some o') (hop : cOper E nt ops loc o = some o') (hc : o'.op.isCall = true) (hrv : ∀ cs, r x ≠ .var cs) (hag : Agree (S x) sD o'.reads) (hI : Inv E lo nt μ0 w0 ds n ms H r D L sD a w)
    (next : Act → World → Prop) (hn : ∀ a' w', Inv E lo nt μ0 w0 ds n ms H r D (fun y => y == x || L y) (setSlot o'.dst (r x) sD) a' w' → next a' w') :
    if Region.wanted o (yielded ops a.tmps) then o.wpIn (F0 ro) 0 E.P a w next Q else next (a.put o.dst Go.undef) w := by
  have hx := hU.lt
  have hb : (H x).base = (H 0).base := T.base hev0 (by omega)
  have hszx : (H x).size ≤ (H (x + 1)).size := (T.evol hev0 hx).size
  have hszn : (H (x + 1)).size ≤ (H n).size := T.mono hev0 hx (Nat.le_refl _)
  have h0x : (H 0).size ≤ (H x).size := T.mono hev0 (Nat.zero_le x) (by omega)
  have hwn : (H n).wmin ≤ (H (x + 1)).wmin := T.wmin hev0 hx (Nat.le_refl _)
  obtain ⟨⟨hrok, _⟩, _, _, _, hsp⟩ := T.spec hev0 hx ho
  have hone : OneCall call (H 0).size (ms x) (dsl D x) o' (S x) (H x) (r x) (H (x + 1)) (D x) := by
    rcases hsp with h | h
    · exact h
    · rw [h.isc] at hc; cases hc
  obtain ⟨hcall, hrd, hch⟩ := hone.did
  obtain ⟨s1, g, he, hry, hgsz, hrest⟩ := hone.run
  have hdst := cOper_dst hop
  have hml : (memL D H n L).length = (H n).size := memL_length L
  have hevg := oper_evol hev0 he
  have hgb : g.base = (H 0).base := hevg.base.trans hb
  have hms : ∀ {i}, Vis ms H x i → mem D (sz H) H L n i = ((H x).objs[i]?).getD .dead := fun hv => mem_same T hev0 hU fun y hy hne h1 h2 _ => T.cvis hev0 hx hy hne h1 h2 hcall hv
  have hmsome : ∀ {i}, Vis ms H x i → (memL D H n L)[i]? = (H x).objs[i]? := fun {i} hv => by
    have hi := vis_lt T hev0 hx hv
    have hi' : i < (H x).objs.length := hi
    rw [memL_get (by omega), hms hv, List.getElem?_eq_getElem hi']; rfl
  have hclos : ∀ i, Vis ms H x i → ∀ j ∈ (mem D (sz H) H L n i).ids, Vis ms H x j := fun i hv j hj => by
    rcases mem_from (D := D) (sz := sz H) (H := H) (L := L) (i := i) n with ⟨h1, _⟩ | ⟨y, ob, h1, h2, h3, h4⟩
    · rw [h1] at hj
      cases hq : (H 0).objs[i]? with
      | none => rw [hq] at hj; simp [AObj.ids] at hj
      | some ob => rw [hq] at hj; exact .inl (h0 i ob hq j hj)
    · rw [h4] at hj
      have hne : y ≠ x := fun e => by subst e; rw [hU.not] at h2; cases h2
      have hbit : (ms x).testBit y = true := by
        cases hb : (ms x).testBit y with
        | true => rfl
        | false =>
          have := T.cvis hev0 hx h1 hne hb (hU.above y h1 h2) hcall hv
          rw [h3] at this; cases this
      rcases (hI.upds y h1 h2).1 i ob h3 j hj with h5 | ⟨z, hz, h5, h6⟩
      · exact .inl h5
      · have hbz : (ms x).testBit z = true := by
          rcases h5 with rfl | h5
          · exact hbit
          · exact T.trans x y z hx hbit h5
        exact .inr ⟨z, T.back x z hx hbz, hbz, h6⟩
  obtain ⟨μ, ν, k1, k2, k3, k4, k5, k6⟩ := hI.at'
  have hkl : (H x).size ≤ μ.length := by rw [k2.len]; simp only [hml]; omega
  have hvis : ∀ i, i < (H x).size → (Vis ms H x i → (hide (ms x) 0 (dsl D x) (H x).objs)[i]? = (H x).objs[i]?) ∧ (¬ Vis ms H x i → (hide (ms x) 0 (dsl D x) (H x).objs)[i]? = some .dead) := fun i hi => by
    have hi' : i < (H x).objs.length := hi
    obtain ⟨q1, q2⟩ := hide_get (m := ms x) (i := i) (dsl D x) 0 (H x).objs
    refine ⟨fun hv => q2 fun h => (hid_iff T hev0 hx hi).1 h hv, fun hv => ?_⟩
    rw [q1 ((hid_iff T hev0 hx hi).2 hv), List.getElem?_eq_getElem hi']; rfl
  have hrm : Rel E (maskM (Vis ms H x) (H x).size μ) ⟨hide (ms x) 0 (dsl D x) (H x).objs, (H x).base, (H x).size⟩ w := by
    have := k2.mask (vis := Vis ms H x) (k := (H x).size) (os := hide (ms x) 0 (dsl D x) (H x).objs) (wm' := (H x).size) (by rw [hml]; omega) (by omega) (hide_length ..) (fun i hi hv => by rw [(hvis i hi).1 hv]; exact (hmsome hv).symm) (fun i hi hv => (hvis i hi).2 hv) (fun i ob hi hv hob j hj => by
      rw [memL_get (by omega)] at hob; cases hob
      have := hclos i hv j hj
      exact ⟨vis_lt T hev0 hx this, this⟩)
    rw [hb]; exact this
  let p : Nat → Bool := fun t => o'.reads.contains t || isVar sD t
  have hag0 : Agree (S x) (restr p sD) o'.reads := by
    refine Agree.of (fun t ht => ?_) (fun t cs => ?_)
    · rw [restr_get, if_pos (by simp [p, ht])]; exact hag.at_ t ht
    · rw [hag.var t cs id, restr_get]
      constructor
      · intro h; rw [if_pos (by simp [p, isVar, h])]; exact h
      · intro h; split at h
        · exact h
        · cases h
  have hfm : FRel E lo ν (maskM (Vis ms H x) (H x).size μ) (sget (restr p sD)) a.tmps w := by
    have hless : FRel E lo ν μ (sget (restr p sD)) a.tmps w := k3.less fun t y hy => by
      rw [restr_get] at hy; split at hy
      · exact hy
      · cases hy
    refine hless.mask hkl fun t y hy i hi => ?_
    rw [restr_get] at hy
    split at hy
    case isFalse => cases hy
    rename_i hp
    have hv : Vis ms H x i := by
      simp only [p, Bool.or_eq_true, List.contains_eq_mem, decide_eq_true_eq] at hp
      rcases hp with hp | hp
      · refine (T.okId_iff hev0 hx).1 (hrok t hp i ?_)
        unfold slotIds
        rw [hag.at_ t hp, hy]; exact hi
      · unfold isVar at hp
        rw [hy] at hp
        cases y with
        | var cs => exact .inl (hI.vars t cs hy i hi)
        | _ => simp at hp
    exact ⟨vis_lt T hev0 hx hv, hv⟩
  obtain ⟨x1, c1, c2, _⟩ := oper_congr (calm_of_soft (T.soft x o' hx ho)) hag0 he
  refine call_step hc0 hg hop hc c2 hfm hrm fun x2 v w' μ' d1 d2 d3 d4 => ?_
  have hgsz' : g.size = (H (x + 1)).size := hgsz.symm
  have hgobj : ∀ {i : Nat} {ob : AObj}, g.objs[i]? = some ob → ∀ j ∈ ob.ids, j < (H (x + 1)).size := fun ho' j hj => by rw [← hgsz']; exact d4.ids ho' j hj
  have hrx : ∃ v', SlotIs E μ' (r x) v' ∧ a.put o.dst v = a.put o'.dst v' := by
    rw [← hdst.1]
    cases hd : o'.dst with
    | none => exact ⟨Go.undef, .inl ⟨by rw [hry, hd]; rfl, rfl⟩, rfl⟩
    | some d =>
      refine ⟨v, ?_, rfl⟩
      have e1 : x1 = x2 := by
        rw [hd] at d1
        simp only [setSlot] at d1
        injection d1 with d1 _
        injection d1
      have e2 : r x = x1 := by rw [hry, c1, hd]; simp [dstSlot, setSlot, sget]
      rw [e2, e1]; exact d2
  obtain ⟨v', hsl, hput⟩ := hrx
  rw [hput]
  have hrlt : ∀ j ∈ (r x).ids, j < (H (x + 1)).size := fun j hj => by
    rcases hsl with ⟨e, _⟩ | ⟨u, e, hu⟩
    · rw [e] at hj; simp [Slot.ids] at hj
    · rw [e] at hj
      have := hu.ids_lt j hj
      rw [d4.len] at this
      have h2 : g.objs.length = g.size := rfl
      omega
  have hcase : (∀ i, i < (H (x + 1)).size → (Now (Vis ms H x) (H x).size (H (x + 1)).size i) → (H (x + 1)).objs[i]? = g.objs[i]?) ∧ (∀ i, (D x).writes i = true → i < (H x).size → Vis ms H x i) ∧
      (∀ i ob, Now (Vis ms H x) (H x).size (H (x + 1)).size i → g.objs[i]? = some ob → ∀ j ∈ ob.ids, Now (Vis ms H x) (H x).size (H (x + 1)).size j) ∧ (∀ j ∈ (r x).ids, Now (Vis ms H x) (H x).size (H (x + 1)).size j) ∧ ((H n).wmin ≤ g.wmin ∨ (H x).size ≤ g.wmin) := by
    have full : allSeen (ms x) 0 (dsl D x) = true → (H (x + 1)).objs = g.objs → ((H n).wmin ≤ g.wmin ∨ (H x).size ≤ g.wmin) → _ := fun hall hobj hw => by
      have hnow : ∀ j, j < (H (x + 1)).size → Now (Vis ms H x) (H x).size (H (x + 1)).size j := fun j hj => by
        rcases Nat.lt_or_ge j (H x).size with h | h
        · exact .inl ⟨h, all_vis T hev0 hx hall h⟩
        · exact .inr ⟨h, hj⟩
      exact And.intro (fun (i : Nat) (_ : i < (H (x + 1)).size) (_ : Now (Vis ms H x) (H x).size (H (x + 1)).size i) => congrArg (fun l => l[i]?) hobj) (And.intro (fun (i : Nat) (_ : (D x).writes i = true) (hi : i < (H x).size) => all_vis T hev0 hx hall hi)
        (And.intro (fun (i : Nat) (ob : AObj) (_ : Now (Vis ms H x) (H x).size (H (x + 1)).size i) (hob : g.objs[i]? = some ob) j hj => hnow j (hgobj hob j hj)) (And.intro (fun j hj => hnow j (hrlt j hj)) hw)))
    rcases hrest with ⟨q1, q2, q3, q4⟩ | ⟨q1, q2, q3, q4⟩ | ⟨q1, q2, q3, q4⟩
    · refine full q1 (by rw [q4]) (.inl ?_)
      rw [q4] at hwn
      have : (H n).wmin ≤ min (H x).wmin g.wmin := hwn
      omega
    · exact full q1 (by rw [q4]) (.inr q2)
    · have hgold : ∀ i, i < (H x).size → g.objs[i]? = (hide (ms x) 0 (dsl D x) (H x).objs)[i]? := fun i hi => by
        have := hevg.objs i (by simp only [Heap.size, hide_length]; exact hi) (by omega)
        exact this
      have hobj : (H (x + 1)).objs = (H x).objs ++ g.objs.drop (H x).size := by rw [q4]
      refine ⟨fun i hi hnow => ?_, fun i hw hi => ?_, fun i ob hnow hob j hj => ?_, fun j hj => ?_, .inr q1⟩
      · rw [hobj]
        rcases Nat.lt_or_ge i (H x).size with h | h
        · have h' : i < (H x).objs.length := h
          rw [List.getElem?_append_left h', hgold i h]
          refine ((hvis i h).1 ?_).symm
          rcases hnow with h2 | h2
          · exact h2.2
          · omega
        · have h' : (H x).objs.length ≤ i := h
          rw [List.getElem?_append_right h', List.getElem?_drop]
          congr 1
          show (H x).size + (i - (H x).size) = i
          omega
      · simp [Did.writes, hch, q2] at hw
      · have hjl := hgobj hob j hj
        rcases Nat.lt_or_ge i (H x).size with h | h
        · have hv : Vis ms H x i := by
            rcases hnow with h2 | h2
            · exact h2.2
            · omega
          rw [hgold i h, (hvis i h).1 hv, ← hmsome hv, memL_get (by omega)] at hob
          cases hob
          have := hclos i hv j hj
          exact .inl ⟨vis_lt T hev0 hx this, this⟩
        · have hmem : ob ∈ g.objs.drop (H x).size := by
            refine List.mem_of_getElem? (i := i - (H x).size) ?_
            rw [List.getElem?_drop, show (H x).size + (i - (H x).size) = i by omega]; exact hob
          rcases q3 j (List.mem_append_right _ (List.mem_flatMap.2 ⟨ob, hmem, hj⟩)) with h2 | h2
          · have := (T.okId_iff hev0 hx).1 h2
            exact .inl ⟨vis_lt T hev0 hx this, this⟩
          · exact .inr ⟨h2, hjl⟩
      · rcases q3 j (List.mem_append_left _ hj) with h2 | h2
        · have := (T.okId_iff hev0 hx).1 h2
          exact .inl ⟨vis_lt T hev0 hx this, this⟩
        · exact .inr ⟨h2, hrlt j hj⟩
  obtain ⟨hc1, hc2, hc3, hc4, hc5⟩ := hcase
  have htouch : ∀ i, touched D (sz H) x i → Now (Vis ms H x) (H x).size (H (x + 1)).size i := fun i ⟨t1, t2⟩ => by
    have t1' : i < (H (x + 1)).size := t1
    rcases Nat.lt_or_ge i (H x).size with h | h
    · rcases t2 with t2 | t2
      · have t2' : (H x).size ≤ i := t2
        omega
      · exact .inl ⟨h, hc2 i t2 h⟩
    · exact .inr ⟨h, t1'⟩
  have hnowlt : ∀ i, Now (Vis ms H x) (H x).size (H (x + 1)).size i → i < (H (x + 1)).size := fun i h => by rcases h with h | h <;> omega
  have hmem : ∀ i, Now (Vis ms H x) (H x).size (H (x + 1)).size i → (memL D H n fun y => y == x || L y)[i]? = (H (x + 1)).objs[i]? := fun i hnow => by
    have hi := hnowlt i hnow
    have hi' : i < (H (x + 1)).objs.length := hi
    rw [memL_get (by omega)]
    by_cases ht : touched D (sz H) x i
    · have hu : upd D (sz H) H x i = some ((H (x + 1)).objs[i]) := by unfold upd; rw [if_pos ht, List.getElem?_eq_getElem hi']
      rw [mem_hit T hev0 hU hu, List.getElem?_eq_getElem hi']
    · have hu : upd D (sz H) H x i = none := by unfold upd; rw [if_neg ht]
      rw [mem_insert_miss hu]
      have hlt : i < (H x).size := by
        rcases Nat.lt_or_ge i (H x).size with h | h
        · exact h
        · exact absurd ⟨hi, .inl h⟩ ht
      have hv : Vis ms H x i := by
        rcases hnow with h | h
        · exact h.2
        · omega
      have hw : (D x).writes i = false := by
        cases hq : (D x).writes i with
        | false => rfl
        | true => exact absurd ⟨hi, .inr hq⟩ ht
      rw [hms hv, T.unwritten hev0 hx hlt hw]
      have hlt' : i < (H x).objs.length := hlt
      rw [List.getElem?_eq_getElem hlt']; rfl
  have hatj := At.join (E := E) (lo := lo) (nt := nt) (ds := ds) (objs := memL D H n L) (objs' := memL D H n fun y => y == x || L y) (base := (H 0).base) (wF := (H n).wmin) (lo1 := (H x).size) (hi1 := (H (x + 1)).size) (vis := Vis ms H x) (d := o'.dst) (x := r x) (v := v')
    k1 k2 k3 k4 k5 k6 hszx (by rw [hml]; exact hszn) (by omega) d3 d4 hgsz' hgb (fun i hi hv => by
      rcases Nat.lt_or_ge i (H 0).size with h | h
      · exact absurd (.inl h) hv
      · omega) ⟨by omega, fun i hi => .inl (by omega)⟩ hc5 (fun i h1 h2 => by rw [memL_get (by omega), mem_new T hev0 hU h1 h2]) (by rw [memL_length, memL_length]) (fun i hnow => by rw [hmem i hnow, hc1 i (hnowlt i hnow) hnow])
    (fun i hi hnow => by
      rw [hml] at hi
      rw [memL_get hi, memL_get hi, mem_insert_miss]
      unfold upd
      rw [if_neg fun ht => hnow (htouch i ht)]) hc3 (fun i ob hob j hj => okL_new T hev0 hU (by
      have hi : i < (H n).size := by rw [← hml]; exact lt_of_get hob
      rw [memL_get hi] at hob; cases hob
      exact hI.objs h0 i j hj)) (fun t y hy j hj => okL_new T hev0 hU (hI.slots t y hy j hj)) hsl hc4 (fun t ht => hdst.2 t (by rw [← hdst.1]; exact ht))
  have okN : ∀ j, Now (Vis ms H x) (H x).size (H (x + 1)).size j → okA ms H n x j := fun j h => by
    rcases h with h | h
    · rcases h.2 with h2 | ⟨z, hz, hb', h2⟩
      · exact .inl h2
      · exact .inr ⟨z, by omega, .inr hb', h2⟩
    · exact .inr ⟨x, hx, .inl rfl, h⟩
  refine hn _ _ (Inv.next T hU ho hI hatj (fun j hj => okN j (hc4 j hj)) (fun i ob hu j hj => ?_) hrv)
  unfold upd at hu
  split at hu
  · rename_i ht
    have hnow := htouch i ht
    rw [hc1 i (hnowlt i hnow) hnow] at hu
    exact okN j (hc3 i ob hnow hu j hj)
  · cases hu
end
end
end Go.Abs

/-
  An open part, in whatever order.
-/
namespace Go.Abs
section
variable {E : Env} {lo nt : Nat} {μ0 : MM} {w0 : World} {ds : List Deferred} {s : Slots} {h : Heap} {call : CallSem} {ops : Array Oper} {locs : List Nat} {as : List AOper} {Q : Exit → Act → World → Prop} {ro : Option Nat}
open Txt
theorem At.lower {a : Act} {w : World} {os : List AObj} {base wm wm' : Nat} (hat : At E lo nt μ0 w0 ds s ⟨os, base, wm⟩ a w) (hw : wm' ≤ wm) : At E lo nt μ0 w0 ds s ⟨os, base, wm'⟩ a w := by
  obtain ⟨μ, ν, k1, k2, k3⟩ := hat
  exact ⟨μ, ν, k1.weaken hw fun _ h _ => h, k2.same rfl rfl rfl, k3⟩
theorem open_any (hc : CallOK E call) (hev0 : CallEvol call) (hg : GidOK E) (has : cOpers E nt ops locs 0 ops.toList = some as) (hb : edgesBack ops = true)
    {p n : Nat} {h1 : Heap} {s1 : Slots} (hpn : p + n ≤ as.length) (hw1 : waits (befs ops.toList []) (p + n) = true)
    (hap : ∀ x y oi oj, x < n → y < n → as[p + x]? = some oi → as[p + y]? = some oj → apart (befs ops.toList []) (p + x) (p + y) oi oj = true)
    (hsoft : ∀ x o, x < n → as[p + x]? = some o → soft o.op = true) {ms : List Nat} (hms : ∀ x, x < n → ms.getD x 0 = (befs ops.toList []).getD (p + x) 0 >>> p)
    (hev : evOpen call ms ((as.drop p).take n) s h = some (s1, h1))
    (hk : ∀ listed' a' w', Exact ops listed' (p + n) → At E lo nt μ0 w0 ds s1 h1 a' w' → wpAnyIn (F0 ro) 0 E.P .any ops Q (ops.size - (p + n)) listed' a' w') :
    ∀ listed a w, Exact ops listed p → At E lo nt μ0 w0 ds s h a w → wpAnyIn (F0 ro) 0 E.P .any ops Q (ops.size - p) listed a w := by
  intro listed a w hex hat
  obtain ⟨q1, q2⟩ := opers_get _ _ _ has
  simp only [Array.length_toList] at q1
  have hchain := befs_chain (ops := ops) ops.toList [] (by simp) (fun k i hk => by simp at hk)
  have hbit := chain_bit hb ops.toList [] (by simp) (fun k i hk => by simp at hk)
  have hseg : ∀ x, x < n → ((as.drop p).take n)[x]? = as[p + x]? := fun x hx => by rw [List.getElem?_take_of_lt hx, List.getElem?_drop]
  have hslen : ((as.drop p).take n).length = n := by simp; omega
  obtain ⟨S, H, r, D, b1, b2, b3, b4, b5⟩ := open_text _ _ _ _ _ _ _ hev
  rw [hslen] at b3 b4
  have opat : ∀ x, x < n → ∃ o o', ops[p + x]? = some o ∧ as[p + x]? = some o' ∧ cOper E nt ops (locs.contains (p + x)) o = some o' := by
    intro x hx
    have hlt : p + x < ops.size := by omega
    obtain ⟨o', h2, h3⟩ := q2 (p + x) ops[p + x] (by simp [hlt])
    exact ⟨ops[p + x], o', by simp [hlt], h2, by simpa using h3⟩
  have tb : ∀ x y, x < n → ((ms.getD x 0).testBit y = true ↔ ((befs ops.toList []).getD (p + x) 0).testBit (p + y) = true) := fun x y hx => by
    rw [hms x hx, Nat.testBit_shiftRight]
  have T : Txt call n (fun x => as[p + x]?) (fun x => ms.getD x 0) S H r D := by
    refine ⟨fun x o hx ho => ?_, fun x hx => ?_, fun x o hx ho => hsoft x o hx ho, fun x y hx hy => ?_, fun x y z hx hy hz => ?_⟩
    · have := b5 x o (by rw [hseg x hx]; exact ho)
      simp only [List.nil_append] at this
      rw [← b2] at this
      exact this
    · obtain ⟨_, o', _, h2, _⟩ := opat x hx
      exact ⟨o', h2⟩
    · have := chain_lt hb (hchain _ _ ((tb x y hx).1 hy)); omega
    · have h2 := hchain _ _ ((tb x y hx).1 hy)
      have hyx := chain_lt hb h2
      have hyn : y < n := by omega
      have h3 := hchain _ _ ((tb y z hyn).1 hz)
      exact (tb x z hx).2 (hbit _ _ (by simp; omega) (chain_trans h2 h3))
  have hids := hat.ids
  obtain ⟨hid1, hid2, hid3⟩ := hids
  have hH0 : H 0 = h := b2
  have hbase0 : (H 0).base ≤ (H 0).size := by
    obtain ⟨_, _, _, k2, _⟩ := hat
    rw [hH0]; exact k2.bs
  have hsz0 : (H 0).size ≤ (H n).size := T.mono hev0 (Nat.zero_le n) (Nat.le_refl _)
  have h0 : ∀ (i : Nat) o, (H 0).objs[i]? = some o → ∀ j ∈ o.ids, j < (H 0).size := by rw [hH0]; exact hid2
  have hμ0 : μ0.length ≤ (H 0).size := by rw [hH0]; exact hid3
  refine any_order has hb hpn hw1 hap S r b1 (fun x o' hx ho => ?_) (Inv E lo nt μ0 w0 ds n (fun x => ms.getD x 0) H r D) (fun L sD a w x o o' hx h2 h3 h4 hL hbel habv hag hI next hn => ?_) (fun listed' sD a' w' hex' hsD hI => ?_) listed a w hex ?_
  · obtain ⟨t1, t2, t3, _⟩ := T.one x o' hx ho
    refine ⟨t2, fun cs e => ?_, t3⟩
    obtain ⟨_, _, _, _, hs | hs⟩ := T.spec hev0 hx ho
    · obtain ⟨s2, g, he, hy, _⟩ := hs.run
      obtain ⟨x0, c1, _, c3⟩ := oper_congr (S2 := S x) (calm_of_soft (hsoft x o' hx ho)) (Agree.of (fun _ _ => rfl) (fun _ _ => Iff.rfl)) he
      rw [hy, c1] at e
      cases hd : o'.dst with
      | none => rw [hd] at e; cases e
      | some d => rw [hd] at e; simp [dstSlot, setSlot, sget] at e; exact c3 cs e
    · obtain ⟨s2, g, he, hy, _⟩ := hs.run
      obtain ⟨x0, c1, _, c3⟩ := oper_congr (S2 := S x) (calm_of_soft (hsoft x o' hx ho)) (Agree.of (fun _ _ => rfl) (fun _ _ => Iff.rfl)) he
      rw [hy, c1] at e
      cases hd : o'.dst with
      | none => rw [hd] at e; cases e
      | some d => rw [hd] at e; simp [dstSlot, setSlot, sget] at e; exact c3 cs e
  · have hU : Up n (fun x => ms.getD x 0) L x := ⟨hx, hL, fun y hy hbt => hbel y hy ((tb x y hx).1 hbt), fun y hy hl => by
      cases hq : (ms.getD y 0).testBit x with
      | false => rfl
      | true =>
        have := (tb y x hy).1 hq
        rw [habv y hy hl] at this; cases this⟩
    have hrv : ∀ cs, r x ≠ .var cs := by
      intro cs e
      obtain ⟨_, _, _, _, hs | hs⟩ := T.spec hev0 hx h3
      · obtain ⟨s2, g, he, hy, _⟩ := hs.run
        obtain ⟨x0, c1, _, c3⟩ := oper_congr (S2 := S x) (calm_of_soft (hsoft x o' hx h3)) (Agree.of (fun _ _ => rfl) (fun _ _ => Iff.rfl)) he
        rw [hy, c1] at e
        cases hd : o'.dst with
        | none => rw [hd] at e; cases e
        | some d => rw [hd] at e; simp [dstSlot, setSlot, sget] at e; exact c3 cs e
      · obtain ⟨s2, g, he, hy, _⟩ := hs.run
        obtain ⟨x0, c1, _, c3⟩ := oper_congr (S2 := S x) (calm_of_soft (hsoft x o' hx h3)) (Agree.of (fun _ _ => rfl) (fun _ _ => Iff.rfl)) he
        rw [hy, c1] at e
        cases hd : o'.dst with
        | none => rw [hd] at e; cases e
        | some d => rw [hd] at e; simp [dstSlot, setSlot, sget] at e; exact c3 cs e
    cases hcl : o'.op.isCall with
    | true => exact call_up T hev0 hc hg h0 hμ0 hbase0 hU h3 h4 hcl hrv hag hI next hn
    | false => exact soft_up T hev0 hg h0 hμ0 hbase0 hU h3 h4 hcl hrv hag hI next hn
  · refine hk listed' a' w' hex' ?_
    have hmem : memL D H n (fun x => decide (x < n)) = (H n).objs := by
      apply List.ext_getElem?
      intro j
      rcases Nat.lt_or_ge j (H n).size with hj | hj
      · have hj' : j < (H n).objs.length := hj
        rw [memL_get hj, mem_congr (L' := fun _ => true) n fun y hy _ => decide_eq_true hy, mem_text (n := n) (fun _ => rfl) (fun y hy => (T.evol hev0 hy).size) (fun y i hy hi hw => T.unwritten hev0 hy hi hw) n (Nat.le_refl _), List.getElem?_eq_getElem hj']
        rfl
      · rw [List.getElem?_eq_none (by rw [memL_length]; exact hj), List.getElem?_eq_none hj]
    have hHn : (⟨memL D H n (fun x => decide (x < n)), (H 0).base, (H n).wmin⟩ : Heap) = h1 := by
      rw [hmem, ← T.base hev0 (Nat.le_refl n), b4]
    have := hI.at'
    rw [hHn] at this
    obtain ⟨μ, ν, k1, k2, k3, k4⟩ := this
    exact ⟨μ, ν, k1, k2, k3.congr fun t => by rw [hsD t, b3], k4⟩
  · have hnone : memL D H n (fun _ => false) = h.objs ++ List.replicate ((H n).size - h.size) .dead := by
      apply List.ext_getElem?
      intro j
      have hm : ∀ k, mem D (sz H) H (fun _ => false) k j = ((H 0).objs[j]?).getD .dead := by
        intro k
        induction k with
        | zero => rfl
        | succ k ih => simp only [mem]; rw [if_neg (by simp), ih]
      rcases Nat.lt_or_ge j (H n).size with hj | hj
      · rw [memL_get hj, hm n, hH0]
        rcases Nat.lt_or_ge j h.size with hj2 | hj2
        · have hj2' : j < h.objs.length := hj2
          rw [List.getElem?_append_left hj2', List.getElem?_eq_getElem hj2']; rfl
        · have hj2' : h.objs.length ≤ j := hj2
          rw [List.getElem?_append_right hj2', List.getElem?_eq_none hj2', List.getElem?_replicate, if_pos]
          · rfl
          · show j - h.size < (H n).size - h.size
            omega
      · rw [List.getElem?_eq_none (by rw [memL_length]; exact hj), List.getElem?_eq_none]
        rw [hH0] at hsz0
        have : h.objs.length = h.size := rfl
        simp; omega
    refine ⟨?_, fun t y hy i hi => .inl (by rw [hH0]; exact hid1 t y hy i hi), fun t cs hy i hi => by rw [hH0]; exact hid1 t (.var cs) hy i hi, (fun _ _ _ h _ => absurd h (by simp)), (fun _ _ h => absurd h (by simp))⟩
    rw [hnone]
    have h2 := (hat.reserve ((H n).size - h.size)).lower (wm' := (H n).wmin) (by rw [← hH0]; exact T.wmin hev0 (Nat.zero_le n) (Nat.le_refl _))
    rw [hH0]
    exact h2
end
end Go.Abs

/-
  Parts whose order is open, in which variables are made.
-/
namespace Go.Abs
section
variable {E : Env} {lo nt : Nat} {μ0 : MM} {w0 : World} {ds : List Deferred} {call : CallSem} {ro : Option Nat} {V : List Nat}
theorem quietV_text {h0 : Heap} : ∀ (seg : List AOper) (s s1 : Slots) (h1 : Heap), evQuietV call V seg s h0 = some (s1, h1) →
    h1 = h0 ∧ ∃ (S : Nat → Slots), S 0 = s ∧ S seg.length = s1 ∧ ∀ (x : Nat) (o : AOper), seg[x]? = some o →
      (∃ h', evOper call o (S x) { h0 with wmin := h0.size } = some (S (x + 1), h') ∧ h'.size = h0.size ∧ h'.wmin = h0.size) ∧ quietOk V o (S x) = true
  | [], s, s1, h1, e => by
    simp only [evQuietV] at e; cases e
    exact ⟨rfl, fun _ => s, rfl, rfl, fun x o hx => by simp at hx⟩
  | o :: seg, s, s1, h1, e => by
    simp only [evQuietV] at e
    split at e
    case h_2 => cases e
    rename_i s2 h2 he
    split at e
    case isFalse => cases e
    rename_i hh
    obtain ⟨a1, a2, a3⟩ := hh
    obtain ⟨b1, S, b2, b3, b4⟩ := quietV_text seg s2 s1 h1 e
    refine ⟨b1, fun x => match x with | 0 => s | x + 1 => S x, rfl, by simpa using b3, fun x o1 hx => ?_⟩
    cases x with
    | zero =>
      simp at hx; subst hx
      exact ⟨⟨h2, by simp only [b2]; exact he, a1, a2⟩, a3⟩
    | succ x =>
      simp at hx
      exact b4 x o1 hx
def NoLoc (V : List Nat) (S : Slots) : Prop := ∀ t u o, sget S t = some (.loc u o) → V.contains u = false
theorem noLocs_sound : ∀ (s : Slots), noLocs V s = true → NoLoc V s
  | [], _ => fun t u o e => by cases e
  | (d, x) :: r, h => by
    intro t u o e
    simp only [sget] at e
    split at e
    · cases e
      simp only [noLocs, Bool.and_eq_true, Bool.not_eq_true'] at h
      exact h.1
    · refine noLocs_sound r ?_ t u o e
      cases x <;> simp only [noLocs] at h <;> first | exact h | (simp only [Bool.and_eq_true] at h; exact h.2)
theorem sets_calm {o : AOper} (h : calm o.op = true) : o.sets V = o.dst := by
  unfold AOper.sets
  split
  · rename_i hop; rw [hop] at h; cases h
  · rfl
theorem quietOk_calm {o : AOper} {S : Slots} (h : calm o.op = true) : quietOk V o S = ((o.dst.all fun d => !isVar S d && !V.contains d) && (o.reads.all fun u => !looksAt V S u)) := by
  unfold quietOk
  split
  · rename_i hop; rw [hop] at h; cases h
  · rename_i hop; rw [hop] at h; cases h
  · rfl
theorem adr_inV {S : Slots} {x : Opd} (hl : ∀ u ∈ x.reads, looksAt V S u = false) {t o : Nat} (h : x.adr S = some (.loc t o)) : V.contains t = false := by
  cases x with
  | const v => cases h
  | tmp u =>
    have h1 := hl u (by simp [Opd.reads])
    unfold looksAt at h1
    simp only [Bool.or_eq_false_iff] at h1
    simp only [Opd.adr] at h
    split at h
    · cases h
    · cases h; exact h1.1
    · rename_i t' o' hs; cases h; rw [hs] at h1; exact h1.2
    · cases h
theorem ok1_loc {S : Slots} {h : Heap} {v : Option AVal} {x : Slot} {s' : Slots} {h' : Heap} (e : ok1 S h v = some (x, s', h')) {t o : Nat} (hx : x = .loc t o) : False := by
  obtain ⟨u, rfl, rfl, rfl, rfl⟩ := ok1_some e
  cases hx
theorem op_loc {S : Slots} {h : Heap} {o : AOp} {d : Nat} {x : Slot} {s' : Slots} {h' : Heap} (hc : calm o = true) (hl : ∀ u ∈ o.reads, looksAt V S u = false) (e : evOp call d o S h = some (x, s', h')) :
    ∀ t off, x = .loc t off → V.contains t = false := by
  intro t off hx
  have hval : ∀ v : AVal, x ≠ .val v := fun v e => by rw [hx] at e; cases e
  cases o with
  | faddr a n =>
    simp only [evOp] at e
    split at e
    · exact (ok1_loc e hx).elim
    · rename_i had
      split at e
      · cases e; cases hx; exact adr_inV hl had
      · cases e
    · cases e
  | aaddr n k a i =>
    simp only [evOp] at e
    split at e
    · exact (ok1_loc e hx).elim
    · rename_i had _
      split at e
      · rw [Option.map_eq_some_iff] at e
        obtain ⟨j, _, e⟩ := e
        cases e; cases hx
        exact adr_inV (fun u hu => hl u (by simp only [AOp.reads, List.mem_append]; exact .inl hu)) had
      · cases e
    · cases e
  | nilcheck a =>
    simp only [evOp] at e
    split at e
    · exact (ok1_loc e hx).elim
    · split at e
      · rename_i had
        split at e
        · cases e; cases hx; exact adr_inV hl had
        · cases e
      · cases e
  | lalloc z => cases hc
  | lbox a => cases hc
  | store n a b => cases hc
  | copy e1 d1 s1 => cases hc
  | conv k a =>
    simp only [evOp] at e
    split at e
    · unfold evConv at e
      cases k <;> simp only at e
      · split at e
        · exact (ok1_loc e hx).elim
        · cases e
      · split at e
        · exact (ok1_loc e hx).elim
        · cases e
      · split at e
        · cases e; cases hx
        · cases e
      · split at e
        · split at e
          · exact (ok1_loc e hx).elim
          · cases e
        · cases e
    · cases e
  | nextStr a => cases e
  | _ =>
    simp only [evOp] at e
    first
      | exact (ok1_loc e hx).elim
      | (cases e; cases hx)
      | (split at e <;> first
          | exact (ok1_loc e hx).elim
          | (cases e; done)
          | (cases e; cases hx)
          | (rw [Option.map_eq_some_iff] at e; obtain ⟨_, _, e⟩ := e; cases e; cases hx)
          | (split at e <;> first
              | exact (ok1_loc e hx).elim
              | (cases e; done)
              | (cases e; cases hx)
              | (rw [Option.map_eq_some_iff] at e; obtain ⟨_, _, e⟩ := e; cases e; cases hx)))
theorem oper_loc {S : Slots} {h : Heap} {o : AOper} {x : Slot} {h' : Heap} (hc : calm o.op = true) (hl : ∀ u ∈ o.reads, looksAt V S u = false) (e : evOper call o S h = some (setSlot o.dst x S, h')) (hn : NoLoc V S) :
    NoLoc V (setSlot o.dst x S) := by
  have run : ∀ s' h', evRun call o S h = some (s', h') → NoLoc V s' := by
    intro s' h' e
    unfold evRun at e
    split at e
    case h_2 => cases e
    rename_i x1 s1 h1 he
    cases e
    intro t u off ht
    obtain ⟨e1, _, _⟩ := op_congr (V := fun _ => False) (S2 := S) hc (Agree.of (fun _ _ => rfl) (fun _ _ => Iff.rfl)) _ _ _ he
    subst e1
    rw [setSlot_get] at ht
    split at ht
    · cases ht
      exact op_loc hc (fun u hu => hl u (by unfold AOper.reads; exact List.mem_append_left _ hu)) he _ _ rfl
    · exact hn _ _ _ ht
  have und : NoLoc V (setSlot o.dst .undef S) := by
    intro t u off ht
    rw [setSlot_get] at ht
    split at ht
    · cases ht
    · exact hn _ _ _ ht
  unfold evOper at e
  split at e
  · exact run _ _ e
  · split at e
    · split at e
      · exact run _ _ e
      · have := congrArg Prod.fst (Option.some.inj e); exact (show setSlot o.dst .undef S = setSlot o.dst x S from this) ▸ und
    · have := congrArg Prod.fst (Option.some.inj e); exact (show setSlot o.dst .undef S = setSlot o.dst x S from this) ▸ und
    · cases e
theorem operV {o : AOper} {S sD S' : Slots} {h h' : Heap} (hv : quietV V o = true) (hq : quietOk V o S = true) (e : evOper call o S h = some (S', h')) (hn : NoLoc V S) (hnD : NoLoc V sD)
    (hat : ∀ t ∈ o.reads, sget S t = sget sD t) (hvar : ∀ t cs, V.contains t = false → (sget S t = some (.var cs) ↔ sget sD t = some (.var cs))) :
    ∃ sD', evOper call o sD h = some (sD', h') ∧ (∀ u, sget sD' u = if o.sets V = some u then sget S' u else sget sD u) ∧ (∀ u, o.sets V ≠ some u → sget S' u = sget S u) ∧ NoLoc V S' ∧
      (∀ d cs, o.sets V = some d → V.contains d = false → sget S' d ≠ some (.var cs) ∧ sget S d ≠ some (.var cs)) := by
  have unl : ∀ {A : Slots} (d : Nat), V.contains d = true → NoLoc V A → ∀ t, sget (unloc d A) t = sget A t := by
    intro A d hd hA t
    rw [sget_unloc]
    split
    · rename_i t' off ht
      have := hA _ _ _ ht
      rw [if_neg (fun e => by subst e; rw [hd] at this; cases this), ht]
    · rfl
  by_cases hc : calm o.op = true
  · rw [quietOk_calm hc] at hq
    simp only [Bool.and_eq_true, List.all_eq_true, Bool.not_eq_true'] at hq
    obtain ⟨hq1, hq2⟩ := hq
    have hag : AgreeV (fun t => V.contains t = true) S sD o.reads := ⟨hat, fun t cs ht => hvar t cs (by simpa using ht), fun t ht => by
      have := hq2 t ht
      unfold looksAt at this
      simp only [Bool.or_eq_false_iff] at this
      refine ⟨(fun hq => by rw [this.1] at hq; cases hq), fun t' off hs hq => ?_⟩
      rw [hs] at this
      have h2 : V.contains t' = false := this.2
      rw [h2] at hq; cases hq⟩
    obtain ⟨x, c1, c2, c3⟩ := oper_congr hc hag e
    rw [sets_calm hc]
    subst c1
    refine ⟨_, c2, fun u => ?_, fun u hu => by rw [setSlot_get, if_neg hu], oper_loc hc hq2 e hn, fun d cs hd hdV => ?_⟩
    · rw [setSlot_get]
      split
      · rename_i hu; rw [setSlot_get, if_pos hu]
      · rfl
    · rw [hd] at hq1
      simp only [Option.all_some, Bool.and_eq_true, Bool.not_eq_true'] at hq1
      refine ⟨by rw [setSlot_get, if_pos hd]; intro e; exact c3 cs (Option.some.inj e), fun e => ?_⟩
      have := hq1.1
      unfold isVar at this
      rw [e] at this
      cases this
  · unfold quietV at hv
    split at hv
    · -- a variable is made
      rename_i z hop
      unfold quietOk at hq
      rw [hop] at hq
      simp only [Bool.and_eq_true, Option.isNone_iff_eq_none] at hq
      obtain ⟨hg, hd⟩ := hq
      cases hdd : o.dst with
      | none => rw [hdd] at hd; cases hd
      | some d =>
        rw [hdd] at hd
        simp only at hd
        have hset : o.sets V = some d := by unfold AOper.sets; rw [hop]; exact hdd
        unfold evOper at e
        rw [hg] at e
        simp only [evRun, hop, evOp, hdd, Option.getD_some, setSlot] at e
        cases e
        refine ⟨(d, .var z) :: unloc d sD, by unfold evOper; rw [hg]; simp only [evRun, hop, evOp, hdd, Option.getD_some, setSlot], fun u => ?_, fun u hu => ?_, ?_, fun d' cs hd' hV => ?_⟩
        · rw [hset]
          simp only [sget, Option.some.injEq]
          split
          · rfl
          · exact unl d hd hnD u
        · rw [hset] at hu
          simp only [sget]
          rw [if_neg (fun e => hu (by rw [e]))]
          exact unl d hd hn u
        · intro t u off ht
          simp only [sget] at ht
          split at ht
          · cases ht
          · rw [unl d hd hn t] at ht; exact hn _ _ _ ht
        · rw [hset] at hd'; cases hd'; rw [hd] at hV; cases hV
    · -- one is set
      rename_i n t x hop
      unfold quietOk at hq
      rw [hop] at hq
      simp only [Bool.and_eq_true, Option.isNone_iff_eq_none, List.all_eq_true, Bool.not_eq_true'] at hq
      obtain ⟨⟨⟨⟨hg, hd⟩, _⟩, hvr⟩, hlk⟩ := hq
      have hset : o.sets V = some t := by unfold AOper.sets; rw [hop]; simp only; rw [if_pos hv]
      have hreads : o.reads = t :: x.reads := by unfold AOper.reads; rw [hop, hg]; simp [AOp.reads, Opd.reads]
      have ht : sget S t = sget sD t := hat t (by rw [hreads]; exact List.mem_cons_self ..)
      have hx : x.ev sD = x.ev S := by
        cases x with
        | const v => rfl
        | tmp u => simp only [Opd.ev, ← hat u (by rw [hreads]; simp [Opd.reads])]
      unfold isVar at hvr
      split at hvr
      case h_2 => cases hvr
      rename_i cs hcs
      have hcsD : sget sD t = some (.var cs) := by rw [← ht]; exact hcs
      have hadr : (Opd.tmp t).adr S = some (.loc t 0) := by simp only [Opd.adr, hcs]
      have hadrD : (Opd.tmp t).adr sD = some (.loc t 0) := by simp only [Opd.adr, hcsD]
      unfold evOper at e
      rw [hg] at e
      simp only [evRun, hop, evOp, hadr] at e
      cases hxs : (x.ev S).bind AVal.cells? with
      | none => rw [hxs] at e; cases e
      | some xs =>
        rw [hxs] at e
        simp only [storeAt, hcs] at e
        by_cases hlen : xs.length = n
        · rw [if_pos hlen] at e
          by_cases hle : 0 + xs.length ≤ cs.length
          · rw [if_pos hle] at e
            simp only [Option.map_some, hd, setSlot] at e
            cases e
            refine ⟨(t, .var (splice cs 0 xs)) :: sD, ?_, fun u => ?_, fun u hu => ?_, ?_, fun d' cs' hd' hV => ?_⟩
            · unfold evOper
              rw [hg]
              simp only [evRun, hop, evOp, hadrD, hx, hxs, storeAt, hcsD]
              rw [if_pos hlen, if_pos hle]
              simp only [Option.map_some, hd, setSlot]
            · rw [hset]
              simp only [sget, Option.some.injEq]
              split <;> rfl
            · rw [hset] at hu
              simp only [sget]
              rw [if_neg (fun e => hu (by rw [e]))]
            · intro t1 u off ht1
              simp only [sget] at ht1
              split at ht1
              · cases ht1
              · exact hn _ _ _ ht1
            · rw [hset] at hd'; cases hd'; rw [hv] at hV; cases hV
          · rw [if_neg hle] at e; cases e
        · rw [if_neg hlen] at e; cases e
    · exact absurd hv hc
end
section
variable {E : Env} {lo nt : Nat} {μ0 : MM} {w0 : World} {ds : List Deferred} {s : Slots} {h : Heap} {a : Act} {w : World} {call : CallSem} {ops : Array Oper} {locs : List Nat} {as : List AOper} {Q : Exit → Act → World → Prop} {ro : Option Nat} {V : List Nat}
theorem quietV_any (hc : CallOK E call) (hev0 : CallEvol call) (hg : GidOK E) (has : cOpers E nt ops locs 0 ops.toList = some as) (hb : edgesBack ops = true)
    {p n : Nat} {h1 : Heap} {s1 : Slots} (hpn : p + n ≤ as.length) (hw1 : waits (befs ops.toList []) (p + n) = true)
    (hap : ∀ x y oi oj, x < n → y < n → as[p + x]? = some oi → as[p + y]? = some oj → apartV V (befs ops.toList []) (p + x) (p + y) oi oj = true)
    (hqv : ∀ x o, x < n → as[p + x]? = some o → quietV V o = true) (hnl : NoLoc V s)
    (hev : evQuietV call V ((as.drop p).take n) s h = some (s1, h1))
    (hk : ∀ listed' a' w', Exact ops listed' (p + n) → At E lo nt μ0 w0 ds s1 h1 a' w' → wpAnyIn (F0 ro) 0 E.P .any ops Q (ops.size - (p + n)) listed' a' w') :
    ∀ listed a w, Exact ops listed p → At E lo nt μ0 w0 ds s h a w → wpAnyIn (F0 ro) 0 E.P .any ops Q (ops.size - p) listed a w := by
  obtain ⟨q1, q2⟩ := opers_get _ _ _ has
  simp only [Array.length_toList] at q1
  have hchain := befs_chain (ops := ops) ops.toList [] (by simp) (fun k i hk => by simp at hk)
  have hblen := befs_length ops.toList []
  simp only [List.length_nil, Nat.zero_add, Array.length_toList] at hblen
  have hseg : ∀ x, x < n → ((as.drop p).take n)[x]? = as[p + x]? := fun x hx => by rw [List.getElem?_take_of_lt hx, List.getElem?_drop]
  have hslen : ((as.drop p).take n).length = n := by simp; omega
  obtain ⟨e1, S, b2, b3, b4⟩ := quietV_text _ _ _ _ hev
  subst e1
  rw [hslen] at b3
  have opat : ∀ x, x < n → ∃ o o', ops[p + x]? = some o ∧ as[p + x]? = some o' ∧ cOper E nt ops (locs.contains (p + x)) o = some o' := by
    intro x hx
    have hlt : p + x < ops.size := by omega
    obtain ⟨o', h2, h3⟩ := q2 (p + x) ops[p + x] (by simp [hlt])
    exact ⟨ops[p + x], o', by simp [hlt], h2, by simpa using h3⟩
  have text : ∀ x o', x < n → as[p + x]? = some o' → (∃ h', evOper call o' (S x) { h1 with wmin := h1.size } = some (S (x + 1), h') ∧ h'.size = h1.size ∧ h'.wmin = h1.size) ∧ quietOk V o' (S x) = true :=
    fun x o' hx ho => b4 x o' (by rw [hseg x hx]; exact ho)
  have ordered : ∀ x y oi oj d, x < n → y < n → x ≠ y → as[p + x]? = some oi → as[p + y]? = some oj → oj.sets V = some d → (oi.sets V = some d ∨ d ∈ oi.reads) →
      (y < x ∧ ((befs ops.toList []).getD (p + x) 0).testBit (p + y) = true) ∨ (x < y ∧ ((befs ops.toList []).getD (p + y) 0).testBit (p + x) = true) := by
    intro x y oi oj d hx hy hne hi hj hd hor
    have := hap x y oi oj hx hy hi hj
    unfold apartV at this
    rw [hd] at this
    simp only [Bool.and_eq_true, Bool.or_eq_true, beq_iff_eq, bne_iff_ne, decide_eq_true_eq, Bool.not_eq_true', List.contains_eq_mem, decide_eq_false_iff_not] at this
    rcases this with ((h2 | h2) | h2) | h2
    · omega
    · rcases hor with h3 | h3
      · exact absurd h3 h2.1
      · exact absurd h3 h2.2
    · exact .inl ⟨by omega, h2.2⟩
    · exact .inr ⟨by omega, h2.2⟩
  have self : ∀ x o', x < n → as[p + x]? = some o' → NoLoc V (S x) → (∀ u, o'.sets V ≠ some u → sget (S (x + 1)) u = sget (S x) u) ∧ NoLoc V (S (x + 1)) ∧
      (∀ d cs, o'.sets V = some d → V.contains d = false → sget (S (x + 1)) d ≠ some (.var cs) ∧ sget (S x) d ≠ some (.var cs)) := by
    intro x o' hx ho hn
    obtain ⟨⟨h', t1, _, _⟩, t2⟩ := text x o' hx ho
    obtain ⟨_, _, _, c3, c4, c5⟩ := operV (hqv x o' hx ho) t2 t1 hn hn (fun _ _ => rfl) (fun _ _ _ => Iff.rfl)
    exact ⟨c3, c4, c5⟩
  have text_no : ∀ x, x ≤ n → NoLoc V (S x) := by
    intro x
    induction x with
    | zero => intro _; rw [b2]; exact hnl
    | succ x ih =>
      intro hx
      obtain ⟨_, o', _, ho', _⟩ := opat x (by omega)
      exact (self x o' (by omega) ho' (ih (by omega))).2.1
  have text_step : ∀ x o' u, x < n → as[p + x]? = some o' → o'.sets V ≠ some u → sget (S (x + 1)) u = sget (S x) u := fun x o' u hx ho => (self x o' hx ho (text_no x (by omega))).1 u
  have text_last : ∀ x t y, y < x → x ≤ n → (∀ z o, y < z → z < x → as[p + z]? = some o → o.sets V ≠ some t) → sget (S x) t = sget (S (y + 1)) t := by
    intro x
    induction x with
    | zero => intro t y hy; omega
    | succ x ih =>
      intro t y hy hx hno
      by_cases e : y = x
      · subst e; rfl
      · obtain ⟨_, o', _, ho', _⟩ := opat x (by omega)
        rw [text_step x o' t (by omega) ho' (hno x o' (by omega) (by omega) ho')]
        exact ih t y (by omega) (by omega) fun z o h2 h3 => hno z o h2 (by omega)
  have text_miss : ∀ x t, x ≤ n → (∀ y o, y < x → as[p + y]? = some o → o.sets V ≠ some t) → sget (S x) t = sget s t := by
    intro x
    induction x with
    | zero => intro t _ _; rw [b2]
    | succ x ih =>
      intro t hx hno
      obtain ⟨_, o', _, ho', _⟩ := opat x (by omega)
      rw [text_step x o' t (by omega) ho' (hno x o' (by omega) ho')]
      exact ih t (by omega) fun y o hy => hno y o (by omega)
  have text_var : ∀ x t cs, x ≤ n → V.contains t = false → (sget (S x) t = some (.var cs) ↔ sget s t = some (.var cs)) := by
    intro x
    induction x with
    | zero => intro t cs _ _; rw [b2]
    | succ x ih =>
      intro t cs hx ht
      obtain ⟨_, o', _, ho', _⟩ := opat x (by omega)
      by_cases e : o'.sets V = some t
      · obtain ⟨n1, n2⟩ := (self x o' (by omega) ho' (text_no x (by omega))).2.2 t cs e ht
        rw [← ih t cs (by omega) ht]
        exact ⟨fun e => absurd e n1, fun e => absurd e n2⟩
      · rw [text_step x o' t (by omega) ho' e]
        exact ih t cs (by omega) ht
  have main : ∀ (k : Nat) (listed : Array Bool) (sD : Slots) (a : Act) (w : World), listed.size = ops.size → Down ops listed → (∀ i, i < p → listed[i]? = some true) → (∀ i, p + n ≤ i → i < ops.size → listed[i]? = some false) →
      ((List.range n).filter fun x => listed[p + x]? == some false).length = k →
      (∀ t, (∃ y o, y < n ∧ as[p + y]? = some o ∧ o.sets V = some t ∧ listed[p + y]? = some true ∧ (∀ z oz, z < n → as[p + z]? = some oz → oz.sets V = some t → listed[p + z]? = some true → z ≤ y) ∧ sget sD t = sget (S (y + 1)) t) ∨
        ((∀ y o, y < n → as[p + y]? = some o → o.sets V = some t → listed[p + y]? ≠ some true) ∧ sget sD t = sget s t)) →
      At E lo nt μ0 w0 ds sD h1 a w → wpAnyIn (F0 ro) 0 E.P .any ops Q (ops.size - (p + n) + k) listed a w := by
    intro k
    induction k with
    | zero =>
      intro listed sD a w hsz hdn hlow hhigh hcount hinv hat
      have hall : ∀ x, x < n → listed[p + x]? = some true := by
        intro x hx
        have hlt : p + x < listed.size := by omega
        have hmem : x ∉ (List.range n).filter fun x => listed[p + x]? == some false := by
          rw [List.eq_nil_of_length_eq_zero hcount]; simp
        rw [List.mem_filter] at hmem
        have h2 : ¬ (listed[p + x]? = some false) := fun h2 => hmem ⟨List.mem_range.2 hx, by simp [h2]⟩
        rw [Array.getElem?_eq_getElem hlt] at h2 ⊢
        cases hv : listed[p + x] with
        | true => rfl
        | false => rw [hv] at h2; exact absurd rfl h2
      have hex : Exact ops listed (p + n) := by
        refine ⟨hsz, fun i hi => ?_⟩
        rcases Nat.lt_or_ge i p with h2 | h2
        · rw [hlow i h2]; simp; omega
        · rcases Nat.lt_or_ge i (p + n) with h3 | h3
          · have := hall (i - p) (by omega)
            rw [show p + (i - p) = i by omega] at this
            rw [this]; simp [h3]
          · rw [hhigh i h3 hi]; simp; omega
      refine hk listed a w hex ?_
      obtain ⟨μ, ν, k1, k2, k3, k4⟩ := hat
      refine ⟨μ, ν, k1, k2, k3.congr fun t => ?_, k4⟩
      rw [← b3]
      rcases hinv t with ⟨y, o, i1, i2, i3, i4, i5, i6⟩ | ⟨i1, i2⟩
      · rw [i6]
        refine text_last n t y i1 (Nat.le_refl _) fun z oz hz hzn hoz hs => ?_
        have := i5 z oz hzn hoz hs (hall z hzn)
        omega
      · rw [i2]
        exact text_miss n t (Nat.le_refl _) fun y o hy ho hs => i1 y o hy ho hs (hall y hy)
    | succ k ih =>
      intro listed sD a w hsz hdn hlow hhigh hcount hinv hat
      have hsome : ∃ x, x < n ∧ listed[p + x]? = some false := by
        have hne : (List.range n).filter (fun x => listed[p + x]? == some false) ≠ [] := fun e => by rw [e] at hcount; simp at hcount
        obtain ⟨x, hx⟩ := List.exists_mem_of_ne_nil _ hne
        rw [List.mem_filter, List.mem_range] at hx
        exact ⟨x, hx.1, by simpa using hx.2⟩
      obtain ⟨xu, hxu, hxf⟩ := hsome
      refine ⟨fun hr => ?_, fun i hi => ?_⟩
      · have := all_listed hb hsz hr (p + xu) (by omega)
        rw [hxf] at this; cases this
      · obtain ⟨oi, k1, k2, k3⟩ := ready_mem hsz hi
        have his : i < ops.size := lt_of_get (l := ops.toList) (by simpa using k1)
        have hip : p ≤ i := by
          rcases Nat.lt_or_ge i p with h2 | h2
          · rw [hlow i h2] at k2; cases k2
          · exact h2
        have hin : i < p + n := by
          rcases Nat.lt_or_ge i (p + n) with h2 | h2
          · exact h2
          · exfalso
            have hbit := waits_at hw1 (j := i) (i := p + xu) (by rw [hblen]; exact his) h2 (by omega)
            have hl := chain_listed hdn (hchain _ _ hbit) fun o e ho he hbb => by rw [k1] at ho; cases ho; exact k3 e he hbb
            rw [hxf] at hl; cases hl
        obtain ⟨x, rfl⟩ : ∃ x, i = p + x := ⟨i - p, by omega⟩
        have hxn : x < n := by omega
        obtain ⟨o, o', h2, h3, h4⟩ := opat x hxn
        rw [h2] at k1; cases k1
        obtain ⟨⟨h', t1, t1a, t1b⟩, t2⟩ := text x o' hxn h3
        have waitsl : ∀ j, (((befs ops.toList []).getD (p + x) 0).testBit j = true) → listed[j]? = some true := fun j hbit =>
          chain_listed hdn (hchain _ _ hbit) fun o2 e ho he hbb => by rw [h2] at ho; cases ho; exact k3 e he hbb
        have waitsd : ∀ j i, listed[j]? = some true → (((befs ops.toList []).getD j 0).testBit i = true) → listed[i]? = some true := fun j i hl hbit =>
          chain_listed hdn (hchain _ _ hbit) fun o2 e ho he hbb => hdn _ _ _ hl ho he hbb
        have low : ∀ t y oy, t ∈ o'.reads → y < n → as[p + y]? = some oy → oy.sets V = some t → y < x → listed[p + y]? = some true := by
          intro t y oy ht hy hoy hs hyx
          rcases ordered x y o' oy t hxn hy (by omega) h3 hoy hs (.inr ht) with ⟨_, h6⟩ | ⟨h5, _⟩
          · exact waitsl _ h6
          · omega
        have high : ∀ t y oy, (o'.sets V = some t ∨ t ∈ o'.reads) → y < n → as[p + y]? = some oy → oy.sets V = some t → listed[p + y]? = some true → y < x := by
          intro t y oy ht hy hoy hs hl
          rcases Nat.lt_trichotomy y x with h5 | h5 | h5
          · exact h5
          · subst h5; rw [k2] at hl; cases hl
          · exfalso
            rcases ordered x y o' oy t hxn hy (by omega) h3 hoy hs ht with ⟨h6, _⟩ | ⟨_, h6⟩
            · omega
            · have := waitsd _ _ hl h6
              rw [k2] at this; cases this
        have hag : ∀ t ∈ o'.reads, sget (S x) t = sget sD t := by
          intro t ht
          rcases hinv t with ⟨y, oy, i1, i2, i3, i4, i5, i6⟩ | ⟨i1, i2⟩
          · rw [i6]
            refine text_last x t y (high t y oy (.inr ht) i1 i2 i3 i4) (by omega) fun z oz hz hzx hoz hs => ?_
            have := i5 z oz (by omega) hoz hs (low t z oz ht (by omega) hoz hs hzx)
            omega
          · rw [i2]
            exact text_miss x t (by omega) fun y oy hy hoy hs => i1 y oy (by omega) hoy hs (low t y oy ht (by omega) hoy hs hy)
        have hvar : ∀ t cs, V.contains t = false → (sget (S x) t = some (.var cs) ↔ sget sD t = some (.var cs)) := by
          intro t cs ht
          rw [text_var x t cs (by omega) ht]
          rcases hinv t with ⟨y, oy, i1, i2, i3, i4, i5, i6⟩ | ⟨i1, i2⟩
          · rw [i6]; exact (text_var (y + 1) t cs (by omega) ht).symm
          · rw [i2]
        have hnD : NoLoc V sD := by
          intro t u off ht
          rcases hinv t with ⟨y, oy, i1, i2, i3, i4, i5, i6⟩ | ⟨i1, i2⟩
          · rw [i6] at ht; exact text_no (y + 1) (by omega) _ _ _ ht
          · rw [i2] at ht; exact hnl _ _ _ ht
        obtain ⟨sD', c1, c2, _, _, _⟩ := operV (hqv x o' hxn h3) t2 t1 (text_no x (by omega)) hnD hag hvar
        refine wpOp_of h2 (quiet_step hc hev0 hg h4 c1 t1a t1b hat fun a' w' hat' => ?_)
        have hset : ∀ j, j ≠ p + x → (listed.setIfInBounds (p + x) true)[j]? = listed[j]? := fun j hj => Array.getElem?_setIfInBounds_ne (fun e => hj e.symm)
        have hself : (listed.setIfInBounds (p + x) true)[p + x]? = some true := by simp [hsz, his]
        refine ih (listed.setIfInBounds (p + x) true) sD' a' w' (by simp [hsz]) ?_ ?_ ?_ ?_ ?_ hat'
        · intro j oj e hj hoj he hbb
          by_cases ej : j = p + x
          · subst ej
            rw [h2] at hoj; cases hoj
            have := k3 e he hbb
            by_cases ee : e.on = p + x
            · rw [ee]; exact hself
            · rw [hset _ ee]; exact this
          · rw [hset _ ej] at hj
            have := hdn j oj e hj hoj he hbb
            by_cases ee : e.on = p + x
            · rw [ee]; exact hself
            · rw [hset _ ee]; exact this
        · intro j hj; rw [hset j (by omega)]; exact hlow j hj
        · intro j hj hj'; rw [hset j (by omega)]; exact hhigh j hj hj'
        · -- one less is to come
          have hperm : ((List.range n).filter fun y => (listed.setIfInBounds (p + x) true)[p + y]? == some false) = ((List.range n).filter fun y => listed[p + y]? == some false).filter fun y => y != x := by
            rw [List.filter_filter]
            apply List.filter_congr
            intro y _
            by_cases ey : y = x
            · subst ey; rw [hself]; simp
            · rw [hset _ (by omega)]; simp [ey]
          rw [hperm]
          have hmem : x ∈ (List.range n).filter fun y => listed[p + y]? == some false := by
            rw [List.mem_filter]; exact ⟨List.mem_range.2 hxn, by simp [k2]⟩
          have hnd : ((List.range n).filter fun y => listed[p + y]? == some false).Nodup := List.nodup_range.sublist List.filter_sublist
          generalize (List.range n).filter (fun y => listed[p + y]? == some false) = L at hcount hmem hnd
          have herase : L.filter (fun y => y != x) = L.erase x := (hnd.erase_eq_filter x).symm
          rw [herase, List.length_erase_of_mem hmem, hcount]
          rfl
        · intro t
          rw [c2 t]
          by_cases ht : o'.sets V = some t
          · rw [if_pos ht]
            refine .inl ⟨x, o', hxn, h3, ht, hself, fun z oz hz hoz hs hl => ?_, rfl⟩
            by_cases ez : z = x
            · omega
            · rw [hset _ (by omega)] at hl
              have := high t z oz (.inl ht) hz hoz hs hl
              omega
          · rw [if_neg ht]
            have ne : ∀ z oz, as[p + z]? = some oz → oz.sets V = some t → z ≠ x := by
              intro z oz hoz hs e
              subst e; rw [h3] at hoz; cases hoz; exact ht hs
            rcases hinv t with ⟨y, oy, i1, i2, i3, i4, i5, i6⟩ | ⟨i1, i2⟩
            · refine .inl ⟨y, oy, i1, i2, i3, ?_, fun z oz hz hoz hs hl => ?_, i6⟩
              · rw [hset _ (by have := ne y oy i2 i3; omega)]; exact i4
              · rw [hset _ (by have := ne z oz hoz hs; omega)] at hl
                exact i5 z oz hz hoz hs hl
            · refine .inr ⟨fun y oy hy hoy hs => ?_, i2⟩
              rw [hset _ (by have := ne y oy hoy hs; omega)]
              exact i1 y oy hy hoy hs
  intro listed a w hex hat
  have hcount : ((List.range n).filter fun x => listed[p + x]? == some false).length = n := by
    have : (List.range n).filter (fun x => listed[p + x]? == some false) = List.range n := by
      rw [List.filter_eq_self]
      intro x hx
      rw [List.mem_range] at hx
      rw [hex.2 (p + x) (by omega)]
      simp
    rw [this, List.length_range]
  have := main n listed s a w hex.1 (hex.down hb) (fun i hi => by rw [hex.2 i (by omega)]; simp [hi]) (fun i hi hi' => by rw [hex.2 i hi']; simp; omega) hcount
    (fun t => .inr ⟨fun y o hy ho hs hl => by
      have h5 := hex.2 (p + y) (by omega)
      rw [hl] at h5
      have h6 := of_decide_eq_true (Option.some.inj h5).symm
      omega, rfl⟩) hat
  rwa [show ops.size - (p + n) + n = ops.size - p by omega] at this
end
end Go.Abs

/-
  The parts of a statement whose order is open, one behind the other.
-/
namespace Go.Abs
section
variable {E : Env} {lo nt : Nat} {μ0 : MM} {w0 : World} {ds : List Deferred} {s : Slots} {h : Heap} {a : Act} {w : World} {call : CallSem} {ops : Array Oper} {locs : List Nat} {as : List AOper} {Q : Exit → Act → World → Prop} {ro : Option Nat}
theorem segs_any (hc : CallOK E call) (hev0 : CallEvol call) (hg : GidOK E) (has : cOpers E nt ops locs 0 ops.toList = some as) (hb : edgesBack ops = true) :
    ∀ (segs : List (Bool × Nat)) (p : Nat) (gs : List Seg) (s : Slots) (h : Heap) (s1 : Slots) (h1 : Heap) (listed : Array Bool) (a : Act) (w : World), segsOk as (befs ops.toList []) p segs = true → splitSegs (befs ops.toList []) p segs (as.drop p) = some gs →
    evSegs call gs s h = some (s1, h1) → Exact ops listed p → At E lo nt μ0 w0 ds s h a w → (∀ a' w', At E lo nt μ0 w0 ds s1 h1 a' w' → Q .normal a' w') → wpAnyIn (F0 ro) 0 E.P .any ops Q (ops.size - p) listed a w
  | [], p, gs, s, h, s1, h1, listed, a, w, hok, hsp, hev, hex, hat, hn => by
    obtain ⟨q1, _⟩ := opers_get _ _ _ has
    simp only [Array.length_toList] at q1
    simp only [segsOk, beq_iff_eq] at hok
    have hp : p = ops.size := by omega
    subst hp
    rw [Nat.sub_self]
    unfold splitSegs at hsp
    split at hsp
    · cases hsp
      simp only [evSegs] at hev; cases hev
      refine ⟨?_, hn _ _ hat⟩
      apply List.eq_nil_iff_forall_not_mem.2
      intro i hi
      obtain ⟨o, k1, k2, _⟩ := ready_mem hex.1 hi
      have his : i < ops.size := lt_of_get (l := ops.toList) (by simpa using k1)
      rw [hex.2 i his] at k2
      simp [his] at k2
    · cases hsp
    · contradiction
  | (true, n) :: r, p, gs, s, h, s1, h1, listed, a, w, hok, hsp, hev, hex, hat, hn => by
    obtain ⟨q1, _⟩ := opers_get _ _ _ has
    simp only [Array.length_toList] at q1
    have hblen := befs_length ops.toList []
    simp only [List.length_nil, Nat.zero_add, Array.length_toList] at hblen
    simp only [segsOk, Bool.and_eq_true, decide_eq_true_eq] at hok
    obtain ⟨⟨⟨a1, a2⟩, a34⟩, a5⟩ := hok
    simp only [splitSegs] at hsp
    split at hsp
    case isFalse => cases hsp
    rw [Option.map_eq_some_iff] at hsp
    obtain ⟨gs', hsp, rfl⟩ := hsp
    rw [List.drop_drop] at hsp
    simp only [evSegs, if_true] at hev
    split at hev
    case h_2 => cases hev
    rename_i s2 h2 he
    have hgo : ∀ listed' a' w', Exact ops listed' (p + n) → At E lo nt μ0 w0 ds s2 h2 a' w' → wpAnyIn (F0 ro) 0 E.P .any ops Q (ops.size - (p + n)) listed' a' w' := fun listed' a' w' hex' hat' =>
      segs_any hc hev0 hg has hb r (p + n) gs' s2 h2 s1 h1 listed' a' w' a5 hsp hev hex' hat' hn
    unfold quietSeg at a34
    split at a34
    case isFalse hnv =>
      simp only [Bool.and_eq_true] at a34
      obtain ⟨⟨hsm, a3⟩, a4⟩ := a34
      rw [if_pos (by simpa using hsm)] at he
      unfold evQ at he
      rw [if_neg hnv] at he
      split at he
      case isFalse => cases he
      rename_i hnl
      refine quietV_any hc hev0 hg has hb a2 (waits_of (by omega) r (p + n) a5) (fun x y oi oj hx hy hi hj => ?_) (fun x o hx ho => ?_) (noLocs_sound _ hnl) he hgo listed a w hex hat
      · rw [List.all_eq_true] at a3
        have := a3 x (List.mem_range.2 hx)
        rw [List.all_eq_true] at this
        have := this y (List.mem_range.2 hy)
        rw [hi, hj] at this
        exact this
      · rw [List.all_eq_true] at a4
        have := a4 x (List.mem_range.2 hx)
        rw [ho] at this
        exact this
    rename_i hnv
    simp only [Bool.and_eq_true] at a34
    obtain ⟨a3, a4⟩ := a34
    have hap : ∀ x y oi oj, x < n → y < n → as[p + x]? = some oi → as[p + y]? = some oj → apart (befs ops.toList []) (p + x) (p + y) oi oj = true := fun x y oi oj hx hy hi hj => by
      rw [List.all_eq_true] at a3
      have := a3 x (List.mem_range.2 hx)
      rw [List.all_eq_true] at this
      have := this y (List.mem_range.2 hy)
      rw [hi, hj] at this
      exact this
    have hcs : ∀ x o, x < n → as[p + x]? = some o → calm o.op = true ∧ (softMasks (befs ops.toList []) p ((as.drop p).take n) = [] ∨ soft o.op = true) := fun x o hx ho => by
      rw [List.all_eq_true] at a4
      have := a4 x (List.mem_range.2 hx)
      rw [ho] at this
      simpa using this
    unfold evQ at he
    rw [if_pos hnv] at he
    split at he
    · exact quiet_any hc hev0 hg has hb a2 (waits_of (by omega) r (p + n) a5) hap (fun x o hx ho => (hcs x o hx ho).1) he hgo listed a w hex hat
    · rename_i hne
      refine open_any hc hev0 hg has hb a2 (waits_of (by omega) r (p + n) a5) hap (fun x o hx ho => (hcs x o hx ho).2.resolve_left hne) (fun x hx => ?_) he hgo listed a w hex hat
      unfold softMasks at hne ⊢
      split at hne
      · rename_i hm
        rw [if_pos hm]
        have hl : ((as.drop p).take n).length = n := by simp; omega
        rw [hl, List.getD_eq_getElem?_getD, List.getElem?_map, List.getElem?_range hx]
        rfl
      · exact absurd rfl hne
  | (false, n) :: r, p, gs, s, h, s1, h1, listed, a, w, hok, hsp, hev, hex, hat, hn => by
    obtain ⟨q1, _⟩ := opers_get _ _ _ has
    simp only [Array.length_toList] at q1
    have hblen := befs_length ops.toList []
    simp only [List.length_nil, Nat.zero_add, Array.length_toList] at hblen
    simp only [segsOk, Bool.and_eq_true, decide_eq_true_eq] at hok
    obtain ⟨⟨a2, a3⟩, a5⟩ := hok
    simp only [splitSegs] at hsp
    split at hsp
    case isFalse => cases hsp
    rw [Option.map_eq_some_iff] at hsp
    obtain ⟨gs', hsp, rfl⟩ := hsp
    rw [List.drop_drop] at hsp
    simp only [evSegs, Bool.false_eq_true, if_false] at hev
    split at hev
    case h_2 => cases hev
    rename_i s2 h2 he
    refine seq_any hc hev0 hg has hb n p s h s2 h2 listed a w a2 (fun x hx => ?_) he hex hat (fun listed' a' w' hex' hat' => ?_)
    · rcases Nat.lt_or_ge x n with h3 | h3
      · rw [List.all_eq_true] at a3
        exact a3 x (List.mem_range.2 h3)
      · have : x = n := by omega
        subst this
        exact waits_of (by omega) r (p + x) a5
    · exact segs_any hc hev0 hg has hb r (p + n) gs' s2 h2 s1 h1 listed' a' w' a5 hsp hev hex' hat' hn
theorem region_sound (hc : CallOK E call) (hev0 : CallEvol call) (hg : GidOK E) (hm : E.P.follows .mixedOrders = true) {segs : List (Bool × Nat)} {draw : Bool} {gs : List Seg} {id : Nat} {s1 : Slots} {h1 : Heap}
    (hcr : cRegion E nt segs locs ops draw = some gs) (hev : evSegs call gs s h = some (s1, h1)) (hat : At E lo nt μ0 w0 ds s h a w) (hn : ∀ a' w', At E lo nt μ0 w0 ds s1 h1 a' w' → Q .normal a' w') :
    (Code.region id ops draw).wpIn (F0 ro) 0 E.P Q a w := by
  unfold cRegion at hcr
  split at hcr
  case h_2 => cases hcr
  rename_i as has
  split at hcr
  · rename_i hd
    subst hd
    split at hcr
    case isFalse => cases hcr
    rename_i hh
    simp only [Bool.and_eq_true] at hh
    apply wpIn_region_any hm
    have hat' : At E lo nt μ0 w0 ds s h a { w with drawn := w.drawn + 1 } := by
      obtain ⟨μ, ν, k1, k2, k3, k4, k5, k6⟩ := hat
      exact ⟨μ, ν, k1.heap rfl rfl rfl rfl, k2.same rfl rfl rfl, k3.heap rfl, k4, k5, k6⟩
    exact segs_any hc hev0 hg has hh.1 segs 0 gs s h s1 h1 _ _ _ hh.2 (by simpa using hcr) hev ⟨by simp, fun i hi => by simp [hi]⟩ hat' hn
  · rename_i hd
    have : draw = false := by simpa using hd
    subst this
    cases hcr
    simp only [evSegs, Bool.false_eq_true, if_false] at hev
    split at hev
    case h_2 => cases hev
    rename_i s2 h2 he
    cases hev
    apply wpIn_region
    have := ops_sound (ro := ro) (Q := Q) hc hev0 hg ops.toList 0 as s h s1 h1 a w rfl has he hat hn
    rw [List.range_eq_range']
    simpa using this
end
end Go.Abs

/-
  Code and calls: what the evaluator gives, the model's call gives.
-/
namespace Go.Abs
def AExit.toX : AExit → Exit
  | .normal => .normal
  | .exit id => .exit id
  | .ret => .ret
section
variable {E : Env} {lo nt : Nat} {μ0 : MM} {w0 : World} {ds : List Deferred} {call : CallSem} {ro : Option Nat}
theorem At.keep {s : Slots} {h : Heap} {a : Act} {w : World} (hat : At E lo nt μ0 w0 ds s h a w) (l : List Nat) : At E lo nt μ0 w0 ds (Abs.keep l s) h a w := by
  obtain ⟨μ, ν, k1, k2, k3, k4⟩ := hat
  exact ⟨μ, ν, k1, k2, k3.less fun t x hx => sget_keep l s t x hx, k4⟩
theorem Step.alloc {X : Nat → Prop} {wm : Nat} {μ : MM} {w : World} (B : Obj) : Step X wm μ w μ (w.alloc B) :=
  ⟨rfl, rfl, rfl, by simp, fun k hk _ _ => by
    show (w.heap.push B)[k]? = _
    rw [Array.getElem?_push, if_neg (by omega)], Nat.le_refl _, fun _ _ => .inl rfl, fun i m hi hm => absurd (lt_of_get hm) (by omega)⟩
theorem caps_rel {ν : Fr} {μ : MM} {s : Slots} {tmps : Array Value} {w : World} (hf : FRel E lo ν μ (sget s) tmps w) : ∀ {caps : List Nat} {sl : List (Nat × AVal)}, capsOf s caps = some sl → ∀ (k : Nat) (x : Nat × AVal), sl[k]? = some x → ∃ v', tmps[x.1]? = some v' ∧ VRel E μ x.2 v'
  | [], sl, h, k, x, hk => by simp only [capsOf] at h; cases h; simp at hk
  | t :: caps, sl, h, k, x, hk => by
    simp only [capsOf] at h
    split at h
    case h_2 => cases h
    rename_i v l hs hl
    cases h
    cases k with
    | zero => simp at hk; subst hk; exact hf.val t v hs
    | succ k => exact caps_rel hf hl k x (by simpa using hk)
theorem next_sound {it : Operand} {x : Opd} (hx : cOpd E it = some x) {o : Oper} (ho : o.op = .next it false) (hd : ∀ t, o.dst = some t → t < nt) {st : St} {l : List (AExit × St)} (hev : nextOuts o.dst x st = some l) {a : Act} {w : World}
    (hat : At E lo nt μ0 w0 ds st.s st.h a w) {next : Act → World → Prop} {Q : Exit → Act → World → Prop} (hn : ∀ y ∈ l, y.1 = .normal → ∀ a' w', At E lo nt μ0 w0 ds y.2.s y.2.h a' w' → next a' w') : o.wpIn (F0 ro) 0 E.P a w next Q := by
  obtain ⟨s, h⟩ := st
  obtain ⟨μ, ν, k1, k2, k3, k4, k5, k6⟩ := hat
  refine ⟨fun _ _ => trivial, ?_⟩
  rw [Oper.semAt_eq _ _ _ (fun c hc' => by rw [ho] at hc'; cases hc')]
  have exec : ∀ (v : Value) (w' : World), (Instr.next (a.eval it) false o.type).run E.P w = .ok v w' → (execOp a.eval o).run E.P w = .ok (.value v) w' := fun v w' e => by
    simp only [execOp, ho]
    exact run_v e
  unfold nextOuts at hev
  split at hev
  case h_2 => cases hev
  rename_i i hxv
  have hix := opd_rel k3 hx hxv
  simp only [VRel] at hix
  obtain ⟨ad, hit, mo, hmo, had⟩ := hix
  split at hev
  case isFalse => cases hev
  rename_i hb
  simp only at hb hev
  have over : ∀ (m : M), μ[i]? = some (some m) → At E lo nt μ0 w0 ds (setSlot o.dst (.val (.tuple [.bool false])) s) (h.put i .dead) (a.put o.dst (.tuple #[.bool false])) w := by
    intro m hm
    refine ⟨μ.set i none, ν, ?_, k2.kill i, ?_, by rw [put_size]; exact k4, by rw [put_defers]; exact k5, k6⟩
    · exact k1.trans (Step.kill μ w (Nat.min_le_right _ _)) (Nat.min_le_left _ _)
    · rw [put_tmps]
      refine (FRel.setVal ?_ (fun y hy => by rw [k4]; exact hd y hy) (by simp only [VRel]; exact ⟨_, rfl, by simp [VRels, VRel]⟩)).congr fun t => sget_setSlot _ _ _ _
      exact k3.keep (later_set μ i) (fun t cs hv => rfl) (fun t cs j m' hv hj hm' => absurd (lt_of_get hm') (by simp; omega)) fun r hr => ⟨rfl, fun j m' hj hm' => absurd (lt_of_get hm') (by simp; omega)⟩
  split at hev
  · rename_i since seen last hgi
    cases hev
    obtain ⟨mi, r', ⟨q1, hbase⟩, q2, q3⟩ := k2.obj _ _ hgi
    rw [q1] at hmo; cases hmo
    have had' := had mi rfl
    subst had'
    simp only [VRel] at q3
    have q3' : r' = none := by simpa using q3
    subst q3'
    have hrun : (Instr.next (a.eval it) false o.type).run E.P w = .ok (.tuple #[.bool false]) w := by
      rw [hit]
      simp [Instr.next, getObj, Sem.run, q2, Result.andThen, hbase]
    rw [exec _ _ hrun]
    exact hn _ (List.mem_singleton_self _) rfl _ _ (over mi q1)
  · rename_i m since seen last hgi
    split at hev
    case h_2 => cases hev
    rename_i es clock hgm
    split at hev
    case isFalse => cases hev
    rename_i hh
    obtain ⟨hold, hsc⟩ := hh
    obtain ⟨mi, r', ⟨q1, hbase⟩, q2, q3⟩ := k2.obj _ _ hgi
    rw [q1] at hmo; cases hmo
    have had' := had mi rfl
    subst had'
    rw [hbase] at hit
    obtain ⟨mm, es', p1, p2, p3, p4⟩ := k2.obj _ _ hgm
    have q3' := q3
    simp only [VRel] at q3
    obtain ⟨bm, xo, e1, e2, e3⟩ := q3
    rw [p1] at e2; cases e2
    have e3 := e3 mm rfl
    subst e3
    have e1 : r' = some mm.blk := by simpa using e1
    subst e1
    have at_ : ∀ (k : Nat) (y : MapEntry), es'.toList[k]? = some y → ∃ z, es[k]? = some z ∧ VRel E μ z.1 y.key ∧ VRel E μ z.2.1 y.val ∧ y.born = z.2.2 := by
      intro k y hk
      have hlt := lt_of_get hk
      simp only [Array.length_toList] at hlt
      obtain ⟨z, hz⟩ : ∃ z, es[k]? = some z := ⟨_, List.getElem?_eq_getElem (by omega)⟩
      obtain ⟨y', y1, y2, y3, y4⟩ := p4 k z hz
      have : y' = y := by
        rw [← Array.getElem?_toList, hk] at y1
        exact (Option.some.inj y1).symm
      subst this
      exact ⟨z, hz, y2, y3, y4⟩
    have hold' : ∀ y ∈ es'.toList, y.born < since := by
      intro y hy
      obtain ⟨k, hk⟩ := List.getElem?_of_mem hy
      obtain ⟨z, z1, _, _, z4⟩ := at_ k y hk
      rw [List.all_eq_true] at hold
      have := hold z (List.mem_of_getElem? z1)
      rw [z4]
      simpa using this
    have hin : ∀ (k : Nat) (z : AVal × AVal × Nat), es[k]? = some z → (!seen.contains z.2.2) = true → (leftOf es' seen.toArray).size ≠ 0 := by
      intro k z hz hs h0
      obtain ⟨y, y1, _, _, y4⟩ := p4 k z hz
      have hmem : y ∈ leftOf es' seen.toArray := by
        unfold leftOf
        rw [Array.mem_filter]
        refine ⟨Array.mem_of_getElem? y1, ?_⟩
        rw [y4]
        simpa using hs
      rw [Array.eq_empty_of_size_eq_zero h0] at hmem
      simp at hmem
    rcases run_next_at (P := E.P) w o.type mi.blk mm.blk since last seen.toArray es' clock q2 p2 hold' hsc with ⟨h0, hrun⟩ | ⟨y, hy, w1, hw1, hrun⟩
    · -- nothing is left
      rw [exec _ _ (by rw [hit]; exact hrun)]
      split at hev
      · cases hev
        exact hn _ (List.mem_singleton_self _) rfl _ _ (over mi q1)
      · rename_i hne
        exfalso
        cases hf : es.filter fun e => !seen.contains e.2.2 with
        | nil => exact hne hf
        | cons z zs =>
          have hz : z ∈ es.filter fun e => !seen.contains e.2.2 := by rw [hf]; exact List.mem_cons_self ..
          rw [List.mem_filter] at hz
          obtain ⟨k, hk⟩ := List.getElem?_of_mem hz.1
          exact hin k z hk hz.2 h0
    · -- an entry
      have hy' : y ∈ es'.toList ∧ (!seen.contains y.born) = true := by
        unfold leftOf at hy
        rw [Array.mem_toList_iff, Array.mem_filter] at hy
        exact ⟨Array.mem_toList_iff.2 hy.1, by simpa using hy.2⟩
      obtain ⟨k, hk⟩ := List.getElem?_of_mem hy'.1
      obtain ⟨z, z1, z2, z3, z4⟩ := at_ k y hk
      have hzf : z ∈ es.filter fun e => !seen.contains e.2.2 := by
        rw [List.mem_filter]
        exact ⟨List.mem_of_getElem? z1, by rw [← z4]; exact hy'.2⟩
      rw [exec _ _ (by rw [hit]; exact hrun)]
      split at hev
      · rename_i hf
        rw [hf] at hzf; cases hzf
      · cases hev
        refine hn _ (List.mem_map_of_mem hzf) rfl _ _ ?_
        have hw1h : w1.heap = w.heap ∧ w1.os = w.os ∧ w1.tape = w.tape ∧ w1.output = w.output := by rcases hw1 with rfl | rfl <;> exact ⟨rfl, rfl, rfl, rfl⟩
        let B : Obj := .mapIter (some mm.blk) since (seen.toArray.push y.born) clock
        have hlt := k2.lt i mi q1
        have hheap : (Go.ChangeMaps.setBlock w1 mi.blk B).heap = (withBlock w mi.blk B).heap := by
          simp [Go.ChangeMaps.setBlock, withBlock, hw1h.1]
        refine ⟨μ, ν, ?_, ?_, ?_, by rw [put_size]; exact k4, by rw [put_defers]; exact k5, ?_⟩
        · have hB : Step (fun k => lo ≤ k) (h.put i (.mapIter (some m) since (seen ++ [z.2.2]) clock)).wmin μ w μ (withBlock w mi.blk B) := Step.put q1 (Nat.min_le_right _ _) _
          exact (k1.trans hB (Nat.min_le_left _ _)).heap hheap hw1h.2.1 hw1h.2.2.1 hw1h.2.2.2
        · refine (k2.put hb q1 (B := B) ?_).same rfl rfl hheap
          exact ⟨mi, some mm.blk, ⟨q1, hbase⟩, by rw [withBlock_same hlt]; simp [B, z4], q3'⟩
        · rw [put_tmps]
          refine (FRel.setVal ?_ (fun y hy => by rw [k4]; exact hd y hy) (by simp only [VRel]; exact ⟨_, rfl, by simp only [VRels]; exact ⟨_, _, rfl, by simp only [VRel], _, _, rfl, z2, _, _, rfl, z3, rfl⟩⟩)).congr fun t => sget_setSlot _ _ _ _
          refine (k3.keep (w' := withBlock w mi.blk B) (Later.refl _) (fun t cs' hv => withBlock_other (k3.sepm t cs' i mi hv q1)) (fun t cs' j m' _ hj hm => absurd (lt_of_get hm) (by omega)) fun q hq => ⟨withBlock_other ((k3.sepd q hq).1 i mi q1), fun j m' hj hm => absurd (lt_of_get hm) (by omega)⟩).heap hheap
        · show lo ≤ (Go.ChangeMaps.setBlock w1 mi.blk B).heap.size
          rw [hheap]
          simpa [withBlock] using k6
  · cases hev
theorem rangeFunc_sound (hc : CallOK E call) (hg : GidOK E) {f : Operand} {ps : Array Tmp} {ax bx : Code} {f' : Opd} {g : Nat} {caps : List Nat} {aa ab : ACode} {ha hb : Hint} (hf : cOpd E f = some f') (hca : cCode E nt true ha ax = some aa) (hcb : cCode E nt true hb bx = some ab) (hps : (ps.all fun t => decide (t < nt)) = true)
    (hrnd : E.rnd g = some ⟨ps.toList, aa, ab⟩) {s : Slots} {h : Heap} {a : Act} {w : World} (hat : At E lo nt μ0 w0 ds s h a w) {fv : AVal} {sl : List (Nat × AVal)} (hfv : f'.ev s = some fv) (hsl : capsOf s caps = some sl) {x : AVal} {h' : Heap}
    (hcall : callVal call fv [.yield h.size] (h.push (.loop g .ready none sl)) = some (x, h')) {e : AExit} {st' : St} (hend : loopEnd s h' h.size = some (e, st')) (hev : Evol (h.push (.loop g .ready none sl)) h') {Q : Exit → Act → World → Prop}
    (hn : ∀ a' w', At E lo nt μ0 w0 ds st'.s st'.h a' w' → Q e.toX a' w') : (Code.rangeFunc f ps ax bx).wpIn (F0 none) 0 E.P Q a w := by
  obtain ⟨μ, ν, k1, k2, k3, k4, k5, k6⟩ := hat
  unfold callVal at hcall
  split at hcall
  case h_2 => cases hcall
  rename_i gf first cp
  have hfr := opd_rel k3 hf hfv
  simp only [VRel] at hfr
  obtain ⟨fid, f1, c1, e1, e2, e3, e4⟩ := hfr
  have hlen : h.size = μ.length := k2.len.symm
  refine wpIn_rangeFunc fun fn _ => ?_
  let rec0 : Loop := { state := .ready, pending := none, fn := fn, tmps := a.tmps, params := ps, assign := ax, body := bx, defers := w.heap.size }
  let w1 : World := w.alloc (.deferred (some []))
  let w2 : World := w1.alloc (.loop rec0)
  let m : M := ⟨w.heap.size + 1, 0, 0, 0⟩
  let μ1 : MM := μ ++ [some m]
  have hw1 : w1.heap.size = w.heap.size + 1 := by simp [w1]
  have hw2 : w2.heap.size = w.heap.size + 2 := by simp [w2, w1]
  have hargs : VRels E μ1 (first ++ [.yield h.size] ++ cp) (f1 ++ #[Value.func (.yield (w.heap.size + 1)) #[] #[]] ++ c1).toList := by
    have hy : VRel E μ1 (.yield h.size) (.func (.yield (w.heap.size + 1)) #[] #[]) := by
      simp only [VRel]
      exact ⟨w.heap.size + 1, some m, rfl, by rw [hlen]; simp [μ1], fun m' hm' => by cases hm'; rfl⟩
    have := ((e3.later (later_push μ (some m))).append (show VRels E μ1 [.yield h.size] [_] from by simp only [VRels]; exact ⟨_, [], rfl, hy, rfl⟩)).append (e4.later (later_push μ (some m)))
    simpa using this
  have hl1 : Later μ μ1 := later_push μ _
  have hr1 : Rel E μ h w1 := k2.keep (by omega) fun i m' hm' => by
    have := k2.lt i m' hm'
    show (w.heap.push _)[m'.blk]? = _
    rw [Array.getElem?_push, if_neg (by omega)]
  have hr2 : Rel E μ1 (h.push (.loop g .ready none sl)) w2 := by
    refine hr1.push _ (.loop rec0) m (by simp [m, hw1]) ⟨m, rec0, by simp, by show (w1.heap.push _)[w.heap.size + 1]? = _; rw [Array.getElem?_push, if_pos (by omega)], ⟨⟨⟨ps.toList, aa, ab⟩, ha, hb, hrnd, rfl, fun t ht => ?_, by rw [show rec0.tmps.size = nt from k4]; exact hca, by rw [show rec0.tmps.size = nt from k4]; exact hcb⟩, rfl, rfl, fun k x hk => ?_⟩⟩
    · rw [Array.all_eq_true_iff_forall_mem] at hps
      have := hps t (by simpa using ht)
      rw [show rec0.tmps.size = nt from k4]
      simpa using this
    · obtain ⟨v', h1, h2⟩ := caps_rel k3 hsl k x hk
      exact ⟨v', h1, h2.later hl1⟩
  let ν1 : Fr := ⟨ν.v, w.heap.size :: ν.ds⟩
  have hblk12 : ∀ b, b < w.heap.size → w2.heap[b]? = w.heap[b]? := fun b hb => by
    show ((w.heap.push _).push _)[b]? = _
    rw [Array.getElem?_push, if_neg (by simp; omega), Array.getElem?_push, if_neg (by omega)]
  have hnewm : ∀ (i : Nat) (m' : M), μ1[i]? = some (some m') → m'.blk < w.heap.size ∨ m'.blk = w.heap.size + 1 := fun i m' hm' => by
    rcases get_push hm' with q | ⟨_, q⟩
    · exact .inl (k2.lt i m' q)
    · cases q; exact .inr rfl
  have hold : ∀ (i : Nat) (m' : M), μ1[i]? = some (some m') → m'.blk < w.heap.size → μ[i]? = some (some m') := fun i m' hm' hlt => by
    rcases get_push hm' with q | ⟨_, q⟩
    · exact q
    · cases q
      have hlt' : w.heap.size + 1 < w.heap.size := hlt
      omega
  have hf2 : FRel E lo ν1 μ1 (sget s) a.tmps w2 := by
    refine ⟨fun t v hv => ?_, k3.undef, fun t cs hv => ?_, k3.loc, k3.sepv, fun t cs i m' hv hm' => ?_, fun r hr => ?_, fun r hr => ⟨fun i m' hm' => ?_, fun t cs hv => ?_⟩, ?_⟩
    · obtain ⟨v', h1, h2⟩ := k3.val t v hv
      exact ⟨v', h1, h2.later hl1⟩
    · obtain ⟨h1, h2, c, e, fr, h3, h4, h5, h6⟩ := k3.var t cs hv
      exact ⟨h1, h2, c, e, fr, (hblk12 _ (k3.lt hv)).trans h3, h4, h5.later hl1, h6⟩
    · have := k3.lt hv
      rcases hnewm i m' hm' with q | q
      · exact k3.sepm t cs i m' hv (hold i m' hm' q)
      · intro e
        have e' : m'.blk = ν t := e
        omega
    · rcases List.mem_cons.1 hr with rfl | hr
      · refine ⟨k6, ?_⟩
        show ((w.heap.push _).push _)[w.heap.size]? = _
        rw [Array.getElem?_push, if_neg (by simp), Array.getElem?_push, if_pos rfl]
      · obtain ⟨h1, h2⟩ := k3.ds r hr
        exact ⟨h1, (hblk12 r (k3.lt_ds hr)).trans h2⟩
    · rcases List.mem_cons.1 hr with rfl | hr
      · rcases hnewm i m' hm' with q | q <;> omega
      · have := k3.lt_ds hr
        rcases hnewm i m' hm' with q | q
        · exact (k3.sepd r hr).1 i m' (hold i m' hm' q)
        · omega
    · rcases List.mem_cons.1 hr with rfl | hr
      · have := k3.lt hv
        intro e
        have e' : ν t = w.heap.size := e
        omega
      · exact (k3.sepd r hr).2 t cs hv
    · exact List.nodup_cons.2 ⟨fun h => by have := k3.lt_ds h; omega, k3.nodup⟩
  have hs2 : Step (fun k => lo ≤ k) h.wmin μ0 w0 μ1 w2 := (k1.trans (Step.alloc _) (Nat.le_refl _)).trans (Step.push (X := fun k => lo ≤ k) h.wmin μ w1 (.loop rec0) m (by simp [m, hw1])) (Nat.le_refl _)
  refine ⟨w.heap.size + 1, [markOf w.heap.size], w2, { target := .fn (.func fid) c1, args := f1 ++ #[Value.func (.yield (w.heap.size + 1)) #[] #[]] }, w2, fid, f1 ++ #[Value.func (.yield (w.heap.size + 1)) #[] #[]] ++ c1, w2, run_enterLoop_outer fn a.tmps ps ax bx, ?_, fun _ _ => trivial, ?_, fun hh => by simp [F0, Fence.wide] at hh, ?_⟩
  · simp only [resolve]
    rw [e1]
    simp [Deferred.ofValue, Act.eval]
  · have := callFunc_enter hg e2 (f1 ++ #[Value.func (.yield (w.heap.size + 1)) #[] #[]] ++ c1) w2
    simpa [invoke] using this
  · refine CallsIn.mono (F := F0 none) (n := 0) (hc.fn gf _ _ x h' hcall fid e2 μ1 w2 _ hargs hr2) ?_
    rintro ending w3 ⟨v', μ3, rfl, j1, j2, j3⟩
    unfold loopEnd at hend
    split at hend
    case h_2 => cases hend
    rename_i g2 st p sl2 hgi
    split at hend
    · cases hend
    rename_i hbusy
    cases hend
    obtain ⟨m3, r3, q1, q2, q3⟩ := j3.obj _ _ hgi
    have hi1 : h.size < μ1.length := by rw [hlen]; simp [μ1]
    have hm3 : m3 = m := by
      rcases j1.old h.size hi1 with q | ⟨_, q⟩
      · rw [q] at q1
        have : μ1[h.size]? = some (some m) := by rw [hlen]; simp [μ1]
        rw [this] at q1
        cases q1; rfl
      · rw [q] at q1; cases q1
    subst hm3
    have hst3 : r3.state ≠ .busy := by
      have := q3.st
      cases st <;> simp only [LoopSt.is] at this <;> rw [this]
      · simp
      · exact absurd rfl hbusy
      · simp
    let w4 : World := w3.putObj (w.heap.size + 1) (.loop { r3 with state := .exhausted })
    have hf3 : FRel E lo ν1 μ3 (sget s) a.tmps w3 := hf2.step j1 fun _ _ h => h
    have hwle : h'.wmin ≤ h.wmin := hev.wmin
    have hat4 : At E lo nt μ0 w0 ds s (h'.put h.size .dead) { a with defers := [markOf w.heap.size] ++ a.defers } w4 := by
      have hput : w4 = withBlock w3 m.blk (.loop { r3 with state := .exhausted }) := rfl
      refine ⟨μ3.set h.size none, ν1, ?_, ?_, ?_, k4, ?_, ?_⟩
      · have hA := hs2.trans (j1.weaken (Y := fun k => lo ≤ k) (Nat.le_refl _) fun b h _ => h.elim) hwle
        have hB : Step (fun k => lo ≤ k) (h'.put h.size .dead).wmin μ3 w3 μ3 w4 := by rw [hput]; exact Step.put q1 (Nat.min_le_right _ _) _
        have hC : Step (fun k => lo ≤ k) (h'.put h.size .dead).wmin μ3 w4 (μ3.set h.size none) w4 := Step.kill μ3 w4 (Nat.min_le_right _ _)
        exact (hA.trans hB (Nat.min_le_left _ _)).trans hC (Nat.le_refl _)
      · have hkill := j3.kill h.size
        refine hkill.keep (by simp [w4]) fun j m' hm' => ?_
        rw [hput]
        refine withBlock_other ?_
        rw [get_set] at hm'
        split at hm'
        · split at hm' <;> cases hm'
        · rename_i hne
          refine j3.sep h.size j m m' hne ?_ q1 hm'
          have h1 := j3.bs
          rw [hev.base]
          have := k2.bs
          show h.base ≤ h.objs.length
          exact this
      · refine hf3.keep (later_set μ3 h.size) (fun t cs hv => by rw [hput]; exact withBlock_other (hf3.sepm t cs h.size m hv q1)) (fun t cs j m' hv hj hm' => absurd (lt_of_get hm') (by simp; omega)) fun r hr => ⟨by rw [hput]; exact withBlock_other ((hf3.sepd r hr).1 h.size m q1), fun j m' hj hm' => absurd (lt_of_get hm') (by simp; omega)⟩
      · show [markOf w.heap.size] ++ a.defers = _
        rw [k5]; rfl
      · have := j1.size
        simp only [w4, World.putObj_size]; omega
    refine ⟨r3.pending, w4, run_endLoop q2 hst3, ?_⟩
    rw [q3.pend]
    cases p with
    | none => exact hn _ _ hat4
    | some e0 =>
      cases e0 with
      | normal => exact wpIn_skip (hn _ _ hat4)
      | exit id => exact wpIn_exit (hn _ _ hat4)
      | ret => exact wpIn_ret (hn _ _ hat4)
theorem cCode_next {inR : Bool} {c : Code} {ac : ACode} (h : cCode E nt inR .next c = some ac) : ∃ d y r, ac = .seq (.next d y) r := by
  cases c <;> simp only [cCode] at h <;> (try cases h)
  split at h
  · split at h
    · split at h
      · cases h
        exact ⟨_, _, _, rfl⟩
      · cases h
    · cases h
  · cases h
theorem code_sound (hc : CallOK E call) (hev0 : CallEvol call) (hg : GidOK E) (hm : E.P.follows .mixedOrders = true) (inR : Bool) (hro : inR = false → ro = none) (n : Nat) :
    ∀ (hint : Hint) (c : Code) (ac : ACode), cCode E nt inR hint c = some ac → (inR = false → ∀ p ∈ ac.rounds, E.rnd p.1 = some p.2) → ∀ (st : St) (e : AExit) (st' : St), evCode call n ac st = some (e, st') → ∀ (a : Act) (w : World) (Q : Exit → Act → World → Prop), At E lo nt μ0 w0 ds st.s st.h a w →
      (∀ a' w', At E lo nt μ0 w0 ds st'.s st'.h a' w' → Q e.toX a' w') → c.wpIn (F0 ro) 0 E.P Q a w := by
  intro hint
  induction hint with
  | stuck =>
    intro c ac hcc hrd st e st' hev a w Q hat hn
    simp only [cCode] at hcc
    cases hcc
    simp [evCode, Opd.ev] at hev
  | leaf =>
    intro c ac hcc hrd st e st' hev a w Q hat hn
    cases c <;> simp only [cCode] at hcc <;> (try cases hcc)
    · simp only [evCode] at hev; cases hev
      exact wpIn_skip (hn _ _ hat)
    · simp only [evCode] at hev; cases hev
      exact wpIn_exit (hn _ _ hat)
    · simp only [evCode] at hev; cases hev
      exact wpIn_ret (hn _ _ hat)
  | reg segs locs =>
    intro c ac hcc hrd st e st' hev a w Q hat hn
    cases c <;> simp only [cCode] at hcc <;> (try cases hcc)
    rw [Option.map_eq_some_iff] at hcc
    obtain ⟨gs, hgs, rfl⟩ := hcc
    simp only [evCode] at hev
    rw [Option.map_eq_some_iff] at hev
    obtain ⟨⟨s1, h1⟩, hev, he⟩ := hev
    cases he
    exact region_sound hc hev0 hg hm hgs hev hat hn
  | seq x y ihx ihy =>
    intro c ac hcc hrd st e st' hev a w Q hat hn
    cases c <;> simp only [cCode] at hcc <;> (try cases hcc)
    split at hcc
    case h_2 => cases hcc
    rename_i ax ay hx hy
    cases hcc
    simp only [evCode] at hev
    apply wpIn_seq
    split at hev
    · rename_i st1 h1
      exact ihx _ _ hx (fun hi p hp => hrd hi p (by simp [ACode.rounds, hp])) _ _ _ h1 a w _ hat fun a' w' hat' => ihy _ _ hy (fun hi p hp => hrd hi p (by simp [ACode.rounds, hp])) _ _ _ hev a' w' Q hat' hn
    · rename_i hne
      refine ihx _ _ hx (fun hi p hp => hrd hi p (by simp [ACode.rounds, hp])) _ _ _ hev a w _ hat fun a' w' hat' => ?_
      cases e with
      | normal => exact absurd hev (hne _)
      | exit id => exact hn _ _ hat'
      | ret => exact hn _ _ hat'
  | cond x y ihx ihy =>
    intro c ac hcc hrd st e st' hev a w Q hat hn
    cases c <;> simp only [cCode] at hcc <;> (try cases hcc)
    split at hcc
    case h_2 => cases hcc
    rename_i c' ax ay hcop hx hy
    cases hcc
    simp only [evCode] at hev
    have hat0 := hat
    obtain ⟨μ, ν, _, _, k3, _⟩ := hat
    split at hev
    · rename_i hb
      have := opd_rel k3 hcop hb
      simp only [VRel] at this
      exact wpIn_cond_true this (ihx _ _ hx (fun hi p hp => hrd hi p (by simp [ACode.rounds, hp])) _ _ _ hev a w Q hat0 hn)
    · rename_i hb
      have := opd_rel k3 hcop hb
      simp only [VRel] at this
      exact wpIn_cond_false this (ihy _ _ hy (fun hi p hp => hrd hi p (by simp [ACode.rounds, hp])) _ _ _ hev a w Q hat0 hn)
    · cases hev
  | block x ih =>
    intro c ac hcc hrd st e st' hev a w Q hat hn
    cases c <;> simp only [cCode] at hcc <;> (try cases hcc)
    rw [Option.map_eq_some_iff] at hcc
    obtain ⟨ax, hx, rfl⟩ := hcc
    simp only [evCode] at hev
    apply wpIn_block
    split at hev
    · rename_i j st1 h1
      refine ih _ _ hx hrd _ _ _ h1 a w _ hat fun a' w' hat' => ?_
      simp only [AExit.toX, Exit.inBlock]
      split at hev
      · rename_i hj
        cases hev
        rw [if_pos hj]
        exact hn _ _ hat'
      · rename_i hj
        cases hev
        rw [if_neg hj]
        exact hn _ _ hat'
    · rename_i hne
      refine ih _ _ hx hrd _ _ _ hev a w _ hat fun a' w' hat' => ?_
      cases e with
      | normal => exact hn _ _ hat'
      | exit id => exact absurd hev (hne _ _)
      | ret => exact hn _ _ hat'
  | loop x ih =>
    intro c ac hcc hrd st e st' hev a w Q hat hn
    cases c <;> simp only [cCode] at hcc <;> (try cases hcc)
    rename_i y
    rw [Option.map_eq_some_iff] at hcc
    obtain ⟨ax, hx, rfl⟩ := hcc
    simp only [evCode] at hev
    have key : ∀ (m : Nat) (st : St) (a : Act) (w : World), loopN (evCode call n ax) m st = some (e, st') → At E lo nt μ0 w0 ds st.s st.h a w → Code.roundsIn (F0 ro) 0 E.P y Q m a w := by
      intro m
      induction m with
      | zero => intro st a w h1; simp [loopN] at h1
      | succ m ihm =>
        intro st a w h1 hat1
        rw [roundsIn_succ]
        simp only [loopN] at h1
        split at h1
        · rename_i st1 h2
          exact ih _ _ hx hrd _ _ _ h2 a w _ hat1 fun a' w' hat' => ihm st1 a' w' h1 hat'
        · rename_i hne
          refine ih _ _ hx hrd _ _ _ h1 a w _ hat1 fun a' w' hat' => ?_
          cases e with
          | normal => exact absurd h1 (hne _)
          | exit id => exact hn _ _ hat'
          | ret => exact hn _ _ hat'
    exact wpIn_loop_rounds n (key n st a w hev hat)
  | next =>
    intro c ac hcc hrd st e st' hev a w Q hat hn
    obtain ⟨d, y, r, rfl⟩ := cCode_next hcc
    simp [evCode] at hev
  | live l x ih =>
    intro c ac hcc hrd st e st' hev a w Q hat hn
    simp only [cCode] at hcc
    rw [Option.map_eq_some_iff] at hcc
    obtain ⟨ax, hx, rfl⟩ := hcc
    simp only [evCode] at hev
    exact ih _ _ hx hrd _ _ _ hev a w Q (hat.keep l) hn
  | after x l ih =>
    intro c ac hcc hrd st e st' hev a w Q hat hn
    simp only [cCode] at hcc
    rw [Option.map_eq_some_iff] at hcc
    obtain ⟨ax, hx, rfl⟩ := hcc
    simp only [evCode] at hev
    split at hev
    · rename_i st1 h1
      cases hev
      exact ih _ _ hx hrd _ _ _ h1 a w Q hat fun a' w' hat' => hn _ _ (hat'.keep l)
    · exact ih _ _ hx hrd _ _ _ hev a w Q hat hn
  | rangeFunc g caps ha hb _ _ =>
    intro c ac hcc hrd st e st' hev a w Q hat hn
    cases c <;> simp only [cCode] at hcc <;> (try cases hcc)
    split at hcc
    case h_2 => cases hcc
    rename_i f' aa ab hf hca hcb
    split at hcc
    case isFalse => cases hcc
    rename_i hh
    obtain ⟨hin, hps⟩ := hh
    cases hcc
    have hro' := hro hin
    subst hro'
    have hrnd := hrd hin _ (List.mem_singleton_self _)
    simp only [evCode] at hev
    split at hev
    case h_2 => cases hev
    rename_i fv sl hfv hsl
    split at hev
    case h_2 => cases hev
    rename_i x h' hcall
    have hevl : Evol (st.h.push (.loop g .ready none sl)) h' := by
      unfold callVal at hcall
      split at hcall
      · exact hev0 _ _ _ _ _ hcall
      · cases hcall
    exact rangeFunc_sound hc hg hf hca hcb hps hrnd hat hfv hsl hcall hev hevl hn
theorem flatL_get {α β : Type} {f : α → Option (List β)} : ∀ {l : List α} {ys : List β}, flatL f l = some ys → ∀ x ∈ l, ∃ zs, f x = some zs ∧ ∀ z ∈ zs, z ∈ ys
  | [], ys, h, x, hx => by cases hx
  | y :: l, ys, h, x, hx => by
    simp only [flatL] at h
    split at h
    case h_2 => cases h
    rename_i a b h1 h2
    cases h
    rcases List.mem_cons.1 hx with rfl | hx
    · exact ⟨a, h1, fun z hz => List.mem_append_left _ hz⟩
    · obtain ⟨zs, k1, k2⟩ := flatL_get h2 x hx
      exact ⟨zs, k1, fun z hz => List.mem_append_right _ (k2 z hz)⟩
theorem outs_sound (hc : CallOK E call) (hev0 : CallEvol call) (hg : GidOK E) (hm : E.P.follows .mixedOrders = true) (inR : Bool) (hro : inR = false → ro = none) (n : Nat) :
    ∀ (hint : Hint) (c : Code) (ac : ACode), cCode E nt inR hint c = some ac → (inR = false → ∀ p ∈ ac.rounds, E.rnd p.1 = some p.2) → ∀ (st : St) (l : List (AExit × St)), evOuts call n ac st = some l → ∀ (a : Act) (w : World) (Q : Exit → Act → World → Prop), At E lo nt μ0 w0 ds st.s st.h a w →
      (∀ y ∈ l, ∀ a' w', At E lo nt μ0 w0 ds y.2.s y.2.h a' w' → Q y.1.toX a' w') → c.wpIn (F0 ro) 0 E.P Q a w := by
  have base : ∀ (hint : Hint) (c : Code) (ac : ACode), cCode E nt inR hint c = some ac → (inR = false → ∀ p ∈ ac.rounds, E.rnd p.1 = some p.2) → ∀ (st : St) (l : List (AExit × St)), (evCode call n ac st).map (fun x => [x]) = some l → ∀ (a : Act) (w : World) (Q : Exit → Act → World → Prop), At E lo nt μ0 w0 ds st.s st.h a w →
      (∀ y ∈ l, ∀ a' w', At E lo nt μ0 w0 ds y.2.s y.2.h a' w' → Q y.1.toX a' w') → c.wpIn (F0 ro) 0 E.P Q a w := by
    intro hint c ac hcc hrd st l hev a w Q hat hn
    rw [Option.map_eq_some_iff] at hev
    obtain ⟨x, hev, rfl⟩ := hev
    exact code_sound hc hev0 hg hm inR hro n hint c ac hcc hrd st x.1 x.2 hev a w Q hat (hn x (List.mem_singleton_self _))
  intro hint
  induction hint with
  | stuck =>
    intro c ac hcc hrd st l hev a w Q hat hn
    simp only [cCode] at hcc
    cases hcc
    simp [evOuts, Opd.ev] at hev
  | leaf =>
    intro c ac hcc hrd st l hev a w Q hat hn
    refine base .leaf c ac hcc hrd st l ?_ a w Q hat hn
    cases c <;> simp only [cCode] at hcc <;> (try cases hcc) <;> exact hev
  | reg segs locs =>
    intro c ac hcc hrd st l hev a w Q hat hn
    refine base (.reg segs locs) c ac hcc hrd st l ?_ a w Q hat hn
    cases c <;> simp only [cCode] at hcc <;> (try cases hcc)
    rw [Option.map_eq_some_iff] at hcc
    obtain ⟨gs, _, rfl⟩ := hcc
    exact hev
  | rangeFunc g caps ha hb _ _ =>
    intro c ac hcc hrd st l hev a w Q hat hn
    refine base (.rangeFunc g caps ha hb) c ac hcc hrd st l ?_ a w Q hat hn
    cases c <;> simp only [cCode] at hcc <;> (try cases hcc)
    split at hcc
    case h_2 => cases hcc
    split at hcc
    case isFalse => cases hcc
    cases hcc
    exact hev
  | next =>
    intro c ac hcc hrd st l hev a w Q hat hn
    cases c <;> simp only [cCode] at hcc <;> (try cases hcc)
    rename_i id ops draw
    split at hcc
    case h_2 => cases hcc
    rename_i dst it ty pos aft rest hops
    split at hcc
    case isFalse => cases hcc
    rename_i hd
    split at hcc
    case h_2 => cases hcc
    rename_i x as hx has
    cases hcc
    simp only [evOuts] at hev
    split at hev
    case h_2 => cases hev
    rename_i l1 h1
    apply wpIn_region
    have hsz : ops.size = rest.length + 1 := by
      have := congrArg List.length hops
      simpa using this
    have h0 : ops[0]? = some ⟨dst, .next it false, ty, pos, aft, none⟩ := by
      have := congrArg (fun l => l[0]?) hops
      simpa using this
    have hdr : ops.toList.drop 1 = rest := by rw [hops]; rfl
    rw [hsz, List.range_eq_range', List.range'_succ]
    simp only [wpOpsIn, h0, Region.wanted, if_true]
    refine next_sound (o := ⟨dst, .next it false, ty, pos, aft, none⟩) hx rfl (fun t ht => by
      have ht' : dst = some t := ht
      rw [ht'] at hd
      simpa using hd) h1 hat fun y hy hy1 a' w' hat' => ?_
    obtain ⟨zs, k1, k2⟩ := flatL_get hev y hy
    obtain ⟨e, st1⟩ := y
    simp only at hy1
    subst hy1
    simp only [evCode, Option.map_eq_some_iff] at k1
    obtain ⟨z, ⟨⟨s2, h2⟩, k3, rfl⟩, rfl⟩ := k1
    have k4 : evOps call as st1.s st1.h = some (s2, h2) := by
      simp only [evSegs] at k3
      split at k3
      · rename_i s' h' e1
        cases k3
        simpa using e1
      · cases k3
    exact ops_sound hc hev0 hg rest 1 as _ _ _ _ _ _ hdr has k4 hat' fun a2 w2 hat2 => hn _ (k2 _ (List.mem_singleton_self _)) _ _ hat2
  | seq x y ihx ihy =>
    intro c ac hcc hrd st l hev a w Q hat hn
    cases c <;> simp only [cCode] at hcc <;> (try cases hcc)
    split at hcc
    case h_2 => cases hcc
    rename_i ax ay hx hy
    cases hcc
    simp only [evOuts] at hev
    apply wpIn_seq
    split at hev
    case h_2 => cases hev
    rename_i l1 h1
    refine ihx _ _ hx (fun hi p hp => hrd hi p (by simp [ACode.rounds, hp])) _ _ h1 a w _ hat fun z hz a' w' hat' => ?_
    obtain ⟨zs, k1, k2⟩ := flatL_get hev z hz
    obtain ⟨e, st1⟩ := z
    cases e with
    | normal => exact ihy _ _ hy (fun hi p hp => hrd hi p (by simp [ACode.rounds, hp])) _ _ k1 a' w' Q hat' fun q hq => hn q (k2 q hq)
    | exit id => cases k1; exact hn _ (k2 _ (List.mem_singleton_self _)) _ _ hat'
    | ret => cases k1; exact hn _ (k2 _ (List.mem_singleton_self _)) _ _ hat'
  | cond x y ihx ihy =>
    intro c ac hcc hrd st l hev a w Q hat hn
    cases c <;> simp only [cCode] at hcc <;> (try cases hcc)
    split at hcc
    case h_2 => cases hcc
    rename_i c' ax ay hcop hx hy
    cases hcc
    simp only [evOuts] at hev
    have hat0 := hat
    obtain ⟨μ, ν, _, _, k3, _⟩ := hat
    split at hev
    · rename_i hb
      have := opd_rel k3 hcop hb
      simp only [VRel] at this
      exact wpIn_cond_true this (ihx _ _ hx (fun hi p hp => hrd hi p (by simp [ACode.rounds, hp])) _ _ hev a w Q hat0 hn)
    · rename_i hb
      have := opd_rel k3 hcop hb
      simp only [VRel] at this
      exact wpIn_cond_false this (ihy _ _ hy (fun hi p hp => hrd hi p (by simp [ACode.rounds, hp])) _ _ hev a w Q hat0 hn)
    · cases hev
  | block x ih =>
    intro c ac hcc hrd st l hev a w Q hat hn
    cases c <;> simp only [cCode] at hcc <;> (try cases hcc)
    rename_i id y
    rw [Option.map_eq_some_iff] at hcc
    obtain ⟨ax, hx, rfl⟩ := hcc
    simp only [evOuts] at hev
    apply wpIn_block
    rw [Option.map_eq_some_iff] at hev
    obtain ⟨l1, h1, rfl⟩ := hev
    refine ih _ _ hx hrd _ _ h1 a w _ hat fun z hz a' w' hat' => ?_
    have hmem := List.mem_map_of_mem (f := fun x : AExit × St => match x.1 with
      | .exit j => if j = id then (AExit.normal, x.2) else (AExit.exit j, x.2)
      | e => (e, x.2)) hz
    obtain ⟨e, st1⟩ := z
    cases e with
    | normal => exact hn _ hmem _ _ hat'
    | ret => exact hn _ hmem _ _ hat'
    | exit j =>
      simp only [AExit.toX, Exit.inBlock]
      simp only at hmem
      split
      · rename_i hj
        rw [if_pos hj] at hmem
        exact hn _ hmem _ _ hat'
      · rename_i hj
        rw [if_neg hj] at hmem
        exact hn _ hmem _ _ hat'
  | loop x ih =>
    intro c ac hcc hrd st l hev a w Q hat hn
    cases c <;> simp only [cCode] at hcc <;> (try cases hcc)
    rename_i y
    rw [Option.map_eq_some_iff] at hcc
    obtain ⟨ax, hx, rfl⟩ := hcc
    simp only [evOuts] at hev
    have key : ∀ (m : Nat) (st : St) (l : List (AExit × St)) (a : Act) (w : World), loopO (evOuts call n ax) m st = some l → At E lo nt μ0 w0 ds st.s st.h a w → (∀ y ∈ l, ∀ a' w', At E lo nt μ0 w0 ds y.2.s y.2.h a' w' → Q y.1.toX a' w') → Code.roundsIn (F0 ro) 0 E.P y Q m a w := by
      intro m
      induction m with
      | zero => intro st l a w h1; simp [loopO] at h1
      | succ m ihm =>
        intro st l a w h1 hat1 hn1
        rw [roundsIn_succ]
        simp only [loopO] at h1
        split at h1
        case h_2 => cases h1
        rename_i l1 h2
        refine ih _ _ hx hrd _ _ h2 a w _ hat1 fun z hz a' w' hat' => ?_
        obtain ⟨zs, k1, k2⟩ := flatL_get h1 z hz
        obtain ⟨e, st1⟩ := z
        cases e with
        | normal => exact ihm st1 zs a' w' k1 hat' fun q hq => hn1 q (k2 q hq)
        | exit id => cases k1; exact hn1 _ (k2 _ (List.mem_singleton_self _)) _ _ hat'
        | ret => cases k1; exact hn1 _ (k2 _ (List.mem_singleton_self _)) _ _ hat'
    exact wpIn_loop_rounds n (key n st l a w hev hat hn)
  | live l x ih =>
    intro c ac hcc hrd st ys hev a w Q hat hn
    simp only [cCode] at hcc
    rw [Option.map_eq_some_iff] at hcc
    obtain ⟨ax, hx, rfl⟩ := hcc
    simp only [evOuts] at hev
    exact ih _ _ hx hrd _ _ hev a w Q (hat.keep l) hn
  | after x l ih =>
    intro c ac hcc hrd st ys hev a w Q hat hn
    simp only [cCode] at hcc
    rw [Option.map_eq_some_iff] at hcc
    obtain ⟨ax, hx, rfl⟩ := hcc
    simp only [evOuts] at hev
    rw [Option.map_eq_some_iff] at hev
    obtain ⟨l1, h1, rfl⟩ := hev
    refine ih _ _ hx hrd _ _ h1 a w Q hat fun z hz a' w' hat' => ?_
    have hmem := List.mem_map_of_mem (f := fun x : AExit × St => match x.1 with
      | .normal => (AExit.normal, (⟨Abs.keep l x.2.s, x.2.h⟩ : St))
      | e => (e, x.2)) hz
    obtain ⟨e, st1⟩ := z
    cases e with
    | normal => exact hn _ hmem _ _ (hat'.keep l)
    | exit id => exact hn _ hmem _ _ hat'
    | ret => exact hn _ hmem _ _ hat'
def resOne (tmps : Array Value) : ResultVar → Sem Value
  | .tmp t => pure (tmps.getD t Go.undef)
  | .cell x t => do loadVar t (← asAddr (tmps.getD x Go.undef))
theorem res_rel {ν : Fr} {μ : MM} {s : Slots} {h : Heap} {a : Act} {w : World} (hf : FRel E lo ν μ (sget s) a.tmps w) (hr : Rel E μ h w) : ∀ {rs : List ResultVar} {as : List ARes} {vs : List AVal}, cRess E.P rs = some as → resultsL s h as = some vs →
    ∃ l, (rs.mapM (resOne a.tmps)).run E.P w = .ok l w ∧ VRels E μ vs l
  | [], as, vs, hc, he => by
    simp only [cRess] at hc; cases hc
    simp only [resultsL] at he; cases he
    exact ⟨[], rfl, by simp [VRels]⟩
  | r :: rs, as, vs, hc, he => by
    simp only [cRess] at hc
    split at hc
    case h_2 => cases hc
    rename_i a' as' h1 h2
    cases hc
    simp only [resultsL] at he
    split at he
    case h_2 => cases he
    rename_i v vs' h3 h4
    cases he
    obtain ⟨l, k1, k2⟩ := res_rel hf hr h2 h4
    have hone : ∃ u, (resOne a.tmps r).run E.P w = .ok u w ∧ VRel E μ v u := by
      cases r with
      | tmp t =>
        simp only [cRes] at h1; cases h1
        simp only [result1] at h3
        split at h3
        · rename_i v' hs
          cases h3
          obtain ⟨u, hu, hrel⟩ := hf.val t _ hs
          refine ⟨u, ?_, hrel⟩
          simp [resOne, hu]
        · cases h3
      | cell x t =>
        simp only [cRes] at h1
        rw [Option.map_eq_some_iff] at h1
        obtain ⟨n, hn, rfl⟩ := h1
        simp only [result1] at h3
        split at h3
        case h_2 => cases h3
        rename_i ad had
        unfold loadAt at h3
        split at h3
        case h_2 => cases h3
        rename_i cs o hcs
        have hco : cOpd E (.tmp x) = some (.tmp x) := rfl
        obtain ⟨b, p, c, e, fr, j1, j2, j3, j4⟩ := cellsAt_rel hf hr hco had hcs
        obtain ⟨u, j5, j6⟩ := load_rel (P := E.P) hn j2 j3 j4 h3
        refine ⟨u, ?_, j6⟩
        have j1' : a.tmps.getD x Go.undef = .pointer (some ⟨b, p + o, none⟩) := j1
        simp only [resOne, j1', asAddr, Sem.run_bind, Sem.run_pure, Result.andThen_ok, j5]
    obtain ⟨u, k3, k4⟩ := hone
    refine ⟨u :: l, ?_, ?_⟩
    · rw [List.mapM_cons, Sem.run_bind, k3, Result.andThen_ok, Sem.run_bind, k1, Result.andThen_ok]
      rfl
    · simp only [VRels]; exact ⟨u, l, rfl, k4, k2⟩
theorem results_rel {ν : Fr} {μ : MM} {s : Slots} {h : Heap} {a : Act} {w : World} (hf : FRel E lo ν μ (sget s) a.tmps w) (hr : Rel E μ h w) {fn : Func} {as : List ARes} {vs : List AVal} (hc : cRess E.P fn.results.toList = some as) (he : resultsL s h as = some vs) :
    ∃ v, (results fn a.tmps).run E.P w = .ok v w ∧ VRel E μ (tupled vs) v := by
  obtain ⟨l, k1, k2⟩ := res_rel hf hr hc he
  have hl := k2.length
  have hrun : (results fn a.tmps).run E.P w = .ok (if h : l.toArray.size = 1 then l.toArray[0] else .tuple l.toArray) w := by
    have e : results fn a.tmps = (do
        let vs ← fn.results.mapM (resOne a.tmps)
        pure (if h : vs.size = 1 then vs[0] else .tuple vs)) := by
      unfold results
      rfl
    rw [e, Array.mapM_eq_mapM_toList, Sem.run_bind, Sem.run_map, k1]
    rfl
  refine ⟨_, hrun, ?_⟩
  clear he k1 hrun
  match vs, l, hl, k2 with
  | [], [], _, _ => simp [tupled, VRel, VRels]
  | [v], [u], _, k2 =>
    simp only [VRels] at k2
    obtain ⟨u', r', e, h1, h2⟩ := k2
    cases e
    simpa [tupled] using h1
  | v :: v2 :: vs, u :: u2 :: l, _, k2 =>
    have : ¬ ((u :: u2 :: l).toArray.size = 1) := by simp
    rw [dif_neg this]
    simp only [tupled, VRel]
    exact ⟨_, rfl, k2⟩
end
section
theorem reach_spec (h : Heap) (n0 : Nat) : ∀ (f : Nat) (todo acc : List Nat), acc.Nodup → (∀ i ∈ acc, n0 ≤ i) → (reach h n0 f todo acc).Nodup ∧ ∀ i ∈ reach h n0 f todo acc, n0 ≤ i
  | 0, todo, acc, h1, h2 => by simp only [reach]; exact ⟨h1, h2⟩
  | f + 1, [], acc, h1, h2 => by simp only [reach]; exact ⟨h1, h2⟩
  | f + 1, i :: r, acc, h1, h2 => by
    simp only [reach]
    split
    · exact reach_spec h n0 f r acc h1 h2
    · split
      · exact reach_spec h n0 f r acc h1 h2
      · rename_i hi hc
        refine reach_spec h n0 f _ _ ?_ fun j hj => ?_
        · rw [List.nodup_append]
          refine ⟨h1, by simp, fun a ha b hb => ?_⟩
          simp at hb; subst hb
          intro e; subst e
          simp at hc; exact hc ha
        · rcases List.mem_append.1 hj with hj | hj
          · exact h2 j hj
          · simp at hj; omega
theorem idxIn_get : ∀ {i : Nat} {l : List Nat}, i ∈ l → l[idxIn i l]? = some i
  | i, [], h => by cases h
  | i, j :: r, h => by
    simp only [idxIn]
    split
    · rename_i e; subst e; rfl
    · rename_i hne
      have : i ∈ r := by
        rcases List.mem_cons.1 h with e | e
        · exact absurd e.symm hne
        · exact e
      simpa using idxIn_get this
end
end Go.Abs

/-
  A call's end, and the whole: what the evaluator gives, the model's call gives.
-/
namespace Go.Abs
section
variable {E : Env}
theorem LoopRel.ren {μ μ' : MM} {g : Nat} {st : LoopSt} {p : Option AExit} {sl : List (Nat × AVal)} {r : Loop} (h : LoopRel E μ g st p sl r) (F : Nat → Nat) (hm : ∀ j ∈ AObj.ids (.loop g st p sl), j < μ.length → μ'[F j]? = μ[j]?) :
    LoopRel E μ' g st p (sl.map fun x => (x.1, x.2.ren F)) r := by
  refine ⟨h.code, h.st, h.pend, fun k x hk => ?_⟩
  rw [List.getElem?_map, Option.map_eq_some_iff] at hk
  obtain ⟨y, hy, rfl⟩ := hk
  obtain ⟨v', h1, h2⟩ := h.slots k y hy
  refine ⟨v', h1, ren_rel F (fun i hi hl => hm i ?_ hl) h2⟩
  simp only [AObj.ids]
  exact idsL_mem (k := k) (by rw [List.getElem?_map, hy]; rfl) hi
theorem finish_sound {lo : Nat} {μ0 μ : MM} {h0 h : Heap} {w0 w : World} {v : AVal} {v' : Value} (hlo : lo = w0.heap.size) (hr0 : Rel E μ0 h0 w0) (hst : Step (fun k => lo ≤ k) h.wmin μ0 w0 μ w) (hr : Rel E μ h w)
    (hv : VRel E μ v v') (hev : Evol { h0 with wmin := h0.size } h) :
    ∃ μ', Step (fun _ => False) (finish h0 v h).2.wmin μ0 w0 μ' w ∧ VRel E μ' (finish h0 v h).1 v' ∧ Rel E μ' (finish h0 v h).2 w := by
  have hX : ∀ b, lo ≤ b → b < w0.heap.size → False := fun b h1 h2 => by omega
  have hn0 : μ0.length = h0.size := hr0.len
  unfold finish
  split
  · exact ⟨μ, hst.weaken (Nat.min_le_right _ _) hX, hv, hr.same rfl rfl rfl⟩
  · rename_i hw
    have hst1 : Step (fun _ => False) μ0.length μ0 w0 μ w := hst.weaken (by omega) hX
    have hkeep : ∀ i, i < μ0.length → μ[i]? = μ0[i]? := fun i hi => (hst1.old i hi).resolve_right fun ⟨a, _⟩ => by omega
    have hblk : ∀ (i : Nat) (m : M), μ0[i]? = some (some m) → w.heap[m.blk]? = w0.heap[m.blk]? := fun i m hm => by
      refine hst1.block _ (hr0.lt i m hm) (fun h => h) fun j mj hj hmj => ?_
      exact absurd (lt_of_get hmj) (by omega)
    split
    · rename_i hu
      refine ⟨μ0, ⟨hst1.os, hst1.tape, hst1.output, hst1.size, ?_, Nat.le_refl _, fun _ _ => .inl rfl, fun i m hi hm => absurd (lt_of_get hm) (by omega)⟩, under_rel (fun i hi => hkeep i (by omega)) hu hv, hr0.keep hst1.size hblk⟩
      intro k hk hx _
      exact hst1.block k hk hx fun j mj hj hmj => absurd (lt_of_get hmj) (by omega)
    · simp only
      split
      · rename_i hok
        generalize hK : reach h h0.size 1000 v.ids [] = K at hok ⊢
        have hspec := reach_spec h h0.size 1000 v.ids [] (by simp) (by simp)
        rw [hK] at hspec
        obtain ⟨hnd, hge⟩ := hspec
        rw [List.all_eq_true] at hok
        have hok' : ∀ i ∈ v.ids ++ K.flatMap fun i => ((h.get i).map AObj.ids).getD [], i < h0.size ∨ i ∈ K := fun i hi => by
          have := hok i hi
          simpa using this
        let F : Nat → Nat := fun i => if i < h0.size then i else h0.size + idxIn i K
        let μ2 : MM := μ0 ++ K.map fun i => (μ[i]?).getD none
        have hold : ∀ i, i < h0.size → μ2[i]? = μ0[i]? := fun i hi => List.getElem?_append_left (by omega)
        have hnew : ∀ j, μ2[h0.size + j]? = (K[j]?).map fun i => (μ[i]?).getD none := fun j => by
          show (μ0 ++ _)[_]? = _
          rw [List.getElem?_append_right (by omega), hn0, Nat.add_sub_cancel_left, List.getElem?_map]
        have hpull : ∀ (i : Nat) (m : M), μ2[i]? = some (some m) → ∃ p, μ[p]? = some (some m) ∧ ((i < h0.size ∧ p = i) ∨ (h0.size ≤ i ∧ h0.size ≤ p ∧ K[i - h0.size]? = some p)) := fun i m hm => by
          rcases Nat.lt_or_ge i h0.size with hi | hi
          · exact ⟨i, by rw [hkeep i (by omega), ← hold i hi]; exact hm, .inl ⟨hi, rfl⟩⟩
          · obtain ⟨j, rfl⟩ := Nat.exists_eq_add_of_le hi
            rw [hnew] at hm
            rw [Option.map_eq_some_iff] at hm
            obtain ⟨p, hp, hm⟩ := hm
            refine ⟨p, ?_, .inr ⟨by omega, hge p (List.mem_of_getElem? hp), by rw [Nat.add_sub_cancel_left]; exact hp⟩⟩
            cases hq : μ[p]? with
            | none => rw [hq] at hm; cases hm
            | some x => rw [hq] at hm; simp at hm; rw [hm]
        have hF : ∀ i, (i < h0.size ∨ i ∈ K) → i < μ.length → μ2[F i]? = μ[i]? := fun i hi hl => by
          by_cases h1 : i < h0.size
          · show μ2[if i < h0.size then i else _]? = _
            rw [if_pos h1, hold i h1, hkeep i (by omega)]
          · have h2 : i ∈ K := hi.resolve_left h1
            show μ2[if i < h0.size then i else _]? = _
            rw [if_neg h1, hnew, idxIn_get h2]
            simp [List.getElem?_eq_getElem hl]
        have hl2 : Later μ0 μ2 := ⟨by simp [μ2], fun i hi => .inl (hold i (by omega))⟩
        refine ⟨μ2, ?_, ?_, ?_⟩
        · refine ⟨hst1.os, hst1.tape, hst1.output, hst1.size, ?_, hl2.len, fun i hi => .inl (hold i (by omega)), ?_⟩
          · intro k hk hx _
            exact hst1.block k hk hx fun j mj hj hmj => absurd (lt_of_get hmj) (by omega)
          · intro i m hi hm
            obtain ⟨p, hp, h1 | h1⟩ := hpull i m hm
            · omega
            · rcases hst1.new p m (by omega) hp with h2 | ⟨r, m0, h2, h3, _⟩
              · exact .inl h2
              · exact absurd (lt_of_get h3) (by omega)
        · exact ren_rel F (fun i hi hl => hF i (hok' i (List.mem_append_left _ hi)) hl) hv
        · constructor
          · simp [μ2, hn0, Heap.size]
          · have := hr0.bs; simp; omega
          · intro i o ho
            simp only at ho
            rcases Nat.lt_or_ge i h0.size with hi | hi
            · rw [List.getElem?_append_left hi] at ho
              refine (hr0.obj i o ho).keep hl2 fun m hm => ⟨by rw [hold i hi]; exact hm, hblk i m hm⟩
            · obtain ⟨j, rfl⟩ := Nat.exists_eq_add_of_le hi
              rw [List.getElem?_append_right hi, show h0.size + j - h0.objs.length = j from Nat.add_sub_cancel_left .., List.getElem?_map, Option.map_eq_some_iff] at ho
              obtain ⟨p, hp, ho⟩ := ho
              have hpg := hge p (List.mem_of_getElem? hp)
              have hbs := hr0.bs
              have hbase : h.base = h0.base := hev.base
              have hbs' : h0.base ≤ h0.size := hbs
              cases hq : h.get p with
              | none =>
                rw [hq] at ho
                simp at ho; subst ho
                have hq' : h.objs[p]? = none := hq
                have : μ[p]? = none := by
                  rw [List.getElem?_eq_none_iff] at hq' ⊢
                  rw [hr.len]; exact hq'
                show μ2[_]? = _
                rw [hnew, hp]; simp [this]
              | some o' =>
                rw [hq] at ho
                simp at ho; subst ho
                have hids : ∀ i ∈ o'.ids, i < μ.length → μ2[F i]? = μ[i]? := fun i hi hl => hF i (hok' i (List.mem_append_right _ (List.mem_flatMap.2 ⟨p, List.mem_of_getElem? hp, by rw [hq]; simpa using hi⟩))) hl
                have hm2 : ∀ x, μ[p]? = some x → μ2[h0.size + j]? = some x := fun x hx => by rw [hnew, hp]; simp [hx]
                have hor := hr.obj p o' hq
                cases o' with
                | dead => exact hm2 _ hor
                | cells esz cs =>
                  obtain ⟨m, c, e, fr, h1, h2, h3, h4, h5, h6, h7⟩ := hor
                  refine ⟨m, c, e, fr, hm2 _ h1, h2, h3, h4, by rw [renL_length]; exact h5, ?_, fun _ => h7 (by omega)⟩
                  intro k x hk
                  change (AVal.renL F cs)[k]? = _ at hk
                  rw [renL_get, Option.map_eq_some_iff] at hk
                  obtain ⟨y, hy, rfl⟩ := hk
                  obtain ⟨k1, y', k2, k3⟩ := h6 k y hy
                  refine ⟨(isOne_ren F y).trans k1, y', k2, ren_rel F (fun i hi hl => hids i (idsL_mem hy hi) hl) k3⟩
                | map es clock =>
                  obtain ⟨m, es', h1, h2, h3, h4⟩ := hor
                  refine ⟨m, es', hm2 _ h1, h2, by rw [List.length_map]; exact h3, ?_⟩
                  intro k x hk
                  rw [List.getElem?_map, Option.map_eq_some_iff] at hk
                  obtain ⟨y, hy, rfl⟩ := hk
                  obtain ⟨y', k1, k2, k3, k4⟩ := h4 k y hy
                  have hin : ∀ i, i ∈ y.1.ids ∨ i ∈ y.2.1.ids → i ∈ AObj.ids (.map es clock) := fun i hi => by
                    simp only [AObj.ids, List.mem_flatMap, List.mem_append]
                    exact ⟨y, List.mem_of_getElem? hy, hi⟩
                  exact ⟨y', k1, ren_rel F (fun i hi hl => hids i (hin i (.inl hi)) hl) k2, ren_rel F (fun i hi hl => hids i (hin i (.inr hi)) hl) k3, k4⟩
                | iter s pos =>
                  obtain ⟨m, h1, h2⟩ := hor
                  exact ⟨m, hm2 _ h1, h2⟩
                | mapIter r a b c =>
                  obtain ⟨m, r', ⟨h1, h0⟩, h2, h3⟩ := hor
                  refine ⟨m, r', ⟨hm2 _ h1, h0⟩, h2, ?_⟩
                  have h4 := ren_rel F (fun i hi hl => hids i (by cases r <;> exact hi) hl) h3
                  cases r <;> simpa [AVal.ren] using h4
                | loop g st pd sl =>
                  obtain ⟨m, r, h1, h2, h3⟩ := hor
                  exact ⟨m, r, hm2 _ h1, h2, h3.ren F hids⟩
          · intro i j mi mj hij hi hmi hmj
            obtain ⟨p, hp, hp'⟩ := hpull i mi hmi
            obtain ⟨q, hq, hq'⟩ := hpull j mj hmj
            have hbs : h0.base ≤ h0.size := hr0.bs
            have hbase : h.base = h0.base := hev.base
            refine hr.sep p q mi mj ?_ (by simp only at hi; omega) hp hq
            intro e
            rcases hp' with ⟨a1, a2⟩ | ⟨a1, a2, a3⟩ <;> rcases hq' with ⟨b1, b2⟩ | ⟨b1, b2, b3⟩
            · omega
            · omega
            · omega
            · subst e
              have := (List.getElem?_inj (lt_of_get a3) hnd).1 (a3.trans b3.symm)
              omega
          · intro i m hm
            obtain ⟨p, hp, _⟩ := hpull i m hm
            exact hr.lt p m hp
      · refine ⟨μ, ?_, hv, hr.same rfl rfl rfl⟩
        exact hst1.fresh _
theorem enter_get : ∀ (args : List AVal) (i t : Nat), sget (enter i args) t = if i ≤ t then (args[t - i]?).map Slot.val else none
  | [], i, t => by simp [enter, sget]
  | v :: r, i, t => by
    simp only [enter, sget]
    split
    · rename_i e; subst e; simp
    · rename_i hne
      rw [enter_get r (i + 1) t]
      by_cases h1 : i + 1 ≤ t
      · rw [if_pos h1, if_pos (by omega), show t - i = (t - (i + 1)) + 1 by omega, List.getElem?_cons_succ]
      · rw [if_neg h1, if_neg (by omega)]
def RndOK (E : Env) : List (Nat × ARound) → Prop
  | [] => True
  | p :: r => E.rnd p.1 = some p.2 ∧ RndOK E r
theorem RndOK.of {l : List (Nat × ARound)} (h : RndOK E l) : ∀ p ∈ l, E.rnd p.1 = some p.2 := by
  induction l with
  | nil => simp
  | cons a r ih =>
    intro p hp
    rcases List.mem_cons.1 hp with rfl | hp
    · exact h.1
    · exact ih h.2 p hp
structure LibOK (E : Env) (f : FuncId) (fn : Func) (F : List AVal → Heap → Option AVal) : Prop where
  name : fn.name ≠ "runtime.NumGoroutine"
  body : fn.body.isSome = true
  run : ∀ args h v, F args h = some v → ∀ (μ : MM) (w : World) (args' : Array Value), VRels E μ args args'.toList → Rel E μ h w → Calls E.P f args' w (Ends E μ w v h)
def FnOK (E : Env) (T : Nat → Option AFunc) (f g : Nat) : Prop :=
  (∃ fn closed hint af, E.P.funcs[f]? = some fn ∧ T g = some af ∧ cFunc E closed hint fn = some af ∧ RndOK E af.body.rounds) ∨
  (∃ fn af F, E.P.funcs[f]? = some fn ∧ T g = some af ∧ af.round = some (.lib F) ∧ LibOK E f fn F)
structure Agrees (E : Env) (T : Nat → Option AFunc) : Prop where
  fn : ∀ f g, E.gid f = some g → FnOK E T f g
  rnd : ∀ g ar, E.rnd g = some ar → ∃ af, T g = some af ∧ af.round = some (.round ar)
def AgreesL (E : Env) (T : Nat → Option AFunc) : List (Nat × Nat) → Prop
  | [] => True
  | p :: r => FnOK E T p.1 p.2 ∧ AgreesL E T r
def ASpec.rnd : ASpec → Option ARound
  | .round r => some r
  | .lib _ => none
def rndOf (T : Nat → Option AFunc) (g : Nat) : Option ARound := (T g).bind fun f => f.round.bind ASpec.rnd
theorem agrees_of {P : Program} {T : Nat → Option AFunc} {l : List (Nat × Nat)} (h : AgreesL ⟨P, fun f => List.lookup f l, rndOf T⟩ T l) : Agrees ⟨P, fun f => List.lookup f l, rndOf T⟩ T := by
  constructor
  · intro f g hg
    simp only at hg
    have : ∀ {r : List (Nat × Nat)}, AgreesL ⟨P, fun f => List.lookup f l, rndOf T⟩ T r → List.lookup f r = some g → FnOK ⟨P, fun f => List.lookup f l, rndOf T⟩ T f g := by
      intro r
      induction r with
      | nil => intro _ h1; simp at h1
      | cons p r ih =>
        intro h1 h2
        obtain ⟨a, b⟩ := p
        simp only [AgreesL] at h1
        rw [List.lookup_cons] at h2
        split at h2
        · rename_i e
          rw [beq_iff_eq] at e
          subst e
          cases h2
          exact h1.1
        · exact ih h1.2 h2
    exact this h hg
  · intro g ar hg
    simp only [rndOf, Option.bind_eq_some_iff] at hg
    obtain ⟨af, h1, s, h2, h3⟩ := hg
    cases s with
    | round r => cases h3; exact ⟨af, h1, h2⟩
    | lib _ => cases h3
theorem Agrees.gid {T : Nat → Option AFunc} (h : Agrees E T) : GidOK E := fun f g hg => by
  rcases h.fn f g hg with ⟨fn, closed, hint, af, h1, h2, h3, _⟩ | ⟨fn, af, F, h1, _, _, h4⟩
  case inr => exact ⟨fn, h1, h4.name, h4.body⟩
  refine ⟨fn, h1, ?_⟩
  unfold cFunc at h3
  split at h3
  case h_2 => cases h3
  rename_i c hb
  split at h3
  case h_2 => cases h3
  split at h3
  case isFalse => cases h3
  rename_i hn
  exact ⟨hn.2, by rw [hb]; rfl⟩
theorem cFunc_round {closed : Bool} {hint : Hint} {fn : Func} {af : AFunc} (h : cFunc E closed hint fn = some af) : af.round = none := by
  unfold cFunc at h
  split at h
  case h_2 => cases h
  split at h
  case h_2 => cases h
  split at h
  case isFalse => cases h
  cases h
  rfl
theorem leaves_marks {lo : Nat} {μ μ0 : MM} {w0 : World} {s : Slots} {h : Heap} {a : Act} {fn : Func} {rs : List ARes} {vs : List AVal} (hrs : cRess E.P fn.results.toList = some rs) (hvs : resultsL s h rs = some vs) {R : Ending → World → Prop}
    (hR : ∀ v' w', VRel E μ (tupled vs) v' → Step (fun k => lo ≤ k) h.wmin μ0 w0 μ w' → Rel E μ h w' → R (.returned v') w') :
    ∀ (l : List Nat) (νv : Nat → Nat) (w : World), Step (fun k => lo ≤ k) h.wmin μ0 w0 μ w → Rel E μ h w → FRel E lo ⟨νv, l⟩ μ (sget s) a.tmps w → LeavesInM (F0 none) 0 E.P fn a.tmps R (l.map markOf) .returning w
  | [], νv, w, hst, hr, hf => by
    obtain ⟨v', r1, r2⟩ := results_rel hf hr hrs hvs
    exact ⟨v', r1, hR v' w r2 hst hr⟩
  | r :: l, νv, w, hst, hr, hf => by
    have hmem : r ∈ (⟨νv, r :: l⟩ : Fr).ds := List.mem_cons_self ..
    have hnd := hf.nodup
    have hnd' := List.nodup_cons.1 hnd
    obtain ⟨hlo, hblk⟩ := hf.ds r hmem
    have hw : w.putObj r (.deferred none) = withBlock w r (.deferred none) := rfl
    refine ⟨by simp, .inl ⟨r, w.putObj r (.deferred none), rfl, run_takeDeferred hblk, leaves_marks hrs hvs hR l νv _ ?_ ?_ ?_⟩⟩
    · refine hst.trans (Step.mk rfl rfl rfl (by simp) (fun k hk hx _ => ?_) (Nat.le_refl _) (fun _ _ => .inl rfl) fun i m hi hm => absurd (lt_of_get hm) (by omega)) (Nat.le_refl _)
      rw [hw]
      exact withBlock_other (by intro e; subst e; exact hx hlo)
    · exact hr.keep (by simp) fun i m hm => by rw [hw]; exact withBlock_other ((hf.sepd r hmem).1 i m hm).symm
    · refine ⟨hf.val, hf.undef, fun t cs hv => ?_, hf.loc, hf.sepv, hf.sepm, fun q hq => ⟨(hf.ds q (List.mem_cons_of_mem _ hq)).1, ?_⟩, fun q hq => hf.sepd q (List.mem_cons_of_mem _ hq), hnd'.2⟩
      · obtain ⟨h1, h2, c, e, fr, h3, h4⟩ := hf.var t cs hv
        refine ⟨h1, h2, c, e, fr, ?_, h4⟩
        rw [hw]
        exact (withBlock_other ((hf.sepd r hmem).2 t cs hv).symm).trans h3
      · rw [hw]
        refine (withBlock_other ?_).trans (hf.ds q (List.mem_cons_of_mem _ hq)).2
        intro e; subst e; exact hnd'.1 hq
theorem eqbE_eq : ∀ {l m : List (AVal × AVal × Nat)}, eqbE l m = true → l = m
  | [], [], _ => rfl
  | [], _ :: _, h => by simp [eqbE] at h
  | _ :: _, [], h => by simp [eqbE] at h
  | (k, v, b) :: r, (k', v', b') :: r', h => by
    simp only [eqbE, Bool.and_eq_true, decide_eq_true_eq] at h
    rw [AVal.eq_of h.1.1.1, AVal.eq_of h.1.1.2, h.1.2, eqbE_eq h.2]
theorem eqbS_eq : ∀ {l m : List (Nat × AVal)}, eqbS l m = true → l = m
  | [], [], _ => rfl
  | [], _ :: _, h => by simp [eqbS] at h
  | _ :: _, [], h => by simp [eqbS] at h
  | (k, v) :: r, (k', v') :: r', h => by
    simp only [eqbS, Bool.and_eq_true, decide_eq_true_eq] at h
    rw [h.1.1, AVal.eq_of h.1.2, eqbS_eq h.2]
theorem AObj.eq_of {a b : AObj} (h : a.eqb b = true) : a = b := by
  cases a <;> cases b <;> simp only [AObj.eqb, Bool.and_eq_true, decide_eq_true_eq, Bool.false_eq_true] at h
  · rfl
  · rw [h.1, AVal.eqL_of h.2]
  · rw [eqbE_eq h.1, h.2]
  · rw [h.1, h.2]
  · rw [h.1.1.1, h.1.1.2, h.1.2, h.2]
  · rw [h.1.1.1, h.1.1.2, h.1.2, eqbS_eq h.2]
theorem eqbO_eq : ∀ {l m : List AObj}, eqbO l m = true → l = m
  | [], [], _ => rfl
  | [], _ :: _, h => by simp [eqbO] at h
  | _ :: _, [], h => by simp [eqbO] at h
  | a :: r, b :: r', h => by
    simp only [eqbO, Bool.and_eq_true] at h
    rw [AObj.eq_of h.1, eqbO_eq h.2]
theorem eqbR_eq {x y : AVal × Heap} (h : eqbR x y = true) : x = y := by
  obtain ⟨v, o, b, w⟩ := x
  obtain ⟨v', o', b', w'⟩ := y
  simp only [eqbR, Bool.and_eq_true, decide_eq_true_eq] at h
  rw [AVal.eq_of h.1.1.1, eqbO_eq h.1.1.2, h.1.2, h.2]
theorem allSame_all {l : List (Option (AVal × Heap))} {r : AVal × Heap} (h : allSame l = some r) : ∀ x ∈ l, x = some r := by
  unfold allSame at h
  split at h
  case h_2 => cases h
  split at h
  case isFalse => cases h
  rename_i hh
  cases h
  rw [List.all_eq_true] at hh
  intro x hx
  rcases List.mem_cons.1 hx with rfl | hx
  · rfl
  · have := hh x hx
    split at this
    · rw [eqbR_eq this]
    · cases this
theorem func_sound {call : CallSem} {n : Nat} (hc : CallOK E call) (hev0 : CallEvol call) (hg : GidOK E) (hm : E.P.follows .mixedOrders = true) {f : FuncId} {fn : Func} {closed : Bool} {hint : Hint} {af : AFunc} (hf : E.P.funcs[f]? = some fn) (hcf : cFunc E closed hint fn = some af) (hrd : RndOK E af.body.rounds)
    {args : List AVal} {h : Heap} {v : AVal} {h' : Heap} (hev : evFunc call n af args h = some (v, h')) {μ : MM} {w : World} {args' : Array Value} (ha : VRels E μ args args'.toList) (hr : Rel E μ h w) :
    CallsIn (F0 none) 0 E.P f args' w (Ends E μ w v h') := by
  unfold cFunc at hcf
  split at hcf
  case h_2 => cases hcf
  rename_i c hb
  split at hcf
  case h_2 => cases hcf
  rename_i ac rs hac hrs
  split at hcf
  case isFalse => cases hcf
  rename_i hsz
  cases hcf
  unfold evFunc at hev
  split at hev
  case isFalse => cases hev
  rename_i hlen
  simp only at hlen hev
  have hal : args'.size = args.length := by have := ha.length; simp at this; exact this.symm
  have hat : At E w.heap.size fn.ntmps μ w [] (enter 0 args) { h with wmin := h.size } { tmps := args' ++ Array.replicate (fn.ntmps - args'.size) undef, defers := [] } w := by
    refine ⟨μ, ⟨fun _ => 0, []⟩, Step.refl _ _ _ _, hr.same rfl rfl rfl, ?_, ?_, rfl, Nat.le_refl _⟩
    · have hval : ∀ (t : Nat) (x : Slot), sget (enter 0 args) t = some x → ∃ v, x = .val v ∧ args[t]? = some v := fun t x hx => by
        rw [enter_get] at hx
        simp at hx
        obtain ⟨v, h1, h2⟩ := hx
        exact ⟨v, h2.symm, h1⟩
      constructor
      · intro t v hv
        obtain ⟨v1, e, h1⟩ := hval t _ hv
        cases e
        obtain ⟨v', h2, h3⟩ := ha.get h1
        refine ⟨v', ?_, h3⟩
        have hlt := lt_of_get h1
        rw [Array.getElem?_append_left (by omega)]
        simpa using h2
      · intro t hx; obtain ⟨_, e, _⟩ := hval t _ hx; cases e
      · intro t cs hx; obtain ⟨_, e, _⟩ := hval t _ hx; cases e
      · intro t t' o cs hx; obtain ⟨_, e, _⟩ := hval t _ hx; cases e
      · intro t t' cs cs' _ hx; obtain ⟨_, e, _⟩ := hval t _ hx; cases e
      · intro t cs i m hx; obtain ⟨_, e, _⟩ := hval t _ hx; cases e
      · intro r hr; cases hr
      · intro r hr; cases hr
      · exact List.nodup_nil
    · simp; omega
  refine callsIn_of_wp_marks hf hb trivial ?_
  have leave : ∀ (y : AExit × St), Evol { h with wmin := h.size } y.2.h → funcEnd ⟨closed, ac.wild, fn.params.size + fn.nfree, fn.ntmps, rs, ac, none⟩ h y = some (v, h') → ∀ a' w', At E w.heap.size fn.ntmps μ w [] y.2.s y.2.h a' w' →
      bodyPostM (F0 none) 0 E.P fn (Ends E μ w v h') y.1.toX a' w' := by
    intro y hevol he a' w' hat'
    have key : ((resultsL y.2.s y.2.h rs).map fun vs => finish h (tupled vs) y.2.h) = some (v, h') → LeavesInM (F0 none) 0 E.P fn a'.tmps (Ends E μ w v h') a'.defers .returning w' := by
      intro h2
      rw [Option.map_eq_some_iff] at h2
      obtain ⟨vs, h2, h3⟩ := h2
      obtain ⟨μ1, ν1, k1, k2, k3, k4, k5, k6⟩ := hat'
      rw [k5, List.append_nil]
      refine leaves_marks hrs h2 (fun v' w2 r2 k1' k2' => ?_) ν1.ds ν1.v w' k1 k2 k3
      obtain ⟨μ2, s1, s2, s3⟩ := finish_sound rfl hr k1' k2' r2 hevol
      rw [h3] at s1 s2 s3
      exact ⟨v', μ2, rfl, s1, s2, s3⟩
    obtain ⟨x, st⟩ := y
    cases x with
    | normal => exact key he
    | ret => exact key he
    | exit id => simp [funcEnd] at he
  split at hev
  · split at hev
    case h_2 => cases hev
    rename_i l hl
    refine outs_sound hc hev0 hg hm false (fun _ => rfl) n _ _ _ hac (fun _ => hrd.of) _ _ hl _ _ _ hat fun y hy a' w' hat' => ?_
    have hall := allSame_all hev
    exact leave y (outs_evol hev0 n _ _ _ hl y hy) (hall _ (List.mem_map_of_mem hy)) a' w' hat'
  · split at hev
    case h_2 => cases hev
    rename_i x hx
    exact code_sound hc hev0 hg hm false (fun _ => rfl) n _ _ _ hac (fun _ => hrd.of) _ _ _ hx _ _ _ hat fun a' w' hat' => leave x (code_evol hev0 n _ _ _ _ hx) hev a' w' hat'
def Holds (E : Env) (μ : MM) (s : Slots) (tmps : Array Value) : Prop :=
  ∀ (t : Nat) (x : Slot), sget s t = some x → ∃ v, x = .val v ∧ ∃ v', tmps[t]? = some v' ∧ VRel E μ v v'
theorem holds_caps {μ : MM} {tmps : Array Value} : ∀ {sl : List (Nat × AVal)}, (∀ (k : Nat) (x : Nat × AVal), sl[k]? = some x → ∃ v', tmps[x.1]? = some v' ∧ VRel E μ x.2 v') → Holds E μ (ofCaps sl) tmps
  | [], _, t, x, h => by simp [ofCaps, sget] at h
  | (u, v) :: sl, hs, t, x, h => by
    simp only [ofCaps, sget] at h
    split at h
    · rename_i e
      cases h
      obtain ⟨v', h1, h2⟩ := hs 0 (u, v) rfl
      simp only at h1
      exact ⟨v, rfl, v', by rw [← e]; exact h1, h2⟩
    · exact holds_caps (fun k x hk => hs (k + 1) x (by simpa using hk)) t x h
theorem holds_args {μ : MM} : ∀ {ps : List Nat} {as : List AVal} {as' : List Value} {s : Slots} {tmps : Array Value}, VRels E μ as as' → (∀ t ∈ ps, t < tmps.size) → Holds E μ s tmps →
    Holds E μ (setArgs ps as s) ((ps.zip as').foldl (fun tmps (t, a) => tmps.setIfInBounds t a) tmps) ∧ ((ps.zip as').foldl (fun tmps (t, a) => tmps.setIfInBounds t a) tmps).size = tmps.size
  | [], as, as', s, tmps, _, _, h => by cases as <;> exact ⟨h, rfl⟩
  | t :: ts, [], as', s, tmps, ha, _, h => by
    simp only [VRels] at ha
    subst ha
    exact ⟨h, rfl⟩
  | t :: ts, v :: vs, as', s, tmps, ha, hp, h => by
    simp only [VRels] at ha
    obtain ⟨v', r', rfl, h1, h2⟩ := ha
    simp only [setArgs, List.zip_cons_cons, List.foldl_cons]
    have := holds_args (ps := ts) (as := vs) (as' := r') (s := (t, .val v) :: s) (tmps := tmps.setIfInBounds t v') h2 (fun u hu => by simp; exact hp u (List.mem_cons_of_mem _ hu)) (fun u x hx => ?_)
    · refine ⟨this.1, this.2.trans (by simp)⟩
    · simp only [sget] at hx
      have ht := hp t (List.mem_cons_self ..)
      split at hx
      · rename_i e
        cases hx
        subst e
        exact ⟨v, rfl, v', by simp [ht], h1⟩
      · rename_i hne
        obtain ⟨v2, e2, v3, h3, h4⟩ := h u x hx
        exact ⟨v2, e2, v3, by rw [Array.getElem?_setIfInBounds_ne hne]; exact h3, h4⟩
theorem At.record {lo nt : Nat} {μ0 : MM} {w0 : World} {ds : List Deferred} {s : Slots} {h : Heap} {a : Act} {w : World} (hat : At E lo nt μ0 w0 ds s h a w) {i g : Nat} {st : LoopSt} {p : Option AExit} {sl : List (Nat × AVal)} (hi : h.get i = some (.loop g st p sl)) (hb : h.base ≤ i)
    {m0 : M} (hm0 : μ0[i]? = some (some m0)) (g2 : Nat) (st2 : LoopSt) (p2 : Option AExit) (sl2 : List (Nat × AVal)) :
    ∃ r, w.heap[m0.blk]? = some (.loop r) ∧ st.is r.state ∧ ∀ r2 : Loop, (∀ μ, LoopRel E μ g st p sl r → LoopRel E μ g2 st2 p2 sl2 r2) → At E lo nt μ0 w0 ds s (h.put i (.loop g2 st2 p2 sl2)) a (w.putObj m0.blk (.loop r2)) := by
  obtain ⟨μ, ν, k1, k2, k3, k4, k5, k6⟩ := hat
  obtain ⟨m, r, q1, q2, q3⟩ := k2.obj i _ hi
  have hm : m = m0 := by
    rcases k1.old i (lt_of_get hm0) with q | ⟨_, q⟩
    · rw [q, hm0] at q1; cases q1; rfl
    · rw [q] at q1; cases q1
  subst hm
  refine ⟨r, q2, q3.st, fun r2 hr2 => ?_⟩
  have hw : w.putObj m.blk (.loop r2) = withBlock w m.blk (.loop r2) := rfl
  rw [hw]
  refine ⟨μ, ν, (k1.trans (Step.put q1 (Nat.min_le_right _ _) _) (Nat.min_le_left _ _)), k2.put hb q1 ?_, ?_, k4, k5, by simpa [withBlock] using k6⟩
  · exact ⟨m, r2, q1, withBlock_same (k2.lt i m q1), hr2 μ q3⟩
  · refine k3.keep (Later.refl μ) (fun t cs hv => withBlock_other (k3.sepm t cs i m hv q1)) (fun t cs j m' hv hj hm' => absurd (lt_of_get hm') (by omega)) fun r hr => ⟨withBlock_other ((k3.sepd r hr).1 i m q1), fun j m' hj hm' => absurd (lt_of_get hm') (by omega)⟩
theorem round_sound {call : CallSem} {n g : Nat} (hc : CallOK E call) (hev0 : CallEvol call) (hg : GidOK E) (hm : E.P.follows .mixedOrders = true) {ar : ARound} (hrnd : E.rnd g = some ar) {i k : Nat} {args : List AVal} {h : Heap} {v : AVal} {h' : Heap} {st : LoopSt} {p : Option AExit} {sl : List (Nat × AVal)}
    (hev : evRound call n g ar (.ptr (some (i, k)) :: args) h = some (v, h')) (hi : h.get i = some (.loop g st p sl)) {μ : MM} {w : World} {args' : Array Value} (ha : VRels E μ args args'.toList) (hr : Rel E μ h w) :
    ∃ (m : M) (r : Loop), μ[i]? = some (some m) ∧ w.heap[m.blk]? = some (.loop r) ∧ args'.size = r.params.size ∧
      RoundIn (F0 none) 0 E.P m.blk r.fn ((r.params.zip args').foldl (fun tmps (t, a) => tmps.setIfInBounds t a) r.tmps) r.assign r.body w (Ends E μ w v h') := by
  obtain ⟨m, r, q1, q2, q3⟩ := hr.obj i _ hi
  obtain ⟨ar', ha1, hb1, e1, e2, e3, e4, e5⟩ := q3.code
  rw [hrnd] at e1
  cases e1
  have hal : args'.size = args.length := by have := ha.length; simp at this; exact this.symm
  unfold evRound at hev
  simp only at hev
  split at hev
  case isFalse => cases hev
  rename_i hlen
  split at hev
  case h_2 => cases hev
  rename_i s hs
  split at hev
  case h_2 => cases hev
  rename_i st1 hst1
  have hps : r.params.size = args'.size := by
    rw [hal, hlen.1, ← e2]; simp
  refine ⟨m, r, q1, q2, hps.symm, ?_⟩
  have hs' : s = setArgs ar.params args (ofCaps sl) := by
    unfold roundSlots at hs
    rw [hi] at hs
    cases hs; rfl
  subst hs'
  have hfold : (r.params.zip args').foldl (fun tmps (t, a) => tmps.setIfInBounds t a) r.tmps = (ar.params.zip args'.toList).foldl (fun tmps (t, a) => tmps.setIfInBounds t a) r.tmps := by
    rw [← e2, ← Array.foldl_toList, Array.toList_zip]
  obtain ⟨hh, hsz⟩ := holds_args ha e3 (holds_caps q3.slots)
  rw [← hfold] at hh hsz
  generalize (r.params.zip args').foldl (fun tmps (t, a) => tmps.setIfInBounds t a) r.tmps = tmps at hh hsz ⊢
  have hat : At E w.heap.size r.tmps.size μ w [] (setArgs ar.params args (ofCaps sl)) { h with wmin := h.size } { tmps := tmps, defers := [] } w := by
    refine ⟨μ, ⟨fun _ => 0, []⟩, Step.refl _ _ _ _, hr.same rfl rfl rfl, ?_, hsz, rfl, Nat.le_refl _⟩
    constructor
    · intro t v hv
      obtain ⟨v1, e, h1⟩ := hh t _ hv
      cases e
      exact h1
    · intro t hx; obtain ⟨_, e, _⟩ := hh t _ hx; cases e
    · intro t cs hx; obtain ⟨_, e, _⟩ := hh t _ hx; cases e
    · intro t t' o cs hx; obtain ⟨_, e, _⟩ := hh t _ hx; cases e
    · intro t t' cs cs' _ hx; obtain ⟨_, e, _⟩ := hh t _ hx; cases e
    · intro t cs i m hx; obtain ⟨_, e, _⟩ := hh t _ hx; cases e
    · intro r hr; cases hr
    · intro r hr; cases hr
    · exact List.nodup_nil
  refine roundIn_of_wpIn trivial ?_
  show Code.wpIn (F0 (some m.blk)) 0 E.P r.assign _ _ _
  unfold roundIn at hst1
  split at hst1
  case h_2 => cases hst1
  rename_i st2 he1
  split at hst1
  case h_2 => cases hst1
  rename_i g' p' sl' hgi
  split at hst1
  case isFalse => cases hst1
  rename_i hgg
  subst hgg
  cases hst1
  have hevA := code_evol hev0 n _ _ _ _ he1
  refine code_sound hc hev0 hg hm true (fun h => by cases h) n _ _ _ e4 (fun h => by cases h) _ _ _ he1 _ _ _ hat fun a1 w1 hat1 => ?_
  have hbi : st2.h.base ≤ i := by rw [hevA.base]; exact hlen.2
  obtain ⟨r1, f1, f2, f3⟩ := hat1.record hgi hbi q1 g' .busy p' sl'
  refine ⟨_, run_beginRound f1 f2, ?_⟩
  have hat2 := f3 { r1 with state := .busy } fun μ q => ⟨q.code, rfl, q.pend, q.slots⟩
  show Code.wpIn (F0 (some m.blk)) 0 E.P r.body _ _ _
  unfold roundOut at hev
  split at hev
  case h_2 => cases hev
  rename_i e st3 he2
  split at hev
  case h_2 => cases hev
  rename_i g3 st4 p4 sl4 hg4
  split at hev
  case isFalse => cases hev
  rename_i hgg
  subst hgg
  have hfin := Option.some.inj hev
  have hevB := code_evol hev0 n _ _ _ _ he2
  refine code_sound hc hev0 hg hm true (fun h => by cases h) n _ _ _ e5 (fun h => by cases h) _ _ _ he2 _ _ _ hat2 fun a3 w3 hat3 => ?_
  have hbi3 : st3.h.base ≤ i := by rw [hevB.base]; exact hbi
  obtain ⟨r3, j1, j2, j3⟩ := hat3.record hg4 hbi3 q1 g3 (if e = .normal then .ready else .done) (if e = .normal then none else some e) sl4
  have hend : ∀ (jump : Option Code) (st5 : LoopSt) (p5 : Option AExit), st5 = (if e = .normal then .ready else .done) → p5 = (if e = .normal then none else some e) → jump = p5.map AExit.code → jump.isNone = decide (e = .normal) →
      ∃ v1 w', (Instr.endRound m.blk jump).run E.P w3 = .ok v1 w' ∧ Ends E μ w v h' (.returned v1) w' := by
    intro jump st5 p5 h1 h2 h3 h4
    rw [← h1, ← h2] at hfin
    refine ⟨_, _, run_endRound jump j1, ?_⟩
    have hst5 : st5.is (if jump.isNone then .ready else .done : LoopState) := by
      rw [h4, h1]
      by_cases hn : e = .normal <;> simp [hn, LoopSt.is]
    have hat4 := j3 { r3 with state := if jump.isNone then .ready else .done, pending := jump } fun μ q => ⟨q.code, by rw [← h1]; exact hst5, by rw [← h2]; exact h3, q.slots⟩
    rw [← h1, ← h2] at hat4
    obtain ⟨μ5, ν5, l1, l2, l3, l4, l5, l6⟩ := hat4
    have hv : VRel E μ5 (.bool (decide (e = .normal))) (.bool jump.isNone) := by rw [h4]; simp [VRel]
    have hx : Evol { h with wmin := h.size } st3.h := (Evol.trans hevA (Evol.put _ _ _)).trans hevB
    obtain ⟨μ6, s1, s2, s3⟩ := finish_sound rfl hr l1 l2 hv (hx.trans (Evol.put _ _ _))
    rw [hfin] at s1 s2 s3
    exact ⟨_, μ6, rfl, s1, s2, s3⟩
  cases e with
  | normal => exact hend none _ _ rfl rfl rfl rfl
  | ret => exact hend (some .ret) _ _ rfl rfl rfl rfl
  | exit id => exact hend (some (.exit id)) _ _ rfl rfl rfl rfl
theorem call_sound {T : Nat → Option AFunc} (hT : Agrees E T) (hm : E.P.follows .mixedOrders = true) : ∀ n, CallOK E (evCall T n)
  | 0 => ⟨by intro g args h v h' e; simp [evCall] at e, by intro g i k args h v h' st p sl e; simp [evCall] at e⟩
  | n + 1 => by
    constructor
    · intro g args h v h' e f hf μ w args' ha hr
      rcases hT.fn f g hf with ⟨fn, closed, hint, af, h1, h2, h3, h4⟩ | ⟨fn, af, F, h1, h2, h3, h4⟩
      case inr =>
        simp only [evCall, h2, h3, Option.map_eq_some_iff] at e
        obtain ⟨v0, e1, e2⟩ := e
        cases e2
        exact callsIn_wide.2 (h4.run _ _ _ e1 _ _ _ ha hr)
      simp only [evCall, h2, cFunc_round h3] at e
      have key : ∀ (args : List AVal) (h : Heap) (v : AVal) (h' : Heap), evFunc (evCall T n) n af args h = some (v, h') → ∀ (μ : MM) (w : World) (args' : Array Value), VRels E μ args args'.toList → Rel E μ h w →
          CallsIn (F0 none) 0 E.P f args' w (Ends E μ w v h') := fun args h v h' e μ w args' ha hr =>
        func_sound (call_sound hT hm n) (call_evol T n) hT.gid hm h1 h3 h4 e ha hr
      cases hcl : af.closed with
      | false => rw [hcl] at e; exact key _ _ _ _ e _ _ _ ha hr
      | true =>
        rw [hcl] at e
        simp only [wrapC, evClosed, if_true] at e
        split at e
        case isFalse => cases e
        rename_i hu
        split at e
        case h_2 => cases e
        rename_i v0 h0 he
        split at e
        case isFalse => cases e
        rename_i hv0
        cases e
        have hr0 : Rel E [] ⟨[], 0, 0⟩ w := ⟨rfl, Nat.le_refl _, by simp, by simp, by simp⟩
        refine CallsIn.mono (F := F0 none) (n := 0) (key _ _ _ _ he [] w args' (unders_rel (n := 0) (fun i hi => absurd hi (by omega)) hu ha) hr0) fun e w' ⟨v', μ', h1, h2, h3, _⟩ => ?_
        have hb : ∀ k, k < w.heap.size → w'.heap[k]? = w.heap[k]? := fun k hk => h2.block k hk (fun h => h) fun i m _ hm => by simp at hm
        refine ⟨v', μ, h1, ⟨h2.os, h2.tape, h2.output, h2.size, fun k hk _ _ => hb k hk, Nat.le_refl _, fun _ _ => .inl rfl, fun i m hi hm => absurd (lt_of_get hm) (by omega)⟩,
          under_rel (n := 0) (fun i hi => absurd hi (by omega)) hv0 h3, hr.keep h2.size fun i m hm => hb _ (hr.lt i m hm)⟩
    · intro g i k args h v h' st p sl e hi μ w args' ha hr
      obtain ⟨m, r, q1, q2, q3⟩ := hr.obj i _ hi
      obtain ⟨ar, _, _, e1, _⟩ := q3.code
      obtain ⟨af, e2, e3⟩ := hT.rnd g ar e1
      simp only [evCall, e2, e3] at e
      exact round_sound (call_sound hT hm n) (call_evol T n) hT.gid hm e1 e hi ha hr
theorem x_sound {T : Nat → Option AFunc} (hT : Agrees E T) (hm : E.P.follows .mixedOrders = true) {g : Nat} {args : List AVal} {h : Heap} {v : AVal} {h' : Heap} (e : xCall T g args h = some (v, h')) {f : FuncId} (hf : E.gid f = some g) {μ : MM} {w : World} {args' : Array Value} (ha : VRels E μ args args'.toList) (hr : Rel E μ h w) :
    Calls E.P f args' w (Ends E μ w v h') := by
  obtain ⟨n, hn⟩ := (xCall_iff T _ _ _ _).1 e
  exact callsIn_wide.1 ((call_sound hT hm n).fn g args h v h' hn f hf μ w args' ha hr)
end
end Go.Abs

/-
  What a law is asked of: its arguments, as data, and where they lie in the machine's memory.
-/
namespace Go.Abs
open Go.RowKit
inductive Sh where
  | bool
  | int (k : IntKind)
  | str
  | slice (e : Sh)
  | struct (fs : List Sh)
mutual
def Sh.size : Sh → Nat
  | .struct fs => Sh.sizes fs
  | _ => 1
def Sh.sizes : List Sh → Nat
  | [] => 0
  | s :: r => s.size + Sh.sizes r
end
inductive Dat where
  | bool (b : Bool)
  | int (n : Int)
  | str (s : List UInt8)
  | nil
  | row (l : List Dat)
  | agg (l : List Dat)
abbrev reachB : Nat := 140737488351232
mutual
def Has (h : Heap) : Sh → Dat → List AVal → Prop
  | .bool, .bool b, cs => cs = [.bool b]
  | .int k, .int n, cs => cs = [.int k n] ∧ k.min ≤ n ∧ n ≤ k.max
  | .str, .str s, cs => cs = [.str s] ∧ s.length ≤ reachB
  | .slice _, .nil, cs => cs = [.slice none 0 (some 0)]
  | .slice e, .row l, cs => l.length ≤ reachB ∧ ∃ (i : Nat) (css : List (List AVal)), cs = [.slice (some (i, 0)) l.length none] ∧ i < h.base ∧ css.length = l.length ∧ (h.get i = some (.cells e.size css.flatten) ∨ (l = [] ∧ h.get i = some .dead)) ∧
      ∀ (k : Nat) (d : Dat) (c : List AVal), l[k]? = some d → css[k]? = some c → Has h e d c
  | .struct fs, .agg l, cs => HasL h fs l cs
  | _, _, _ => False
def HasL (h : Heap) : List Sh → List Dat → List AVal → Prop
  | [], [], cs => cs = []
  | s :: r, d :: l, cs => ∃ a b, cs = a ++ b ∧ Has h s d a ∧ HasL h r l b
  | _, _, _ => False
end
mutual
theorem Has.cells {h : Heap} : ∀ {s : Sh} {d : Dat} {cs : List AVal}, Has h s d cs → cs.length = s.size ∧ ∀ x ∈ cs, x.isOne = true
  | .bool, d, cs, hh => by cases d <;> simp only [Has] at hh; subst hh; simp [Sh.size, AVal.isOne]
  | .int k, d, cs, hh => by cases d <;> simp only [Has] at hh; obtain ⟨rfl, _⟩ := hh; simp [Sh.size, AVal.isOne]
  | .str, d, cs, hh => by cases d <;> simp only [Has] at hh; obtain ⟨rfl, _⟩ := hh; simp [Sh.size, AVal.isOne]
  | .slice e, d, cs, hh => by
    cases d <;> simp only [Has] at hh
    · subst hh; simp [Sh.size, AVal.isOne]
    · obtain ⟨_, _, _, rfl, _⟩ := hh; simp [Sh.size, AVal.isOne]
  | .struct fs, d, cs, hh => by
    cases d <;> simp only [Has] at hh
    have := HasL.cells hh
    simpa only [Sh.size] using this
theorem HasL.cells {h : Heap} : ∀ {fs : List Sh} {l : List Dat} {cs : List AVal}, HasL h fs l cs → cs.length = Sh.sizes fs ∧ ∀ x ∈ cs, x.isOne = true
  | [], l, cs, hh => by cases l <;> simp only [HasL] at hh; subst hh; simp [Sh.sizes]
  | s :: r, l, cs, hh => by
    cases l <;> simp only [HasL] at hh
    obtain ⟨a, b, rfl, h1, h2⟩ := hh
    obtain ⟨k1, k2⟩ := Has.cells h1
    obtain ⟨k3, k4⟩ := HasL.cells h2
    refine ⟨by simp [Sh.sizes, k1, k3], fun x hx => ?_⟩
    rcases List.mem_append.1 hx with hx | hx
    · exact k2 x hx
    · exact k4 x hx
end
structure Heap.Ext (h h' : Heap) : Prop where
  base : h.base ≤ h'.base
  get : ∀ i, i < h.base → h'.get i = h.get i
theorem Heap.Ext.refl (h : Heap) : h.Ext h := ⟨Nat.le_refl _, fun _ _ => rfl⟩
theorem Heap.Ext.trans {a b c : Heap} (h : a.Ext b) (k : b.Ext c) : a.Ext c := ⟨Nat.le_trans h.base k.base, fun i hi => (k.get i (Nat.lt_of_lt_of_le hi h.base)).trans (h.get i hi)⟩
mutual
theorem Has.ext {h h' : Heap} (e : h.Ext h') : ∀ {s : Sh} {d : Dat} {cs : List AVal}, Has h s d cs → Has h' s d cs
  | .bool, d, cs, hh => by cases d <;> simp only [Has] at hh ⊢ <;> exact hh
  | .int k, d, cs, hh => by cases d <;> simp only [Has] at hh ⊢ <;> exact hh
  | .str, d, cs, hh => by cases d <;> simp only [Has] at hh ⊢ <;> exact hh
  | .slice e', d, cs, hh => by
    cases d <;> simp only [Has] at hh ⊢
    · exact hh
    · obtain ⟨h0, i, css, h1, h2, h3, h4, h5⟩ := hh
      refine ⟨h0, i, css, h1, Nat.lt_of_lt_of_le h2 e.base, h3, ?_, fun k d c hd hc => Has.ext e (h5 k d c hd hc)⟩
      rw [e.get i h2]; exact h4
  | .struct fs, d, cs, hh => by
    cases d <;> simp only [Has] at hh ⊢
    exact HasL.ext e hh
theorem HasL.ext {h h' : Heap} (e : h.Ext h') : ∀ {fs : List Sh} {l : List Dat} {cs : List AVal}, HasL h fs l cs → HasL h' fs l cs
  | [], l, cs, hh => by cases l <;> simp only [HasL] at hh ⊢; exact hh
  | s :: r, l, cs, hh => by
    cases l <;> simp only [HasL] at hh ⊢
    obtain ⟨a, b, e1, h1, h2⟩ := hh
    exact ⟨a, b, e1, Has.ext e h1, HasL.ext e h2⟩
end
def shFields (P : Program) (g : TypeId → Option Sh) : Nat → List Field → Option (List Sh)
  | _, [] => some []
  | off, f :: r => match g f.type with
    | some s => if f.offset = off ∧ P.cellsOf f.type = s.size then (shFields P g (off + s.size) r).map (s :: ·) else none
    | none => none
def shOf (P : Program) : Nat → TypeId → Option Sh
  | 0, _ => none
  | n + 1, t => match P.underlying t with
    | some .bool => some .bool
    | some (.int k) => some (.int k)
    | some .string => some .str
    | some (.slice e) => match shOf P n e with
      | some s => if P.cellsOf e = s.size ∧ 0 < s.size ∧ 0 < P.bytesOf e then some (.slice s) else none
      | none => none
    | some (.struct fs) => match shFields P (shOf P n) 0 fs.toList with
      | some ss => if P.cellsOf t = Sh.sizes ss then some (.struct ss) else none
      | none => none
    | _ => none
def H0 (os : List AObj) : Heap := ⟨os, os.length, os.length⟩
theorem H0_ext (os zs : List AObj) : (H0 os).Ext (H0 (os ++ zs)) :=
  ⟨by simp [H0], fun i hi => by simp only [H0, Heap.get] at hi ⊢; rw [List.getElem?_append_left hi]⟩
section
variable {E : Env}
theorem ORel.base {μ : MM} {b b' i : Nat} {w : World} {o : AObj} (h : ORel E μ b i w o) (hi : i < b') : ORel E μ b' i w o := by
  cases o with
  | cells esz cs =>
    obtain ⟨m, c, e, fr, h1, h2, h3, h4, h5, h6, _⟩ := h
    exact ⟨m, c, e, fr, h1, h2, h3, h4, h5, h6, fun k => absurd hi (by omega)⟩
  | _ => exact h
theorem Rel.view {μ : MM} {os : List AObj} {w : World} (hr : Rel E μ (H0 os) w) (o : AObj) (x : Option M) (ho : ORel E (μ ++ [x]) (os.length + 1) os.length w o) (hx : ∀ m, x = some m → m.blk < w.heap.size) :
    Rel E (μ ++ [x]) (H0 (os ++ [o])) w := by
  have hlen : μ.length = os.length := hr.len
  constructor
  · simp [H0, hlen]
  · simp [H0]
  · intro i o' hi
    simp only [H0] at hi ⊢
    rcases Nat.lt_or_ge i os.length with h1 | h1
    · rw [List.getElem?_append_left h1] at hi
      refine ((hr.obj i o' hi).keep (later_push μ x) fun m hm => ⟨?_, rfl⟩).base (by simp; omega)
      rw [List.getElem?_append_left (by omega)]; exact hm
    · have := lt_of_get hi
      simp at this
      have e : i = os.length := by omega
      subst e
      simp at hi; subst hi
      simpa using ho
  · intro i j mi mj _ hi hmi _
    have := lt_of_get hmi
    simp [H0] at hi this
    omega
  · intro i m hm
    rcases get_push hm with h1 | ⟨_, h1⟩
    · exact hr.lt i m h1
    · exact hx m h1
theorem VRels.push {μ ν : MM} {as : List AVal} {l : List Value} (h : VRels E μ as l) : VRels E (μ ++ ν) as l :=
  h.later ⟨by simp, fun i hi => .inl (List.getElem?_append_left hi)⟩
theorem cell_block {w : World} {a : Addr} {v : Value} (h : w.cell? a = some v) : ∃ c e fr, w.heap[a.block]? = some (.cells c e fr) ∧ a.spot = none ∧ c[a.off]? = some v := by
  unfold World.cell? at h
  split at h
  · rename_i c e fr hb
    split at h
    · cases h
    · rename_i hs
      exact ⟨c, e, fr, hb, by simpa using hs, h⟩
  · cases h
theorem add_off {a : Addr} (hs : a.spot = none) (n : Nat) : a.add n = ⟨a.block, a.off + n, none⟩ := by
  unfold Addr.add
  cases a
  simp only at hs
  subst hs
  split <;> simp_all
theorem flatten_get {sz : Nat} : ∀ {css : List (List AVal)} {k : Nat} {v : AVal}, (∀ c ∈ css, c.length = sz) → css.flatten[k]? = some v → ∃ q r c, k = q * sz + r ∧ r < sz ∧ css[q]? = some c ∧ c[r]? = some v
  | [], k, v, _, h => by simp at h
  | c :: css, k, v, hl, h => by
    simp only [List.flatten_cons] at h
    have hc := hl c (List.mem_cons_self ..)
    rcases Nat.lt_or_ge k c.length with h1 | h1
    · rw [List.getElem?_append_left h1] at h
      exact ⟨0, k, c, by omega, by omega, rfl, h⟩
    · rw [List.getElem?_append_right h1] at h
      obtain ⟨q, r, c', e, hr, h2, h3⟩ := flatten_get (fun x hx => hl x (List.mem_cons_of_mem _ hx)) h
      refine ⟨q + 1, r, c', ?_, hr, by simpa using h2, h3⟩
      rw [Nat.add_mul]; omega
theorem flatten_len {sz : Nat} : ∀ {css : List (List AVal)}, (∀ c ∈ css, c.length = sz) → css.flatten.length = css.length * sz
  | [], _ => by simp
  | c :: css, h => by
    rw [List.flatten_cons, List.length_append, flatten_len fun x hx => h x (List.mem_cons_of_mem _ hx), h c (List.mem_cons_self ..), List.length_cons, Nat.add_mul]
    omega
variable {H : Type} {enc : TypeId × Value → H} {w : World} {held : Bool}
def Reads (E : Env) (w : World) (sh : Sh) (cs : List Value) : Prop :=
  ∀ (μ : MM) (os : List AObj), Rel E μ (H0 os) w → ∃ ν zs acs d, Rel E (μ ++ ν) (H0 (os ++ zs)) w ∧ VRels E (μ ++ ν) acs cs ∧ Has (H0 (os ++ zs)) sh d acs
theorem Reads.pure {sh : Sh} {cs : List Value} (acs : List AVal) (d : Dat) (h1 : ∀ μ, VRels E μ acs cs) (h2 : ∀ h, Has h sh d acs) : Reads E w sh cs := fun μ os hr =>
  ⟨[], [], acs, d, by simpa using hr, h1 _, h2 _⟩
def Fits (P : Program) (t : TypeId) (d : DataW H) : Prop := ∀ k ∈ d.weights P t, k ≤ reachB
theorem weightsAll_mem {P : Program} {e : TypeId} {k : Nat} : ∀ {l : List (DataW H)} {d : DataW H}, d ∈ l → k ∈ d.weights P e → k ∈ DataW.weightsAll P e l
  | x :: l, d, hd, hk => by
    simp only [DataW.weightsAll, List.mem_append]
    rcases List.mem_cons.1 hd with rfl | hd
    · exact .inl hk
    · exact .inr (weightsAll_mem hd hk)
theorem weightsEach_get {P : Program} {k : Nat} : ∀ {ts : List TypeId} {l : List (DataW H)} {i : Nat} {t : TypeId} {d : DataW H}, ts[i]? = some t → l[i]? = some d → k ∈ d.weights P t → k ∈ DataW.weightsEach P ts l
  | [], _, i, t, d, ht, _, _ => by simp at ht
  | _ :: _, [], i, t, d, _, hd, _ => by simp at hd
  | t' :: ts, x :: l, i, t, d, ht, hd, hk => by
    simp only [DataW.weightsEach, List.mem_append]
    cases i with
    | zero => simp at ht hd; subst ht; subst hd; exact .inl hk
    | succ i => exact .inr (weightsEach_get (i := i) (by simpa using ht) (by simpa using hd) hk)
theorem reads_fields {g : TypeId → Option Sh} {cs : List Value} (hg : ∀ t sh, g t = some sh → ∀ n vs x, DataW.trod enc E.P w 0 (fun _ => true) held n t vs = some x → Fits E.P t x.1 → Reads E w sh vs) :
    ∀ {fl : List Field} {off : Nat} {ss : List Sh}, shFields E.P g off fl = some ss → off + Sh.sizes ss ≤ cs.length → (∀ f ∈ fl, ∃ n x, DataW.trod enc E.P w 0 (fun _ => true) held n f.type ((cs.drop f.offset).take (E.P.cellsOf f.type)) = some x ∧ Fits E.P f.type x.1) →
      ∀ (μ : MM) (os : List AObj), Rel E μ (H0 os) w → ∃ ν zs acs l, Rel E (μ ++ ν) (H0 (os ++ zs)) w ∧ VRels E (μ ++ ν) acs ((cs.drop off).take (Sh.sizes ss)) ∧ HasL (H0 (os ++ zs)) ss l acs
  | [], off, ss, hs, _, _, μ, os, hr => by
    simp only [shFields] at hs; cases hs
    exact ⟨[], [], [], [], by simpa using hr, by simp [Sh.sizes, VRels], by simp [HasL]⟩
  | f :: fl, off, ss, hs, hlen, hf, μ, os, hr => by
    simp only [shFields] at hs
    split at hs
    case h_2 => cases hs
    rename_i s h1
    split at hs
    case isFalse => cases hs
    rename_i h2
    rw [Option.map_eq_some_iff] at hs
    obtain ⟨ss', h3, rfl⟩ := hs
    simp only [Sh.sizes] at hlen ⊢
    obtain ⟨n, x, hx, hfx⟩ := hf f (List.mem_cons_self ..)
    obtain ⟨ν, zs, acs, d, k1, k2, k3⟩ := hg _ _ h1 _ _ _ hx hfx μ os hr
    obtain ⟨ν', zs', acs', l, k4, k5, k6⟩ := reads_fields hg h3 (by omega) (fun f' hf' => hf f' (List.mem_cons_of_mem _ hf')) _ _ k1
    refine ⟨ν ++ ν', zs ++ zs', acs ++ acs', d :: l, by simpa using k4, ?_, ?_⟩
    · rw [List.take_add]
      refine VRels.append ?_ ?_
      · rw [← List.append_assoc]
        rw [h2.1, h2.2] at k2
        exact k2.push
      · rw [List.drop_drop, ← List.append_assoc]
        exact k5
    · simp only [HasL]
      refine ⟨acs, acs', rfl, ?_, ?_⟩
      · rw [← List.append_assoc]; exact k3.ext (H0_ext _ _)
      · rw [← List.append_assoc]; exact k6
theorem reads_row {e : TypeId} {s : Sh} (hg : ∀ n vs x, DataW.trod enc E.P w 0 (fun _ => true) held n e vs = some x → Fits E.P e x.1 → Reads E w s vs) {a : Addr} {sz : Nat} :
    ∀ (m : Nat), (∀ i, i < m → ∃ n vs x, w.cells? 0 (a.add (i * sz)) sz = some vs ∧ DataW.trod enc E.P w 0 (fun _ => true) held n e vs = some x ∧ Fits E.P e x.1) →
      ∀ (μ : MM) (os : List AObj), Rel E μ (H0 os) w → ∃ (ν : MM) (zs : List AObj) (css : List (List AVal)) (l : List Dat), Rel E (μ ++ ν) (H0 (os ++ zs)) w ∧ css.length = m ∧ l.length = m ∧
        (∀ i c, css[i]? = some c → ∃ vs, w.cells? 0 (a.add (i * sz)) sz = some vs ∧ VRels E (μ ++ ν) c vs) ∧ ∀ (k : Nat) (d : Dat) (c : List AVal), l[k]? = some d → css[k]? = some c → Has (H0 (os ++ zs)) s d c
  | 0, _, μ, os, hr => ⟨[], [], [], [], by simpa using hr, rfl, rfl, by simp, by simp⟩
  | m + 1, hm, μ, os, hr => by
    obtain ⟨ν, zs, css, l, k1, k2, k3, k4, k5⟩ := reads_row hg m (fun i hi => hm i (by omega)) μ os hr
    obtain ⟨n, vs, x, h1, h2, h2f⟩ := hm m (by omega)
    obtain ⟨ν', zs', acs, d, j1, j2, j3⟩ := hg _ _ _ h2 h2f _ _ k1
    refine ⟨ν ++ ν', zs ++ zs', css ++ [acs], l ++ [d], by simpa using j1, by simp [k2], by simp [k3], ?_, ?_⟩
    · intro i c hc
      rcases Nat.lt_or_ge i css.length with h3 | h3
      · rw [List.getElem?_append_left h3] at hc
        obtain ⟨vs', h4, h5⟩ := k4 i c hc
        exact ⟨vs', h4, by rw [← List.append_assoc]; exact h5.push⟩
      · have h4 := lt_of_get hc
        simp at h4
        have e : i = css.length := by omega
        subst e
        simp at hc; subst hc
        exact ⟨vs, by rw [k2]; exact h1, by rw [← List.append_assoc]; exact j2⟩
    · intro k d' c hd hc
      rcases Nat.lt_or_ge k css.length with h3 | h3
      · rw [List.getElem?_append_left h3] at hc
        rw [List.getElem?_append_left (by omega)] at hd
        rw [← List.append_assoc]
        exact (k5 k d' c hd hc).ext (H0_ext _ _)
      · have h4 := lt_of_get hc
        simp at h4
        have e : k = css.length := by omega
        subst e
        rw [List.getElem?_append_right (by omega)] at hd
        simp at hc; subst hc
        simp [k2, k3] at hd; subst hd
        rw [← List.append_assoc]; exact j3
theorem reads_of : ∀ (f : Nat) (t : TypeId) (sh : Sh), shOf E.P f t = some sh → ∀ (n : Nat) (cs : List Value) (x : DataW H × List MemPlace), DataW.trod enc E.P w 0 (fun _ => true) held n t cs = some x → Fits E.P t x.1 → Reads E w sh cs
  | 0, t, sh, h => by simp [shOf] at h
  | f + 1, t, sh, h => by
    intro n cs x hx hfit
    simp only [shOf] at h
    split at h
    · rename_i hu
      cases h
      obtain ⟨b, rfl, _⟩ := DataW.trod_bool hu hx
      exact Reads.pure [.bool b] (.bool b) (fun μ => by simp [VRels, VRel]) fun h => by simp [Has]
    · rename_i k hu
      cases h
      obtain ⟨m, rfl, _, hw⟩ := DataW.trod_int hu hx
      simp [Lit.wf] at hw
      exact Reads.pure [.int k m] (.int m) (fun μ => by simp [VRels, VRel]) fun h => by simp [Has, hw]
    · rename_i hu
      cases h
      obtain ⟨s, rfl, hxe, hw⟩ := DataW.trod_string hu hx
      exact Reads.pure [.str s.data.toList] (.str s.data.toList) (fun μ => by simp [VRels, VRel]) fun h => by
        simp only [Has]
        exact ⟨trivial, hfit _ (by rw [hxe]; simp [DataW.weights])⟩
    · rename_i e hu
      split at h
      case h_2 => cases h
      rename_i s hs
      split at h
      case isFalse => cases h
      rename_i hsz
      cases h
      rcases DataW.trod_slice hu hx with ⟨rfl, _⟩ | ⟨a, len, cap, elems, rest, n', _, rfl, hxe, _, hlc, hcm, hel, h1, h2, _⟩
      · exact Reads.pure [.slice none 0 (some 0)] .nil (fun μ => by simp [VRels, VRel]) fun h => by simp [Has]
      · obtain ⟨hrl, h2⟩ := h2 rfl
        rw [hsz.1] at h1 h2
        have hw := hfit
        unfold Fits at hw
        rw [hxe] at hw
        simp only [DataW.weights, hu, List.mem_cons, List.mem_append, List.length_map] at hw
        have hcapw : cap ≤ reachB := by
          have h3 := hw _ (.inl rfl)
          have h4 : cap ≤ (elems.length + rest.length) * E.P.bytesOf e := by
            have h5 : elems.length + rest.length = cap := by omega
            rw [h5]
            exact Nat.le_mul_of_pos_right _ hsz.2.2
          omega
        have hfe : ∀ y ∈ elems, Fits E.P e y.1 := fun y hy k hk => hw k (.inr (.inl (weightsAll_mem (List.mem_map_of_mem hy) hk)))
        have hfr : ∀ y ∈ rest, Fits E.P e y.1 := fun y hy k hk => hw k (.inr (.inr (weightsAll_mem (List.mem_map_of_mem hy) hk)))
        have hall : ∀ i, i < cap → ∃ n vs x, w.cells? 0 (a.add (i * s.size)) s.size = some vs ∧ DataW.trod enc E.P w 0 (fun _ => true) held n e vs = some x ∧ Fits E.P e x.1 := fun i hi => by
          rcases Nat.lt_or_ge i len with hl | hl
          · have h3 := h1 i hl
            rw [List.getElem?_eq_getElem (by omega)] at h3
            rw [Option.bind_eq_some_iff] at h3
            obtain ⟨vs, h4, h5⟩ := h3
            exact ⟨n', vs, _, h4, h5, hfe _ (List.getElem_mem _)⟩
          · have h3 := h2 (i - len) (by omega)
            rw [List.getElem?_eq_getElem (by omega), show len + (i - len) = i by omega] at h3
            rw [Option.bind_eq_some_iff] at h3
            obtain ⟨vs, h4, h5⟩ := h3
            exact ⟨n', vs, _, h4, h5, hfr _ (List.getElem_mem _)⟩
        intro μ os hr
        obtain ⟨ν, zs, css, l, k1, k2, k3, k4, k5⟩ := reads_row (a := a) (sz := s.size) (fun n vs x => reads_of f e s hs n vs x) len (fun i hi => hall i (by omega)) μ os hr
        have hlen : (μ ++ ν).length = (os ++ zs).length := k1.len
        rcases Nat.eq_zero_or_pos cap with hc | hc
        · -- nothing there
          subst hc
          have hl0 : len = 0 := by omega
          subst hl0
          have hcss : css = [] := List.eq_nil_of_length_eq_zero k2
          have hl : l = [] := List.eq_nil_of_length_eq_zero k3
          subst hcss; subst hl
          refine ⟨ν ++ [none], zs ++ [.dead], [.slice (some ((os ++ zs).length, 0)) 0 none], .row [], ?_, ?_, ?_⟩
          · have := k1.view .dead none (show (_ ++ [none] : MM)[_]? = _ by rw [← hlen]; simp) (by simp)
            simpa using this
          · simp only [VRels, VRel]
            refine ⟨_, [], rfl, ⟨a, 0, rfl, ?_, by simp, by simp, Nat.le_refl _, ?_⟩, rfl⟩
            · rw [← List.append_assoc, ← hlen]; simp only [List.length_append, List.length_cons]; omega
            · intro m hm
              rw [← List.append_assoc, ← hlen] at hm
              simp at hm
          · unfold Has
            refine ⟨Nat.zero_le _, (os ++ zs).length, [], rfl, by simp [H0], rfl, .inr ⟨rfl, ?_⟩, by simp⟩
            rw [← List.append_assoc]
            simp [Heap.get, H0]
        · -- the row
          have hsp := hsz.2.1
          obtain ⟨_, vs0, _, c0, _, _⟩ := hall 0 hc
          obtain ⟨_, cl0, cg0⟩ := World.cells?_some c0
          have c1 := cg0 0 hsp
          rw [List.getElem?_eq_getElem (by omega)] at c1
          have : (a.add (0 * s.size)).add 0 = a := by simp [Addr.add]
          rw [this] at c1
          obtain ⟨c, te, fr, hb, hspot, _⟩ := cell_block c1
          have hcell : ∀ i vs, w.cells? 0 (a.add (i * s.size)) s.size = some vs → vs.length = s.size ∧ ∀ r, r < s.size → c[a.off + i * s.size + r]? = vs[r]? := fun i vs hvs => by
            obtain ⟨_, e1, e2⟩ := World.cells?_some hvs
            refine ⟨e1, fun r hr => ?_⟩
            have e3 := e2 r hr
            rw [add_off hspot, add_off rfl, cell_of_block hb] at e3
            exact e3
          have hcap : a.off + cap * s.size ≤ c.size := by
            obtain ⟨_, vs, _, d1, _, _⟩ := hall (cap - 1) (by omega)
            obtain ⟨d2, d3⟩ := hcell _ _ d1
            have d4 := d3 (s.size - 1) (by omega)
            rw [List.getElem?_eq_getElem (by omega)] at d4
            have d5 : a.off + (cap - 1) * s.size + (s.size - 1) < c.size := lt_of_get (l := c.toList) (by simpa using d4)
            have d6 : cap * s.size = (cap - 1) * s.size + s.size := by
              conv => lhs; rw [show cap = (cap - 1) + 1 by omega]
              rw [Nat.add_mul]; omega
            omega
          have hcl : ∀ x ∈ css, x.length = s.size := fun x hx => by
            obtain ⟨i, hi⟩ := List.getElem?_of_mem hx
            obtain ⟨vs, hvs, hv⟩ := k4 i x hi
            rw [hv.length, (hcell i vs hvs).1]
          have hfl := flatten_len hcl
          have hlec : len * s.size ≤ cap * s.size := Nat.mul_le_mul_right _ hlc
          let m : M := ⟨a.block, a.off, c.size, s.size⟩
          have hrel : ORel E ((μ ++ ν) ++ [some m]) ((os ++ zs).length + 1) (os ++ zs).length w (.cells s.size css.flatten) := by
            refine ⟨m, c, te, fr, by rw [← hlen]; simp, rfl, hb, rfl, by rw [hfl, k2]; show a.off + _ ≤ c.size; omega, ?_, fun k => by omega⟩
            intro k v hk
            obtain ⟨q, r, cc, e1, e2, e3, e4⟩ := flatten_get hcl hk
            obtain ⟨vs, f1, f2⟩ := k4 q cc e3
            obtain ⟨v', g1, g2⟩ := f2.get e4
            have hq : q < len := by have := lt_of_get e3; omega
            obtain ⟨dd, hdd⟩ : ∃ dd, l[q]? = some dd := ⟨_, List.getElem?_eq_getElem (by omega)⟩
            refine ⟨((k5 q dd cc hdd e3).cells).2 v (List.mem_of_getElem? e4), v', ?_, g2.later (later_push _ _)⟩
            show c[a.off + k]? = _
            rw [e1, ← Nat.add_assoc, (hcell q vs f1).2 r e2, g1]
          refine ⟨ν ++ [some m], zs ++ [.cells s.size css.flatten], [.slice (some ((os ++ zs).length, 0)) len none], .row l, ?_, ?_, ?_⟩
          · have := k1.view _ (some m) hrel (by rintro m' h; cases h; exact lt_heap hb)
            simpa using this
          · simp only [VRels, VRel]
            refine ⟨_, [], rfl, ⟨a, cap, rfl, ?_, fun _ => ?_, by simp, hlc, ?_⟩, rfl⟩
            · rw [← List.append_assoc, ← hlen]; simp only [List.length_append, List.length_cons]; omega
            · refine ⟨some m, by rw [← List.append_assoc, ← hlen]; simp, fun m' hm' => ?_⟩
              cases hm'
              cases a
              simp only at hspot
              subst hspot
              rfl
            · intro m' hm'
              rw [← List.append_assoc, ← hlen] at hm'
              simp at hm'; subst hm'
              show a.off + 0 + cap * s.size ≤ c.size
              omega
          · simp only [Has]
            refine ⟨by rw [k3]; omega, (os ++ zs).length, css, by rw [k3], by simp [H0], by omega, .inl ?_, fun k d c' hd hc' => ?_⟩
            · rw [← List.append_assoc]
              simp [Heap.get, H0]
            · rw [← List.append_assoc]
              exact (k5 k d c' hd hc').ext (H0_ext _ _)
    · rename_i fs hu
      split at h
      case h_2 => cases h
      rename_i ss hs
      split at h
      case isFalse => cases h
      rename_i hsz
      cases h
      obtain ⟨xs, n', _, hxe, hl, hxl, hfl⟩ := DataW.trod_struct hu hx
      intro μ os hr
      obtain ⟨ν, zs, acs, l, k1, k2, k3⟩ := reads_fields (cs := cs) (fun t sh hsh n vs x hx => reads_of f t sh hsh n vs x hx) hs (by omega) (fun fd hfd => by
        obtain ⟨i, hi⟩ := List.getElem?_of_mem hfd
        have := hfl i fd (by simpa using hi)
        have hlt : i < fs.size := by have := lt_of_get hi; simpa using this
        rw [List.getElem?_eq_getElem (by omega)] at this
        refine ⟨n', _, this, fun k hk => hfit k ?_⟩
        rw [hxe]
        simp only [DataW.weights, hu]
        exact weightsEach_get (i := i) (by rw [List.getElem?_map, hi]; rfl) (by rw [List.getElem?_map, List.getElem?_eq_getElem (by omega)]; rfl) hk) μ os hr
      refine ⟨ν, zs, acs, .agg l, k1, ?_, ?_⟩
      · rw [List.drop_zero, List.take_of_length_le (by omega)] at k2
        exact k2
      · simp only [Has]; exact k3
    · cases h
def avalOf : Sh → List AVal → AVal
  | .struct _, cs => .agg cs
  | _, [a] => a
  | _, cs => .agg cs
def HasArgs (h : Heap) : List Sh → List Dat → List AVal → Prop
  | [], [], as => as = []
  | s :: r, d :: l, as => ∃ cs t, as = avalOf s cs :: t ∧ Has h s d cs ∧ HasArgs h r l t
  | _, _, _ => False
theorem HasArgs.ext {h h' : Heap} (e : h.Ext h') : ∀ {ss : List Sh} {l : List Dat} {as : List AVal}, HasArgs h ss l as → HasArgs h' ss l as
  | [], l, as, hh => by cases l <;> simp only [HasArgs] at hh ⊢; exact hh
  | s :: r, l, as, hh => by
    cases l <;> simp only [HasArgs] at hh ⊢
    obtain ⟨a, b, e1, h1, h2⟩ := hh
    exact ⟨a, b, e1, h1.ext e, h2.ext e⟩
theorem aval_rel {f : Nat} {t : TypeId} {sh : Sh} (hs : shOf E.P f t = some sh) {r : Reach} {base : Nat} {W : World} {v : Value} (hv : Value.okWide E.P W r base t v) {μ : MM} {acs : List AVal} (hrel : VRels E μ acs v.cells.toList) {h : Heap} {d : Dat} (hh : Has h sh d acs) :
    VRel E μ (avalOf sh acs) v := by
  have hone := hh.cells
  have one : ∀ {acs : List AVal}, sh.size = 1 → (∀ fs, sh ≠ .struct fs) → acs.length = sh.size → v.cells = #[v] → VRels E μ acs v.cells.toList → VRel E μ (avalOf sh acs) v := by
    intro acs h1 h2 h3 h4 h5
    rw [h4] at h5
    match acs, h3 with
    | [], h3 => rw [h1] at h3; simp at h3
    | [a], _ =>
      have : avalOf sh [a] = a := by
        cases sh <;> simp only [avalOf]
        exact absurd rfl (h2 _)
      rw [this]
      simp only [VRels] at h5
      obtain ⟨_, _, e, h6, _⟩ := h5
      cases e
      exact h6
    | _ :: _ :: _, h3 => rw [h1] at h3; simp at h3
  cases f with
  | zero => simp [shOf] at hs
  | succ f =>
    simp only [shOf] at hs
    unfold Value.okWide at hv
    split at hs
    · rename_i hu
      cases hs
      rw [hu] at hv
      simp only [Cell.okWide, Cell.ok, hu] at hv
      exact one rfl (by simp) hone.1 (by cases v <;> first | rfl | exact hv.elim) hrel
    · rename_i k hu
      cases hs
      rw [hu] at hv
      simp only [Cell.okWide, Cell.ok, hu] at hv
      exact one rfl (by simp) hone.1 (by cases v <;> first | rfl | exact hv.elim) hrel
    · rename_i hu
      cases hs
      rw [hu] at hv
      simp only [Cell.okWide, Cell.ok, hu] at hv
      exact one rfl (by simp) hone.1 (by cases v <;> first | rfl | exact hv.elim) hrel
    · rename_i e hu
      split at hs
      case h_2 => cases hs
      split at hs
      case isFalse => cases hs
      cases hs
      rw [hu] at hv
      simp only [Cell.okWide, Cell.ok, hu] at hv
      exact one rfl (by simp) hone.1 (by cases v <;> first | rfl | exact hv.elim) hrel
    · rename_i fs hu
      split at hs
      case h_2 => cases hs
      split at hs
      case isFalse => cases hs
      cases hs
      rw [hu] at hv
      obtain ⟨cs, rfl, _⟩ := hv
      simp only [avalOf, VRel]
      exact ⟨cs, rfl, hrel, hone.2⟩
    · cases hs
def shAll (P : Program) (f : Nat) : List TypeId → Option (List Sh)
  | [] => some []
  | t :: r => match shOf P f t, shAll P f r with
    | some s, some ss => some (s :: ss)
    | _, _ => none
theorem args_read {f : Nat} {W : World} {r : Reach} {base : Nat} : ∀ {ts : List TypeId} {vs : List Value} {ds : List (DataW H)} {ps : List MemPlace} {ss : List Sh}, DataW.TrodAll enc E.P w 0 (fun _ => true) held ts vs ds ps → (∀ k ∈ DataW.weightsEach E.P ts ds, k ≤ reachB) → shAll E.P f ts = some ss →
    (∀ (j : Nat) (t : TypeId) (v : Value), ts[j]? = some t → vs[j]? = some v → Value.okWide E.P W r base t v) → ∀ (μ : MM) (os : List AObj), Rel E μ (H0 os) w →
      ∃ ν zs as l, Rel E (μ ++ ν) (H0 (os ++ zs)) w ∧ VRels E (μ ++ ν) as vs ∧ HasArgs (H0 (os ++ zs)) ss l as
  | [], [], [], ps, ss, _, _, hs, _, μ, os, hr => by
    simp only [shAll] at hs; cases hs
    exact ⟨[], [], [], [], by simpa using hr, by simp [VRels], by simp [HasArgs]⟩
  | t :: ts, v :: vs, d :: ds, ps, ss, h, hz, hs, hv, μ, os, hr => by
    simp only [DataW.weightsEach, List.mem_append] at hz
    simp only [shAll] at hs
    split at hs
    case h_2 => cases hs
    rename_i s ss' h1 h2
    cases hs
    obtain ⟨p, q, ⟨n, h3⟩, h4, _⟩ := h
    obtain ⟨ν, zs, acs, d', k1, k2, k3⟩ := reads_of f t s h1 n _ _ h3 (fun k hk => hz k (.inl hk)) μ os hr
    obtain ⟨ν', zs', as, l, k4, k5, k6⟩ := args_read h4 (fun k hk => hz k (.inr hk)) h2 (fun j t' v' ht hv' => hv (j + 1) t' v' (by simpa using ht) (by simpa using hv')) _ _ k1
    refine ⟨ν ++ ν', zs ++ zs', avalOf s acs :: as, d' :: l, by simpa using k4, ?_, ?_⟩
    · simp only [VRels]
      refine ⟨v, vs, rfl, ?_, by rw [← List.append_assoc]; exact k5⟩
      have := aval_rel h1 (hv 0 t v rfl rfl) k2 k3
      rw [← List.append_assoc]
      exact this.later ⟨by simp, fun i hi => .inl (List.getElem?_append_left hi)⟩
    · simp only [HasArgs]
      exact ⟨acs, as, rfl, by rw [← List.append_assoc]; exact k3.ext (H0_ext _ _), by rw [← List.append_assoc]; exact k6⟩
  | [], _ :: _, _, _, _, h, _, _, _, _, _, _ => by simp [DataW.TrodAll] at h
  | [], [], _ :: _, _, _, h, _, _, _, _, _, _ => by simp [DataW.TrodAll] at h
  | _ :: _, [], _, _, _, h, _, _, _, _, _, _ => by simp [DataW.TrodAll] at h
  | _ :: _, _ :: _, [], _, _, h, _, _, _, _, _, _ => by simp [DataW.TrodAll] at h
theorem rel_none (w : World) : Rel E [] (H0 []) w :=
  ⟨rfl, Nat.le_refl _, by simp [H0], by simp, by simp⟩
theorem law_calls {T : Nat → Option AFunc} (hT : Agrees E T) (hm : E.P.follows .mixedOrders = true) {f : FuncId} {g : Nat} (hg : E.gid f = some g) {n : Nat} {ts : List TypeId} {ss : List Sh} (hss : shAll E.P n ts = some ss)
    (hlaw : ∀ (h : Heap) (l : List Dat) (as : List AVal), HasArgs h ss l as → h.base = h.size → h.wmin = h.size → xCall T g as h = some (.bool true, h))
    {W : World} {r : Reach} {base : Nat} {args : Array Value} {ds : List (DataW H)} {ps : List MemPlace} (ht : DataW.TrodAll enc E.P W 0 (fun _ => true) held ts args.toList ds ps) (hz : ∀ k ∈ DataW.weightsEach E.P ts ds, k ≤ reachB)
    (hv : ∀ (j : Nat) (t : TypeId) (v : Value), ts[j]? = some t → args.toList[j]? = some v → Value.okWide E.P W r base t v) :
    Calls E.P f args W fun e W' => e = .returned (.bool true) ∧ Below W.heap.size W W' := by
  obtain ⟨ν, zs, as, l, k1, k2, k3⟩ := args_read ht hz hss hv [] [] (rel_none W)
  have hx := hlaw _ l as k3 rfl rfl
  refine (x_sound hT hm hx hg k2 k1).mono fun e W' ⟨v', μ', he, hst, hvr, _⟩ => ?_
  simp only [VRel] at hvr
  subst hvr
  refine ⟨he, hst.os, hst.tape, hst.output, hst.size, fun k hk => hst.block k hk (fun h => h) fun i m hi hm => ?_⟩
  have h1 := lt_of_get hm
  have h2 : ([] ++ ν : MM).length = ([] ++ zs).length := k1.len
  simp only [H0] at hi
  omega
end
end Go.Abs

/-
  The machine's runs, symbolically: what 'simp' may open, and small facts of numbers, rows and loops.
-/
namespace Go.Abs
attribute [simp] xCode_skip xCode_exit xCode_ret xCode_region xCode_seq xCode_cond xCode_block xCode_live xCode_after evSegs evOps evQuiet evOper evRun evOp ok1 Opd.ev evs sget setSlot keep Opd.adr AVal.cells? outcome resultsL result1 tupled
  xFunc enter loadAt cellsAt storeAt part aBin aUn inBounds upTo lowB bounds aSlice eszIs optEv splice unloc Heap.get Heap.put Heap.push Heap.size AVal.under AVal.unders fill isVar evLen evConv aMin2 aMins aEqNil rowOf rowIs alen aApp aAppend finish AVal.ids AVal.idsL AVal.ren AVal.renL AObj.ids AObj.ren idxIn rep
  evExt evPure evOpen openAll openOne hide allSeen noClash clash ldOf okId seenBy slotIds dstSlot rdIds heapOpds AOp.isCall AOper.reads AOp.reads Opd.reads readsL readsO readsP Slot.ids Did.writes sameAt cellEqb AVal.eqb AVal.eqbL
@[simp] theorem wrapC_false (r : List AVal → Heap → Option (AVal × Heap)) : wrapC false r = r := rfl
@[simp] theorem wrapC_true (r : List AVal → Heap → Option (AVal × Heap)) : wrapC true r = evClosed r := rfl
theorem wrap64 {x : Int} (h1 : -9223372036854775808 ≤ x) (h2 : x ≤ 9223372036854775807) : IntKind.i64.wrap x = x := by
  simp only [IntKind.wrap, IntKind.bits, IntKind.signed]
  simp
  omega
theorem wrap_next {i n : Nat} (h : i < n) (hn : n ≤ 9223372036854775807) : IntKind.i64.wrap ((i : Int) + 1) = ((i + 1 : Nat) : Int) := by
  rw [wrap64 (by omega) (by omega)]; omega
theorem reach_step (h : Heap) (n0 f : Nat) (i : Nat) (r acc : List Nat) : reach h n0 (f + 1) (i :: r) acc = if i < n0 then reach h n0 f r acc
    else if acc.contains i then reach h n0 f r acc
    else reach h n0 f (((h.get i).map AObj.ids).getD [] ++ r) (acc ++ [i]) := rfl
theorem reach_done (h : Heap) (n0 f : Nat) (acc : List Nat) : reach h n0 (f + 1) [] acc = acc := rfl
structure Row {α : Type} (os : List AObj) (e : Nat) (f : α → List AVal) (L : List α) (a : Option (Nat × Nat)) : Prop where
  at' : L ≠ [] → ∃ b o cs, a = some (b, o) ∧ os[b]? = some (.cells e cs) ∧ ∀ (j : Nat) (x : α), L[j]? = some x → o + j * e + e ≤ cs.length ∧ (cs.drop (o + j * e)).take e = f x
theorem ne_of_get {α : Type} {L : List α} {j : Nat} {x : α} (h : L[j]? = some x) : L ≠ [] := by
  rintro rfl; simp at h
theorem get_lt {α : Type} {L : List α} {j : Nat} {x : α} (h : L[j]? = some x) : j < L.length := lt_of_get h
theorem flat_at {α : Type} (f : α → List AVal) (n : Nat) (hf : ∀ x, (f x).length = n) : ∀ (xs : List α) (j : Nat) (x : α), xs[j]? = some x → j * n + n ≤ (xs.flatMap f).length ∧ ((xs.flatMap f).drop (j * n)).take n = f x
  | [], j, x, h => by simp at h
  | y :: ys, 0, x, h => by
    simp at h; subst h
    simp only [List.flatMap_cons, Nat.zero_mul, List.drop_zero, List.length_append, hf]
    rw [List.take_append_of_le_length (by rw [hf]; omega), List.take_of_length_le (by rw [hf]; omega)]
    exact ⟨by omega, rfl⟩
  | y :: ys, j + 1, x, h => by
    simp at h
    obtain ⟨h1, h2⟩ := flat_at f n hf ys j x h
    rw [List.flatMap_cons, List.drop_append, hf, show (j + 1) * n - n = j * n from by rw [Nat.add_mul]; omega,
      List.drop_of_length_le (by rw [hf, Nat.add_mul]; omega), List.nil_append, List.length_append, hf, Nat.add_mul]
    exact ⟨by omega, h2⟩
theorem flat_len {α : Type} (f : α → List AVal) (n : Nat) (hf : ∀ x, (f x).length = n) (xs : List α) : (xs.flatMap f).length = xs.length * n := by
  induction xs with
  | nil => simp
  | cons x xs ih => rw [List.flatMap_cons, List.length_append, hf, ih, List.length_cons, Nat.add_mul]; omega
theorem Row.mk0 {α : Type} {os : List AObj} {e : Nat} {f : α → List AVal} {L : List α} {b : Nat} (hf : ∀ x, (f x).length = e) (h : os[b]? = some (.cells e (L.flatMap f))) : Row os e f L (some (b, 0)) :=
  ⟨fun _ => ⟨b, 0, _, rfl, h, fun j x hx => by simpa using flat_at f e hf L j x hx⟩⟩
theorem Row.ext {α : Type} {os : List AObj} {e : Nat} {f : α → List AVal} {L : List α} {a : Option (Nat × Nat)} (h : Row os e f L a) (zs : List AObj) : Row (os ++ zs) e f L a :=
  ⟨fun hne => by
    obtain ⟨b, o, cs, h1, h2, h3⟩ := h.at' hne
    exact ⟨b, o, cs, h1, by rw [List.getElem?_append_left (lt_of_get h2)]; exact h2, h3⟩⟩
theorem Has.row {α : Type} {os : List AObj} {b w : Nat} {e : Sh} {f : α → List AVal} {ok : α → Prop} {d : Dat} {cs : List AVal} (hconv : ∀ d c, Has ⟨os, b, w⟩ e d c → ∃ x, c = f x ∧ ok x) (h : Has ⟨os, b, w⟩ (.slice e) d cs) :
    ∃ (a : Option (Nat × Nat)) (L : List α) (c : Option Nat), cs = [.slice a L.length c] ∧ Row os e.size f L a ∧ L.length ≤ reachB ∧ (∀ x ∈ L, ok x) ∧ (∀ i o, a = some (i, o) → i < b) ∧ (a = none → L = []) := by
  cases d <;> simp only [Has] at h
  · subst h
    exact ⟨none, [], some 0, rfl, ⟨fun h => absurd rfl h⟩, by simp, by simp, by simp, fun _ => rfl⟩
  · rename_i l
    obtain ⟨h0, i, css, rfl, h2, h3, h4, h5⟩ := h
    have : ∀ (css : List (List AVal)) (l : List Dat), css.length = l.length → (∀ (k : Nat) (d : Dat) (c : List AVal), l[k]? = some d → css[k]? = some c → Has ⟨os, b, w⟩ e d c) →
        ∃ L : List α, css = L.map f ∧ ∀ x ∈ L, ok x ∧ (f x).length = e.size := by
      intro css
      induction css with
      | nil => exact fun _ _ _ => ⟨[], rfl, by simp⟩
      | cons c css ih =>
        intro l hl hh
        cases l with
        | nil => simp at hl
        | cons d l =>
          have hc := hh 0 d c rfl rfl
          obtain ⟨x, hx, hok⟩ := hconv d c hc
          obtain ⟨L, e1, e2⟩ := ih l (by simpa using hl) fun k d' c' hd hc => hh (k + 1) d' c' (by simpa using hd) (by simpa using hc)
          refine ⟨x :: L, by rw [List.map_cons, ← hx, ← e1], fun y hy => ?_⟩
          rcases List.mem_cons.1 hy with rfl | hy
          · exact ⟨hok, by rw [← hx]; exact hc.cells.1⟩
          · exact e2 y hy
    obtain ⟨L, e1, e2⟩ := this css l h3 h5
    have hlen : L.length = l.length := by rw [← h3, e1, List.length_map]
    refine ⟨some (i, 0), L, none, by rw [hlen], ⟨fun hne => ?_⟩, by rw [hlen]; exact h0, fun x hx => (e2 x hx).1, (fun i' o' e => by cases e; exact h2), by simp⟩
    rcases h4 with h4 | ⟨rfl, _⟩
    · refine ⟨i, 0, css.flatten, rfl, h4, fun j x hx => ?_⟩
      have hfl : ∀ (L : List α), (∀ x ∈ L, (f x).length = e.size) → ∀ j x, L[j]? = some x → j * e.size + e.size ≤ (L.map f).flatten.length ∧ ((L.map f).flatten.drop (j * e.size)).take e.size = f x := by
        intro L
        induction L with
        | nil => intro _ j x hx; simp at hx
        | cons y L ih =>
          intro hL j x hx
          have hy := hL y (List.mem_cons_self ..)
          cases j with
          | zero =>
            simp at hx; subst hx
            simp only [List.map_cons, List.flatten_cons, Nat.zero_mul, List.drop_zero, List.length_append, hy]
            rw [List.take_append_of_le_length (by omega), List.take_of_length_le (by omega)]
            exact ⟨by omega, rfl⟩
          | succ j =>
            simp at hx
            obtain ⟨h1, h2⟩ := ih (fun x hx => hL x (List.mem_cons_of_mem _ hx)) j x hx
            rw [List.map_cons, List.flatten_cons, List.drop_append, hy, show (j + 1) * e.size - e.size = j * e.size from by rw [Nat.add_mul]; omega,
              List.drop_of_length_le (by rw [hy, Nat.add_mul]; omega), List.nil_append, List.length_append, hy, Nat.add_mul]
            exact ⟨by omega, h2⟩
      have := hfl L (fun x hx => (e2 x hx).2) j x hx
      rw [← e1] at this
      simpa using this
    · exact absurd (List.eq_nil_of_length_eq_zero (by rw [hlen]; rfl)) hne
section
variable {h : Heap} {d : Dat} {cs : List AVal}
theorem Has.int {k : IntKind} (hh : Has h (.int k) d cs) : ∃ n, d = .int n ∧ cs = [.int k n] ∧ k.min ≤ n ∧ n ≤ k.max := by
  cases d <;> simp only [Has] at hh
  exact ⟨_, rfl, hh⟩
theorem Has.bool (hh : Has h .bool d cs) : ∃ b, d = .bool b ∧ cs = [.bool b] := by
  cases d <;> simp only [Has] at hh
  exact ⟨_, rfl, hh⟩
theorem Has.str (hh : Has h .str d cs) : ∃ s, d = .str s ∧ cs = [.str s] ∧ s.length ≤ reachB := by
  cases d <;> simp only [Has] at hh
  exact ⟨_, rfl, hh⟩
theorem Has.struct {fs : List Sh} (hh : Has h (.struct fs) d cs) : ∃ l, d = .agg l ∧ HasL h fs l cs := by
  cases d <;> simp only [Has] at hh
  exact ⟨_, rfl, hh⟩
theorem HasL.cons {s : Sh} {r : List Sh} {l : List Dat} (hh : HasL h (s :: r) l cs) : ∃ d l' a b, l = d :: l' ∧ cs = a ++ b ∧ Has h s d a ∧ HasL h r l' b := by
  cases l <;> simp only [HasL] at hh
  obtain ⟨a, b, h1, h2, h3⟩ := hh
  exact ⟨_, _, a, b, rfl, h1, h2, h3⟩
theorem HasL.nil {l : List Dat} (hh : HasL h [] l cs) : l = [] ∧ cs = [] := by
  cases l <;> simp only [HasL] at hh
  exact ⟨rfl, hh⟩
theorem HasArgs.cons {s : Sh} {r : List Sh} {l : List Dat} {as : List AVal} (hh : HasArgs h (s :: r) l as) : ∃ d l' c t, l = d :: l' ∧ as = avalOf s c :: t ∧ Has h s d c ∧ HasArgs h r l' t := by
  cases l <;> simp only [HasArgs] at hh
  obtain ⟨a, b, h1, h2, h3⟩ := hh
  exact ⟨_, _, a, b, rfl, h1, h2, h3⟩
theorem HasArgs.nil {l : List Dat} {as : List AVal} (hh : HasArgs h [] l as) : l = [] ∧ as = [] := by
  cases l <;> simp only [HasArgs] at hh
  exact ⟨rfl, hh⟩
end
theorem loop_run {T : Nat → Option AFunc} {c : ACode} {e : AExit} {st' : St} (st : Nat → St) (n : Nat) (hs : ∀ i, i < n → xCode T c (st i) = some (.normal, st (i + 1))) (he : e ≠ .normal) (hx : xCode T c (st n) = some (e, st')) :
    ∀ k, k ≤ n → xCode T (.loop c) (st (n - k)) = some (e, st')
  | 0, _ => by
    rw [xCode_loop, Nat.sub_zero, hx]
    cases e <;> first | rfl | exact absurd rfl he
  | k + 1, hk => by
    rw [xCode_loop, hs (n - (k + 1)) (by omega)]
    simp only
    rw [show n - (k + 1) + 1 = n - k by omega]
    exact loop_run st n hs he hx k (by omega)
theorem loop_all {T : Nat → Option AFunc} {c : ACode} {e : AExit} {st' : St} (st : Nat → St) (n : Nat) (hs : ∀ i, i < n → xCode T c (st i) = some (.normal, st (i + 1))) (he : e ≠ .normal) (hx : xCode T c (st n) = some (e, st')) :
    xCode T (.loop c) (st 0) = some (e, st') := by
  have := loop_run st n hs he hx n (Nat.le_refl _)
  rwa [Nat.sub_self] at this
theorem first_bad {α : Type} (p : α → Prop) [DecidablePred p] : ∀ L : List α, (∀ x ∈ L, p x) ∨ ∃ (j : Nat) (x : α), L[j]? = some x ∧ ¬ p x ∧ ∀ i : Nat, i < j → ∀ y, L[i]? = some y → p y
  | [] => .inl (by simp)
  | x :: L => by
    by_cases hx : p x
    · rcases first_bad p L with h | ⟨j, y, h1, h2, h3⟩
      · exact .inl fun z hz => by
          rcases List.mem_cons.1 hz with rfl | hz
          · exact hx
          · exact h z hz
      · refine .inr ⟨j + 1, y, by simpa using h1, h2, fun i hi z hz => ?_⟩
        cases i with
        | zero => simp at hz; subst hz; exact hx
        | succ i => exact h3 i (by omega) z (by simpa using hz)
    · exact .inr ⟨0, x, rfl, hx, fun i hi => absurd hi (by omega)⟩
theorem closed_run {T : Nat → Option AFunc} {g : Nat} {f : AFunc} (hT : T g = some f) (hc : f.closed = true) (n : Nat) {args : List AVal} {v : AVal} {h' : Heap} (ha : AVal.unders 0 args = true) (hv : v.under 0 = true)
    (he : evFunc (evCall T n) n f args ⟨[], 0, 0⟩ = some (v, h')) (h : Heap) (hr : f.round = none := by rfl) (hw : f.wild = false := by rfl) : xCall T g args h = some (v, h) := by
  rw [xCall_eq T hT (hr := hr) (hw := hw), hc]
  simp only [wrapC, evClosed, if_true]
  rw [if_pos ha, (xFunc_iff T f args _ _ hw).2 ⟨n, he⟩]
  simp [hv]
end Go.Abs
