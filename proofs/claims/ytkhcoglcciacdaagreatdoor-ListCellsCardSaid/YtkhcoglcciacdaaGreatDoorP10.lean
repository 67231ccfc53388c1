/-
  list.Table, list.Number and strconv.Itoa: what was walked, in the machine's words.
-/
import Derived.Test.YtkhcoglcciacdaaGreatDoorP9
import Derived.Test.YtkhcoglcciacdaaGreatDoorP6
import Derived.Shelf.Strconv.Itoa3
namespace Go.Abs.AbsList
open Go.Proofs Go.RowKit Go.Shelf Go.Abs.AbsWid
set_option maxRecDepth 100000
def isErr (o : Obj) : Prop := ∃ (ev : Value) (t : TypeId) (fr : Nat × Nat), o = .cells #[ev] t fr ∧ (ev = .nilIface ∨ ∃ te pe, ev = .iface te pe)
def isPow (o : Obj) : Prop := ∃ (t : TypeId) (fr : Nat × Nat), o = .cells (Lib.pow10Tab.map fun z => Value.int .u64 z).toArray t fr
def tabsL : List (Nat × (Obj → Prop)) := [(0, isErr), (1, isErr), (2, isPow)]
section
variable {E : Env} {μ : MM} {h : Heap} {w : World}
theorem errs_of (hT : E.tabs = tabsL) (hr : Rel E μ h w) : Errs w := by
  have key : ∀ g, (g, isErr) ∈ E.tabs → ∃ ev, w.cell? ⟨g, 0, none⟩ = some ev ∧ (ev = .nilIface ∨ ∃ te pe, ev = .iface te pe) := fun g hg => by
    obtain ⟨_, ⟨o, h1, ev, t, fr, rfl, h2⟩, _⟩ := hr.tab.2 _ hg
    exact ⟨ev, Lib.cell_of_heap h1 0, h2⟩
  exact ⟨key 0 (by rw [hT]; simp [tabsL]), key 1 (by rw [hT]; simp [tabsL])⟩
theorem pow_of (hT : E.tabs = tabsL) (hr : Rel E μ h w) : Lib.TabIs Tryz.prog w "internal/strconv.uint64pow10" .u64 Lib.pow10Tab := by
  obtain ⟨_, ⟨o, h1, t, fr, rfl⟩, _⟩ := hr.tab.2 (2, isPow) (by rw [hT]; simp [tabsL])
  have hg : Tryz.prog.globalNamed "internal/strconv.uint64pow10" = some 2 := by kernel_rfl
  unfold Lib.TabIs World.var?
  rw [hg]
  simp only [Option.bind_some]
  rw [h1]
theorem num_ok (hP : E.P = Tryz.prog) (hT : E.tabs = tabsL) (hn : Tryz.f10.name ≠ "runtime.NumGoroutine") (hb : Tryz.f10.body.isSome = true) : LibOK E 10 Tryz.f10 (pureF numA) :=
  LibOK.pure hn hb fun args h v e μ w args' ha hr => by
    unfold numA at e
    split at e
    case h_2 => cases e
    rename_i s low high
    split at e
    case isFalse => cases e
    rename_i hs
    cases e
    simp only [VRels, VRel] at ha
    obtain ⟨_, _, e1, rfl, _, _, rfl, rfl, _, _, rfl, rfl, rfl⟩ := ha
    have ha' : args' = #[.string ⟨s.toArray⟩, .int .i64 low, .int .i64 high] := by rw [← Array.toList_inj, e1]
    subst ha'
    refine lib_ends hr (v' := .tuple #[.int .i64 (numberF s low high).1, .bool (numberF s low high).2]) ?_ ?_
    · rw [numS_eq]
      simp only [VRel, VRels]
      exact ⟨_, rfl, _, _, rfl, rfl, _, _, rfl, rfl, rfl⟩
    · rw [hP]
      exact number_walk s low high w hs (errs_of hT hr) (pow_of hT hr)
theorem itoa_ok (hP : E.P = Tryz.prog) (hT : E.tabs = tabsL) (hn : Tryz.f27.name ≠ "runtime.NumGoroutine") (hb : Tryz.f27.body.isSome = true) : LibOK E 27 Tryz.f27 (pureF itoaA) :=
  LibOK.pure hn hb fun args h v e μ w args' ha hr => by
    unfold itoaA at e
    split at e
    case h_2 => cases e
    rename_i n
    split at e
    case isFalse => cases e
    rename_i hs
    cases e
    simp only [VRels, VRel] at ha
    obtain ⟨_, _, e1, rfl, rfl⟩ := ha
    have ha' : args' = #[.int .i64 n] := by rw [← Array.toList_inj, e1]
    subst ha'
    refine lib_ends hr (v' := .string ⟨(Lib.itoa n).toArray⟩) (by simp only [VRel]; rw [itoaS_eq hs.1 hs.2]) ?_
    rw [hP]
    exact (Any.strconv_Itoa Tryz.lays171 n hs.1 hs.2 w (pow_of hT hr)).mono fun e w' ⟨h1, k, os, h2⟩ => ⟨h1, fmt_below h2⟩
theorem row_cell (hr : Rel E μ h w) {α : Type} {f : α → List AVal} {L : List α} {a : Option (Nat × Nat)} {n : Nat} {c : Option Nat} {v : Value} (hv : VRel E μ (.slice a n c) v) (hR : Row h.objs 1 f L a) :
    ∃ ad cap, v = .slice ad n cap ∧ ∀ (i : Nat) (x : α) (u : AVal), L[i]? = some x → f x = [u] → L.length ≤ n → ∃ b o u', ad = some ⟨b, o, none⟩ ∧ b < w.heap.size ∧ w.cell? ⟨b, o + i, none⟩ = some u' ∧ VRel E μ u u' := by
  cases a with
  | none =>
    simp only [VRel] at hv
    obtain ⟨rfl, _, rfl⟩ := hv
    refine ⟨_, _, rfl, fun i x u hx _ hl => ?_⟩
    have := lt_of_get hx
    omega
  | some p =>
    obtain ⟨i0, o0⟩ := p
    simp only [VRel] at hv
    obtain ⟨ad, cap, rfl, _, k1, _, k3, _⟩ := hv
    refine ⟨_, _, rfl, fun i x u hx hf hl => ?_⟩
    obtain ⟨b, o, cs, e1, h2, h3⟩ := cell1 hR hx hf
    cases e1
    obtain ⟨m, c2, e, fr, m1, m2, m3, m4, m5, m6, _⟩ := hr.obj _ _ h2
    have hlt := lt_of_get hx
    obtain ⟨x', x1, x2⟩ := k1 (by omega)
    rw [m1] at x1
    cases x1
    have had := x2 m rfl
    subst had
    obtain ⟨_, u', g1, g2⟩ := m6 _ _ h3
    refine ⟨m.blk, m.base + o0, u', rfl, hr.lt _ m m1, ?_, g2⟩
    rw [Lib.cell_of_heap m3, show m.base + o0 + i = m.base + (o0 + i) by omega]
    exact g1
theorem strs_row {a : Option (Nat × Nat)} {n : Nat} {l : List (List UInt8)} (hl : rowStrs a n h = some l) : l.length = n ∧ Row h.objs 1 strC l a := by
  unfold rowStrs at hl
  split at hl
  · rename_i hn; cases hl; exact ⟨hn.symm, ⟨fun h => absurd rfl h⟩⟩
  · split at hl
    case h_2 => cases hl
    rename_i i o
    split at hl
    case h_2 => cases hl
    rename_i cs hi
    split at hl
    case isFalse => cases hl
    rename_i hle
    obtain ⟨l1, l2⟩ := strsOf_get hl
    rw [List.length_take, List.length_drop] at l1
    refine ⟨by omega, ⟨fun _ => ⟨i, o, cs, rfl, hi, fun j x hx => ?_⟩⟩⟩
    have hj := lt_of_get hx
    have h2 := l2 j x hx
    rw [List.getElem?_take, if_pos (by omega), List.getElem?_drop] at h2
    have h3 := lt_of_get h2
    refine ⟨by omega, ?_⟩
    rw [Nat.mul_one, List.take_one, List.head?_drop, h2]; rfl
theorem rows_row : ∀ {cs : List AVal} {L : List (List (List UInt8))}, rowsOf h cs = some L → ∃ Ls : List TRow, Ls.map TRow.l = L ∧ cs = Ls.map (fun x => AVal.slice x.a x.l.length x.c) ∧ ∀ x ∈ Ls, Row h.objs 1 strC x.l x.a
  | [], L, e => by simp only [rowsOf] at e; cases e; exact ⟨[], rfl, rfl, by simp⟩
  | v :: r, L, e => by
    cases v with
    | slice a n c =>
      simp only [rowsOf] at e
      split at e
      case h_2 => cases e
      rename_i l L' h1 h2
      cases e
      obtain ⟨Ls, rfl, rfl, h3⟩ := rows_row h2
      obtain ⟨h4, h5⟩ := strs_row h1
      refine ⟨⟨l, a, c⟩ :: Ls, rfl, by simp [h4], fun x hx => ?_⟩
      rcases List.mem_cons.1 hx with rfl | hx
      · exact h5
      · exact h3 x hx
    | _ => simp only [rowsOf] at e; cases e
theorem table_row {a : Option (Nat × Nat)} {n : Nat} {L : List (List (List UInt8))} (hl : rowRows a n h = some L) : L.length = n ∧ ∃ Ls : List TRow, Ls.map TRow.l = L ∧ Row h.objs 1 TRow.cells Ls a ∧ ∀ x ∈ Ls, Row h.objs 1 strC x.l x.a := by
  unfold rowRows at hl
  split at hl
  · rename_i hn; cases hl; exact ⟨hn.symm, [], rfl, ⟨fun h => absurd rfl h⟩, by simp⟩
  · split at hl
    case h_2 => cases hl
    rename_i i o
    split at hl
    case h_2 => cases hl
    rename_i cs hi
    split at hl
    case isFalse => cases hl
    rename_i hle
    obtain ⟨Ls, rfl, e, h3⟩ := rows_row hl
    have hlen := congrArg List.length e
    rw [List.length_take, List.length_drop, List.length_map] at hlen
    refine ⟨by rw [List.length_map]; omega, Ls, rfl, ⟨fun _ => ⟨i, o, cs, rfl, hi, fun j x hx => ?_⟩⟩, h3⟩
    have hj := lt_of_get hx
    have h2 := congrArg (fun l => l[j]?) e
    simp only [List.getElem?_take, List.getElem?_drop, List.getElem?_map, hx, Option.map_some] at h2
    rw [if_pos (by omega)] at h2
    have h4 := lt_of_get h2
    refine ⟨by omega, ?_⟩
    rw [Nat.mul_one, List.take_one, List.head?_drop, h2]; rfl
def code426s : AFunc := ⟨false, false, 1, 50, [.tmp 2], .cond (.const (.str [])) .skip .skip, none⟩
def T0 : Nat → Option AFunc := fun g => if g = 426 then some code426s else T g
theorem sub0 : ∀ g f, AbsWid.T g = some f → T0 g = some f := fun g f h => by
  unfold T0
  rw [if_neg, AbsList.sub g f h]
  rintro rfl
  cases h
theorem rnd0 : ∀ g ar, rndOf T g = some ar → rndOf T0 g = some ar := fun g ar h => by
  by_cases e : g = 426
  · subst e
    simp [rndOf, AbsList.t426, code426, ASpec.rnd] at h
  · unfold rndOf T0 at *
    rw [if_neg e]; exact h
theorem agrees_alt {P : Program} {T T1 : Nat → Option AFunc} {l : List (Nat × Nat)} {room glob : Nat} {tabs : List (Nat × (Obj → Prop))} (hr : ∀ g ar, rndOf T g = some ar → rndOf T1 g = some ar) (h : AgreesL ⟨P, fun f => List.lookup f l, rndOf T, room, glob, tabs⟩ T1 l) : Agrees ⟨P, fun f => List.lookup f l, rndOf T, room, glob, tabs⟩ T1 := by
  constructor
  · intro f g hg
    simp only at hg
    have : ∀ {r : List (Nat × Nat)}, AgreesL ⟨P, fun f => List.lookup f l, rndOf T, room, glob, tabs⟩ T1 r → List.lookup f r = some g → FnOK ⟨P, fun f => List.lookup f l, rndOf T, room, glob, tabs⟩ T1 f g := by
      intro r
      induction r with
      | nil => intro _ h1; simp at h1
      | cons p r ih =>
        intro h1 h2
        obtain ⟨a, b⟩ := p
        simp only [AgreesL] at h1
        rw [List.lookup_cons] at h2
        split at h2
        · rename_i e
          rw [beq_iff_eq] at e
          subst e
          cases h2
          exact h1.1
        · exact ih h1.2 h2
    exact this h hg
  · intro g ar hg
    have hg := hr g ar hg
    simp only [rndOf, Option.bind_eq_some_iff] at hg
    obtain ⟨af, h1, s, h2, h3⟩ := hg
    cases s with
    | round r => cases h3; exact ⟨af, h1, h2⟩
    | lib _ => cases h3
theorem table_ok (hP : E.P = Tryz.prog) (hg : E.gid 17 = some 442) (hA : Agrees E T0) (hm : E.P.follows .mixedOrders = true) (hn : Tryz.f8.name ≠ "runtime.NumGoroutine") (hb : Tryz.f8.body.isSome = true) : LibOK E 8 Tryz.f8 tableF where
  name := hn
  body := hb
  run := fun args h v ps xs e μ w args' ha hr => by
    unfold tableF at e
    split at e
    case h_2 => cases e
    rename_i a n c
    split at e
    case h_2 => cases e
    rename_i L hL
    split at e
    case isFalse => cases e
    rename_i hsm
    simp only [VRels] at ha
    obtain ⟨v1, r1, e1, q1, e2⟩ := ha
    subst e2
    have ha' : args' = #[v1] := by rw [← Array.toList_inj, e1]
    subst ha'
    obtain ⟨hLn, Ls, hLs, hR, hRs⟩ := table_row hL
    obtain ⟨s1, s2⟩ := small_spec hsm
    have hLl : Ls.length = n := by rw [← hLn, ← hLs, List.length_map]
    have hRA : RowsAt w v1 L := by
      obtain ⟨ad, cap, rfl, hc⟩ := row_cell hr q1 hR
      refine ⟨ad, cap, by rw [hLn], fun j l hj => ?_⟩
      rw [← hLs, List.getElem?_map, Option.map_eq_some_iff] at hj
      obtain ⟨x, hx, rfl⟩ := hj
      obtain ⟨b, o, u', h1, h2, h3, h4⟩ := hc j x _ hx rfl (by omega)
      refine ⟨b, o, u', h1, h2, h3, ?_⟩
      obtain ⟨ad2, cap2, rfl, hc2⟩ := row_cell hr h4 (hRs x (List.mem_of_getElem? hx))
      refine ⟨ad2, cap2, rfl, fun i s hs => ?_⟩
      obtain ⟨b', o', u2, g1, g2, g3, g4⟩ := hc2 i s _ hs rfl (Nat.le_refl _)
      simp only [VRel] at g4
      subst g4
      exact ⟨b', o', g1, g2, g3⟩
    have hok : ∀ x ∈ Ls, x.ok h.objs := fun x hx => by
      have := s2 x.l (by rw [← hLs]; exact List.mem_map_of_mem hx)
      exact ⟨hRs x hx, this.1, this.2⟩
    have hx0 : xCall T0 442 [.slice a n c] ⟨h.objs, h.base, h.size⟩ = some (newV h.size (widL L), ⟨newO 1 natC h.objs (widL L), h.base, h.size⟩) := by
      have := s442 (w := h.size) (lc := c) hR hok hr.bs (by omega)
      rw [hLs, hLl] at this
      exact xCall_sub sub0 this
    have hwid : Calls Tryz.prog 17 #[v1] w (WidEnds w (widL L)) := by
      have := x_sound hA hm hx0 hg (args' := #[v1]) (by simp only [VRels]; exact ⟨v1, [], rfl, q1, rfl⟩) (hr.same rfl rfl rfl)
      rw [hP] at this
      refine this.mono fun e w' ⟨v', μ', k1, k2, k3, k4⟩ => ⟨v', k1, ⟨k2.os, k2.tape, k2.output, k2.size, fun k hk => k2.block k hk (fun h => h) fun i m hi hmi => ?_⟩, ?_⟩
      · have := lt_of_get hmi
        have h5 : μ.length = h.objs.length := hr.len
        have h6 : h.size ≤ i := hi
        simp only [Heap.size] at h6
        omega
      · rw [newV_eq] at k3
        have hrow : Row (newO 1 natC h.objs (widL L)) 1 natC (widL L) (newA h.size (widL L)) := new_row natC_len
        obtain ⟨ad, cap, rfl, hc⟩ := row_cell k4 k3 hrow
        refine ⟨ad, cap, rfl, fun i n hi => ?_⟩
        obtain ⟨b, o, u', h1, h2, h3, h4⟩ := hc i n _ hi rfl (Nat.le_refl _)
        simp only [VRel] at h4
        subst h4
        exact ⟨b, o, h1, h2, h3⟩
    have hfw := foldW L []
    have htab := Tz.table v1 L (widL L) w hRA s1 s2 (foldW_le L [] (by simp) fun l hl s hs => (s2 l hl).2 s hs) hfw.2.2 hwid
    rw [hP]
    refine htab.mono fun e' w' ⟨v', k1, k2, k3, k4⟩ => ?_
    subst k1
    by_cases hnil : L = []
    · rw [if_pos hnil] at e
      cases e
      have := k4 (by rw [hnil]; rfl)
      subst this
      exact ⟨_, μ, rfl, ⟨k2.os, k2.tape, k2.output, k2.size, fun k hk _ _ => k2.block k hk, Nat.le_refl _, fun _ _ => .inl rfl, fun i m hi hm => absurd (lt_of_get hm) (by omega)⟩, by simp only [VRel]; simp, hr.keep k2.size (fun i m hm => k2.block _ (hr.lt i m hm)) fun k _ hk => k2.block k hk⟩
    · rw [if_neg hnil] at e
      cases e
      have htl : (tableL (widL L) L).length = L.length := by unfold tableL; simp
      rcases k3.2 with ⟨_, h0⟩ | ⟨g, cap, cur, rfl, g1, g2, g3, g4, g5, g6⟩
      · exfalso; apply hnil; exact List.eq_nil_of_length_eq_zero (by omega)
      · rw [htl]
        unfold maxLen at g4
        refine ends_adopt hr k2 (n := L.length) (cap := cap) (o := 0) g1 g2 (by omega) g4 (by omega) (by rw [List.length_map, htl]) fun k u hu => ?_
        rw [List.getElem?_map, Option.map_eq_some_iff] at hu
        obtain ⟨s, hs, rfl⟩ := hu
        refine ⟨rfl, strV s, ?_, by simp only [VRel]; rfl⟩
        have h7 := congrArg (fun l => l[k]?) g6
        have hk := lt_of_get hs
        simp only [List.getElem?_take, List.getElem?_map, hs, Option.map_some] at h7
        rw [if_pos (by omega)] at h7
        rw [Nat.zero_add]
        simpa using h7
end
end Go.Abs.AbsList
