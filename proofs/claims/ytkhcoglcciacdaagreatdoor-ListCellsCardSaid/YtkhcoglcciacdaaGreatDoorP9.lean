/-
  list.Table, walked.
-/
import Derived.Test.YtkhcoglcciacdaaGreatDoorP8
import Derived.Test.YtkhcoglcciacdaaGreatDoorP6
import Derived.Shelf.Strings.Repeat
import Derived.Shelf.Strings.Trim
import Derived.Shelf.Strings.BuilderK
import Derived.Laws.AppendOwn
import Derived.LoopTactic
import Derived.Lib.Hide
namespace Go.Proofs
open Go.RowKit Go.Shelf Go.Abs.AbsList
theorem bld_below {T e : TypeId} {B b : Nat} {bs : List Value} {W W' : World} (h : Lib.IsBuilderF T e B b bs W) (hb : Below W.heap.size W W') : Lib.IsBuilderF T e B b bs W' := by
  have key : ∀ p, Lib.BuilderAtF T e B b p bs W → Lib.BuilderAtF T e B b p bs W' := fun p h => by
    have hlt := h.lt
    obtain ⟨hB, v, hv, hown, hne⟩ := h
    exact ⟨hB, v, (hb.block b hlt).trans hv, hown.kept (row := none) ⟨hb.os, hb.tape, hb.output, hb.size, fun k hk _ => hb.block k hk⟩ (Classical.em _), hne⟩
  exact h.elim (fun x => .inl (key _ x)) (fun x => .inr (key _ x))
def strV (s : List UInt8) : Value := .string ⟨s.toArray⟩
def StrsAt (w : World) (v : Value) (l : List (List UInt8)) : Prop := ∃ a c, v = .slice a l.length c ∧ ∀ (i : Nat) (s : List UInt8), l[i]? = some s → ∃ b o, a = some ⟨b, o, none⟩ ∧ b < w.heap.size ∧ w.cell? ⟨b, o + i, none⟩ = some (strV s)
def RowsAt (w : World) (v : Value) (L : List (List (List UInt8))) : Prop := ∃ a c, v = .slice a L.length c ∧ ∀ (j : Nat) (l : List (List UInt8)), L[j]? = some l → ∃ b o v', a = some ⟨b, o, none⟩ ∧ b < w.heap.size ∧ w.cell? ⟨b, o + j, none⟩ = some v' ∧ StrsAt w v' l
def IntsAt (w : World) (v : Value) (l : List Nat) : Prop := ∃ a c, v = .slice a l.length c ∧ ∀ (i n : Nat), l[i]? = some n → ∃ b o, a = some ⟨b, o, none⟩ ∧ b < w.heap.size ∧ w.cell? ⟨b, o + i, none⟩ = some (.int .i64 n)
theorem StrsAt.below {w w' : World} {v : Value} {l : List (List UInt8)} (h : StrsAt w v l) (hb : Below w.heap.size w w') : StrsAt w' v l := by
  obtain ⟨a, c, h1, h2⟩ := h
  refine ⟨a, c, h1, fun i s hi => ?_⟩
  obtain ⟨b, o, h3, h4, h5⟩ := h2 i s hi
  exact ⟨b, o, h3, Nat.lt_of_lt_of_le h4 hb.size, (hb.cell (p := ⟨b, o + i, none⟩) h4).trans h5⟩
theorem RowsAt.below {w w' : World} {v : Value} {L : List (List (List UInt8))} (h : RowsAt w v L) (hb : Below w.heap.size w w') : RowsAt w' v L := by
  obtain ⟨a, c, h1, h2⟩ := h
  refine ⟨a, c, h1, fun i s hi => ?_⟩
  obtain ⟨b, o, v', h3, h4, h5, h6⟩ := h2 i s hi
  exact ⟨b, o, v', h3, Nat.lt_of_lt_of_le h4 hb.size, (hb.cell (p := ⟨b, o + i, none⟩) h4).trans h5, h6.below hb⟩
theorem IntsAt.below {w w' : World} {v : Value} {l : List Nat} (h : IntsAt w v l) (hb : Below w.heap.size w w') : IntsAt w' v l := by
  obtain ⟨a, c, h1, h2⟩ := h
  refine ⟨a, c, h1, fun i s hi => ?_⟩
  obtain ⟨b, o, h3, h4, h5⟩ := h2 i s hi
  exact ⟨b, o, h3, Nat.lt_of_lt_of_le h4 hb.size, (hb.cell (p := ⟨b, o + i, none⟩) h4).trans h5⟩
theorem Tz.write (B b : Nat) (l : List UInt8) (s : ByteArray) (w : World) (h : Lib.IsBuilderF 47 5 B b (Lib.byteCells l) w) (hlen : l.length + s.size ≤ 140737488355328) (hBw : B ≤ w.heap.size) :
    Calls Tryz.prog 18 #[.pointer (some ⟨b, 0, none⟩), .string s] w fun e w' => e = .returned (.tuple #[.int .i64 s.size, .nilIface]) ∧ (Lib.IsBuilderF 47 5 B b (Lib.byteCells (l ++ s.data.toList)) w' ∧ Below B w w') := by
  refine (Any.Builder_WriteString_k Tryz.lays166 Tryz.Builder_Extra_166 B b (Lib.byteCells l) s w h (by rw [Lib.byteCells_length]; exact hlen) hBw).mono fun e w' ⟨h1, h2, h3, _⟩ => ?_
  refine ⟨h1, .inr ?_, h3⟩
  rw [Lib.byteCells_append]
  exact h2
theorem Tz.text (B b : Nat) (l : List UInt8) (w : World) (h : Lib.IsBuilderF 47 5 B b (Lib.byteCells l) w) (hBw : B ≤ w.heap.size) :
    Calls Tryz.prog 21 #[.pointer (some ⟨b, 0, none⟩)] w fun e w' => e = .returned (strV l) ∧ Below B w w' :=
  (Any.Builder_String_any_k Tryz.lays169 Tryz.Builder_Extra_169 B b l w h hBw).mono fun e w' ⟨h1, _, h3, _⟩ => ⟨h1, h3⟩
theorem Tz.rep (c : Nat) (w : World) (hc : c ≤ 1000) : Calls Tryz.prog 19 #[.string ⟨#[32]⟩, .int .i64 c] w fun e w' => e = .returned (strV (List.replicate c 32)) ∧ Below w.heap.size w w' := by
  refine (Any.strings_Repeat Tryz.lays105 Tryz.Builder_Extra_105 ⟨#[32]⟩ c w (by omega) (by show 1 * c ≤ _; omega)).mono fun e w' ⟨h1, h2⟩ => ⟨?_, h2⟩
  rw [h1]
  have : ∀ c, Lib.repeatL [32] c = List.replicate c 32 := fun c => by
    induction c with
    | zero => rfl
    | succ c ih => rw [Lib.repeatL, ih]; rfl
  exact congrArg (fun l => Ending.returned (strV l)) (this c)
end Go.Proofs

/-
  list.Table, walked.
-/
namespace Go.Proofs
open Go.RowKit Go.Shelf Go.Abs.AbsList
def WidEnds (w : World) (W : List Nat) (e : Ending) (w' : World) : Prop := ∃ v, e = .returned v ∧ Below w.heap.size w w' ∧ IntsAt w' v W
def TabEnds (w : World) (l : List (List UInt8)) (e : Ending) (w' : World) : Prop := ∃ v, e = .returned v ∧ Below w.heap.size w w' ∧ w'.ownsRow w.heap.size 9 1 v l.length (l.map strV) ∧ (l = [] → v = .slice none 0 0)
theorem Tz.info9 : (Tryz.prog.info? 9).map (fun i => (i.zero, i.size, i.bytes)) = some (some (.string ⟨#[]⟩), 1, 16) := by kernel_rfl
structure TabFix (w1 : World) (a : Option Addr) (L : List (List (List UInt8))) (W : List Nat) (a3 : Option Addr) : Prop where
  cells : ∀ (j : Nat) (l : List (List UInt8)), L[j]? = some l → ∃ b o v', a = some ⟨b, o, none⟩ ∧ b < w1.heap.size ∧ w1.cell? ⟨b, o + j, none⟩ = some v' ∧ StrsAt w1 v' l
  hl : ∀ l ∈ L, l.length ≤ 20 ∧ ∀ s ∈ l, s.length ≤ 60
  hW : ∀ n ∈ W, n ≤ 60
  hWl : ∀ l ∈ L, l.length ≤ W.length ∧ ∀ (i : Nat) (s : List UInt8), l[i]? = some s → s.length ≤ W.getD i 0
  hI : ∀ (i n : Nat), W[i]? = some n → ∃ b o, a3 = some ⟨b, o, none⟩ ∧ b < w1.heap.size ∧ w1.cell? ⟨b, o + i, none⟩ = some (.int .i64 n)
def LineRel (W : List Nat) (l : List (List UInt8)) (w0 : World) (i : Value) (wi : World) : Prop := ∃ m : Nat, m ≤ l.length ∧ i = .int .i64 m ∧ Lib.IsBuilderF 47 5 w0.heap.size w0.heap.size (Lib.byteCells (lineP W l m)) wi ∧ Below w0.heap.size w0 wi
theorem lineP_len {W : List Nat} {l : List (List UInt8)} (hW : ∀ n ∈ W, n ≤ 60) (hl : ∀ s ∈ l, s.length ≤ 60) : ∀ m, (lineP W l m).length ≤ m * 122
  | 0 => by simp [lineP]
  | m + 1 => by
    have ih := lineP_len hW hl m
    have h1 : (l.getD m []).length ≤ 60 := by
      rw [List.getD_eq_getElem?_getD]
      cases h : l[m]? with
      | none => simp
      | some s => exact hl s (List.mem_of_getElem? h)
    have h2 : W.getD m 0 ≤ 60 := by
      rw [List.getD_eq_getElem?_getD]
      cases h : W[m]? with
      | none => simp
      | some s => exact hW s (List.mem_of_getElem? h)
    have h3 : (partL W l m).length ≤ 122 := by
      unfold partL
      split <;> simp only [List.length_append, List.length_replicate, List.length_nil] <;> omega
    simp only [lineP, List.length_append]
    omega
theorem bsize (l : List UInt8) : (⟨l.toArray⟩ : ByteArray).size = l.length := List.size_toArray ..
theorem dsize (x : ByteArray) : x.data.toList.length = x.size := Array.length_toList ..
theorem part_yes {W : List Nat} {l : List (List UInt8)} {m : Nat} {s : List UInt8} (hs : l[m]? = some s) (h : m + 1 < l.length) : partL W l m = s ++ List.replicate (W.getD m 0 - s.length + 2) 32 := by
  unfold partL
  rw [if_pos h, List.getD_eq_getElem?_getD (l := l), hs]; rfl
theorem part_no {W : List Nat} {l : List (List UInt8)} {m : Nat} {s : List UInt8} (hs : l[m]? = some s) (h : ¬ m + 1 < l.length) : partL W l m = s := by
  unfold partL
  rw [if_neg h, List.getD_eq_getElem?_getD (l := l), hs]; simp
theorem line_next {W : List Nat} {l : List (List UInt8)} {w0 wi : World} {m : Nat} {x : List UInt8} (hm : m < l.length) (hx : lineP W l m ++ x = lineP W l (m + 1)) (hB : Lib.IsBuilderF 47 5 w0.heap.size w0.heap.size (Lib.byteCells (lineP W l m ++ x)) wi) (hb : Below w0.heap.size w0 wi) : LineRel W l w0 (.int .i64 ((m : Int) + 1)) wi :=
  ⟨m + 1, hm, rfl, hx ▸ hB, hb⟩
theorem Tz.trimB (s : ByteArray) (w : World) (hs : s.size ≤ 1000000) : ∃ z : ByteArray, z.data.toList = Lib.trimRightB s.data.toList 32 ∧ Calls Tryz.prog 20 #[.string s, .string ⟨#[32]⟩] w fun e w' => e = .returned (.string z) ∧ w = w' :=
  ⟨⟨(Lib.trimRightB s.data.toList 32).toArray⟩, rfl, (Any.strings_TrimRight_one Tryz.lays162 s 32 (by decide) w (by omega)).mono fun e w' ⟨h1, h2⟩ => ⟨h1, h2.symm⟩⟩
theorem Tz.textB (B b : Nat) (l : List UInt8) (w : World) (h : Lib.IsBuilderF 47 5 B b (Lib.byteCells l) w) (hBw : B ≤ w.heap.size) :
    ∃ y : ByteArray, y.data.toList = l ∧ Calls Tryz.prog 21 #[.pointer (some ⟨b, 0, none⟩)] w fun e w' => e = .returned (.string y) ∧ Below B w w' :=
  ⟨⟨l.toArray⟩, rfl, Tz.text B b l w h hBw⟩
theorem alloc_size (w : World) (o : Obj) : (w.alloc o).heap.size = w.heap.size + 1 := Array.size_push ..
theorem alloc_cell (w : World) (u : Value) (T : TypeId) : (w.alloc (.cells #[u] T)).cell? ((⟨w.heap.size, 0, none⟩ : Addr).add 0) = some u :=
  Lib.cell_of_heap (b := w.heap.size) (cs := #[u]) (T := T) (fr := (0, 0)) (show (w.heap.push (.cells #[u] T))[w.heap.size]? = _ by rw [Array.getElem?_push, if_pos rfl]) 0
theorem own_keep {w w' : World} {base e size n : Nat} {v : Value} {xs : List Value} (h : w.ownsRow base e size v n xs) (hb : Below w.heap.size w w') : w'.ownsRow base e size v n xs :=
  h.kept (row := none) ⟨hb.os, hb.tape, hb.output, hb.size, fun k hk _ => hb.block k hk⟩ (Classical.em _)
set_option maxHeartbeats 4000000 in
set_option maxRecDepth 1000000 in
theorem Tz.table (v : Value) (L : List (List (List UInt8))) (W : List Nat) (w : World) (hR : RowsAt w v L) (hL : L.length ≤ 20) (hl : ∀ l ∈ L, l.length ≤ 20 ∧ ∀ s ∈ l, s.length ≤ 60) (hW : ∀ n ∈ W, n ≤ 60) (hWl : ∀ l ∈ L, l.length ≤ W.length ∧ ∀ (i : Nat) (s : List UInt8), l[i]? = some s → s.length ≤ W.getD i 0)
    (hwid : Calls Tryz.prog 17 #[v] w (WidEnds w W)) : Calls Tryz.prog 8 #[v] w (TabEnds w (tableL W L)) := by
  obtain ⟨a, c, rfl, hcells⟩ := hR
  go_enter Tryz.func8, Tryz.ntmps8
  go_wp2_with (go_at_call 17; refine hwid.mono ?_)
  rintro e w1 ⟨wv, rfl, hb1, hI⟩
  clear hwid
  obtain ⟨a3, c3, rfl, hI⟩ := hI
  have hF : TabFix w1 a L W a3 := ⟨fun j l hj => by
    obtain ⟨b, o, v', h1, h2, h3, h4⟩ := hcells j l hj
    exact ⟨b, o, v', h1, Nat.lt_of_lt_of_le h2 hb1.size, (hb1.cell (p := ⟨b, o + j, none⟩) h2).trans h3, h4.below hb1⟩, hl, hW, hWl, hI⟩
  clear hcells hl hW hWl hI
  go_wp2_with fail
  go_loopw [4, 14] (fun v i wr => ∃ k : Nat, k ≤ L.length ∧ i = .int .i64 k ∧ Below w1.heap.size w1 wr ∧ wr.ownsRow w1.heap.size 9 1 v k (((tableL W L).take k).map strV) ∧ (k = 0 → v = .slice none 0 0)) (fun _ i _ => L.length - (intOf i).toNat)
  case atStart => exact ⟨0, Nat.zero_le _, rfl, Below.refl _ _, by simpa using World.ownsRow_nil _ _ _ _, fun _ => rfl⟩
  case round =>
    rename World => wo
    obtain ⟨k, hk, rfl, hbo, hown, hnil⟩ := hrel
    by_cases hlt : k < L.length
    · obtain ⟨l, hlk⟩ : ∃ l, L[k]? = some l := ⟨_, List.getElem?_eq_getElem hlt⟩
      obtain ⟨b, o, v', rfl, hb, hc0, hS0⟩ := hF.cells k l hlk
      have hcell : wo.cell? ⟨b, o + k, none⟩ = some v' := (hbo.cell (p := ⟨b, o + k, none⟩) hb).trans hc0
      obtain ⟨a2, c2, rfl, hS1⟩ := hS0.below hbo
      have hll : l.length ≤ 20 := (hF.hl l (List.mem_of_getElem? hlk)).1
      have HS := Lib.hid hS1
      have HL := Lib.hid hlk
      have HO := Lib.hid hown
      clear hc0 hS0 hS1 hlk hown hnil
      go_wp2_with fail
      go_loopw [20] (fun i wi => LineRel W l wo i wi) (fun i _ => l.length - (intOf i).toNat)
      case atStart =>
        refine ⟨0, Nat.zero_le _, rfl, Lib.IsBuilderF.of (Lib.fresh_isBuilder 47 5 wo), (Below.refl _ wo).alloc (Nat.le_refl _) _⟩
      case round =>
        rename World => wi
        obtain ⟨m, hm, rfl, hB, hbi⟩ := hrel
        have hbs : wo.heap.size ≤ wi.heap.size := hbi.size
        by_cases hlt2 : m < l.length
        · obtain ⟨s, hs⟩ : ∃ s, l[m]? = some s := ⟨_, List.getElem?_eq_getElem hlt2⟩
          obtain ⟨b2, o2, rfl, hb2, hc2⟩ := HS.out m s hs
          have hcell2 : wi.cell? ⟨b2, o2 + m, none⟩ = some (strV s) := (hbi.cell (p := ⟨b2, o2 + m, none⟩) hb2).trans hc2
          clear hc2
          have hs60 : s.length ≤ 60 := (hF.hl l (List.mem_of_getElem? HL.out)).2 s (List.mem_of_getElem? hs)
          have hsW : s.length ≤ W.getD m 0 := (hF.hWl l (List.mem_of_getElem? HL.out)).2 m s hs
          have hlen := lineP_len hF.hW (hF.hl l (List.mem_of_getElem? HL.out)).2 m
          obtain ⟨x, hx⟩ : ∃ x : ByteArray, x = ⟨s.toArray⟩ := ⟨_, rfl⟩
          have hxs : x.size = s.length := by rw [hx]; exact bsize _
          have hxd : x.data.toList = s := by rw [hx]
          have hxz : x.size ≤ 60 := by omega
          have hxW : x.size ≤ W.getD m 0 := by omega
          unfold strV at hcell2
          rw [← hx] at hcell2
          have hwr := Tz.write wo.heap.size wo.heap.size (lineP W l m) x wi hB (by omega) hbs
          have HX := Lib.hid hxd
          have HM := Lib.hid hs
          clear hB hx hxs hxd hs
          go_wp2_with (go_at_call 18; refine hwr.mono ?_)
          rintro e W1 ⟨rfl, hB1, hbw1⟩
          clear hwr
          have hw1s : wi.heap.size ≤ W1.heap.size := hbw1.size
          by_cases hm1 : m + 1 < l.length
          · have hmW : m < W.length := by have := (hF.hWl l (List.mem_of_getElem? HL.out)).1; omega
            obtain ⟨n, hn⟩ : ∃ n, W[m]? = some n := ⟨_, List.getElem?_eq_getElem hmW⟩
            obtain ⟨b3, o3, rfl, hb3, hc3⟩ := hF.hI m n hn
            have hbo1 := hbo.size
            have hcell3 : W1.cell? ⟨b3, o3 + m, none⟩ = some (.int .i64 n) := by
              rw [hbw1.cell (p := ⟨b3, o3 + m, none⟩) (Nat.lt_of_lt_of_le hb3 hbo1), hbi.cell (p := ⟨b3, o3 + m, none⟩) (Nat.lt_of_lt_of_le hb3 hbo1), hbo.cell (p := ⟨b3, o3 + m, none⟩) hb3]
              exact hc3
            have hn60 : n ≤ 60 := hF.hW n (List.mem_of_getElem? hn)
            have hnW : W.getD m 0 = n := by rw [List.getD_eq_getElem?_getD, hn]; rfl
            have hxn : x.size ≤ n := by omega
            have HN := Lib.hid hnW
            clear hc3 hn hnW hxW
            obtain ⟨y, hy⟩ : ∃ y : ByteArray, y = ⟨(List.replicate (n - x.size + 2) (32 : UInt8)).toArray⟩ := ⟨_, rfl⟩
            have hys : y.size ≤ 62 := by rw [hy, bsize, List.length_replicate]; omega
            have hyd : y.data.toList = List.replicate (n - x.size + 2) 32 := by rw [hy]
            have hrep : ∀ w, Calls Tryz.prog 19 #[.string ⟨#[32]⟩, .int .i64 ((n : Int) - (x.size : Int) + 2)] w (Fmt w y) := fun w => by
              have := Tz.rep (n - x.size + 2) w (by omega)
              rw [show ((n - x.size + 2 : Nat) : Int) = (n : Int) - (x.size : Int) + 2 by omega] at this
              rw [hy]
              exact this
            have HY := Lib.hid hyd
            clear hy hyd
            go_wp2_with (go_at_call 19; ((with_reducible refine (hrep _).mono ?_)))
            rintro e W2 ⟨rfl, hbw2⟩
            clear hrep
            have hwr2 := Tz.write wo.heap.size wo.heap.size (lineP W l m ++ x.data.toList) y W2 (bld_below hB1 hbw2) (by rw [List.length_append, dsize]; omega) (Nat.le_trans hbs (Nat.le_trans hw1s hbw2.size))
            go_wp2_with (go_at_call 18; ((with_reducible refine hwr2.mono ?_)))
            rintro e W3 ⟨rfl, hB3, hbw3⟩
            clear hwr2
            go_wp2
            go_roundw
            case rel =>
              refine line_next hlt2 ?_ (List.append_assoc _ _ _ ▸ hB3) ((hbi.trans hbw1).trans ((hbw2.mono (Nat.le_trans hbs hw1s)).trans hbw3))
              rw [HY.out, lineP, part_yes HM.out hm1, HN.out, ← HX.out, dsize]
            case measure => simp [intOf]; omega
          · go_wp2
            go_roundw
            case rel =>
              refine line_next hlt2 ?_ hB1 (hbi.trans hbw1)
              rw [HX.out, lineP, part_no HM.out hm1]
            case measure => simp [intOf]; omega
        · obtain rfl : m = l.length := by omega
          have hlen := lineP_len hF.hW (hF.hl l (List.mem_of_getElem? HL.out)).2 l.length
          obtain ⟨y, hyd, hyc⟩ := Tz.textB wo.heap.size wo.heap.size (lineP W l l.length) wi hB hbs
          have hyz : y.size ≤ 1000000 := by rw [← dsize, hyd]; omega
          have HY := Lib.hid hyd
          clear hyd
          go_wp2_with (go_at_call 21; ((with_reducible refine hyc.mono ?_)))
          rintro e W1 ⟨rfl, hbw1⟩
          clear hyc
          obtain ⟨z, hzd, hzc⟩ := Tz.trimB y W1 hyz
          have HZ := Lib.hid hzd
          clear hzd
          go_wp2_with (go_at_call 20; ((with_reducible refine hzc.mono ?_)))
          rintro e W2 ⟨rfl, rfl⟩
          clear hzc
          have hbW := hbi.trans hbw1
          have hown1 := own_keep HO.out hbW
          have hbW1 : Below w1.heap.size w1 W1 := hbo.trans (hbW.mono hbo.size)
          have hsz1 := hbW1.size
          obtain ⟨i0, hi, hz0, hz1, hz2⟩ := info_parts Tz.info9
          go_wp2_with (at_builtin; refine wpList_append_own _ rfl _ _ 24 rfl w1.heap.size 9 i0 (.string ⟨#[]⟩) 1 16 Tryz.underlying24 hi hz0 hz1 hz2 rfl (by decide) _ _ _ rfl (hown1.alloc _) ⟨W1.heap.size, 0, none⟩ 1 1 [.string z] rfl rfl ?c1 ?c2 ?c3 ?c4 ?c5 ?_)
          case c1 =>
            intro j u hj
            match j, hj with
            | 0, hj => 
              cases hj
              exact alloc_cell ..
          case c2 => intro u hu; rw [List.mem_singleton] at hu; subst hu; rfl
          case c3 => unfold maxLen; omega
          case c4 => omega
          case c5 => rw [alloc_size]; omega
          intro v' w5 hown' hgrow _
          go_wp2
          go_roundw
          case rel =>
            refine ⟨k + 1, hlt, rfl, ?_, ?_, fun h => absurd h (Nat.succ_ne_zero k)⟩
            · refine (hbW1.alloc hbW1.size _).grown hgrow (by rw [alloc_size]; omega) fun q hq => (hown1.lt q hq).1
            · have e1 : (tableL W L).take (k + 1) = (tableL W L).take k ++ [lineL W l] := by
                have h1 : (tableL W L)[k]? = some (lineL W l) := by unfold tableL; rw [List.getElem?_map, HL.out]; rfl
                rw [List.take_add_one, h1]; rfl
              have e2 : strV (lineL W l) = .string z := by
                unfold strV lineL
                rw [← HY.out, ← HZ.out]
              rw [e1, List.map_append]
              show w5.ownsRow _ _ _ _ _ (_ ++ [strV (lineL W l)])
              rw [e2]
              rw [List.map_take]
              exact hown'
          case measure => simp [intOf]; omega
    · obtain rfl : k = L.length := by omega
      have HO := Lib.hid hown
      have HN := Lib.hid hnil
      clear hown hnil
      go_wp2
      go_ret
      refine ⟨_, rfl, hb1.trans (hbo.mono hb1.size), ?_, fun e => HN.out (by have := congrArg List.length e; unfold tableL at this; simpa using this)⟩
      have h := HO.out
      have hl : (tableL W L).length = L.length := by unfold tableL; simp
      rw [hl]
      rw [← hl, List.take_length, hl] at h
      refine ⟨h.1, ?_⟩
      rcases h.2 with h1 | ⟨g, cap, cur, h1, h2, h3⟩
      · exact .inl h1
      · exact .inr ⟨g, cap, cur, h1, Nat.le_trans hb1.size h2, h3⟩
end Go.Proofs

/-
  A row that a function of Go made, whatever else it made, is a new object of the machine's.
-/
namespace Go.Abs
open Go.Proofs Go.RowKit
section
variable {E : Env} {μ : MM} {h : Heap} {w w' : World}
theorem Rel.adopt (hr : Rel E μ h w) (o : AObj) (m : M) (hlt : m.blk < w.heap.size) (hne : ∀ (i : Nat) (mi : M), μ[i]? = some (some mi) → mi.blk ≠ m.blk) (hg : E.glob ≤ m.blk)
    (ho : ORel E (μ ++ [some m]) h.base μ.length w o) : Rel E (μ ++ [some m]) (h.push o) w := by
  refine ⟨by simp [Heap.push, hr.len], by have := hr.bs; simp [Heap.push]; omega, fun i o' hi => ?_, fun i j mi mj hn hi h1 h2 => ?_, fun i m' hm' => ?_, hr.tab.1, fun p hp => ⟨(hr.tab.2 p hp).1, (hr.tab.2 p hp).2.1, fun i m' hi hm' => ?_⟩⟩
  · simp only [Heap.push] at hi ⊢
    rcases Nat.lt_or_ge i h.objs.length with h1 | h1
    · rw [List.getElem?_append_left h1] at hi
      exact (hr.obj i o' hi).keep (later_push μ _) fun m' hm' => ⟨by rw [List.getElem?_append_left (lt_of_get hm')]; exact hm', rfl⟩
    · have h3 := lt_of_get hi
      simp at h3
      have e : i = h.objs.length := by omega
      subst e
      simp at hi; subst hi
      rw [← hr.len]; exact ho
  · rcases get_push h1 with a | ⟨e1, a⟩ <;> rcases get_push h2 with b | ⟨e2, b⟩
    · exact hr.sep i j mi mj hn hi a b
    · cases b; exact hne i mi a
    · cases a; exact fun e => hne j mj b e.symm
    · exact absurd (e1.trans e2.symm) hn
  · rcases get_push hm' with a | ⟨_, a⟩
    · exact hr.lt i m' a
    · cases a; exact hlt
  · rcases get_push hm' with a | ⟨_, a⟩
    · exact (hr.tab.2 p hp).2.2 i m' hi a
    · cases a; have := (hr.tab.2 p hp).1; omega
theorem ends_adopt (hr : Rel E μ h w) (hb : Below w.heap.size w w') {g o n cap : Nat} {C : Array Value} {te : TypeId} {new : List AVal} (hg : w.heap.size ≤ g) (hC : w'.heap[g]? = some (.cells C te (0, 0))) (hn : n ≤ cap) (hx : cap ≤ 9223372036854775807) (hs : o + cap ≤ C.size) (hl : new.length = n)
    (hnew : ∀ (k : Nat) (v : AVal), new[k]? = some v → v.isOne = true ∧ ∃ u, C[o + k]? = some u ∧ VRel E μ v u) :
    Ends E μ w (.slice (some (h.size, 0)) n none) (h.puts [] [.cells 1 new]) (.returned (.slice (some ⟨g, o, none⟩) n cap)) w' := by
  have hk := hr.keep hb.size (fun i m hm => hb.block _ (hr.lt i m hm)) fun k _ hk => hb.block k hk
  have hlt : g < w'.heap.size := lt_of_get (l := w'.heap.toList) (by simpa using hC)
  have hlen : h.size = μ.length := hr.len.symm
  have ha := hk.adopt (.cells 1 new) ⟨g, o, C.size, 1⟩ hlt (fun i m hm => by have := hr.lt i m hm; simp only; omega) (by have := hr.tab.1; simp only; omega)
    ⟨⟨g, o, C.size, 1⟩, C, te, (0, 0), by simp, rfl, hC, rfl, by show o + new.length ≤ C.size; omega, fun k v hv => by
      obtain ⟨h1, u, h2, h3⟩ := hnew k v hv
      exact ⟨h1, u, h2, h3.later (later_push _ _)⟩, fun _ off _ => by simp⟩
  refine ⟨_, μ ++ [some ⟨g, o, C.size, 1⟩], rfl, ⟨hb.os, hb.tape, hb.output, hb.size, fun k hk _ _ => hb.block k hk, by simp, fun i hi => .inl (List.getElem?_append_left hi), fun i m hi hm => ?_⟩, ?_, ha⟩
  · rcases get_push hm with a | ⟨_, a⟩
    · exact absurd (lt_of_get a) (by omega)
    · cases a; exact .inl hg
  · rw [hlen]
    simp only [VRel]
    refine ⟨_, cap, rfl, ⟨by simp, hx⟩, fun _ => ⟨some ⟨g, o, C.size, 1⟩, by simp, fun m' hm' => by cases hm'; rfl⟩, (fun k hk => by cases hk), hn, fun m' hm' => ?_⟩
    simp at hm'; subst hm'
    simpa using hs
end
end Go.Abs
