/-
  list.Number, walked.
-/
import Derived.Test.YtkhcoglcciacdaaGreatDoorP7
import Derived.Test.YtkhcoglcciacdaaGreatDoorP6
import Derived.Shelf.Strconv.ParseIntPublic10
import Derived.Shelf.Strconv.Itoa4
import Derived.WalkKit
import Derived.BigCall
namespace Go.Proofs
open Go.RowKit Go.Shelf Go.Abs.AbsList
structure Errs (w : World) : Prop where
  a : ∃ ev, w.cell? ⟨0, 0, none⟩ = some ev ∧ (ev = .nilIface ∨ ∃ te pe, ev = .iface te pe)
  b : ∃ ev, w.cell? ⟨1, 0, none⟩ = some ev ∧ (ev = .nilIface ∨ ∃ te pe, ev = .iface te pe)
theorem tab_below {w w' : World} (hb : Below w.heap.size w w') (h : Lib.TabIs Tryz.prog w "internal/strconv.uint64pow10" .u64 Lib.pow10Tab) : Lib.TabIs Tryz.prog w' "internal/strconv.uint64pow10" .u64 Lib.pow10Tab := by
  have hg : Tryz.prog.globalNamed "internal/strconv.uint64pow10" = some 2 := by kernel_rfl
  unfold Lib.TabIs World.var? at h ⊢
  rw [hg] at h ⊢
  simp only [Option.bind_some] at h ⊢
  cases h2 : w.heap[2]? with
  | none => rw [h2] at h; cases h
  | some o => 
    have : 2 < w.heap.size := Go.Abs.lt_heap h2
    rw [hb.block 2 this, h2]; rw [h2] at h; exact h
def NumEnds (w : World) (n : Int × Bool) (e : Ending) (w' : World) : Prop := e = .returned (.tuple #[.int .i64 n.1, .bool n.2]) ∧ Below w.heap.size w w'
set_option maxHeartbeats 1000000 in
theorem number_syntax (s : ByteArray) (low high : Int) (w : World) (hs : s.size ≤ 281474976710656) (hE : Errs w) (h : Lib.parseIntB 64 s.data.toList = .«syntax») :
    Calls Tryz.prog 10 #[.string s, .int .i64 low, .int .i64 high] w (NumEnds w (0, false)) := by
  obtain ⟨ev, h1, h2⟩ := hE.a
  go_enter Tryz.func10, Tryz.ntmps10
  go_wp2_with (go_at_call 23; refine (Any.strconv_ParseInt_10_at64_syntax Tryz.lays174 s hs h ev w h1 h2).mono ?_)
  rintro e w1 ⟨N, rfl, hN, _, hb⟩
  clear h1 h2 hE h
  go_wp2
  go_ret2
  exact ⟨rfl, hb⟩
set_option maxHeartbeats 1000000 in
theorem number_range (s : ByteArray) (low high : Int) (w : World) (hs : s.size ≤ 281474976710656) (hE : Errs w) (h : Lib.parseIntB 64 s.data.toList = .range) :
    Calls Tryz.prog 10 #[.string s, .int .i64 low, .int .i64 high] w (NumEnds w (0, false)) := by
  obtain ⟨ev, h1, h2⟩ := hE.b
  generalize hsat : Lib.intSat 64 s.data.toList = sat
  have hc := Any.strconv_ParseInt_10_at64_range Tryz.lays174 s hs h ev w h1 h2
  rw [hsat] at hc
  clear h1 h2 hE h hsat
  go_enter Tryz.func10, Tryz.ntmps10
  go_wp2_with (go_at_call 23; refine hc.mono ?_)
  rintro e w1 ⟨N, rfl, hN, _, hb⟩
  clear hc
  go_wp2
  go_ret2
  exact ⟨rfl, hb⟩
theorem fmt_below {w w' : World} {k : Nat} {os : Array Obj} (h : w' = Go.Sort.grow (w.drewN k) os) : Below w.heap.size w w' := by
  subst h
  refine ⟨rfl, rfl, rfl, by simp [Go.Sort.grow, World.drewN], fun j hj => ?_⟩
  simp only [Go.Sort.grow, World.drewN]
  exact Array.getElem?_append_left hj
theorem toList_data (b : ByteArray) : b.toList = b.data.toList := by
  exact ByteArray.toList_eq b
def Fmt (w : World) (x : ByteArray) (e : Ending) (w' : World) : Prop := e = .returned (.string x) ∧ Below w.heap.size w w'
def Par (w : World) (v : Int) (e : Ending) (w' : World) : Prop := e = .returned (.tuple #[.int .i64 v, .nilIface]) ∧ Below w.heap.size w w'
set_option maxHeartbeats 1000000 in
theorem number_way (s x : ByteArray) (low high v : Int) (w : World) (r : Int × Bool) (hc : Calls Tryz.prog 23 #[.string s, .int .i64 10, .int .i64 64] w (Par w v))
    (hf : ∀ w1, Below w.heap.size w w1 → Calls Tryz.prog 24 #[.int .i64 v, .int .i64 10] w1 (Fmt w1 x))
    (hr : (¬ x.toList = s.toList ∧ r = (0, false)) ∨ (x = s ∧ ((v < low ∧ r = (0, false)) ∨ (low ≤ v ∧ ((high < v ∧ r = (0, false)) ∨ (v ≤ high ∧ r = (v, true))))))) :
    Calls Tryz.prog 10 #[.string s, .int .i64 low, .int .i64 high] w (NumEnds w r) := by
  rcases hr with ⟨h1, rfl⟩ | ⟨rfl, ⟨h2, rfl⟩ | ⟨h2, ⟨h3, rfl⟩ | ⟨h3, rfl⟩⟩⟩ <;>
  · go_enter Tryz.func10, Tryz.ntmps10
    go_wp2_with (go_at_call 23; refine hc.mono ?_)
    rintro e w1 ⟨rfl, hb1⟩
    clear hc
    go_wp2_with (go_at_call 24; refine (hf w1 hb1).mono ?_)
    rintro e w2 ⟨rfl, hb2⟩
    clear hf
    go_wp2
    go_ret2
    exact ⟨rfl, hb1.trans (hb2.mono hb1.size)⟩
theorem number_walk (s : List UInt8) (low high : Int) (w : World) (hs : s.length ≤ 281474976710656) (hE : Errs w) (htab : Lib.TabIs Tryz.prog w "internal/strconv.uint64pow10" .u64 Lib.pow10Tab) :
    Calls Tryz.prog 10 #[.string ⟨s.toArray⟩, .int .i64 low, .int .i64 high] w (NumEnds w (numberF s low high)) := by
  have hsz : (⟨s.toArray⟩ : ByteArray).size ≤ 281474976710656 := by simpa [ByteArray.size] using hs
  have hd : (⟨s.toArray⟩ : ByteArray).data.toList = s := rfl
  unfold numberF
  cases h : Lib.parseIntB 64 s with
  | «syntax» => exact number_syntax ⟨s.toArray⟩ low high w hsz hE h
  | range => exact number_range ⟨s.toArray⟩ low high w hsz hE h
  | ok v =>
    obtain ⟨h0, h1⟩ := parse_range h
    unfold lo64 at h0; unfold hi64 at h1
    have hc : Calls Tryz.prog 23 #[.string ⟨s.toArray⟩, .int .i64 10, .int .i64 64] w (Par w v) := (Any.strconv_ParseInt_10_at64_ok Tryz.lays174 ⟨s.toArray⟩ (by omega) v h w).mono fun e w1 ⟨he, hW⟩ => ⟨he, by
      rcases hW with rfl | ⟨t, rfl⟩
      · exact Below.refl _ _
      · exact Lib.bytesWorld_below _ _ _⟩
    refine number_way _ _ _ _ v w _ hc (fun w1 hb => (Any.strconv_FormatInt_10 Tryz.lays173 v h0 h1 w1 (tab_below hb htab)).mono fun e w2 ⟨he, k, os, h⟩ => ⟨he, fmt_below h⟩) ?_
    by_cases e : Lib.itoa v = s
    · right
      refine ⟨by rw [e], ?_⟩
      by_cases h2 : v < low
      · exact .inl ⟨h2, if_neg (by omega)⟩
      · right
        refine ⟨by omega, ?_⟩
        by_cases h3 : high < v
        · exact .inl ⟨h3, if_neg (by omega)⟩
        · exact .inr ⟨by omega, if_pos ⟨e, by omega, by omega⟩⟩
    · left
      refine ⟨fun h2 => e ?_, if_neg fun h => e h.1⟩
      rw [toList_data, toList_data] at h2
      exact h2
end Go.Proofs
