/-
  The law SlotsFind: true of any layout, names and numbers; the layout read as it did. The two listed tables start as the program text lays them.
-/
import Derived.Test.YtknncfpfhjnjpaaDoorP9
import Derived.Test.YtknncfpfhjnjpaaDoorP10
import Derived.Test.YtknncfpfhjnjpaaDoorP11
import Derived.Lay
import Derived.Handed
import Derived.LaidHandle
import Derived.LaidLaws
import Derived.MakeChecks
import Derived.SevenTiedAt
import Derived.Test.YtknncfpfhjnjpaaDoorRows
import Derived.Test.YtknncfpfhjnjpaaDoorCards
import Derived.Test.YtknncfpfhjnjpaaDoorTie
namespace Go.Proofs.YtknncfpfhjnjpaaDoor
open Go.Abs Go.Abs.AbsSlot Go.Abs.AbsSlotF Go.ChangeShapes Go.WideShapes Go.ChangeAt Go.RowKit

theorem own : ownKnob Tryd.prog.godebug = none := by kernel_rfl
theorem laidOut : laidOutB Tryd.prog = true := by kernel_rfl
theorem boolType : ∃ tb, Tryd.f6.resultTypes = #[tb] ∧ Tryd.prog.underlying tb = some .bool := ⟨_, rfl, by kernel_rfl⟩

/-- The variables that are laid. -/
abbrev laids : List (String × DataW Unit) := [("unicode/utf8.acceptRanges", Rows.laid_unicode_utf8_acceptRanges), ("unicode/utf8.first", Rows.laid_unicode_utf8_first)]

theorem laids_met (os : Os) (args : Array Value) : laidMetH Tryd.prog laids ((World.laidAll Tryd.prog os laids).forCall (fun _ _ => 0) ⟨#[], args, []⟩).memory := by
  rw [MakeChecks.laidMetH_plain _ _ _ (by kernel_rfl)]
  exact laidMet_laidAll _ (by kernel_rfl) (by kernel_rfl)

theorem slotsFind_run (h : Heap) (l : List Dat) (vs : List AVal) (ha : HasArgs h [shLay, .str, .str, .str, .int .i64, .int .i64] l vs) (hb : h.base ≤ h.size) : xCall AbsSlot.T 70 vs h = some (.bool true, h) := by
  obtain ⟨os, b, w⟩ := h
  obtain ⟨_, _, _, _, rfl, rfl, h1, ha⟩ := ha.cons
  obtain ⟨_, _, _, _, rfl, rfl, h2, ha⟩ := ha.cons
  obtain ⟨_, _, _, _, rfl, rfl, h3, ha⟩ := ha.cons
  obtain ⟨_, _, _, _, rfl, rfl, h4, ha⟩ := ha.cons
  obtain ⟨_, _, _, _, rfl, rfl, h5, ha⟩ := ha.cons
  obtain ⟨_, _, _, _, rfl, rfl, h6, ha⟩ := ha.cons
  obtain ⟨rfl, rfl⟩ := ha.nil
  obtain ⟨x, rfl, hx⟩ := has_lay hb h1
  obtain ⟨s2, _, rfl, hs2⟩ := h2.str
  obtain ⟨s3, _, rfl, hs3⟩ := h3.str
  obtain ⟨s4, _, rfl, hs4⟩ := h4.str
  obtain ⟨z, _, rfl, _⟩ := h5.int
  obtain ⟨y, _, rfl, _⟩ := h6.int
  exact AbsSlot.s70 hx hb hs2 hs3 hs4

set_option maxRecDepth 100000 in
theorem slotsFind_lifted (os : Os) (started : os.Started) (H : Type) (enc : TypeId × Value → H) :
    ReturnsInHanded {} Tryd.checked os 6 .any (fun w args => (Rows.slotsFindSpec.pre enc Tryd.prog Tryd.f6 [] false w args ∧ laidMetH Tryd.prog laids w) ∧ sizedMet enc Tryd.prog Tryd.f6 (OpenSpec.ofChange Rows.slotsFindSpec) false w args)
      (Rows.slotsFindSpec.post enc Tryd.prog Tryd.f6 false true false false) := by
  refine returnsInHanded_of_change_and (C := Tryd.checked) (X := fun w _ => laidMetH Tryd.prog laids w) (fun _ _ _ hh h => h.of_heap hh) own started (by kernel_rfl) Tryd.func6
    (ChangeSpec.witness_shaped (enc := enc) (C := Tryd.checked) (os := os) (X := fun w _ => laidMetH Tryd.prog laids w) false (World.laidAll Tryd.prog os laids) #[.agg #[.slice none 0 0, .slice none 0 0, .int .i64 0, .slice none 0 0], .string ⟨#[]⟩, .string ⟨#[]⟩, .string ⟨#[]⟩, .int .i64 0, .int .i64 0] 8 (World.laidAll_os _ _ _)
      (World.shaped_of_ZipB (by kernel_rfl) (by kernel_rfl)) (by kernel_rfl) (by kernel_rfl) (by kernel_rfl) (laids_met os _)) ?_
  intro W base args ds gs before hval hW _ hz _ _
  obtain ⟨tb, hr, htb⟩ := boolType
  exact law_contract (E := E) agrees mixed (f := 6) (g := 70) (n := 10) (fn := Tryd.f6) (ss := [shLay, .str, .str, .str, .int .i64, .int .i64]) rfl (by kernel_rfl) (fun h l vs ha e _ => slotsFind_run h l vs ha (Nat.le_of_eq e)) rfl
    (fun ds hl => by
      match ds, hl with
      | [_, _, _, _, _, _], _ => rfl) laidOut (by kernel_rfl) hr htb hval hW hz

theorem slotsFind_holds : Rows.SlotsFindSaid :=
  OpenClaim.holds_of_wide 6 Tryd.f6 rfl rfl rfl rfl rfl rfl rfl ⟨rfl, rfl, rfl, rfl, rfl⟩ rfl rfl rfl rfl rfl (by kernel_rfl) Tryd.func6 (by kernel_rfl)
    (of_decide_eq_true (by kernel_rfl)) (by unfold Func.isWrapper; first | (rw [if_pos (by decide +kernel)]; kernel_rfl) | (rw [if_neg (by decide +kernel)]; exact ⟨rfl, rfl⟩))
    (fun os started H enc _ => slotsFind_lifted os started H enc)

theorem slotsFindCard_holds : Rows.SlotsFindCardSaid :=
  Claim7.holds_tied_plain_at .later [] [.data, .pinned] true (true, "c279b68b0586e4f22f43f7eb896e1df96c93af1bb0358665f790fc996fd9fe40") false
    slotsFind_holds (fun _ h => by cases h) (by kernel_rfl) (fun _ h => by cases h) slotsFind_row_tie rfl ⟨rfl, rfl⟩ (by kernel_rfl) rfl
    (fun f fn hf hfn => by
      obtain rfl : f = 6 := Option.some.inj ((show Tryd.prog.funcNamed "carpetbag/carpetbaglaw24.SlotsFind" = some 6 by kernel_rfl).symm.trans hf) |>.symm
      obtain rfl : fn = Tryd.f6 := (Option.some.inj (Tryd.func6.symm.trans hfn)).symm
      refine ⟨by kernel_rfl, fun j t ht => ?_⟩
      have hm : t ∈ Tryd.f6.params.toList := Array.mem_toList_iff.2 (Array.mem_of_getElem? ht)
      have hall : (Tryd.f6.params.toList.all fun u => !Tryd.prog.wantsStandIn u) = true := by kernel_rfl
      exact (show Tryd.prog.wantsStandIn t = false by simpa using List.all_eq_true.1 hall t hm))
    (by kernel_rfl)
end Go.Proofs.YtknncfpfhjnjpaaDoor
