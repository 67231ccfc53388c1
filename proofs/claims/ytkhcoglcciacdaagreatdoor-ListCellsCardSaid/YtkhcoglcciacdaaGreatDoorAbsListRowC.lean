/-
  The law ListCells: true of any descriptor and job; they read as they did. The listed tables start as the program text lays them.
-/
import Derived.Test.YtkhcoglcciacdaaGreatDoorP6
import Derived.Test.YtkhcoglcciacdaaGreatDoorP12
import Derived.Test.YtkhcoglcciacdaaGreatDoorP13
import Derived.Lay
import Derived.Handed
import Derived.LaidHandle
import Derived.LaidLaws
import Derived.MakeChecks
import Derived.SevenTiedAt
import Derived.Test.YtkhcoglcciacdaaGreatDoorRows
import Derived.Test.YtkhcoglcciacdaaGreatDoorCards
import Derived.Test.YtkhcoglcciacdaaGreatDoorTie
namespace Go.Proofs.YtkhcoglcciacdaaGreatDoor
open Go.Abs Go.Abs.AbsList Go.Abs.AbsListA Go.ChangeShapes Go.WideShapes Go.ChangeAt Go.RowKit
theorem own : ownKnob Tryz.prog.godebug = none := by kernel_rfl
theorem laidOut : laidOutB Tryz.prog = true := by kernel_rfl
theorem boolType : ∃ tb, Tryz.f5.resultTypes = #[tb] ∧ Tryz.prog.underlying tb = some .bool := ⟨_, rfl, by kernel_rfl⟩
abbrev laids : List (String × DataW Unit) := [("math/bits.deBruijn32tab", Rows.laid_math_bits_deBruijn32tab), ("math/bits.deBruijn64tab", Rows.laid_math_bits_deBruijn64tab), ("internal/strconv.uint64pow10", Rows.laid_internal_strconv_uint64pow10), ("unicode/utf8.acceptRanges", Rows.laid_unicode_utf8_acceptRanges), ("strconv.ErrRange", Rows.laid_strconv_ErrRange), ("strconv.ErrSyntax", Rows.laid_strconv_ErrSyntax), ("unicode/utf8.first", Rows.laid_unicode_utf8_first)]
theorem laids_met (os : Os) (args : Array Value) : laidMetH Tryz.prog laids ((World.laidAll Tryz.prog os laids).forCall (fun _ _ => 0) ⟨#[], args, []⟩).memory := by
  rw [MakeChecks.laidMetH_plain _ _ _ (by kernel_rfl)]
  exact laidMet_laidAll _ (by kernel_rfl) (by kernel_rfl)
theorem listCells_run (h : Heap) (l : List Dat) (vs : List AVal) (ha : HasArgs h [shJad, shJob] l vs) (hb : h.base ≤ h.size) : xCall AbsList.T 438 vs h = some (.bool true, h) := by
  obtain ⟨os, b, w⟩ := h
  obtain ⟨_, _, _, _, rfl, rfl, h1, ha⟩ := ha.cons
  obtain ⟨_, _, _, _, rfl, rfl, h2, ha⟩ := ha.cons
  obtain ⟨rfl, rfl⟩ := ha.nil
  obtain ⟨j, rfl, hj, hn, hm⟩ := AbsList.has_jad h1
  obtain ⟨x, rfl, hx, hxu⟩ := AbsList.has_job hb h2
  exact AbsList.cells_run hj hx hn hm hxu hb
set_option maxRecDepth 100000 in
theorem listCells_lifted (os : Os) (started : os.Started) (H : Type) (enc : TypeId × Value → H) :
    ReturnsInHanded {} Tryz.checked os 5 .any (fun w args => (Rows.listCellsSpec.pre enc Tryz.prog Tryz.f5 [] false w args ∧ laidMetH Tryz.prog laids w) ∧ sizedMet enc Tryz.prog Tryz.f5 (OpenSpec.ofChange Rows.listCellsSpec) false w args)
      (Rows.listCellsSpec.post enc Tryz.prog Tryz.f5 false true false false) := by
  refine returnsInHanded_of_change_and (C := Tryz.checked) (X := fun w _ => laidMetH Tryz.prog laids w) (fun _ _ _ hh h => h.of_heap hh) own started (by kernel_rfl) Tryz.func5
    (ChangeSpec.witness_shaped (enc := enc) (C := Tryz.checked) (os := os) (X := fun w _ => laidMetH Tryz.prog laids w) false (World.laidAll Tryz.prog os laids) #[.agg #[.string ⟨#[]⟩, .int .i64 0, .int .i64 0, .int .i64 0, .string ⟨#[]⟩, .int .i64 0, .int .u8 0, .int .u8 0, .int .u8 0, .int .u8 0, .int .u8 0, .int .u8 0, .int .u8 0, .int .u8 0, .int .u8 0, .int .u8 0, .int .u8 0, .int .u8 0, .int .u8 0, .int .u8 0, .int .u8 0, .int .u8 0, .int .u8 0, .int .u8 0, .int .u8 0, .int .u8 0, .int .u8 0, .int .u8 0, .int .u8 0, .int .u8 0, .int .u8 0, .int .u8 0, .int .u8 0, .int .u8 0, .int .u8 0, .int .u8 0, .int .u8 0, .int .u8 0], .agg #[.int .i64 0, .int .i64 0, .slice none 0 0]] 8 (World.laidAll_os _ _ _)
      (World.shaped_of_ZipB (by kernel_rfl) (by kernel_rfl)) (by kernel_rfl) (by kernel_rfl) (by kernel_rfl) (laids_met os _)) ?_
  intro W base args ds gs before hval hW _ hz hX _
  obtain ⟨tb, hr, htb⟩ := boolType
  exact law_contract (E := E) agrees mixed (f := 5) (g := 438) (n := 10) (fn := Tryz.f5) (ss := [shJad, shJob]) rfl (by kernel_rfl) (fun h l vs ha e _ => listCells_run h l vs ha (Nat.le_of_eq e)) rfl
    (fun ds hl => by
      match ds, hl with
      | [_, _], _ => rfl) laidOut (by kernel_rfl) hr htb hval hW hz (tabs_of laids (show Rows.laid_internal_strconv_uint64pow10 = _ by kernel_rfl) rfl (by have h := hX; rw [MakeChecks.laidMetH_plain _ _ _ (by kernel_rfl)] at h; exact h))
theorem listCells_holds : Rows.ListCellsSaid :=
  OpenClaim.holds_of_wide 5 Tryz.f5 rfl rfl rfl rfl rfl rfl rfl ⟨rfl, rfl, rfl, rfl, rfl⟩ rfl rfl rfl rfl rfl (by kernel_rfl) Tryz.func5 (by kernel_rfl)
    (of_decide_eq_true (by kernel_rfl)) (by unfold Func.isWrapper; first | (rw [if_pos (by decide +kernel)]; kernel_rfl) | (rw [if_neg (by decide +kernel)]; exact ⟨rfl, rfl⟩))
    (fun os started H enc _ => listCells_lifted os started H enc)
theorem listCellsCard_holds : Rows.ListCellsCardSaid :=
  Claim7.holds_tied_plain_at .later [] [.data, .data, .data, .data, .sentinel, .sentinel, .pinned] true (true, "e10137f7cae4a8ff9469d17791bc0ed6cfdd974fbc2ed4e09189e745f4e94c19") true
    listCells_holds (fun _ h => by cases h) (by kernel_rfl) (fun _ h => by cases h) listCells_row_tie rfl ⟨rfl, rfl⟩ (by kernel_rfl) rfl
    (fun f fn hf hfn => by
      obtain rfl : f = 5 := Option.some.inj ((show Tryz.prog.funcNamed "carpetbag/carpetbaglaw33.ListCells" = some 5 by kernel_rfl).symm.trans hf) |>.symm
      obtain rfl : fn = Tryz.f5 := (Option.some.inj (Tryz.func5.symm.trans hfn)).symm
      refine ⟨by kernel_rfl, fun j t ht => ?_⟩
      have hm : t ∈ Tryz.f5.params.toList := Array.mem_toList_iff.2 (Array.mem_of_getElem? ht)
      have hall : (Tryz.f5.params.toList.all fun u => !Tryz.prog.wantsStandIn u) = true := by kernel_rfl
      exact (show Tryz.prog.wantsStandIn t = false by simpa using List.all_eq_true.1 hall t hm))
    (by kernel_rfl)
end Go.Proofs.YtkhcoglcciacdaaGreatDoor
