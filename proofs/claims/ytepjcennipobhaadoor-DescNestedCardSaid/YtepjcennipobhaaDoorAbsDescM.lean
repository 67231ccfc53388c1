/-
  The law DescNested: true of every text; the text reads as it did. The two listed tables start as the program's text lays them.
-/
import Derived.Test.YtepjcennipobhaaDoorP9
namespace Go.Proofs.YtepjcennipobhaaDoor
open Go.Abs Go.Abs.AbsDesc Go.ChangeShapes Go.WideShapes Go.ChangeAt Go.RowKit

theorem descNested_run (h : Heap) (l : List Dat) (vs : List AVal) (ha : HasArgs h [.str] l vs) (hb : h.base ≤ h.size) : xCall T 41 vs h = some (.bool true, h) := by
  obtain ⟨os, b, w⟩ := h
  obtain ⟨d, _, c, _, rfl, rfl, h1, h2⟩ := ha.cons
  obtain ⟨rfl, rfl⟩ := h2.nil
  obtain ⟨s, _, rfl, _⟩ := h1.str
  exact s41 hb

set_option maxRecDepth 100000 in
theorem descNested_lifted (os : Os) (started : os.Started) (H : Type) (enc : TypeId × Value → H) :
    ReturnsInHanded {} Tryd.checked os 4 .any (fun w args => (Rows.descNestedSpec.pre enc Tryd.prog Tryd.f4 [] false w args ∧ laidMetH Tryd.prog laids w) ∧ sizedMet enc Tryd.prog Tryd.f4 (OpenSpec.ofChange Rows.descNestedSpec) false w args)
      (Rows.descNestedSpec.post enc Tryd.prog Tryd.f4 false true false false) := by
  refine returnsInHanded_of_change_and (C := Tryd.checked) (X := fun w _ => laidMetH Tryd.prog laids w) (fun _ _ _ hh h => h.of_heap hh) own started (by kernel_rfl) Tryd.func4
    (ChangeSpec.witness_shaped (enc := enc) (C := Tryd.checked) (os := os) (X := fun w _ => laidMetH Tryd.prog laids w) false (World.laidAll Tryd.prog os laids) #[.string ⟨#[]⟩] 8 (World.laidAll_os _ _ _)
      (World.shaped_of_ZipB (by kernel_rfl) (by kernel_rfl)) (by kernel_rfl) (by kernel_rfl) (by kernel_rfl) (laids_met os _)) ?_
  intro W base args ds gs before hval hW _ _ _ _
  obtain ⟨tb, _, hr, _, htb⟩ := boolType
  exact law_contract (E := E) agrees mixed (f := 4) (g := 41) (n := 10) (fn := Tryd.f4) (ss := [.str]) rfl (by kernel_rfl) (fun h l vs ha e _ => descNested_run h l vs ha (Nat.le_of_eq e)) rfl
    (fun ds hl => by
      match ds, hl with
      | [_], _ => rfl) laidOut (by kernel_rfl) hr htb hval hW

theorem descNested_holds : Rows.DescNestedSaid :=
  OpenClaim.holds_of_wide 4 Tryd.f4 rfl rfl rfl rfl rfl rfl rfl ⟨rfl, rfl, rfl, rfl, rfl⟩ rfl rfl rfl rfl rfl (by kernel_rfl) Tryd.func4 (by kernel_rfl)
    (of_decide_eq_true (by kernel_rfl)) (by unfold Func.isWrapper; first | (rw [if_pos (by decide +kernel)]; kernel_rfl) | (rw [if_neg (by decide +kernel)]; exact ⟨rfl, rfl⟩))
    (fun os started H enc _ => descNested_lifted os started H enc)

theorem descNestedCard_holds : Rows.DescNestedCardSaid :=
  Claim7.holds_tied_plain_at .later [] [.data, .pinned] true (true, "f2e8596c9bf5cb61b02088b2061569f25eb44aaf288edead5a1541454af4ae01") false
    descNested_holds (fun _ h => by cases h) (by kernel_rfl) (fun _ h => by cases h) descNested_row_tie rfl ⟨rfl, rfl⟩ (by kernel_rfl) rfl
    (fun f fn hf hfn => by
      obtain rfl : f = 4 := Option.some.inj ((show Tryd.prog.funcNamed "carpetbag/carpetbaglaw12.DescNested" = some 4 by kernel_rfl).symm.trans hf) |>.symm
      obtain rfl : fn = Tryd.f4 := (Option.some.inj (Tryd.func4.symm.trans hfn)).symm
      refine ⟨by kernel_rfl, fun j t ht => ?_⟩
      have hm : t ∈ Tryd.f4.params.toList := Array.mem_toList_iff.2 (Array.mem_of_getElem? ht)
      have hall : (Tryd.f4.params.toList.all fun u => !Tryd.prog.wantsStandIn u) = true := by kernel_rfl
      exact (show Tryd.prog.wantsStandIn t = false by simpa using List.all_eq_true.1 hall t hm))
    (by kernel_rfl)
end Go.Proofs.YtepjcennipobhaaDoor
