/-
  The law DescPrints: true of any texts; they read as they did. The two listed tables start as the program's text lays them.
-/
import Derived.Test.YtepjcennipobhaaDoorP6
import Derived.Test.YtepjcennipobhaaDoorP10
namespace Go.Proofs.YtepjcennipobhaaDoor
open Go.Abs Go.Abs.AbsDesc Go.ChangeShapes Go.WideShapes Go.ChangeAt Go.RowKit

theorem text_conv {h : Heap} {d : Dat} {c : List AVal} (hh : Has h .str d c) : ∃ x : List UInt8, c = strCell x ∧ True := by
  obtain ⟨s, _, rfl, _⟩ := hh.str
  exact ⟨s, rfl, trivial⟩

theorem descPrints_run (h : Heap) (l : List Dat) (vs : List AVal) (ha : HasArgs h [.slice .str, .str] l vs) (hb : h.base ≤ h.size) : xCall T 46 vs h = some (.bool true, h) := by
  obtain ⟨os, b, w⟩ := h
  obtain ⟨d, _, c, _, rfl, rfl, h1, h2⟩ := ha.cons
  obtain ⟨_, _, _, _, rfl, rfl, h3, h4⟩ := h2.cons
  obtain ⟨rfl, rfl⟩ := h4.nil
  obtain ⟨a, L, c', rfl, hR, _, _, _⟩ := h1.row (f := strCell) (fun d c hh => text_conv hh)
  obtain ⟨s, _, rfl, _⟩ := h3.str
  exact s46 hR hb

set_option maxRecDepth 100000 in
theorem descPrints_lifted (os : Os) (started : os.Started) (H : Type) (enc : TypeId × Value → H) :
    ReturnsInHanded {} Tryd.checked os 5 .any (fun w args => (Rows.descPrintsSpec.pre enc Tryd.prog Tryd.f5 [] false w args ∧ laidMetH Tryd.prog laids w) ∧ sizedMet enc Tryd.prog Tryd.f5 (OpenSpec.ofChange Rows.descPrintsSpec) false w args)
      (Rows.descPrintsSpec.post enc Tryd.prog Tryd.f5 false true false false) := by
  refine returnsInHanded_of_change_and (C := Tryd.checked) (X := fun w _ => laidMetH Tryd.prog laids w) (fun _ _ _ hh h => h.of_heap hh) own started (by kernel_rfl) Tryd.func5
    (ChangeSpec.witness_shaped (enc := enc) (C := Tryd.checked) (os := os) (X := fun w _ => laidMetH Tryd.prog laids w) false (World.laidAll Tryd.prog os laids) #[.slice none 0 0, .string ⟨#[]⟩] 8 (World.laidAll_os _ _ _)
      (World.shaped_of_ZipB (by kernel_rfl) (by kernel_rfl)) (by kernel_rfl) (by kernel_rfl) (by kernel_rfl) (laids_met os _)) ?_
  intro W base args ds gs before hval hW _ _ _ _
  obtain ⟨tb, _, _, hr, htb⟩ := boolType
  exact law_contract (E := E) agrees mixed (f := 5) (g := 46) (n := 10) (fn := Tryd.f5) (ss := [.slice .str, .str]) rfl (by kernel_rfl) (fun h l vs ha e _ => descPrints_run h l vs ha (Nat.le_of_eq e)) rfl
    (fun ds hl => by
      match ds, hl with
      | [_, _], _ => rfl) laidOut (by kernel_rfl) hr htb hval hW

theorem descPrints_holds : Rows.DescPrintsSaid :=
  OpenClaim.holds_of_wide 5 Tryd.f5 rfl rfl rfl rfl rfl rfl rfl ⟨rfl, rfl, rfl, rfl, rfl⟩ rfl rfl rfl rfl rfl (by kernel_rfl) Tryd.func5 (by kernel_rfl)
    (of_decide_eq_true (by kernel_rfl)) (by unfold Func.isWrapper; first | (rw [if_pos (by decide +kernel)]; kernel_rfl) | (rw [if_neg (by decide +kernel)]; exact ⟨rfl, rfl⟩))
    (fun os started H enc _ => descPrints_lifted os started H enc)

theorem descPrintsCard_holds : Rows.DescPrintsCardSaid :=
  Claim7.holds_tied_plain_at .later [] [.data, .pinned] true (true, "f2e8596c9bf5cb61b02088b2061569f25eb44aaf288edead5a1541454af4ae01") false
    descPrints_holds (fun _ h => by cases h) (by kernel_rfl) (fun _ h => by cases h) descPrints_row_tie rfl ⟨rfl, rfl⟩ (by kernel_rfl) rfl
    (fun f fn hf hfn => by
      obtain rfl : f = 5 := Option.some.inj ((show Tryd.prog.funcNamed "carpetbag/carpetbaglaw12.DescPrints" = some 5 by kernel_rfl).symm.trans hf) |>.symm
      obtain rfl : fn = Tryd.f5 := (Option.some.inj (Tryd.func5.symm.trans hfn)).symm
      refine ⟨by kernel_rfl, fun j t ht => ?_⟩
      have hm : t ∈ Tryd.f5.params.toList := Array.mem_toList_iff.2 (Array.mem_of_getElem? ht)
      have hall : (Tryd.f5.params.toList.all fun u => !Tryd.prog.wantsStandIn u) = true := by kernel_rfl
      exact (show Tryd.prog.wantsStandIn t = false by simpa using List.all_eq_true.1 hall t hm))
    (by kernel_rfl)
end Go.Proofs.YtepjcennipobhaaDoor
