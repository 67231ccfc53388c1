/-
  What is known of the program's variables when a law is called.
-/
import Derived.Test.YtkhcoglcciacdaaGreatDoorP11
import Derived.Stop.LaidErr
import Derived.Lib.LaidTab
import Derived.MakeChecks
import Derived.Test.YtkhcoglcciacdaaGreatDoorRows
namespace Go.Abs.AbsList
open Go.Proofs Go.RowKit Go.Shelf
set_option maxRecDepth 100000
theorem star : "*" ++ "errors.errorString" = "*errors.errorString" := by decide
theorem rowErr (u : TypeId) (h : Tryz.prog.typeName? 3 u = some "*errors.errorString") : u = 159 :=
  typeName_ptr_named (nm := "errors.errorString") (by rw [star]; kernel_rfl) (by kernel_rfl) (by decide) u (by rw [star]; exact h)
theorem heap_var {W : World} {n : String} {g : Nat} {cs : Array Value} (hg : Tryz.prog.globalNamed n = some g) (h : W.var? Tryz.prog n = some cs) : ∃ t fr, W.heap[g]? = some (.cells cs t fr) := by
  unfold World.var? at h
  rw [hg] at h
  simp only [Option.bind_some] at h
  split at h
  · rename_i c t fr e; cases h; exact ⟨t, fr, e⟩
  · cases h
theorem tabs_of {W : World} (l : List (String × DataW Unit)) {x1 x2 x4 x7 : String × DataW Unit} {d : DataW Unit} {t5 t6 : List UInt8} (hd : d = Lib.tabData .u64 Lib.pow10Tab)
    (hl : l = [x1, x2, ("internal/strconv.uint64pow10", d), x4, ("strconv.ErrRange", .iface "*errors.errorString" (.ptr (.agg [.lit (.string t5)]))), ("strconv.ErrSyntax", .iface "*errors.errorString" (.ptr (.agg [.lit (.string t6)]))), x7])
    (hX : laidMet Tryz.prog l W) : Tabs AbsListA.E [] 0 W := by
  subst hl hd
  have hp := Lib.tabIs_of_head (g := 2) (t := 134) (e := 97) (n := 20) (by kernel_rfl) (by kernel_rfl) (by kernel_rfl) (by kernel_rfl) (by kernel_rfl) (by kernel_rfl) hX.tail.tail
  obtain ⟨a1, s1, hv1, _⟩ := laid_sentinel hX.tail.tail.tail.tail (g := 1) (ti := 49) (by kernel_rfl) (by kernel_rfl) Tryz.underlying49 rowErr Tryz.underlying159 Tryz.underlying161 rfl rfl Tryz.underlying9 (by kernel_rfl) (by kernel_rfl)
  obtain ⟨a0, s0, hv0, _⟩ := laid_sentinel hX.tail.tail.tail.tail.tail (g := 0) (ti := 49) (by kernel_rfl) (by kernel_rfl) Tryz.underlying49 rowErr Tryz.underlying159 Tryz.underlying161 rfl rfl Tryz.underlying9 (by kernel_rfl) (by kernel_rfl)
  obtain ⟨t0, f0, h0⟩ := heap_var (g := 0) (by kernel_rfl) hv0
  obtain ⟨t1, f1, h1⟩ := heap_var (g := 1) (by kernel_rfl) hv1
  obtain ⟨t2, f2, h2⟩ := heap_var (g := 2) (by kernel_rfl) hp
  have hs := lt_heap h2
  refine ⟨hs, fun p hm => ?_⟩
  have hm : p ∈ tabsL := hm
  simp only [tabsL, List.mem_cons, List.not_mem_nil, or_false] at hm
  rcases hm with rfl | rfl | rfl
  · exact ⟨by decide, ⟨_, h0, _, _, _, rfl, .inr ⟨_, _, rfl⟩⟩, fun i m _ hm => by simp at hm⟩
  · exact ⟨by decide, ⟨_, h1, _, _, _, rfl, .inr ⟨_, _, rfl⟩⟩, fun i m _ hm => by simp at hm⟩
  · exact ⟨by decide, ⟨_, h2, _, _, rfl⟩, fun i m _ hm => by simp at hm⟩
end Go.Abs.AbsList
