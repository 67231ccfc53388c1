/-
  Texts joined.
-/
import Derived.Test.YtilleokmbhmieaaGreatDoorQ0
import Derived.Test.YtilleokmbhmieaaGreatDoorQ15
import Derived.Stop.LaidErr
import Derived.Lib.LaidTab
import Derived.MakeChecks
import Derived.Test.YtilleokmbhmieaaGreatDoorRows
set_option linter.unusedVariables false
set_option linter.unusedSimpArgs false
set_option maxRecDepth 100000
namespace Go.Abs.AbsNat
open Go.Proofs Go.RowKit Go.Shelf
theorem heap_var {W:World} {n:String} {g:Nat} {cs:Array Value} (hg:Tryz.prog.globalNamed n=some g) (h:W.var? Tryz.prog n=some cs):∃ t fr,W.heap[g]? = some (.cells cs t fr):=by
 unfold World.var? at h;rw [hg] at h;simp only [Option.bind_some] at h;split at h
 ·rename_i c t fr e; cases h; exact ⟨t,fr,e⟩
 ·cases h
theorem tabs_of {W:World} (l:List (String × DataW Unit)) {x1 x2:String × DataW Unit} {d:DataW Unit} (hd:d=Lib.tabData .u64 Lib.pow10Tab)
  (hl:l=[x1,x2,("internal/strconv.uint64pow10", d)])
  (hX:laidMet Tryz.prog l W):Tabs AbsNatN.E [] 0 W:=by
 subst hl hd;have hp:=Lib.tabIs_of_head (g:=0) (t:=136) (e:=104) (n:=20) (by kernel_rfl) (by kernel_rfl) (by kernel_rfl) (by kernel_rfl) (by kernel_rfl) (by kernel_rfl) hX.tail.tail;obtain ⟨t0,f0,h0⟩:=heap_var (g:=0) (by kernel_rfl) hp;have hs:=pe h0;refine ⟨hs,fun p hm=>?_⟩;have hm:p ∈ tabsL:=hm;simp only [tabsL,ed,List.not_mem_nil,or_false] at hm;subst hm;exact ⟨by decide,⟨_,h0,_,_,rfl⟩,fun i m _ hm=>by simp at hm⟩
end Go.Abs.AbsNat
