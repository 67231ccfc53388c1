/-
  The parts of a statement whose order is open, one behind the other.
-/
import Derived.Test.YtnpjncdnlacmeaaAbsOpen6
namespace Go.Abs

section
variable {E : Env} {lo nt : Nat} {μ0 : MM} {w0 : World} {ds : List Deferred} {s : Slots} {h : Heap} {a : Act} {w : World} {call : CallSem} {ops : Array Oper} {locs : List Nat} {as : List AOper} {Q : Exit → Act → World → Prop} {ro : Option Nat}

/-- The parts of a statement, one behind the other. -/
theorem segs_any (hc : CallOK E call) (hev0 : CallEvol call) (hg : GidOK E) (has : cOpers E nt ops locs 0 ops.toList = some as) (hb : edgesBack ops = true) :
    ∀ (segs : List (Bool × Nat)) (p : Nat) (gs : List Seg) (s : Slots) (h : Heap) (s1 : Slots) (h1 : Heap) (listed : Array Bool) (a : Act) (w : World), segsOk as (befs ops.toList []) p segs = true → splitSegs (befs ops.toList []) p segs (as.drop p) = some gs →
    evSegs call gs s h = some (s1, h1) → Exact ops listed p → At E lo nt μ0 w0 ds s h a w → (∀ a' w', At E lo nt μ0 w0 ds s1 h1 a' w' → Q .normal a' w') → wpAnyIn (F0 ro) 0 E.P .any ops Q (ops.size - p) listed a w
  | [], p, gs, s, h, s1, h1, listed, a, w, hok, hsp, hev, hex, hat, hn => by
    obtain ⟨q1, _⟩ := opers_get _ _ _ has
    simp only [Array.length_toList] at q1
    simp only [segsOk, beq_iff_eq] at hok
    have hp : p = ops.size := by omega
    subst hp
    rw [Nat.sub_self]
    unfold splitSegs at hsp
    split at hsp
    · cases hsp
      simp only [evSegs] at hev; cases hev
      refine ⟨?_, hn _ _ hat⟩
      apply List.eq_nil_iff_forall_not_mem.2
      intro i hi
      obtain ⟨o, k1, k2, _⟩ := ready_mem hex.1 hi
      have his : i < ops.size := lt_of_get (l := ops.toList) (by simpa using k1)
      rw [hex.2 i his] at k2
      simp [his] at k2
    · cases hsp
    · contradiction
  | (true, n) :: r, p, gs, s, h, s1, h1, listed, a, w, hok, hsp, hev, hex, hat, hn => by
    obtain ⟨q1, _⟩ := opers_get _ _ _ has
    simp only [Array.length_toList] at q1
    have hblen := befs_length ops.toList []
    simp only [List.length_nil, Nat.zero_add, Array.length_toList] at hblen
    simp only [segsOk, Bool.and_eq_true, decide_eq_true_eq] at hok
    obtain ⟨⟨⟨⟨a1, a2⟩, a3⟩, a4⟩, a5⟩ := hok
    simp only [splitSegs] at hsp
    split at hsp
    case isFalse => cases hsp
    rw [Option.map_eq_some_iff] at hsp
    obtain ⟨gs', hsp, rfl⟩ := hsp
    rw [List.drop_drop] at hsp
    simp only [evSegs, if_true] at hev
    split at hev
    case h_2 => cases hev
    rename_i s2 h2 he
    have hap : ∀ x y oi oj, x < n → y < n → as[p + x]? = some oi → as[p + y]? = some oj → apart (befs ops.toList []) (p + x) (p + y) oi oj = true := fun x y oi oj hx hy hi hj => by
      rw [List.all_eq_true] at a3
      have := a3 x (List.mem_range.2 hx)
      rw [List.all_eq_true] at this
      have := this y (List.mem_range.2 hy)
      rw [hi, hj] at this
      exact this
    have hcs : ∀ x o, x < n → as[p + x]? = some o → calm o.op = true ∧ (softMasks (befs ops.toList []) p ((as.drop p).take n) = [] ∨ soft o.op = true) := fun x o hx ho => by
      rw [List.all_eq_true] at a4
      have := a4 x (List.mem_range.2 hx)
      rw [ho] at this
      simpa using this
    have hgo : ∀ listed' a' w', Exact ops listed' (p + n) → At E lo nt μ0 w0 ds s2 h2 a' w' → wpAnyIn (F0 ro) 0 E.P .any ops Q (ops.size - (p + n)) listed' a' w' := fun listed' a' w' hex' hat' =>
      segs_any hc hev0 hg has hb r (p + n) gs' s2 h2 s1 h1 listed' a' w' a5 hsp hev hex' hat' hn
    split at he
    · exact quiet_any hc hev0 hg has hb a2 (waits_of (by omega) r (p + n) a5) hap (fun x o hx ho => (hcs x o hx ho).1) he hgo listed a w hex hat
    · rename_i hne
      refine open_any hc hev0 hg has hb a2 (waits_of (by omega) r (p + n) a5) hap (fun x o hx ho => (hcs x o hx ho).2.resolve_left hne) (fun x hx => ?_) he hgo listed a w hex hat
      unfold softMasks at hne ⊢
      split at hne
      · rename_i hm
        rw [if_pos hm]
        have hl : ((as.drop p).take n).length = n := by simp; omega
        rw [hl, List.getD_eq_getElem?_getD, List.getElem?_map, List.getElem?_range hx]
        rfl
      · exact absurd rfl hne
  | (false, n) :: r, p, gs, s, h, s1, h1, listed, a, w, hok, hsp, hev, hex, hat, hn => by
    obtain ⟨q1, _⟩ := opers_get _ _ _ has
    simp only [Array.length_toList] at q1
    have hblen := befs_length ops.toList []
    simp only [List.length_nil, Nat.zero_add, Array.length_toList] at hblen
    simp only [segsOk, Bool.and_eq_true, decide_eq_true_eq] at hok
    obtain ⟨⟨a2, a3⟩, a5⟩ := hok
    simp only [splitSegs] at hsp
    split at hsp
    case isFalse => cases hsp
    rw [Option.map_eq_some_iff] at hsp
    obtain ⟨gs', hsp, rfl⟩ := hsp
    rw [List.drop_drop] at hsp
    simp only [evSegs, Bool.false_eq_true, if_false] at hev
    split at hev
    case h_2 => cases hev
    rename_i s2 h2 he
    refine seq_any hc hev0 hg has hb n p s h s2 h2 listed a w a2 (fun x hx => ?_) he hex hat (fun listed' a' w' hex' hat' => ?_)
    · rcases Nat.lt_or_ge x n with h3 | h3
      · rw [List.all_eq_true] at a3
        exact a3 x (List.mem_range.2 h3)
      · have : x = n := by omega
        subst this
        exact waits_of (by omega) r (p + x) a5
    · exact segs_any hc hev0 hg has hb r (p + n) gs' s2 h2 s1 h1 listed' a' w' a5 hsp hev hex' hat' hn

/-- A statement. -/
theorem region_sound (hc : CallOK E call) (hev0 : CallEvol call) (hg : GidOK E) (hm : E.P.follows .mixedOrders = true) {segs : List (Bool × Nat)} {draw : Bool} {gs : List Seg} {id : Nat} {s1 : Slots} {h1 : Heap}
    (hcr : cRegion E nt segs locs ops draw = some gs) (hev : evSegs call gs s h = some (s1, h1)) (hat : At E lo nt μ0 w0 ds s h a w) (hn : ∀ a' w', At E lo nt μ0 w0 ds s1 h1 a' w' → Q .normal a' w') :
    (Code.region id ops draw).wpIn (F0 ro) 0 E.P Q a w := by
  unfold cRegion at hcr
  split at hcr
  case h_2 => cases hcr
  rename_i as has
  split at hcr
  · rename_i hd
    subst hd
    split at hcr
    case isFalse => cases hcr
    rename_i hh
    simp only [Bool.and_eq_true] at hh
    apply wpIn_region_any hm
    have hat' : At E lo nt μ0 w0 ds s h a { w with drawn := w.drawn + 1 } := by
      obtain ⟨μ, ν, k1, k2, k3, k4, k5, k6⟩ := hat
      exact ⟨μ, ν, k1.heap rfl rfl rfl rfl, k2.same rfl rfl rfl, k3.heap rfl, k4, k5, k6⟩
    exact segs_any hc hev0 hg has hh.1 segs 0 gs s h s1 h1 _ _ _ hh.2 (by simpa using hcr) hev ⟨by simp, fun i hi => by simp [hi]⟩ hat' hn
  · rename_i hd
    have : draw = false := by simpa using hd
    subst this
    cases hcr
    simp only [evSegs, Bool.false_eq_true, if_false] at hev
    split at hev
    case h_2 => cases hev
    rename_i s2 h2 he
    cases hev
    apply wpIn_region
    have := ops_sound (ro := ro) (Q := Q) hc hev0 hg ops.toList 0 as s h s1 h1 a w rfl has he hat hn
    rw [List.range_eq_range']
    simpa using this

end
end Go.Abs
