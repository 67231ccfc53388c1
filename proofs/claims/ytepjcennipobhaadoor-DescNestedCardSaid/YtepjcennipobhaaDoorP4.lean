/-
  The parts of a statement whose order is open, one behind the other.
-/
import Derived.Test.YtepjcennipobhaaDoorP3
import Derived.RangeFuncLeaves
import Derived.ChangeArms
import Derived.Handed
import Derived.Below
import Derived.KernelRfl
namespace Go.Abs

section
variable {E : Env} {lo nt : Nat} {μ0 : MM} {w0 : World} {ds : List Deferred} {s : Slots} {h : Heap} {a : Act} {w : World} {call : CallSem} {ops : Array Oper} {locs : List Nat} {as : List AOper} {Q : Exit → Act → World → Prop} {ro : Option Nat}

/-- The parts of a statement, one behind the other. -/
theorem segs_any (hc : CallOK E call) (hev0 : CallEvol call) (hg : GidOK E) (has : cOpers E nt ops locs 0 ops.toList = some as) (hb : edgesBack ops = true) :
    ∀ (segs : List (Bool × Nat)) (p : Nat) (gs : List Seg) (s : Slots) (h : Heap) (s1 : Slots) (h1 : Heap) (listed : Array Bool) (a : Act) (w : World), segsOk as (befs ops.toList []) p segs = true → splitSegs (befs ops.toList []) p segs (as.drop p) = some gs →
    evSegs call gs s h = some (s1, h1) → Exact ops listed p → At E lo nt μ0 w0 ds s h a w → (∀ a' w', At E lo nt μ0 w0 ds s1 h1 a' w' → Q .normal a' w') → wpAnyIn (F0 ro) 0 E.P .any ops Q (ops.size - p) listed a w
  | [], p, gs, s, h, s1, h1, listed, a, w, hok, hsp, hev, hex, hat, hn => by
    obtain ⟨q1, _⟩ := opers_get _ _ _ has
    simp only [Array.length_toList] at q1
    simp only [segsOk, beq_iff_eq] at hok
    have hp : p = ops.size := by omega
    subst hp
    rw [Nat.sub_self]
    unfold splitSegs at hsp
    split at hsp
    · cases hsp
      simp only [evSegs] at hev; cases hev
      refine ⟨?_, hn _ _ hat⟩
      apply List.eq_nil_iff_forall_not_mem.2
      intro i hi
      obtain ⟨o, k1, k2, _⟩ := ready_mem hex.1 hi
      have his : i < ops.size := lt_of_get (l := ops.toList) (by simpa using k1)
      rw [hex.2 i his] at k2
      simp [his] at k2
    · cases hsp
    · contradiction
  | (true, n) :: r, p, gs, s, h, s1, h1, listed, a, w, hok, hsp, hev, hex, hat, hn => by
    obtain ⟨q1, _⟩ := opers_get _ _ _ has
    simp only [Array.length_toList] at q1
    have hblen := befs_length ops.toList []
    simp only [List.length_nil, Nat.zero_add, Array.length_toList] at hblen
    simp only [segsOk, Bool.and_eq_true, decide_eq_true_eq] at hok
    obtain ⟨⟨⟨⟨a1, a2⟩, a3⟩, a4⟩, a5⟩ := hok
    simp only [splitSegs] at hsp
    split at hsp
    case isFalse => cases hsp
    rw [Option.map_eq_some_iff] at hsp
    obtain ⟨gs', hsp, rfl⟩ := hsp
    rw [List.drop_drop] at hsp
    simp only [evSegs, if_true] at hev
    split at hev
    case h_2 => cases hev
    rename_i s2 h2 he
    have hap : ∀ x y oi oj, x < n → y < n → as[p + x]? = some oi → as[p + y]? = some oj → apart (befs ops.toList []) (p + x) (p + y) oi oj = true := fun x y oi oj hx hy hi hj => by
      rw [List.all_eq_true] at a3
      have := a3 x (List.mem_range.2 hx)
      rw [List.all_eq_true] at this
      have := this y (List.mem_range.2 hy)
      rw [hi, hj] at this
      exact this
    have hcs : ∀ x o, x < n → as[p + x]? = some o → calm o.op = true ∧ (softMasks (befs ops.toList []) p ((as.drop p).take n) = [] ∨ soft o.op = true) := fun x o hx ho => by
      rw [List.all_eq_true] at a4
      have := a4 x (List.mem_range.2 hx)
      rw [ho] at this
      simpa using this
    have hgo : ∀ listed' a' w', Exact ops listed' (p + n) → At E lo nt μ0 w0 ds s2 h2 a' w' → wpAnyIn (F0 ro) 0 E.P .any ops Q (ops.size - (p + n)) listed' a' w' := fun listed' a' w' hex' hat' =>
      segs_any hc hev0 hg has hb r (p + n) gs' s2 h2 s1 h1 listed' a' w' a5 hsp hev hex' hat' hn
    split at he
    · exact quiet_any hc hev0 hg has hb a2 (waits_of (by omega) r (p + n) a5) hap (fun x o hx ho => (hcs x o hx ho).1) he hgo listed a w hex hat
    · rename_i hne
      refine open_any hc hev0 hg has hb a2 (waits_of (by omega) r (p + n) a5) hap (fun x o hx ho => (hcs x o hx ho).2.resolve_left hne) (fun x hx => ?_) he hgo listed a w hex hat
      unfold softMasks at hne ⊢
      split at hne
      · rename_i hm
        rw [if_pos hm]
        have hl : ((as.drop p).take n).length = n := by simp; omega
        rw [hl, List.getD_eq_getElem?_getD, List.getElem?_map, List.getElem?_range hx]
        rfl
      · exact absurd rfl hne
  | (false, n) :: r, p, gs, s, h, s1, h1, listed, a, w, hok, hsp, hev, hex, hat, hn => by
    obtain ⟨q1, _⟩ := opers_get _ _ _ has
    simp only [Array.length_toList] at q1
    have hblen := befs_length ops.toList []
    simp only [List.length_nil, Nat.zero_add, Array.length_toList] at hblen
    simp only [segsOk, Bool.and_eq_true, decide_eq_true_eq] at hok
    obtain ⟨⟨a2, a3⟩, a5⟩ := hok
    simp only [splitSegs] at hsp
    split at hsp
    case isFalse => cases hsp
    rw [Option.map_eq_some_iff] at hsp
    obtain ⟨gs', hsp, rfl⟩ := hsp
    rw [List.drop_drop] at hsp
    simp only [evSegs, Bool.false_eq_true, if_false] at hev
    split at hev
    case h_2 => cases hev
    rename_i s2 h2 he
    refine seq_any hc hev0 hg has hb n p s h s2 h2 listed a w a2 (fun x hx => ?_) he hex hat (fun listed' a' w' hex' hat' => ?_)
    · rcases Nat.lt_or_ge x n with h3 | h3
      · rw [List.all_eq_true] at a3
        exact a3 x (List.mem_range.2 h3)
      · have : x = n := by omega
        subst this
        exact waits_of (by omega) r (p + x) a5
    · exact segs_any hc hev0 hg has hb r (p + n) gs' s2 h2 s1 h1 listed' a' w' a5 hsp hev hex' hat' hn

/-- A statement. -/
theorem region_sound (hc : CallOK E call) (hev0 : CallEvol call) (hg : GidOK E) (hm : E.P.follows .mixedOrders = true) {segs : List (Bool × Nat)} {draw : Bool} {gs : List Seg} {id : Nat} {s1 : Slots} {h1 : Heap}
    (hcr : cRegion E nt segs locs ops draw = some gs) (hev : evSegs call gs s h = some (s1, h1)) (hat : At E lo nt μ0 w0 ds s h a w) (hn : ∀ a' w', At E lo nt μ0 w0 ds s1 h1 a' w' → Q .normal a' w') :
    (Code.region id ops draw).wpIn (F0 ro) 0 E.P Q a w := by
  unfold cRegion at hcr
  split at hcr
  case h_2 => cases hcr
  rename_i as has
  split at hcr
  · rename_i hd
    subst hd
    split at hcr
    case isFalse => cases hcr
    rename_i hh
    simp only [Bool.and_eq_true] at hh
    apply wpIn_region_any hm
    have hat' : At E lo nt μ0 w0 ds s h a { w with drawn := w.drawn + 1 } := by
      obtain ⟨μ, ν, k1, k2, k3, k4, k5, k6⟩ := hat
      exact ⟨μ, ν, k1.heap rfl rfl rfl rfl, k2.same rfl rfl rfl, k3.heap rfl, k4, k5, k6⟩
    exact segs_any hc hev0 hg has hh.1 segs 0 gs s h s1 h1 _ _ _ hh.2 (by simpa using hcr) hev ⟨by simp, fun i hi => by simp [hi]⟩ hat' hn
  · rename_i hd
    have : draw = false := by simpa using hd
    subst this
    cases hcr
    simp only [evSegs, Bool.false_eq_true, if_false] at hev
    split at hev
    case h_2 => cases hev
    rename_i s2 h2 he
    cases hev
    apply wpIn_region
    have := ops_sound (ro := ro) (Q := Q) hc hev0 hg ops.toList 0 as s h s1 h1 a w rfl has he hat hn
    rw [List.range_eq_range']
    simpa using this

end
end Go.Abs

/-
  Code and calls: what the evaluator gives, the model's call gives.
-/
namespace Go.Abs

def AExit.toX : AExit → Exit
  | .normal => .normal
  | .exit id => .exit id
  | .ret => .ret

section
variable {E : Env} {lo nt : Nat} {μ0 : MM} {w0 : World} {ds : List Deferred} {call : CallSem} {ro : Option Nat}

theorem At.keep {s : Slots} {h : Heap} {a : Act} {w : World} (hat : At E lo nt μ0 w0 ds s h a w) (l : List Nat) : At E lo nt μ0 w0 ds (Abs.keep l s) h a w := by
  obtain ⟨μ, ν, k1, k2, k3, k4⟩ := hat
  exact ⟨μ, ν, k1, k2, k3.less fun t x hx => sget_keep l s t x hx, k4⟩

/-- A block that is nobody's. -/
theorem Step.alloc {X : Nat → Prop} {wm : Nat} {μ : MM} {w : World} (B : Obj) : Step X wm μ w μ (w.alloc B) :=
  ⟨rfl, rfl, rfl, by simp, fun k hk _ _ => by
    show (w.heap.push B)[k]? = _
    rw [Array.getElem?_push, if_neg (by omega)], Nat.le_refl _, fun _ _ => .inl rfl, fun i m hi hm => absurd (lt_of_get hm) (by omega)⟩

theorem caps_rel {ν : Fr} {μ : MM} {s : Slots} {tmps : Array Value} {w : World} (hf : FRel E lo ν μ (sget s) tmps w) : ∀ {caps : List Nat} {sl : List (Nat × AVal)}, capsOf s caps = some sl → ∀ (k : Nat) (x : Nat × AVal), sl[k]? = some x → ∃ v', tmps[x.1]? = some v' ∧ VRel E μ x.2 v'
  | [], sl, h, k, x, hk => by simp only [capsOf] at h; cases h; simp at hk
  | t :: caps, sl, h, k, x, hk => by
    simp only [capsOf] at h
    split at h
    case h_2 => cases h
    rename_i v l hs hl
    cases h
    cases k with
    | zero => simp at hk; subst hk; exact hf.val t v hs
    | succ k => exact caps_rel hf hl k x (by simpa using hk)

/-- A loop over a function. -/
theorem rangeFunc_sound (hc : CallOK E call) (hg : GidOK E) {f : Operand} {ps : Array Tmp} {ax bx : Code} {f' : Opd} {g : Nat} {caps : List Nat} {aa ab : ACode} {ha hb : Hint} (hf : cOpd E f = some f') (hca : cCode E nt true ha ax = some aa) (hcb : cCode E nt true hb bx = some ab) (hps : (ps.all fun t => decide (t < nt)) = true)
    (hrnd : E.rnd g = some ⟨ps.toList, aa, ab⟩) {s : Slots} {h : Heap} {a : Act} {w : World} (hat : At E lo nt μ0 w0 ds s h a w) {fv : AVal} {sl : List (Nat × AVal)} (hfv : f'.ev s = some fv) (hsl : capsOf s caps = some sl) {x : AVal} {h' : Heap}
    (hcall : callVal call fv [.yield h.size] (h.push (.loop g .ready none sl)) = some (x, h')) {e : AExit} {st' : St} (hend : loopEnd s h' h.size = some (e, st')) (hev : Evol (h.push (.loop g .ready none sl)) h') {Q : Exit → Act → World → Prop}
    (hn : ∀ a' w', At E lo nt μ0 w0 ds st'.s st'.h a' w' → Q e.toX a' w') : (Code.rangeFunc f ps ax bx).wpIn (F0 none) 0 E.P Q a w := by
  obtain ⟨μ, ν, k1, k2, k3, k4, k5, k6⟩ := hat
  unfold callVal at hcall
  split at hcall
  case h_2 => cases hcall
  rename_i gf first cp
  have hfr := opd_rel k3 hf hfv
  simp only [VRel] at hfr
  obtain ⟨fid, f1, c1, e1, e2, e3, e4⟩ := hfr
  have hlen : h.size = μ.length := k2.len.symm
  refine wpIn_rangeFunc fun fn _ => ?_
  let rec0 : Loop := { state := .ready, pending := none, fn := fn, tmps := a.tmps, params := ps, assign := ax, body := bx, defers := w.heap.size }
  let w1 : World := w.alloc (.deferred (some []))
  let w2 : World := w1.alloc (.loop rec0)
  let m : M := ⟨w.heap.size + 1, 0, 0, 0⟩
  let μ1 : MM := μ ++ [some m]
  have hw1 : w1.heap.size = w.heap.size + 1 := by simp [w1]
  have hw2 : w2.heap.size = w.heap.size + 2 := by simp [w2, w1]
  have hargs : VRels E μ1 (first ++ [.yield h.size] ++ cp) (f1 ++ #[Value.func (.yield (w.heap.size + 1)) #[] #[]] ++ c1).toList := by
    have hy : VRel E μ1 (.yield h.size) (.func (.yield (w.heap.size + 1)) #[] #[]) := by
      simp only [VRel]
      exact ⟨w.heap.size + 1, some m, rfl, by rw [hlen]; simp [μ1], fun m' hm' => by cases hm'; rfl⟩
    have := ((e3.later (later_push μ (some m))).append (show VRels E μ1 [.yield h.size] [_] from by simp only [VRels]; exact ⟨_, [], rfl, hy, rfl⟩)).append (e4.later (later_push μ (some m)))
    simpa using this
  have hl1 : Later μ μ1 := later_push μ _
  have hr1 : Rel E μ h w1 := k2.keep (by omega) fun i m' hm' => by
    have := k2.lt i m' hm'
    show (w.heap.push _)[m'.blk]? = _
    rw [Array.getElem?_push, if_neg (by omega)]
  have hr2 : Rel E μ1 (h.push (.loop g .ready none sl)) w2 := by
    refine hr1.push _ (.loop rec0) m (by simp [m, hw1]) ⟨m, rec0, by simp, by show (w1.heap.push _)[w.heap.size + 1]? = _; rw [Array.getElem?_push, if_pos (by omega)], ⟨⟨⟨ps.toList, aa, ab⟩, ha, hb, hrnd, rfl, fun t ht => ?_, by rw [show rec0.tmps.size = nt from k4]; exact hca, by rw [show rec0.tmps.size = nt from k4]; exact hcb⟩, rfl, rfl, fun k x hk => ?_⟩⟩
    · rw [Array.all_eq_true_iff_forall_mem] at hps
      have := hps t (by simpa using ht)
      rw [show rec0.tmps.size = nt from k4]
      simpa using this
    · obtain ⟨v', h1, h2⟩ := caps_rel k3 hsl k x hk
      exact ⟨v', h1, h2.later hl1⟩
  -- the frame has one block more
  let ν1 : Fr := ⟨ν.v, w.heap.size :: ν.ds⟩
  have hblk12 : ∀ b, b < w.heap.size → w2.heap[b]? = w.heap[b]? := fun b hb => by
    show ((w.heap.push _).push _)[b]? = _
    rw [Array.getElem?_push, if_neg (by simp; omega), Array.getElem?_push, if_neg (by omega)]
  have hnewm : ∀ (i : Nat) (m' : M), μ1[i]? = some (some m') → m'.blk < w.heap.size ∨ m'.blk = w.heap.size + 1 := fun i m' hm' => by
    rcases get_push hm' with q | ⟨_, q⟩
    · exact .inl (k2.lt i m' q)
    · cases q; exact .inr rfl
  have hold : ∀ (i : Nat) (m' : M), μ1[i]? = some (some m') → m'.blk < w.heap.size → μ[i]? = some (some m') := fun i m' hm' hlt => by
    rcases get_push hm' with q | ⟨_, q⟩
    · exact q
    · cases q
      have hlt' : w.heap.size + 1 < w.heap.size := hlt
      omega
  have hf2 : FRel E lo ν1 μ1 (sget s) a.tmps w2 := by
    refine ⟨fun t v hv => ?_, k3.undef, fun t cs hv => ?_, k3.loc, k3.sepv, fun t cs i m' hv hm' => ?_, fun r hr => ?_, fun r hr => ⟨fun i m' hm' => ?_, fun t cs hv => ?_⟩, ?_⟩
    · obtain ⟨v', h1, h2⟩ := k3.val t v hv
      exact ⟨v', h1, h2.later hl1⟩
    · obtain ⟨h1, h2, c, e, fr, h3, h4, h5, h6⟩ := k3.var t cs hv
      exact ⟨h1, h2, c, e, fr, (hblk12 _ (k3.lt hv)).trans h3, h4, h5.later hl1, h6⟩
    · have := k3.lt hv
      rcases hnewm i m' hm' with q | q
      · exact k3.sepm t cs i m' hv (hold i m' hm' q)
      · intro e
        have e' : m'.blk = ν t := e
        omega
    · rcases List.mem_cons.1 hr with rfl | hr
      · refine ⟨k6, ?_⟩
        show ((w.heap.push _).push _)[w.heap.size]? = _
        rw [Array.getElem?_push, if_neg (by simp), Array.getElem?_push, if_pos rfl]
      · obtain ⟨h1, h2⟩ := k3.ds r hr
        exact ⟨h1, (hblk12 r (k3.lt_ds hr)).trans h2⟩
    · rcases List.mem_cons.1 hr with rfl | hr
      · rcases hnewm i m' hm' with q | q <;> omega
      · have := k3.lt_ds hr
        rcases hnewm i m' hm' with q | q
        · exact (k3.sepd r hr).1 i m' (hold i m' hm' q)
        · omega
    · rcases List.mem_cons.1 hr with rfl | hr
      · have := k3.lt hv
        intro e
        have e' : ν t = w.heap.size := e
        omega
      · exact (k3.sepd r hr).2 t cs hv
    · exact List.nodup_cons.2 ⟨fun h => by have := k3.lt_ds h; omega, k3.nodup⟩
  have hs2 : Step (fun k => lo ≤ k) h.wmin μ0 w0 μ1 w2 := (k1.trans (Step.alloc _) (Nat.le_refl _)).trans (Step.push (X := fun k => lo ≤ k) h.wmin μ w1 (.loop rec0) m (by simp [m, hw1])) (Nat.le_refl _)
  refine ⟨w.heap.size + 1, [markOf w.heap.size], w2, { target := .fn (.func fid) c1, args := f1 ++ #[Value.func (.yield (w.heap.size + 1)) #[] #[]] }, w2, fid, f1 ++ #[Value.func (.yield (w.heap.size + 1)) #[] #[]] ++ c1, w2, run_enterLoop_outer fn a.tmps ps ax bx, ?_, fun _ _ => trivial, ?_, fun hh => by simp [F0, Fence.wide] at hh, ?_⟩
  · simp only [resolve, rangeCall]
    rw [e1]
    simp [Deferred.ofValue, Act.eval]
  · have := callFunc_enter hg e2 (f1 ++ #[Value.func (.yield (w.heap.size + 1)) #[] #[]] ++ c1) w2
    simpa [invoke] using this
  · refine CallsIn.mono (F := F0 none) (n := 0) (hc.fn gf _ _ x h' hcall fid e2 μ1 w2 _ hargs hr2) ?_
    rintro ending w3 ⟨v', μ3, rfl, j1, j2, j3⟩
    -- the loop has ended
    unfold loopEnd at hend
    split at hend
    case h_2 => cases hend
    rename_i g2 st p sl2 hgi
    split at hend
    · cases hend
    rename_i hbusy
    cases hend
    obtain ⟨m3, r3, q1, q2, q3⟩ := j3.obj _ _ hgi
    have hi1 : h.size < μ1.length := by rw [hlen]; simp [μ1]
    have hm3 : m3 = m := by
      rcases j1.old h.size hi1 with q | ⟨_, q⟩
      · rw [q] at q1
        have : μ1[h.size]? = some (some m) := by rw [hlen]; simp [μ1]
        rw [this] at q1
        cases q1; rfl
      · rw [q] at q1; cases q1
    subst hm3
    have hst3 : r3.state ≠ .busy := by
      have := q3.st
      cases st <;> simp only [LoopSt.is] at this <;> rw [this]
      · simp
      · exact absurd rfl hbusy
      · simp
    let w4 : World := w3.putObj (w.heap.size + 1) (.loop { r3 with state := .exhausted })
    have hf3 : FRel E lo ν1 μ3 (sget s) a.tmps w3 := hf2.step j1 fun _ _ h => h
    have hwle : h'.wmin ≤ h.wmin := hev.wmin
    have hat4 : At E lo nt μ0 w0 ds s (h'.put h.size .dead) { a with defers := [markOf w.heap.size] ++ a.defers } w4 := by
      have hput : w4 = withBlock w3 m.blk (.loop { r3 with state := .exhausted }) := rfl
      refine ⟨μ3.set h.size none, ν1, ?_, ?_, ?_, k4, ?_, ?_⟩
      · have hA := hs2.trans (j1.weaken (Y := fun k => lo ≤ k) (Nat.le_refl _) fun b h _ => h.elim) hwle
        have hB : Step (fun k => lo ≤ k) (h'.put h.size .dead).wmin μ3 w3 μ3 w4 := by rw [hput]; exact Step.put q1 (Nat.min_le_right _ _) _
        have hC : Step (fun k => lo ≤ k) (h'.put h.size .dead).wmin μ3 w4 (μ3.set h.size none) w4 := Step.kill μ3 w4 (Nat.min_le_right _ _)
        exact (hA.trans hB (Nat.min_le_left _ _)).trans hC (Nat.le_refl _)
      · have hkill := j3.kill h.size
        refine hkill.keep (by simp [w4]) fun j m' hm' => ?_
        rw [hput]
        refine withBlock_other ?_
        rw [get_set] at hm'
        split at hm'
        · split at hm' <;> cases hm'
        · rename_i hne
          refine j3.sep h.size j m m' hne ?_ q1 hm'
          have h1 := j3.bs
          rw [hev.base]
          have := k2.bs
          show h.base ≤ h.objs.length
          exact this
      · refine hf3.keep (later_set μ3 h.size) (fun t cs hv => by rw [hput]; exact withBlock_other (hf3.sepm t cs h.size m hv q1)) (fun t cs j m' hv hj hm' => absurd (lt_of_get hm') (by simp; omega)) fun r hr => ⟨by rw [hput]; exact withBlock_other ((hf3.sepd r hr).1 h.size m q1), fun j m' hj hm' => absurd (lt_of_get hm') (by simp; omega)⟩
      · show [markOf w.heap.size] ++ a.defers = _
        rw [k5]; rfl
      · have := j1.size
        simp only [w4, World.putObj_size]; omega
    refine ⟨r3.pending, w4, run_endLoop q2 hst3, ?_⟩
    rw [q3.pend]
    cases p with
    | none => exact hn _ _ hat4
    | some e0 =>
      cases e0 with
      | normal => exact wpIn_skip (hn _ _ hat4)
      | exit id => exact wpIn_exit (hn _ _ hat4)
      | ret => exact wpIn_ret (hn _ _ hat4)

theorem code_sound (hc : CallOK E call) (hev0 : CallEvol call) (hg : GidOK E) (hm : E.P.follows .mixedOrders = true) (inR : Bool) (hro : inR = false → ro = none) (n : Nat) :
    ∀ (hint : Hint) (c : Code) (ac : ACode), cCode E nt inR hint c = some ac → (inR = false → ∀ p ∈ ac.rounds, E.rnd p.1 = some p.2) → ∀ (st : St) (e : AExit) (st' : St), evCode call n ac st = some (e, st') → ∀ (a : Act) (w : World) (Q : Exit → Act → World → Prop), At E lo nt μ0 w0 ds st.s st.h a w →
      (∀ a' w', At E lo nt μ0 w0 ds st'.s st'.h a' w' → Q e.toX a' w') → c.wpIn (F0 ro) 0 E.P Q a w := by
  intro hint
  induction hint with
  | stuck =>
    intro c ac hcc hrd st e st' hev a w Q hat hn
    simp only [cCode] at hcc
    cases hcc
    simp [evCode, Opd.ev] at hev
  | leaf =>
    intro c ac hcc hrd st e st' hev a w Q hat hn
    cases c <;> simp only [cCode] at hcc <;> (try cases hcc)
    · simp only [evCode] at hev; cases hev
      exact wpIn_skip (hn _ _ hat)
    · simp only [evCode] at hev; cases hev
      exact wpIn_exit (hn _ _ hat)
    · simp only [evCode] at hev; cases hev
      exact wpIn_ret (hn _ _ hat)
  | reg segs locs =>
    intro c ac hcc hrd st e st' hev a w Q hat hn
    cases c <;> simp only [cCode] at hcc <;> (try cases hcc)
    rw [Option.map_eq_some_iff] at hcc
    obtain ⟨gs, hgs, rfl⟩ := hcc
    simp only [evCode] at hev
    rw [Option.map_eq_some_iff] at hev
    obtain ⟨⟨s1, h1⟩, hev, he⟩ := hev
    cases he
    exact region_sound hc hev0 hg hm hgs hev hat hn
  | seq x y ihx ihy =>
    intro c ac hcc hrd st e st' hev a w Q hat hn
    cases c <;> simp only [cCode] at hcc <;> (try cases hcc)
    split at hcc
    case h_2 => cases hcc
    rename_i ax ay hx hy
    cases hcc
    simp only [evCode] at hev
    apply wpIn_seq
    split at hev
    · rename_i st1 h1
      exact ihx _ _ hx (fun hi p hp => hrd hi p (by simp [ACode.rounds, hp])) _ _ _ h1 a w _ hat fun a' w' hat' => ihy _ _ hy (fun hi p hp => hrd hi p (by simp [ACode.rounds, hp])) _ _ _ hev a' w' Q hat' hn
    · rename_i hne
      refine ihx _ _ hx (fun hi p hp => hrd hi p (by simp [ACode.rounds, hp])) _ _ _ hev a w _ hat fun a' w' hat' => ?_
      cases e with
      | normal => exact absurd hev (hne _)
      | exit id => exact hn _ _ hat'
      | ret => exact hn _ _ hat'
  | cond x y ihx ihy =>
    intro c ac hcc hrd st e st' hev a w Q hat hn
    cases c <;> simp only [cCode] at hcc <;> (try cases hcc)
    split at hcc
    case h_2 => cases hcc
    rename_i c' ax ay hcop hx hy
    cases hcc
    simp only [evCode] at hev
    have hat0 := hat
    obtain ⟨μ, ν, _, _, k3, _⟩ := hat
    split at hev
    · rename_i hb
      have := opd_rel k3 hcop hb
      simp only [VRel] at this
      exact wpIn_cond_true this (ihx _ _ hx (fun hi p hp => hrd hi p (by simp [ACode.rounds, hp])) _ _ _ hev a w Q hat0 hn)
    · rename_i hb
      have := opd_rel k3 hcop hb
      simp only [VRel] at this
      exact wpIn_cond_false this (ihy _ _ hy (fun hi p hp => hrd hi p (by simp [ACode.rounds, hp])) _ _ _ hev a w Q hat0 hn)
    · cases hev
  | block x ih =>
    intro c ac hcc hrd st e st' hev a w Q hat hn
    cases c <;> simp only [cCode] at hcc <;> (try cases hcc)
    rw [Option.map_eq_some_iff] at hcc
    obtain ⟨ax, hx, rfl⟩ := hcc
    simp only [evCode] at hev
    apply wpIn_block
    split at hev
    · rename_i j st1 h1
      refine ih _ _ hx hrd _ _ _ h1 a w _ hat fun a' w' hat' => ?_
      simp only [AExit.toX, Exit.inBlock]
      split at hev
      · rename_i hj
        cases hev
        rw [if_pos hj]
        exact hn _ _ hat'
      · rename_i hj
        cases hev
        rw [if_neg hj]
        exact hn _ _ hat'
    · rename_i hne
      refine ih _ _ hx hrd _ _ _ hev a w _ hat fun a' w' hat' => ?_
      cases e with
      | normal => exact hn _ _ hat'
      | exit id => exact absurd hev (hne _ _)
      | ret => exact hn _ _ hat'
  | loop x ih =>
    intro c ac hcc hrd st e st' hev a w Q hat hn
    cases c <;> simp only [cCode] at hcc <;> (try cases hcc)
    rename_i y
    rw [Option.map_eq_some_iff] at hcc
    obtain ⟨ax, hx, rfl⟩ := hcc
    simp only [evCode] at hev
    have key : ∀ (m : Nat) (st : St) (a : Act) (w : World), loopN (evCode call n ax) m st = some (e, st') → At E lo nt μ0 w0 ds st.s st.h a w → Code.roundsIn (F0 ro) 0 E.P y Q m a w := by
      intro m
      induction m with
      | zero => intro st a w h1; simp [loopN] at h1
      | succ m ihm =>
        intro st a w h1 hat1
        rw [roundsIn_succ]
        simp only [loopN] at h1
        split at h1
        · rename_i st1 h2
          exact ih _ _ hx hrd _ _ _ h2 a w _ hat1 fun a' w' hat' => ihm st1 a' w' h1 hat'
        · rename_i hne
          refine ih _ _ hx hrd _ _ _ h1 a w _ hat1 fun a' w' hat' => ?_
          cases e with
          | normal => exact absurd h1 (hne _)
          | exit id => exact hn _ _ hat'
          | ret => exact hn _ _ hat'
    exact wpIn_loop_rounds n (key n st a w hev hat)
  | live l x ih =>
    intro c ac hcc hrd st e st' hev a w Q hat hn
    simp only [cCode] at hcc
    rw [Option.map_eq_some_iff] at hcc
    obtain ⟨ax, hx, rfl⟩ := hcc
    simp only [evCode] at hev
    exact ih _ _ hx hrd _ _ _ hev a w Q (hat.keep l) hn
  | after x l ih =>
    intro c ac hcc hrd st e st' hev a w Q hat hn
    simp only [cCode] at hcc
    rw [Option.map_eq_some_iff] at hcc
    obtain ⟨ax, hx, rfl⟩ := hcc
    simp only [evCode] at hev
    split at hev
    · rename_i st1 h1
      cases hev
      exact ih _ _ hx hrd _ _ _ h1 a w Q hat fun a' w' hat' => hn _ _ (hat'.keep l)
    · exact ih _ _ hx hrd _ _ _ hev a w Q hat hn
  | rangeFunc g caps ha hb _ _ =>
    intro c ac hcc hrd st e st' hev a w Q hat hn
    cases c <;> simp only [cCode] at hcc <;> (try cases hcc)
    split at hcc
    case h_2 => cases hcc
    rename_i f' aa ab hf hca hcb
    split at hcc
    case isFalse => cases hcc
    rename_i hh
    obtain ⟨hin, hps⟩ := hh
    cases hcc
    have hro' := hro hin
    subst hro'
    have hrnd := hrd hin _ (List.mem_singleton_self _)
    simp only [evCode] at hev
    split at hev
    case h_2 => cases hev
    rename_i fv sl hfv hsl
    split at hev
    case h_2 => cases hev
    rename_i x h' hcall
    have hevl : Evol (st.h.push (.loop g .ready none sl)) h' := by
      unfold callVal at hcall
      split at hcall
      · exact hev0 _ _ _ _ _ hcall
      · cases hcall
    exact rangeFunc_sound hc hg hf hca hcb hps hrnd hat hfv hsl hcall hev hevl hn

/-! ## Results -/

def resOne (tmps : Array Value) : ResultVar → Sem Value
  | .tmp t => pure (tmps.getD t Go.undef)
  | .cell x t => do loadVar t (← asAddr (tmps.getD x Go.undef))

theorem res_rel {ν : Fr} {μ : MM} {s : Slots} {h : Heap} {a : Act} {w : World} (hf : FRel E lo ν μ (sget s) a.tmps w) (hr : Rel E μ h w) : ∀ {rs : List ResultVar} {as : List ARes} {vs : List AVal}, cRess E.P rs = some as → resultsL s h as = some vs →
    ∃ l, (rs.mapM (resOne a.tmps)).run E.P w = .ok l w ∧ VRels E μ vs l
  | [], as, vs, hc, he => by
    simp only [cRess] at hc; cases hc
    simp only [resultsL] at he; cases he
    exact ⟨[], rfl, by simp [VRels]⟩
  | r :: rs, as, vs, hc, he => by
    simp only [cRess] at hc
    split at hc
    case h_2 => cases hc
    rename_i a' as' h1 h2
    cases hc
    simp only [resultsL] at he
    split at he
    case h_2 => cases he
    rename_i v vs' h3 h4
    cases he
    obtain ⟨l, k1, k2⟩ := res_rel hf hr h2 h4
    have hone : ∃ u, (resOne a.tmps r).run E.P w = .ok u w ∧ VRel E μ v u := by
      cases r with
      | tmp t =>
        simp only [cRes] at h1; cases h1
        simp only [result1] at h3
        split at h3
        · rename_i v' hs
          cases h3
          obtain ⟨u, hu, hrel⟩ := hf.val t _ hs
          refine ⟨u, ?_, hrel⟩
          simp [resOne, hu]
        · cases h3
      | cell x t =>
        simp only [cRes] at h1
        rw [Option.map_eq_some_iff] at h1
        obtain ⟨n, hn, rfl⟩ := h1
        simp only [result1] at h3
        split at h3
        case h_2 => cases h3
        rename_i ad had
        unfold loadAt at h3
        split at h3
        case h_2 => cases h3
        rename_i cs o hcs
        have hco : cOpd E (.tmp x) = some (.tmp x) := rfl
        obtain ⟨b, p, c, e, fr, j1, j2, j3, j4⟩ := cellsAt_rel hf hr hco had hcs
        obtain ⟨u, j5, j6⟩ := load_rel (P := E.P) hn j2 j3 j4 h3
        refine ⟨u, ?_, j6⟩
        have j1' : a.tmps.getD x Go.undef = .pointer (some ⟨b, p + o, none⟩) := j1
        simp only [resOne, j1', asAddr, Sem.run_bind, Sem.run_pure, Result.andThen_ok, j5]
    obtain ⟨u, k3, k4⟩ := hone
    refine ⟨u :: l, ?_, ?_⟩
    · rw [List.mapM_cons, Sem.run_bind, k3, Result.andThen_ok, Sem.run_bind, k1, Result.andThen_ok]
      rfl
    · simp only [VRels]; exact ⟨u, l, rfl, k4, k2⟩

theorem results_rel {ν : Fr} {μ : MM} {s : Slots} {h : Heap} {a : Act} {w : World} (hf : FRel E lo ν μ (sget s) a.tmps w) (hr : Rel E μ h w) {fn : Func} {as : List ARes} {vs : List AVal} (hc : cRess E.P fn.results.toList = some as) (he : resultsL s h as = some vs) :
    ∃ v, (results fn a.tmps).run E.P w = .ok v w ∧ VRel E μ (tupled vs) v := by
  obtain ⟨l, k1, k2⟩ := res_rel hf hr hc he
  have hl := k2.length
  have hrun : (results fn a.tmps).run E.P w = .ok (if h : l.toArray.size = 1 then l.toArray[0] else .tuple l.toArray) w := by
    have e : results fn a.tmps = (do
        let vs ← fn.results.mapM (resOne a.tmps)
        pure (if h : vs.size = 1 then vs[0] else .tuple vs)) := by
      unfold results
      rfl
    rw [e, Array.mapM_eq_mapM_toList, Sem.run_bind, Sem.run_map, k1]
    rfl
  refine ⟨_, hrun, ?_⟩
  clear he k1 hrun
  match vs, l, hl, k2 with
  | [], [], _, _ => simp [tupled, VRel, VRels]
  | [v], [u], _, k2 =>
    simp only [VRels] at k2
    obtain ⟨u', r', e, h1, h2⟩ := k2
    cases e
    simpa [tupled] using h1
  | v :: v2 :: vs, u :: u2 :: l, _, k2 =>
    have : ¬ ((u :: u2 :: l).toArray.size = 1) := by simp
    rw [dif_neg this]
    simp only [tupled, VRel]
    exact ⟨_, rfl, k2⟩

end

/-! ## What a call leaves behind -/

section
theorem reach_spec (h : Heap) (n0 : Nat) : ∀ (f : Nat) (todo acc : List Nat), acc.Nodup → (∀ i ∈ acc, n0 ≤ i) → (reach h n0 f todo acc).Nodup ∧ ∀ i ∈ reach h n0 f todo acc, n0 ≤ i
  | 0, todo, acc, h1, h2 => by simp only [reach]; exact ⟨h1, h2⟩
  | f + 1, [], acc, h1, h2 => by simp only [reach]; exact ⟨h1, h2⟩
  | f + 1, i :: r, acc, h1, h2 => by
    simp only [reach]
    split
    · exact reach_spec h n0 f r acc h1 h2
    · split
      · exact reach_spec h n0 f r acc h1 h2
      · rename_i hi hc
        refine reach_spec h n0 f _ _ ?_ fun j hj => ?_
        · rw [List.nodup_append]
          refine ⟨h1, by simp, fun a ha b hb => ?_⟩
          simp at hb; subst hb
          intro e; subst e
          simp at hc; exact hc ha
        · rcases List.mem_append.1 hj with hj | hj
          · exact h2 j hj
          · simp at hj; omega

theorem idxIn_get : ∀ {i : Nat} {l : List Nat}, i ∈ l → l[idxIn i l]? = some i
  | i, [], h => by cases h
  | i, j :: r, h => by
    simp only [idxIn]
    split
    · rename_i e; subst e; rfl
    · rename_i hne
      have : i ∈ r := by
        rcases List.mem_cons.1 h with e | e
        · exact absurd e.symm hne
        · exact e
      simpa using idxIn_get this

end
end Go.Abs

/-
  A call's end, and the whole: what the evaluator gives, the model's call gives.
-/
namespace Go.Abs

section
variable {E : Env}

theorem LoopRel.ren {μ μ' : MM} {g : Nat} {st : LoopSt} {p : Option AExit} {sl : List (Nat × AVal)} {r : Loop} (h : LoopRel E μ g st p sl r) (F : Nat → Nat) (hm : ∀ j ∈ AObj.ids (.loop g st p sl), j < μ.length → μ'[F j]? = μ[j]?) :
    LoopRel E μ' g st p (sl.map fun x => (x.1, x.2.ren F)) r := by
  refine ⟨h.code, h.st, h.pend, fun k x hk => ?_⟩
  rw [List.getElem?_map, Option.map_eq_some_iff] at hk
  obtain ⟨y, hy, rfl⟩ := hk
  obtain ⟨v', h1, h2⟩ := h.slots k y hy
  refine ⟨v', h1, ren_rel F (fun i hi hl => hm i ?_ hl) h2⟩
  simp only [AObj.ids]
  exact idsL_mem (k := k) (by rw [List.getElem?_map, hy]; rfl) hi

theorem finish_sound {lo : Nat} {μ0 μ : MM} {h0 h : Heap} {w0 w : World} {v : AVal} {v' : Value} (hlo : lo = w0.heap.size) (hr0 : Rel E μ0 h0 w0) (hst : Step (fun k => lo ≤ k) h.wmin μ0 w0 μ w) (hr : Rel E μ h w)
    (hv : VRel E μ v v') (hev : Evol { h0 with wmin := h0.size } h) :
    ∃ μ', Step (fun _ => False) (finish h0 v h).2.wmin μ0 w0 μ' w ∧ VRel E μ' (finish h0 v h).1 v' ∧ Rel E μ' (finish h0 v h).2 w := by
  have hX : ∀ b, lo ≤ b → b < w0.heap.size → False := fun b h1 h2 => by omega
  have hn0 : μ0.length = h0.size := hr0.len
  unfold finish
  split
  · exact ⟨μ, hst.weaken (Nat.min_le_right _ _) hX, hv, hr.same rfl rfl rfl⟩
  · rename_i hw
    have hst1 : Step (fun _ => False) μ0.length μ0 w0 μ w := hst.weaken (by omega) hX
    have hkeep : ∀ i, i < μ0.length → μ[i]? = μ0[i]? := fun i hi => (hst1.old i hi).resolve_right fun ⟨a, _⟩ => by omega
    have hblk : ∀ (i : Nat) (m : M), μ0[i]? = some (some m) → w.heap[m.blk]? = w0.heap[m.blk]? := fun i m hm => by
      refine hst1.block _ (hr0.lt i m hm) (fun h => h) fun j mj hj hmj => ?_
      exact absurd (lt_of_get hmj) (by omega)
    split
    · rename_i hu
      refine ⟨μ0, ⟨hst1.os, hst1.tape, hst1.output, hst1.size, ?_, Nat.le_refl _, fun _ _ => .inl rfl, fun i m hi hm => absurd (lt_of_get hm) (by omega)⟩, under_rel (fun i hi => hkeep i (by omega)) hu hv, hr0.keep hst1.size hblk⟩
      intro k hk hx _
      exact hst1.block k hk hx fun j mj hj hmj => absurd (lt_of_get hmj) (by omega)
    · simp only
      split
      · rename_i hok
        generalize hK : reach h h0.size 1000 v.ids [] = K at hok ⊢
        have hspec := reach_spec h h0.size 1000 v.ids [] (by simp) (by simp)
        rw [hK] at hspec
        obtain ⟨hnd, hge⟩ := hspec
        rw [List.all_eq_true] at hok
        have hok' : ∀ i ∈ v.ids ++ K.flatMap fun i => ((h.get i).map AObj.ids).getD [], i < h0.size ∨ i ∈ K := fun i hi => by
          have := hok i hi
          simpa using this
        let F : Nat → Nat := fun i => if i < h0.size then i else h0.size + idxIn i K
        let μ2 : MM := μ0 ++ K.map fun i => (μ[i]?).getD none
        have hold : ∀ i, i < h0.size → μ2[i]? = μ0[i]? := fun i hi => List.getElem?_append_left (by omega)
        have hnew : ∀ j, μ2[h0.size + j]? = (K[j]?).map fun i => (μ[i]?).getD none := fun j => by
          show (μ0 ++ _)[_]? = _
          rw [List.getElem?_append_right (by omega), hn0, Nat.add_sub_cancel_left, List.getElem?_map]
        -- where each comes from
        have hpull : ∀ (i : Nat) (m : M), μ2[i]? = some (some m) → ∃ p, μ[p]? = some (some m) ∧ ((i < h0.size ∧ p = i) ∨ (h0.size ≤ i ∧ h0.size ≤ p ∧ K[i - h0.size]? = some p)) := fun i m hm => by
          rcases Nat.lt_or_ge i h0.size with hi | hi
          · exact ⟨i, by rw [hkeep i (by omega), ← hold i hi]; exact hm, .inl ⟨hi, rfl⟩⟩
          · obtain ⟨j, rfl⟩ := Nat.exists_eq_add_of_le hi
            rw [hnew] at hm
            rw [Option.map_eq_some_iff] at hm
            obtain ⟨p, hp, hm⟩ := hm
            refine ⟨p, ?_, .inr ⟨by omega, hge p (List.mem_of_getElem? hp), by rw [Nat.add_sub_cancel_left]; exact hp⟩⟩
            cases hq : μ[p]? with
            | none => rw [hq] at hm; cases hm
            | some x => rw [hq] at hm; simp at hm; rw [hm]
        have hF : ∀ i, (i < h0.size ∨ i ∈ K) → i < μ.length → μ2[F i]? = μ[i]? := fun i hi hl => by
          by_cases h1 : i < h0.size
          · show μ2[if i < h0.size then i else _]? = _
            rw [if_pos h1, hold i h1, hkeep i (by omega)]
          · have h2 : i ∈ K := hi.resolve_left h1
            show μ2[if i < h0.size then i else _]? = _
            rw [if_neg h1, hnew, idxIn_get h2]
            simp [List.getElem?_eq_getElem hl]
        have hl2 : Later μ0 μ2 := ⟨by simp [μ2], fun i hi => .inl (hold i (by omega))⟩
        refine ⟨μ2, ?_, ?_, ?_⟩
        · refine ⟨hst1.os, hst1.tape, hst1.output, hst1.size, ?_, hl2.len, fun i hi => .inl (hold i (by omega)), ?_⟩
          · intro k hk hx _
            exact hst1.block k hk hx fun j mj hj hmj => absurd (lt_of_get hmj) (by omega)
          · intro i m hi hm
            obtain ⟨p, hp, h1 | h1⟩ := hpull i m hm
            · omega
            · rcases hst1.new p m (by omega) hp with h2 | ⟨r, m0, h2, h3, _⟩
              · exact .inl h2
              · exact absurd (lt_of_get h3) (by omega)
        · exact ren_rel F (fun i hi hl => hF i (hok' i (List.mem_append_left _ hi)) hl) hv
        · constructor
          · simp [μ2, hn0, Heap.size]
          · have := hr0.bs; simp; omega
          · intro i o ho
            simp only at ho
            rcases Nat.lt_or_ge i h0.size with hi | hi
            · rw [List.getElem?_append_left hi] at ho
              refine (hr0.obj i o ho).keep hl2 fun m hm => ⟨by rw [hold i hi]; exact hm, hblk i m hm⟩
            · obtain ⟨j, rfl⟩ := Nat.exists_eq_add_of_le hi
              rw [List.getElem?_append_right hi, show h0.size + j - h0.objs.length = j from Nat.add_sub_cancel_left .., List.getElem?_map, Option.map_eq_some_iff] at ho
              obtain ⟨p, hp, ho⟩ := ho
              have hpg := hge p (List.mem_of_getElem? hp)
              have hbs := hr0.bs
              have hbase : h.base = h0.base := hev.base
              have hbs' : h0.base ≤ h0.size := hbs
              cases hq : h.get p with
              | none =>
                rw [hq] at ho
                simp at ho; subst ho
                have hq' : h.objs[p]? = none := hq
                have : μ[p]? = none := by
                  rw [List.getElem?_eq_none_iff] at hq' ⊢
                  rw [hr.len]; exact hq'
                show μ2[_]? = _
                rw [hnew, hp]; simp [this]
              | some o' =>
                rw [hq] at ho
                simp at ho; subst ho
                have hids : ∀ i ∈ o'.ids, i < μ.length → μ2[F i]? = μ[i]? := fun i hi hl => hF i (hok' i (List.mem_append_right _ (List.mem_flatMap.2 ⟨p, List.mem_of_getElem? hp, by rw [hq]; simpa using hi⟩))) hl
                have hm2 : ∀ x, μ[p]? = some x → μ2[h0.size + j]? = some x := fun x hx => by rw [hnew, hp]; simp [hx]
                have hor := hr.obj p o' hq
                cases o' with
                | dead => exact hm2 _ hor
                | cells esz cs =>
                  obtain ⟨m, c, e, fr, h1, h2, h3, h4, h5, h6, h7⟩ := hor
                  refine ⟨m, c, e, fr, hm2 _ h1, h2, h3, h4, by rw [renL_length]; exact h5, ?_, fun _ => h7 (by omega)⟩
                  intro k x hk
                  change (AVal.renL F cs)[k]? = _ at hk
                  rw [renL_get, Option.map_eq_some_iff] at hk
                  obtain ⟨y, hy, rfl⟩ := hk
                  obtain ⟨k1, y', k2, k3⟩ := h6 k y hy
                  refine ⟨(isOne_ren F y).trans k1, y', k2, ren_rel F (fun i hi hl => hids i (idsL_mem hy hi) hl) k3⟩
                | map es clock =>
                  obtain ⟨m, es', h1, h2, h3, h4⟩ := hor
                  refine ⟨m, es', hm2 _ h1, h2, by rw [List.length_map]; exact h3, ?_⟩
                  intro k x hk
                  rw [List.getElem?_map, Option.map_eq_some_iff] at hk
                  obtain ⟨y, hy, rfl⟩ := hk
                  obtain ⟨y', k1, k2, k3, k4⟩ := h4 k y hy
                  have hin : ∀ i, i ∈ y.1.ids ∨ i ∈ y.2.1.ids → i ∈ AObj.ids (.map es clock) := fun i hi => by
                    simp only [AObj.ids, List.mem_flatMap, List.mem_append]
                    exact ⟨y, List.mem_of_getElem? hy, hi⟩
                  exact ⟨y', k1, ren_rel F (fun i hi hl => hids i (hin i (.inl hi)) hl) k2, ren_rel F (fun i hi hl => hids i (hin i (.inr hi)) hl) k3, k4⟩
                | iter s pos =>
                  obtain ⟨m, h1, h2⟩ := hor
                  exact ⟨m, hm2 _ h1, h2⟩
                | loop g st pd sl =>
                  obtain ⟨m, r, h1, h2, h3⟩ := hor
                  exact ⟨m, r, hm2 _ h1, h2, h3.ren F hids⟩
          · intro i j mi mj hij hi hmi hmj
            obtain ⟨p, hp, hp'⟩ := hpull i mi hmi
            obtain ⟨q, hq, hq'⟩ := hpull j mj hmj
            have hbs : h0.base ≤ h0.size := hr0.bs
            have hbase : h.base = h0.base := hev.base
            refine hr.sep p q mi mj ?_ (by simp only at hi; omega) hp hq
            intro e
            rcases hp' with ⟨a1, a2⟩ | ⟨a1, a2, a3⟩ <;> rcases hq' with ⟨b1, b2⟩ | ⟨b1, b2, b3⟩
            · omega
            · omega
            · omega
            · subst e
              have := (List.getElem?_inj (lt_of_get a3) hnd).1 (a3.trans b3.symm)
              omega
          · intro i m hm
            obtain ⟨p, hp, _⟩ := hpull i m hm
            exact hr.lt p m hp
      · refine ⟨μ, ?_, hv, hr.same rfl rfl rfl⟩
        exact hst1.fresh _

theorem enter_get : ∀ (args : List AVal) (i t : Nat), sget (enter i args) t = if i ≤ t then (args[t - i]?).map Slot.val else none
  | [], i, t => by simp [enter, sget]
  | v :: r, i, t => by
    simp only [enter, sget]
    split
    · rename_i e; subst e; simp
    · rename_i hne
      rw [enter_get r (i + 1) t]
      by_cases h1 : i + 1 ≤ t
      · rw [if_pos h1, if_pos (by omega), show t - i = (t - (i + 1)) + 1 by omega, List.getElem?_cons_succ]
      · rw [if_neg h1, if_neg (by omega)]

/-- The loops over functions that a code holds are what the table says. -/
def RndOK (E : Env) : List (Nat × ARound) → Prop
  | [] => True
  | p :: r => E.rnd p.1 = some p.2 ∧ RndOK E r

theorem RndOK.of {l : List (Nat × ARound)} (h : RndOK E l) : ∀ p ∈ l, E.rnd p.1 = some p.2 := by
  induction l with
  | nil => simp
  | cons a r ih =>
    intro p hp
    rcases List.mem_cons.1 hp with rfl | hp
    · exact h.1
    · exact ih h.2 p hp

/-- The functions are what the table says. -/
structure Agrees (E : Env) (T : Nat → Option AFunc) : Prop where
  fn : ∀ f g, E.gid f = some g → ∃ fn closed hint af, E.P.funcs[f]? = some fn ∧ T g = some af ∧ cFunc E closed hint fn = some af ∧ RndOK E af.body.rounds
  rnd : ∀ g ar, E.rnd g = some ar → ∃ af, T g = some af ∧ af.round = some ar

def AgreesL (E : Env) (T : Nat → Option AFunc) : List (Nat × Nat) → Prop
  | [] => True
  | p :: r => (∃ fn closed hint af, E.P.funcs[p.1]? = some fn ∧ T p.2 = some af ∧ cFunc E closed hint fn = some af ∧ RndOK E af.body.rounds) ∧ AgreesL E T r

/-- The table's rounds. -/
def rndOf (T : Nat → Option AFunc) (g : Nat) : Option ARound := (T g).bind AFunc.round

theorem agrees_of {P : Program} {T : Nat → Option AFunc} {l : List (Nat × Nat)} (h : AgreesL ⟨P, fun f => List.lookup f l, rndOf T⟩ T l) : Agrees ⟨P, fun f => List.lookup f l, rndOf T⟩ T := by
  constructor
  · intro f g hg
    simp only at hg
    have : ∀ {r : List (Nat × Nat)}, AgreesL ⟨P, fun f => List.lookup f l, rndOf T⟩ T r → List.lookup f r = some g → ∃ fn closed hint af, P.funcs[f]? = some fn ∧ T g = some af ∧ cFunc ⟨P, fun f => List.lookup f l, rndOf T⟩ closed hint fn = some af ∧ RndOK ⟨P, fun f => List.lookup f l, rndOf T⟩ af.body.rounds := by
      intro r
      induction r with
      | nil => intro _ h1; simp at h1
      | cons p r ih =>
        intro h1 h2
        obtain ⟨a, b⟩ := p
        simp only [AgreesL] at h1
        rw [List.lookup_cons] at h2
        split at h2
        · rename_i e
          rw [beq_iff_eq] at e
          subst e
          cases h2
          exact h1.1
        · exact ih h1.2 h2
    exact this h hg
  · intro g ar hg
    simpa [rndOf, Option.bind_eq_some_iff] using hg

theorem Agrees.gid {T : Nat → Option AFunc} (h : Agrees E T) : GidOK E := fun f g hg => by
  obtain ⟨fn, closed, hint, af, h1, h2, h3, _⟩ := h.fn f g hg
  refine ⟨fn, h1, ?_⟩
  unfold cFunc at h3
  split at h3
  case h_2 => cases h3
  rename_i c hb
  split at h3
  case h_2 => cases h3
  split at h3
  case isFalse => cases h3
  rename_i hn
  exact ⟨hn.2, by rw [hb]; rfl⟩

theorem cFunc_round {closed : Bool} {hint : Hint} {fn : Func} {af : AFunc} (h : cFunc E closed hint fn = some af) : af.round = none := by
  unfold cFunc at h
  split at h
  case h_2 => cases h
  split at h
  case h_2 => cases h
  split at h
  case isFalse => cases h
  cases h
  rfl

/-- A frame's way out: the blocks for its rounds' deferred calls are shut; the results are read. -/
theorem leaves_marks {lo : Nat} {μ μ0 : MM} {w0 : World} {s : Slots} {h : Heap} {a : Act} {fn : Func} {rs : List ARes} {vs : List AVal} (hrs : cRess E.P fn.results.toList = some rs) (hvs : resultsL s h rs = some vs) {R : Ending → World → Prop}
    (hR : ∀ v' w', VRel E μ (tupled vs) v' → Step (fun k => lo ≤ k) h.wmin μ0 w0 μ w' → Rel E μ h w' → R (.returned v') w') :
    ∀ (l : List Nat) (νv : Nat → Nat) (w : World), Step (fun k => lo ≤ k) h.wmin μ0 w0 μ w → Rel E μ h w → FRel E lo ⟨νv, l⟩ μ (sget s) a.tmps w → LeavesInM (F0 none) 0 E.P fn a.tmps R (l.map markOf) .returning w
  | [], νv, w, hst, hr, hf => by
    obtain ⟨v', r1, r2⟩ := results_rel hf hr hrs hvs
    exact ⟨v', r1, hR v' w r2 hst hr⟩
  | r :: l, νv, w, hst, hr, hf => by
    have hmem : r ∈ (⟨νv, r :: l⟩ : Fr).ds := List.mem_cons_self ..
    have hnd := hf.nodup
    have hnd' := List.nodup_cons.1 hnd
    obtain ⟨hlo, hblk⟩ := hf.ds r hmem
    have hw : w.putObj r (.deferred none) = withBlock w r (.deferred none) := rfl
    refine ⟨by simp, .inl ⟨r, w.putObj r (.deferred none), rfl, run_takeDeferred hblk, leaves_marks hrs hvs hR l νv _ ?_ ?_ ?_⟩⟩
    · refine hst.trans (Step.mk rfl rfl rfl (by simp) (fun k hk hx _ => ?_) (Nat.le_refl _) (fun _ _ => .inl rfl) fun i m hi hm => absurd (lt_of_get hm) (by omega)) (Nat.le_refl _)
      rw [hw]
      exact withBlock_other (by intro e; subst e; exact hx hlo)
    · exact hr.keep (by simp) fun i m hm => by rw [hw]; exact withBlock_other ((hf.sepd r hmem).1 i m hm).symm
    · refine ⟨hf.val, hf.undef, fun t cs hv => ?_, hf.loc, hf.sepv, hf.sepm, fun q hq => ⟨(hf.ds q (List.mem_cons_of_mem _ hq)).1, ?_⟩, fun q hq => hf.sepd q (List.mem_cons_of_mem _ hq), hnd'.2⟩
      · obtain ⟨h1, h2, c, e, fr, h3, h4⟩ := hf.var t cs hv
        refine ⟨h1, h2, c, e, fr, ?_, h4⟩
        rw [hw]
        exact (withBlock_other ((hf.sepd r hmem).2 t cs hv).symm).trans h3
      · rw [hw]
        refine (withBlock_other ?_).trans (hf.ds q (List.mem_cons_of_mem _ hq)).2
        intro e; subst e; exact hnd'.1 hq

theorem func_sound {call : CallSem} {n : Nat} (hc : CallOK E call) (hev0 : CallEvol call) (hg : GidOK E) (hm : E.P.follows .mixedOrders = true) {f : FuncId} {fn : Func} {closed : Bool} {hint : Hint} {af : AFunc} (hf : E.P.funcs[f]? = some fn) (hcf : cFunc E closed hint fn = some af) (hrd : RndOK E af.body.rounds)
    {args : List AVal} {h : Heap} {v : AVal} {h' : Heap} (hev : evFunc call n af args h = some (v, h')) {μ : MM} {w : World} {args' : Array Value} (ha : VRels E μ args args'.toList) (hr : Rel E μ h w) :
    CallsIn (F0 none) 0 E.P f args' w (Ends E μ w v h') := by
  unfold cFunc at hcf
  split at hcf
  case h_2 => cases hcf
  rename_i c hb
  split at hcf
  case h_2 => cases hcf
  rename_i ac rs hac hrs
  split at hcf
  case isFalse => cases hcf
  rename_i hsz
  cases hcf
  rw [evFunc_eq] at hev
  simp only at hev
  split at hev
  case isFalse => cases hev
  rename_i hlen
  have hal : args'.size = args.length := by have := ha.length; simp at this; exact this.symm
  have hat : At E w.heap.size fn.ntmps μ w [] (enter 0 args) { h with wmin := h.size } { tmps := args' ++ Array.replicate (fn.ntmps - args'.size) undef, defers := [] } w := by
    refine ⟨μ, ⟨fun _ => 0, []⟩, Step.refl _ _ _ _, hr.same rfl rfl rfl, ?_, ?_, rfl, Nat.le_refl _⟩
    · have hval : ∀ (t : Nat) (x : Slot), sget (enter 0 args) t = some x → ∃ v, x = .val v ∧ args[t]? = some v := fun t x hx => by
        rw [enter_get] at hx
        simp at hx
        obtain ⟨v, h1, h2⟩ := hx
        exact ⟨v, h2.symm, h1⟩
      constructor
      · intro t v hv
        obtain ⟨v1, e, h1⟩ := hval t _ hv
        cases e
        obtain ⟨v', h2, h3⟩ := ha.get h1
        refine ⟨v', ?_, h3⟩
        have hlt := lt_of_get h1
        rw [Array.getElem?_append_left (by omega)]
        simpa using h2
      · intro t hx; obtain ⟨_, e, _⟩ := hval t _ hx; cases e
      · intro t cs hx; obtain ⟨_, e, _⟩ := hval t _ hx; cases e
      · intro t t' o cs hx; obtain ⟨_, e, _⟩ := hval t _ hx; cases e
      · intro t t' cs cs' _ hx; obtain ⟨_, e, _⟩ := hval t _ hx; cases e
      · intro t cs i m hx; obtain ⟨_, e, _⟩ := hval t _ hx; cases e
      · intro r hr; cases hr
      · intro r hr; cases hr
      · exact List.nodup_nil
    · simp; omega
  refine callsIn_of_wp_marks hf hb trivial ?_
  have key : ∀ (st : St) (x : AExit), (x = .normal ∨ x = .ret) → evCode call n ac ⟨enter 0 args, { h with wmin := h.size }⟩ = some (x, st) → ((resultsL st.s st.h rs).map fun vs => finish h (tupled vs) st.h) = some (v, h') →
      c.wpIn (F0 none) 0 E.P (bodyPostM (F0 none) 0 E.P fn (Ends E μ w v h')) { tmps := args' ++ Array.replicate (fn.ntmps - args'.size) undef, defers := [] } w := by
    intro st x hx h1 h2
    rw [Option.map_eq_some_iff] at h2
    obtain ⟨vs, h2, h3⟩ := h2
    have hevol := code_evol hev0 n _ _ _ _ h1
    refine code_sound hc hev0 hg hm false (fun _ => rfl) n _ _ _ hac (fun _ => hrd.of) _ _ _ h1 _ _ _ hat ?_
    intro a' w' hat'
    obtain ⟨μ1, ν1, k1, k2, k3, k4, k5, k6⟩ := hat'
    have hl : LeavesInM (F0 none) 0 E.P fn a'.tmps (Ends E μ w v h') a'.defers .returning w' := by
      rw [k5, List.append_nil]
      refine leaves_marks hrs h2 (fun v' w2 r2 k1' k2' => ?_) ν1.ds ν1.v w' k1 k2 k3
      obtain ⟨μ2, s1, s2, s3⟩ := finish_sound rfl hr k1' k2' r2 hevol
      rw [h3] at s1 s2 s3
      exact ⟨v', μ2, rfl, s1, s2, s3⟩
    rcases hx with rfl | rfl <;> exact hl
  unfold outcome at hev
  split at hev
  · rename_i st h1; exact key st _ (.inl rfl) h1 hev
  · rename_i st h1; exact key st _ (.inr rfl) h1 hev
  · cases hev

/-! ## Rounds -/

def Holds (E : Env) (μ : MM) (s : Slots) (tmps : Array Value) : Prop :=
  ∀ (t : Nat) (x : Slot), sget s t = some x → ∃ v, x = .val v ∧ ∃ v', tmps[t]? = some v' ∧ VRel E μ v v'

theorem holds_caps {μ : MM} {tmps : Array Value} : ∀ {sl : List (Nat × AVal)}, (∀ (k : Nat) (x : Nat × AVal), sl[k]? = some x → ∃ v', tmps[x.1]? = some v' ∧ VRel E μ x.2 v') → Holds E μ (ofCaps sl) tmps
  | [], _, t, x, h => by simp [ofCaps, sget] at h
  | (u, v) :: sl, hs, t, x, h => by
    simp only [ofCaps, sget] at h
    split at h
    · rename_i e
      cases h
      obtain ⟨v', h1, h2⟩ := hs 0 (u, v) rfl
      simp only at h1
      exact ⟨v, rfl, v', by rw [← e]; exact h1, h2⟩
    · exact holds_caps (fun k x hk => hs (k + 1) x (by simpa using hk)) t x h

theorem holds_args {μ : MM} : ∀ {ps : List Nat} {as : List AVal} {as' : List Value} {s : Slots} {tmps : Array Value}, VRels E μ as as' → (∀ t ∈ ps, t < tmps.size) → Holds E μ s tmps →
    Holds E μ (setArgs ps as s) ((ps.zip as').foldl (fun tmps (t, a) => tmps.setIfInBounds t a) tmps) ∧ ((ps.zip as').foldl (fun tmps (t, a) => tmps.setIfInBounds t a) tmps).size = tmps.size
  | [], as, as', s, tmps, _, _, h => by cases as <;> exact ⟨h, rfl⟩
  | t :: ts, [], as', s, tmps, ha, _, h => by
    simp only [VRels] at ha
    subst ha
    exact ⟨h, rfl⟩
  | t :: ts, v :: vs, as', s, tmps, ha, hp, h => by
    simp only [VRels] at ha
    obtain ⟨v', r', rfl, h1, h2⟩ := ha
    simp only [setArgs, List.zip_cons_cons, List.foldl_cons]
    have := holds_args (ps := ts) (as := vs) (as' := r') (s := (t, .val v) :: s) (tmps := tmps.setIfInBounds t v') h2 (fun u hu => by simp; exact hp u (List.mem_cons_of_mem _ hu)) (fun u x hx => ?_)
    · refine ⟨this.1, this.2.trans (by simp)⟩
    · simp only [sget] at hx
      have ht := hp t (List.mem_cons_self ..)
      split at hx
      · rename_i e
        cases hx
        subst e
        exact ⟨v, rfl, v', by simp [ht], h1⟩
      · rename_i hne
        obtain ⟨v2, e2, v3, h3, h4⟩ := h u x hx
        exact ⟨v2, e2, v3, by rw [Array.getElem?_setIfInBounds_ne hne]; exact h3, h4⟩

/-- A loop's record changes. -/
theorem At.record {lo nt : Nat} {μ0 : MM} {w0 : World} {ds : List Deferred} {s : Slots} {h : Heap} {a : Act} {w : World} (hat : At E lo nt μ0 w0 ds s h a w) {i g : Nat} {st : LoopSt} {p : Option AExit} {sl : List (Nat × AVal)} (hi : h.get i = some (.loop g st p sl)) (hb : h.base ≤ i)
    {m0 : M} (hm0 : μ0[i]? = some (some m0)) (g2 : Nat) (st2 : LoopSt) (p2 : Option AExit) (sl2 : List (Nat × AVal)) :
    ∃ r, w.heap[m0.blk]? = some (.loop r) ∧ st.is r.state ∧ ∀ r2 : Loop, (∀ μ, LoopRel E μ g st p sl r → LoopRel E μ g2 st2 p2 sl2 r2) → At E lo nt μ0 w0 ds s (h.put i (.loop g2 st2 p2 sl2)) a (w.putObj m0.blk (.loop r2)) := by
  obtain ⟨μ, ν, k1, k2, k3, k4, k5, k6⟩ := hat
  obtain ⟨m, r, q1, q2, q3⟩ := k2.obj i _ hi
  have hm : m = m0 := by
    rcases k1.old i (lt_of_get hm0) with q | ⟨_, q⟩
    · rw [q, hm0] at q1; cases q1; rfl
    · rw [q] at q1; cases q1
  subst hm
  refine ⟨r, q2, q3.st, fun r2 hr2 => ?_⟩
  have hw : w.putObj m.blk (.loop r2) = withBlock w m.blk (.loop r2) := rfl
  rw [hw]
  refine ⟨μ, ν, (k1.trans (Step.put q1 (Nat.min_le_right _ _) _) (Nat.min_le_left _ _)), k2.put hb q1 ?_, ?_, k4, k5, by simpa [withBlock] using k6⟩
  · exact ⟨m, r2, q1, withBlock_same (k2.lt i m q1), hr2 μ q3⟩
  · refine k3.keep (Later.refl μ) (fun t cs hv => withBlock_other (k3.sepm t cs i m hv q1)) (fun t cs j m' hv hj hm' => absurd (lt_of_get hm') (by omega)) fun r hr => ⟨withBlock_other ((k3.sepd r hr).1 i m q1), fun j m' hj hm' => absurd (lt_of_get hm') (by omega)⟩

theorem round_sound {call : CallSem} {n g : Nat} (hc : CallOK E call) (hev0 : CallEvol call) (hg : GidOK E) (hm : E.P.follows .mixedOrders = true) {ar : ARound} (hrnd : E.rnd g = some ar) {i k : Nat} {args : List AVal} {h : Heap} {v : AVal} {h' : Heap} {st : LoopSt} {p : Option AExit} {sl : List (Nat × AVal)}
    (hev : evRound call n g ar (.ptr (some (i, k)) :: args) h = some (v, h')) (hi : h.get i = some (.loop g st p sl)) {μ : MM} {w : World} {args' : Array Value} (ha : VRels E μ args args'.toList) (hr : Rel E μ h w) :
    ∃ (m : M) (r : Loop), μ[i]? = some (some m) ∧ w.heap[m.blk]? = some (.loop r) ∧ args'.size = r.params.size ∧
      RoundIn (F0 none) 0 E.P m.blk r.fn ((r.params.zip args').foldl (fun tmps (t, a) => tmps.setIfInBounds t a) r.tmps) r.assign r.body w (Ends E μ w v h') := by
  obtain ⟨m, r, q1, q2, q3⟩ := hr.obj i _ hi
  obtain ⟨ar', ha1, hb1, e1, e2, e3, e4, e5⟩ := q3.code
  rw [hrnd] at e1
  cases e1
  have hal : args'.size = args.length := by have := ha.length; simp at this; exact this.symm
  unfold evRound at hev
  simp only at hev
  split at hev
  case isFalse => cases hev
  rename_i hlen
  split at hev
  case h_2 => cases hev
  rename_i s hs
  split at hev
  case h_2 => cases hev
  rename_i st1 hst1
  have hps : r.params.size = args'.size := by
    rw [hal, hlen.1, ← e2]; simp
  refine ⟨m, r, q1, q2, hps.symm, ?_⟩
  have hs' : s = setArgs ar.params args (ofCaps sl) := by
    unfold roundSlots at hs
    rw [hi] at hs
    cases hs; rfl
  subst hs'
  have hfold : (r.params.zip args').foldl (fun tmps (t, a) => tmps.setIfInBounds t a) r.tmps = (ar.params.zip args'.toList).foldl (fun tmps (t, a) => tmps.setIfInBounds t a) r.tmps := by
    rw [← e2, ← Array.foldl_toList, Array.toList_zip]
  obtain ⟨hh, hsz⟩ := holds_args ha e3 (holds_caps q3.slots)
  rw [← hfold] at hh hsz
  generalize (r.params.zip args').foldl (fun tmps (t, a) => tmps.setIfInBounds t a) r.tmps = tmps at hh hsz ⊢
  have hat : At E w.heap.size r.tmps.size μ w [] (setArgs ar.params args (ofCaps sl)) { h with wmin := h.size } { tmps := tmps, defers := [] } w := by
    refine ⟨μ, ⟨fun _ => 0, []⟩, Step.refl _ _ _ _, hr.same rfl rfl rfl, ?_, hsz, rfl, Nat.le_refl _⟩
    constructor
    · intro t v hv
      obtain ⟨v1, e, h1⟩ := hh t _ hv
      cases e
      exact h1
    · intro t hx; obtain ⟨_, e, _⟩ := hh t _ hx; cases e
    · intro t cs hx; obtain ⟨_, e, _⟩ := hh t _ hx; cases e
    · intro t t' o cs hx; obtain ⟨_, e, _⟩ := hh t _ hx; cases e
    · intro t t' cs cs' _ hx; obtain ⟨_, e, _⟩ := hh t _ hx; cases e
    · intro t cs i m hx; obtain ⟨_, e, _⟩ := hh t _ hx; cases e
    · intro r hr; cases hr
    · intro r hr; cases hr
    · exact List.nodup_nil
  refine roundIn_of_wpIn trivial ?_
  show Code.wpIn (F0 (some m.blk)) 0 E.P r.assign _ _ _
  unfold roundIn at hst1
  split at hst1
  case h_2 => cases hst1
  rename_i st2 he1
  split at hst1
  case h_2 => cases hst1
  rename_i g' p' sl' hgi
  split at hst1
  case isFalse => cases hst1
  rename_i hgg
  subst hgg
  cases hst1
  have hevA := code_evol hev0 n _ _ _ _ he1
  refine code_sound hc hev0 hg hm true (fun h => by cases h) n _ _ _ e4 (fun h => by cases h) _ _ _ he1 _ _ _ hat fun a1 w1 hat1 => ?_
  have hbi : st2.h.base ≤ i := by rw [hevA.base]; exact hlen.2
  obtain ⟨r1, f1, f2, f3⟩ := hat1.record hgi hbi q1 g' .busy p' sl'
  refine ⟨_, run_beginRound f1 f2, ?_⟩
  have hat2 := f3 { r1 with state := .busy } fun μ q => ⟨q.code, rfl, q.pend, q.slots⟩
  show Code.wpIn (F0 (some m.blk)) 0 E.P r.body _ _ _
  unfold roundOut at hev
  split at hev
  case h_2 => cases hev
  rename_i e st3 he2
  split at hev
  case h_2 => cases hev
  rename_i g3 st4 p4 sl4 hg4
  split at hev
  case isFalse => cases hev
  rename_i hgg
  subst hgg
  have hfin := Option.some.inj hev
  have hevB := code_evol hev0 n _ _ _ _ he2
  refine code_sound hc hev0 hg hm true (fun h => by cases h) n _ _ _ e5 (fun h => by cases h) _ _ _ he2 _ _ _ hat2 fun a3 w3 hat3 => ?_
  have hbi3 : st3.h.base ≤ i := by rw [hevB.base]; exact hbi
  obtain ⟨r3, j1, j2, j3⟩ := hat3.record hg4 hbi3 q1 g3 (if e = .normal then .ready else .done) (if e = .normal then none else some e) sl4
  have hend : ∀ (jump : Option Code) (st5 : LoopSt) (p5 : Option AExit), st5 = (if e = .normal then .ready else .done) → p5 = (if e = .normal then none else some e) → jump = p5.map AExit.code → jump.isNone = decide (e = .normal) →
      ∃ v1 w', (Instr.endRound m.blk jump).run E.P w3 = .ok v1 w' ∧ Ends E μ w v h' (.returned v1) w' := by
    intro jump st5 p5 h1 h2 h3 h4
    rw [← h1, ← h2] at hfin
    refine ⟨_, _, run_endRound jump j1, ?_⟩
    have hst5 : st5.is (if jump.isNone then .ready else .done : LoopState) := by
      rw [h4, h1]
      by_cases hn : e = .normal <;> simp [hn, LoopSt.is]
    have hat4 := j3 { r3 with state := if jump.isNone then .ready else .done, pending := jump } fun μ q => ⟨q.code, by rw [← h1]; exact hst5, by rw [← h2]; exact h3, q.slots⟩
    rw [← h1, ← h2] at hat4
    obtain ⟨μ5, ν5, l1, l2, l3, l4, l5, l6⟩ := hat4
    have hv : VRel E μ5 (.bool (decide (e = .normal))) (.bool jump.isNone) := by rw [h4]; simp [VRel]
    have hx : Evol { h with wmin := h.size } st3.h := (Evol.trans hevA (Evol.put _ _ _)).trans hevB
    obtain ⟨μ6, s1, s2, s3⟩ := finish_sound rfl hr l1 l2 hv (hx.trans (Evol.put _ _ _))
    rw [hfin] at s1 s2 s3
    exact ⟨_, μ6, rfl, s1, s2, s3⟩
  cases e with
  | normal => exact hend none _ _ rfl rfl rfl rfl
  | ret => exact hend (some .ret) _ _ rfl rfl rfl rfl
  | exit id => exact hend (some (.exit id)) _ _ rfl rfl rfl rfl

theorem call_sound {T : Nat → Option AFunc} (hT : Agrees E T) (hm : E.P.follows .mixedOrders = true) : ∀ n, CallOK E (evCall T n)
  | 0 => ⟨by intro g args h v h' e; simp [evCall] at e, by intro g i k args h v h' st p sl e; simp [evCall] at e⟩
  | n + 1 => by
    constructor
    · intro g args h v h' e f hf μ w args' ha hr
      obtain ⟨fn, closed, hint, af, h1, h2, h3, h4⟩ := hT.fn f g hf
      simp only [evCall, h2, cFunc_round h3] at e
      have key : ∀ (args : List AVal) (h : Heap) (v : AVal) (h' : Heap), evFunc (evCall T n) n af args h = some (v, h') → ∀ (μ : MM) (w : World) (args' : Array Value), VRels E μ args args'.toList → Rel E μ h w →
          CallsIn (F0 none) 0 E.P f args' w (Ends E μ w v h') := fun args h v h' e μ w args' ha hr =>
        func_sound (call_sound hT hm n) (call_evol T n) hT.gid hm h1 h3 h4 e ha hr
      cases hcl : af.closed with
      | false => rw [hcl] at e; exact key _ _ _ _ e _ _ _ ha hr
      | true =>
        rw [hcl] at e
        simp only [wrapC, evClosed, if_true] at e
        split at e
        case isFalse => cases e
        rename_i hu
        split at e
        case h_2 => cases e
        rename_i v0 h0 he
        split at e
        case isFalse => cases e
        rename_i hv0
        cases e
        have hr0 : Rel E [] ⟨[], 0, 0⟩ w := ⟨rfl, Nat.le_refl _, by simp, by simp, by simp⟩
        refine CallsIn.mono (F := F0 none) (n := 0) (key _ _ _ _ he [] w args' (unders_rel (n := 0) (fun i hi => absurd hi (by omega)) hu ha) hr0) fun e w' ⟨v', μ', h1, h2, h3, _⟩ => ?_
        have hb : ∀ k, k < w.heap.size → w'.heap[k]? = w.heap[k]? := fun k hk => h2.block k hk (fun h => h) fun i m _ hm => by simp at hm
        refine ⟨v', μ, h1, ⟨h2.os, h2.tape, h2.output, h2.size, fun k hk _ _ => hb k hk, Nat.le_refl _, fun _ _ => .inl rfl, fun i m hi hm => absurd (lt_of_get hm) (by omega)⟩,
          under_rel (n := 0) (fun i hi => absurd hi (by omega)) hv0 h3, hr.keep h2.size fun i m hm => hb _ (hr.lt i m hm)⟩
    · intro g i k args h v h' st p sl e hi μ w args' ha hr
      obtain ⟨m, r, q1, q2, q3⟩ := hr.obj i _ hi
      obtain ⟨ar, _, _, e1, _⟩ := q3.code
      obtain ⟨af, e2, e3⟩ := hT.rnd g ar e1
      simp only [evCall, e2, e3] at e
      exact round_sound (call_sound hT hm n) (call_evol T n) hT.gid hm e1 e hi ha hr

/-- What the machine gives is what the model's call gives. -/
theorem x_sound {T : Nat → Option AFunc} (hT : Agrees E T) (hm : E.P.follows .mixedOrders = true) {g : Nat} {args : List AVal} {h : Heap} {v : AVal} {h' : Heap} (e : xCall T g args h = some (v, h')) {f : FuncId} (hf : E.gid f = some g) {μ : MM} {w : World} {args' : Array Value} (ha : VRels E μ args args'.toList) (hr : Rel E μ h w) :
    Calls E.P f args' w (Ends E μ w v h') := by
  obtain ⟨n, hn⟩ := (xCall_iff T _ _ _ _).1 e
  exact callsIn_wide.1 ((call_sound hT hm n).fn g args h v h' hn f hf μ w args' ha hr)

end
end Go.Abs

/-
  What a law is asked of: its arguments, as data, and where they lie in the machine's memory.
-/
namespace Go.Abs
open Go.RowKit

/-- The shapes of types. -/
inductive Sh where
  | bool
  | int (k : IntKind)
  | str
  | slice (e : Sh)
  | struct (fs : List Sh)

mutual
def Sh.size : Sh → Nat
  | .struct fs => Sh.sizes fs
  | _ => 1
def Sh.sizes : List Sh → Nat
  | [] => 0
  | s :: r => s.size + Sh.sizes r
end

inductive Dat where
  | bool (b : Bool)
  | int (n : Int)
  | str (s : List UInt8)
  | nil
  | row (l : List Dat)
  | agg (l : List Dat)

mutual
/-- These cells are that datum; what it is made of lies in memory that nobody writes. -/
def Has (h : Heap) : Sh → Dat → List AVal → Prop
  | .bool, .bool b, cs => cs = [.bool b]
  | .int k, .int n, cs => cs = [.int k n] ∧ k.min ≤ n ∧ n ≤ k.max
  | .str, .str s, cs => cs = [.str s] ∧ s.length ≤ maxLen
  | .slice _, .nil, cs => cs = [.slice none 0 (some 0)]
  | .slice e, .row l, cs => l.length ≤ maxLen ∧ ∃ (i : Nat) (css : List (List AVal)), cs = [.slice (some (i, 0)) l.length none] ∧ i < h.base ∧ css.length = l.length ∧ (h.get i = some (.cells e.size css.flatten) ∨ (l = [] ∧ h.get i = some .dead)) ∧
      ∀ (k : Nat) (d : Dat) (c : List AVal), l[k]? = some d → css[k]? = some c → Has h e d c
  | .struct fs, .agg l, cs => HasL h fs l cs
  | _, _, _ => False
def HasL (h : Heap) : List Sh → List Dat → List AVal → Prop
  | [], [], cs => cs = []
  | s :: r, d :: l, cs => ∃ a b, cs = a ++ b ∧ Has h s d a ∧ HasL h r l b
  | _, _, _ => False
end

mutual
theorem Has.cells {h : Heap} : ∀ {s : Sh} {d : Dat} {cs : List AVal}, Has h s d cs → cs.length = s.size ∧ ∀ x ∈ cs, x.isOne = true
  | .bool, d, cs, hh => by cases d <;> simp only [Has] at hh; subst hh; simp [Sh.size, AVal.isOne]
  | .int k, d, cs, hh => by cases d <;> simp only [Has] at hh; obtain ⟨rfl, _⟩ := hh; simp [Sh.size, AVal.isOne]
  | .str, d, cs, hh => by cases d <;> simp only [Has] at hh; obtain ⟨rfl, _⟩ := hh; simp [Sh.size, AVal.isOne]
  | .slice e, d, cs, hh => by
    cases d <;> simp only [Has] at hh
    · subst hh; simp [Sh.size, AVal.isOne]
    · obtain ⟨_, _, _, rfl, _⟩ := hh; simp [Sh.size, AVal.isOne]
  | .struct fs, d, cs, hh => by
    cases d <;> simp only [Has] at hh
    have := HasL.cells hh
    simpa only [Sh.size] using this
theorem HasL.cells {h : Heap} : ∀ {fs : List Sh} {l : List Dat} {cs : List AVal}, HasL h fs l cs → cs.length = Sh.sizes fs ∧ ∀ x ∈ cs, x.isOne = true
  | [], l, cs, hh => by cases l <;> simp only [HasL] at hh; subst hh; simp [Sh.sizes]
  | s :: r, l, cs, hh => by
    cases l <;> simp only [HasL] at hh
    obtain ⟨a, b, rfl, h1, h2⟩ := hh
    obtain ⟨k1, k2⟩ := Has.cells h1
    obtain ⟨k3, k4⟩ := HasL.cells h2
    refine ⟨by simp [Sh.sizes, k1, k3], fun x hx => ?_⟩
    rcases List.mem_append.1 hx with hx | hx
    · exact k2 x hx
    · exact k4 x hx
end

/-- What nobody writes is as it was. -/
structure Heap.Ext (h h' : Heap) : Prop where
  base : h.base ≤ h'.base
  get : ∀ i, i < h.base → h'.get i = h.get i

theorem Heap.Ext.refl (h : Heap) : h.Ext h := ⟨Nat.le_refl _, fun _ _ => rfl⟩
theorem Heap.Ext.trans {a b c : Heap} (h : a.Ext b) (k : b.Ext c) : a.Ext c := ⟨Nat.le_trans h.base k.base, fun i hi => (k.get i (Nat.lt_of_lt_of_le hi h.base)).trans (h.get i hi)⟩

mutual
theorem Has.ext {h h' : Heap} (e : h.Ext h') : ∀ {s : Sh} {d : Dat} {cs : List AVal}, Has h s d cs → Has h' s d cs
  | .bool, d, cs, hh => by cases d <;> simp only [Has] at hh ⊢ <;> exact hh
  | .int k, d, cs, hh => by cases d <;> simp only [Has] at hh ⊢ <;> exact hh
  | .str, d, cs, hh => by cases d <;> simp only [Has] at hh ⊢ <;> exact hh
  | .slice e', d, cs, hh => by
    cases d <;> simp only [Has] at hh ⊢
    · exact hh
    · obtain ⟨h0, i, css, h1, h2, h3, h4, h5⟩ := hh
      refine ⟨h0, i, css, h1, Nat.lt_of_lt_of_le h2 e.base, h3, ?_, fun k d c hd hc => Has.ext e (h5 k d c hd hc)⟩
      rw [e.get i h2]; exact h4
  | .struct fs, d, cs, hh => by
    cases d <;> simp only [Has] at hh ⊢
    exact HasL.ext e hh
theorem HasL.ext {h h' : Heap} (e : h.Ext h') : ∀ {fs : List Sh} {l : List Dat} {cs : List AVal}, HasL h fs l cs → HasL h' fs l cs
  | [], l, cs, hh => by cases l <;> simp only [HasL] at hh ⊢; exact hh
  | s :: r, l, cs, hh => by
    cases l <;> simp only [HasL] at hh ⊢
    obtain ⟨a, b, e1, h1, h2⟩ := hh
    exact ⟨a, b, e1, Has.ext e h1, HasL.ext e h2⟩
end

/-! ## Shapes of the model's types -/

def shFields (P : Program) (g : TypeId → Option Sh) : Nat → List Field → Option (List Sh)
  | _, [] => some []
  | off, f :: r => match g f.type with
    | some s => if f.offset = off ∧ P.cellsOf f.type = s.size then (shFields P g (off + s.size) r).map (s :: ·) else none
    | none => none

def shOf (P : Program) : Nat → TypeId → Option Sh
  | 0, _ => none
  | n + 1, t => match P.underlying t with
    | some .bool => some .bool
    | some (.int k) => some (.int k)
    | some .string => some .str
    | some (.slice e) => match shOf P n e with
      | some s => if P.cellsOf e = s.size ∧ 0 < s.size then some (.slice s) else none
      | none => none
    | some (.struct fs) => match shFields P (shOf P n) 0 fs.toList with
      | some ss => if P.cellsOf t = Sh.sizes ss then some (.struct ss) else none
      | none => none
    | _ => none

/-! ## Memory that is there -/

def H0 (os : List AObj) : Heap := ⟨os, os.length, os.length⟩

theorem H0_ext (os zs : List AObj) : (H0 os).Ext (H0 (os ++ zs)) :=
  ⟨by simp [H0], fun i hi => by simp only [H0, Heap.get] at hi ⊢; rw [List.getElem?_append_left hi]⟩

section
variable {E : Env}

theorem ORel.base {μ : MM} {b b' i : Nat} {w : World} {o : AObj} (h : ORel E μ b i w o) (hi : i < b') : ORel E μ b' i w o := by
  cases o with
  | cells esz cs =>
    obtain ⟨m, c, e, fr, h1, h2, h3, h4, h5, h6, _⟩ := h
    exact ⟨m, c, e, fr, h1, h2, h3, h4, h5, h6, fun k => absurd hi (by omega)⟩
  | _ => exact h

/-- One object more, in a block that is there. -/
theorem Rel.view {μ : MM} {os : List AObj} {w : World} (hr : Rel E μ (H0 os) w) (o : AObj) (x : Option M) (ho : ORel E (μ ++ [x]) (os.length + 1) os.length w o) (hx : ∀ m, x = some m → m.blk < w.heap.size) :
    Rel E (μ ++ [x]) (H0 (os ++ [o])) w := by
  have hlen : μ.length = os.length := hr.len
  constructor
  · simp [H0, hlen]
  · simp [H0]
  · intro i o' hi
    simp only [H0] at hi ⊢
    rcases Nat.lt_or_ge i os.length with h1 | h1
    · rw [List.getElem?_append_left h1] at hi
      refine ((hr.obj i o' hi).keep (later_push μ x) fun m hm => ⟨?_, rfl⟩).base (by simp; omega)
      rw [List.getElem?_append_left (by omega)]; exact hm
    · have := lt_of_get hi
      simp at this
      have e : i = os.length := by omega
      subst e
      simp at hi; subst hi
      simpa using ho
  · intro i j mi mj _ hi hmi _
    have := lt_of_get hmi
    simp [H0] at hi this
    omega
  · intro i m hm
    rcases get_push hm with h1 | ⟨_, h1⟩
    · exact hr.lt i m h1
    · exact hx m h1

theorem VRels.push {μ ν : MM} {as : List AVal} {l : List Value} (h : VRels E μ as l) : VRels E (μ ++ ν) as l :=
  h.later ⟨by simp, fun i hi => .inl (List.getElem?_append_left hi)⟩

theorem cell_block {w : World} {a : Addr} {v : Value} (h : w.cell? a = some v) : ∃ c e fr, w.heap[a.block]? = some (.cells c e fr) ∧ a.spot = none ∧ c[a.off]? = some v := by
  unfold World.cell? at h
  split at h
  · rename_i c e fr hb
    split at h
    · cases h
    · rename_i hs
      exact ⟨c, e, fr, hb, by simpa using hs, h⟩
  · cases h

theorem add_off {a : Addr} (hs : a.spot = none) (n : Nat) : a.add n = ⟨a.block, a.off + n, none⟩ := by
  unfold Addr.add
  cases a
  simp only at hs
  subst hs
  split <;> simp_all

theorem flatten_get {sz : Nat} : ∀ {css : List (List AVal)} {k : Nat} {v : AVal}, (∀ c ∈ css, c.length = sz) → css.flatten[k]? = some v → ∃ q r c, k = q * sz + r ∧ r < sz ∧ css[q]? = some c ∧ c[r]? = some v
  | [], k, v, _, h => by simp at h
  | c :: css, k, v, hl, h => by
    simp only [List.flatten_cons] at h
    have hc := hl c (List.mem_cons_self ..)
    rcases Nat.lt_or_ge k c.length with h1 | h1
    · rw [List.getElem?_append_left h1] at h
      exact ⟨0, k, c, by omega, by omega, rfl, h⟩
    · rw [List.getElem?_append_right h1] at h
      obtain ⟨q, r, c', e, hr, h2, h3⟩ := flatten_get (fun x hx => hl x (List.mem_cons_of_mem _ hx)) h
      refine ⟨q + 1, r, c', ?_, hr, by simpa using h2, h3⟩
      rw [Nat.add_mul]; omega

theorem flatten_len {sz : Nat} : ∀ {css : List (List AVal)}, (∀ c ∈ css, c.length = sz) → css.flatten.length = css.length * sz
  | [], _ => by simp
  | c :: css, h => by
    rw [List.flatten_cons, List.length_append, flatten_len fun x hx => h x (List.mem_cons_of_mem _ hx), h c (List.mem_cons_self ..), List.length_cons, Nat.add_mul]
    omega

variable {H : Type} {enc : TypeId × Value → H} {w : World} {held : Bool}

/-- One datum is read: from there on it is among the machine's memory. -/
def Reads (E : Env) (w : World) (sh : Sh) (cs : List Value) : Prop :=
  ∀ (μ : MM) (os : List AObj), Rel E μ (H0 os) w → ∃ ν zs acs d, Rel E (μ ++ ν) (H0 (os ++ zs)) w ∧ VRels E (μ ++ ν) acs cs ∧ Has (H0 (os ++ zs)) sh d acs

theorem Reads.pure {sh : Sh} {cs : List Value} (acs : List AVal) (d : Dat) (h1 : ∀ μ, VRels E μ acs cs) (h2 : ∀ h, Has h sh d acs) : Reads E w sh cs := fun μ os hr =>
  ⟨[], [], acs, d, by simpa using hr, h1 _, h2 _⟩

theorem reads_fields {g : TypeId → Option Sh} {cs : List Value} (hg : ∀ t sh, g t = some sh → ∀ n vs x, DataW.trod enc E.P w 0 (fun _ => true) held n t vs = some x → Reads E w sh vs) :
    ∀ {fl : List Field} {off : Nat} {ss : List Sh}, shFields E.P g off fl = some ss → off + Sh.sizes ss ≤ cs.length → (∀ f ∈ fl, ∃ n x, DataW.trod enc E.P w 0 (fun _ => true) held n f.type ((cs.drop f.offset).take (E.P.cellsOf f.type)) = some x) →
      ∀ (μ : MM) (os : List AObj), Rel E μ (H0 os) w → ∃ ν zs acs l, Rel E (μ ++ ν) (H0 (os ++ zs)) w ∧ VRels E (μ ++ ν) acs ((cs.drop off).take (Sh.sizes ss)) ∧ HasL (H0 (os ++ zs)) ss l acs
  | [], off, ss, hs, _, _, μ, os, hr => by
    simp only [shFields] at hs; cases hs
    exact ⟨[], [], [], [], by simpa using hr, by simp [Sh.sizes, VRels], by simp [HasL]⟩
  | f :: fl, off, ss, hs, hlen, hf, μ, os, hr => by
    simp only [shFields] at hs
    split at hs
    case h_2 => cases hs
    rename_i s h1
    split at hs
    case isFalse => cases hs
    rename_i h2
    rw [Option.map_eq_some_iff] at hs
    obtain ⟨ss', h3, rfl⟩ := hs
    simp only [Sh.sizes] at hlen ⊢
    obtain ⟨n, x, hx⟩ := hf f (List.mem_cons_self ..)
    obtain ⟨ν, zs, acs, d, k1, k2, k3⟩ := hg _ _ h1 _ _ _ hx μ os hr
    obtain ⟨ν', zs', acs', l, k4, k5, k6⟩ := reads_fields hg h3 (by omega) (fun f' hf' => hf f' (List.mem_cons_of_mem _ hf')) _ _ k1
    refine ⟨ν ++ ν', zs ++ zs', acs ++ acs', d :: l, by simpa using k4, ?_, ?_⟩
    · rw [List.take_add]
      refine VRels.append ?_ ?_
      · rw [← List.append_assoc]
        rw [h2.1, h2.2] at k2
        exact k2.push
      · rw [List.drop_drop, ← List.append_assoc]
        exact k5
    · simp only [HasL]
      refine ⟨acs, acs', rfl, ?_, ?_⟩
      · rw [← List.append_assoc]; exact k3.ext (H0_ext _ _)
      · rw [← List.append_assoc]; exact k6

theorem reads_row {e : TypeId} {s : Sh} (hg : ∀ n vs x, DataW.trod enc E.P w 0 (fun _ => true) held n e vs = some x → Reads E w s vs) {a : Addr} {sz : Nat} :
    ∀ (m : Nat), (∀ i, i < m → ∃ n vs x, w.cells? 0 (a.add (i * sz)) sz = some vs ∧ DataW.trod enc E.P w 0 (fun _ => true) held n e vs = some x) →
      ∀ (μ : MM) (os : List AObj), Rel E μ (H0 os) w → ∃ (ν : MM) (zs : List AObj) (css : List (List AVal)) (l : List Dat), Rel E (μ ++ ν) (H0 (os ++ zs)) w ∧ css.length = m ∧ l.length = m ∧
        (∀ i c, css[i]? = some c → ∃ vs, w.cells? 0 (a.add (i * sz)) sz = some vs ∧ VRels E (μ ++ ν) c vs) ∧ ∀ (k : Nat) (d : Dat) (c : List AVal), l[k]? = some d → css[k]? = some c → Has (H0 (os ++ zs)) s d c
  | 0, _, μ, os, hr => ⟨[], [], [], [], by simpa using hr, rfl, rfl, by simp, by simp⟩
  | m + 1, hm, μ, os, hr => by
    obtain ⟨ν, zs, css, l, k1, k2, k3, k4, k5⟩ := reads_row hg m (fun i hi => hm i (by omega)) μ os hr
    obtain ⟨n, vs, x, h1, h2⟩ := hm m (by omega)
    obtain ⟨ν', zs', acs, d, j1, j2, j3⟩ := hg _ _ _ h2 _ _ k1
    refine ⟨ν ++ ν', zs ++ zs', css ++ [acs], l ++ [d], by simpa using j1, by simp [k2], by simp [k3], ?_, ?_⟩
    · intro i c hc
      rcases Nat.lt_or_ge i css.length with h3 | h3
      · rw [List.getElem?_append_left h3] at hc
        obtain ⟨vs', h4, h5⟩ := k4 i c hc
        exact ⟨vs', h4, by rw [← List.append_assoc]; exact h5.push⟩
      · have h4 := lt_of_get hc
        simp at h4
        have e : i = css.length := by omega
        subst e
        simp at hc; subst hc
        exact ⟨vs, by rw [k2]; exact h1, by rw [← List.append_assoc]; exact j2⟩
    · intro k d' c hd hc
      rcases Nat.lt_or_ge k css.length with h3 | h3
      · rw [List.getElem?_append_left h3] at hc
        rw [List.getElem?_append_left (by omega)] at hd
        rw [← List.append_assoc]
        exact (k5 k d' c hd hc).ext (H0_ext _ _)
      · have h4 := lt_of_get hc
        simp at h4
        have e : k = css.length := by omega
        subst e
        rw [List.getElem?_append_right (by omega)] at hd
        simp at hc; subst hc
        simp [k2, k3] at hd; subst hd
        rw [← List.append_assoc]; exact j3

theorem reads_of : ∀ (f : Nat) (t : TypeId) (sh : Sh), shOf E.P f t = some sh → ∀ (n : Nat) (cs : List Value) (x : DataW H × List MemPlace), DataW.trod enc E.P w 0 (fun _ => true) held n t cs = some x → Reads E w sh cs
  | 0, t, sh, h => by simp [shOf] at h
  | f + 1, t, sh, h => by
    intro n cs x hx
    simp only [shOf] at h
    split at h
    · rename_i hu
      cases h
      obtain ⟨b, rfl, _⟩ := DataW.trod_bool hu hx
      exact Reads.pure [.bool b] (.bool b) (fun μ => by simp [VRels, VRel]) fun h => by simp [Has]
    · rename_i k hu
      cases h
      obtain ⟨m, rfl, _, hw⟩ := DataW.trod_int hu hx
      simp [Lit.wf] at hw
      exact Reads.pure [.int k m] (.int m) (fun μ => by simp [VRels, VRel]) fun h => by simp [Has, hw]
    · rename_i hu
      cases h
      obtain ⟨s, rfl, _, hw⟩ := DataW.trod_string hu hx
      exact Reads.pure [.str s.data.toList] (.str s.data.toList) (fun μ => by simp [VRels, VRel]) fun h => by
        simp only [Has]
        exact ⟨trivial, by rw [Array.length_toList]; exact hw⟩
    · rename_i e hu
      split at h
      case h_2 => cases h
      rename_i s hs
      split at h
      case isFalse => cases h
      rename_i hsz
      cases h
      rcases DataW.trod_slice hu hx with ⟨rfl, _⟩ | ⟨a, len, cap, elems, rest, n', _, rfl, _, _, hlc, hcm, hel, h1, h2, _⟩
      · exact Reads.pure [.slice none 0 (some 0)] .nil (fun μ => by simp [VRels, VRel]) fun h => by simp [Has]
      · obtain ⟨hrl, h2⟩ := h2 rfl
        rw [hsz.1] at h1 h2
        have hall : ∀ i, i < cap → ∃ n vs x, w.cells? 0 (a.add (i * s.size)) s.size = some vs ∧ DataW.trod enc E.P w 0 (fun _ => true) held n e vs = some x := fun i hi => by
          rcases Nat.lt_or_ge i len with hl | hl
          · have h3 := h1 i hl
            rw [List.getElem?_eq_getElem (by omega)] at h3
            rw [Option.bind_eq_some_iff] at h3
            obtain ⟨vs, h4, h5⟩ := h3
            exact ⟨n', vs, _, h4, h5⟩
          · have h3 := h2 (i - len) (by omega)
            rw [List.getElem?_eq_getElem (by omega), show len + (i - len) = i by omega] at h3
            rw [Option.bind_eq_some_iff] at h3
            obtain ⟨vs, h4, h5⟩ := h3
            exact ⟨n', vs, _, h4, h5⟩
        intro μ os hr
        obtain ⟨ν, zs, css, l, k1, k2, k3, k4, k5⟩ := reads_row (a := a) (sz := s.size) (fun n vs x => reads_of f e s hs n vs x) len (fun i hi => hall i (by omega)) μ os hr
        have hlen : (μ ++ ν).length = (os ++ zs).length := k1.len
        rcases Nat.eq_zero_or_pos cap with hc | hc
        · -- nothing there
          subst hc
          have hl0 : len = 0 := by omega
          subst hl0
          have hcss : css = [] := List.eq_nil_of_length_eq_zero k2
          have hl : l = [] := List.eq_nil_of_length_eq_zero k3
          subst hcss; subst hl
          refine ⟨ν ++ [none], zs ++ [.dead], [.slice (some ((os ++ zs).length, 0)) 0 none], .row [], ?_, ?_, ?_⟩
          · have := k1.view .dead none (show (_ ++ [none] : MM)[_]? = _ by rw [← hlen]; simp) (by simp)
            simpa using this
          · simp only [VRels, VRel]
            refine ⟨_, [], rfl, ⟨a, 0, rfl, ?_, by simp, by simp, Nat.le_refl _, ?_⟩, rfl⟩
            · rw [← List.append_assoc, ← hlen]; simp only [List.length_append, List.length_cons]; omega
            · intro m hm
              rw [← List.append_assoc, ← hlen] at hm
              simp at hm
          · unfold Has
            refine ⟨Nat.zero_le _, (os ++ zs).length, [], rfl, by simp [H0], rfl, .inr ⟨rfl, ?_⟩, by simp⟩
            rw [← List.append_assoc]
            simp [Heap.get, H0]
        · -- the row
          have hsp := hsz.2
          obtain ⟨_, vs0, _, c0, _⟩ := hall 0 hc
          obtain ⟨_, cl0, cg0⟩ := World.cells?_some c0
          have c1 := cg0 0 hsp
          rw [List.getElem?_eq_getElem (by omega)] at c1
          have : (a.add (0 * s.size)).add 0 = a := by simp [Addr.add]
          rw [this] at c1
          obtain ⟨c, te, fr, hb, hspot, _⟩ := cell_block c1
          have hcell : ∀ i vs, w.cells? 0 (a.add (i * s.size)) s.size = some vs → vs.length = s.size ∧ ∀ r, r < s.size → c[a.off + i * s.size + r]? = vs[r]? := fun i vs hvs => by
            obtain ⟨_, e1, e2⟩ := World.cells?_some hvs
            refine ⟨e1, fun r hr => ?_⟩
            have e3 := e2 r hr
            rw [add_off hspot, add_off rfl, cell_of_block hb] at e3
            exact e3
          have hcap : a.off + cap * s.size ≤ c.size := by
            obtain ⟨_, vs, _, d1, _⟩ := hall (cap - 1) (by omega)
            obtain ⟨d2, d3⟩ := hcell _ _ d1
            have d4 := d3 (s.size - 1) (by omega)
            rw [List.getElem?_eq_getElem (by omega)] at d4
            have d5 : a.off + (cap - 1) * s.size + (s.size - 1) < c.size := lt_of_get (l := c.toList) (by simpa using d4)
            have d6 : cap * s.size = (cap - 1) * s.size + s.size := by
              conv => lhs; rw [show cap = (cap - 1) + 1 by omega]
              rw [Nat.add_mul]; omega
            omega
          have hcl : ∀ x ∈ css, x.length = s.size := fun x hx => by
            obtain ⟨i, hi⟩ := List.getElem?_of_mem hx
            obtain ⟨vs, hvs, hv⟩ := k4 i x hi
            rw [hv.length, (hcell i vs hvs).1]
          have hfl := flatten_len hcl
          have hlec : len * s.size ≤ cap * s.size := Nat.mul_le_mul_right _ hlc
          let m : M := ⟨a.block, a.off, c.size, s.size⟩
          have hrel : ORel E ((μ ++ ν) ++ [some m]) ((os ++ zs).length + 1) (os ++ zs).length w (.cells s.size css.flatten) := by
            refine ⟨m, c, te, fr, by rw [← hlen]; simp, rfl, hb, rfl, by rw [hfl, k2]; show a.off + _ ≤ c.size; omega, ?_, fun k => by omega⟩
            intro k v hk
            obtain ⟨q, r, cc, e1, e2, e3, e4⟩ := flatten_get hcl hk
            obtain ⟨vs, f1, f2⟩ := k4 q cc e3
            obtain ⟨v', g1, g2⟩ := f2.get e4
            have hq : q < len := by have := lt_of_get e3; omega
            obtain ⟨dd, hdd⟩ : ∃ dd, l[q]? = some dd := ⟨_, List.getElem?_eq_getElem (by omega)⟩
            refine ⟨((k5 q dd cc hdd e3).cells).2 v (List.mem_of_getElem? e4), v', ?_, g2.later (later_push _ _)⟩
            show c[a.off + k]? = _
            rw [e1, ← Nat.add_assoc, (hcell q vs f1).2 r e2, g1]
          refine ⟨ν ++ [some m], zs ++ [.cells s.size css.flatten], [.slice (some ((os ++ zs).length, 0)) len none], .row l, ?_, ?_, ?_⟩
          · have := k1.view _ (some m) hrel (by rintro m' h; cases h; exact lt_heap hb)
            simpa using this
          · simp only [VRels, VRel]
            refine ⟨_, [], rfl, ⟨a, cap, rfl, ?_, fun _ => ?_, by simp, hlc, ?_⟩, rfl⟩
            · rw [← List.append_assoc, ← hlen]; simp only [List.length_append, List.length_cons]; omega
            · refine ⟨some m, by rw [← List.append_assoc, ← hlen]; simp, fun m' hm' => ?_⟩
              cases hm'
              cases a
              simp only at hspot
              subst hspot
              rfl
            · intro m' hm'
              rw [← List.append_assoc, ← hlen] at hm'
              simp at hm'; subst hm'
              show a.off + 0 + cap * s.size ≤ c.size
              omega
          · simp only [Has]
            refine ⟨by rw [k3]; omega, (os ++ zs).length, css, by rw [k3], by simp [H0], by omega, .inl ?_, fun k d c' hd hc' => ?_⟩
            · rw [← List.append_assoc]
              simp [Heap.get, H0]
            · rw [← List.append_assoc]
              exact (k5 k d c' hd hc').ext (H0_ext _ _)
    · rename_i fs hu
      split at h
      case h_2 => cases h
      rename_i ss hs
      split at h
      case isFalse => cases h
      rename_i hsz
      cases h
      obtain ⟨xs, n', _, _, hl, hxl, hfl⟩ := DataW.trod_struct hu hx
      intro μ os hr
      obtain ⟨ν, zs, acs, l, k1, k2, k3⟩ := reads_fields (cs := cs) (fun t sh hsh n vs x hx => reads_of f t sh hsh n vs x hx) hs (by omega) (fun fd hfd => by
        obtain ⟨i, hi⟩ := List.getElem?_of_mem hfd
        have := hfl i fd (by simpa using hi)
        have hlt : i < fs.size := by have := lt_of_get hi; simpa using this
        rw [List.getElem?_eq_getElem (by omega)] at this
        exact ⟨n', _, this⟩) μ os hr
      refine ⟨ν, zs, acs, .agg l, k1, ?_, ?_⟩
      · rw [List.drop_zero, List.take_of_length_le (by omega)] at k2
        exact k2
      · simp only [Has]; exact k3
    · cases h

/-! ## Arguments -/

def avalOf : Sh → List AVal → AVal
  | .struct _, cs => .agg cs
  | _, [a] => a
  | _, cs => .agg cs

def HasArgs (h : Heap) : List Sh → List Dat → List AVal → Prop
  | [], [], as => as = []
  | s :: r, d :: l, as => ∃ cs t, as = avalOf s cs :: t ∧ Has h s d cs ∧ HasArgs h r l t
  | _, _, _ => False

theorem HasArgs.ext {h h' : Heap} (e : h.Ext h') : ∀ {ss : List Sh} {l : List Dat} {as : List AVal}, HasArgs h ss l as → HasArgs h' ss l as
  | [], l, as, hh => by cases l <;> simp only [HasArgs] at hh ⊢; exact hh
  | s :: r, l, as, hh => by
    cases l <;> simp only [HasArgs] at hh ⊢
    obtain ⟨a, b, e1, h1, h2⟩ := hh
    exact ⟨a, b, e1, h1.ext e, h2.ext e⟩

theorem aval_rel {f : Nat} {t : TypeId} {sh : Sh} (hs : shOf E.P f t = some sh) {r : Reach} {base : Nat} {W : World} {v : Value} (hv : Value.okWide E.P W r base t v) {μ : MM} {acs : List AVal} (hrel : VRels E μ acs v.cells.toList) {h : Heap} {d : Dat} (hh : Has h sh d acs) :
    VRel E μ (avalOf sh acs) v := by
  have hone := hh.cells
  have one : ∀ {acs : List AVal}, sh.size = 1 → (∀ fs, sh ≠ .struct fs) → acs.length = sh.size → v.cells = #[v] → VRels E μ acs v.cells.toList → VRel E μ (avalOf sh acs) v := by
    intro acs h1 h2 h3 h4 h5
    rw [h4] at h5
    match acs, h3 with
    | [], h3 => rw [h1] at h3; simp at h3
    | [a], _ =>
      have : avalOf sh [a] = a := by
        cases sh <;> simp only [avalOf]
        exact absurd rfl (h2 _)
      rw [this]
      simp only [VRels] at h5
      obtain ⟨_, _, e, h6, _⟩ := h5
      cases e
      exact h6
    | _ :: _ :: _, h3 => rw [h1] at h3; simp at h3
  cases f with
  | zero => simp [shOf] at hs
  | succ f =>
    simp only [shOf] at hs
    unfold Value.okWide at hv
    split at hs
    · rename_i hu
      cases hs
      rw [hu] at hv
      simp only [Cell.okWide, Cell.ok, hu] at hv
      exact one rfl (by simp) hone.1 (by cases v <;> first | rfl | exact hv.elim) hrel
    · rename_i k hu
      cases hs
      rw [hu] at hv
      simp only [Cell.okWide, Cell.ok, hu] at hv
      exact one rfl (by simp) hone.1 (by cases v <;> first | rfl | exact hv.elim) hrel
    · rename_i hu
      cases hs
      rw [hu] at hv
      simp only [Cell.okWide, Cell.ok, hu] at hv
      exact one rfl (by simp) hone.1 (by cases v <;> first | rfl | exact hv.elim) hrel
    · rename_i e hu
      split at hs
      case h_2 => cases hs
      split at hs
      case isFalse => cases hs
      cases hs
      rw [hu] at hv
      simp only [Cell.okWide, Cell.ok, hu] at hv
      exact one rfl (by simp) hone.1 (by cases v <;> first | rfl | exact hv.elim) hrel
    · rename_i fs hu
      split at hs
      case h_2 => cases hs
      split at hs
      case isFalse => cases hs
      cases hs
      rw [hu] at hv
      obtain ⟨cs, rfl, _⟩ := hv
      simp only [avalOf, VRel]
      exact ⟨cs, rfl, hrel, hone.2⟩
    · cases hs

def shAll (P : Program) (f : Nat) : List TypeId → Option (List Sh)
  | [] => some []
  | t :: r => match shOf P f t, shAll P f r with
    | some s, some ss => some (s :: ss)
    | _, _ => none

theorem args_read {f : Nat} {W : World} {r : Reach} {base : Nat} : ∀ {ts : List TypeId} {vs : List Value} {ds : List (DataW H)} {ps : List MemPlace} {ss : List Sh}, DataW.TrodAll enc E.P w 0 (fun _ => true) held ts vs ds ps → shAll E.P f ts = some ss →
    (∀ (j : Nat) (t : TypeId) (v : Value), ts[j]? = some t → vs[j]? = some v → Value.okWide E.P W r base t v) → ∀ (μ : MM) (os : List AObj), Rel E μ (H0 os) w →
      ∃ ν zs as l, Rel E (μ ++ ν) (H0 (os ++ zs)) w ∧ VRels E (μ ++ ν) as vs ∧ HasArgs (H0 (os ++ zs)) ss l as
  | [], [], [], ps, ss, _, hs, _, μ, os, hr => by
    simp only [shAll] at hs; cases hs
    exact ⟨[], [], [], [], by simpa using hr, by simp [VRels], by simp [HasArgs]⟩
  | t :: ts, v :: vs, d :: ds, ps, ss, h, hs, hv, μ, os, hr => by
    simp only [shAll] at hs
    split at hs
    case h_2 => cases hs
    rename_i s ss' h1 h2
    cases hs
    obtain ⟨p, q, ⟨n, h3⟩, h4, _⟩ := h
    obtain ⟨ν, zs, acs, d', k1, k2, k3⟩ := reads_of f t s h1 n _ _ h3 μ os hr
    obtain ⟨ν', zs', as, l, k4, k5, k6⟩ := args_read h4 h2 (fun j t' v' ht hv' => hv (j + 1) t' v' (by simpa using ht) (by simpa using hv')) _ _ k1
    refine ⟨ν ++ ν', zs ++ zs', avalOf s acs :: as, d' :: l, by simpa using k4, ?_, ?_⟩
    · simp only [VRels]
      refine ⟨v, vs, rfl, ?_, by rw [← List.append_assoc]; exact k5⟩
      have := aval_rel h1 (hv 0 t v rfl rfl) k2 k3
      rw [← List.append_assoc]
      exact this.later ⟨by simp, fun i hi => .inl (List.getElem?_append_left hi)⟩
    · simp only [HasArgs]
      exact ⟨acs, as, rfl, by rw [← List.append_assoc]; exact k3.ext (H0_ext _ _), by rw [← List.append_assoc]; exact k6⟩
  | [], _ :: _, _, _, _, h, _, _, _, _, _ => by simp [DataW.TrodAll] at h
  | [], [], _ :: _, _, _, h, _, _, _, _, _ => by simp [DataW.TrodAll] at h
  | _ :: _, [], _, _, _, h, _, _, _, _, _ => by simp [DataW.TrodAll] at h
  | _ :: _, _ :: _, [], _, _, h, _, _, _, _, _ => by simp [DataW.TrodAll] at h

theorem rel_none (w : World) : Rel E [] (H0 []) w :=
  ⟨rfl, Nat.le_refl _, by simp [H0], by simp, by simp⟩

/-- A law is called: if the machine says true of all data of these shapes, so does the program; and nothing that was there is written. -/
theorem law_calls {T : Nat → Option AFunc} (hT : Agrees E T) (hm : E.P.follows .mixedOrders = true) {f : FuncId} {g : Nat} (hg : E.gid f = some g) {n : Nat} {ts : List TypeId} {ss : List Sh} (hss : shAll E.P n ts = some ss)
    (hlaw : ∀ (h : Heap) (l : List Dat) (as : List AVal), HasArgs h ss l as → h.base = h.size → h.wmin = h.size → xCall T g as h = some (.bool true, h))
    {W : World} {r : Reach} {base : Nat} {args : Array Value} {ds : List (DataW H)} {ps : List MemPlace} (ht : DataW.TrodAll enc E.P W 0 (fun _ => true) held ts args.toList ds ps)
    (hv : ∀ (j : Nat) (t : TypeId) (v : Value), ts[j]? = some t → args.toList[j]? = some v → Value.okWide E.P W r base t v) :
    Calls E.P f args W fun e W' => e = .returned (.bool true) ∧ Below W.heap.size W W' := by
  obtain ⟨ν, zs, as, l, k1, k2, k3⟩ := args_read ht hss hv [] [] (rel_none W)
  have hx := hlaw _ l as k3 rfl rfl
  refine (x_sound hT hm hx hg k2 k1).mono fun e W' ⟨v', μ', he, hst, hvr, _⟩ => ?_
  simp only [VRel] at hvr
  subst hvr
  refine ⟨he, hst.os, hst.tape, hst.output, hst.size, fun k hk => hst.block k hk (fun h => h) fun i m hi hm => ?_⟩
  have h1 := lt_of_get hm
  have h2 : ([] ++ ν : MM).length = ([] ++ zs).length := k1.len
  simp only [H0] at hi
  omega

end
end Go.Abs

/-
  The machine's runs, symbolically: what 'simp' may open, and small facts of numbers, rows and loops.
-/
namespace Go.Abs

attribute [simp] xCode_skip xCode_exit xCode_ret xCode_region xCode_seq xCode_cond xCode_block xCode_live xCode_after evSegs evOps evQuiet evOper evRun evOp ok1 Opd.ev evs sget setSlot keep Opd.adr AVal.cells? outcome resultsL result1 tupled
  xFunc enter loadAt cellsAt storeAt part aBin aUn inBounds upTo lowB bounds aSlice eszIs optEv splice unloc Heap.get Heap.put Heap.push Heap.size AVal.under AVal.unders fill isVar evLen evConv aMin2 aMins aEqNil rowOf rowIs alen aApp aAppend finish AVal.ids AVal.idsL AVal.ren AVal.renL AObj.ids AObj.ren idxIn rep
  evExt evPure evOpen openAll openOne hide allSeen noClash clash okId seenBy slotIds dstSlot rdIds heapOpds AOp.isCall AOper.reads AOp.reads Opd.reads readsL readsO readsP Slot.ids Did.writes

@[simp] theorem wrapC_false (r : List AVal → Heap → Option (AVal × Heap)) : wrapC false r = r := rfl
@[simp] theorem wrapC_true (r : List AVal → Heap → Option (AVal × Heap)) : wrapC true r = evClosed r := rfl

theorem wrap64 {x : Int} (h1 : -9223372036854775808 ≤ x) (h2 : x ≤ 9223372036854775807) : IntKind.i64.wrap x = x := by
  simp only [IntKind.wrap, IntKind.bits, IntKind.signed]
  simp
  omega

/-- The next index. -/
theorem wrap_next {i n : Nat} (h : i < n) (hn : n ≤ 9223372036854775807) : IntKind.i64.wrap ((i : Int) + 1) = ((i + 1 : Nat) : Int) := by
  rw [wrap64 (by omega) (by omega)]; omega

theorem reach_step (h : Heap) (n0 f : Nat) (i : Nat) (r acc : List Nat) : reach h n0 (f + 1) (i :: r) acc = if i < n0 then reach h n0 f r acc
    else if acc.contains i then reach h n0 f r acc
    else reach h n0 f (((h.get i).map AObj.ids).getD [] ++ r) (acc ++ [i]) := rfl
theorem reach_done (h : Heap) (n0 f : Nat) (acc : List Nat) : reach h n0 (f + 1) [] acc = acc := rfl

/-! ## Rows -/

/-- A slice's elements. -/
structure Row {α : Type} (os : List AObj) (e : Nat) (f : α → List AVal) (L : List α) (a : Option (Nat × Nat)) : Prop where
  at' : L ≠ [] → ∃ b o cs, a = some (b, o) ∧ os[b]? = some (.cells e cs) ∧ ∀ (j : Nat) (x : α), L[j]? = some x → o + j * e + e ≤ cs.length ∧ (cs.drop (o + j * e)).take e = f x

theorem ne_of_get {α : Type} {L : List α} {j : Nat} {x : α} (h : L[j]? = some x) : L ≠ [] := by
  rintro rfl; simp at h

theorem get_lt {α : Type} {L : List α} {j : Nat} {x : α} (h : L[j]? = some x) : j < L.length := lt_of_get h

theorem flat_at {α : Type} (f : α → List AVal) (n : Nat) (hf : ∀ x, (f x).length = n) : ∀ (xs : List α) (j : Nat) (x : α), xs[j]? = some x → j * n + n ≤ (xs.flatMap f).length ∧ ((xs.flatMap f).drop (j * n)).take n = f x
  | [], j, x, h => by simp at h
  | y :: ys, 0, x, h => by
    simp at h; subst h
    simp only [List.flatMap_cons, Nat.zero_mul, List.drop_zero, List.length_append, hf]
    rw [List.take_append_of_le_length (by rw [hf]; omega), List.take_of_length_le (by rw [hf]; omega)]
    exact ⟨by omega, rfl⟩
  | y :: ys, j + 1, x, h => by
    simp at h
    obtain ⟨h1, h2⟩ := flat_at f n hf ys j x h
    rw [List.flatMap_cons, List.drop_append, hf, show (j + 1) * n - n = j * n from by rw [Nat.add_mul]; omega,
      List.drop_of_length_le (by rw [hf, Nat.add_mul]; omega), List.nil_append, List.length_append, hf, Nat.add_mul]
    exact ⟨by omega, h2⟩

theorem flat_len {α : Type} (f : α → List AVal) (n : Nat) (hf : ∀ x, (f x).length = n) (xs : List α) : (xs.flatMap f).length = xs.length * n := by
  induction xs with
  | nil => simp
  | cons x xs ih => rw [List.flatMap_cons, List.length_append, hf, ih, List.length_cons, Nat.add_mul]; omega

/-- A row that is a whole object. -/
theorem Row.mk0 {α : Type} {os : List AObj} {e : Nat} {f : α → List AVal} {L : List α} {b : Nat} (hf : ∀ x, (f x).length = e) (h : os[b]? = some (.cells e (L.flatMap f))) : Row os e f L (some (b, 0)) :=
  ⟨fun _ => ⟨b, 0, _, rfl, h, fun j x hx => by simpa using flat_at f e hf L j x hx⟩⟩

theorem Row.ext {α : Type} {os : List AObj} {e : Nat} {f : α → List AVal} {L : List α} {a : Option (Nat × Nat)} (h : Row os e f L a) (zs : List AObj) : Row (os ++ zs) e f L a :=
  ⟨fun hne => by
    obtain ⟨b, o, cs, h1, h2, h3⟩ := h.at' hne
    exact ⟨b, o, cs, h1, by rw [List.getElem?_append_left (lt_of_get h2)]; exact h2, h3⟩⟩

/-- A slice that came in. -/
theorem Has.row {α : Type} {os : List AObj} {b w : Nat} {e : Sh} {f : α → List AVal} {ok : α → Prop} {d : Dat} {cs : List AVal} (hconv : ∀ d c, Has ⟨os, b, w⟩ e d c → ∃ x, c = f x ∧ ok x) (h : Has ⟨os, b, w⟩ (.slice e) d cs) :
    ∃ (a : Option (Nat × Nat)) (L : List α) (c : Option Nat), cs = [.slice a L.length c] ∧ Row os e.size f L a ∧ L.length ≤ 9223372036854775807 ∧ (∀ x ∈ L, ok x) ∧ (a = none → L = []) := by
  cases d <;> simp only [Has] at h
  · subst h
    exact ⟨none, [], some 0, rfl, ⟨fun h => absurd rfl h⟩, by simp, by simp, fun _ => rfl⟩
  · rename_i l
    obtain ⟨h0, i, css, rfl, h2, h3, h4, h5⟩ := h
    have : ∀ (css : List (List AVal)) (l : List Dat), css.length = l.length → (∀ (k : Nat) (d : Dat) (c : List AVal), l[k]? = some d → css[k]? = some c → Has ⟨os, b, w⟩ e d c) →
        ∃ L : List α, css = L.map f ∧ ∀ x ∈ L, ok x ∧ (f x).length = e.size := by
      intro css
      induction css with
      | nil => exact fun _ _ _ => ⟨[], rfl, by simp⟩
      | cons c css ih =>
        intro l hl hh
        cases l with
        | nil => simp at hl
        | cons d l =>
          have hc := hh 0 d c rfl rfl
          obtain ⟨x, hx, hok⟩ := hconv d c hc
          obtain ⟨L, e1, e2⟩ := ih l (by simpa using hl) fun k d' c' hd hc => hh (k + 1) d' c' (by simpa using hd) (by simpa using hc)
          refine ⟨x :: L, by rw [List.map_cons, ← hx, ← e1], fun y hy => ?_⟩
          rcases List.mem_cons.1 hy with rfl | hy
          · exact ⟨hok, by rw [← hx]; exact hc.cells.1⟩
          · exact e2 y hy
    obtain ⟨L, e1, e2⟩ := this css l h3 h5
    have hlen : L.length = l.length := by rw [← h3, e1, List.length_map]
    refine ⟨some (i, 0), L, none, by rw [hlen], ⟨fun hne => ?_⟩, by rw [hlen]; exact h0, fun x hx => (e2 x hx).1, by simp⟩
    rcases h4 with h4 | ⟨rfl, _⟩
    · refine ⟨i, 0, css.flatten, rfl, h4, fun j x hx => ?_⟩
      have hfl : ∀ (L : List α), (∀ x ∈ L, (f x).length = e.size) → ∀ j x, L[j]? = some x → j * e.size + e.size ≤ (L.map f).flatten.length ∧ ((L.map f).flatten.drop (j * e.size)).take e.size = f x := by
        intro L
        induction L with
        | nil => intro _ j x hx; simp at hx
        | cons y L ih =>
          intro hL j x hx
          have hy := hL y (List.mem_cons_self ..)
          cases j with
          | zero =>
            simp at hx; subst hx
            simp only [List.map_cons, List.flatten_cons, Nat.zero_mul, List.drop_zero, List.length_append, hy]
            rw [List.take_append_of_le_length (by omega), List.take_of_length_le (by omega)]
            exact ⟨by omega, rfl⟩
          | succ j =>
            simp at hx
            obtain ⟨h1, h2⟩ := ih (fun x hx => hL x (List.mem_cons_of_mem _ hx)) j x hx
            rw [List.map_cons, List.flatten_cons, List.drop_append, hy, show (j + 1) * e.size - e.size = j * e.size from by rw [Nat.add_mul]; omega,
              List.drop_of_length_le (by rw [hy, Nat.add_mul]; omega), List.nil_append, List.length_append, hy, Nat.add_mul]
            exact ⟨by omega, h2⟩
      have := hfl L (fun x hx => (e2 x hx).2) j x hx
      rw [← e1] at this
      simpa using this
    · exact absurd (List.eq_nil_of_length_eq_zero (by rw [hlen]; rfl)) hne

/-! ## What came in, taken apart -/

section
variable {h : Heap} {d : Dat} {cs : List AVal}

theorem Has.int {k : IntKind} (hh : Has h (.int k) d cs) : ∃ n, d = .int n ∧ cs = [.int k n] ∧ k.min ≤ n ∧ n ≤ k.max := by
  cases d <;> simp only [Has] at hh
  exact ⟨_, rfl, hh⟩
theorem Has.bool (hh : Has h .bool d cs) : ∃ b, d = .bool b ∧ cs = [.bool b] := by
  cases d <;> simp only [Has] at hh
  exact ⟨_, rfl, hh⟩
theorem Has.str (hh : Has h .str d cs) : ∃ s, d = .str s ∧ cs = [.str s] ∧ s.length ≤ 9223372036854775807 := by
  cases d <;> simp only [Has] at hh
  exact ⟨_, rfl, hh⟩
theorem Has.struct {fs : List Sh} (hh : Has h (.struct fs) d cs) : ∃ l, d = .agg l ∧ HasL h fs l cs := by
  cases d <;> simp only [Has] at hh
  exact ⟨_, rfl, hh⟩
theorem HasL.cons {s : Sh} {r : List Sh} {l : List Dat} (hh : HasL h (s :: r) l cs) : ∃ d l' a b, l = d :: l' ∧ cs = a ++ b ∧ Has h s d a ∧ HasL h r l' b := by
  cases l <;> simp only [HasL] at hh
  obtain ⟨a, b, h1, h2, h3⟩ := hh
  exact ⟨_, _, a, b, rfl, h1, h2, h3⟩
theorem HasL.nil {l : List Dat} (hh : HasL h [] l cs) : l = [] ∧ cs = [] := by
  cases l <;> simp only [HasL] at hh
  exact ⟨rfl, hh⟩
theorem HasArgs.cons {s : Sh} {r : List Sh} {l : List Dat} {as : List AVal} (hh : HasArgs h (s :: r) l as) : ∃ d l' c t, l = d :: l' ∧ as = avalOf s c :: t ∧ Has h s d c ∧ HasArgs h r l' t := by
  cases l <;> simp only [HasArgs] at hh
  obtain ⟨a, b, h1, h2, h3⟩ := hh
  exact ⟨_, _, a, b, rfl, h1, h2, h3⟩
theorem HasArgs.nil {l : List Dat} {as : List AVal} (hh : HasArgs h [] l as) : l = [] ∧ as = [] := by
  cases l <;> simp only [HasArgs] at hh
  exact ⟨rfl, hh⟩
end

/-! ## Loops -/

/-- A loop that goes n times through, and ends then. -/
theorem loop_run {T : Nat → Option AFunc} {c : ACode} {e : AExit} {st' : St} (st : Nat → St) (n : Nat) (hs : ∀ i, i < n → xCode T c (st i) = some (.normal, st (i + 1))) (he : e ≠ .normal) (hx : xCode T c (st n) = some (e, st')) :
    ∀ k, k ≤ n → xCode T (.loop c) (st (n - k)) = some (e, st')
  | 0, _ => by
    rw [xCode_loop, Nat.sub_zero, hx]
    cases e <;> first | rfl | exact absurd rfl he
  | k + 1, hk => by
    rw [xCode_loop, hs (n - (k + 1)) (by omega)]
    simp only
    rw [show n - (k + 1) + 1 = n - k by omega]
    exact loop_run st n hs he hx k (by omega)

theorem loop_all {T : Nat → Option AFunc} {c : ACode} {e : AExit} {st' : St} (st : Nat → St) (n : Nat) (hs : ∀ i, i < n → xCode T c (st i) = some (.normal, st (i + 1))) (he : e ≠ .normal) (hx : xCode T c (st n) = some (e, st')) :
    xCode T (.loop c) (st 0) = some (e, st') := by
  have := loop_run st n hs he hx n (Nat.le_refl _)
  rwa [Nat.sub_self] at this

theorem first_bad {α : Type} (p : α → Prop) [DecidablePred p] : ∀ L : List α, (∀ x ∈ L, p x) ∨ ∃ (j : Nat) (x : α), L[j]? = some x ∧ ¬ p x ∧ ∀ i : Nat, i < j → ∀ y, L[i]? = some y → p y
  | [] => .inl (by simp)
  | x :: L => by
    by_cases hx : p x
    · rcases first_bad p L with h | ⟨j, y, h1, h2, h3⟩
      · exact .inl fun z hz => by
          rcases List.mem_cons.1 hz with rfl | hz
          · exact hx
          · exact h z hz
      · refine .inr ⟨j + 1, y, by simpa using h1, h2, fun i hi z hz => ?_⟩
        cases i with
        | zero => simp at hz; subst hz; exact hx
        | succ i => exact h3 i (by omega) z (by simpa using hz)
    · exact .inr ⟨0, x, rfl, hx, fun i hi => absurd hi (by omega)⟩

/-- A closed call: what the evaluator gives, asked once. -/
theorem closed_run {T : Nat → Option AFunc} {g : Nat} {f : AFunc} (hT : T g = some f) (hc : f.closed = true) (n : Nat) {args : List AVal} {v : AVal} {h' : Heap} (ha : AVal.unders 0 args = true) (hv : v.under 0 = true)
    (he : evFunc (evCall T n) n f args ⟨[], 0, 0⟩ = some (v, h')) (h : Heap) (hr : f.round = none := by rfl) : xCall T g args h = some (v, h) := by
  rw [xCall_eq T hT (hr := hr), hc]
  simp only [wrapC, evClosed, if_true]
  rw [if_pos ha, (xFunc_iff T f args _ _).2 ⟨n, he⟩]
  simp [hv]

end Go.Abs
