/-
  Code and calls: what the evaluator gives, the model's call gives.
-/
import Derived.Test.YtnpjncdnlacmeaaAbsDraw2
namespace Go.Abs

def AExit.toX : AExit → Exit
  | .normal => .normal
  | .exit id => .exit id
  | .ret => .ret

section
variable {E : Env} {lo nt : Nat} {μ0 : MM} {w0 : World} {ds : List Deferred} {call : CallSem} {ro : Option Nat}

theorem At.keep {s : Slots} {h : Heap} {a : Act} {w : World} (hat : At E lo nt μ0 w0 ds s h a w) (l : List Nat) : At E lo nt μ0 w0 ds (Abs.keep l s) h a w := by
  obtain ⟨μ, ν, k1, k2, k3, k4⟩ := hat
  exact ⟨μ, ν, k1, k2, k3.less fun t x hx => sget_keep l s t x hx, k4⟩

/-- A block that is nobody's. -/
theorem Step.alloc {X : Nat → Prop} {wm : Nat} {μ : MM} {w : World} (B : Obj) : Step X wm μ w μ (w.alloc B) :=
  ⟨rfl, rfl, rfl, by simp, fun k hk _ _ => by
    show (w.heap.push B)[k]? = _
    rw [Array.getElem?_push, if_neg (by omega)], Nat.le_refl _, fun _ _ => .inl rfl, fun i m hi hm => absurd (lt_of_get hm) (by omega)⟩

theorem caps_rel {ν : Fr} {μ : MM} {s : Slots} {tmps : Array Value} {w : World} (hf : FRel E lo ν μ (sget s) tmps w) : ∀ {caps : List Nat} {sl : List (Nat × AVal)}, capsOf s caps = some sl → ∀ (k : Nat) (x : Nat × AVal), sl[k]? = some x → ∃ v', tmps[x.1]? = some v' ∧ VRel E μ x.2 v'
  | [], sl, h, k, x, hk => by simp only [capsOf] at h; cases h; simp at hk
  | t :: caps, sl, h, k, x, hk => by
    simp only [capsOf] at h
    split at h
    case h_2 => cases h
    rename_i v l hs hl
    cases h
    cases k with
    | zero => simp at hk; subst hk; exact hf.val t v hs
    | succ k => exact caps_rel hf hl k x (by simpa using hk)

/-- A loop over a function. -/
theorem rangeFunc_sound (hc : CallOK E call) (hg : GidOK E) {f : Operand} {ps : Array Tmp} {ax bx : Code} {f' : Opd} {g : Nat} {caps : List Nat} {aa ab : ACode} {ha hb : Hint} (hf : cOpd E f = some f') (hca : cCode E nt true ha ax = some aa) (hcb : cCode E nt true hb bx = some ab) (hps : (ps.all fun t => decide (t < nt)) = true)
    (hrnd : E.rnd g = some ⟨ps.toList, aa, ab⟩) {s : Slots} {h : Heap} {a : Act} {w : World} (hat : At E lo nt μ0 w0 ds s h a w) {fv : AVal} {sl : List (Nat × AVal)} (hfv : f'.ev s = some fv) (hsl : capsOf s caps = some sl) {x : AVal} {h' : Heap}
    (hcall : callVal call fv [.yield h.size] (h.push (.loop g .ready none sl)) = some (x, h')) {e : AExit} {st' : St} (hend : loopEnd s h' h.size = some (e, st')) (hev : Evol (h.push (.loop g .ready none sl)) h') {Q : Exit → Act → World → Prop}
    (hn : ∀ a' w', At E lo nt μ0 w0 ds st'.s st'.h a' w' → Q e.toX a' w') : (Code.rangeFunc f ps ax bx).wpIn (F0 none) 0 E.P Q a w := by
  obtain ⟨μ, ν, k1, k2, k3, k4, k5, k6⟩ := hat
  unfold callVal at hcall
  split at hcall
  case h_2 => cases hcall
  rename_i gf first cp
  have hfr := opd_rel k3 hf hfv
  simp only [VRel] at hfr
  obtain ⟨fid, f1, c1, e1, e2, e3, e4⟩ := hfr
  have hlen : h.size = μ.length := k2.len.symm
  refine wpIn_rangeFunc fun fn _ => ?_
  let rec0 : Loop := { state := .ready, pending := none, fn := fn, tmps := a.tmps, params := ps, assign := ax, body := bx, defers := w.heap.size }
  let w1 : World := w.alloc (.deferred (some []))
  let w2 : World := w1.alloc (.loop rec0)
  let m : M := ⟨w.heap.size + 1, 0, 0, 0⟩
  let μ1 : MM := μ ++ [some m]
  have hw1 : w1.heap.size = w.heap.size + 1 := by simp [w1]
  have hw2 : w2.heap.size = w.heap.size + 2 := by simp [w2, w1]
  have hargs : VRels E μ1 (first ++ [.yield h.size] ++ cp) (f1 ++ #[Value.func (.yield (w.heap.size + 1)) #[] #[]] ++ c1).toList := by
    have hy : VRel E μ1 (.yield h.size) (.func (.yield (w.heap.size + 1)) #[] #[]) := by
      simp only [VRel]
      exact ⟨w.heap.size + 1, some m, rfl, by rw [hlen]; simp [μ1], fun m' hm' => by cases hm'; rfl⟩
    have := ((e3.later (later_push μ (some m))).append (show VRels E μ1 [.yield h.size] [_] from by simp only [VRels]; exact ⟨_, [], rfl, hy, rfl⟩)).append (e4.later (later_push μ (some m)))
    simpa using this
  have hl1 : Later μ μ1 := later_push μ _
  have hr1 : Rel E μ h w1 := k2.keep (by omega) fun i m' hm' => by
    have := k2.lt i m' hm'
    show (w.heap.push _)[m'.blk]? = _
    rw [Array.getElem?_push, if_neg (by omega)]
  have hr2 : Rel E μ1 (h.push (.loop g .ready none sl)) w2 := by
    refine hr1.push _ (.loop rec0) m (by simp [m, hw1]) ⟨m, rec0, by simp, by show (w1.heap.push _)[w.heap.size + 1]? = _; rw [Array.getElem?_push, if_pos (by omega)], ⟨⟨⟨ps.toList, aa, ab⟩, ha, hb, hrnd, rfl, fun t ht => ?_, by rw [show rec0.tmps.size = nt from k4]; exact hca, by rw [show rec0.tmps.size = nt from k4]; exact hcb⟩, rfl, rfl, fun k x hk => ?_⟩⟩
    · rw [Array.all_eq_true_iff_forall_mem] at hps
      have := hps t (by simpa using ht)
      rw [show rec0.tmps.size = nt from k4]
      simpa using this
    · obtain ⟨v', h1, h2⟩ := caps_rel k3 hsl k x hk
      exact ⟨v', h1, h2.later hl1⟩
  -- the frame has one block more
  let ν1 : Fr := ⟨ν.v, w.heap.size :: ν.ds⟩
  have hblk12 : ∀ b, b < w.heap.size → w2.heap[b]? = w.heap[b]? := fun b hb => by
    show ((w.heap.push _).push _)[b]? = _
    rw [Array.getElem?_push, if_neg (by simp; omega), Array.getElem?_push, if_neg (by omega)]
  have hnewm : ∀ (i : Nat) (m' : M), μ1[i]? = some (some m') → m'.blk < w.heap.size ∨ m'.blk = w.heap.size + 1 := fun i m' hm' => by
    rcases get_push hm' with q | ⟨_, q⟩
    · exact .inl (k2.lt i m' q)
    · cases q; exact .inr rfl
  have hold : ∀ (i : Nat) (m' : M), μ1[i]? = some (some m') → m'.blk < w.heap.size → μ[i]? = some (some m') := fun i m' hm' hlt => by
    rcases get_push hm' with q | ⟨_, q⟩
    · exact q
    · cases q
      have hlt' : w.heap.size + 1 < w.heap.size := hlt
      omega
  have hf2 : FRel E lo ν1 μ1 (sget s) a.tmps w2 := by
    refine ⟨fun t v hv => ?_, k3.undef, fun t cs hv => ?_, k3.loc, k3.sepv, fun t cs i m' hv hm' => ?_, fun r hr => ?_, fun r hr => ⟨fun i m' hm' => ?_, fun t cs hv => ?_⟩, ?_⟩
    · obtain ⟨v', h1, h2⟩ := k3.val t v hv
      exact ⟨v', h1, h2.later hl1⟩
    · obtain ⟨h1, h2, c, e, fr, h3, h4, h5, h6⟩ := k3.var t cs hv
      exact ⟨h1, h2, c, e, fr, (hblk12 _ (k3.lt hv)).trans h3, h4, h5.later hl1, h6⟩
    · have := k3.lt hv
      rcases hnewm i m' hm' with q | q
      · exact k3.sepm t cs i m' hv (hold i m' hm' q)
      · intro e
        have e' : m'.blk = ν t := e
        omega
    · rcases List.mem_cons.1 hr with rfl | hr
      · refine ⟨k6, ?_⟩
        show ((w.heap.push _).push _)[w.heap.size]? = _
        rw [Array.getElem?_push, if_neg (by simp), Array.getElem?_push, if_pos rfl]
      · obtain ⟨h1, h2⟩ := k3.ds r hr
        exact ⟨h1, (hblk12 r (k3.lt_ds hr)).trans h2⟩
    · rcases List.mem_cons.1 hr with rfl | hr
      · rcases hnewm i m' hm' with q | q <;> omega
      · have := k3.lt_ds hr
        rcases hnewm i m' hm' with q | q
        · exact (k3.sepd r hr).1 i m' (hold i m' hm' q)
        · omega
    · rcases List.mem_cons.1 hr with rfl | hr
      · have := k3.lt hv
        intro e
        have e' : ν t = w.heap.size := e
        omega
      · exact (k3.sepd r hr).2 t cs hv
    · exact List.nodup_cons.2 ⟨fun h => by have := k3.lt_ds h; omega, k3.nodup⟩
  have hs2 : Step (fun k => lo ≤ k) h.wmin μ0 w0 μ1 w2 := (k1.trans (Step.alloc _) (Nat.le_refl _)).trans (Step.push (X := fun k => lo ≤ k) h.wmin μ w1 (.loop rec0) m (by simp [m, hw1])) (Nat.le_refl _)
  refine ⟨w.heap.size + 1, [markOf w.heap.size], w2, { target := .fn (.func fid) c1, args := f1 ++ #[Value.func (.yield (w.heap.size + 1)) #[] #[]] }, w2, fid, f1 ++ #[Value.func (.yield (w.heap.size + 1)) #[] #[]] ++ c1, w2, run_enterLoop_outer fn a.tmps ps ax bx, ?_, fun _ _ => trivial, ?_, fun hh => by simp [F0, Fence.wide] at hh, ?_⟩
  · simp only [resolve, rangeCall]
    rw [e1]
    simp [Deferred.ofValue, Act.eval]
  · have := callFunc_enter hg e2 (f1 ++ #[Value.func (.yield (w.heap.size + 1)) #[] #[]] ++ c1) w2
    simpa [invoke] using this
  · refine CallsIn.mono (F := F0 none) (n := 0) (hc.fn gf _ _ x h' hcall fid e2 μ1 w2 _ hargs hr2) ?_
    rintro ending w3 ⟨v', μ3, rfl, j1, j2, j3⟩
    -- the loop has ended
    unfold loopEnd at hend
    split at hend
    case h_2 => cases hend
    rename_i g2 st p sl2 hgi
    split at hend
    · cases hend
    rename_i hbusy
    cases hend
    obtain ⟨m3, r3, q1, q2, q3⟩ := j3.obj _ _ hgi
    have hi1 : h.size < μ1.length := by rw [hlen]; simp [μ1]
    have hm3 : m3 = m := by
      rcases j1.old h.size hi1 with q | ⟨_, q⟩
      · rw [q] at q1
        have : μ1[h.size]? = some (some m) := by rw [hlen]; simp [μ1]
        rw [this] at q1
        cases q1; rfl
      · rw [q] at q1; cases q1
    subst hm3
    have hst3 : r3.state ≠ .busy := by
      have := q3.st
      cases st <;> simp only [LoopSt.is] at this <;> rw [this]
      · simp
      · exact absurd rfl hbusy
      · simp
    let w4 : World := w3.putObj (w.heap.size + 1) (.loop { r3 with state := .exhausted })
    have hf3 : FRel E lo ν1 μ3 (sget s) a.tmps w3 := hf2.step j1 fun _ _ h => h
    have hwle : h'.wmin ≤ h.wmin := hev.wmin
    have hat4 : At E lo nt μ0 w0 ds s (h'.put h.size .dead) { a with defers := [markOf w.heap.size] ++ a.defers } w4 := by
      have hput : w4 = withBlock w3 m.blk (.loop { r3 with state := .exhausted }) := rfl
      refine ⟨μ3.set h.size none, ν1, ?_, ?_, ?_, k4, ?_, ?_⟩
      · have hA := hs2.trans (j1.weaken (Y := fun k => lo ≤ k) (Nat.le_refl _) fun b h _ => h.elim) hwle
        have hB : Step (fun k => lo ≤ k) (h'.put h.size .dead).wmin μ3 w3 μ3 w4 := by rw [hput]; exact Step.put q1 (Nat.min_le_right _ _) _
        have hC : Step (fun k => lo ≤ k) (h'.put h.size .dead).wmin μ3 w4 (μ3.set h.size none) w4 := Step.kill μ3 w4 (Nat.min_le_right _ _)
        exact (hA.trans hB (Nat.min_le_left _ _)).trans hC (Nat.le_refl _)
      · have hkill := j3.kill h.size
        refine hkill.keep (by simp [w4]) fun j m' hm' => ?_
        rw [hput]
        refine withBlock_other ?_
        rw [get_set] at hm'
        split at hm'
        · split at hm' <;> cases hm'
        · rename_i hne
          refine j3.sep h.size j m m' hne ?_ q1 hm'
          have h1 := j3.bs
          rw [hev.base]
          have := k2.bs
          show h.base ≤ h.objs.length
          exact this
      · refine hf3.keep (later_set μ3 h.size) (fun t cs hv => by rw [hput]; exact withBlock_other (hf3.sepm t cs h.size m hv q1)) (fun t cs j m' hv hj hm' => absurd (lt_of_get hm') (by simp; omega)) fun r hr => ⟨by rw [hput]; exact withBlock_other ((hf3.sepd r hr).1 h.size m q1), fun j m' hj hm' => absurd (lt_of_get hm') (by simp; omega)⟩
      · show [markOf w.heap.size] ++ a.defers = _
        rw [k5]; rfl
      · have := j1.size
        simp only [w4, World.putObj_size]; omega
    refine ⟨r3.pending, w4, run_endLoop q2 hst3, ?_⟩
    rw [q3.pend]
    cases p with
    | none => exact hn _ _ hat4
    | some e0 =>
      cases e0 with
      | normal => exact wpIn_skip (hn _ _ hat4)
      | exit id => exact wpIn_exit (hn _ _ hat4)
      | ret => exact wpIn_ret (hn _ _ hat4)

theorem code_sound (hc : CallOK E call) (hev0 : CallEvol call) (hg : GidOK E) (hm : E.P.follows .mixedOrders = true) (inR : Bool) (hro : inR = false → ro = none) (n : Nat) :
    ∀ (hint : Hint) (c : Code) (ac : ACode), cCode E nt inR hint c = some ac → (inR = false → ∀ p ∈ ac.rounds, E.rnd p.1 = some p.2) → ∀ (st : St) (e : AExit) (st' : St), evCode call n ac st = some (e, st') → ∀ (a : Act) (w : World) (Q : Exit → Act → World → Prop), At E lo nt μ0 w0 ds st.s st.h a w →
      (∀ a' w', At E lo nt μ0 w0 ds st'.s st'.h a' w' → Q e.toX a' w') → c.wpIn (F0 ro) 0 E.P Q a w := by
  intro hint
  induction hint with
  | stuck =>
    intro c ac hcc hrd st e st' hev a w Q hat hn
    simp only [cCode] at hcc
    cases hcc
    simp [evCode, Opd.ev] at hev
  | leaf =>
    intro c ac hcc hrd st e st' hev a w Q hat hn
    cases c <;> simp only [cCode] at hcc <;> (try cases hcc)
    · simp only [evCode] at hev; cases hev
      exact wpIn_skip (hn _ _ hat)
    · simp only [evCode] at hev; cases hev
      exact wpIn_exit (hn _ _ hat)
    · simp only [evCode] at hev; cases hev
      exact wpIn_ret (hn _ _ hat)
  | reg segs locs =>
    intro c ac hcc hrd st e st' hev a w Q hat hn
    cases c <;> simp only [cCode] at hcc <;> (try cases hcc)
    rw [Option.map_eq_some_iff] at hcc
    obtain ⟨gs, hgs, rfl⟩ := hcc
    simp only [evCode] at hev
    rw [Option.map_eq_some_iff] at hev
    obtain ⟨⟨s1, h1⟩, hev, he⟩ := hev
    cases he
    exact region_sound hc hev0 hg hm hgs hev hat hn
  | seq x y ihx ihy =>
    intro c ac hcc hrd st e st' hev a w Q hat hn
    cases c <;> simp only [cCode] at hcc <;> (try cases hcc)
    split at hcc
    case h_2 => cases hcc
    rename_i ax ay hx hy
    cases hcc
    simp only [evCode] at hev
    apply wpIn_seq
    split at hev
    · rename_i st1 h1
      exact ihx _ _ hx (fun hi p hp => hrd hi p (by simp [ACode.rounds, hp])) _ _ _ h1 a w _ hat fun a' w' hat' => ihy _ _ hy (fun hi p hp => hrd hi p (by simp [ACode.rounds, hp])) _ _ _ hev a' w' Q hat' hn
    · rename_i hne
      refine ihx _ _ hx (fun hi p hp => hrd hi p (by simp [ACode.rounds, hp])) _ _ _ hev a w _ hat fun a' w' hat' => ?_
      cases e with
      | normal => exact absurd hev (hne _)
      | exit id => exact hn _ _ hat'
      | ret => exact hn _ _ hat'
  | cond x y ihx ihy =>
    intro c ac hcc hrd st e st' hev a w Q hat hn
    cases c <;> simp only [cCode] at hcc <;> (try cases hcc)
    split at hcc
    case h_2 => cases hcc
    rename_i c' ax ay hcop hx hy
    cases hcc
    simp only [evCode] at hev
    have hat0 := hat
    obtain ⟨μ, ν, _, _, k3, _⟩ := hat
    split at hev
    · rename_i hb
      have := opd_rel k3 hcop hb
      simp only [VRel] at this
      exact wpIn_cond_true this (ihx _ _ hx (fun hi p hp => hrd hi p (by simp [ACode.rounds, hp])) _ _ _ hev a w Q hat0 hn)
    · rename_i hb
      have := opd_rel k3 hcop hb
      simp only [VRel] at this
      exact wpIn_cond_false this (ihy _ _ hy (fun hi p hp => hrd hi p (by simp [ACode.rounds, hp])) _ _ _ hev a w Q hat0 hn)
    · cases hev
  | block x ih =>
    intro c ac hcc hrd st e st' hev a w Q hat hn
    cases c <;> simp only [cCode] at hcc <;> (try cases hcc)
    rw [Option.map_eq_some_iff] at hcc
    obtain ⟨ax, hx, rfl⟩ := hcc
    simp only [evCode] at hev
    apply wpIn_block
    split at hev
    · rename_i j st1 h1
      refine ih _ _ hx hrd _ _ _ h1 a w _ hat fun a' w' hat' => ?_
      simp only [AExit.toX, Exit.inBlock]
      split at hev
      · rename_i hj
        cases hev
        rw [if_pos hj]
        exact hn _ _ hat'
      · rename_i hj
        cases hev
        rw [if_neg hj]
        exact hn _ _ hat'
    · rename_i hne
      refine ih _ _ hx hrd _ _ _ hev a w _ hat fun a' w' hat' => ?_
      cases e with
      | normal => exact hn _ _ hat'
      | exit id => exact absurd hev (hne _ _)
      | ret => exact hn _ _ hat'
  | loop x ih =>
    intro c ac hcc hrd st e st' hev a w Q hat hn
    cases c <;> simp only [cCode] at hcc <;> (try cases hcc)
    rename_i y
    rw [Option.map_eq_some_iff] at hcc
    obtain ⟨ax, hx, rfl⟩ := hcc
    simp only [evCode] at hev
    have key : ∀ (m : Nat) (st : St) (a : Act) (w : World), loopN (evCode call n ax) m st = some (e, st') → At E lo nt μ0 w0 ds st.s st.h a w → Code.roundsIn (F0 ro) 0 E.P y Q m a w := by
      intro m
      induction m with
      | zero => intro st a w h1; simp [loopN] at h1
      | succ m ihm =>
        intro st a w h1 hat1
        rw [roundsIn_succ]
        simp only [loopN] at h1
        split at h1
        · rename_i st1 h2
          exact ih _ _ hx hrd _ _ _ h2 a w _ hat1 fun a' w' hat' => ihm st1 a' w' h1 hat'
        · rename_i hne
          refine ih _ _ hx hrd _ _ _ h1 a w _ hat1 fun a' w' hat' => ?_
          cases e with
          | normal => exact absurd h1 (hne _)
          | exit id => exact hn _ _ hat'
          | ret => exact hn _ _ hat'
    exact wpIn_loop_rounds n (key n st a w hev hat)
  | live l x ih =>
    intro c ac hcc hrd st e st' hev a w Q hat hn
    simp only [cCode] at hcc
    rw [Option.map_eq_some_iff] at hcc
    obtain ⟨ax, hx, rfl⟩ := hcc
    simp only [evCode] at hev
    exact ih _ _ hx hrd _ _ _ hev a w Q (hat.keep l) hn
  | after x l ih =>
    intro c ac hcc hrd st e st' hev a w Q hat hn
    simp only [cCode] at hcc
    rw [Option.map_eq_some_iff] at hcc
    obtain ⟨ax, hx, rfl⟩ := hcc
    simp only [evCode] at hev
    split at hev
    · rename_i st1 h1
      cases hev
      exact ih _ _ hx hrd _ _ _ h1 a w Q hat fun a' w' hat' => hn _ _ (hat'.keep l)
    · exact ih _ _ hx hrd _ _ _ hev a w Q hat hn
  | rangeFunc g caps ha hb _ _ =>
    intro c ac hcc hrd st e st' hev a w Q hat hn
    cases c <;> simp only [cCode] at hcc <;> (try cases hcc)
    split at hcc
    case h_2 => cases hcc
    rename_i f' aa ab hf hca hcb
    split at hcc
    case isFalse => cases hcc
    rename_i hh
    obtain ⟨hin, hps⟩ := hh
    cases hcc
    have hro' := hro hin
    subst hro'
    have hrnd := hrd hin _ (List.mem_singleton_self _)
    simp only [evCode] at hev
    split at hev
    case h_2 => cases hev
    rename_i fv sl hfv hsl
    split at hev
    case h_2 => cases hev
    rename_i x h' hcall
    have hevl : Evol (st.h.push (.loop g .ready none sl)) h' := by
      unfold callVal at hcall
      split at hcall
      · exact hev0 _ _ _ _ _ hcall
      · cases hcall
    exact rangeFunc_sound hc hg hf hca hcb hps hrnd hat hfv hsl hcall hev hevl hn

/-! ## Results -/

def resOne (tmps : Array Value) : ResultVar → Sem Value
  | .tmp t => pure (tmps.getD t Go.undef)
  | .cell x t => do loadVar t (← asAddr (tmps.getD x Go.undef))

theorem res_rel {ν : Fr} {μ : MM} {s : Slots} {h : Heap} {a : Act} {w : World} (hf : FRel E lo ν μ (sget s) a.tmps w) (hr : Rel E μ h w) : ∀ {rs : List ResultVar} {as : List ARes} {vs : List AVal}, cRess E.P rs = some as → resultsL s h as = some vs →
    ∃ l, (rs.mapM (resOne a.tmps)).run E.P w = .ok l w ∧ VRels E μ vs l
  | [], as, vs, hc, he => by
    simp only [cRess] at hc; cases hc
    simp only [resultsL] at he; cases he
    exact ⟨[], rfl, by simp [VRels]⟩
  | r :: rs, as, vs, hc, he => by
    simp only [cRess] at hc
    split at hc
    case h_2 => cases hc
    rename_i a' as' h1 h2
    cases hc
    simp only [resultsL] at he
    split at he
    case h_2 => cases he
    rename_i v vs' h3 h4
    cases he
    obtain ⟨l, k1, k2⟩ := res_rel hf hr h2 h4
    have hone : ∃ u, (resOne a.tmps r).run E.P w = .ok u w ∧ VRel E μ v u := by
      cases r with
      | tmp t =>
        simp only [cRes] at h1; cases h1
        simp only [result1] at h3
        split at h3
        · rename_i v' hs
          cases h3
          obtain ⟨u, hu, hrel⟩ := hf.val t _ hs
          refine ⟨u, ?_, hrel⟩
          simp [resOne, hu]
        · cases h3
      | cell x t =>
        simp only [cRes] at h1
        rw [Option.map_eq_some_iff] at h1
        obtain ⟨n, hn, rfl⟩ := h1
        simp only [result1] at h3
        split at h3
        case h_2 => cases h3
        rename_i ad had
        unfold loadAt at h3
        split at h3
        case h_2 => cases h3
        rename_i cs o hcs
        have hco : cOpd E (.tmp x) = some (.tmp x) := rfl
        obtain ⟨b, p, c, e, fr, j1, j2, j3, j4⟩ := cellsAt_rel hf hr hco had hcs
        obtain ⟨u, j5, j6⟩ := load_rel (P := E.P) hn j2 j3 j4 h3
        refine ⟨u, ?_, j6⟩
        have j1' : a.tmps.getD x Go.undef = .pointer (some ⟨b, p + o, none⟩) := j1
        simp only [resOne, j1', asAddr, Sem.run_bind, Sem.run_pure, Result.andThen_ok, j5]
    obtain ⟨u, k3, k4⟩ := hone
    refine ⟨u :: l, ?_, ?_⟩
    · rw [List.mapM_cons, Sem.run_bind, k3, Result.andThen_ok, Sem.run_bind, k1, Result.andThen_ok]
      rfl
    · simp only [VRels]; exact ⟨u, l, rfl, k4, k2⟩

theorem results_rel {ν : Fr} {μ : MM} {s : Slots} {h : Heap} {a : Act} {w : World} (hf : FRel E lo ν μ (sget s) a.tmps w) (hr : Rel E μ h w) {fn : Func} {as : List ARes} {vs : List AVal} (hc : cRess E.P fn.results.toList = some as) (he : resultsL s h as = some vs) :
    ∃ v, (results fn a.tmps).run E.P w = .ok v w ∧ VRel E μ (tupled vs) v := by
  obtain ⟨l, k1, k2⟩ := res_rel hf hr hc he
  have hl := k2.length
  have hrun : (results fn a.tmps).run E.P w = .ok (if h : l.toArray.size = 1 then l.toArray[0] else .tuple l.toArray) w := by
    have e : results fn a.tmps = (do
        let vs ← fn.results.mapM (resOne a.tmps)
        pure (if h : vs.size = 1 then vs[0] else .tuple vs)) := by
      unfold results
      rfl
    rw [e, Array.mapM_eq_mapM_toList, Sem.run_bind, Sem.run_map, k1]
    rfl
  refine ⟨_, hrun, ?_⟩
  clear he k1 hrun
  match vs, l, hl, k2 with
  | [], [], _, _ => simp [tupled, VRel, VRels]
  | [v], [u], _, k2 =>
    simp only [VRels] at k2
    obtain ⟨u', r', e, h1, h2⟩ := k2
    cases e
    simpa [tupled] using h1
  | v :: v2 :: vs, u :: u2 :: l, _, k2 =>
    have : ¬ ((u :: u2 :: l).toArray.size = 1) := by simp
    rw [dif_neg this]
    simp only [tupled, VRel]
    exact ⟨_, rfl, k2⟩

end

/-! ## What a call leaves behind -/

section
theorem reach_spec (h : Heap) (n0 : Nat) : ∀ (f : Nat) (todo acc : List Nat), acc.Nodup → (∀ i ∈ acc, n0 ≤ i) → (reach h n0 f todo acc).Nodup ∧ ∀ i ∈ reach h n0 f todo acc, n0 ≤ i
  | 0, todo, acc, h1, h2 => by simp only [reach]; exact ⟨h1, h2⟩
  | f + 1, [], acc, h1, h2 => by simp only [reach]; exact ⟨h1, h2⟩
  | f + 1, i :: r, acc, h1, h2 => by
    simp only [reach]
    split
    · exact reach_spec h n0 f r acc h1 h2
    · split
      · exact reach_spec h n0 f r acc h1 h2
      · rename_i hi hc
        refine reach_spec h n0 f _ _ ?_ fun j hj => ?_
        · rw [List.nodup_append]
          refine ⟨h1, by simp, fun a ha b hb => ?_⟩
          simp at hb; subst hb
          intro e; subst e
          simp at hc; exact hc ha
        · rcases List.mem_append.1 hj with hj | hj
          · exact h2 j hj
          · simp at hj; omega

theorem idxIn_get : ∀ {i : Nat} {l : List Nat}, i ∈ l → l[idxIn i l]? = some i
  | i, [], h => by cases h
  | i, j :: r, h => by
    simp only [idxIn]
    split
    · rename_i e; subst e; rfl
    · rename_i hne
      have : i ∈ r := by
        rcases List.mem_cons.1 h with e | e
        · exact absurd e.symm hne
        · exact e
      simpa using idxIn_get this

end
end Go.Abs
