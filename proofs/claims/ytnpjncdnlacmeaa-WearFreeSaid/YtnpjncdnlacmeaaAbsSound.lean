/-
  From operations to statements to functions: what the evaluator gives, the model's call gives.
-/
import Derived.Test.YtnpjncdnlacmeaaAbsOps5
import Derived.Test.YtnpjncdnlacmeaaAbsEvol
import Derived.OrdersIn
import Derived.LoopNIn
import Derived.RangeFuncRecord
namespace Go.Abs

/-- Frames of functions, and of a loop's rounds. -/
def F0 (ro : Option Nat) : Fence := { Fence.wide with round := ro }

theorem room0 (ro : Option Nat) (n : Nat) : (F0 ro).room n := fun _ h => by simp [F0, Fence.wide] at h

/-- A call's end: as the evaluator says. -/
def Ends (E : Env) (μ : MM) (w : World) (v : AVal) (h' : Heap) (e : Ending) (w' : World) : Prop :=
  ∃ v' μ', e = .returned v' ∧ Step (fun _ => False) h'.wmin μ w μ' w' ∧ VRel E μ' v v' ∧ Rel E μ' h' w'

/-- What is known of a callee: as the evaluator says. -/
structure CallOK (E : Env) (call : CallSem) : Prop where
  fn : ∀ (g : Nat) (args : List AVal) (h : Heap) (v : AVal) (h' : Heap), call g args h = some (v, h') → ∀ (f : FuncId), E.gid f = some g → ∀ (μ : MM) (w : World) (args' : Array Value), VRels E μ args args'.toList → Rel E μ h w →
    CallsIn (F0 none) 0 E.P f args' w (Ends E μ w v h')
  round : ∀ (g i k : Nat) (args : List AVal) (h : Heap) (v : AVal) (h' : Heap) (st : LoopSt) (p : Option AExit) (sl : List (Nat × AVal)), call g (.ptr (some (i, k)) :: args) h = some (v, h') → h.get i = some (.loop g st p sl) →
    ∀ (μ : MM) (w : World) (args' : Array Value), VRels E μ args args'.toList → Rel E μ h w →
    ∃ (m : M) (r : Loop), μ[i]? = some (some m) ∧ w.heap[m.blk]? = some (.loop r) ∧ args'.size = r.params.size ∧
      RoundIn (F0 none) 0 E.P m.blk r.fn ((r.params.zip args').foldl (fun tmps (t, a) => tmps.setIfInBounds t a) r.tmps) r.assign r.body w (Ends E μ w v h')

/-- Functions that are named have a body. -/
def GidOK (E : Env) : Prop := ∀ f g, E.gid f = some g → ∃ fn, E.P.funcs[f]? = some fn ∧ fn.name ≠ "runtime.NumGoroutine" ∧ fn.body.isSome = true

/-- The mark that a loop over a function leaves among the deferred calls. -/
def markOf (r : Nat) : Deferred := { target := .collected r, args := #[] }

/-- A state of the evaluator and one of the model, since the frame began. -/
def At (E : Env) (lo nt : Nat) (μ0 : MM) (w0 : World) (ds : List Deferred) (s : Slots) (h : Heap) (a : Act) (w : World) : Prop :=
  ∃ μ ν, Step (fun k => lo ≤ k) h.wmin μ0 w0 μ w ∧ Rel E μ h w ∧ FRel E lo ν μ (sget s) a.tmps w ∧ a.tmps.size = nt ∧ a.defers = ν.ds.map markOf ++ ds ∧ lo ≤ w.heap.size

section
variable {E : Env} {lo nt : Nat} {μ0 : MM} {w0 : World} {ds : List Deferred} {s : Slots} {h : Heap} {a : Act} {w : World} {call : CallSem} {ro : Option Nat}

theorem put_size (a : Act) (dst : Option Tmp) (v : Value) : (a.put dst v).tmps.size = a.tmps.size := by cases dst <;> simp [Act.put]
theorem put_defers (a : Act) (dst : Option Tmp) (v : Value) : (a.put dst v).defers = a.defers := by cases dst <;> rfl

theorem At.undef (hat : At E lo nt μ0 w0 ds s h a w) {dst : Option Nat} (hd : ∀ t, dst = some t → t < nt) : At E lo nt μ0 w0 ds (setSlot dst .undef s) h (a.put dst Go.undef) w := by
  obtain ⟨μ, ν, k1, k2, k3, k4, k5, k6⟩ := hat
  refine ⟨μ, ν, k1, k2, ?_, by rw [put_size]; exact k4, by rw [put_defers]; exact k5, k6⟩
  rw [put_tmps]
  exact (k3.setUndef (fun x hx => by rw [k4]; exact hd x hx)).congr fun t => sget_setSlot _ _ _ _

theorem callFunc_enter (hg : GidOK E) {f g : Nat} (hf : E.gid f = some g) (args : Array Value) (w : World) : (callFunc f args).run E.P w = .ok (.enter f args) w := by
  obtain ⟨fn, h1, h2, h3⟩ := hg f g hf
  obtain ⟨c, hb⟩ := Option.isSome_iff_exists.1 h3
  simp [callFunc, h1, h2, hb]

/-- An operation that is carried out. -/
theorem run_sound (hc : CallOK E call) (hev0 : CallEvol call) (hg : GidOK E) {ops : Array Oper} {loc : Bool} {o : Oper} {o' : AOper} {s' : Slots} {h' : Heap} (hop : cOper E nt ops loc o = some o') (hev : evRun call o' s h = some (s', h'))
    (hat : At E lo nt μ0 w0 ds s h a w) {next : Act → World → Prop} {Q : Exit → Act → World → Prop} (hn : ∀ a' w', At E lo nt μ0 w0 ds s' h' a' w' → next a' w') : o.wpIn (F0 ro) 0 E.P a w next Q := by
  unfold cOper at hop
  split at hop
  case isFalse => cases hop
  rename_i hh
  simp only [Bool.and_eq_true, Bool.or_eq_true, Bool.not_eq_true'] at hh
  obtain ⟨hh1, hh2⟩ := hh
  have hd : ∀ t, o.dst = some t → t < nt := fun t ht => by rw [ht] at hh1; simpa using hh1
  have hloc : loc = true → o.dst.isSome = true := fun hl => hh2.resolve_left (by rw [hl]; simp)
  have ho1 : o'.dst = o.dst ∧ o'.op = cOpS E loc o.op := by
    split at hop
    · cases hop; exact ⟨rfl, rfl⟩
    · split at hop
      · cases hop; exact ⟨rfl, rfl⟩
      · cases hop
  have ho2 : ∃ ao, cOp E loc o.op = some ao ∧ o'.op = ao := by
    cases hco : cOp E loc o.op with
    | some ao => exact ⟨ao, rfl, by rw [ho1.2, cOpS, hco]⟩
    | none =>
      exfalso
      unfold evRun at hev
      rw [ho1.2, cOpS, hco] at hev
      simp [evOp] at hev
  obtain ⟨ao, hao, e2⟩ := ho2
  have e1 := ho1.1
  unfold evRun at hev
  rw [e1, e2] at hev
  split at hev
  case h_2 => cases hev
  rename_i x s1 h1 hop1
  cases hev
  have hat0 := hat
  obtain ⟨μ, ν, k1, k2, k3, k4, k5, k6⟩ := hat
  have hevol := op_evol hev0 hop1
  have hnd : ∀ c, o.op ≠ .defer c := fun c hc' => by rw [hc'] at hao; simp [cOp] at hao
  refine ⟨fun _ _ => trivial, ?_⟩
  rw [Oper.semAt_eq _ _ _ hnd]
  -- a call
  have ends : ∀ (v : AVal) (e : Ending) (w' : World), Ends E μ w v h' e w' → x = .val v → s1 = s → (match e with | .returned v => next (a.put o.dst v) w' | .panicked chain => Q (.panic chain) a w' | .outgrown => LetsOut Q) := by
    rintro v e w' ⟨v', μ', rfl, j1, j2, j3⟩ hx hs
    subst hx; subst hs
    refine hn _ _ ⟨μ', ν, ?_, j3, ?_, by rw [put_size]; exact k4, by rw [put_defers]; exact k5, Nat.le_trans k6 j1.size⟩
    · exact k1.trans (j1.weaken (Nat.le_refl _) fun b hb _ => hb.elim) hevol.wmin
    · rw [put_tmps]
      exact ((k3.step j1 fun b _ hb => hb).setVal (fun y hy => by rw [k4]; exact hd y hy) j2).congr fun t => sget_setSlot _ _ _ _
  have callcase : ∀ (g : Nat) (f : FuncId) (as : List AVal) (args' : Array Value) (v : AVal), call g as h = some (v, h') → E.gid f = some g → VRels E μ as args'.toList →
      (execOp a.eval o).run E.P w = .ok (.enter f args') w → x = .val v → s1 = s → o.uponIn (F0 ro) 0 E.P a next Q ((execOp a.eval o).run E.P w) := by
    intro g f as args' v hcall hgf hargs hrun hx hs
    rw [hrun, Oper.uponIn_enter]
    refine ⟨fun hh => by simp [F0, Fence.wide] at hh, ?_⟩
    exact CallsIn.mono (F := F0 ro) (n := 0) (hc.fn g as h v h' hcall f hgf μ w args' hargs k2) fun e w' he => by
      have := ends v e w' he hx hs
      cases e <;> exact this
  have roundcase : ∀ (g i : Nat) (as : List AVal) (args' : Array Value) (v : AVal) (st : LoopSt) (p : Option AExit) (sl : List (Nat × AVal)), call g (.ptr (some (i, 0)) :: as) h = some (v, h') → h.get i = some (.loop g st p sl) → VRels E μ as args'.toList →
      (∀ (m : M), μ[i]? = some (some m) → (execOp a.eval o).run E.P w = (Instr.yield m.blk args').run E.P w) → x = .val v → s1 = s → o.uponIn (F0 ro) 0 E.P a next Q ((execOp a.eval o).run E.P w) := by
    intro g i as args' v st p sl hcall hg hargs hrun hx hs
    obtain ⟨m, r, q1, q2, q3, q4⟩ := hc.round g i 0 as h v h' st p sl hcall hg μ w args' hargs k2
    rw [hrun m q1, run_yield q2 q3, Oper.uponIn_round]
    refine ⟨fun hh => by simp [F0, Fence.wide] at hh, ?_⟩
    exact RoundIn.mono (F := F0 ro) (n := 0) q4 fun e w' he => by
      have := ends v e w' he hx hs
      cases e <;> exact this
  by_cases hcl : (∃ f as, ao = .call f as) ∨ (∃ g as, ao = .callg g as)
  · have hcop : ∃ c, o.op = .call c ∧ cCall E c = some ao := by
      cases ho : o.op with
      | call c => exact ⟨c, rfl, by rw [ho] at hao; simpa only [cOp] using hao⟩
      | makeFunc fn x1 x2 =>
        rw [ho] at hao
        exfalso
        cases fn <;> simp only [cOp] at hao <;> (try (cases hao; done))
        rcases hcl with ⟨f, as, rfl⟩ | ⟨g, as, rfl⟩ <;> (split at hao <;> cases hao)
      | makeMap t hint =>
        rw [ho] at hao
        exfalso
        rcases hcl with ⟨f, as, rfl⟩ | ⟨g, as, rfl⟩ <;>
          (cases hint with
           | none => simp [cOp] at hao
           | some y =>
             cases y with
             | const v => cases v <;> simp only [cOp] at hao <;> first | (cases hao; done) | (split at hao <;> cases hao)
             | _ => simp [cOp] at hao)
      | _ =>
        rw [ho] at hao
        exfalso
        rcases hcl with ⟨f, as, rfl⟩ | ⟨g, as, rfl⟩ <;>
          (simp only [cOp, cBin, cConv, cEq] at hao
           repeat' split at hao
           all_goals first
             | (cases hao; done)
             | (rw [Option.map_eq_some_iff] at hao; obtain ⟨_, _, hao⟩ := hao; first | (cases hao; done) | (split at hao <;> cases hao)))
    obtain ⟨c, hcop, hcc⟩ := hcop
    unfold cCall at hcc
    split at hcc
    · rename_i f hcal
      split at hcc
      case h_2 => cases hcc
      rename_i g as hgf has
      cases hcc
      simp only [evOp] at hop1
      split at hop1
      case h_2 => cases hop1
      rename_i vs hvs
      rw [Option.map_eq_some_iff] at hop1
      obtain ⟨⟨v, h2⟩, hcall, hop1⟩ := hop1
      cases hop1
      have hargs := opds_rel k3 has hvs
      refine callcase g f vs (c.args.map a.eval) v hcall hgf (by simpa using hargs) ?_ rfl rfl
      have := callFunc_enter hg hgf (c.args.map a.eval) w
      simp [execOp, hcop, resolve, hcal, Act.eval, Deferred.ofValue, invoke, this]
    · rename_i y hne hcal
      split at hcc
      case h_2 => cases hcc
      rename_i y' as hy has
      cases hcc
      simp only [evOp] at hop1
      split at hop1
      · rename_i g first caps vs hyv hvs
        rw [Option.map_eq_some_iff] at hop1
        obtain ⟨⟨v, h2⟩, hcall, hop1⟩ := hop1
        cases hop1
        have hargs := opds_rel k3 has hvs
        have hfv := opd_rel k3 hy hyv
        simp only [VRel] at hfv
        obtain ⟨fid, f', c', q1, q2, q3, q4⟩ := hfv
        refine callcase g fid (first ++ vs ++ caps) (f' ++ c.args.map a.eval ++ c') v hcall q2 ?_ ?_ rfl rfl
        · simpa using (q3.append hargs).append q4
        · have := callFunc_enter hg q2 (f' ++ (c.args.map a.eval ++ c')) w
          simp [execOp, hcop, resolve, hcal, q1, Deferred.ofValue, invoke, this]
      · rename_i i vs hyv hvs
        split at hop1
        case h_2 => cases hop1
        rename_i g st p sl hgi
        rw [Option.map_eq_some_iff] at hop1
        obtain ⟨⟨v, h2⟩, hcall, hop1⟩ := hop1
        cases hop1
        have hargs := opds_rel k3 has hvs
        have hfv := opd_rel k3 hy hyv
        simp only [VRel] at hfv
        obtain ⟨l, xx, q1, q2, q3⟩ := hfv
        refine roundcase g i vs (c.args.map a.eval) v st p sl hcall hgi (by simpa using hargs) (fun m hm => ?_) rfl rfl
        rw [hm] at q2; cases q2
        have := q3 m rfl; subst this
        simp [execOp, hcop, resolve, hcal, q1, Deferred.ofValue, invoke]
      · cases hop1
    · -- a built-in is no call
      exfalso
      rcases hcl with ⟨f, as, rfl⟩ | ⟨g, as, rfl⟩ <;>
        (repeat' split at hcc
         all_goals first
           | (cases hcc; done)
           | (rw [Option.map_eq_some_iff] at hcc; obtain ⟨_, _, hcc⟩ := hcc; cases hcc))
    · cases hcc
  · obtain ⟨v, w', μ', ν', j0, j1, j2, j3, j4⟩ := op_sound hao (fun f as e => hcl (.inl ⟨f, as, e⟩)) (fun g as e => hcl (.inr ⟨g, as, e⟩)) hop1 k3 k2 k6 (fun t ht => by rw [k4]; exact hd t ht) hloc
    have hat' : At E lo nt μ0 w0 ds (setSlot o.dst x s1) h' (a.put o.dst v) w' := by
      refine ⟨μ', ν', k1.trans j2 hevol.wmin, j3, ?_, by rw [put_size]; exact k4, by rw [put_defers, j0]; exact k5, Nat.le_trans k6 j2.size⟩
      exact j4.congr fun t => sget_setSlot _ _ _ _
    rcases j1 with j1 | ⟨rfl, j1⟩
    · rw [j1]; exact hn _ _ hat'
    · rw [j1]; exact hn _ _ hat'

/-- An operation, carried out or not. -/
theorem oper_sound (hc : CallOK E call) (hev0 : CallEvol call) (hg : GidOK E) {ops : Array Oper} {loc : Bool} {o : Oper} {o' : AOper} {s' : Slots} {h' : Heap} (hop : cOper E nt ops loc o = some o') (hev : evOper call o' s h = some (s', h'))
    (hat : At E lo nt μ0 w0 ds s h a w) {next : Act → World → Prop} {Q : Exit → Act → World → Prop} (hn : ∀ a' w', At E lo nt μ0 w0 ds s' h' a' w' → next a' w') :
    if Region.wanted o (yielded ops a.tmps) then o.wpIn (F0 ro) 0 E.P a w next Q else next (a.put o.dst Go.undef) w := by
  have hop0 := hop
  unfold cOper at hop
  split at hop
  case isFalse => cases hop
  rename_i hh
  simp only [Bool.and_eq_true, Bool.or_eq_true, Bool.not_eq_true'] at hh
  have hd : ∀ t, o.dst = some t → t < nt := fun t ht => by have := hh.1; rw [ht] at this; simpa using this
  unfold evOper at hev
  split at hop
  · rename_i hg0
    cases hop
    simp only at hev
    have : Region.wanted o (yielded ops a.tmps) = true := by simp [Region.wanted, hg0]
    rw [if_pos this]
    exact run_sound hc hev0 hg hop0 hev hat hn
  · rename_i j want hg0
    split at hop
    case h_2 => cases hop
    rename_i d hdj
    cases hop
    simp only at hev
    obtain ⟨μ, ν, k1, k2, k3, k4, k5, k6⟩ := hat
    split at hev
    · rename_i b hb
      obtain ⟨v', hv, hr⟩ := k3.val d _ hb
      simp only [VRel] at hr; subst hr
      have hy : yielded ops a.tmps j = some b := by simp [yielded, hdj, hv]
      have hw : Region.wanted o (yielded ops a.tmps) = (b == want) := by simp [Region.wanted, hg0, hy]
      split at hev
      · rename_i hbw
        rw [if_pos (by rw [hw]; simpa using hbw)]
        exact run_sound hc hev0 hg hop0 hev ⟨μ, ν, k1, k2, k3, k4, k5, k6⟩ hn
      · rename_i hbw
        cases hev
        rw [if_neg (by rw [hw]; simpa using hbw)]
        exact hn _ _ (At.undef ⟨μ, ν, k1, k2, k3, k4, k5, k6⟩ hd)
    · rename_i hb
      cases hev
      have hv := k3.undef d hb
      have hy : yielded ops a.tmps j = none := by simp [yielded, hdj, hv, Go.undef]
      have hw : Region.wanted o (yielded ops a.tmps) = false := by simp [Region.wanted, hg0, hy]
      rw [if_neg (by simp [hw])]
      exact hn _ _ (At.undef ⟨μ, ν, k1, k2, k3, k4, k5, k6⟩ hd)
    · cases hev

/-- Operations in the order of the text. -/
theorem ops_sound (hc : CallOK E call) (hev0 : CallEvol call) (hg : GidOK E) {ops : Array Oper} {locs : List Nat} {Q : Exit → Act → World → Prop} : ∀ (l : List Oper) (i : Nat) (as : List AOper) (s : Slots) (h : Heap) (s' : Slots) (h' : Heap) (a : Act) (w : World),
    ops.toList.drop i = l → cOpers E nt ops locs i l = some as → evOps call as s h = some (s', h') → At E lo nt μ0 w0 ds s h a w → (∀ a' w', At E lo nt μ0 w0 ds s' h' a' w' → Q .normal a' w') →
    wpOpsIn (F0 ro) 0 E.P ops Q (List.range' i l.length) a w
  | [], i, as, s, h, s', h', a, w, _, hcs, hev, hat, hn => by
    simp only [cOpers] at hcs; cases hcs
    simp only [evOps] at hev; cases hev
    exact hn _ _ hat
  | o :: l, i, as, s, h, s', h', a, w, hd, hcs, hev, hat, hn => by
    simp only [cOpers] at hcs
    split at hcs
    case h_2 => cases hcs
    rename_i o' as' ho has
    cases hcs
    simp only [evOps] at hev
    split at hev
    case h_2 => cases hev
    rename_i s1 h1 he
    have hi : ops[i]? = some o := by
      have := congrArg (fun l => l[0]?) hd
      simpa using this
    have hd' : ops.toList.drop (i + 1) = l := by
      have := congrArg List.tail hd
      simpa using this
    have ih := fun a' w' hat' => ops_sound hc hev0 hg l (i + 1) as' s1 h1 s' h' a' w' hd' has hev hat' hn
    simp only [List.length_cons, List.range'_succ, wpOpsIn, hi]
    have := oper_sound (ro := ro) (Q := Q) hc hev0 hg ho he hat ih
    split
    · rename_i hw; rw [if_pos hw] at this; exact this
    · rename_i hw; rw [if_neg hw] at this; exact ⟨fun _ _ => trivial, this⟩

end
end Go.Abs
