/-
  A call, in a memory that may tell less than all: what it gives.
-/
import Derived.Test.YtnpjncdnlacmeaaAbsOrder
namespace Go.Abs

section
variable {E : Env} {lo nt : Nat} {ν : Fr} {μ : MM} {s : Slots} {h : Heap} {a : Act} {w : World} {call : CallSem} {ro : Option Nat} {ops : Array Oper}

theorem cOp_call {loc : Bool} {o : Oper} {ao : AOp} (hao : cOp E loc o.op = some ao) (hcl : (∃ f as, ao = .call f as) ∨ (∃ g as, ao = .callg g as)) : ∃ c, o.op = .call c ∧ cCall E c = some ao := by
  cases ho : o.op with
  | call c => exact ⟨c, rfl, by rw [ho] at hao; simpa only [cOp] using hao⟩
  | makeFunc fn x1 x2 =>
    rw [ho] at hao
    exfalso
    cases fn <;> simp only [cOp] at hao <;> (try (cases hao; done))
    rcases hcl with ⟨f, as, rfl⟩ | ⟨g, as, rfl⟩ <;> (split at hao <;> cases hao)
  | makeMap t hint =>
    rw [ho] at hao
    exfalso
    rcases hcl with ⟨f, as, rfl⟩ | ⟨g, as, rfl⟩ <;>
      (cases hint with
       | none => simp [cOp] at hao
       | some y =>
         cases y with
         | const v => cases v <;> simp only [cOp] at hao <;> first | (cases hao; done) | (split at hao <;> cases hao)
         | _ => simp [cOp] at hao)
  | _ =>
    rw [ho] at hao
    exfalso
    rcases hcl with ⟨f, as, rfl⟩ | ⟨g, as, rfl⟩ <;>
      (simp only [cOp, cBin, cConv, cEq] at hao
       repeat' split at hao
       all_goals first
         | (cases hao; done)
         | (rw [Option.map_eq_some_iff] at hao; obtain ⟨_, _, hao⟩ := hao; first | (cases hao; done) | (split at hao <;> cases hao)))

def SlotIs (E : Env) (μ : MM) (x : Slot) (v : Value) : Prop := (x = .undef ∧ v = Go.undef) ∨ ∃ u, x = .val u ∧ VRel E μ u v

theorem call_step (hc : CallOK E call) (hg : GidOK E) {loc : Bool} {o : Oper} {o' : AOper} {s' : Slots} {h' : Heap} (hop : cOper E nt ops loc o = some o') (hcl : o'.op.isCall = true) (hev : evOper call o' s h = some (s', h'))
    (k3 : FRel E lo ν μ (sget s) a.tmps w) (k2 : Rel E μ h w) {next : Act → World → Prop} {Q : Exit → Act → World → Prop}
    (hn : ∀ x v w' μ', s' = setSlot o'.dst x s → SlotIs E μ' x v → Step (fun _ => False) h'.wmin μ w μ' w' → Rel E μ' h' w' → next (a.put o.dst v) w') :
    if Region.wanted o (yielded ops a.tmps) then o.wpIn (F0 ro) 0 E.P a w next Q else next (a.put o.dst Go.undef) w := by
  unfold cOper at hop
  split at hop
  case isFalse => cases hop
  rename_i hh
  have run : o'.dst = o.dst → o'.op = cOpS E loc o.op → evRun call o' s h = some (s', h') → o.wpIn (F0 ro) 0 E.P a w next Q := by
    intro e1 e0 hev
    have ho2 : ∃ ao, cOp E loc o.op = some ao ∧ o'.op = ao := by
      cases hco : cOp E loc o.op with
      | some ao => exact ⟨ao, rfl, by rw [e0, cOpS, hco]⟩
      | none => rw [e0, cOpS, hco] at hcl; simp [AOp.isCall] at hcl
    obtain ⟨ao, hao, e2⟩ := ho2
    rw [e2] at hcl
    have hcl2 : (∃ f as, ao = .call f as) ∨ (∃ g as, ao = .callg g as) := by
      cases ao <;> simp only [AOp.isCall, Bool.false_eq_true] at hcl
      · exact .inl ⟨_, _, rfl⟩
      · exact .inr ⟨_, _, rfl⟩
    unfold evRun at hev
    rw [e2] at hev
    split at hev
    case h_2 => cases hev
    rename_i x s1 h1 hop1
    injection hev with hev
    injection hev with hev1 hev2
    subst hev2
    have hnd : ∀ c, o.op ≠ .defer c := fun c hc' => by rw [hc'] at hao; simp [cOp] at hao
    refine ⟨fun _ _ => trivial, ?_⟩
    rw [Oper.semAt_eq _ _ _ hnd]
    have ends : ∀ (v : AVal) (e : Ending) (w' : World), Ends E μ w v h1 e w' → x = .val v → s1 = s → (match e with | .returned v => next (a.put o.dst v) w' | .panicked chain => Q (.panic chain) a w' | .outgrown => LetsOut Q) := by
      rintro v e w' ⟨v', μ', rfl, j1, j2, j3⟩ hx hs
      subst hx; subst hs
      exact hn _ _ _ μ' hev1.symm (.inr ⟨v, rfl, j2⟩) j1 j3
    have callcase : ∀ (g : Nat) (f : FuncId) (as : List AVal) (args' : Array Value) (v : AVal), call g as h = some (v, h1) → E.gid f = some g → VRels E μ as args'.toList →
        (execOp a.eval o).run E.P w = .ok (.enter f args') w → x = .val v → s1 = s → o.uponIn (F0 ro) 0 E.P a next Q ((execOp a.eval o).run E.P w) := by
      intro g f as args' v hcall hgf hargs hrun hx hs
      rw [hrun, Oper.uponIn_enter]
      refine ⟨fun hh => by simp [F0, Fence.wide] at hh, ?_⟩
      exact CallsIn.mono (F := F0 ro) (n := 0) (hc.fn g as h v h1 hcall f hgf μ w args' hargs k2) fun e w' he => by
        have := ends v e w' he hx hs
        cases e <;> exact this
    have roundcase : ∀ (g i : Nat) (as : List AVal) (args' : Array Value) (v : AVal) (st : LoopSt) (p : Option AExit) (sl : List (Nat × AVal)), call g (.ptr (some (i, 0)) :: as) h = some (v, h1) → h.get i = some (.loop g st p sl) → VRels E μ as args'.toList →
        (∀ (m : M), μ[i]? = some (some m) → (execOp a.eval o).run E.P w = (Instr.yield m.blk args').run E.P w) → x = .val v → s1 = s → o.uponIn (F0 ro) 0 E.P a next Q ((execOp a.eval o).run E.P w) := by
      intro g i as args' v st p sl hcall hgi hargs hrun hx hs
      obtain ⟨m, r, q1, q2, q3, q4⟩ := hc.round g i 0 as h v h1 st p sl hcall hgi μ w args' hargs k2
      rw [hrun m q1, run_yield q2 q3, Oper.uponIn_round]
      refine ⟨fun hh => by simp [F0, Fence.wide] at hh, ?_⟩
      exact RoundIn.mono (F := F0 ro) (n := 0) q4 fun e w' he => by
        have := ends v e w' he hx hs
        cases e <;> exact this
    obtain ⟨c, hcop, hcc⟩ := cOp_call hao hcl2
    have hcl := hcl2
    unfold cCall at hcc
    split at hcc
    · rename_i f hcal
      split at hcc
      case h_2 => cases hcc
      rename_i g as hgf has
      cases hcc
      simp only [evOp] at hop1
      split at hop1
      case h_2 => cases hop1
      rename_i vs hvs
      rw [Option.map_eq_some_iff] at hop1
      obtain ⟨⟨v, h2⟩, hcall, hop1⟩ := hop1
      cases hop1
      have hargs := opds_rel k3 has hvs
      refine callcase g f vs (c.args.map a.eval) v hcall hgf (by simpa using hargs) ?_ rfl rfl
      have := callFunc_enter hg hgf (c.args.map a.eval) w
      simp [execOp, hcop, resolve, hcal, Act.eval, Deferred.ofValue, invoke, this]
    · rename_i y hne hcal
      split at hcc
      case h_2 => cases hcc
      rename_i y' as hy has
      cases hcc
      simp only [evOp] at hop1
      split at hop1
      · rename_i g first caps vs hyv hvs
        rw [Option.map_eq_some_iff] at hop1
        obtain ⟨⟨v, h2⟩, hcall, hop1⟩ := hop1
        cases hop1
        have hargs := opds_rel k3 has hvs
        have hfv := opd_rel k3 hy hyv
        simp only [VRel] at hfv
        obtain ⟨fid, f', c', q1, q2, q3, q4⟩ := hfv
        refine callcase g fid (first ++ vs ++ caps) (f' ++ c.args.map a.eval ++ c') v hcall q2 ?_ ?_ rfl rfl
        · simpa using (q3.append hargs).append q4
        · have := callFunc_enter hg q2 (f' ++ (c.args.map a.eval ++ c')) w
          simp [execOp, hcop, resolve, hcal, q1, Deferred.ofValue, invoke, this]
      · rename_i i vs hyv hvs
        split at hop1
        case h_2 => cases hop1
        rename_i g st p sl hgi
        rw [Option.map_eq_some_iff] at hop1
        obtain ⟨⟨v, h2⟩, hcall, hop1⟩ := hop1
        cases hop1
        have hargs := opds_rel k3 has hvs
        have hfv := opd_rel k3 hy hyv
        simp only [VRel] at hfv
        obtain ⟨l, xx, q1, q2, q3⟩ := hfv
        refine roundcase g i vs (c.args.map a.eval) v st p sl hcall hgi (by simpa using hargs) (fun m hm => ?_) rfl rfl
        rw [hm] at q2; cases q2
        have := q3 m rfl; subst this
        simp [execOp, hcop, resolve, hcal, q1, Deferred.ofValue, invoke]
      · cases hop1
    · -- a built-in is no call
      exfalso
      rcases hcl with ⟨f, as, rfl⟩ | ⟨g, as, rfl⟩ <;>
        (repeat' split at hcc
         all_goals first
           | (cases hcc; done)
           | (rw [Option.map_eq_some_iff] at hcc; obtain ⟨_, _, hcc⟩ := hcc; cases hcc))
    · cases hcc
  unfold evOper at hev
  split at hop
  · rename_i hg0
    cases hop
    simp only at hev
    have : Region.wanted o (yielded ops a.tmps) = true := by simp [Region.wanted, hg0]
    rw [if_pos this]
    exact run rfl rfl hev
  · rename_i j want hg0
    split at hop
    case h_2 => cases hop
    rename_i d hdj
    cases hop
    simp only at hev
    split at hev
    · rename_i b hb
      obtain ⟨v', hv, hr⟩ := k3.val d _ hb
      simp only [VRel] at hr; subst hr
      have hy : yielded ops a.tmps j = some b := by simp [yielded, hdj, hv]
      have hw : Region.wanted o (yielded ops a.tmps) = (b == want) := by simp [Region.wanted, hg0, hy]
      split at hev
      · rename_i hbw
        rw [if_pos (by rw [hw]; simpa using hbw)]
        exact run rfl rfl hev
      · rename_i hbw
        cases hev
        rw [if_neg (by rw [hw]; simpa using hbw)]
        exact hn _ _ _ μ rfl (.inl ⟨rfl, rfl⟩) (Step.refl _ _ _ _) k2
    · rename_i hb
      cases hev
      have hv := k3.undef d hb
      have hy : yielded ops a.tmps j = none := by simp [yielded, hdj, hv, Go.undef]
      have hw : Region.wanted o (yielded ops a.tmps) = false := by simp [Region.wanted, hg0, hy]
      rw [if_neg (by simp [hw])]
      exact hn _ _ _ μ rfl (.inl ⟨rfl, rfl⟩) (Step.refl _ _ _ _) k2
    · cases hev

end
end Go.Abs
