/-
  A call's end, and the whole: what the evaluator gives, the model's call gives.
-/
import Derived.Test.YtnpjncdnlacmeaaAbsCall
namespace Go.Abs

section
variable {E : Env}

theorem finish_sound {lo : Nat} {μ0 μ : MM} {h0 h : Heap} {w0 w : World} {v : AVal} {v' : Value} (hlo : lo = w0.heap.size) (hr0 : Rel E μ0 h0 w0) (hst : Step (fun k => lo ≤ k) h.wmin μ0 w0 μ w) (hr : Rel E μ h w)
    (hv : VRel E μ v v') (hev : Evol { h0 with wmin := h0.size } h) :
    ∃ μ', Step (fun _ => False) (finish h0 v h).2.wmin μ0 w0 μ' w ∧ VRel E μ' (finish h0 v h).1 v' ∧ Rel E μ' (finish h0 v h).2 w := by
  have hX : ∀ b, lo ≤ b → b < w0.heap.size → False := fun b h1 h2 => by omega
  have hn0 : μ0.length = h0.size := hr0.len
  unfold finish
  split
  · exact ⟨μ, hst.weaken (Nat.min_le_right _ _) hX, hv, hr.same rfl rfl rfl⟩
  · rename_i hw
    have hst1 : Step (fun _ => False) μ0.length μ0 w0 μ w := hst.weaken (by omega) hX
    have hkeep : ∀ i, i < μ0.length → μ[i]? = μ0[i]? := fun i hi => (hst1.old i hi).resolve_right fun ⟨a, _⟩ => by omega
    have hblk : ∀ (i : Nat) (m : M), μ0[i]? = some (some m) → w.heap[m.blk]? = w0.heap[m.blk]? := fun i m hm => by
      refine hst1.block _ (hr0.lt i m hm) (fun h => h) fun j mj hj hmj => ?_
      exact absurd (lt_of_get hmj) (by omega)
    split
    · rename_i hu
      refine ⟨μ0, ⟨hst1.os, hst1.tape, hst1.output, hst1.size, ?_, Nat.le_refl _, fun _ _ => .inl rfl, fun i m hi hm => absurd (lt_of_get hm) (by omega)⟩, under_rel (fun i hi => hkeep i (by omega)) hu hv, hr0.keep hst1.size hblk⟩
      intro k hk hx _
      exact hst1.block k hk hx fun j mj hj hmj => absurd (lt_of_get hmj) (by omega)
    · simp only
      split
      · rename_i hok
        generalize hK : reach h h0.size 1000 v.ids [] = K at hok ⊢
        have hspec := reach_spec h h0.size 1000 v.ids [] (by simp) (by simp)
        rw [hK] at hspec
        obtain ⟨hnd, hge⟩ := hspec
        rw [List.all_eq_true] at hok
        have hok' : ∀ i ∈ v.ids ++ K.flatMap fun i => ((h.get i).map AObj.ids).getD [], i < h0.size ∨ i ∈ K := fun i hi => by
          have := hok i hi
          simpa using this
        let F : Nat → Nat := fun i => if i < h0.size then i else h0.size + idxIn i K
        let μ2 : MM := μ0 ++ K.map fun i => (μ[i]?).getD none
        have hold : ∀ i, i < h0.size → μ2[i]? = μ0[i]? := fun i hi => List.getElem?_append_left (by omega)
        have hnew : ∀ j, μ2[h0.size + j]? = (K[j]?).map fun i => (μ[i]?).getD none := fun j => by
          show (μ0 ++ _)[_]? = _
          rw [List.getElem?_append_right (by omega), hn0, Nat.add_sub_cancel_left, List.getElem?_map]
        -- where each comes from
        have hpull : ∀ (i : Nat) (m : M), μ2[i]? = some (some m) → ∃ p, μ[p]? = some (some m) ∧ ((i < h0.size ∧ p = i) ∨ (h0.size ≤ i ∧ h0.size ≤ p ∧ K[i - h0.size]? = some p)) := fun i m hm => by
          rcases Nat.lt_or_ge i h0.size with hi | hi
          · exact ⟨i, by rw [hkeep i (by omega), ← hold i hi]; exact hm, .inl ⟨hi, rfl⟩⟩
          · obtain ⟨j, rfl⟩ := Nat.exists_eq_add_of_le hi
            rw [hnew] at hm
            rw [Option.map_eq_some_iff] at hm
            obtain ⟨p, hp, hm⟩ := hm
            refine ⟨p, ?_, .inr ⟨by omega, hge p (List.mem_of_getElem? hp), by rw [Nat.add_sub_cancel_left]; exact hp⟩⟩
            cases hq : μ[p]? with
            | none => rw [hq] at hm; cases hm
            | some x => rw [hq] at hm; simp at hm; rw [hm]
        have hF : ∀ i, (i < h0.size ∨ i ∈ K) → i < μ.length → μ2[F i]? = μ[i]? := fun i hi hl => by
          by_cases h1 : i < h0.size
          · show μ2[if i < h0.size then i else _]? = _
            rw [if_pos h1, hold i h1, hkeep i (by omega)]
          · have h2 : i ∈ K := hi.resolve_left h1
            show μ2[if i < h0.size then i else _]? = _
            rw [if_neg h1, hnew, idxIn_get h2]
            simp [List.getElem?_eq_getElem hl]
        have hl2 : Later μ0 μ2 := ⟨by simp [μ2], fun i hi => .inl (hold i (by omega))⟩
        refine ⟨μ2, ?_, ?_, ?_⟩
        · refine ⟨hst1.os, hst1.tape, hst1.output, hst1.size, ?_, hl2.len, fun i hi => .inl (hold i (by omega)), ?_⟩
          · intro k hk hx _
            exact hst1.block k hk hx fun j mj hj hmj => absurd (lt_of_get hmj) (by omega)
          · intro i m hi hm
            obtain ⟨p, hp, h1 | h1⟩ := hpull i m hm
            · omega
            · rcases hst1.new p m (by omega) hp with h2 | ⟨r, m0, h2, h3, _⟩
              · exact .inl h2
              · exact absurd (lt_of_get h3) (by omega)
        · exact ren_rel F (fun i hi hl => hF i (hok' i (List.mem_append_left _ hi)) hl) hv
        · constructor
          · simp [μ2, hn0, Heap.size]
          · have := hr0.bs; simp; omega
          · intro i o ho
            simp only at ho
            rcases Nat.lt_or_ge i h0.size with hi | hi
            · rw [List.getElem?_append_left hi] at ho
              refine (hr0.obj i o ho).keep hl2 fun m hm => ⟨by rw [hold i hi]; exact hm, hblk i m hm⟩
            · obtain ⟨j, rfl⟩ := Nat.exists_eq_add_of_le hi
              rw [List.getElem?_append_right hi, show h0.size + j - h0.objs.length = j from Nat.add_sub_cancel_left .., List.getElem?_map, Option.map_eq_some_iff] at ho
              obtain ⟨p, hp, ho⟩ := ho
              have hpg := hge p (List.mem_of_getElem? hp)
              have hbs := hr0.bs
              have hbase : h.base = h0.base := hev.base
              have hbs' : h0.base ≤ h0.size := hbs
              cases hq : h.get p with
              | none =>
                rw [hq] at ho
                simp at ho; subst ho
                have hq' : h.objs[p]? = none := hq
                have : μ[p]? = none := by
                  rw [List.getElem?_eq_none_iff] at hq' ⊢
                  rw [hr.len]; exact hq'
                show μ2[_]? = _
                rw [hnew, hp]; simp [this]
              | some o' =>
                rw [hq] at ho
                simp at ho; subst ho
                have hids : ∀ i ∈ o'.ids, i < μ.length → μ2[F i]? = μ[i]? := fun i hi hl => hF i (hok' i (List.mem_append_right _ (List.mem_flatMap.2 ⟨p, List.mem_of_getElem? hp, by rw [hq]; simpa using hi⟩))) hl
                have hm2 : ∀ x, μ[p]? = some x → μ2[h0.size + j]? = some x := fun x hx => by rw [hnew, hp]; simp [hx]
                have hor := hr.obj p o' hq
                cases o' with
                | dead => exact hm2 _ hor
                | cells esz cs =>
                  obtain ⟨m, c, e, fr, h1, h2, h3, h4, h5, h6, h7⟩ := hor
                  refine ⟨m, c, e, fr, hm2 _ h1, h2, h3, h4, by rw [renL_length]; exact h5, ?_, fun _ => h7 (by omega)⟩
                  intro k x hk
                  change (AVal.renL F cs)[k]? = _ at hk
                  rw [renL_get, Option.map_eq_some_iff] at hk
                  obtain ⟨y, hy, rfl⟩ := hk
                  obtain ⟨k1, y', k2, k3⟩ := h6 k y hy
                  refine ⟨(isOne_ren F y).trans k1, y', k2, ren_rel F (fun i hi hl => hids i (idsL_mem hy hi) hl) k3⟩
                | map es clock =>
                  obtain ⟨m, es', h1, h2, h3, h4⟩ := hor
                  refine ⟨m, es', hm2 _ h1, h2, by rw [List.length_map]; exact h3, ?_⟩
                  intro k x hk
                  rw [List.getElem?_map, Option.map_eq_some_iff] at hk
                  obtain ⟨y, hy, rfl⟩ := hk
                  obtain ⟨y', k1, k2, k3, k4⟩ := h4 k y hy
                  have hin : ∀ i, i ∈ y.1.ids ∨ i ∈ y.2.1.ids → i ∈ AObj.ids (.map es clock) := fun i hi => by
                    simp only [AObj.ids, List.mem_flatMap, List.mem_append]
                    exact ⟨y, List.mem_of_getElem? hy, hi⟩
                  exact ⟨y', k1, ren_rel F (fun i hi hl => hids i (hin i (.inl hi)) hl) k2, ren_rel F (fun i hi hl => hids i (hin i (.inr hi)) hl) k3, k4⟩
                | iter s pos =>
                  obtain ⟨m, h1, h2⟩ := hor
                  exact ⟨m, hm2 _ h1, h2⟩
          · intro i j mi mj hij hi hmi hmj
            obtain ⟨p, hp, hp'⟩ := hpull i mi hmi
            obtain ⟨q, hq, hq'⟩ := hpull j mj hmj
            have hbs : h0.base ≤ h0.size := hr0.bs
            have hbase : h.base = h0.base := hev.base
            refine hr.sep p q mi mj ?_ (by simp only at hi; omega) hp hq
            intro e
            rcases hp' with ⟨a1, a2⟩ | ⟨a1, a2, a3⟩ <;> rcases hq' with ⟨b1, b2⟩ | ⟨b1, b2, b3⟩
            · omega
            · omega
            · omega
            · subst e
              have := (List.getElem?_inj (lt_of_get a3) hnd).1 (a3.trans b3.symm)
              omega
          · intro i m hm
            obtain ⟨p, hp, _⟩ := hpull i m hm
            exact hr.lt p m hp
      · refine ⟨μ, ?_, hv, hr.same rfl rfl rfl⟩
        exact hst1.fresh _

theorem enter_get : ∀ (args : List AVal) (i t : Nat), sget (enter i args) t = if i ≤ t then (args[t - i]?).map Slot.val else none
  | [], i, t => by simp [enter, sget]
  | v :: r, i, t => by
    simp only [enter, sget]
    split
    · rename_i e; subst e; simp
    · rename_i hne
      rw [enter_get r (i + 1) t]
      by_cases h1 : i + 1 ≤ t
      · rw [if_pos h1, if_pos (by omega), show t - i = (t - (i + 1)) + 1 by omega, List.getElem?_cons_succ]
      · rw [if_neg h1, if_neg (by omega)]

/-- The functions are what the table says. -/
def Agrees (E : Env) (T : Nat → Option AFunc) : Prop :=
  ∀ f g, E.gid f = some g → ∃ fn closed hint af, E.P.funcs[f]? = some fn ∧ T g = some af ∧ cFunc E closed hint fn = some af

def AgreesL (E : Env) (T : Nat → Option AFunc) : List (Nat × Nat) → Prop
  | [] => True
  | p :: r => (∃ fn closed hint af, E.P.funcs[p.1]? = some fn ∧ T p.2 = some af ∧ cFunc E closed hint fn = some af) ∧ AgreesL E T r

theorem agrees_of {P : Program} {T : Nat → Option AFunc} {l : List (Nat × Nat)} (h : AgreesL ⟨P, fun f => List.lookup f l⟩ T l) : Agrees ⟨P, fun f => List.lookup f l⟩ T := by
  intro f g hg
  simp only at hg
  have : ∀ {r : List (Nat × Nat)}, AgreesL ⟨P, fun f => List.lookup f l⟩ T r → List.lookup f r = some g → ∃ fn closed hint af, P.funcs[f]? = some fn ∧ T g = some af ∧ cFunc ⟨P, fun f => List.lookup f l⟩ closed hint fn = some af := by
    intro r
    induction r with
    | nil => intro _ h1; simp at h1
    | cons p r ih =>
      intro h1 h2
      obtain ⟨a, b⟩ := p
      simp only [AgreesL] at h1
      rw [List.lookup_cons] at h2
      split at h2
      · rename_i e
        rw [beq_iff_eq] at e
        subst e
        cases h2
        exact h1.1
      · exact ih h1.2 h2
  exact this h hg

theorem Agrees.gid {T : Nat → Option AFunc} (h : Agrees E T) : GidOK E := fun f g hg => by
  obtain ⟨fn, closed, hint, af, h1, h2, h3⟩ := h f g hg
  refine ⟨fn, h1, ?_⟩
  unfold cFunc at h3
  split at h3
  case h_2 => cases h3
  rename_i c hb
  split at h3
  case h_2 => cases h3
  split at h3
  case isFalse => cases h3
  rename_i hn
  exact ⟨hn.2, by rw [hb]; rfl⟩

theorem func_sound {call : CallSem} {n : Nat} (hc : CallOK E call) (hev0 : CallEvol call) (hg : GidOK E) (hm : E.P.follows .mixedOrders = true) {f : FuncId} {fn : Func} {closed : Bool} {hint : Hint} {af : AFunc} (hf : E.P.funcs[f]? = some fn) (hcf : cFunc E closed hint fn = some af)
    {args : List AVal} {h : Heap} {v : AVal} {h' : Heap} (hev : evFunc call n af args h = some (v, h')) {μ : MM} {w : World} {args' : Array Value} (ha : VRels E μ args args'.toList) (hr : Rel E μ h w) :
    Calls E.P f args' w fun e w' => ∃ v' μ', e = .returned v' ∧ Step (fun _ => False) h'.wmin μ w μ' w' ∧ VRel E μ' v v' ∧ Rel E μ' h' w' := by
  unfold cFunc at hcf
  split at hcf
  case h_2 => cases hcf
  rename_i c hb
  split at hcf
  case h_2 => cases hcf
  rename_i ac rs hac hrs
  split at hcf
  case isFalse => cases hcf
  rename_i hsz
  cases hcf
  rw [evFunc_eq] at hev
  simp only at hev
  split at hev
  case isFalse => cases hev
  rename_i hlen
  have hal : args'.size = args.length := by have := ha.length; simp at this; exact this.symm
  have hat : At E w.heap.size fn.ntmps μ w [] (enter 0 args) { h with wmin := h.size } { tmps := args' ++ Array.replicate (fn.ntmps - args'.size) undef, defers := [] } w := by
    refine ⟨μ, fun _ => 0, Step.refl _ _ _ _, hr.same rfl rfl rfl, ?_, ?_, rfl, Nat.le_refl _⟩
    · have hval : ∀ (t : Nat) (x : Slot), sget (enter 0 args) t = some x → ∃ v, x = .val v ∧ args[t]? = some v := fun t x hx => by
        rw [enter_get] at hx
        simp at hx
        obtain ⟨v, h1, h2⟩ := hx
        exact ⟨v, h2.symm, h1⟩
      constructor
      · intro t v hv
        obtain ⟨v1, e, h1⟩ := hval t _ hv
        cases e
        obtain ⟨v', h2, h3⟩ := ha.get h1
        refine ⟨v', ?_, h3⟩
        have hlt := lt_of_get h1
        rw [Array.getElem?_append_left (by omega)]
        simpa using h2
      · intro t hx; obtain ⟨_, e, _⟩ := hval t _ hx; cases e
      · intro t cs hx; obtain ⟨_, e, _⟩ := hval t _ hx; cases e
      · intro t t' o cs hx; obtain ⟨_, e, _⟩ := hval t _ hx; cases e
      · intro t t' cs cs' _ hx; obtain ⟨_, e, _⟩ := hval t _ hx; cases e
      · intro t cs i m hx; obtain ⟨_, e, _⟩ := hval t _ hx; cases e
    · simp; omega
  refine calls_of_wp hf hb ?_
  have key : ∀ (st : St) (x : AExit), (x = .normal ∨ x = .ret) → evCode call n ac ⟨enter 0 args, { h with wmin := h.size }⟩ = some (x, st) → ((resultsL st.s st.h rs).map fun vs => finish h (tupled vs) st.h) = some (v, h') →
      c.wp E.P (bodyPost E.P fn fun e w' => ∃ v' μ', e = .returned v' ∧ Step (fun _ => False) h'.wmin μ w μ' w' ∧ VRel E μ' v v' ∧ Rel E μ' h' w') { tmps := args' ++ Array.replicate (fn.ntmps - args'.size) undef, defers := [] } w := by
    intro st x hx h1 h2
    rw [Option.map_eq_some_iff] at h2
    obtain ⟨vs, h2, h3⟩ := h2
    have hevol := code_evol hev0 n _ _ _ _ h1
    refine code_sound hc hev0 hg hm n _ _ _ hac _ _ _ h1 _ _ _ hat ?_
    intro a' w' hat'
    obtain ⟨μ1, ν1, k1, k2, k3, k4, k5, k6⟩ := hat'
    obtain ⟨v', r1, r2⟩ := results_rel k3 k2 hrs h2
    obtain ⟨μ2, s1, s2, s3⟩ := finish_sound rfl hr k1 k2 r2 hevol
    rw [h3] at s1 s2 s3
    rcases hx with rfl | rfl
    · exact ⟨k5, v', r1, v', μ2, rfl, s1, s2, s3⟩
    · exact ⟨k5, v', r1, v', μ2, rfl, s1, s2, s3⟩
  unfold outcome at hev
  split at hev
  · rename_i st h1; exact key st _ (.inl rfl) h1 hev
  · rename_i st h1; exact key st _ (.inr rfl) h1 hev
  · cases hev

theorem call_sound {T : Nat → Option AFunc} (hT : Agrees E T) (hm : E.P.follows .mixedOrders = true) : ∀ n, CallOK E (evCall T n)
  | 0 => by intro g args h v h' e; simp [evCall] at e
  | n + 1 => by
    intro g args h v h' e f hf μ w args' ha hr
    obtain ⟨fn, closed, hint, af, h1, h2, h3⟩ := hT f g hf
    simp only [evCall, h2] at e
    have key : ∀ (args : List AVal) (h : Heap) (v : AVal) (h' : Heap), evFunc (evCall T n) n af args h = some (v, h') → ∀ (μ : MM) (w : World) (args' : Array Value), VRels E μ args args'.toList → Rel E μ h w →
        Calls E.P f args' w fun e w' => ∃ v' μ', e = .returned v' ∧ Step (fun _ => False) h'.wmin μ w μ' w' ∧ VRel E μ' v v' ∧ Rel E μ' h' w' := fun args h v h' e μ w args' ha hr =>
      func_sound (call_sound hT hm n) (call_evol T n) hT.gid hm h1 h3 e ha hr
    cases hcl : af.closed with
    | false => rw [hcl] at e; exact key _ _ _ _ e _ _ _ ha hr
    | true =>
      rw [hcl] at e
      simp only [wrapC, evClosed, if_true] at e
      split at e
      case isFalse => cases e
      rename_i hu
      split at e
      case h_2 => cases e
      rename_i v0 h0 he
      split at e
      case isFalse => cases e
      rename_i hv0
      cases e
      have hr0 : Rel E [] ⟨[], 0, 0⟩ w := ⟨rfl, Nat.le_refl _, by simp, by simp, by simp⟩
      refine (key _ _ _ _ he [] w args' (unders_rel (n := 0) (fun i hi => absurd hi (by omega)) hu ha) hr0).mono fun e w' ⟨v', μ', h1, h2, h3, _⟩ => ?_
      have hb : ∀ k, k < w.heap.size → w'.heap[k]? = w.heap[k]? := fun k hk => h2.block k hk (fun h => h) fun i m _ hm => by simp at hm
      refine ⟨v', μ, h1, ⟨h2.os, h2.tape, h2.output, h2.size, fun k hk _ _ => hb k hk, Nat.le_refl _, fun _ _ => .inl rfl, fun i m hi hm => absurd (lt_of_get hm) (by omega)⟩,
        under_rel (n := 0) (fun i hi => absurd hi (by omega)) hv0 h3, hr.keep h2.size fun i m hm => hb _ (hr.lt i m hm)⟩

/-- What the machine gives is what the model's call gives. -/
theorem x_sound {T : Nat → Option AFunc} (hT : Agrees E T) (hm : E.P.follows .mixedOrders = true) : CallOK E (xCall T) := by
  intro g args h v h' e
  obtain ⟨n, hn⟩ := (xCall_iff T _ _ _ _).1 e
  exact call_sound hT hm n g args h v h' hn

end
end Go.Abs
