/-
  A call's end, and the whole: what the evaluator gives, the model's call gives.
-/
import Derived.Test.YtnpjncdnlacmeaaAbsCall
import Derived.RangeFuncLeaves
namespace Go.Abs

section
variable {E : Env}

theorem LoopRel.ren {μ μ' : MM} {g : Nat} {st : LoopSt} {p : Option AExit} {sl : List (Nat × AVal)} {r : Loop} (h : LoopRel E μ g st p sl r) (F : Nat → Nat) (hm : ∀ j ∈ AObj.ids (.loop g st p sl), j < μ.length → μ'[F j]? = μ[j]?) :
    LoopRel E μ' g st p (sl.map fun x => (x.1, x.2.ren F)) r := by
  refine ⟨h.code, h.st, h.pend, fun k x hk => ?_⟩
  rw [List.getElem?_map, Option.map_eq_some_iff] at hk
  obtain ⟨y, hy, rfl⟩ := hk
  obtain ⟨v', h1, h2⟩ := h.slots k y hy
  refine ⟨v', h1, ren_rel F (fun i hi hl => hm i ?_ hl) h2⟩
  simp only [AObj.ids]
  exact idsL_mem (k := k) (by rw [List.getElem?_map, hy]; rfl) hi

theorem finish_sound {lo : Nat} {μ0 μ : MM} {h0 h : Heap} {w0 w : World} {v : AVal} {v' : Value} (hlo : lo = w0.heap.size) (hr0 : Rel E μ0 h0 w0) (hst : Step (fun k => lo ≤ k) h.wmin μ0 w0 μ w) (hr : Rel E μ h w)
    (hv : VRel E μ v v') (hev : Evol { h0 with wmin := h0.size } h) :
    ∃ μ', Step (fun _ => False) (finish h0 v h).2.wmin μ0 w0 μ' w ∧ VRel E μ' (finish h0 v h).1 v' ∧ Rel E μ' (finish h0 v h).2 w := by
  have hX : ∀ b, lo ≤ b → b < w0.heap.size → False := fun b h1 h2 => by omega
  have hn0 : μ0.length = h0.size := hr0.len
  unfold finish
  split
  · exact ⟨μ, hst.weaken (Nat.min_le_right _ _) hX, hv, hr.same rfl rfl rfl⟩
  · rename_i hw
    have hst1 : Step (fun _ => False) μ0.length μ0 w0 μ w := hst.weaken (by omega) hX
    have hkeep : ∀ i, i < μ0.length → μ[i]? = μ0[i]? := fun i hi => (hst1.old i hi).resolve_right fun ⟨a, _⟩ => by omega
    have hblk : ∀ (i : Nat) (m : M), μ0[i]? = some (some m) → w.heap[m.blk]? = w0.heap[m.blk]? := fun i m hm => by
      refine hst1.block _ (hr0.lt i m hm) (fun h => h) fun j mj hj hmj => ?_
      exact absurd (lt_of_get hmj) (by omega)
    split
    · rename_i hu
      refine ⟨μ0, ⟨hst1.os, hst1.tape, hst1.output, hst1.size, ?_, Nat.le_refl _, fun _ _ => .inl rfl, fun i m hi hm => absurd (lt_of_get hm) (by omega)⟩, under_rel (fun i hi => hkeep i (by omega)) hu hv, hr0.keep hst1.size hblk⟩
      intro k hk hx _
      exact hst1.block k hk hx fun j mj hj hmj => absurd (lt_of_get hmj) (by omega)
    · simp only
      split
      · rename_i hok
        generalize hK : reach h h0.size 1000 v.ids [] = K at hok ⊢
        have hspec := reach_spec h h0.size 1000 v.ids [] (by simp) (by simp)
        rw [hK] at hspec
        obtain ⟨hnd, hge⟩ := hspec
        rw [List.all_eq_true] at hok
        have hok' : ∀ i ∈ v.ids ++ K.flatMap fun i => ((h.get i).map AObj.ids).getD [], i < h0.size ∨ i ∈ K := fun i hi => by
          have := hok i hi
          simpa using this
        let F : Nat → Nat := fun i => if i < h0.size then i else h0.size + idxIn i K
        let μ2 : MM := μ0 ++ K.map fun i => (μ[i]?).getD none
        have hold : ∀ i, i < h0.size → μ2[i]? = μ0[i]? := fun i hi => List.getElem?_append_left (by omega)
        have hnew : ∀ j, μ2[h0.size + j]? = (K[j]?).map fun i => (μ[i]?).getD none := fun j => by
          show (μ0 ++ _)[_]? = _
          rw [List.getElem?_append_right (by omega), hn0, Nat.add_sub_cancel_left, List.getElem?_map]
        -- where each comes from
        have hpull : ∀ (i : Nat) (m : M), μ2[i]? = some (some m) → ∃ p, μ[p]? = some (some m) ∧ ((i < h0.size ∧ p = i) ∨ (h0.size ≤ i ∧ h0.size ≤ p ∧ K[i - h0.size]? = some p)) := fun i m hm => by
          rcases Nat.lt_or_ge i h0.size with hi | hi
          · exact ⟨i, by rw [hkeep i (by omega), ← hold i hi]; exact hm, .inl ⟨hi, rfl⟩⟩
          · obtain ⟨j, rfl⟩ := Nat.exists_eq_add_of_le hi
            rw [hnew] at hm
            rw [Option.map_eq_some_iff] at hm
            obtain ⟨p, hp, hm⟩ := hm
            refine ⟨p, ?_, .inr ⟨by omega, hge p (List.mem_of_getElem? hp), by rw [Nat.add_sub_cancel_left]; exact hp⟩⟩
            cases hq : μ[p]? with
            | none => rw [hq] at hm; cases hm
            | some x => rw [hq] at hm; simp at hm; rw [hm]
        have hF : ∀ i, (i < h0.size ∨ i ∈ K) → i < μ.length → μ2[F i]? = μ[i]? := fun i hi hl => by
          by_cases h1 : i < h0.size
          · show μ2[if i < h0.size then i else _]? = _
            rw [if_pos h1, hold i h1, hkeep i (by omega)]
          · have h2 : i ∈ K := hi.resolve_left h1
            show μ2[if i < h0.size then i else _]? = _
            rw [if_neg h1, hnew, idxIn_get h2]
            simp [List.getElem?_eq_getElem hl]
        have hl2 : Later μ0 μ2 := ⟨by simp [μ2], fun i hi => .inl (hold i (by omega))⟩
        refine ⟨μ2, ?_, ?_, ?_⟩
        · refine ⟨hst1.os, hst1.tape, hst1.output, hst1.size, ?_, hl2.len, fun i hi => .inl (hold i (by omega)), ?_⟩
          · intro k hk hx _
            exact hst1.block k hk hx fun j mj hj hmj => absurd (lt_of_get hmj) (by omega)
          · intro i m hi hm
            obtain ⟨p, hp, h1 | h1⟩ := hpull i m hm
            · omega
            · rcases hst1.new p m (by omega) hp with h2 | ⟨r, m0, h2, h3, _⟩
              · exact .inl h2
              · exact absurd (lt_of_get h3) (by omega)
        · exact ren_rel F (fun i hi hl => hF i (hok' i (List.mem_append_left _ hi)) hl) hv
        · constructor
          · simp [μ2, hn0, Heap.size]
          · have := hr0.bs; simp; omega
          · intro i o ho
            simp only at ho
            rcases Nat.lt_or_ge i h0.size with hi | hi
            · rw [List.getElem?_append_left hi] at ho
              refine (hr0.obj i o ho).keep hl2 fun m hm => ⟨by rw [hold i hi]; exact hm, hblk i m hm⟩
            · obtain ⟨j, rfl⟩ := Nat.exists_eq_add_of_le hi
              rw [List.getElem?_append_right hi, show h0.size + j - h0.objs.length = j from Nat.add_sub_cancel_left .., List.getElem?_map, Option.map_eq_some_iff] at ho
              obtain ⟨p, hp, ho⟩ := ho
              have hpg := hge p (List.mem_of_getElem? hp)
              have hbs := hr0.bs
              have hbase : h.base = h0.base := hev.base
              have hbs' : h0.base ≤ h0.size := hbs
              cases hq : h.get p with
              | none =>
                rw [hq] at ho
                simp at ho; subst ho
                have hq' : h.objs[p]? = none := hq
                have : μ[p]? = none := by
                  rw [List.getElem?_eq_none_iff] at hq' ⊢
                  rw [hr.len]; exact hq'
                show μ2[_]? = _
                rw [hnew, hp]; simp [this]
              | some o' =>
                rw [hq] at ho
                simp at ho; subst ho
                have hids : ∀ i ∈ o'.ids, i < μ.length → μ2[F i]? = μ[i]? := fun i hi hl => hF i (hok' i (List.mem_append_right _ (List.mem_flatMap.2 ⟨p, List.mem_of_getElem? hp, by rw [hq]; simpa using hi⟩))) hl
                have hm2 : ∀ x, μ[p]? = some x → μ2[h0.size + j]? = some x := fun x hx => by rw [hnew, hp]; simp [hx]
                have hor := hr.obj p o' hq
                cases o' with
                | dead => exact hm2 _ hor
                | cells esz cs =>
                  obtain ⟨m, c, e, fr, h1, h2, h3, h4, h5, h6, h7⟩ := hor
                  refine ⟨m, c, e, fr, hm2 _ h1, h2, h3, h4, by rw [renL_length]; exact h5, ?_, fun _ => h7 (by omega)⟩
                  intro k x hk
                  change (AVal.renL F cs)[k]? = _ at hk
                  rw [renL_get, Option.map_eq_some_iff] at hk
                  obtain ⟨y, hy, rfl⟩ := hk
                  obtain ⟨k1, y', k2, k3⟩ := h6 k y hy
                  refine ⟨(isOne_ren F y).trans k1, y', k2, ren_rel F (fun i hi hl => hids i (idsL_mem hy hi) hl) k3⟩
                | map es clock =>
                  obtain ⟨m, es', h1, h2, h3, h4⟩ := hor
                  refine ⟨m, es', hm2 _ h1, h2, by rw [List.length_map]; exact h3, ?_⟩
                  intro k x hk
                  rw [List.getElem?_map, Option.map_eq_some_iff] at hk
                  obtain ⟨y, hy, rfl⟩ := hk
                  obtain ⟨y', k1, k2, k3, k4⟩ := h4 k y hy
                  have hin : ∀ i, i ∈ y.1.ids ∨ i ∈ y.2.1.ids → i ∈ AObj.ids (.map es clock) := fun i hi => by
                    simp only [AObj.ids, List.mem_flatMap, List.mem_append]
                    exact ⟨y, List.mem_of_getElem? hy, hi⟩
                  exact ⟨y', k1, ren_rel F (fun i hi hl => hids i (hin i (.inl hi)) hl) k2, ren_rel F (fun i hi hl => hids i (hin i (.inr hi)) hl) k3, k4⟩
                | iter s pos =>
                  obtain ⟨m, h1, h2⟩ := hor
                  exact ⟨m, hm2 _ h1, h2⟩
                | loop g st pd sl =>
                  obtain ⟨m, r, h1, h2, h3⟩ := hor
                  exact ⟨m, r, hm2 _ h1, h2, h3.ren F hids⟩
          · intro i j mi mj hij hi hmi hmj
            obtain ⟨p, hp, hp'⟩ := hpull i mi hmi
            obtain ⟨q, hq, hq'⟩ := hpull j mj hmj
            have hbs : h0.base ≤ h0.size := hr0.bs
            have hbase : h.base = h0.base := hev.base
            refine hr.sep p q mi mj ?_ (by simp only at hi; omega) hp hq
            intro e
            rcases hp' with ⟨a1, a2⟩ | ⟨a1, a2, a3⟩ <;> rcases hq' with ⟨b1, b2⟩ | ⟨b1, b2, b3⟩
            · omega
            · omega
            · omega
            · subst e
              have := (List.getElem?_inj (lt_of_get a3) hnd).1 (a3.trans b3.symm)
              omega
          · intro i m hm
            obtain ⟨p, hp, _⟩ := hpull i m hm
            exact hr.lt p m hp
      · refine ⟨μ, ?_, hv, hr.same rfl rfl rfl⟩
        exact hst1.fresh _

theorem enter_get : ∀ (args : List AVal) (i t : Nat), sget (enter i args) t = if i ≤ t then (args[t - i]?).map Slot.val else none
  | [], i, t => by simp [enter, sget]
  | v :: r, i, t => by
    simp only [enter, sget]
    split
    · rename_i e; subst e; simp
    · rename_i hne
      rw [enter_get r (i + 1) t]
      by_cases h1 : i + 1 ≤ t
      · rw [if_pos h1, if_pos (by omega), show t - i = (t - (i + 1)) + 1 by omega, List.getElem?_cons_succ]
      · rw [if_neg h1, if_neg (by omega)]

/-- The loops over functions that a code holds are what the table says. -/
def RndOK (E : Env) : List (Nat × ARound) → Prop
  | [] => True
  | p :: r => E.rnd p.1 = some p.2 ∧ RndOK E r

theorem RndOK.of {l : List (Nat × ARound)} (h : RndOK E l) : ∀ p ∈ l, E.rnd p.1 = some p.2 := by
  induction l with
  | nil => simp
  | cons a r ih =>
    intro p hp
    rcases List.mem_cons.1 hp with rfl | hp
    · exact h.1
    · exact ih h.2 p hp

/-- The functions are what the table says. -/
structure Agrees (E : Env) (T : Nat → Option AFunc) : Prop where
  fn : ∀ f g, E.gid f = some g → ∃ fn closed hint af, E.P.funcs[f]? = some fn ∧ T g = some af ∧ cFunc E closed hint fn = some af ∧ RndOK E af.body.rounds
  rnd : ∀ g ar, E.rnd g = some ar → ∃ af, T g = some af ∧ af.round = some ar

def AgreesL (E : Env) (T : Nat → Option AFunc) : List (Nat × Nat) → Prop
  | [] => True
  | p :: r => (∃ fn closed hint af, E.P.funcs[p.1]? = some fn ∧ T p.2 = some af ∧ cFunc E closed hint fn = some af ∧ RndOK E af.body.rounds) ∧ AgreesL E T r

/-- The table's rounds. -/
def rndOf (T : Nat → Option AFunc) (g : Nat) : Option ARound := (T g).bind AFunc.round

theorem agrees_of {P : Program} {T : Nat → Option AFunc} {l : List (Nat × Nat)} (h : AgreesL ⟨P, fun f => List.lookup f l, rndOf T⟩ T l) : Agrees ⟨P, fun f => List.lookup f l, rndOf T⟩ T := by
  constructor
  · intro f g hg
    simp only at hg
    have : ∀ {r : List (Nat × Nat)}, AgreesL ⟨P, fun f => List.lookup f l, rndOf T⟩ T r → List.lookup f r = some g → ∃ fn closed hint af, P.funcs[f]? = some fn ∧ T g = some af ∧ cFunc ⟨P, fun f => List.lookup f l, rndOf T⟩ closed hint fn = some af ∧ RndOK ⟨P, fun f => List.lookup f l, rndOf T⟩ af.body.rounds := by
      intro r
      induction r with
      | nil => intro _ h1; simp at h1
      | cons p r ih =>
        intro h1 h2
        obtain ⟨a, b⟩ := p
        simp only [AgreesL] at h1
        rw [List.lookup_cons] at h2
        split at h2
        · rename_i e
          rw [beq_iff_eq] at e
          subst e
          cases h2
          exact h1.1
        · exact ih h1.2 h2
    exact this h hg
  · intro g ar hg
    simpa [rndOf, Option.bind_eq_some_iff] using hg

theorem Agrees.gid {T : Nat → Option AFunc} (h : Agrees E T) : GidOK E := fun f g hg => by
  obtain ⟨fn, closed, hint, af, h1, h2, h3, _⟩ := h.fn f g hg
  refine ⟨fn, h1, ?_⟩
  unfold cFunc at h3
  split at h3
  case h_2 => cases h3
  rename_i c hb
  split at h3
  case h_2 => cases h3
  split at h3
  case isFalse => cases h3
  rename_i hn
  exact ⟨hn.2, by rw [hb]; rfl⟩

theorem cFunc_round {closed : Bool} {hint : Hint} {fn : Func} {af : AFunc} (h : cFunc E closed hint fn = some af) : af.round = none := by
  unfold cFunc at h
  split at h
  case h_2 => cases h
  split at h
  case h_2 => cases h
  split at h
  case isFalse => cases h
  cases h
  rfl

/-- A frame's way out: the blocks for its rounds' deferred calls are shut; the results are read. -/
theorem leaves_marks {lo : Nat} {μ μ0 : MM} {w0 : World} {s : Slots} {h : Heap} {a : Act} {fn : Func} {rs : List ARes} {vs : List AVal} (hrs : cRess E.P fn.results.toList = some rs) (hvs : resultsL s h rs = some vs) {R : Ending → World → Prop}
    (hR : ∀ v' w', VRel E μ (tupled vs) v' → Step (fun k => lo ≤ k) h.wmin μ0 w0 μ w' → Rel E μ h w' → R (.returned v') w') :
    ∀ (l : List Nat) (νv : Nat → Nat) (w : World), Step (fun k => lo ≤ k) h.wmin μ0 w0 μ w → Rel E μ h w → FRel E lo ⟨νv, l⟩ μ (sget s) a.tmps w → LeavesInM (F0 none) 0 E.P fn a.tmps R (l.map markOf) .returning w
  | [], νv, w, hst, hr, hf => by
    obtain ⟨v', r1, r2⟩ := results_rel hf hr hrs hvs
    exact ⟨v', r1, hR v' w r2 hst hr⟩
  | r :: l, νv, w, hst, hr, hf => by
    have hmem : r ∈ (⟨νv, r :: l⟩ : Fr).ds := List.mem_cons_self ..
    have hnd := hf.nodup
    have hnd' := List.nodup_cons.1 hnd
    obtain ⟨hlo, hblk⟩ := hf.ds r hmem
    have hw : w.putObj r (.deferred none) = withBlock w r (.deferred none) := rfl
    refine ⟨by simp, .inl ⟨r, w.putObj r (.deferred none), rfl, run_takeDeferred hblk, leaves_marks hrs hvs hR l νv _ ?_ ?_ ?_⟩⟩
    · refine hst.trans (Step.mk rfl rfl rfl (by simp) (fun k hk hx _ => ?_) (Nat.le_refl _) (fun _ _ => .inl rfl) fun i m hi hm => absurd (lt_of_get hm) (by omega)) (Nat.le_refl _)
      rw [hw]
      exact withBlock_other (by intro e; subst e; exact hx hlo)
    · exact hr.keep (by simp) fun i m hm => by rw [hw]; exact withBlock_other ((hf.sepd r hmem).1 i m hm).symm
    · refine ⟨hf.val, hf.undef, fun t cs hv => ?_, hf.loc, hf.sepv, hf.sepm, fun q hq => ⟨(hf.ds q (List.mem_cons_of_mem _ hq)).1, ?_⟩, fun q hq => hf.sepd q (List.mem_cons_of_mem _ hq), hnd'.2⟩
      · obtain ⟨h1, h2, c, e, fr, h3, h4⟩ := hf.var t cs hv
        refine ⟨h1, h2, c, e, fr, ?_, h4⟩
        rw [hw]
        exact (withBlock_other ((hf.sepd r hmem).2 t cs hv).symm).trans h3
      · rw [hw]
        refine (withBlock_other ?_).trans (hf.ds q (List.mem_cons_of_mem _ hq)).2
        intro e; subst e; exact hnd'.1 hq

theorem func_sound {call : CallSem} {n : Nat} (hc : CallOK E call) (hev0 : CallEvol call) (hg : GidOK E) (hm : E.P.follows .mixedOrders = true) {f : FuncId} {fn : Func} {closed : Bool} {hint : Hint} {af : AFunc} (hf : E.P.funcs[f]? = some fn) (hcf : cFunc E closed hint fn = some af) (hrd : RndOK E af.body.rounds)
    {args : List AVal} {h : Heap} {v : AVal} {h' : Heap} (hev : evFunc call n af args h = some (v, h')) {μ : MM} {w : World} {args' : Array Value} (ha : VRels E μ args args'.toList) (hr : Rel E μ h w) :
    CallsIn (F0 none) 0 E.P f args' w (Ends E μ w v h') := by
  unfold cFunc at hcf
  split at hcf
  case h_2 => cases hcf
  rename_i c hb
  split at hcf
  case h_2 => cases hcf
  rename_i ac rs hac hrs
  split at hcf
  case isFalse => cases hcf
  rename_i hsz
  cases hcf
  rw [evFunc_eq] at hev
  simp only at hev
  split at hev
  case isFalse => cases hev
  rename_i hlen
  have hal : args'.size = args.length := by have := ha.length; simp at this; exact this.symm
  have hat : At E w.heap.size fn.ntmps μ w [] (enter 0 args) { h with wmin := h.size } { tmps := args' ++ Array.replicate (fn.ntmps - args'.size) undef, defers := [] } w := by
    refine ⟨μ, ⟨fun _ => 0, []⟩, Step.refl _ _ _ _, hr.same rfl rfl rfl, ?_, ?_, rfl, Nat.le_refl _⟩
    · have hval : ∀ (t : Nat) (x : Slot), sget (enter 0 args) t = some x → ∃ v, x = .val v ∧ args[t]? = some v := fun t x hx => by
        rw [enter_get] at hx
        simp at hx
        obtain ⟨v, h1, h2⟩ := hx
        exact ⟨v, h2.symm, h1⟩
      constructor
      · intro t v hv
        obtain ⟨v1, e, h1⟩ := hval t _ hv
        cases e
        obtain ⟨v', h2, h3⟩ := ha.get h1
        refine ⟨v', ?_, h3⟩
        have hlt := lt_of_get h1
        rw [Array.getElem?_append_left (by omega)]
        simpa using h2
      · intro t hx; obtain ⟨_, e, _⟩ := hval t _ hx; cases e
      · intro t cs hx; obtain ⟨_, e, _⟩ := hval t _ hx; cases e
      · intro t t' o cs hx; obtain ⟨_, e, _⟩ := hval t _ hx; cases e
      · intro t t' cs cs' _ hx; obtain ⟨_, e, _⟩ := hval t _ hx; cases e
      · intro t cs i m hx; obtain ⟨_, e, _⟩ := hval t _ hx; cases e
      · intro r hr; cases hr
      · intro r hr; cases hr
      · exact List.nodup_nil
    · simp; omega
  refine callsIn_of_wp_marks hf hb trivial ?_
  have key : ∀ (st : St) (x : AExit), (x = .normal ∨ x = .ret) → evCode call n ac ⟨enter 0 args, { h with wmin := h.size }⟩ = some (x, st) → ((resultsL st.s st.h rs).map fun vs => finish h (tupled vs) st.h) = some (v, h') →
      c.wpIn (F0 none) 0 E.P (bodyPostM (F0 none) 0 E.P fn (Ends E μ w v h')) { tmps := args' ++ Array.replicate (fn.ntmps - args'.size) undef, defers := [] } w := by
    intro st x hx h1 h2
    rw [Option.map_eq_some_iff] at h2
    obtain ⟨vs, h2, h3⟩ := h2
    have hevol := code_evol hev0 n _ _ _ _ h1
    refine code_sound hc hev0 hg hm false (fun _ => rfl) n _ _ _ hac (fun _ => hrd.of) _ _ _ h1 _ _ _ hat ?_
    intro a' w' hat'
    obtain ⟨μ1, ν1, k1, k2, k3, k4, k5, k6⟩ := hat'
    have hl : LeavesInM (F0 none) 0 E.P fn a'.tmps (Ends E μ w v h') a'.defers .returning w' := by
      rw [k5, List.append_nil]
      refine leaves_marks hrs h2 (fun v' w2 r2 k1' k2' => ?_) ν1.ds ν1.v w' k1 k2 k3
      obtain ⟨μ2, s1, s2, s3⟩ := finish_sound rfl hr k1' k2' r2 hevol
      rw [h3] at s1 s2 s3
      exact ⟨v', μ2, rfl, s1, s2, s3⟩
    rcases hx with rfl | rfl <;> exact hl
  unfold outcome at hev
  split at hev
  · rename_i st h1; exact key st _ (.inl rfl) h1 hev
  · rename_i st h1; exact key st _ (.inr rfl) h1 hev
  · cases hev

/-! ## Rounds -/

def Holds (E : Env) (μ : MM) (s : Slots) (tmps : Array Value) : Prop :=
  ∀ (t : Nat) (x : Slot), sget s t = some x → ∃ v, x = .val v ∧ ∃ v', tmps[t]? = some v' ∧ VRel E μ v v'

theorem holds_caps {μ : MM} {tmps : Array Value} : ∀ {sl : List (Nat × AVal)}, (∀ (k : Nat) (x : Nat × AVal), sl[k]? = some x → ∃ v', tmps[x.1]? = some v' ∧ VRel E μ x.2 v') → Holds E μ (ofCaps sl) tmps
  | [], _, t, x, h => by simp [ofCaps, sget] at h
  | (u, v) :: sl, hs, t, x, h => by
    simp only [ofCaps, sget] at h
    split at h
    · rename_i e
      cases h
      obtain ⟨v', h1, h2⟩ := hs 0 (u, v) rfl
      simp only at h1
      exact ⟨v, rfl, v', by rw [← e]; exact h1, h2⟩
    · exact holds_caps (fun k x hk => hs (k + 1) x (by simpa using hk)) t x h

theorem holds_args {μ : MM} : ∀ {ps : List Nat} {as : List AVal} {as' : List Value} {s : Slots} {tmps : Array Value}, VRels E μ as as' → (∀ t ∈ ps, t < tmps.size) → Holds E μ s tmps →
    Holds E μ (setArgs ps as s) ((ps.zip as').foldl (fun tmps (t, a) => tmps.setIfInBounds t a) tmps) ∧ ((ps.zip as').foldl (fun tmps (t, a) => tmps.setIfInBounds t a) tmps).size = tmps.size
  | [], as, as', s, tmps, _, _, h => by cases as <;> exact ⟨h, rfl⟩
  | t :: ts, [], as', s, tmps, ha, _, h => by
    simp only [VRels] at ha
    subst ha
    exact ⟨h, rfl⟩
  | t :: ts, v :: vs, as', s, tmps, ha, hp, h => by
    simp only [VRels] at ha
    obtain ⟨v', r', rfl, h1, h2⟩ := ha
    simp only [setArgs, List.zip_cons_cons, List.foldl_cons]
    have := holds_args (ps := ts) (as := vs) (as' := r') (s := (t, .val v) :: s) (tmps := tmps.setIfInBounds t v') h2 (fun u hu => by simp; exact hp u (List.mem_cons_of_mem _ hu)) (fun u x hx => ?_)
    · refine ⟨this.1, this.2.trans (by simp)⟩
    · simp only [sget] at hx
      have ht := hp t (List.mem_cons_self ..)
      split at hx
      · rename_i e
        cases hx
        subst e
        exact ⟨v, rfl, v', by simp [ht], h1⟩
      · rename_i hne
        obtain ⟨v2, e2, v3, h3, h4⟩ := h u x hx
        exact ⟨v2, e2, v3, by rw [Array.getElem?_setIfInBounds_ne hne]; exact h3, h4⟩

/-- A loop's record changes. -/
theorem At.record {lo nt : Nat} {μ0 : MM} {w0 : World} {ds : List Deferred} {s : Slots} {h : Heap} {a : Act} {w : World} (hat : At E lo nt μ0 w0 ds s h a w) {i g : Nat} {st : LoopSt} {p : Option AExit} {sl : List (Nat × AVal)} (hi : h.get i = some (.loop g st p sl)) (hb : h.base ≤ i)
    {m0 : M} (hm0 : μ0[i]? = some (some m0)) (g2 : Nat) (st2 : LoopSt) (p2 : Option AExit) (sl2 : List (Nat × AVal)) :
    ∃ r, w.heap[m0.blk]? = some (.loop r) ∧ st.is r.state ∧ ∀ r2 : Loop, (∀ μ, LoopRel E μ g st p sl r → LoopRel E μ g2 st2 p2 sl2 r2) → At E lo nt μ0 w0 ds s (h.put i (.loop g2 st2 p2 sl2)) a (w.putObj m0.blk (.loop r2)) := by
  obtain ⟨μ, ν, k1, k2, k3, k4, k5, k6⟩ := hat
  obtain ⟨m, r, q1, q2, q3⟩ := k2.obj i _ hi
  have hm : m = m0 := by
    rcases k1.old i (lt_of_get hm0) with q | ⟨_, q⟩
    · rw [q, hm0] at q1; cases q1; rfl
    · rw [q] at q1; cases q1
  subst hm
  refine ⟨r, q2, q3.st, fun r2 hr2 => ?_⟩
  have hw : w.putObj m.blk (.loop r2) = withBlock w m.blk (.loop r2) := rfl
  rw [hw]
  refine ⟨μ, ν, (k1.trans (Step.put q1 (Nat.min_le_right _ _) _) (Nat.min_le_left _ _)), k2.put hb q1 ?_, ?_, k4, k5, by simpa [withBlock] using k6⟩
  · exact ⟨m, r2, q1, withBlock_same (k2.lt i m q1), hr2 μ q3⟩
  · refine k3.keep (Later.refl μ) (fun t cs hv => withBlock_other (k3.sepm t cs i m hv q1)) (fun t cs j m' hv hj hm' => absurd (lt_of_get hm') (by omega)) fun r hr => ⟨withBlock_other ((k3.sepd r hr).1 i m q1), fun j m' hj hm' => absurd (lt_of_get hm') (by omega)⟩

theorem round_sound {call : CallSem} {n g : Nat} (hc : CallOK E call) (hev0 : CallEvol call) (hg : GidOK E) (hm : E.P.follows .mixedOrders = true) {ar : ARound} (hrnd : E.rnd g = some ar) {i k : Nat} {args : List AVal} {h : Heap} {v : AVal} {h' : Heap} {st : LoopSt} {p : Option AExit} {sl : List (Nat × AVal)}
    (hev : evRound call n g ar (.ptr (some (i, k)) :: args) h = some (v, h')) (hi : h.get i = some (.loop g st p sl)) {μ : MM} {w : World} {args' : Array Value} (ha : VRels E μ args args'.toList) (hr : Rel E μ h w) :
    ∃ (m : M) (r : Loop), μ[i]? = some (some m) ∧ w.heap[m.blk]? = some (.loop r) ∧ args'.size = r.params.size ∧
      RoundIn (F0 none) 0 E.P m.blk r.fn ((r.params.zip args').foldl (fun tmps (t, a) => tmps.setIfInBounds t a) r.tmps) r.assign r.body w (Ends E μ w v h') := by
  obtain ⟨m, r, q1, q2, q3⟩ := hr.obj i _ hi
  obtain ⟨ar', ha1, hb1, e1, e2, e3, e4, e5⟩ := q3.code
  rw [hrnd] at e1
  cases e1
  have hal : args'.size = args.length := by have := ha.length; simp at this; exact this.symm
  unfold evRound at hev
  simp only at hev
  split at hev
  case isFalse => cases hev
  rename_i hlen
  split at hev
  case h_2 => cases hev
  rename_i s hs
  split at hev
  case h_2 => cases hev
  rename_i st1 hst1
  have hps : r.params.size = args'.size := by
    rw [hal, hlen.1, ← e2]; simp
  refine ⟨m, r, q1, q2, hps.symm, ?_⟩
  have hs' : s = setArgs ar.params args (ofCaps sl) := by
    unfold roundSlots at hs
    rw [hi] at hs
    cases hs; rfl
  subst hs'
  have hfold : (r.params.zip args').foldl (fun tmps (t, a) => tmps.setIfInBounds t a) r.tmps = (ar.params.zip args'.toList).foldl (fun tmps (t, a) => tmps.setIfInBounds t a) r.tmps := by
    rw [← e2, ← Array.foldl_toList, Array.toList_zip]
  obtain ⟨hh, hsz⟩ := holds_args ha e3 (holds_caps q3.slots)
  rw [← hfold] at hh hsz
  generalize (r.params.zip args').foldl (fun tmps (t, a) => tmps.setIfInBounds t a) r.tmps = tmps at hh hsz ⊢
  have hat : At E w.heap.size r.tmps.size μ w [] (setArgs ar.params args (ofCaps sl)) { h with wmin := h.size } { tmps := tmps, defers := [] } w := by
    refine ⟨μ, ⟨fun _ => 0, []⟩, Step.refl _ _ _ _, hr.same rfl rfl rfl, ?_, hsz, rfl, Nat.le_refl _⟩
    constructor
    · intro t v hv
      obtain ⟨v1, e, h1⟩ := hh t _ hv
      cases e
      exact h1
    · intro t hx; obtain ⟨_, e, _⟩ := hh t _ hx; cases e
    · intro t cs hx; obtain ⟨_, e, _⟩ := hh t _ hx; cases e
    · intro t t' o cs hx; obtain ⟨_, e, _⟩ := hh t _ hx; cases e
    · intro t t' cs cs' _ hx; obtain ⟨_, e, _⟩ := hh t _ hx; cases e
    · intro t cs i m hx; obtain ⟨_, e, _⟩ := hh t _ hx; cases e
    · intro r hr; cases hr
    · intro r hr; cases hr
    · exact List.nodup_nil
  refine roundIn_of_wpIn trivial ?_
  show Code.wpIn (F0 (some m.blk)) 0 E.P r.assign _ _ _
  unfold roundIn at hst1
  split at hst1
  case h_2 => cases hst1
  rename_i st2 he1
  split at hst1
  case h_2 => cases hst1
  rename_i g' p' sl' hgi
  split at hst1
  case isFalse => cases hst1
  rename_i hgg
  subst hgg
  cases hst1
  have hevA := code_evol hev0 n _ _ _ _ he1
  refine code_sound hc hev0 hg hm true (fun h => by cases h) n _ _ _ e4 (fun h => by cases h) _ _ _ he1 _ _ _ hat fun a1 w1 hat1 => ?_
  have hbi : st2.h.base ≤ i := by rw [hevA.base]; exact hlen.2
  obtain ⟨r1, f1, f2, f3⟩ := hat1.record hgi hbi q1 g' .busy p' sl'
  refine ⟨_, run_beginRound f1 f2, ?_⟩
  have hat2 := f3 { r1 with state := .busy } fun μ q => ⟨q.code, rfl, q.pend, q.slots⟩
  show Code.wpIn (F0 (some m.blk)) 0 E.P r.body _ _ _
  unfold roundOut at hev
  split at hev
  case h_2 => cases hev
  rename_i e st3 he2
  split at hev
  case h_2 => cases hev
  rename_i g3 st4 p4 sl4 hg4
  split at hev
  case isFalse => cases hev
  rename_i hgg
  subst hgg
  have hfin := Option.some.inj hev
  have hevB := code_evol hev0 n _ _ _ _ he2
  refine code_sound hc hev0 hg hm true (fun h => by cases h) n _ _ _ e5 (fun h => by cases h) _ _ _ he2 _ _ _ hat2 fun a3 w3 hat3 => ?_
  have hbi3 : st3.h.base ≤ i := by rw [hevB.base]; exact hbi
  obtain ⟨r3, j1, j2, j3⟩ := hat3.record hg4 hbi3 q1 g3 (if e = .normal then .ready else .done) (if e = .normal then none else some e) sl4
  have hend : ∀ (jump : Option Code) (st5 : LoopSt) (p5 : Option AExit), st5 = (if e = .normal then .ready else .done) → p5 = (if e = .normal then none else some e) → jump = p5.map AExit.code → jump.isNone = decide (e = .normal) →
      ∃ v1 w', (Instr.endRound m.blk jump).run E.P w3 = .ok v1 w' ∧ Ends E μ w v h' (.returned v1) w' := by
    intro jump st5 p5 h1 h2 h3 h4
    rw [← h1, ← h2] at hfin
    refine ⟨_, _, run_endRound jump j1, ?_⟩
    have hst5 : st5.is (if jump.isNone then .ready else .done : LoopState) := by
      rw [h4, h1]
      by_cases hn : e = .normal <;> simp [hn, LoopSt.is]
    have hat4 := j3 { r3 with state := if jump.isNone then .ready else .done, pending := jump } fun μ q => ⟨q.code, by rw [← h1]; exact hst5, by rw [← h2]; exact h3, q.slots⟩
    rw [← h1, ← h2] at hat4
    obtain ⟨μ5, ν5, l1, l2, l3, l4, l5, l6⟩ := hat4
    have hv : VRel E μ5 (.bool (decide (e = .normal))) (.bool jump.isNone) := by rw [h4]; simp [VRel]
    have hx : Evol { h with wmin := h.size } st3.h := (Evol.trans hevA (Evol.put _ _ _)).trans hevB
    obtain ⟨μ6, s1, s2, s3⟩ := finish_sound rfl hr l1 l2 hv (hx.trans (Evol.put _ _ _))
    rw [hfin] at s1 s2 s3
    exact ⟨_, μ6, rfl, s1, s2, s3⟩
  cases e with
  | normal => exact hend none _ _ rfl rfl rfl rfl
  | ret => exact hend (some .ret) _ _ rfl rfl rfl rfl
  | exit id => exact hend (some (.exit id)) _ _ rfl rfl rfl rfl

theorem call_sound {T : Nat → Option AFunc} (hT : Agrees E T) (hm : E.P.follows .mixedOrders = true) : ∀ n, CallOK E (evCall T n)
  | 0 => ⟨by intro g args h v h' e; simp [evCall] at e, by intro g i k args h v h' st p sl e; simp [evCall] at e⟩
  | n + 1 => by
    constructor
    · intro g args h v h' e f hf μ w args' ha hr
      obtain ⟨fn, closed, hint, af, h1, h2, h3, h4⟩ := hT.fn f g hf
      simp only [evCall, h2, cFunc_round h3] at e
      have key : ∀ (args : List AVal) (h : Heap) (v : AVal) (h' : Heap), evFunc (evCall T n) n af args h = some (v, h') → ∀ (μ : MM) (w : World) (args' : Array Value), VRels E μ args args'.toList → Rel E μ h w →
          CallsIn (F0 none) 0 E.P f args' w (Ends E μ w v h') := fun args h v h' e μ w args' ha hr =>
        func_sound (call_sound hT hm n) (call_evol T n) hT.gid hm h1 h3 h4 e ha hr
      cases hcl : af.closed with
      | false => rw [hcl] at e; exact key _ _ _ _ e _ _ _ ha hr
      | true =>
        rw [hcl] at e
        simp only [wrapC, evClosed, if_true] at e
        split at e
        case isFalse => cases e
        rename_i hu
        split at e
        case h_2 => cases e
        rename_i v0 h0 he
        split at e
        case isFalse => cases e
        rename_i hv0
        cases e
        have hr0 : Rel E [] ⟨[], 0, 0⟩ w := ⟨rfl, Nat.le_refl _, by simp, by simp, by simp⟩
        refine CallsIn.mono (F := F0 none) (n := 0) (key _ _ _ _ he [] w args' (unders_rel (n := 0) (fun i hi => absurd hi (by omega)) hu ha) hr0) fun e w' ⟨v', μ', h1, h2, h3, _⟩ => ?_
        have hb : ∀ k, k < w.heap.size → w'.heap[k]? = w.heap[k]? := fun k hk => h2.block k hk (fun h => h) fun i m _ hm => by simp at hm
        refine ⟨v', μ, h1, ⟨h2.os, h2.tape, h2.output, h2.size, fun k hk _ _ => hb k hk, Nat.le_refl _, fun _ _ => .inl rfl, fun i m hi hm => absurd (lt_of_get hm) (by omega)⟩,
          under_rel (n := 0) (fun i hi => absurd hi (by omega)) hv0 h3, hr.keep h2.size fun i m hm => hb _ (hr.lt i m hm)⟩
    · intro g i k args h v h' st p sl e hi μ w args' ha hr
      obtain ⟨m, r, q1, q2, q3⟩ := hr.obj i _ hi
      obtain ⟨ar, _, _, e1, _⟩ := q3.code
      obtain ⟨af, e2, e3⟩ := hT.rnd g ar e1
      simp only [evCall, e2, e3] at e
      exact round_sound (call_sound hT hm n) (call_evol T n) hT.gid hm e1 e hi ha hr

/-- What the machine gives is what the model's call gives. -/
theorem x_sound {T : Nat → Option AFunc} (hT : Agrees E T) (hm : E.P.follows .mixedOrders = true) {g : Nat} {args : List AVal} {h : Heap} {v : AVal} {h' : Heap} (e : xCall T g args h = some (v, h')) {f : FuncId} (hf : E.gid f = some g) {μ : MM} {w : World} {args' : Array Value} (ha : VRels E μ args args'.toList) (hr : Rel E μ h w) :
    Calls E.P f args' w (Ends E μ w v h') := by
  obtain ⟨n, hn⟩ := (xCall_iff T _ _ _ _).1 e
  exact callsIn_wide.1 ((call_sound hT hm n).fn g args h v h' hn f hf μ w args' ha hr)

end
end Go.Abs
