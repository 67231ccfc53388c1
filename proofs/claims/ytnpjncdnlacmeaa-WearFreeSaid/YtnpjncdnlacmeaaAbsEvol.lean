/-
  What the evaluator leaves alone: objects whose numbers lie below 'wmin' are as they were.
-/
import Derived.Test.YtnpjncdnlacmeaaAbsLim
namespace Go.Abs

structure Evol (h h' : Heap) : Prop where
  size : h.size ≤ h'.size
  base : h'.base = h.base
  wmin : h'.wmin ≤ h.wmin
  objs : ∀ i, i < h.size → i < h'.wmin → h'.objs[i]? = h.objs[i]?

theorem Evol.refl (h : Heap) : Evol h h := ⟨Nat.le_refl _, rfl, Nat.le_refl _, fun _ _ _ => rfl⟩
theorem Evol.trans {a b c : Heap} (h : Evol a b) (k : Evol b c) : Evol a c :=
  ⟨Nat.le_trans h.size k.size, k.base.trans h.base, Nat.le_trans k.wmin h.wmin, fun i hi hw =>
    (k.objs i (Nat.lt_of_lt_of_le hi h.size) hw).trans (h.objs i hi (Nat.lt_of_lt_of_le hw k.wmin))⟩

theorem Evol.push (h : Heap) (o : AObj) : Evol h (h.push o) :=
  ⟨by simp [Heap.push, Heap.size], rfl, Nat.le_refl _, fun i hi _ => by simp only [Heap.push]; rw [List.getElem?_append_left hi]⟩

theorem Evol.put (h : Heap) (i : Nat) (o : AObj) : Evol h (h.put i o) :=
  ⟨by simp [Heap.put, Heap.size], rfl, Nat.min_le_left _ _, fun j _ hw => by
    simp only [Heap.put] at hw ⊢
    rw [List.getElem?_set_ne]
    omega⟩

def CallEvol (call : CallSem) : Prop := ∀ g args h v h', call g args h = some (v, h') → Evol h h'

theorem ok1_evol {s : Slots} {h : Heap} {v : Option AVal} {x : Slot} {s' : Slots} {h' : Heap} (e : ok1 s h v = some (x, s', h')) : Evol h h' := by
  unfold ok1 at e
  rw [Option.map_eq_some_iff] at e
  obtain ⟨u, _, e⟩ := e
  cases e
  exact Evol.refl _

theorem store_evol {s : Slots} {h : Heap} {ad : AAddr} {xs : List AVal} {s' : Slots} {h' : Heap} (e : storeAt s h ad xs = some (s', h')) : Evol h h' := by
  unfold storeAt at e
  split at e
  · split at e
    · split at e
      · cases e; exact Evol.put _ _ _
      · cases e
    · cases e
  · split at e
    · split at e
      · cases e; exact Evol.refl _
      · cases e
    · cases e

theorem append_evol {esz bytes : Nat} {h : Heap} {x y v : AVal} {h' : Heap} (e : aAppend esz bytes h x y = some (v, h')) : Evol h h' := by
  unfold aAppend at e
  split at e
  · split at e
    · unfold aApp at e
      split at e
      · cases e; exact Evol.refl _
      · split at e
        · split at e
          · cases e; exact Evol.push _ _
          · split at e
            · cases e; exact Evol.push _ _
            · split at e
              · cases e; exact (Evol.put _ _ _).trans (Evol.push _ _)
              · cases e
        · cases e
    · cases e
  · cases e

theorem ext_evol {k : ExtOp} {vs : List AVal} {h : Heap} {v : AVal} {h' : Heap} (e : evExt k vs h = some (v, h')) : Evol h h' := by
  unfold evExt at e
  repeat' split at e
  all_goals first
    | (cases e; done)
    | (cases e; exact Evol.refl _)
    | (cases e; exact Evol.push _ _)
    | (cases e; exact Evol.put _ _ _)
    | (rw [Option.map_eq_some_iff] at e; obtain ⟨_, _, e⟩ := e; cases e; exact Evol.refl _)

theorem op_evol {call : CallSem} (hc : CallEvol call) {d : Nat} {o : AOp} {s : Slots} {h : Heap} {x : Slot} {s' : Slots} {h' : Heap} (e : evOp call d o s h = some (x, s', h')) : Evol h h' := by
  cases o with
  | call f args =>
    simp only [evOp] at e
    split at e
    · rw [Option.map_eq_some_iff] at e
      obtain ⟨⟨v, h1⟩, h2, e⟩ := e
      cases e
      exact hc _ _ _ _ _ h2
    · split at e
      · rw [Option.map_eq_some_iff] at e
        obtain ⟨⟨v, h1⟩, h2, e⟩ := e
        cases e
        exact hc _ _ _ _ _ h2
      · cases e
    · cases e
  | ext k xs =>
    simp only [evOp] at e
    split at e
    · rw [Option.map_eq_some_iff] at e
      obtain ⟨⟨v, h1⟩, h2, e⟩ := e
      cases e
      exact ext_evol h2
    · cases e
  | callg g args =>
    simp only [evOp] at e
    split at e
    · rw [Option.map_eq_some_iff] at e
      obtain ⟨⟨v, h1⟩, h2, e⟩ := e
      cases e
      exact hc _ _ _ _ _ h2
    · cases e
  | append es b y z =>
    simp only [evOp] at e
    split at e
    · rw [Option.map_eq_some_iff] at e
      obtain ⟨⟨v, h1⟩, h2, e⟩ := e
      cases e
      exact append_evol h2
    · cases e
  | store n y z =>
    simp only [evOp] at e
    split at e
    · split at e
      · rw [Option.map_eq_some_iff] at e
        obtain ⟨⟨v, h1⟩, h2, e⟩ := e
        cases e
        exact store_evol h2
      · cases e
    · cases e
  | conv k y =>
    simp only [evOp] at e
    split at e
    · unfold evConv at e
      repeat' split at e
      all_goals first
        | (cases e; done)
        | exact ok1_evol e
        | (cases e; exact Evol.push _ _)
    · cases e
  | _ =>
    simp only [evOp] at e
    repeat' split at e
    all_goals first
      | (cases e; done)
      | exact ok1_evol e
      | (cases e; exact Evol.push _ _)
      | (cases e; exact Evol.refl _)
      | (rw [Option.map_eq_some_iff] at e; obtain ⟨_, _, e⟩ := e; cases e; exact Evol.refl _)

theorem oper_evol {call : CallSem} (hc : CallEvol call) {o : AOper} {s : Slots} {h : Heap} {s' : Slots} {h' : Heap} (e : evOper call o s h = some (s', h')) : Evol h h' := by
  have run : evRun call o s h = some (s', h') → Evol h h' := by
    intro e
    unfold evRun at e
    split at e
    · rename_i x s1 h1 h2
      cases e
      exact op_evol hc h2
    · cases e
  unfold evOper at e
  split at e
  · exact run e
  · split at e
    · split at e
      · exact run e
      · cases e; exact Evol.refl _
    · cases e; exact Evol.refl _
    · cases e

theorem ops_evol {call : CallSem} (hc : CallEvol call) : ∀ {l : List AOper} {s : Slots} {h : Heap} {s' : Slots} {h' : Heap}, evOps call l s h = some (s', h') → Evol h h'
  | [], _, _, _, _, e => by simp only [evOps] at e; cases e; exact Evol.refl _
  | o :: l, s, h, s', h', e => by
    simp only [evOps] at e
    split at e
    · rename_i s1 h1 h2
      exact (oper_evol hc h2).trans (ops_evol hc e)
    · cases e

theorem quiet_evol {call : CallSem} : ∀ {l : List AOper} {s : Slots} {h : Heap} {s' : Slots} {h' : Heap}, evQuiet call l s h = some (s', h') → h' = h
  | [], _, _, _, _, e => by simp only [evQuiet] at e; cases e; rfl
  | o :: l, s, h, s', h', e => by
    simp only [evQuiet] at e
    split at e
    · split at e
      · exact quiet_evol e
      · cases e
    · cases e

theorem killRange_length (lo hi : Nat) (os : List AObj) : (killRange lo hi os).length = os.length := by simp [killRange]

theorem hide_length (m : Nat) : ∀ (ds : List Did) (y : Nat) (os : List AObj), (hide m y ds os).length = os.length
  | [], _, _ => rfl
  | d :: r, y, os => by
    simp only [hide]
    rw [hide_length m r]
    split
    · rfl
    · exact killRange_length ..

theorem hide_all (m : Nat) : ∀ (ds : List Did) (y : Nat) (os : List AObj), allSeen m y ds = true → hide m y ds os = os
  | [], _, _, _ => rfl
  | d :: r, y, os, h => by
    simp only [allSeen, Bool.and_eq_true] at h
    simp only [hide]
    rw [if_pos h.1]
    exact hide_all m r _ _ h.2

theorem openOne_evol {call : CallSem} (hc : CallEvol call) {n0 m : Nat} {ds : List Did} {o : AOper} {s : Slots} {h : Heap} {y : Slot} {h' : Heap} {d : Did} (e : openOne call n0 m ds o s h = some (y, h', d)) : Evol h h' := by
  have hno : CallEvol noCall := fun _ _ _ _ _ e => by simp [noCall] at e
  unfold openOne at e
  split at e
  · cases e
  · split at e
    · split at e
      · cases e
      · rename_i s1 h1 he
        have hev := oper_evol hc he
        have hsz : h.size ≤ h1.size := by
          have := hev.size
          simp only [Heap.size, hide_length] at this
          exact this
        simp only at e
        split at e
        · rename_i hw
          split at e
          · rename_i hall
            cases e
            refine ⟨hsz, rfl, Nat.min_le_left _ _, fun i hi hi' => ?_⟩
            simp only at hi'
            have := hev.objs i (by simp only [Heap.size, hide_length]; exact hi) (by omega)
            simp only [hide_all m ds 0 h.objs hall] at this
            exact this
          · cases e
        · rename_i hw
          split at e
          · rename_i hall
            cases e
            refine ⟨hsz, rfl, Nat.le_refl _, fun i hi hi' => ?_⟩
            have := hev.objs i (by simp only [Heap.size, hide_length]; exact hi) (by omega)
            simp only [hide_all m ds 0 h.objs hall] at this
            exact this
          · split at e
            · cases e
              refine ⟨by simp [Heap.size], rfl, Nat.le_refl _, fun i hi _ => ?_⟩
              simp only
              rw [List.getElem?_append_left hi]
            · cases e
    · split at e
      · cases e
      · rename_i s1 h1 he
        have hev := oper_evol hno he
        simp only at e
        split at e
        · split at e
          · cases e; exact Evol.refl _
          · cases e
        · rename_i hsz1
          split at e
          · rename_i hsz
            split at e
            · split at e
              · split at e
                · rename_i hw
                  cases e
                  refine ⟨?_, rfl, Nat.le_refl _, fun i hi _ => hev.objs i hi (by rw [hw]; exact hi)⟩
                  show h.size ≤ h1.size; omega
                · cases e
                  refine ⟨?_, rfl, Nat.min_le_left _ _, fun i hi hi' => hev.objs i hi (by simp only at hi'; omega)⟩
                  show h.size ≤ h1.size; omega
              · cases e
            · cases e
          · cases e

theorem openAll_evol {call : CallSem} (hc : CallEvol call) {n0 : Nat} : ∀ {ops : List AOper} {ms : List Nat} {ds : List Did} {s : Slots} {h : Heap} {s' : Slots} {h' : Heap}, openAll call n0 ms ops ds s h = some (s', h') → Evol h h'
  | [], _, _, _, _, _, _, e => by simp only [openAll] at e; cases e; exact Evol.refl _
  | o :: l, ms, ds, s, h, s', h', e => by
    simp only [openAll] at e
    split at e
    · rename_i y h1 d he
      split at e
      · exact (openOne_evol hc he).trans (openAll_evol hc e)
      · cases e
    · cases e

theorem segs_evol {call : CallSem} (hc : CallEvol call) : ∀ {l : List Seg} {s : Slots} {h : Heap} {s' : Slots} {h' : Heap}, evSegs call l s h = some (s', h') → Evol h h'
  | [], _, _, _, _, e => by simp only [evSegs] at e; cases e; exact Evol.refl _
  | g :: l, s, h, s', h', e => by
    simp only [evSegs] at e
    split at e
    · rename_i s1 h1 h2
      refine Evol.trans ?_ (segs_evol hc e)
      split at h2
      · split at h2
        · rw [quiet_evol h2]; exact Evol.refl _
        · exact openAll_evol hc h2
      · exact ops_evol hc h2
    · cases e

theorem loop_evol {f : St → Option (AExit × St)} (hf : ∀ st e st', f st = some (e, st') → Evol st.h st'.h) : ∀ (n : Nat) (st : St) (e : AExit) (st' : St), loopN f n st = some (e, st') → Evol st.h st'.h
  | 0, _, _, _, h => by simp [loopN] at h
  | n + 1, st, e, st', h => by
    simp only [loopN] at h
    split at h
    · rename_i st1 h1
      exact (hf _ _ _ h1).trans (loop_evol hf n _ _ _ h)
    · exact hf _ _ _ h

theorem code_evol {call : CallSem} (hc : CallEvol call) (n : Nat) : ∀ (c : ACode) (st : St) (e : AExit) (st' : St), evCode call n c st = some (e, st') → Evol st.h st'.h := by
  intro c
  induction c with
  | skip => intro st e st' h; simp only [evCode] at h; cases h; exact Evol.refl _
  | region gs =>
    intro st e st' h
    simp only [evCode] at h
    rw [Option.map_eq_some_iff] at h
    obtain ⟨⟨s1, h1⟩, h2, h⟩ := h
    cases h
    exact segs_evol hc h2
  | seq a b iha ihb =>
    intro st e st' h
    simp only [evCode] at h
    split at h
    · rename_i st1 h1
      exact (iha _ _ _ h1).trans (ihb _ _ _ h)
    · exact iha _ _ _ h
  | cond c t e iht ihe =>
    intro st e st' h
    simp only [evCode] at h
    split at h
    · exact iht _ _ _ h
    · exact ihe _ _ _ h
    · cases h
  | block id a ih =>
    intro st e st' h
    simp only [evCode] at h
    split at h
    · rename_i j st1 h1
      split at h <;> cases h <;> exact ih _ _ _ h1
    · exact ih _ _ _ h
  | loop a ih => intro st e st' h; exact loop_evol ih n _ _ _ h
  | exit id => intro st e st' h; simp only [evCode] at h; cases h; exact Evol.refl _
  | ret => intro st e st' h; simp only [evCode] at h; cases h; exact Evol.refl _
  | live l a ih => intro st e st' h; simp only [evCode] at h; have h2 := ih _ _ _ h; exact h2
  | after a l ih =>
    intro st e st' h
    simp only [evCode] at h
    split at h
    · rename_i st1 h1
      cases h
      have h2 := ih _ _ _ h1
      exact h2
    · exact ih _ _ _ h
  | rangeFunc f g caps ps a b _ _ =>
    intro st e st' h
    simp only [evCode] at h
    split at h
    · rename_i fv sl _ _
      split at h
      · rename_i x h1 he
        have h2 : Evol (st.h.push (.loop g .ready none sl)) h1 := by
          unfold callVal at he
          split at he
          · exact hc _ _ _ _ _ he
          · cases he
        have h3 : Evol h1 st'.h := by
          unfold loopEnd at h
          split at h
          · split at h
            · cases h
            · cases h; exact Evol.put _ _ _
          · cases h
        exact (Evol.push _ _).trans (h2.trans h3)
      · cases h
    · cases h

theorem finish_evol {h0 h : Heap} {v : AVal} (hb : h.base = h0.base) (hs : h0.size ≤ h.size) (ho : ∀ i, i < h0.size → i < h.wmin → h.objs[i]? = h0.objs[i]?) : Evol h0 (finish h0 v h).2 := by
  unfold finish
  split
  · exact ⟨hs, hb, Nat.min_le_left _ _, fun i hi hw => ho i hi (by simp only at hw; omega)⟩
  · rename_i hw
    split
    · exact Evol.refl _
    · simp only
      split
      · exact ⟨by simp [Heap.size], rfl, Nat.le_refl _, fun i hi _ => by simp only; rw [List.getElem?_append_left hi]⟩
      · exact ⟨hs, hb, Nat.le_refl _, fun i hi _ => ho i hi (by omega)⟩

theorem func_evol {call : CallSem} (hc : CallEvol call) {n : Nat} {f : AFunc} {args : List AVal} {h : Heap} {v : AVal} {h' : Heap} (e : evFunc call n f args h = some (v, h')) : Evol h h' := by
  rw [evFunc_eq] at e
  split at e
  · unfold outcome at e
    have key : ∀ (st : St) (x : AExit), evCode call n f.body ⟨enter 0 args, { h with wmin := h.size }⟩ = some (x, st) → ((resultsL st.s st.h f.results).map fun vs => finish h (tupled vs) st.h) = some (v, h') → Evol h h' := by
      intro st x h1 h2
      rw [Option.map_eq_some_iff] at h2
      obtain ⟨vs, _, h2⟩ := h2
      have h3 := code_evol hc n _ _ _ _ h1
      have h4 := finish_evol (h0 := h) (h := st.h) (v := tupled vs) h3.base h3.size (fun i hi hw => h3.objs i hi hw)
      rw [h2] at h4
      exact h4
    split at e
    · rename_i st h1; exact key st _ h1 e
    · rename_i st h1; exact key st _ h1 e
    · cases e
  · cases e

theorem round_evol {call : CallSem} (hc : CallEvol call) {n g : Nat} {r : ARound} {args : List AVal} {h : Heap} {v : AVal} {h' : Heap} (e : evRound call n g r args h = some (v, h')) : Evol h h' := by
  unfold evRound at e
  split at e
  · split at e
    · split at e
      · split at e
        · rename_i i _ as _ _ s _ _ st he
          have h1 : Evol { h with wmin := h.size } st.h := by
            unfold roundIn at he
            split at he
            · rename_i st0 h0
              split at he
              · split at he
                · cases he; exact (code_evol hc n _ _ _ _ h0).trans (Evol.put _ _ _)
                · cases he
              · cases he
            · cases he
          unfold roundOut at e
          split at e
          · rename_i x st1 h2
            have h3 := h1.trans (code_evol hc n _ _ _ _ h2)
            split at e
            · rename_i sl2 _
              split at e
              · injection e with e
                have h4 := h3.trans (Evol.put st1.h i (.loop g (if x = .normal then .ready else .done) (if x = .normal then none else some x) sl2))
                have h5 := finish_evol (h0 := h) (v := .bool (decide (x = .normal))) h4.base h4.size fun i hi hw => h4.objs i hi hw
                rw [e] at h5
                exact h5
              · cases e
            · cases e
          · cases e
        · cases e
      · cases e
    · cases e
  · cases e

theorem wrapC_evol {r : List AVal → Heap → Option (AVal × Heap)} (hr : ∀ args h v h', r args h = some (v, h') → Evol h h') {c : Bool} {args : List AVal} {h : Heap} {v : AVal} {h' : Heap} (e : wrapC c r args h = some (v, h')) : Evol h h' := by
  cases c with
  | false => exact hr _ _ _ _ e
  | true =>
    simp only [wrapC, evClosed, if_true] at e
    split at e
    · split at e
      · split at e
        · cases e; exact Evol.refl _
        · cases e
      · cases e
    · cases e

theorem call_evol (T : Nat → Option AFunc) : ∀ n, CallEvol (evCall T n)
  | 0 => by intro g args h v h' e; simp [evCall] at e
  | n + 1 => by
    intro g args h v h' e
    simp only [evCall] at e
    split at e
    · split at e
      · exact round_evol (call_evol T n) e
      · exact wrapC_evol (fun _ _ _ _ e => func_evol (call_evol T n) e) e
    · cases e

end Go.Abs
