/-
  A statement whose order is open: whatever order is drawn, it does what the evaluator says.
-/
import Derived.Test.YtnpjncdnlacmeaaAbsQuiet
namespace Go.Abs

/-- j waits for i, directly or through others. -/
inductive Chain (ops : Array Oper) : Nat → Nat → Prop where
  | one {j : Nat} {o : Oper} {e : Edge} : ops[j]? = some o → e ∈ o.after → Region.binds .any e = true → Chain ops j e.on
  | step {j i : Nat} {o : Oper} {e : Edge} : ops[j]? = some o → e ∈ o.after → Region.binds .any e = true → Chain ops e.on i → Chain ops j i

section
variable {ops : Array Oper}

theorem mask_bit (acc : List Nat) (i : Nat) : ∀ (l : List Edge) (s : Nat), (l.foldl (fun s e => if Region.binds .any e then s ||| 2 ^ e.on ||| acc.getD e.on 0 else s) s).testBit i = true →
    s.testBit i = true ∨ ∃ e ∈ l, Region.binds .any e = true ∧ (e.on = i ∨ (acc.getD e.on 0).testBit i = true)
  | [], s, h => .inl h
  | e :: l, s, h => by
    simp only [List.foldl_cons] at h
    rcases mask_bit acc i l _ h with h1 | ⟨e', h1, h2, h3⟩
    · split at h1
      · rename_i hb
        rw [Nat.testBit_or, Nat.testBit_or, Nat.testBit_two_pow] at h1
        simp only [Bool.or_eq_true, decide_eq_true_eq] at h1
        rcases h1 with (h1 | h1) | h1
        · exact .inl h1
        · exact .inr ⟨e, List.mem_cons_self .., hb, .inl h1⟩
        · exact .inr ⟨e, List.mem_cons_self .., hb, .inr h1⟩
      · exact .inl h1
    · exact .inr ⟨e', List.mem_cons_of_mem _ h1, h2, h3⟩

theorem befs_length : ∀ (l : List Oper) (acc : List Nat), (befs l acc).length = acc.length + l.length
  | [], acc => by simp [befs]
  | o :: l, acc => by simp [befs, befs_length l]; omega

theorem befs_chain : ∀ (l : List Oper) (acc : List Nat), ops.toList.drop acc.length = l → (∀ k i, (acc.getD k 0).testBit i = true → Chain ops k i) →
    ∀ k i, ((befs l acc).getD k 0).testBit i = true → Chain ops k i
  | [], acc, _, h, k, i, hb => h k i hb
  | o :: l, acc, hd, h, k, i, hb => by
    simp only [befs] at hb
    have ho : ops[acc.length]? = some o := by
      have := congrArg (fun l => l[0]?) hd
      simpa using this
    refine befs_chain l (acc ++ [maskOf acc o]) ?_ (fun k' i' hk => ?_) k i hb
    · have := congrArg List.tail hd
      simpa using this
    · rcases Nat.lt_trichotomy k' acc.length with h1 | h1 | h1
      · rw [List.getD_eq_getElem?_getD, List.getElem?_append_left h1, ← List.getD_eq_getElem?_getD] at hk
        exact h k' i' hk
      · subst h1
        rw [List.getD_eq_getElem?_getD, List.getElem?_append_right (Nat.le_refl _)] at hk
        simp at hk
        rcases mask_bit acc i' _ _ hk with h2 | ⟨e, h2, h3, h4⟩
        · simp at h2
        · have he : e ∈ o.after := by simpa using h2
          rcases h4 with rfl | h4
          · exact .one ho he h3
          · exact .step ho he h3 (h _ _ h4)
      · rw [List.getD_eq_getElem?_getD, List.getElem?_eq_none (by simp; omega)] at hk
        simp at hk

/-- What is listed: with each all that it waits for. -/
def Down (ops : Array Oper) (listed : Array Bool) : Prop :=
  ∀ (j : Nat) (o : Oper) (e : Edge), listed[j]? = some true → ops[j]? = some o → e ∈ o.after → Region.binds .any e = true → listed[e.on]? = some true

theorem chain_listed {listed : Array Bool} (hd : Down ops listed) {j i : Nat} (hc : Chain ops j i) : (∀ (o : Oper) (e : Edge), ops[j]? = some o → e ∈ o.after → Region.binds .any e = true → listed[e.on]? = some true) → listed[i]? = some true := by
  induction hc with
  | one ho he hb => intro h; exact h _ _ ho he hb
  | step ho he hb _ ih =>
    intro h
    exact ih fun o' e' ho' he' hb' => hd _ _ _ (h _ _ ho he hb) ho' he' hb'

theorem ready_mem {listed : Array Bool} (hs : listed.size = ops.size) {i : Nat} (h : i ∈ Region.ready .any ops listed) :
    ∃ o, ops[i]? = some o ∧ listed[i]? = some false ∧ ∀ e, e ∈ o.after → Region.binds .any e = true → listed[e.on]? = some true := by
  unfold Region.ready at h
  rw [List.mem_filter] at h
  obtain ⟨h1, h2⟩ := h
  rw [List.mem_range] at h1
  simp only [Bool.and_eq_true, Bool.not_eq_true'] at h2
  obtain ⟨h2, h3⟩ := h2
  have ho : ops[i]? = some ops[i] := by simp [h1]
  refine ⟨ops[i], ho, ?_, fun e he hb => ?_⟩
  · have : listed[i]? = some listed[i] := by simp [hs, h1]
    rw [this]
    simp [hs, h1] at h2
    rw [h2]
  · rw [ho] at h3
    simp only [Option.map_some, Option.getD_some, Array.all_eq_true'] at h3
    have := h3 e he
    simp only [hb, Bool.not_true, Bool.false_or] at this
    rw [Array.getD_eq_getD_getElem?] at this
    cases hl : listed[e.on]? with
    | none => rw [hl] at this; simp at this
    | some b => rw [hl] at this; simp at this; rw [this]

theorem all_listed (hb : edgesBack ops = true) {listed : Array Bool} (hs : listed.size = ops.size) (h : Region.ready .any ops listed = []) : ∀ i, i < ops.size → listed[i]? = some true := by
  intro i
  induction i using Nat.strongRecOn with
  | _ i ih =>
    intro hi
    rcases Bool.eq_false_or_eq_true listed[i] with h1 | h1
    · simp [hs, hi, h1]
    · exfalso
      have : i ∈ Region.ready .any ops listed := by
        unfold Region.ready
        rw [List.mem_filter]
        refine ⟨List.mem_range.2 hi, ?_⟩
        have ho : ops[i]? = some ops[i] := by simp [hi]
        rw [ho]
        simp only [Bool.and_eq_true, Bool.not_eq_true', Option.map_some, Option.getD_some, Array.all_eq_true']
        refine ⟨by simp [hs, hi, h1], fun e he => ?_⟩
        cases hbb : Region.binds .any e with
        | false => rfl
        | true =>
          have hlt : e.on < i := by
            unfold edgesBack at hb
            rw [List.all_eq_true] at hb
            have := hb i (List.mem_range.2 hi)
            rw [ho] at this
            simp only [Array.all_eq_true'] at this
            have := this e he
            simpa [hbb] using this
          have := ih e.on hlt (by omega)
          simp [Array.getD_eq_getD_getElem?, this]
      rw [h] at this
      cases this

theorem opers_get {E : Env} {nt : Nat} {locs : List Nat} : ∀ (l : List Oper) (i : Nat) (as : List AOper), cOpers E nt ops locs i l = some as → as.length = l.length ∧ ∀ (k : Nat) (o : Oper), l[k]? = some o → ∃ o', as[k]? = some o' ∧ cOper E nt ops (locs.contains (i + k)) o = some o'
  | [], i, as, h => by simp only [cOpers] at h; cases h; exact ⟨rfl, fun k o hk => by simp at hk⟩
  | o :: l, i, as, h => by
    simp only [cOpers] at h
    split at h
    case h_2 => cases h
    rename_i o' as' h1 h2
    cases h
    obtain ⟨k1, k2⟩ := opers_get l (i + 1) as' h2
    refine ⟨by simp [k1], fun k x hk => ?_⟩
    cases k with
    | zero => simp at hk; subst hk; exact ⟨o', rfl, h1⟩
    | succ k =>
      simp at hk
      obtain ⟨x', h3, h4⟩ := k2 k x hk
      exact ⟨x', by simpa using h3, by rw [show i + (k + 1) = i + 1 + k by omega]; exact h4⟩

/-- Just the first p are listed. -/
def Exact (ops : Array Oper) (listed : Array Bool) (p : Nat) : Prop := listed.size = ops.size ∧ ∀ i, i < ops.size → listed[i]? = some (decide (i < p))

theorem Exact.down (hb : edgesBack ops = true) {listed : Array Bool} {p : Nat} (h : Exact ops listed p) : Down ops listed := by
  intro j o e hj ho he hbb
  have hjs : j < ops.size := lt_of_get (l := ops.toList) (by simpa using ho)
  have h1 := h.2 j hjs
  rw [hj] at h1
  have hjp : j < p := by simpa using h1
  have hlt : e.on < j := by
    unfold edgesBack at hb
    rw [List.all_eq_true] at hb
    have := hb j (List.mem_range.2 hjs)
    rw [ho] at this
    simp only [Array.all_eq_true'] at this
    have := this e he
    simpa [hbb] using this
  rw [h.2 e.on (by omega)]
  simp; omega

theorem Exact.next {listed : Array Bool} {p : Nat} (h : Exact ops listed p) : Exact ops (listed.setIfInBounds p true) (p + 1) := by
  refine ⟨by simp [h.1], fun i hi => ?_⟩
  by_cases e : p = i
  · subst e; simp [h.1, hi]
  · rw [Array.getElem?_setIfInBounds_ne e, h.2 i hi]
    congr 1
    rw [Bool.eq_iff_iff]
    simp; omega

theorem waits_at {bef : List Nat} {p j i : Nat} (h : waits bef p = true) (hj : j < bef.length) (hpj : p ≤ j) (hi : i < p) : (bef.getD j 0).testBit i = true := by
  unfold waits at h
  rw [List.all_eq_true] at h
  have := h j (List.mem_range.2 hj)
  simp only [Bool.or_eq_true, decide_eq_true_eq] at this
  rcases this with h1 | h1
  · omega
  · rw [List.all_eq_true] at h1
    exact h1 i (List.mem_range.2 hi)

theorem waits_of {as : List AOper} {bef : List Nat} (hl : bef.length = as.length) : ∀ (segs : List (Bool × Nat)) (p : Nat), segsOk as bef p segs = true → waits bef p = true
  | [], p, h => by
    simp only [segsOk, beq_iff_eq] at h
    unfold waits
    rw [List.all_eq_true]
    intro j hj
    rw [List.mem_range] at hj
    simp; left; omega
  | (true, n) :: r, p, h => by
    simp only [segsOk, Bool.and_eq_true] at h
    exact h.1.1.1.1
  | (false, 0) :: r, p, h => by
    simp only [segsOk, Bool.and_eq_true] at h
    have := waits_of hl r (p + 0) h.2
    simpa using this
  | (false, n + 1) :: r, p, h => by
    simp only [segsOk, Bool.and_eq_true] at h
    have := h.1.2
    rw [List.all_eq_true] at this
    have := this 0 (List.mem_range.2 (by omega))
    simpa using this
end

section
variable {E : Env} {lo nt : Nat} {μ0 : MM} {w0 : World} {ds : List Deferred} {s : Slots} {h : Heap} {a : Act} {w : World} {call : CallSem} {ops : Array Oper} {locs : List Nat} {as : List AOper} {Q : Exit → Act → World → Prop} {ro : Option Nat}

theorem wpOp_of {i : Nat} {o : Oper} {K : Act → World → Prop} (ho : ops[i]? = some o) (h : if Region.wanted o (yielded ops a.tmps) then o.wpIn (F0 ro) 0 E.P a w K Q else K (a.put o.dst Go.undef) w) : wpOpIn (F0 ro) 0 E.P ops Q i K a w := by
  unfold wpOpIn
  rw [ho]
  simp only
  split
  · rename_i hw; rw [if_pos hw] at h; exact h
  · rename_i hw; rw [if_neg hw] at h; exact ⟨fun _ _ => trivial, h⟩

/-- An operation of a quiet part: it leaves the heap as it is. -/
theorem quiet_step (hc : CallOK E call) (hev0 : CallEvol call) (hg : GidOK E) {loc : Bool} {o : Oper} {o' : AOper} {s1 : Slots} {h1 : Heap} (hop : cOper E nt ops loc o = some o') (hev : evOper call o' s { h with wmin := h.size } = some (s1, h1))
    (hs1 : h1.size = h.size) (hw1 : h1.wmin = h.size) (hat : At E lo nt μ0 w0 ds s h a w) {next : Act → World → Prop} (hn : ∀ a' w', At E lo nt μ0 w0 ds s1 h a' w' → next a' w') :
    if Region.wanted o (yielded ops a.tmps) then o.wpIn (F0 ro) 0 E.P a w next Q else next (a.put o.dst Go.undef) w := by
  obtain ⟨μ, ν, k1, k2, k3, k4, k5, k6⟩ := hat
  have hlen : h.size = μ.length := k2.len.symm
  have hat' : At E lo nt μ w ds s { h with wmin := h.size } a w := ⟨μ, ν, Step.refl _ _ _ _, k2.same rfl rfl rfl, k3, k4, k5, k6⟩
  refine oper_sound hc hev0 hg hop hev hat' fun a' w' hat1 => hn a' w' ?_
  obtain ⟨μ', ν', j1, j2, j3, j4, j5, j6⟩ := hat1
  have hevol := oper_evol hev0 hev
  rw [hw1, hlen] at j1
  refine ⟨μ', ν', k1.trans (j1.fresh h.wmin) (Nat.le_refl _), j2.same ?_ hevol.base.symm rfl, j3, j4, j5, j6⟩
  apply List.ext_getElem?
  intro i
  rcases Nat.lt_or_ge i h.size with hi | hi
  · exact (hevol.objs i hi (by rw [hw1]; exact hi)).symm
  · have e1 : h.objs.length ≤ i := hi
    have e2 : h1.objs.length ≤ i := by rw [show h1.objs.length = h1.size from rfl, hs1]; exact hi
    rw [List.getElem?_eq_none e1, List.getElem?_eq_none e2]

/-- Operations each of which waits for all before it. -/
theorem seq_any (hc : CallOK E call) (hev0 : CallEvol call) (hg : GidOK E) (has : cOpers E nt ops locs 0 ops.toList = some as) (hb : edgesBack ops = true) :
    ∀ (n p : Nat) (s : Slots) (h : Heap) (s1 : Slots) (h1 : Heap) (listed : Array Bool) (a : Act) (w : World), p + n ≤ as.length → (∀ x, x ≤ n → waits (befs ops.toList []) (p + x) = true) →
    evOps call ((as.drop p).take n) s h = some (s1, h1) → Exact ops listed p → At E lo nt μ0 w0 ds s h a w →
    (∀ listed' a' w', Exact ops listed' (p + n) → At E lo nt μ0 w0 ds s1 h1 a' w' → wpAnyIn (F0 ro) 0 E.P .any ops Q (ops.size - (p + n)) listed' a' w') → wpAnyIn (F0 ro) 0 E.P .any ops Q (ops.size - p) listed a w
  | 0, p, s, h, s1, h1, listed, a, w, _, _, hev, hex, hat, hk => by
    simp only [List.take_zero, evOps] at hev; cases hev
    exact hk listed a w hex hat
  | n + 1, p, s, h, s1, h1, listed, a, w, hpn, hw, hev, hex, hat, hk => by
    obtain ⟨q1, q2⟩ := opers_get _ _ _ has
    have hp : p < ops.size := by rw [q1] at hpn; simp at hpn; omega
    have hop : ops[p]? = some ops[p] := by simp [hp]
    obtain ⟨o', ho', hco⟩ := q2 p ops[p] (by simp [hp])
    have hdrop : as.drop p = o' :: as.drop (p + 1) := by
      have hpl := lt_of_get ho'
      rw [List.drop_eq_getElem_cons hpl]
      congr 1
      rw [List.getElem?_eq_getElem hpl] at ho'
      exact Option.some.inj ho'
    rw [hdrop, List.take_succ_cons] at hev
    simp only [evOps] at hev
    split at hev
    case h_2 => cases hev
    rename_i s2 h2 he
    have hchain := befs_chain (ops := ops) ops.toList [] (by simp) (fun k i hk => by simp at hk)
    have hblen := befs_length ops.toList []
    have hsz : ops.size - p = (ops.size - (p + 1)) + 1 := by omega
    rw [hsz]
    refine ⟨fun hr => ?_, fun i hi => ?_⟩
    · have h3 := all_listed hb hex.1 hr p hp
      rw [hex.2 p hp] at h3
      simp at h3
    · obtain ⟨oi, k1, k2, k3⟩ := ready_mem hex.1 hi
      have his : i < ops.size := lt_of_get (l := ops.toList) (by simpa using k1)
      have hip : p ≤ i := by
        have := hex.2 i his
        rw [k2] at this
        simpa using this
      have hieq : p = i := by
        rcases Nat.lt_or_ge p i with h4 | h4
        · exfalso
          have hbit := waits_at (hw 1 (by omega)) (j := i) (i := p) (by rw [hblen]; simpa using his) (by omega) (by omega)
          have hl := chain_listed (hex.down hb) (hchain _ _ hbit) fun o e ho he hbb => by rw [k1] at ho; cases ho; exact k3 e he hbb
          rw [hex.2 p hp] at hl
          simp at hl
        · omega
      subst hieq
      rw [hop] at k1; cases k1
      refine wpOp_of hop (oper_sound hc hev0 hg hco he hat fun a' w' hat' => ?_)
      have e1 : p + 1 + n = p + (n + 1) := by omega
      refine seq_any hc hev0 hg has hb n (p + 1) s2 h2 s1 h1 _ a' w' (by omega) (fun x hx => ?_) hev hex.next hat' ?_
      · have := hw (x + 1) (by omega)
        rwa [show p + 1 + x = p + (x + 1) by omega]
      · rw [e1]; exact hk

/-- How a quiet part runs in the order of the text: the slots before each operation, what each gives. -/
theorem quiet_text {h0 : Heap} : ∀ (seg : List AOper) (s s1 : Slots) (h1 : Heap), (∀ o ∈ seg, calm o.op = true) → evQuiet call seg s h0 = some (s1, h1) →
    h1 = h0 ∧ ∃ (S : Nat → Slots) (r : Nat → Slot), S 0 = s ∧ S seg.length = s1 ∧ ∀ (x : Nat) (o : AOper), seg[x]? = some o →
      (∃ h', evOper call o (S x) { h0 with wmin := h0.size } = some (S (x + 1), h') ∧ h'.size = h0.size ∧ h'.wmin = h0.size) ∧ S (x + 1) = setSlot o.dst (r x) (S x) ∧ (∀ cs, r x ≠ .var cs) ∧ ∀ d, o.dst = some d → isVar (S x) d = false
  | [], s, s1, h1, _, e => by
    simp only [evQuiet] at e; cases e
    exact ⟨rfl, fun _ => s, fun _ => .undef, rfl, rfl, fun x o hx => by simp at hx⟩
  | o :: seg, s, s1, h1, hcalm, e => by
    simp only [evQuiet] at e
    split at e
    case h_2 => cases e
    rename_i s2 h2 he
    split at e
    case isFalse => cases e
    rename_i hh
    obtain ⟨a1, a2, a3⟩ := hh
    obtain ⟨b1, S, r, b2, b3, b4⟩ := quiet_text seg s2 s1 h1 (fun o ho => hcalm o (List.mem_cons_of_mem _ ho)) e
    obtain ⟨x0, c1, _, c3⟩ := oper_congr (S2 := s) (hcalm o (List.mem_cons_self ..)) ⟨fun _ _ => rfl, fun _ _ => Iff.rfl⟩ he
    refine ⟨b1, fun x => match x with | 0 => s | x + 1 => S x, fun x => match x with | 0 => x0 | x + 1 => r x, rfl, by simpa using b3, fun x o1 hx => ?_⟩
    cases x with
    | zero =>
      simp at hx; subst hx
      refine ⟨⟨h2, by simp only [b2]; exact he, a1, a2⟩, by simp only [b2]; exact c1, c3, fun d hd => ?_⟩
      rw [hd] at a3
      simpa using a3
    | succ x =>
      simp at hx
      exact b4 x o1 hx

theorem setSlot_get (d : Option Nat) (x : Slot) (s : Slots) (t : Nat) : sget (setSlot d x s) t = if d = some t then some x else sget s t := by
  rw [sget_setSlot]; rfl

/-- A quiet part, in whatever order. -/
theorem quiet_any (hc : CallOK E call) (hev0 : CallEvol call) (hg : GidOK E) (has : cOpers E nt ops locs 0 ops.toList = some as) (hb : edgesBack ops = true)
    {p n : Nat} {h1 : Heap} {s1 : Slots} (hpn : p + n ≤ as.length) (hw1 : waits (befs ops.toList []) (p + n) = true)
    (hap : ∀ x y oi oj, x < n → y < n → as[p + x]? = some oi → as[p + y]? = some oj → apart (befs ops.toList []) (p + x) (p + y) oi oj = true)
    (hcalm : ∀ x o, x < n → as[p + x]? = some o → calm o.op = true)
    (hev : evQuiet call ((as.drop p).take n) s h = some (s1, h1))
    (hk : ∀ listed' a' w', Exact ops listed' (p + n) → At E lo nt μ0 w0 ds s1 h1 a' w' → wpAnyIn (F0 ro) 0 E.P .any ops Q (ops.size - (p + n)) listed' a' w') :
    ∀ listed a w, Exact ops listed p → At E lo nt μ0 w0 ds s h a w → wpAnyIn (F0 ro) 0 E.P .any ops Q (ops.size - p) listed a w := by
  obtain ⟨q1, q2⟩ := opers_get _ _ _ has
  simp only [Array.length_toList] at q1
  have hchain := befs_chain (ops := ops) ops.toList [] (by simp) (fun k i hk => by simp at hk)
  have hblen := befs_length ops.toList []
  simp only [List.length_nil, Nat.zero_add, Array.length_toList] at hblen
  have hseg : ∀ x, x < n → ((as.drop p).take n)[x]? = as[p + x]? := fun x hx => by rw [List.getElem?_take_of_lt hx, List.getElem?_drop]
  have hslen : ((as.drop p).take n).length = n := by simp; omega
  obtain ⟨e1, S, r, b2, b3, b4⟩ := quiet_text _ _ _ _ (fun o ho => by
    obtain ⟨x, hx⟩ := List.getElem?_of_mem ho
    have hxn : x < n := by have := lt_of_get hx; omega
    exact hcalm x o hxn (by rw [← hseg x hxn]; exact hx)) hev
  subst e1
  rw [hslen] at b3
  -- the operations of the part
  have opat : ∀ x, x < n → ∃ o o', ops[p + x]? = some o ∧ as[p + x]? = some o' ∧ cOper E nt ops (locs.contains (p + x)) o = some o' := by
    intro x hx
    have hlt : p + x < ops.size := by omega
    obtain ⟨o', h2, h3⟩ := q2 (p + x) ops[p + x] (by simp [hlt])
    exact ⟨ops[p + x], o', by simp [hlt], h2, by simpa using h3⟩
  have text : ∀ x o', x < n → as[p + x]? = some o' → (∃ h', evOper call o' (S x) { h1 with wmin := h1.size } = some (S (x + 1), h') ∧ h'.size = h1.size ∧ h'.wmin = h1.size) ∧ S (x + 1) = setSlot o'.dst (r x) (S x) ∧ (∀ cs, r x ≠ .var cs) ∧ ∀ d, o'.dst = some d → isVar (S x) d = false :=
    fun x o' hx ho => b4 x o' (by rw [hseg x hx]; exact ho)
  -- no two of them set one slot
  have dst_ne : ∀ x y oi oj d, x < n → y < n → x ≠ y → as[p + x]? = some oi → as[p + y]? = some oj → oj.dst = some d → oi.dst ≠ some d := by
    intro x y oi oj d hx hy hne hi hj hd e
    have := hap x y oi oj hx hy hi hj
    unfold apart at this
    rw [hd] at this
    simp only [Bool.and_eq_true, Bool.or_eq_true, beq_iff_eq, bne_iff_ne] at this
    rcases this.1 with h2 | h2
    · omega
    · exact h2 e
  -- the slots in the order of the text
  have text_hit : ∀ x y o d, x ≤ n → y < x → as[p + y]? = some o → o.dst = some d → sget (S x) d = some (r y) := by
    intro x
    induction x with
    | zero => intro y o d _ hy; omega
    | succ x ih =>
      intro y o d hx hy ho hd
      obtain ⟨_, o', _, ho', _⟩ := opat x (by omega)
      obtain ⟨_, t2, _, _⟩ := text x o' (by omega) ho'
      rw [t2, setSlot_get]
      by_cases e : y = x
      · subst e; rw [ho] at ho'; cases ho'; rw [if_pos hd]
      · rw [if_neg (dst_ne x y o' o d (by omega) (by omega) (fun e' => e e'.symm) ho' ho hd)]
        exact ih y o d (by omega) (by omega) ho hd
  have text_miss : ∀ x t, x ≤ n → (∀ y o, y < x → as[p + y]? = some o → o.dst ≠ some t) → sget (S x) t = sget s t := by
    intro x
    induction x with
    | zero => intro t _ _; rw [b2]
    | succ x ih =>
      intro t hx hno
      obtain ⟨_, o', _, ho', _⟩ := opat x (by omega)
      obtain ⟨_, t2, _, _⟩ := text x o' (by omega) ho'
      rw [t2, setSlot_get, if_neg (hno x o' (by omega) ho')]
      exact ih t (by omega) fun y o hy => hno y o (by omega)
  have dst_novar : ∀ x o d cs, x < n → as[p + x]? = some o → o.dst = some d → sget s d ≠ some (.var cs) := by
    intro x o d cs hx ho hd hv
    obtain ⟨_, _, _, t4⟩ := text x o hx ho
    have h2 := t4 d hd
    have h3 : sget (S x) d = sget s d := text_miss x d (by omega) fun y o2 hy ho2 => dst_ne y x o2 o d (by omega) hx (by omega) ho2 ho hd
    unfold isVar at h2
    rw [h3, hv] at h2
    simp at h2
  -- the invariant over the orders
  have main : ∀ (k : Nat) (listed : Array Bool) (sD : Slots) (a : Act) (w : World), listed.size = ops.size → Down ops listed → (∀ i, i < p → listed[i]? = some true) → (∀ i, p + n ≤ i → i < ops.size → listed[i]? = some false) →
      ((List.range n).filter fun x => listed[p + x]? == some false).length = k →
      (∀ x o d, x < n → as[p + x]? = some o → listed[p + x]? = some true → o.dst = some d → sget sD d = some (r x)) →
      (∀ t, (∀ x o, x < n → as[p + x]? = some o → listed[p + x]? = some true → o.dst ≠ some t) → sget sD t = sget s t) →
      At E lo nt μ0 w0 ds sD h1 a w → wpAnyIn (F0 ro) 0 E.P .any ops Q (ops.size - (p + n) + k) listed a w := by
    intro k
    induction k with
    | zero =>
      intro listed sD a w hsz hdn hlow hhigh hcount hhit hmiss hat
      have hall : ∀ x, x < n → listed[p + x]? = some true := by
        intro x hx
        have hlt : p + x < listed.size := by omega
        have hmem : x ∉ (List.range n).filter fun x => listed[p + x]? == some false := by
          rw [List.eq_nil_of_length_eq_zero hcount]; simp
        rw [List.mem_filter] at hmem
        have h2 : ¬ (listed[p + x]? = some false) := fun h2 => hmem ⟨List.mem_range.2 hx, by simp [h2]⟩
        rw [Array.getElem?_eq_getElem hlt] at h2 ⊢
        cases hv : listed[p + x] with
        | true => rfl
        | false => rw [hv] at h2; exact absurd rfl h2
      have hex : Exact ops listed (p + n) := by
        refine ⟨hsz, fun i hi => ?_⟩
        rcases Nat.lt_or_ge i p with h2 | h2
        · rw [hlow i h2]; simp; omega
        · rcases Nat.lt_or_ge i (p + n) with h3 | h3
          · have := hall (i - p) (by omega)
            rw [show p + (i - p) = i by omega] at this
            rw [this]; simp [h3]
          · rw [hhigh i h3 hi]; simp; omega
      refine hk listed a w hex ?_
      obtain ⟨μ, ν, k1, k2, k3, k4⟩ := hat
      refine ⟨μ, ν, k1, k2, k3.congr fun t => ?_, k4⟩
      rw [← b3]
      by_cases hx : ∃ x o, x < n ∧ as[p + x]? = some o ∧ o.dst = some t
      · obtain ⟨x, o, h2, h3, h4⟩ := hx
        rw [text_hit n x o t (Nat.le_refl _) h2 h3 h4, hhit x o t h2 h3 (hall x h2) h4]
      · have hno : ∀ x o, x < n → as[p + x]? = some o → o.dst ≠ some t := fun x o h2 h3 h4 => hx ⟨x, o, h2, h3, h4⟩
        rw [text_miss n t (Nat.le_refl _) hno, hmiss t fun x o h2 h3 _ => hno x o h2 h3]
    | succ k ih =>
      intro listed sD a w hsz hdn hlow hhigh hcount hhit hmiss hat
      have hsome : ∃ x, x < n ∧ listed[p + x]? = some false := by
        have hne : (List.range n).filter (fun x => listed[p + x]? == some false) ≠ [] := fun e => by rw [e] at hcount; simp at hcount
        obtain ⟨x, hx⟩ := List.exists_mem_of_ne_nil _ hne
        rw [List.mem_filter, List.mem_range] at hx
        exact ⟨x, hx.1, by simpa using hx.2⟩
      obtain ⟨xu, hxu, hxf⟩ := hsome
      refine ⟨fun hr => ?_, fun i hi => ?_⟩
      · have := all_listed hb hsz hr (p + xu) (by omega)
        rw [hxf] at this; cases this
      · obtain ⟨oi, k1, k2, k3⟩ := ready_mem hsz hi
        have his : i < ops.size := lt_of_get (l := ops.toList) (by simpa using k1)
        have hip : p ≤ i := by
          rcases Nat.lt_or_ge i p with h2 | h2
          · rw [hlow i h2] at k2; cases k2
          · exact h2
        have hin : i < p + n := by
          rcases Nat.lt_or_ge i (p + n) with h2 | h2
          · exact h2
          · exfalso
            have hbit := waits_at hw1 (j := i) (i := p + xu) (by rw [hblen]; exact his) h2 (by omega)
            have hl := chain_listed hdn (hchain _ _ hbit) fun o e ho he hbb => by rw [k1] at ho; cases ho; exact k3 e he hbb
            rw [hxf] at hl; cases hl
        obtain ⟨x, rfl⟩ : ∃ x, i = p + x := ⟨i - p, by omega⟩
        have hxn : x < n := by omega
        obtain ⟨o, o', h2, h3, h4⟩ := opat x hxn
        rw [h2] at k1; cases k1
        obtain ⟨⟨h', t1, t1a, t1b⟩, t2, t3, t4⟩ := text x o' hxn h3
        have waitsl : ∀ j, (((befs ops.toList []).getD (p + x) 0).testBit j = true) → listed[j]? = some true := fun j hbit =>
          chain_listed hdn (hchain _ _ hbit) fun o2 e ho he hbb => by rw [h2] at ho; cases ho; exact k3 e he hbb
        have hag : Agree (S x) sD o'.reads := by
          constructor
          · intro t ht
            by_cases hy : ∃ y oj, y < n ∧ as[p + y]? = some oj ∧ oj.dst = some t
            · obtain ⟨y, oj, hy1, hy2, hy3⟩ := hy
              have others : ∀ z oz, z < n → z ≠ y → as[p + z]? = some oz → oz.dst ≠ some t := fun z oz hz hne hoz => dst_ne z y oz oj t hz hy1 hne hoz hy2 hy3
              by_cases hxy : y = x
              · -- its own slot
                subst hxy
                rw [text_miss y t (by omega) fun z oz hz hoz => others z oz (by omega) (by omega) hoz]
                rw [hmiss t fun z oz hz hoz hl => by
                  by_cases e : z = y
                  · subst e; rw [k2] at hl; cases hl
                  · exact others z oz hz e hoz]
              · have := hap x y o' oj hxn hy1 h3 hy2
                unfold apart at this
                rw [hy3] at this
                simp only [Bool.and_eq_true, Bool.or_eq_true, beq_iff_eq, Bool.not_eq_true', List.contains_eq_mem, decide_eq_false_iff_not, decide_eq_true_eq] at this
                rcases this.2 with ((h5 | h5) | h5) | h5
                · omega
                · exact absurd ht h5
                · obtain ⟨h5, h6⟩ := h5
                  rw [text_hit x y oj t (by omega) (by omega) hy2 hy3, hhit y oj t hy1 hy2 (waitsl _ h6) hy3]
                · obtain ⟨h5, h6⟩ := h5
                  have hnl : listed[p + y]? ≠ some true := by
                    intro hl
                    have := chain_listed hdn (hchain _ _ h6) fun o2 e ho he hbb => hdn _ _ _ hl ho he hbb
                    rw [k2] at this; cases this
                  rw [text_miss x t (by omega) fun z oz hz hoz => others z oz (by omega) (by omega) hoz]
                  rw [hmiss t fun z oz hz hoz hl => by
                    by_cases e : z = y
                    · subst e; exact absurd hl hnl
                    · exact others z oz hz e hoz]
            · have hno : ∀ z oz, z < n → as[p + z]? = some oz → oz.dst ≠ some t := fun z oz hz hoz hd => hy ⟨z, oz, hz, hoz, hd⟩
              rw [text_miss x t (by omega) fun z oz hz hoz => hno z oz (by omega) hoz, hmiss t fun z oz hz hoz _ => hno z oz hz hoz]
          · intro t cs
            have v1 : sget (S x) t = some (.var cs) ↔ sget s t = some (.var cs) := by
              by_cases hy : ∃ y oj, y < x ∧ as[p + y]? = some oj ∧ oj.dst = some t
              · obtain ⟨y, oj, hy1, hy2, hy3⟩ := hy
                rw [text_hit x y oj t (by omega) hy1 hy2 hy3]
                constructor
                · intro e; exact absurd (Option.some.inj e) ((text y oj (by omega) hy2).2.2.1 cs)
                · intro e; exact absurd e (dst_novar y oj t cs (by omega) hy2 hy3)
              · rw [text_miss x t (by omega) fun z oz hz hoz hd => hy ⟨z, oz, hz, hoz, hd⟩]
            have v2 : sget sD t = some (.var cs) ↔ sget s t = some (.var cs) := by
              by_cases hy : ∃ y oj, y < n ∧ as[p + y]? = some oj ∧ listed[p + y]? = some true ∧ oj.dst = some t
              · obtain ⟨y, oj, hy1, hy2, hyl, hy3⟩ := hy
                rw [hhit y oj t hy1 hy2 hyl hy3]
                constructor
                · intro e; exact absurd (Option.some.inj e) ((text y oj hy1 hy2).2.2.1 cs)
                · intro e; exact absurd e (dst_novar y oj t cs hy1 hy2 hy3)
              · rw [hmiss t fun z oz hz hoz hl hd => hy ⟨z, oz, hz, hoz, hl, hd⟩]
            exact v1.trans v2.symm
        obtain ⟨x', c1, c2, c3⟩ := oper_congr (hcalm x o' hxn h3) hag t1
        refine wpOp_of h2 (quiet_step hc hev0 hg h4 c2 t1a t1b hat fun a' w' hat' => ?_)
        have hset : ∀ j, j ≠ p + x → (listed.setIfInBounds (p + x) true)[j]? = listed[j]? := fun j hj => Array.getElem?_setIfInBounds_ne (fun e => hj e.symm)
        have hself : (listed.setIfInBounds (p + x) true)[p + x]? = some true := by simp [hsz, his]
        have hx' : ∀ d, o'.dst = some d → x' = r x := by
          intro d hd
          rw [t2] at c1
          rw [hd] at c1
          simp only [setSlot] at c1
          injection c1 with c1 _
          injection c1 with _ c1
          exact c1.symm
        refine ih (listed.setIfInBounds (p + x) true) (setSlot o'.dst x' sD) a' w' (by simp [hsz]) ?_ ?_ ?_ ?_ ?_ ?_ hat'
        · intro j oj e hj hoj he hbb
          by_cases ej : j = p + x
          · subst ej
            rw [h2] at hoj; cases hoj
            have := k3 e he hbb
            by_cases ee : e.on = p + x
            · rw [ee]; exact hself
            · rw [hset _ ee]; exact this
          · rw [hset _ ej] at hj
            have := hdn j oj e hj hoj he hbb
            by_cases ee : e.on = p + x
            · rw [ee]; exact hself
            · rw [hset _ ee]; exact this
        · intro j hj; rw [hset j (by omega)]; exact hlow j hj
        · intro j hj hj'; rw [hset j (by omega)]; exact hhigh j hj hj'
        · -- one less is to come
          have hperm : ((List.range n).filter fun y => (listed.setIfInBounds (p + x) true)[p + y]? == some false) = ((List.range n).filter fun y => listed[p + y]? == some false).filter fun y => y != x := by
            rw [List.filter_filter]
            apply List.filter_congr
            intro y _
            by_cases ey : y = x
            · subst ey; rw [hself]; simp
            · rw [hset _ (by omega)]; simp [ey]
          rw [hperm]
          have hmem : x ∈ (List.range n).filter fun y => listed[p + y]? == some false := by
            rw [List.mem_filter]; exact ⟨List.mem_range.2 hxn, by simp [k2]⟩
          have hnd : ((List.range n).filter fun y => listed[p + y]? == some false).Nodup := List.nodup_range.sublist List.filter_sublist
          generalize (List.range n).filter (fun y => listed[p + y]? == some false) = L at hcount hmem hnd
          have herase : L.filter (fun y => y != x) = L.erase x := (hnd.erase_eq_filter x).symm
          rw [herase, List.length_erase_of_mem hmem, hcount]
          rfl
        · intro y oy d hy hoy hl hd
          rw [setSlot_get]
          by_cases ey : y = x
          · subst ey; rw [h3] at hoy; cases hoy
            rw [if_pos hd, hx' d hd]
          · rw [hset _ (by omega)] at hl
            rw [if_neg (dst_ne x y o' oy d hxn hy (fun e => ey e.symm) h3 hoy hd)]
            exact hhit y oy d hy hoy hl hd
        · intro t hno
          rw [setSlot_get, if_neg (hno x o' hxn h3 hself)]
          refine hmiss t fun y oy hy hoy hl => ?_
          by_cases ey : y = x
          · subst ey; rw [k2] at hl; cases hl
          · exact hno y oy hy hoy (by rw [hset _ (by omega)]; exact hl)
  intro listed a w hex hat
  have hcount : ((List.range n).filter fun x => listed[p + x]? == some false).length = n := by
    have : (List.range n).filter (fun x => listed[p + x]? == some false) = List.range n := by
      rw [List.filter_eq_self]
      intro x hx
      rw [List.mem_range] at hx
      rw [hex.2 (p + x) (by omega)]
      simp
    rw [this, List.length_range]
  have := main n listed s a w hex.1 (hex.down hb) (fun i hi => by rw [hex.2 i (by omega)]; simp [hi]) (fun i hi hi' => by rw [hex.2 i hi']; simp; omega) hcount
    (fun x o d hx ho hl _ => by
      have h5 := hex.2 (p + x) (by omega)
      rw [hl] at h5
      have h6 := of_decide_eq_true (Option.some.inj h5).symm
      omega) (fun t _ => rfl) hat
  rwa [show ops.size - (p + n) + n = ops.size - p by omega] at this

end
end Go.Abs
