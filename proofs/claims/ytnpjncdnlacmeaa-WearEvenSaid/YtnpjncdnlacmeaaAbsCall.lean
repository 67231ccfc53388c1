/-
  Code and calls: what the evaluator gives, the model's call gives.
-/
import Derived.Test.YtnpjncdnlacmeaaAbsDraw
namespace Go.Abs

def AExit.toX : AExit → Exit
  | .normal => .normal
  | .exit id => .exit id
  | .ret => .ret

section
variable {E : Env} {lo nt : Nat} {μ0 : MM} {w0 : World} {ds : List Deferred} {call : CallSem}

theorem At.keep {s : Slots} {h : Heap} {a : Act} {w : World} (hat : At E lo nt μ0 w0 ds s h a w) (l : List Nat) : At E lo nt μ0 w0 ds (Abs.keep l s) h a w := by
  obtain ⟨μ, ν, k1, k2, k3, k4⟩ := hat
  exact ⟨μ, ν, k1, k2, k3.less fun t x hx => sget_keep l s t x hx, k4⟩

theorem code_sound (hc : CallOK E call) (hev0 : CallEvol call) (hg : GidOK E) (hm : E.P.follows .mixedOrders = true) (n : Nat) :
    ∀ (hint : Hint) (c : Code) (ac : ACode), cCode E nt hint c = some ac → ∀ (st : St) (e : AExit) (st' : St), evCode call n ac st = some (e, st') → ∀ (a : Act) (w : World) (Q : Exit → Act → World → Prop), At E lo nt μ0 w0 ds st.s st.h a w →
      (∀ a' w', At E lo nt μ0 w0 ds st'.s st'.h a' w' → Q e.toX a' w') → c.wp E.P Q a w := by
  intro hint
  induction hint with
  | leaf =>
    intro c ac hcc st e st' hev a w Q hat hn
    cases c <;> simp only [cCode] at hcc <;> (try cases hcc)
    · simp only [evCode] at hev; cases hev
      exact wp_skip (hn _ _ hat)
    · simp only [evCode] at hev; cases hev
      exact wp_exit (hn _ _ hat)
    · simp only [evCode] at hev; cases hev
      exact wp_ret (hn _ _ hat)
  | reg segs locs =>
    intro c ac hcc st e st' hev a w Q hat hn
    cases c <;> simp only [cCode] at hcc <;> (try cases hcc)
    rw [Option.map_eq_some_iff] at hcc
    obtain ⟨gs, hgs, rfl⟩ := hcc
    simp only [evCode] at hev
    rw [Option.map_eq_some_iff] at hev
    obtain ⟨⟨s1, h1⟩, hev, he⟩ := hev
    cases he
    exact region_sound hc hev0 hg hm hgs hev hat hn
  | seq x y ihx ihy =>
    intro c ac hcc st e st' hev a w Q hat hn
    cases c <;> simp only [cCode] at hcc <;> (try cases hcc)
    split at hcc
    case h_2 => cases hcc
    rename_i ax ay hx hy
    cases hcc
    simp only [evCode] at hev
    apply wp_seq
    split at hev
    · rename_i st1 h1
      exact ihx _ _ hx _ _ _ h1 a w _ hat fun a' w' hat' => ihy _ _ hy _ _ _ hev a' w' Q hat' hn
    · rename_i hne
      refine ihx _ _ hx _ _ _ hev a w _ hat fun a' w' hat' => ?_
      cases e with
      | normal => exact absurd hev (hne _)
      | exit id => exact hn _ _ hat'
      | ret => exact hn _ _ hat'
  | cond x y ihx ihy =>
    intro c ac hcc st e st' hev a w Q hat hn
    cases c <;> simp only [cCode] at hcc <;> (try cases hcc)
    split at hcc
    case h_2 => cases hcc
    rename_i c' ax ay hcop hx hy
    cases hcc
    simp only [evCode] at hev
    have hat0 := hat
    obtain ⟨μ, ν, _, _, k3, _⟩ := hat
    split at hev
    · rename_i hb
      have := opd_rel k3 hcop hb
      simp only [VRel] at this
      exact wp_cond_true this (ihx _ _ hx _ _ _ hev a w Q hat0 hn)
    · rename_i hb
      have := opd_rel k3 hcop hb
      simp only [VRel] at this
      exact wp_cond_false this (ihy _ _ hy _ _ _ hev a w Q hat0 hn)
    · cases hev
  | block x ih =>
    intro c ac hcc st e st' hev a w Q hat hn
    cases c <;> simp only [cCode] at hcc <;> (try cases hcc)
    rw [Option.map_eq_some_iff] at hcc
    obtain ⟨ax, hx, rfl⟩ := hcc
    simp only [evCode] at hev
    apply wp_block
    split at hev
    · rename_i j st1 h1
      refine ih _ _ hx _ _ _ h1 a w _ hat fun a' w' hat' => ?_
      simp only [AExit.toX, Exit.inBlock]
      split at hev
      · rename_i hj
        cases hev
        rw [if_pos hj]
        exact hn _ _ hat'
      · rename_i hj
        cases hev
        rw [if_neg hj]
        exact hn _ _ hat'
    · rename_i hne
      refine ih _ _ hx _ _ _ hev a w _ hat fun a' w' hat' => ?_
      cases e with
      | normal => exact hn _ _ hat'
      | exit id => exact absurd hev (hne _ _)
      | ret => exact hn _ _ hat'
  | loop x ih =>
    intro c ac hcc st e st' hev a w Q hat hn
    cases c <;> simp only [cCode] at hcc <;> (try cases hcc)
    rename_i y
    rw [Option.map_eq_some_iff] at hcc
    obtain ⟨ax, hx, rfl⟩ := hcc
    simp only [evCode] at hev
    have key : ∀ (m : Nat) (st : St) (a : Act) (w : World), loopN (evCode call n ax) m st = some (e, st') → At E lo nt μ0 w0 ds st.s st.h a w → Code.rounds E.P y Q m a w := by
      intro m
      induction m with
      | zero => intro st a w h1; simp [loopN] at h1
      | succ m ihm =>
        intro st a w h1 hat1
        rw [rounds_succ]
        simp only [loopN] at h1
        split at h1
        · rename_i st1 h2
          exact ih _ _ hx _ _ _ h2 a w _ hat1 fun a' w' hat' => ihm st1 a' w' h1 hat'
        · rename_i hne
          refine ih _ _ hx _ _ _ h1 a w _ hat1 fun a' w' hat' => ?_
          cases e with
          | normal => exact absurd h1 (hne _)
          | exit id => exact hn _ _ hat'
          | ret => exact hn _ _ hat'
    exact wp_loop_rounds n (key n st a w hev hat)
  | live l x ih =>
    intro c ac hcc st e st' hev a w Q hat hn
    simp only [cCode] at hcc
    rw [Option.map_eq_some_iff] at hcc
    obtain ⟨ax, hx, rfl⟩ := hcc
    simp only [evCode] at hev
    exact ih _ _ hx _ _ _ hev a w Q (hat.keep l) hn
  | after x l ih =>
    intro c ac hcc st e st' hev a w Q hat hn
    simp only [cCode] at hcc
    rw [Option.map_eq_some_iff] at hcc
    obtain ⟨ax, hx, rfl⟩ := hcc
    simp only [evCode] at hev
    split at hev
    · rename_i st1 h1
      cases hev
      exact ih _ _ hx _ _ _ h1 a w Q hat fun a' w' hat' => hn _ _ (hat'.keep l)
    · exact ih _ _ hx _ _ _ hev a w Q hat hn

/-! ## Results -/

def resOne (tmps : Array Value) : ResultVar → Sem Value
  | .tmp t => pure (tmps.getD t Go.undef)
  | .cell x t => do loadVar t (← asAddr (tmps.getD x Go.undef))

theorem res_rel {ν : Nat → Nat} {μ : MM} {s : Slots} {h : Heap} {a : Act} {w : World} (hf : FRel E lo ν μ (sget s) a.tmps w) (hr : Rel E μ h w) : ∀ {rs : List ResultVar} {as : List ARes} {vs : List AVal}, cRess E.P rs = some as → resultsL s h as = some vs →
    ∃ l, (rs.mapM (resOne a.tmps)).run E.P w = .ok l w ∧ VRels E μ vs l
  | [], as, vs, hc, he => by
    simp only [cRess] at hc; cases hc
    simp only [resultsL] at he; cases he
    exact ⟨[], rfl, by simp [VRels]⟩
  | r :: rs, as, vs, hc, he => by
    simp only [cRess] at hc
    split at hc
    case h_2 => cases hc
    rename_i a' as' h1 h2
    cases hc
    simp only [resultsL] at he
    split at he
    case h_2 => cases he
    rename_i v vs' h3 h4
    cases he
    obtain ⟨l, k1, k2⟩ := res_rel hf hr h2 h4
    have hone : ∃ u, (resOne a.tmps r).run E.P w = .ok u w ∧ VRel E μ v u := by
      cases r with
      | tmp t =>
        simp only [cRes] at h1; cases h1
        simp only [result1] at h3
        split at h3
        · rename_i v' hs
          cases h3
          obtain ⟨u, hu, hrel⟩ := hf.val t _ hs
          refine ⟨u, ?_, hrel⟩
          simp [resOne, hu]
        · cases h3
      | cell x t =>
        simp only [cRes] at h1
        rw [Option.map_eq_some_iff] at h1
        obtain ⟨n, hn, rfl⟩ := h1
        simp only [result1] at h3
        split at h3
        case h_2 => cases h3
        rename_i ad had
        unfold loadAt at h3
        split at h3
        case h_2 => cases h3
        rename_i cs o hcs
        have hco : cOpd E (.tmp x) = some (.tmp x) := rfl
        obtain ⟨b, p, c, e, fr, j1, j2, j3, j4⟩ := cellsAt_rel hf hr hco had hcs
        obtain ⟨u, j5, j6⟩ := load_rel (P := E.P) hn j2 j3 j4 h3
        refine ⟨u, ?_, j6⟩
        have j1' : a.tmps.getD x Go.undef = .pointer (some ⟨b, p + o, none⟩) := j1
        simp only [resOne, j1', asAddr, Sem.run_bind, Sem.run_pure, Result.andThen_ok, j5]
    obtain ⟨u, k3, k4⟩ := hone
    refine ⟨u :: l, ?_, ?_⟩
    · rw [List.mapM_cons, Sem.run_bind, k3, Result.andThen_ok, Sem.run_bind, k1, Result.andThen_ok]
      rfl
    · simp only [VRels]; exact ⟨u, l, rfl, k4, k2⟩

theorem results_rel {ν : Nat → Nat} {μ : MM} {s : Slots} {h : Heap} {a : Act} {w : World} (hf : FRel E lo ν μ (sget s) a.tmps w) (hr : Rel E μ h w) {fn : Func} {as : List ARes} {vs : List AVal} (hc : cRess E.P fn.results.toList = some as) (he : resultsL s h as = some vs) :
    ∃ v, (results fn a.tmps).run E.P w = .ok v w ∧ VRel E μ (tupled vs) v := by
  obtain ⟨l, k1, k2⟩ := res_rel hf hr hc he
  have hl := k2.length
  have hrun : (results fn a.tmps).run E.P w = .ok (if h : l.toArray.size = 1 then l.toArray[0] else .tuple l.toArray) w := by
    have e : results fn a.tmps = (do
        let vs ← fn.results.mapM (resOne a.tmps)
        pure (if h : vs.size = 1 then vs[0] else .tuple vs)) := by
      unfold results
      rfl
    rw [e, Array.mapM_eq_mapM_toList, Sem.run_bind, Sem.run_map, k1]
    rfl
  refine ⟨_, hrun, ?_⟩
  clear he k1 hrun
  match vs, l, hl, k2 with
  | [], [], _, _ => simp [tupled, VRel, VRels]
  | [v], [u], _, k2 =>
    simp only [VRels] at k2
    obtain ⟨u', r', e, h1, h2⟩ := k2
    cases e
    simpa [tupled] using h1
  | v :: v2 :: vs, u :: u2 :: l, _, k2 =>
    have : ¬ ((u :: u2 :: l).toArray.size = 1) := by simp
    rw [dif_neg this]
    simp only [tupled, VRel]
    exact ⟨_, rfl, k2⟩

end

/-! ## What a call leaves behind -/

section
variable {E : Env} {μ μ' : MM} {n : Nat}

mutual
/-- A value whose objects are all among the first n: what stands beyond does not matter. -/
theorem under_rel (hm : ∀ i, i < n → μ'[i]? = μ[i]?) : ∀ {a : AVal} {v : Value}, a.under n = true → VRel E μ' a v → VRel E μ a v
  | .bool b, v, _, h => by simpa only [VRel] using h
  | .int k m, v, _, h => by simpa only [VRel] using h
  | .str s, v, _, h => by simpa only [VRel] using h
  | .ptr none, v, _, h => by simpa only [VRel] using h
  | .ptr (some (i, o)), v, hu, h => by
    simp only [AVal.under, decide_eq_true_eq] at hu
    simp only [VRel, ARel] at h ⊢
    rw [hm i hu] at h; exact h
  | .slice none m c, v, _, h => by simpa only [VRel] using h
  | .slice (some (i, o)) m c, v, hu, h => by
    simp only [AVal.under, decide_eq_true_eq] at hu
    simp only [VRel, ARel] at h ⊢
    rw [hm i hu] at h
    obtain ⟨a, cap, e, h1, h2⟩ := h
    refine ⟨a, cap, e, ?_, h2⟩
    have h3 := hm i hu
    rcases Nat.lt_or_ge i μ.length with h4 | h4
    · exact h4
    · rw [List.getElem?_eq_none h4, List.getElem?_eq_getElem h1] at h3; cases h3
  | .map none, v, _, h => by simpa only [VRel] using h
  | .map (some i), v, hu, h => by
    simp only [AVal.under, decide_eq_true_eq] at hu
    simp only [VRel] at h ⊢
    rw [hm i hu] at h; exact h
  | .func g f c, v, hu, h => by
    simp only [AVal.under, Bool.and_eq_true] at hu
    simp only [VRel] at h ⊢
    obtain ⟨fid, f', c', e, hg, h1, h2⟩ := h
    exact ⟨fid, f', c', e, hg, unders_rel hm hu.1 h1, unders_rel hm hu.2 h2⟩
  | .nilFunc, v, _, h => by simpa only [VRel] using h
  | .iface _ _, v, _, h => by simp only [VRel] at h
  | .nilIface, v, _, h => by simpa only [VRel] using h
  | .agg cs, v, hu, h => by
    simp only [AVal.under] at hu
    simp only [VRel] at h ⊢
    obtain ⟨cs', e, h1, h2⟩ := h
    exact ⟨cs', e, unders_rel hm hu h1, h2⟩
  | .tuple vs, v, hu, h => by
    simp only [AVal.under] at hu
    simp only [VRel] at h ⊢
    obtain ⟨cs', e, h1⟩ := h
    exact ⟨cs', e, unders_rel hm hu h1⟩
theorem unders_rel (hm : ∀ i, i < n → μ'[i]? = μ[i]?) : ∀ {as : List AVal} {l : List Value}, AVal.unders n as = true → VRels E μ' as l → VRels E μ as l
  | [], l, _, h => by simpa only [VRels] using h
  | a :: as, l, hu, h => by
    simp only [AVal.unders, Bool.and_eq_true] at hu
    simp only [VRels] at h ⊢
    obtain ⟨v, r, e, h1, h2⟩ := h
    exact ⟨v, r, e, under_rel hm hu.1 h1, unders_rel hm hu.2 h2⟩
end

theorem isOne_ren (f : Nat → Nat) (a : AVal) : (a.ren f).isOne = a.isOne := by
  cases a with
  | ptr p => cases p <;> simp [AVal.ren, AVal.isOne]
  | slice p m c => cases p <;> simp [AVal.ren, AVal.isOne]
  | map p => cases p <;> simp [AVal.ren, AVal.isOne]
  | _ => simp [AVal.ren, AVal.isOne]

mutual
/-- Objects get other numbers. -/
theorem ren_rel (f : Nat → Nat) : ∀ {a : AVal} {v : Value}, (∀ i ∈ a.ids, i < μ.length → μ'[f i]? = μ[i]?) → VRel E μ a v → VRel E μ' (a.ren f) v
  | .bool b, v, _, h => by simpa only [AVal.ren, VRel] using h
  | .int k m, v, _, h => by simpa only [AVal.ren, VRel] using h
  | .str s, v, _, h => by simpa only [AVal.ren, VRel] using h
  | .ptr none, v, _, h => by simpa only [AVal.ren, VRel] using h
  | .ptr (some (i, o)), v, hi, h => by
    have h3 := hi i (by simp [AVal.ids])
    simp only [AVal.ren, VRel, ARel] at h ⊢
    obtain ⟨a, e, x, hx, hm⟩ := h
    exact ⟨a, e, x, (h3 (lt_of_get hx)).trans hx, hm⟩
  | .slice none m c, v, _, h => by simpa only [AVal.ren, VRel] using h
  | .slice (some (i, o)) m c, v, hi, h => by
    have h3 := hi i (by simp [AVal.ids])
    simp only [AVal.ren, VRel, ARel] at h ⊢
    obtain ⟨a, cap, e, h1, h2⟩ := h
    have h4 := h3 h1
    rw [h4]
    refine ⟨a, cap, e, ?_, h2⟩
    rw [List.getElem?_eq_getElem h1] at h4
    exact lt_of_get h4
  | .map none, v, _, h => by simpa only [AVal.ren, VRel] using h
  | .map (some i), v, hi, h => by
    have h3 := hi i (by simp [AVal.ids])
    simp only [AVal.ren, VRel] at h ⊢
    obtain ⟨b, x, e, hx, hm⟩ := h
    exact ⟨b, x, e, (h3 (lt_of_get hx)).trans hx, hm⟩
  | .func g a c, v, hi, h => by
    simp only [AVal.ren, VRel] at h ⊢
    obtain ⟨fid, f', c', e, hg, h1, h2⟩ := h
    exact ⟨fid, f', c', e, hg, rens_rel f (fun i hi' => hi i (by simp [AVal.ids, hi'])) h1, rens_rel f (fun i hi' => hi i (by simp [AVal.ids, hi'])) h2⟩
  | .nilFunc, v, _, h => by simpa only [AVal.ren, VRel] using h
  | .iface _ _, v, _, h => by simp only [VRel] at h
  | .nilIface, v, _, h => by simpa only [AVal.ren, VRel] using h
  | .agg cs, v, hi, h => by
    simp only [AVal.ren, VRel] at h ⊢
    obtain ⟨cs', e, h1, h2⟩ := h
    exact ⟨cs', e, rens_rel f (fun i hi' => hi i (by simp [AVal.ids, hi'])) h1, rens_one f h2⟩
  | .tuple vs, v, hi, h => by
    simp only [AVal.ren, VRel] at h ⊢
    obtain ⟨cs', e, h1⟩ := h
    exact ⟨cs', e, rens_rel f (fun i hi' => hi i (by simp [AVal.ids, hi'])) h1⟩
theorem rens_rel (f : Nat → Nat) : ∀ {as : List AVal} {l : List Value}, (∀ i ∈ AVal.idsL as, i < μ.length → μ'[f i]? = μ[i]?) → VRels E μ as l → VRels E μ' (AVal.renL f as) l
  | [], l, _, h => by simpa only [AVal.renL, VRels] using h
  | a :: as, l, hi, h => by
    simp only [AVal.renL, VRels] at h ⊢
    obtain ⟨v, r, e, h1, h2⟩ := h
    exact ⟨v, r, e, ren_rel f (fun i hi' => hi i (by simp [AVal.idsL, hi'])) h1, rens_rel f (fun i hi' => hi i (by simp [AVal.idsL, hi'])) h2⟩
theorem rens_one (f : Nat → Nat) : ∀ {as : List AVal}, (∀ x ∈ as, x.isOne = true) → ∀ x ∈ AVal.renL f as, x.isOne = true
  | [], _ => by simp [AVal.renL]
  | a :: as, h => by
    intro x hx
    simp only [AVal.renL, List.mem_cons] at hx
    rcases hx with rfl | hx
    · rw [isOne_ren]; exact h a (List.mem_cons_self ..)
    · exact rens_one f (fun y hy => h y (List.mem_cons_of_mem _ hy)) x hx
end

theorem renL_get (f : Nat → Nat) : ∀ (as : List AVal) (k : Nat), (AVal.renL f as)[k]? = (as[k]?).map (AVal.ren f)
  | [], k => by simp [AVal.renL]
  | a :: as, 0 => by simp [AVal.renL]
  | a :: as, k + 1 => by simpa [AVal.renL] using renL_get f as k

theorem renL_length (f : Nat → Nat) : ∀ (as : List AVal), (AVal.renL f as).length = as.length
  | [] => rfl
  | a :: as => by simp [AVal.renL, renL_length f as]

theorem idsL_mem : ∀ {as : List AVal} {k : Nat} {a : AVal} {i : Nat}, as[k]? = some a → i ∈ a.ids → i ∈ AVal.idsL as
  | [], k, a, i, h, _ => by simp at h
  | x :: as, 0, a, i, h, hi => by simp at h; subst h; simp [AVal.idsL, hi]
  | x :: as, k + 1, a, i, h, hi => by
    simp at h
    simp [AVal.idsL, idsL_mem h hi]

theorem reach_spec (h : Heap) (n0 : Nat) : ∀ (f : Nat) (todo acc : List Nat), acc.Nodup → (∀ i ∈ acc, n0 ≤ i) → (reach h n0 f todo acc).Nodup ∧ ∀ i ∈ reach h n0 f todo acc, n0 ≤ i
  | 0, todo, acc, h1, h2 => by simp only [reach]; exact ⟨h1, h2⟩
  | f + 1, [], acc, h1, h2 => by simp only [reach]; exact ⟨h1, h2⟩
  | f + 1, i :: r, acc, h1, h2 => by
    simp only [reach]
    split
    · exact reach_spec h n0 f r acc h1 h2
    · split
      · exact reach_spec h n0 f r acc h1 h2
      · rename_i hi hc
        refine reach_spec h n0 f _ _ ?_ fun j hj => ?_
        · rw [List.nodup_append]
          refine ⟨h1, by simp, fun a ha b hb => ?_⟩
          simp at hb; subst hb
          intro e; subst e
          simp at hc; exact hc ha
        · rcases List.mem_append.1 hj with hj | hj
          · exact h2 j hj
          · simp at hj; omega

theorem idxIn_get : ∀ {i : Nat} {l : List Nat}, i ∈ l → l[idxIn i l]? = some i
  | i, [], h => by cases h
  | i, j :: r, h => by
    simp only [idxIn]
    split
    · rename_i e; subst e; rfl
    · rename_i hne
      have : i ∈ r := by
        rcases List.mem_cons.1 h with e | e
        · exact absurd e.symm hne
        · exact e
      simpa using idxIn_get this

end
end Go.Abs
