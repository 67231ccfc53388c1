/-
  Layer 27, plain: both heaps stay alike.
-/
import Derived.Test.YtinmepllgdllmaaP6
namespace Go.Abs.AbsHeap
variable {O os : List AObj} {b w : Nat}

/-- All that is there is told to be in use. -/
def HS.Tot (S : HS) : Prop := S.used = ((S.ents.map Ent.size).sum : Nat)

theorem live_le_used {S : HS} (h : S.Tot) (seen : List Int) : (liveN S seen : Int) ≤ S.used := by
  rw [h]
  have : ∀ l : List Ent, ((l.filter fun e => seen.contains e.n).map Ent.size).sum ≤ (l.map Ent.size).sum := by
    intro l
    induction l with
    | nil => simp
    | cons e l ih =>
      rw [List.filter_cons, List.map_cons, List.sum_cons]
      split
      · rw [List.map_cons, List.sum_cons]; omega
      · omega
  have := this S.ents
  unfold liveN
  omega

theorem coll_tot (S : HS) (seen : List Int) : (S.coll seen).Tot := rfl

theorem add_tot {S : HS} (h : S.Tot) (q r : Nat) (cls : Int) (t : List UInt8) (n : Nat) : (S.add q r cls t n).Tot := by
  unfold HS.Tot at *
  simp only [HS.add, List.map_append, List.map_cons, List.map_nil, List.sum_append, List.sum_cons, List.sum_nil, Ent.size]
  rw [h]
  simp [cells0, Ent.size]

theorem set_tot {S : HS} (h : S.Tot) (n i : Int) (v : V) : (S.put n i v).Tot := by
  unfold HS.put
  split
  · unfold HS.Tot at *
    simp only [HS.set, List.map_map]
    rw [h]
    congr 2
    refine List.map_congr_left fun e _ => ?_
    simp only [Function.comp]
    split
    · simp [Ent.size, Ent.set]
    · rfl
  · exact h

theorem coll_find {S : HS} (hnd : (S.ents.map Ent.n).Nodup) (seen : List Int) (n : Int) : (S.coll seen).find n = if n ∈ seen then S.find n else none := by
  unfold HS.find HS.coll
  simp only
  have key : ∀ l : List Ent, (l.filter fun e => seen.contains e.n).find? (fun e => e.n == n) = if n ∈ seen then l.find? (fun e => e.n == n) else none := by
    intro l
    induction l with
    | nil => simp
    | cons e l ih =>
      rw [List.filter_cons]
      by_cases hn : e.n = n
      · by_cases hs : n ∈ seen
        · rw [if_pos (by simpa [hn] using hs), List.find?_cons, List.find?_cons, if_pos hs]
          simp [hn]
        · rw [if_neg (by simpa [hn] using hs), ih, if_neg hs, if_neg hs]
      · have hb : (e.n == n) = false := by simpa using hn
        split
        · rw [List.find?_cons, hb, ih, List.find?_cons, hb]
        · rw [ih, List.find?_cons, hb]
  exact key _

theorem coll_agr {S : HS} {R : RH} {roots : List V} {seen : List Int} (hnd : (S.ents.map Ent.n).Nodup) (hA : Agr S R roots) (hs : Going S roots seen []) : Agr (S.coll seen) R roots where
  sub := fun n o h => by
    unfold HS.look at h
    rw [coll_find hnd] at h
    split at h
    · exact hA.sub n o h
    · cases h
  there := fun n h => by
    have h2 := (Reach.same hA.sub hA.there n).2 h
    have h3 := (going_end hs n).2 h2
    obtain ⟨o, ho⟩ := hA.there n h
    refine ⟨o, ?_⟩
    unfold HS.look
    rw [coll_find hnd, if_pos h3]
    exact ho

theorem add_look {S : HS} {q r n : Nat} {cls : Int} {t : List UInt8} (hl : S.find (S.last + 1) = none) (m : Int) : (S.add q r cls t n).look m = if m = S.last + 1 then some ⟨cls, t, cells0 t n⟩ else S.look m := by
  unfold HS.look HS.find HS.add
  simp only [List.find?_append, List.find?_cons, List.find?_nil]
  by_cases h : m = S.last + 1
  · rw [if_pos h]
    subst h
    unfold HS.find at hl
    rw [hl]
    simp
  · rw [if_neg h]
    have : ((S.last + 1 == m) : Bool) = false := by simpa using fun e => h e.symm
    rw [this]
    simp

theorem addR_look {R : RH} {i r n : Nat} {cls : Int} {t : List UInt8} (m : Int) : (R.add i r cls t n).look m = if m = (R.all.length : Int) + 1 then some ⟨cls, t, cells0 t n⟩ else R.look m := by
  unfold RH.look RH.add
  simp only
  by_cases h : m = (R.all.length : Int) + 1
  · rw [if_pos h, if_pos (by omega), List.getElem?_append_right (by omega)]
    have : m.toNat - 1 - R.all.length = 0 := by omega
    rw [this]; rfl
  · rw [if_neg h]
    split
    · rename_i h1
      rcases Nat.lt_or_ge (m.toNat - 1) R.all.length with h2 | h2
      · rw [List.getElem?_append_left h2]
      · rw [List.getElem?_append_right h2, List.getElem?_eq_none (show R.all.length ≤ m.toNat - 1 from h2), List.getElem?_eq_none (by simp; omega)]
    · rfl

theorem look0 (R : RH) : R.look 0 = none := by unfold RH.look; rw [if_neg (by omega)]

theorem reach_add {R : RH} {i r n : Nat} {cls : Int} {t : List UInt8} {roots roots' : List V} (hroots : ∀ v ∈ roots', v ∈ roots ∨ v = ⟨(R.all.length : Int) + 1, true⟩) (m : Int) (h : Reach (R.add i r cls t n).look roots' m) : Reach R.look roots m ∨ m = (R.all.length : Int) + 1 := by
  refine Reach.closed (S := fun m => Reach R.look roots m ∨ m = (R.all.length : Int) + 1) (fun m o h1 h2 => ?_) (fun m p k o h1 h2 h3 h4 => ?_) h
  · rcases hroots _ h1 with h1 | h1
    · rw [addR_look] at h2
      split at h2
      · rename_i e; exact .inr e
      · exact .inl (.root h1 h2)
    · exact .inr (by injection h1)
  · rw [addR_look] at h4
    split at h4
    · rename_i e; exact .inr e
    · rcases h1 with h1 | h1
      · obtain ⟨o', ho'⟩ := h1.there
        rw [addR_look] at h2
        split at h2
        · rename_i e
          cases h2
          simp only [cells0, List.mem_replicate] at h3
          have : k = 0 := by injection h3.2
          rw [this, look0] at h4; cases h4
        · exact .inl (.step h1 h2 h3 h4)
      · rw [addR_look, if_pos h1] at h2
        cases h2
        simp only [cells0, List.mem_replicate] at h3
        have : k = 0 := by injection h3.2
        rw [this, look0] at h4; cases h4

/-- Behind a new object, and a root more or not. -/
theorem add_agr {S : HS} {R : RH} {roots roots' : List V} {q r i r' n : Nat} {cls : Int} {t : List UInt8} (hf : S.find (S.last + 1) = none) (hl : S.last = R.all.length) (hA : Agr S R roots) (hroots : ∀ v ∈ roots', v ∈ roots ∨ v = ⟨(R.all.length : Int) + 1, true⟩) : Agr (S.add q r cls t n) (R.add i r' cls t n) roots' where
  sub := fun m o h => by
    rw [add_look hf] at h
    rw [addR_look, ← hl]
    split at h
    · rename_i e; rw [if_pos e]; exact h
    · rename_i e; rw [if_neg e]; exact hA.sub m o h
  there := fun m h => by
    rw [add_look hf]
    rcases reach_add hroots m h with h | h
    · split
      · exact ⟨_, rfl⟩
      · exact hA.there m h
    · rw [if_pos (by omega)]; exact ⟨_, rfl⟩

theorem Agr.mono {S : HS} {R : RH} {roots roots' : List V} (hA : Agr S R roots) (h : ∀ v ∈ roots', v ∈ roots) : Agr S R roots' :=
  ⟨hA.sub, fun n hn => hA.there n (hn.mono fun v hv _ => .inl (h v hv))⟩

theorem addR_wf {R : RH} {i r n : Nat} {cls : Int} {t : List UInt8} (h : R.WF) (ht : t ≠ [] → cls = -1) : (R.add i r cls t n).WF := fun m o ho hne => by
  rw [addR_look] at ho
  split at ho
  · cases ho; exact ht hne
  · exact h m o ho hne

theorem going_all {S : HS} {roots : List V} (hnd : (S.ents.map Ent.n).Nodup) : ∀ (m : Nat) (s : List Int) (ws : List Ent), ws.length + 2 * unseen S s ≤ m → Going S roots s ws → ∃ s', Going S roots s' []
  | m, s, ws, hm, hg => by
    rcases List.eq_nil_or_concat ws with rfl | ⟨wi, e, rfl⟩
    · exact ⟨s, hg⟩
    · simp only [List.concat_eq_append, List.length_append, List.length_singleton] at hm hg
      have hless := (mark_ok S e.o.cells s wi).less
      cases m with
      | zero => omega
      | succ m => exact going_all hnd m _ _ (by omega) (going_step hnd hg)

/-- Making: both tell the same. -/
theorem mk_eq {S S' : HS} {R R' : RH} {roots : List V} {cls n num num2 code code2 : Int} {t : List UInt8} {b0 p : Nat} (H : HRep os b0 p S) (hA : Agr S R roots) (hT : S.Tot) (hl : S.last = R.all.length) (hbd : R.bound = S.bound)
    (h1 : MkRes S roots cls t n num code S') (h2 : MkR R roots cls t n num2 code2 R') :
    num = num2 ∧ code = code2 ∧ S'.Tot ∧ R'.bound = S'.bound ∧ S'.last = R'.all.length ∧ ((code ≠ 0 ∧ R' = R ∧ Agr S' R roots) ∨ (code = 0 ∧ num = (R.all.length : Int) + 1 ∧ (∃ i r k, R' = R.add i r cls t k) ∧ Agr S' R' (roots ++ [⟨num, true⟩]))) := by
  have hlive : ∀ {seen : List Int} {bs : List Bool}, Going S roots seen [] → GoingR R roots bs [] → liveR R bs (R.all.length + 1) = liveN S seen := fun hs hr => live_eq H.nd hA hs hr
  rcases h1 with ⟨g1, rfl, rfl, rfl⟩ | ⟨g0, h1⟩
  · cases h2 with
    | arg _ => exact ⟨rfl, rfl, hT, hbd, hl, .inl ⟨by omega, rfl, hA⟩⟩
    | big h => omega
    | full h _ _ _ => omega
    | made h _ _ _ => omega
  · obtain ⟨seen0, hs0⟩ := going_all H.nd _ _ _ (Nat.le_refl _) (going0 S roots)
    cases h1 with
    | big h =>
      cases h2 with
      | arg h' => omega
      | big _ => exact ⟨rfl, rfl, hT, hbd, hl, .inl ⟨by omega, rfl, hA⟩⟩
      | full _ h' _ _ => omega
      | made _ h' _ _ => omega
    | full k1 k2 k3 k4 =>
      cases h2 with
      | arg h' => omega
      | big h' => omega
      | full _ _ _ _ => exact ⟨rfl, rfl, coll_tot _ _, hbd, hl, .inl ⟨by omega, rfl, coll_agr H.nd hA k3⟩⟩
      | made _ _ h3 h4 => rw [hlive k3 h3] at h4; omega
    | made1 k1 k2 =>
      cases h2 with
      | arg h' => omega
      | big h' => omega
      | @full bs _ _ h3 h4 =>
        exfalso
        -- what is reached is no more than what is used
        have hle := live_le_used hT seen0
        rw [hlive hs0 h3] at h4
        omega
      | made _ _ _ _ =>
        refine ⟨by omega, rfl, add_tot hT _ _ _ _ _, hbd, by simp [HS.add, RH.add]; omega, .inr ⟨rfl, by omega, ⟨_, _, _, rfl⟩, ?_⟩⟩
        exact add_agr (find_last H) hl hA fun v hv => by
          rcases List.mem_append.1 hv with hv | hv
          · exact .inl hv
          · simp only [List.mem_singleton] at hv; exact .inr (by rw [hv, hl])
    | @made2 seen q r k1 k2 k3 k4 =>
      cases h2 with
      | arg h' => omega
      | big h' => omega
      | full _ _ h3 h4 => rw [hlive k3 h3] at h4; omega
      | made _ _ _ _ =>
        have hf : (S.coll seen).find ((S.coll seen).last + 1) = none := by rw [coll_find H.nd]; split; exact find_last H; rfl
        refine ⟨by omega, rfl, add_tot (coll_tot _ _) _ _ _ _ _, hbd, by simp [HS.add, RH.add, HS.coll]; omega, .inr ⟨rfl, by omega, ⟨_, _, _, rfl⟩, ?_⟩⟩
        exact add_agr hf hl (coll_agr H.nd hA k3) fun v hv => by
          rcases List.mem_append.1 hv with hv | hv
          · exact .inl hv
          · simp only [List.mem_singleton] at hv; exact .inr (by rw [hv, hl])

/-! ## A cell is set -/

def Ob.set (o : Ob) (i : Nat) (v : V) : Ob := { o with cells := o.cells.set i (setV o.typ v) }

theorem put_look {S : HS} {n i : Int} {v : V} (m : Int) : (S.put n i v).look m = if m = n ∧ setE (S.find n) i = 0 then (S.look m).map fun o => o.set i.toNat v else S.look m := by
  unfold HS.put
  by_cases h0 : setE (S.find n) i = 0
  · rw [if_pos h0]
    have key : ∀ l : List Ent, (l.map fun e => if e.n = n then e.set i.toNat v else e).find? (fun e => e.n == m) = (l.find? (fun e => e.n == m)).map fun e => if e.n = n then e.set i.toNat v else e := by
      intro l
      induction l with
      | nil => rfl
      | cons e l ih =>
        rw [List.map_cons, List.find?_cons, List.find?_cons]
        have hn : (if e.n = n then e.set i.toNat v else e).n = e.n := by split <;> rfl
        rw [hn]
        split
        · rfl
        · exact ih
    unfold HS.look HS.find HS.set
    simp only
    rw [key]
    cases hf : S.ents.find? (fun e => e.n == m) with
    | none => simp
    | some e =>
      have hm : e.n = m := by have := List.find?_some hf; simpa using this
      by_cases hmn : m = n
      · rw [if_pos ⟨hmn, by unfold HS.find at h0; exact h0⟩]
        simp only [Option.map_some, hm, hmn, if_true]
        rfl
      · rw [if_neg (fun h => hmn h.1)]
        simp only [Option.map_some, hm, hmn, if_false]
  · rw [if_neg h0, if_neg (fun h => h0 h.2)]

theorem putR_look {R : RH} {n i : Int} {v : V} (m : Int) : (R.put n i v).look m = if m = n ∧ setRE (R.get n) i = 0 then (R.look m).map fun o => o.set i.toNat v else R.look m := by
  unfold RH.put
  by_cases h0 : setRE (R.get n) i = 0
  · rw [if_pos h0]
    have hn1 : 1 ≤ n := by
      cases hg : R.get n with
      | none => rw [hg] at h0; simp [setRE] at h0
      | some e => exact (RH.get_mem hg).2.1
    unfold RH.look
    simp only
    by_cases hm1 : 1 ≤ m
    · rw [if_pos hm1, if_pos hm1, List.getElem?_modify]
      by_cases hmn : m = n
      · subst hmn
        rw [if_pos ⟨rfl, h0⟩]
        cases R.all[m.toNat - 1]? <;> simp [REnt.set, Ob.set]
      · rw [if_neg (fun h => hmn h.1)]
        have : ¬ n.toNat - 1 = m.toNat - 1 := by omega
        cases R.all[m.toNat - 1]? <;> simp [this]
    · rw [if_neg hm1, if_neg hm1]
      split <;> rfl
  · rw [if_neg h0, if_neg (fun h => h0 h.2)]

theorem setV_ref {t : List UInt8} {v : V} (h : (setV t v).ref = true) : setV t v = v := by
  unfold setV at *
  split at h
  · cases h
  · split at h
    · cases h
    · rename_i h1 h2; rw [if_neg h1, if_neg h2]

theorem set_eq {S : HS} {R : RH} {roots : List V} {n i : Int} {v : V} (hA : Agr S R roots) (hr : Reach R.look roots n) (hv : v.ref = true → v ∈ roots) : setE (S.find n) i = setRE (R.get n) i ∧ Agr (S.put n i v) (R.put n i v) roots := by
  obtain ⟨o, ho⟩ := hA.there n hr
  have ho2 := hA.sub n o ho
  obtain ⟨e, he, heo⟩ := look_find ho
  have hg := ho2
  rw [RH.look_get, Option.map_eq_some_iff] at hg
  obtain ⟨f, hf, hfo⟩ := hg
  have hE : setE (S.find n) i = setRE (R.get n) i := by
    rw [he, hf]
    simp only [setE, setRE, heo, hfo]
  refine ⟨hE, ⟨fun m o1 h => ?_, fun m h => ?_⟩⟩
  · rw [put_look] at h
    rw [putR_look, ← hE]
    split at h
    · rename_i hc
      rw [if_pos hc]
      rw [Option.map_eq_some_iff] at h ⊢
      obtain ⟨o2, h1, h2⟩ := h
      exact ⟨o2, hA.sub _ _ h1, h2⟩
    · rename_i hc
      rw [if_neg hc]
      exact hA.sub _ _ h
  · have hsome : ∀ m o1, (R.put n i v).look m = some o1 → ∃ o2, R.look m = some o2 ∧ ∀ x ∈ o1.cells, x ∈ o2.cells ∨ (x.ref = true → x = v) := fun m o1 h => by
      rw [putR_look] at h
      split at h
      · rw [Option.map_eq_some_iff] at h
        obtain ⟨o2, h1, rfl⟩ := h
        refine ⟨o2, h1, fun x hx => ?_⟩
        rcases List.mem_or_eq_of_mem_set hx with hx | rfl
        · exact .inl hx
        · exact .inr fun hrf => setV_ref hrf
      · exact ⟨o1, h, fun x hx => .inl hx⟩
    have hold : Reach R.look roots m := by
      refine Reach.closed (S := fun m => Reach R.look roots m) (fun m o1 h1 h2 => ?_) (fun m p k o1 h1 h2 h3 h4 => ?_) h
      · obtain ⟨o2, h3, _⟩ := hsome _ _ h2
        exact .root h1 h3
      · obtain ⟨p2, q1, q2⟩ := hsome _ _ h2
        obtain ⟨o2, q3, _⟩ := hsome _ _ h4
        rcases q2 _ h3 with q4 | q4
        · exact .step h1 q1 q4 q3
        · have := q4 rfl
          exact .root (by rw [this]; exact hv (by rw [← this])) q3
    obtain ⟨o1, ho1⟩ := hA.there m hold
    rw [put_look]
    split
    · exact ⟨_, by rw [ho1]; rfl⟩
    · exact ⟨o1, ho1⟩

theorem put_wf {R : RH} {n i : Int} {v : V} (h : R.WF) : (R.put n i v).WF := fun m o ho hne => by
  rw [putR_look] at ho
  split at ho
  · rw [Option.map_eq_some_iff] at ho
    obtain ⟨o2, h1, rfl⟩ := ho
    exact h m o2 h1 hne
  · exact h m o ho hne

end Go.Abs.AbsHeap

/-
  Layer 27: playing: what stands while acts are done.
-/
namespace Go.Abs.AbsHeap
set_option maxRecDepth 100000
set_option linter.unusedSimpArgs false
variable {O os : List AObj} {b w : Nat} {β : Type}

structure PInv (os : List AObj) (b0 p q : Nat) (S : HS) (R : RH) (roots : List V) (ra : Option (Nat × Nat)) (rc : Option Nat) (k : Nat) : Prop where
  H : HRep os b0 p S
  G : RRep os b0 q R
  dis : ∀ i, S.fp p i → ¬ R.fp q i
  A : Agr S R roots
  W : R.WF
  T : S.Tot
  last : S.last = R.all.length
  bd : R.bound = S.bound
  ok : S.OkN k
  row : Row os 2 V.cs roots ra
  rt : ∀ v ∈ roots, v.ref = true ∧ ∃ o, R.look v.n = some o
  rn : ra = none → roots = [] ∧ rc = some 0
  rs : ∀ i o, ra = some (i, o) → b0 ≤ i ∧ (∃ cs, os[i]? = some (.cells 2 cs)) ∧ ¬ S.fp p i ∧ ¬ R.fp q i
  rc : rc = none ∨ rc = some roots.length
  len : roots.length ≤ k

/-- The program's heap has turned. -/
theorem Row.frame {α : Type} {e : Nat} {f : α → List AVal} {L : List α} {a : Option (Nat × Nat)} {os os' : List AObj} (h : Row os e f L a) (hs : ∀ i o, a = some (i, o) → os'[i]? = os[i]?) : Row os' e f L a :=
  ⟨fun hne => by
    obtain ⟨b, o, cs, h1, h2, h3⟩ := h.at' hne
    exact ⟨b, o, cs, h1, by rw [hs b o h1]; exact h2, h3⟩⟩

theorem splitU {os os' : List AObj} {P P' : Nat → Prop} (hU : Upd os os' P P') {i : Nat} (hi : i < os.length) (hn : ¬ P i) : ¬ P' i := fun h => by
  rcases hU.fp i h with h | h
  · exact hn h
  · omega

/-- A root more. -/
theorem app_one {b0 i0 : Nat} {roots : List V} {ra : Option (Nat × Nat)} {rc : Option Nat} {x : Int} (hrow : Row O 2 V.cs roots ra) (hb : b ≤ b0) (hb0 : b0 ≤ O.length) (hrn : ra = none → roots = [] ∧ rc = some 0) (hrs : ∀ i o, ra = some (i, o) → b0 ≤ i ∧ (∃ cs, O[i]? = some (.cells 2 cs))) (hrc : rc = none ∨ rc = some roots.length) (hl : roots.length ≤ 1000000) (hi0 : i0 = O.length) :
    ∃ O' w', aAppend 2 16 ⟨O ++ [.cells 2 [.int .i64 x, .bool true]], b, w⟩ (.slice ra roots.length rc) (.slice (some (i0, 0)) 1 (some 1)) = some (.slice (some (i0 + 1, 0)) (roots.length + 1) none, ⟨O', b, w'⟩) ∧ O'[i0 + 1]? = some (.cells 2 (rowC (roots ++ [⟨x, true⟩]))) ∧ O.length < O'.length ∧ (∀ j, j < O.length → (∀ o, ra ≠ some (j, o)) → O'[j]? = O[j]?) ∧ min w b0 ≤ w' := by
  subst hi0
  have z1 : (roots.length + 1) * 16 ≤ 140737488355328 := by omega
  have z2 : roots.length ≤ 9223372036854775806 := by omega
  have hx : rowC (roots ++ [⟨x, true⟩]) = rowC roots ++ [.int .i64 x, .bool true] := by rw [rowC_app]; rfl
  cases ra with
  | none =>
    obtain ⟨rfl, rfl⟩ := hrn rfl
    refine ⟨O ++ [.cells 2 [.int .i64 x, .bool true], .cells 2 [.int .i64 x, .bool true]], w, ?_, ?_, by simp, fun j hj _ => by rw [List.getElem?_append_left hj], Nat.min_le_left _ _⟩
    · simp [-getElem?_pos, -getElem?_neg]
    · rw [hx]; simp
  | some ir =>
    obtain ⟨i, o⟩ := ir
    obtain ⟨k1, cs0, k2⟩ := hrs i o rfl
    have hil := lt_of_get k2
    have hgi : (O ++ [AObj.cells 2 [.int .i64 x, .bool true]])[i]? = some (.cells 2 cs0) := by rw [List.getElem?_append_left hil]; exact k2
    have hbi : b ≤ i := by omega
    by_cases hne : roots = []
    · subst hne
      rcases hrc with rfl | rfl
      · refine ⟨(O ++ [AObj.cells 2 [.int .i64 x, .bool true]]).set i .dead ++ [.cells 2 [.int .i64 x, .bool true]], min w i, ?_, ?_, by simp; omega, fun j hj hne => ?_, by omega⟩
        · simp [-getElem?_pos, -getElem?_neg, hgi, hbi]
        · rw [hx, List.getElem?_append_right (by simp)]; simp
        · rw [List.getElem?_append_left (by simp; omega), List.getElem?_set_ne (fun h => hne o (by rw [h])), List.getElem?_append_left hj]
      · refine ⟨O ++ [.cells 2 [.int .i64 x, .bool true], .cells 2 [.int .i64 x, .bool true]], w, ?_, ?_, by simp, fun j hj _ => by rw [List.getElem?_append_left hj], Nat.min_le_left _ _⟩
        · simp [-getElem?_pos, -getElem?_neg]
        · rw [hx]; simp
    · obtain ⟨b', o', cs, h1, h2, h3, h4⟩ := Row.all hrow hne
      cases h1
      rw [k2] at h2
      cases h2
      have hl0 : roots.length ≠ 0 := fun h => hne (List.eq_nil_of_length_eq_zero h)
      rcases hrc with rfl | rfl
      · refine ⟨(O ++ [AObj.cells 2 [.int .i64 x, .bool true]]).set i .dead ++ [.cells 2 (rowC roots ++ [.int .i64 x, .bool true])], min w i, ?_, ?_, by simp; omega, fun j hj hne => ?_, by omega⟩
        · simp [-getElem?_pos, -getElem?_neg, hgi, hbi, hne, h3, h4, z1, z2]
        · rw [hx, List.getElem?_append_right (by simp)]; simp
        · rw [List.getElem?_append_left (by simp; omega), List.getElem?_set_ne (fun h => hne o (by rw [h])), List.getElem?_append_left hj]
      · refine ⟨O ++ [.cells 2 [.int .i64 x, .bool true], .cells 2 (rowC roots ++ [.int .i64 x, .bool true])], w, ?_, ?_, by simp, fun j hj _ => by rw [List.getElem?_append_left hj], Nat.min_le_left _ _⟩
        · simp [-getElem?_pos, -getElem?_neg, hgi, hbi, hne, h3, h4, z1, z2]
        · rw [hx]; simp

/-- The texts of arrays' types. -/
def tyS (n : Int) : List UInt8 := if n.tmod 4 = 0 then [91, 73] else if n.tmod 4 = 1 then [91, 66] else if n.tmod 4 = 2 then [91, 76, 65, 59] else [91, 91, 73]

theorem tyS_begins (n : Int) : begins 91 (tyS n) = true := by unfold tyS; (repeat' split) <;> rfl
theorem tyS_ne (n : Int) : tyS n ≠ [] := by unfold tyS; (repeat' split) <;> simp

theorem s317 {n : Int} (h0 : 0 ≤ n) : xCall T 317 [.int .u8 n] ⟨os, b, w⟩ = some (.str (tyS n), ⟨os, b, w⟩) := by
  have h4 : n.tmod 4 = 0 ∨ n.tmod 4 = 1 ∨ n.tmod 4 = 2 ∨ n.tmod 4 = 3 := by
    rw [Int.tmod_eq_emod_of_nonneg h0]; omega
  rcases h4 with h | h | h | h <;> simp (disch := omega) [-getElem?_pos, -getElem?_neg, xCallK t317, code317, h, tyS, nltF, nleT]


theorem PInv.frameG {b0 p q k : Nat} {S S' : HS} {R : RH} {roots : List V} {ra : Option (Nat × Nat)} {rc : Option Nat} {os1 : List AObj} (P : PInv os b0 p q S R roots ra rc k) (U1 : Upd os os1 (S.fp p) (S'.fp p)) : RRep os1 b0 q R :=
  P.G.frame fun i hi => U1.same i (P.G.fp_lt hi) fun h => P.dis i h hi

theorem PInv.row_lt {b0 p q k : Nat} {S : HS} {R : RH} {roots : List V} {ra : Option (Nat × Nat)} {rc : Option Nat} (P : PInv os b0 p q S R roots ra rc k) {i o : Nat} (h : ra = some (i, o)) : i < os.length := by
  obtain ⟨_, ⟨cs, h1⟩, _⟩ := P.rs i o h
  exact lt_of_get h1

theorem PInv.row1 {b0 p q k : Nat} {S S' : HS} {R : RH} {roots : List V} {ra : Option (Nat × Nat)} {rc : Option Nat} {os1 : List AObj} (P : PInv os b0 p q S R roots ra rc k) (U1 : Upd os os1 (S.fp p) (S'.fp p)) : Row os1 2 V.cs roots ra :=
  Row.frame P.row fun i o h => U1.same i (P.row_lt h) (P.rs i o h).2.2.1

/-- What both heaps' turning leaves. -/
structure Both (os os2 : List AObj) (b0 p q : Nat) (S S' : HS) (R R' : RH) : Prop where
  H : HRep os2 b0 p S'
  G : RRep os2 b0 q R'
  dis : ∀ i, S'.fp p i → ¬ R'.fp q i
  len : os.length ≤ os2.length
  same : ∀ i, i < os.length → ¬ S.fp p i → ¬ R.fp q i → os2[i]? = os[i]? ∧ ¬ S'.fp p i ∧ ¬ R'.fp q i

theorem both {b0 p q k : Nat} {S S' : HS} {R R' : RH} {roots : List V} {ra : Option (Nat × Nat)} {rc : Option Nat} {os1 os2 : List AObj} (P : PInv os b0 p q S R roots ra rc k) (H1 : HRep os1 b0 p S') (U1 : Upd os os1 (S.fp p) (S'.fp p)) (G2 : RRep os2 b0 q R') (U2 : Upd os1 os2 (R.fp q) (R'.fp q)) : Both os os2 b0 p q S S' R R' where
  H := H1.frame fun i hi => U2.same i (H1.fp_lt hi) fun h => by
    rcases U1.fp i hi with h1 | h1
    · exact P.dis i h1 h
    · have := P.G.fp_lt h; omega
  G := G2
  dis := fun i h1 h2 => by
    rcases U2.fp i h2 with h2 | h2
    · rcases U1.fp i h1 with h1 | h1
      · exact P.dis i h1 h2
      · have := P.G.fp_lt h2; omega
    · have := H1.fp_lt h1; omega
  len := Nat.le_trans U1.len U2.len
  same := fun i hi h1 h2 => by
    refine ⟨(U2.same i (Nat.lt_of_lt_of_le hi U1.len) h2).trans (U1.same i hi h1), splitU U1 hi h1, splitU U2 (Nat.lt_of_lt_of_le hi U1.len) h2⟩

/-- Roots as they were. -/
theorem PInv.keep {b0 p q k k' : Nat} {S S' : HS} {R R' : RH} {roots : List V} {ra : Option (Nat × Nat)} {rc : Option Nat} {os2 : List AObj} (P : PInv os b0 p q S R roots ra rc k) (B : Both os os2 b0 p q S S' R R') (hk : k ≤ k') (hA : Agr S' R' roots) (hW : R'.WF) (hT : S'.Tot) (hl : S'.last = R'.all.length) (hb : R'.bound = S'.bound) (hok : S'.OkN k') (hrt : ∀ v ∈ roots, ∃ o, R'.look v.n = some o) : PInv os2 b0 p q S' R' roots ra rc k' where
  H := B.H
  G := B.G
  dis := B.dis
  A := hA
  W := hW
  T := hT
  last := hl
  bd := hb
  ok := hok
  row := Row.frame P.row fun i o h => (B.same i (P.row_lt h) (P.rs i o h).2.2.1 (P.rs i o h).2.2.2).1
  rt := fun v hv => ⟨(P.rt v hv).1, hrt v hv⟩
  rn := P.rn
  rs := fun i o h => by
    obtain ⟨h1, ⟨cs, h2⟩, h3, h4⟩ := P.rs i o h
    obtain ⟨g1, g2, g3⟩ := B.same i (P.row_lt h) h3 h4
    exact ⟨h1, ⟨cs, by rw [g1]; exact h2⟩, g2, g3⟩
  rc := P.rc
  len := Nat.le_trans P.len hk

/-- Other roots, in a row of their own. -/
theorem PInv.roots {b0 p q k k' : Nat} {S : HS} {R : RH} {roots roots' : List V} {ra : Option (Nat × Nat)} {rc : Option Nat} {os3 : List AObj} {i3 : Nat} {rc3 : Option Nat} (P : PInv os b0 p q S R roots ra rc k) (hlen : os.length ≤ i3) (hget : os3[i3]? = some (.cells 2 (rowC roots'))) (hs : ∀ j, j < os.length → (∀ o, ra ≠ some (j, o)) → os3[j]? = os[j]?) (hA : Agr S R roots') (hrt : ∀ v ∈ roots', v.ref = true ∧ ∃ o, R.look v.n = some o) (hk : k ≤ k') (hl : roots'.length ≤ k') (hrc : rc3 = none ∨ rc3 = some roots'.length) : PInv os3 b0 p q S R roots' (some (i3, 0)) rc3 k' where
  H := P.H.frame fun i hi => hs i (P.H.fp_lt hi) fun o h => (P.rs i o h).2.2.1 hi
  G := P.G.frame fun i hi => hs i (P.G.fp_lt hi) fun o h => (P.rs i o h).2.2.2 hi
  dis := P.dis
  A := hA
  W := P.W
  T := P.T
  last := P.last
  bd := P.bd
  ok := P.ok.mono hk
  row := Row.mk0 (fun _ => rfl) hget
  rt := hrt
  rn := fun h => by cases h
  rs := fun i o h => by
    cases h
    have h1 := P.H.low p (.inl rfl)
    have h2 := lt_of_get P.H.head
    exact ⟨by omega, ⟨_, hget⟩, fun h => by have := P.H.fp_lt h; omega, fun h => by have := P.G.fp_lt h; omega⟩
  rc := hrc
  len := hl

/-- A thing is made by both. -/
theorem PInv.made {b0 p q k : Nat} {S S' : HS} {R R' : RH} {roots : List V} {ra : Option (Nat × Nat)} {rc : Option Nat} {os1 os2 : List AObj} {cls n num num2 code code2 : Int} {t : List UInt8} (P : PInv os b0 p q S R roots ra rc k) (hk : k ≤ 999999)
    (h1 : MkRes S roots cls t n num code S') (H1 : HRep os1 b0 p S') (U1 : Upd os os1 (S.fp p) (S'.fp p)) (h2 : MkR R roots cls t n num2 code2 R') (G2 : RRep os2 b0 q R') (U2 : Upd os1 os2 (R.fp q) (R'.fp q)) (ht : t ≠ [] → cls = -1) :
    num = num2 ∧ code = code2 ∧ (∀ i, i < os.length → i < b0 → os2[i]? = os[i]?) ∧ PInv os2 b0 p q S' R' roots ra rc (k + 1) ∧ (code = 0 → Agr S' R' (roots ++ [⟨num, true⟩]) ∧ ∀ v ∈ roots ++ [⟨num, true⟩], v.ref = true ∧ ∃ o, R'.look v.n = some o) := by
  obtain ⟨e1, e2, hT, hb, hl, hc⟩ := mk_eq P.H P.A P.T P.last P.bd h1 h2
  have B := both P H1 U1 G2 U2
  have hok := h1.okN P.H P.ok (by omega)
  refine ⟨e1, e2, fun i hi hib => (B.same i hi (fun h => by have := P.H.low i h; omega) (fun h => by have := P.G.low i h; omega)).1, ?_⟩
  rcases hc with ⟨c1, rfl, hA⟩ | ⟨c1, c2, ⟨i, r, m, rfl⟩, hA⟩
  · exact ⟨P.keep B (by omega) hA P.W hT hl hb hok fun v hv => (P.rt v hv).2, fun h => absurd h c1⟩
  · have hrt : ∀ v ∈ roots, ∃ o, (R.add i r cls t m).look v.n = some o := fun v hv => by
      rw [addR_look]
      split
      · exact ⟨_, rfl⟩
      · exact (P.rt v hv).2
    refine ⟨P.keep B (by omega) (hA.mono fun v hv => List.mem_append_left _ hv) (addR_wf P.W ht) hT hl hb hok hrt, fun _ => ⟨hA, fun v hv => ?_⟩⟩
    rcases List.mem_append.1 hv with hv | hv
    · exact ⟨(P.rt v hv).1, hrt v hv⟩
    · simp only [List.mem_singleton] at hv
      subst hv
      exact ⟨rfl, _, by rw [addR_look, if_pos c2]⟩

end Go.Abs.AbsHeap

/-
  Layer 27: an act is done: a thing is made.
-/
namespace Go.Abs.AbsHeap
set_option maxRecDepth 100000
set_option linter.unusedSimpArgs false
variable {O os : List AObj} {b w : Nat} {β : Type}

structure Act where
  kind : Int
  typ : Int
  n : Int
  at_ : Int
  v : Int
  ref : Bool

def Act.cs (a : Act) : List AVal := [.int .u8 a.kind, .int .u8 a.typ, .int .i64 a.n, .int .u8 a.at_, .int .u8 a.v, .bool a.ref]

structure Act.Ok (a : Act) : Prop where
  kind : 0 ≤ a.kind ∧ a.kind ≤ 255
  typ : 0 ≤ a.typ ∧ a.typ ≤ 255
  at_ : 0 ≤ a.at_ ∧ a.at_ ≤ 255
  v : 0 ≤ a.v ∧ a.v ≤ 255

/-- Where the loop stands. -/
def stP (p q : Nat) (cl : Bool) (ra : Option (Nat × Nat)) (rl : Nat) (rc : Option Nat) (aa : Option (Nat × Nat)) (al : Nat) (ac : Option Nat) (i : Int) : Slots :=
  [(0, .val (.ptr (some (p, 0)))), (1, .val (.ptr (some (q, 0)))), (3, .val (.bool cl)), (9, .val (.slice ra rl rc)), (19, .val (.slice aa al ac)), (20, .val (.int .i64 (al : Nat))), (21, .val (.int .i64 i))]

set_option maxHeartbeats 2000000 in
theorem step0 {b0 p q k i al : Nat} {S : HS} {R : RH} {roots : List V} {ra : Option (Nat × Nat)} {rc : Option Nat} (P : PInv os b0 p q S R roots ra rc k) (hk : k ≤ 999000) (hb : b ≤ b0) {cl : Bool} {aa ac : Nat} {o : Nat} {acs : List AVal} {rc2 : Option Nat} {x : Act} (hx : x.Ok) (hk0 : x.kind.tmod 5 = 0) (hbd : -9000000000000000000 ≤ R.bound)
    (ha : os[aa]? = some (.cells 6 acs)) (hab : aa < b0) (hla : o + i * 6 + 6 ≤ acs.length) (hta : (acs.drop (o + i * 6)).take 6 = x.cs) (hi : i < al) (hal : al ≤ 1000) (hw : b0 ≤ w) (K : AExit → St → Option β) :
    ∃ os' S' R' roots' ra' rc' w', PInv os' b0 p q S' R' roots' ra' rc' (k + 1) ∧ b0 ≤ w' ∧ (∀ j, j < os.length → j < b0 → os'[j]? = os[j]?) ∧ R'.bound = R.bound ∧
      xK T code300L0 ⟨stP p q cl ra roots.length rc (some (aa, o)) al rc2 (i : Nat), ⟨os, b, w⟩⟩ (k := ⟨K⟩) = K .normal ⟨stP p q cl ra' roots'.length rc' (some (aa, o)) al rc2 ((i : Int) + 1), ⟨os', b, w'⟩⟩ := by
  obtain ⟨xk, xt, xn, xa, xv, xr⟩ := x
  obtain ⟨hkd, htp, hat, hv⟩ := hx
  simp only at hkd htp hat hv hk0
  simp only [Act.cs] at hta
  have hlen := P.len
  obtain ⟨S', num, code, os1, h1, H1, U1, hc1⟩ := s297 (b := b) (c := rc) (cls := xt) P.H (P.ok.ok (by omega)) hb P.row (by omega) xn
  obtain ⟨w1, hw1, hx1⟩ := hc1 w
  have hG1 := P.frameG U1
  obtain ⟨R', num2, code2, os2, h2, G2, U2, hc2⟩ := s296 (b := b) (c := rc) (cls := xt) (t := []) hG1 hb (P.row1 U1) (by omega) xn (by have := P.ok.b2; have := P.bd; omega) (by have h1 := P.ok.l1; have h2 := P.last; omega)
  obtain ⟨w2, hw2, hx2⟩ := hc2 w1
  obtain ⟨rfl, rfl, hold, P2, hroots⟩ := P.made (by omega) h1 H1 U1 h2 G2 U2 (fun h => absurd rfl h)
  have hRb : R'.bound = R.bound := by
    cases h2 <;> rfl
  have hal1 : (i : Int) < (al : Int) := by omega
  have hwt : IntKind.i64.wrap xt = xt := wrapI (by omega)
  have hi9 : (i : Int) + 1 ≤ 1001 := by omega
  by_cases hz : code = 0
  · subst hz
    obtain ⟨hA', hrt'⟩ := hroots rfl
    have hb2 : b0 ≤ os2.length := by have := P2.H.low p (.inl rfl); have := lt_of_get P2.H.head; omega
    obtain ⟨os3, w3, k1, k2, k3, k4, k5⟩ := app_one (i0 := os2.length) (x := num) (w := w2) P2.row hb hb2 P2.rn (fun i o h => ⟨(P2.rs i o h).1, (P2.rs i o h).2.1⟩) P2.rc (by omega) rfl
    have P3 := P2.roots (i3 := os2.length + 1) (rc3 := none) (by omega) k2 k4 hA' hrt' (Nat.le_refl _) (by rw [List.length_append, List.length_singleton]; omega) (.inl rfl)
    have h316 := fun w => s316 (b := b) (w := w) (c := none) P3.H P3.G P3.row (by have := P3.len; omega) hb (by have := P3.ok.len; omega) P3.A P3.W
    simp only [List.length_append, List.length_singleton] at h316
    refine ⟨os3, S', R', roots ++ [⟨num, true⟩], some (os2.length + 1, 0), none, w3, P3, by omega, fun j hj hjb => ?_, hRb, ?_⟩
    · have hj2 : j < os2.length := by omega
      rw [k4 j hj2 fun o h => by have := (P2.rs j o h).1; omega, hold j hj hjb]
    · simp (disch := omega) [-getElem?_pos, -getElem?_neg, -aAppend, code300L0, stP, iltT, ileT, nltT, nleT, wrapI, hal1, ha, hla, hta, hk0, hwt, hx1, hx2, k1, h316]
  · have h316 := fun w => s316 (b := b) (w := w) (c := rc) P2.H P2.G P2.row (by have := P2.len; omega) hb (by have := P2.ok.len; omega) P2.A P2.W
    refine ⟨os2, S', R', roots, ra, rc, w2, P2, by omega, hold, hRb, ?_⟩
    simp (disch := omega) [-getElem?_pos, -getElem?_neg, -aAppend, code300L0, stP, iltT, ileT, nltT, nleT, wrapI, hal1, ha, hla, hta, hk0, hwt, hx1, hx2, hz, h316]

end Go.Abs.AbsHeap

/-
  Layer 27: an act is done: arrays, cells, roots, collections.
-/
namespace Go.Abs.AbsHeap
set_option maxRecDepth 100000
set_option linter.unusedSimpArgs false
variable {O os : List AObj} {b w : Nat} {β : Type}

theorem sgetN (t : Nat) : sget [] t = none := by simp
theorem sgetH (t : Nat) (x : Slot) (r : Slots) : sget ((t, x) :: r) t = some x := by simp
theorem sgetT (u t : Nat) (x : Slot) (r : Slots) (h : u ≠ t) : sget ((u, x) :: r) t = sget r t := by simp [h]

set_option maxHeartbeats 2000000 in
theorem step1 {b0 p q k i al : Nat} {S : HS} {R : RH} {roots : List V} {ra : Option (Nat × Nat)} {rc : Option Nat} (P : PInv os b0 p q S R roots ra rc k) (hk : k ≤ 999000) (hb : b ≤ b0) {cl : Bool} {aa ac : Nat} {o : Nat} {acs : List AVal} {rc2 : Option Nat} {x : Act} (hx : x.Ok) (hk0 : x.kind.tmod 5 = 1) (hbd : -9000000000000000000 ≤ R.bound)
    (ha : os[aa]? = some (.cells 6 acs)) (hab : aa < b0) (hla : o + i * 6 + 6 ≤ acs.length) (hta : (acs.drop (o + i * 6)).take 6 = x.cs) (hi : i < al) (hal : al ≤ 1000) (hw : b0 ≤ w) (K : AExit → St → Option β) :
    ∃ os' S' R' roots' ra' rc' w', PInv os' b0 p q S' R' roots' ra' rc' (k + 1) ∧ b0 ≤ w' ∧ (∀ j, j < os.length → j < b0 → os'[j]? = os[j]?) ∧ R'.bound = R.bound ∧
      xK T code300L0 ⟨stP p q cl ra roots.length rc (some (aa, o)) al rc2 (i : Nat), ⟨os, b, w⟩⟩ (k := ⟨K⟩) = K .normal ⟨stP p q cl ra' roots'.length rc' (some (aa, o)) al rc2 ((i : Int) + 1), ⟨os', b, w'⟩⟩ := by
  obtain ⟨xk, xt, xn, xa, xv, xr⟩ := x
  obtain ⟨hkd, htp, hat, hv⟩ := hx
  simp only at hkd htp hat hv hk0
  simp only [Act.cs] at hta
  have hlen := P.len
  obtain ⟨S', num, code, os1, h1, H1, U1, hc1⟩ := s305 (b := b) (c := rc) (t := tyS xt) P.H (P.ok.ok (by omega)) hb P.row (by omega) xn (tyS_begins xt)
  obtain ⟨w1, hw1, hx1⟩ := hc1 w
  have hG1 := P.frameG U1
  obtain ⟨R', num2, code2, os2, h2, G2, U2, hc2⟩ := s296 (b := b) (c := rc) (cls := -1) (t := tyS xt) hG1 hb (P.row1 U1) (by omega) xn (by have := P.ok.b2; have := P.bd; omega) (by have h1 := P.ok.l1; have h2 := P.last; omega)
  obtain ⟨w2, hw2, hx2⟩ := hc2 w1
  obtain ⟨rfl, rfl, hold, P2, hroots⟩ := P.made (by omega) h1 H1 U1 h2 G2 U2 (fun _ => rfl)
  have hRb : R'.bound = R.bound := by
    cases h2 <;> rfl
  have hal1 : (i : Int) < (al : Int) := by omega
  have h317 := fun os w => s317 (os := os) (b := b) (w := w) htp.1
  have hi9 : (i : Int) + 1 ≤ 1001 := by omega
  by_cases hz : code = 0
  · subst hz
    obtain ⟨hA', hrt'⟩ := hroots rfl
    have hb2 : b0 ≤ os2.length := by have := P2.H.low p (.inl rfl); have := lt_of_get P2.H.head; omega
    obtain ⟨os3, w3, k1, k2, k3, k4, k5⟩ := app_one (i0 := os2.length) (x := num) (w := w2) P2.row hb hb2 P2.rn (fun i o h => ⟨(P2.rs i o h).1, (P2.rs i o h).2.1⟩) P2.rc (by omega) rfl
    have P3 := P2.roots (i3 := os2.length + 1) (rc3 := none) (by omega) k2 k4 hA' hrt' (Nat.le_refl _) (by rw [List.length_append, List.length_singleton]; omega) (.inl rfl)
    have h316 := fun w => s316 (b := b) (w := w) (c := none) P3.H P3.G P3.row (by have := P3.len; omega) hb (by have := P3.ok.len; omega) P3.A P3.W
    simp only [List.length_append, List.length_singleton] at h316
    refine ⟨os3, S', R', roots ++ [⟨num, true⟩], some (os2.length + 1, 0), none, w3, P3, by omega, fun j hj hjb => ?_, hRb, ?_⟩
    · have hj2 : j < os2.length := by omega
      rw [k4 j hj2 fun o h => by have := (P2.rs j o h).1; omega, hold j hj hjb]
    · simp (disch := omega) [-getElem?_pos, -getElem?_neg, -aAppend, -sget, sgetN, sgetH, sgetT, code300L0, stP, iltT, ileT, nltT, nleT, wrapI, hal1, ha, hla, hta, hk0, h317, hx1, hx2, k1, h316]
  · have h316 := fun w => s316 (b := b) (w := w) (c := rc) P2.H P2.G P2.row (by have := P2.len; omega) hb (by have := P2.ok.len; omega) P2.A P2.W
    refine ⟨os2, S', R', roots, ra, rc, w2, P2, by omega, hold, hRb, ?_⟩
    simp (disch := omega) [-getElem?_pos, -getElem?_neg, -aAppend, -sget, sgetN, sgetH, sgetT, code300L0, stP, iltT, ileT, nltT, nleT, wrapI, hal1, ha, hla, hta, hk0, h317, hx1, hx2, hz, h316]

set_option maxHeartbeats 2000000 in
theorem step4 {b0 p q k i al : Nat} {S : HS} {R : RH} {roots : List V} {ra : Option (Nat × Nat)} {rc : Option Nat} (P : PInv os b0 p q S R roots ra rc k) (hk : k ≤ 999000) (hb : b ≤ b0) {cl : Bool} {aa ac : Nat} {o : Nat} {acs : List AVal} {rc2 : Option Nat} {x : Act} (hx : x.Ok) (hk0 : x.kind.tmod 5 = 4) (hbd : -9000000000000000000 ≤ R.bound)
    (ha : os[aa]? = some (.cells 6 acs)) (hab : aa < b0) (hla : o + i * 6 + 6 ≤ acs.length) (hta : (acs.drop (o + i * 6)).take 6 = x.cs) (hi : i < al) (hal : al ≤ 1000) (hw : b0 ≤ w) (K : AExit → St → Option β) :
    ∃ os' S' R' roots' ra' rc' w', PInv os' b0 p q S' R' roots' ra' rc' (k + 1) ∧ b0 ≤ w' ∧ (∀ j, j < os.length → j < b0 → os'[j]? = os[j]?) ∧ R'.bound = R.bound ∧
      xK T code300L0 ⟨stP p q cl ra roots.length rc (some (aa, o)) al rc2 (i : Nat), ⟨os, b, w⟩⟩ (k := ⟨K⟩) = K .normal ⟨stP p q cl ra' roots'.length rc' (some (aa, o)) al rc2 ((i : Int) + 1), ⟨os', b, w'⟩⟩ := by
  obtain ⟨xk, xt, xn, xa, xv, xr⟩ := x
  obtain ⟨hkd, htp, hat, hv⟩ := hx
  simp only at hkd htp hat hv hk0
  simp only [Act.cs] at hta
  have hlen := P.len
  have hal1 : (i : Int) < (al : Int) := by omega
  have hi9 : (i : Int) + 1 ≤ 1001 := by omega
  have hb2 : b ≤ os.length := by have := P.H.low p (.inl rfl); have := lt_of_get P.H.head; omega
  cases cl with
  | false =>
    have h316 := fun w => s316 (b := b) (w := w) (c := rc) P.H P.G P.row (by omega) hb (by have := P.ok.len; omega) P.A P.W
    refine ⟨os, S, R, roots, ra, rc, w, ?_, hw, fun _ _ _ => rfl, rfl, ?_⟩
    · exact P.keep ⟨P.H, P.G, P.dis, Nat.le_refl _, fun i hi h1 h2 => ⟨rfl, h1, h2⟩⟩ (by omega) P.A P.W P.T P.last P.bd (P.ok.mono (by omega)) fun v hv => (P.rt v hv).2
    · simp (disch := omega) [-getElem?_pos, -getElem?_neg, -sget, sgetN, sgetH, sgetT, code300L0, stP, iltT, ileT, nltT, nleT, wrapI, hal1, ha, hla, hta, hk0, h316]
  | true =>
    obtain ⟨seen, os1, hg, H1, U1, hc⟩ := s292 P.H (c := rc) P.row (by omega) hb hb2 (by have := P.ok.len; omega)
    obtain ⟨w1, hw1, hw2, hx1⟩ := hc w
    have hG1 := P.frameG U1
    have B := both P H1 U1 hG1 (Upd.refl _ _)
    have P2 : PInv os1 b0 p q (S.coll seen) R roots ra rc (k + 1) := P.keep B (by omega) (coll_agr P.H.nd P.A hg) P.W (coll_tot _ _) P.last P.bd ((P.ok.coll P.H seen).mono (by omega)) fun v hv => (P.rt v hv).2
    have h316 := fun w => s316 (b := b) (w := w) (c := rc) P2.H P2.G P2.row (by omega) hb (by have := P2.ok.len; omega) P2.A P2.W
    refine ⟨os1, S.coll seen, R, roots, ra, rc, w1, P2, by omega, fun j hj hjb => ?_, rfl, ?_⟩
    · exact (B.same j hj (fun h => by have := P.H.low j h; omega) (fun h => by have := P.G.low j h; omega)).1
    · simp (disch := omega) [-getElem?_pos, -getElem?_neg, -sget, sgetN, sgetH, sgetT, code300L0, stP, iltT, ileT, nltT, nleT, wrapI, hal1, ha, hla, hta, hk0, hx1, h316]

set_option maxHeartbeats 8000000 in
theorem step2 {b0 p q k i al : Nat} {S : HS} {R : RH} {roots : List V} {ra : Option (Nat × Nat)} {rc : Option Nat} (P : PInv os b0 p q S R roots ra rc k) (hk : k ≤ 999000) (hb : b ≤ b0) {cl : Bool} {aa ac : Nat} {o : Nat} {acs : List AVal} {rc2 : Option Nat} {x : Act} (hx : x.Ok) (hk0 : x.kind.tmod 5 = 2) (hbd : -9000000000000000000 ≤ R.bound)
    (ha : os[aa]? = some (.cells 6 acs)) (hab : aa < b0) (hla : o + i * 6 + 6 ≤ acs.length) (hta : (acs.drop (o + i * 6)).take 6 = x.cs) (hi : i < al) (hal : al ≤ 1000) (hw : b0 ≤ w) (K : AExit → St → Option β) :
    ∃ os' S' R' roots' ra' rc' w', PInv os' b0 p q S' R' roots' ra' rc' (k + 1) ∧ b0 ≤ w' ∧ (∀ j, j < os.length → j < b0 → os'[j]? = os[j]?) ∧ R'.bound = R.bound ∧
      xK T code300L0 ⟨stP p q cl ra roots.length rc (some (aa, o)) al rc2 (i : Nat), ⟨os, b, w⟩⟩ (k := ⟨K⟩) = K .normal ⟨stP p q cl ra' roots'.length rc' (some (aa, o)) al rc2 ((i : Int) + 1), ⟨os', b, w'⟩⟩ := by
  obtain ⟨xk, xt, xn, xa, xv, xr⟩ := x
  obtain ⟨hkd, htp, hat, hv⟩ := hx
  simp only at hkd htp hat hv hk0
  simp only [Act.cs] at hta
  have hlen := P.len
  have hal1 : (i : Int) < (al : Int) := by omega
  have hi9 : (i : Int) + 1 ≤ 1001 := by omega
  have hb2 : b ≤ os.length := by have := P.H.low p (.inl rfl); have := lt_of_get P.H.head; omega
  have hwa : IntKind.i64.wrap xa = xa := wrapI (by omega)
  have hwv : IntKind.i64.wrap xv = xv := wrapI (by omega)
  have h6 : 0 ≤ xv.tmod 6 ∧ xv.tmod 6 < 6 := by rw [Int.tmod_eq_emod_of_nonneg hv.1]; omega
  by_cases hne : roots = []
  · subst hne
    have h316 := fun w => s316 (b := b) (w := w) (c := rc) P.H P.G P.row (by simp) hb (by have := P.ok.len; omega) P.A P.W
    simp only [List.length_nil] at h316
    refine ⟨os, S, R, [], ra, rc, w, ?_, hw, fun _ _ _ => rfl, rfl, ?_⟩
    · exact P.keep ⟨P.H, P.G, P.dis, Nat.le_refl _, fun i hi h1 h2 => ⟨rfl, h1, h2⟩⟩ (by omega) P.A P.W P.T P.last P.bd (P.ok.mono (by omega)) fun v hv => (P.rt v hv).2
    · simp (disch := omega) [-getElem?_pos, -getElem?_neg, -sget, sgetN, sgetH, sgetT, code300L0, stP, iltT, ileT, nltT, nleT, wrapI, hal1, ha, hla, hta, hk0, h316]
  · have hl0 : 0 < roots.length := List.length_pos_iff.2 hne
    obtain ⟨ri, ro, cs, rfl, hr1, hr2⟩ := P.row.at' hne
    have hmod : ∀ y : Int, 0 ≤ y → y.tmod (roots.length : Int) = ((y.toNat % roots.length : Nat) : Int) := fun y hy => by
      obtain ⟨m, rfl⟩ := Int.eq_ofNat_of_zero_le hy
      rw [Int.tmod_eq_emod_of_nonneg hy, Int.toNat_natCast]
      rfl
    have hma := hmod xa hat.1
    have hmv := hmod xv hv.1
    have hlta : xa.toNat % roots.length < roots.length := Nat.mod_lt _ hl0
    have hltv : xv.toNat % roots.length < roots.length := Nat.mod_lt _ hl0
    generalize xa.toNat % roots.length = ja at hma hlta
    generalize xv.toNat % roots.length = jv at hmv hltv
    obtain ⟨ua, hua⟩ : ∃ u, roots[ja]? = some u := ⟨_, List.getElem?_eq_getElem hlta⟩
    obtain ⟨uv, huv⟩ : ∃ u, roots[jv]? = some u := ⟨_, List.getElem?_eq_getElem hltv⟩
    obtain ⟨pa1, pa2⟩ := hr2 ja ua hua
    obtain ⟨pv1, pv2⟩ := hr2 jv uv huv
    have ga : cs[ro + ja * 2]? = some (.int .i64 ua.n) := by
      have := congrArg (fun l => l[0]?) pa2
      simpa [List.getElem?_take, List.getElem?_drop, V.cs] using this
    have hla1 : (ja : Int) < (roots.length : Int) := by omega
    have hlv1 : (jv : Int) < (roots.length : Int) := by omega
    have hlz : ¬ (roots.length : Int) = 0 := by omega
    have hla9 : ja ≤ 1000000 := by omega
    have hlv9 : jv ≤ 1000000 := by omega
    obtain ⟨hra, oa, hoa⟩ := P.rt ua (List.mem_of_getElem? hua)
    have hreach : Reach R.look roots ua.n := .root (by obtain ⟨n, r⟩ := ua; simp only at hra ⊢; subst hra; exact List.mem_of_getElem? hua) hoa
    -- what is set
    have fin : ∀ (v : V), (v.ref = true → v ∈ roots) →
        (∃ code, code ≠ 0 ∧ PInv os b0 p q S R roots (some (ri, ro)) rc (k + 1) ∧ (∀ w, xCall T 100295 [.ptr (some (p, 0)), .int .i64 ua.n, .int .i64 (xv.tmod 6 - 1), .agg v.cs] ⟨os, b, w⟩ = some (.int .i64 code, ⟨os, b, w⟩)) ∧
          (∀ w, xCall T 294 [.ptr (some (q, 0)), .int .i64 ua.n, .int .i64 (xv.tmod 6 - 1), .agg v.cs] ⟨os, b, w⟩ = some (.int .i64 code, ⟨os, b, w⟩))) ∨
        (∃ os1 os2 S' R' e1 e2, PInv os2 b0 p q S' R' roots (some (ri, ro)) rc (k + 1) ∧ b0 ≤ e1 ∧ e1 < os.length ∧ b0 ≤ e2 ∧ os1.length = os.length ∧ (∀ j, j < os.length → j < b0 → os2[j]? = os[j]?) ∧ R'.bound = R.bound ∧
          (∀ w, xCall T 100295 [.ptr (some (p, 0)), .int .i64 ua.n, .int .i64 (xv.tmod 6 - 1), .agg v.cs] ⟨os, b, w⟩ = some (.int .i64 0, ⟨os1, b, min w e1⟩)) ∧
          (∀ w, xCall T 294 [.ptr (some (q, 0)), .int .i64 ua.n, .int .i64 (xv.tmod 6 - 1), .agg v.cs] ⟨os1, b, w⟩ = some (.int .i64 0, ⟨os2, b, min w e2⟩))) := by
      intro v hvr
      obtain ⟨hE, hA2⟩ := set_eq (i := xv.tmod 6 - 1) P.A hreach hvr
      obtain ⟨H1, U1⟩ := P.H.setO ua.n (xv.tmod 6 - 1) v
      have hG1 := P.frameG U1
      obtain ⟨G2, U2⟩ := RRep.setRO hG1 ua.n (xv.tmod 6 - 1) v
      have hs1 := fun w => s100295 (b := b) (w := w) P.H ua.n (xv.tmod 6 - 1) v hb
      have hs2 := fun w => s294 (b := b) (w := w) hG1 ua.n (xv.tmod 6 - 1) v hb
      by_cases hc : setE (S.find ua.n) (xv.tmod 6 - 1) = 0
      · right
        have B := both P H1 U1 G2 U2
        have hRl : (R.put ua.n (xv.tmod 6 - 1) v).all.length = R.all.length := by unfold RH.put; split <;> simp
        have hSl : (S.put ua.n (xv.tmod 6 - 1) v).last = S.last ∧ (S.put ua.n (xv.tmod 6 - 1) v).bound = S.bound ∧ (S.put ua.n (xv.tmod 6 - 1) v).used = S.used ∧ (S.put ua.n (xv.tmod 6 - 1) v).ents.length = S.ents.length := by unfold HS.put; split <;> simp [HS.set]
        have hRb : (R.put ua.n (xv.tmod 6 - 1) v).bound = R.bound := by unfold RH.put; split <;> rfl
        have hok : (S.put ua.n (xv.tmod 6 - 1) v).OkN (k + 1) := by
          obtain ⟨q1, q2, q3, q4⟩ := hSl
          obtain ⟨i1, i2, i3, i4, i5, i6, i7⟩ := P.ok
          exact ⟨by omega, by omega, by rw [q3, q4]; exact i3, by rw [q2, q4]; exact i4, by omega, by omega, by omega⟩
        have P2 : PInv _ b0 p q (S.put ua.n (xv.tmod 6 - 1) v) (R.put ua.n (xv.tmod 6 - 1) v) roots (some (ri, ro)) rc (k + 1) := P.keep B (by omega) hA2 (put_wf P.W) (set_tot P.T _ _ _) (by rw [hSl.1, hRl]; exact P.last) (by rw [hRb, hSl.2.1]; exact P.bd) hok fun v' hv' => by
          obtain ⟨_, o', ho'⟩ := P.rt v' hv'
          rw [putR_look]
          split
          · exact ⟨_, by rw [ho']; rfl⟩
          · exact ⟨o', ho'⟩
        have hcR := hE.symm.trans hc
        cases hfs : S.find ua.n with
        | none => rw [hfs] at hc; simp [setE] at hc
        | some e =>
          cases hfr : R.get ua.n with
          | none => rw [hfr] at hcR; simp [setRE] at hcR
          | some f =>
            have hem := (HS.find_mem hfs).1
            have hfm := (RH.get_mem hfr).1
            have hi1 : ¬ (xv.tmod 6 - 1 < 0 ∨ (e.o.cells.length : Int) ≤ xv.tmod 6 - 1) := fun h => by rw [hfs] at hc; simp only [setE, h, if_true] at hc; omega
            have hi2 : ¬ (xv.tmod 6 - 1 < 0 ∨ (f.o.cells.length : Int) ≤ xv.tmod 6 - 1) := fun h => by rw [hfr] at hcR; simp only [setRE, h, if_true] at hcR; omega
            refine ⟨setO os (S.find ua.n) (xv.tmod 6 - 1) v, _, _, _, e.r, f.r, P2, P.H.low e.r (.inr (.inr ⟨e, hem, .inr rfl⟩)), lt_of_get (P.H.row e hem), P.G.low f.r (.inr (.inr ⟨f, hfm, rfl⟩)), ?_, fun j hj hjb => (B.same j hj (fun h => by have := P.H.low j h; omega) (fun h => by have := P.G.low j h; omega)).1, hRb, fun w => ?_, fun w => ?_⟩
            · rw [hfs]; simp only [setO, hi1, if_false, List.length_set]
            · rw [hs1, hc]
              simp only [hfs, setW, hi1, if_false]
            · rw [hs2, hcR]
              simp only [hfr, setRW, hi2, if_false]
      · left
        have hcR : setRE (R.get ua.n) (xv.tmod 6 - 1) ≠ 0 := fun h => hc (hE.trans h)
        have hO : setO os (S.find ua.n) (xv.tmod 6 - 1) v = os ∧ ∀ w, setW w (S.find ua.n) (xv.tmod 6 - 1) = w := by
          cases hfs : S.find ua.n with
          | none => exact ⟨rfl, fun _ => rfl⟩
          | some e =>
            rw [hfs] at hc
            have hi1 : (xv.tmod 6 - 1 < 0 ∨ (e.o.cells.length : Int) ≤ xv.tmod 6 - 1) := by
              by_cases h : (xv.tmod 6 - 1 < 0 ∨ (e.o.cells.length : Int) ≤ xv.tmod 6 - 1)
              · exact h
              · simp [setE, h] at hc
            exact ⟨by simp only [setO, hi1, if_true], fun w => by simp only [setW, hi1, if_true]⟩
        have hRO : ∀ O, setRO O (R.get ua.n) (xv.tmod 6 - 1) v = O ∧ ∀ w, setRW w (R.get ua.n) (xv.tmod 6 - 1) = w := fun O => by
          cases hfr : R.get ua.n with
          | none => exact ⟨rfl, fun _ => rfl⟩
          | some e =>
            rw [hfr] at hcR
            have hi1 : (xv.tmod 6 - 1 < 0 ∨ (e.o.cells.length : Int) ≤ xv.tmod 6 - 1) := by
              by_cases h : (xv.tmod 6 - 1 < 0 ∨ (e.o.cells.length : Int) ≤ xv.tmod 6 - 1)
              · exact h
              · simp [setRE, h] at hcR
            exact ⟨by simp only [setRO, hi1, if_true], fun w => by simp only [setRW, hi1, if_true]⟩
        refine ⟨_, hc, P.keep ⟨P.H, P.G, P.dis, Nat.le_refl _, fun i hi h1 h2 => ⟨rfl, h1, h2⟩⟩ (by omega) P.A P.W P.T P.last P.bd (P.ok.mono (by omega)) fun v hv => (P.rt v hv).2, fun w => ?_, fun w => ?_⟩
        · rw [hs1, hO.1, hO.2]
        · have := hs2 w
          rw [hO.1, (hRO os).1, (hRO os).2] at this
          rw [this, hE]
    -- the run
    have run : ∀ (v : V), (v.ref = true → v ∈ roots) → (xr = false ∧ v = ⟨xn, false⟩ ∨ xr = true ∧ v = uv) → ∃ os' S' R' w', PInv os' b0 p q S' R' roots (some (ri, ro)) rc (k + 1) ∧ b0 ≤ w' ∧ (∀ j, j < os.length → j < b0 → os'[j]? = os[j]?) ∧ R'.bound = R.bound ∧
        xK T code300L0 ⟨stP p q cl (some (ri, ro)) roots.length rc (some (aa, o)) al rc2 (i : Nat), ⟨os, b, w⟩⟩ (k := ⟨K⟩) = K .normal ⟨stP p q cl (some (ri, ro)) roots.length rc (some (aa, o)) al rc2 ((i : Int) + 1), ⟨os', b, w'⟩⟩ := by
      intro v hvr hvc
      have hpl := lt_of_get P.H.head
      have hql := lt_of_get P.G.head
      have hp0 := P.H.low p (.inl rfl)
      simp only [V.cs] at pv2
      rcases fin v hvr with ⟨code, hc, P2, h1, h2⟩ | ⟨os1, os2, S', R', e1, e2, P2, g1, g2, g3, g4, g5, g6, h1, h2⟩
      · have h316 := fun w => s316 (b := b) (w := w) (c := rc) P2.H P2.G P2.row (by omega) hb (by have := P2.ok.len; omega) P2.A P2.W
        simp only [V.cs] at h1 h2
        refine ⟨os, S, R, w, P2, hw, fun _ _ _ => rfl, rfl, ?_⟩
        rcases hvc with ⟨rfl, rfl⟩ | ⟨rfl, rfl⟩
        · simp (maxSteps := 3000000) (disch := omega) [-getElem?_pos, -getElem?_neg, -sget, sgetN, sgetH, sgetT, code300L0, stP, iltT, ileT, nltT, nltF, nleT, wrapI, hal1, ha, hla, hta, hk0, hwa, hwv, hma, hmv, hr1, ga, hla1, hlv1, hne, pa1, pv1, pv2, h1, h2, h316, Nat.testBit_eq_decide_div_mod_eq, hc]
        · simp (maxSteps := 3000000) (disch := omega) [-getElem?_pos, -getElem?_neg, -sget, sgetN, sgetH, sgetT, code300L0, stP, iltT, ileT, nltT, nltF, nleT, wrapI, hal1, ha, hla, hta, hk0, hwa, hwv, hma, hmv, hr1, ga, hla1, hlv1, hne, pa1, pv1, pv2, h1, h2, h316, Nat.testBit_eq_decide_div_mod_eq, hc]
      · have h316 := fun w => s316 (b := b) (w := w) (c := rc) P2.H P2.G P2.row (by omega) hb (by have := P2.ok.len; omega) P2.A P2.W
        simp only [V.cs] at h1 h2
        refine ⟨os2, S', R', min (min w (min os.length e1)) e2, P2, by omega, g5, g6, ?_⟩
        have hpl1 : p < os1.length := by omega
        rcases hvc with ⟨rfl, rfl⟩ | ⟨rfl, rfl⟩
        · simp (maxSteps := 3000000) (disch := omega) [-getElem?_pos, -getElem?_neg, -sget, sgetN, sgetH, sgetT, code300L0, stP, iltT, ileT, nltT, nltF, nleT, wrapI, hal1, ha, hla, hta, hk0, hwa, hwv, hma, hmv, hr1, ga, hla1, hlv1, hne, pa1, pv1, pv2, h1, h2, h316, Nat.testBit_eq_decide_div_mod_eq, g4]
        · simp (maxSteps := 3000000) (disch := omega) [-getElem?_pos, -getElem?_neg, -sget, sgetN, sgetH, sgetT, code300L0, stP, iltT, ileT, nltT, nltF, nleT, wrapI, hal1, ha, hla, hta, hk0, hwa, hwv, hma, hmv, hr1, ga, hla1, hlv1, hne, pa1, pv1, pv2, h1, h2, h316, Nat.testBit_eq_decide_div_mod_eq, g4]
    have hfin : ∀ (v : V), (v.ref = true → v ∈ roots) → (xr = false ∧ v = ⟨xn, false⟩ ∨ xr = true ∧ v = uv) → ∃ os' S' R' roots' ra' rc' w', PInv os' b0 p q S' R' roots' ra' rc' (k + 1) ∧ b0 ≤ w' ∧ (∀ j, j < os.length → j < b0 → os'[j]? = os[j]?) ∧ R'.bound = R.bound ∧
        xK T code300L0 ⟨stP p q cl (some (ri, ro)) roots.length rc (some (aa, o)) al rc2 (i : Nat), ⟨os, b, w⟩⟩ (k := ⟨K⟩) = K .normal ⟨stP p q cl ra' roots'.length rc' (some (aa, o)) al rc2 ((i : Int) + 1), ⟨os', b, w'⟩⟩ := fun v h1 h2 => by
      obtain ⟨os', S', R', w', q1, q2, q3, q4, q5⟩ := run v h1 h2
      exact ⟨os', S', R', roots, _, rc, w', q1, q2, q3, q4, q5⟩
    cases xr with
    | false => exact hfin ⟨xn, false⟩ (fun h => by cases h) (.inl ⟨rfl, rfl⟩)
    | true => exact hfin uv (fun _ => List.mem_of_getElem? huv) (.inr ⟨rfl, rfl⟩)

end Go.Abs.AbsHeap

/-
  Layer 27: a root is dropped; all acts, one behind the other.
-/
namespace Go.Abs.AbsHeap
set_option maxRecDepth 100000
set_option linter.unusedSimpArgs false
variable {O os : List AObj} {b w : Nat} {β : Type}

theorem rowC_take : ∀ (l : List V) (k : Nat), rowC (l.take k) = (rowC l).take (k * 2)
  | [], k => by simp
  | v :: l, 0 => by simp
  | v :: l, k + 1 => by
    rw [List.take_succ_cons, rowC_cons, rowC_cons, rowC_take l k, show (k + 1) * 2 = k * 2 + 1 + 1 by omega, List.take_succ_cons, List.take_succ_cons]

theorem rowC_drop : ∀ (l : List V) (k : Nat), rowC (l.drop k) = (rowC l).drop (k * 2)
  | [], k => by simp
  | v :: l, 0 => by simp
  | v :: l, k + 1 => by
    rw [List.drop_succ_cons, rowC_cons, rowC_drop l k, show (k + 1) * 2 = k * 2 + 1 + 1 by omega, List.drop_succ_cons, List.drop_succ_cons]

set_option maxHeartbeats 2000000 in
theorem step3 {b0 p q k i al : Nat} {S : HS} {R : RH} {roots : List V} {ra : Option (Nat × Nat)} {rc : Option Nat} (P : PInv os b0 p q S R roots ra rc k) (hk : k ≤ 999000) (hb : b ≤ b0) {cl : Bool} {aa : Nat} {o : Nat} {acs : List AVal} {rc2 : Option Nat} {x : Act} (hx : x.Ok) (hk0 : x.kind.tmod 5 = 3)
    (ha : os[aa]? = some (.cells 6 acs)) (hab : aa < b0) (hla : o + i * 6 + 6 ≤ acs.length) (hta : (acs.drop (o + i * 6)).take 6 = x.cs) (hi : i < al) (hal : al ≤ 1000) (hw : b0 ≤ w) (K : AExit → St → Option β) :
    ∃ os' S' R' roots' ra' rc' w', PInv os' b0 p q S' R' roots' ra' rc' (k + 1) ∧ b0 ≤ w' ∧ (∀ j, j < os.length → j < b0 → os'[j]? = os[j]?) ∧ R'.bound = R.bound ∧
      xK T code300L0 ⟨stP p q cl ra roots.length rc (some (aa, o)) al rc2 (i : Nat), ⟨os, b, w⟩⟩ (k := ⟨K⟩) = K .normal ⟨stP p q cl ra' roots'.length rc' (some (aa, o)) al rc2 ((i : Int) + 1), ⟨os', b, w'⟩⟩ := by
  obtain ⟨xk, xt, xn, xa, xv, xr⟩ := x
  obtain ⟨hkd, htp, hat, hv⟩ := hx
  simp only at hkd htp hat hv hk0
  simp only [Act.cs] at hta
  have hlen := P.len
  have hal1 : (i : Int) < (al : Int) := by omega
  have hi9 : (i : Int) + 1 ≤ 1001 := by omega
  have hwa : IntKind.i64.wrap xa = xa := wrapI (by omega)
  have hp0 := P.H.low p (.inl rfl)
  have hpl := lt_of_get P.H.head
  by_cases hne : roots = []
  · subst hne
    have h316 := fun w => s316 (b := b) (w := w) (c := rc) P.H P.G P.row (by simp) hb (by have := P.ok.len; omega) P.A P.W
    simp only [List.length_nil] at h316
    refine ⟨os, S, R, [], ra, rc, w, ?_, hw, fun _ _ _ => rfl, rfl, ?_⟩
    · exact P.keep ⟨P.H, P.G, P.dis, Nat.le_refl _, fun i hi h1 h2 => ⟨rfl, h1, h2⟩⟩ (by omega) P.A P.W P.T P.last P.bd (P.ok.mono (by omega)) fun v hv => (P.rt v hv).2
    · simp (maxSteps := 3000000) (disch := omega) [-getElem?_pos, -getElem?_neg, -sget, sgetN, sgetH, sgetT, code300L0, stP, iltT, ileT, nltT, nleT, wrapI, hal1, ha, hla, hta, hk0, h316]
  · have hl0 : 0 < roots.length := List.length_pos_iff.2 hne
    obtain ⟨ri, ro, cs, rfl, hr1, hr2, hr3⟩ := Row.all P.row hne
    have hma : xa.tmod (roots.length : Int) = ((xa.toNat % roots.length : Nat) : Int) := by
      obtain ⟨m, rfl⟩ := Int.eq_ofNat_of_zero_le hat.1
      rw [Int.tmod_eq_emod_of_nonneg hat.1, Int.toNat_natCast]
      rfl
    have hlta : xa.toNat % roots.length < roots.length := Nat.mod_lt _ hl0
    generalize xa.toNat % roots.length = ja at hma hlta
    have hlp : (0 : Int) < (roots.length : Int) := by omega
    have hj1 : (ja : Int) ≤ (roots.length : Int) := by omega
    have hj2 : (ja : Int) + 1 ≤ (roots.length : Int) := by omega
    have hj9 : ja ≤ 1000000 := by omega
    have hrc : rc.getD roots.length = roots.length := by rcases P.rc with h | h <;> rw [h] <;> rfl
    have hsub : ∀ v ∈ roots.take ja ++ roots.drop (ja + 1), v ∈ roots := fun v hv => by
      rcases List.mem_append.1 hv with hv | hv
      · exact List.mem_of_mem_take hv
      · exact List.mem_of_mem_drop hv
    have hrt' : ∀ v ∈ roots.take ja ++ roots.drop (ja + 1), v.ref = true ∧ ∃ o, R.look v.n = some o := fun v hv => P.rt v (hsub v hv)
    have hll : (roots.take ja ++ roots.drop (ja + 1)).length = ja + (roots.length - (ja + 1)) := by simp; omega
    have htx : List.take (ja * 2) (List.drop ro cs) = rowC (roots.take ja) := by
      rw [rowC_take, ← hr3, List.take_take, Nat.min_eq_left (by omega)]
    by_cases hlast : ja + 1 = roots.length
    · have hz : roots.take ja ++ roots.drop (ja + 1) = roots.take ja := by rw [List.drop_of_length_le (by omega), List.append_nil]
      rw [hz] at hsub hrt' hll
      have hll2 : (roots.take ja).length = ja := by rw [hll]; omega
      have P2 : PInv os b0 p q S R (roots.take ja) (some (ri, ro)) (some ja) (k + 1) := by
        have P1 := P.keep ⟨P.H, P.G, P.dis, Nat.le_refl _, fun i hi h1 h2 => ⟨rfl, h1, h2⟩⟩ (k' := k + 1) (by omega) P.A P.W P.T P.last P.bd (P.ok.mono (by omega)) fun v hv => (P.rt v hv).2
        refine ⟨P1.H, P1.G, P1.dis, P1.A.mono hsub, P1.W, P1.T, P1.last, P1.bd, P1.ok, ⟨fun hne' => ?_⟩, hrt', fun h => (by cases h), P1.rs, .inr (by rw [hll2]), by omega⟩
        obtain ⟨b', o', cs', g1, g2, g3⟩ := P.row.at' hne
        refine ⟨b', o', cs', g1, g2, fun j y hj => g3 j y ?_⟩
        rw [List.getElem?_take] at hj
        split at hj
        · exact hj
        · cases hj
      have h316 := fun w => s316 (b := b) (w := w) (c := some ja) P2.H P2.G P2.row (by omega) hb (by have := P2.ok.len; omega) P2.A P2.W
      rw [hll2] at h316
      refine ⟨os, S, R, roots.take ja, some (ri, ro), some ja, w, P2, hw, fun _ _ _ => rfl, rfl, ?_⟩
      rw [hll2]
      have hsz : roots.length - (ja + 1) = 0 := by omega
      by_cases hj0 : ja = 0
      · subst hj0
        simp only [Nat.zero_mul, List.take_zero, rowC_nil, Nat.zero_add, Int.cast_ofNat_Int] at *
        rcases P.rc with hrc | hrc <;> subst hrc <;>
        simp (maxSteps := 3000000) (disch := omega) [-getElem?_pos, -getElem?_neg, -sget, sgetN, sgetH, sgetT, code300L0, stP, iltT, ileT, nltT, nleT, wrapI, hal1, ha, hla, hta, hk0, hwa, hma, hlp, hne, hr1, hj1, hj2, hsz, h316, htx]
      · rcases P.rc with hrc | hrc <;> subst hrc <;>
        simp (maxSteps := 3000000) (disch := omega) [-getElem?_pos, -getElem?_neg, -sget, sgetN, sgetH, sgetT, code300L0, stP, iltT, ileT, nltT, nleT, wrapI, hal1, ha, hla, hta, hk0, hwa, hma, hlp, hne, hr1, hj1, hj2, hsz, h316, htx, hj0]
    · have hj3 : (ja : Int) + 1 < (roots.length : Int) := by omega
      have hnz : ¬ roots.length - (ja + 1) = 0 := by omega
      have P2 := P.roots (os3 := os ++ [.cells 2 (rowC (roots.take ja ++ roots.drop (ja + 1)))]) (i3 := os.length) (rc3 := none) (k' := k + 1) (Nat.le_refl _) (by simp) (fun j hj _ => by rw [List.getElem?_append_left hj]) (P.A.mono hsub) hrt' (by omega) (by omega) (.inl rfl)
      have h316 := fun w => s316 (b := b) (w := w) (c := none) P2.H P2.G P2.row (by omega) hb (by have := P2.ok.len; omega) P2.A P2.W
      rw [hll, rowC_app] at h316
      refine ⟨_, S, R, roots.take ja ++ roots.drop (ja + 1), some (os.length, 0), none, w, P2, hw, fun j hj _ => by rw [List.getElem?_append_left hj], rfl, ?_⟩
      rw [hll, rowC_app]
      have hty : List.take ((roots.length - (ja + 1)) * 2) (List.drop (ro + (ja + 1) * 2) cs) = rowC (roots.drop (ja + 1)) := by
        rw [rowC_drop, ← hr3, List.drop_take, List.drop_drop, ← Nat.sub_mul]
      have z1 : (ja + (roots.length - (ja + 1))) * 16 ≤ 140737488355328 := by omega
      have z2 : ja + (roots.length - (ja + 1)) ≤ 9223372036854775807 := by omega
      have hjz : ja = 0 → rowC (List.take ja roots) = [] := fun h => by rw [h]; rfl
      have hrlen : ¬ roots.length = ja + 1 := by omega
      by_cases hj0 : ja = 0
      · subst hj0
        simp only [Nat.zero_mul, List.take_zero, rowC_nil, Nat.zero_add, Nat.add_zero, List.nil_append, Nat.one_mul, Int.cast_ofNat_Int] at *
        rcases P.rc with hrc | hrc <;> subst hrc <;>
        simp (maxSteps := 3000000) (disch := omega) [-getElem?_pos, -getElem?_neg, -List.drop_one, -sget, sgetN, sgetH, sgetT, code300L0, stP, iltT, ileT, nltT, nleT, wrapI, hal1, ha, hla, hta, hk0, hwa, hma, hlp, hne, hr1, hj1, hj2, hnz, h316, hty, z1, z2, hrlen]
      · rcases P.rc with hrc | hrc <;> subst hrc <;>
        simp (maxSteps := 3000000) (disch := omega) [-getElem?_pos, -getElem?_neg, -sget, sgetN, sgetH, sgetT, code300L0, stP, iltT, ileT, nltT, nleT, wrapI, hal1, ha, hla, hta, hk0, hwa, hma, hlp, hne, hr1, hj1, hj2, hnz, h316, htx, hty, z1, z2, hj0, hrlen]

end Go.Abs.AbsHeap

/-
  Layer 27: all acts, one behind the other.
-/
namespace Go.Abs.AbsHeap
set_option maxRecDepth 100000
set_option linter.unusedSimpArgs false
variable {O os : List AObj} {b w : Nat} {β : Type}

theorem tmod5 {x : Int} (h : 0 ≤ x) : x.tmod 5 = 0 ∨ x.tmod 5 = 1 ∨ x.tmod 5 = 2 ∨ x.tmod 5 = 3 ∨ x.tmod 5 = 4 := by
  rw [Int.tmod_eq_emod_of_nonneg h]; omega

theorem lplay {os0 : List AObj} {b0 p q : Nat} {acts : List Act} {aa : Option (Nat × Nat)} {ac : Option Nat} {cl : Bool} (hb : b ≤ b0) (hacts : Row os0 6 Act.cs acts aa) (hok : ∀ x ∈ acts, x.Ok) (hal : acts.length ≤ 1000) (hab : ∀ i o, aa = some (i, o) → i < b0) (hb0 : b0 ≤ os0.length) (K : AExit → St → Option β) :
    ∀ (j i : Nat), i + j = acts.length → ∀ (os : List AObj) (S : HS) (R : RH) (roots : List V) (ra : Option (Nat × Nat)) (rc : Option Nat) (w : Nat), PInv os b0 p q S R roots ra rc i → b0 ≤ w → (∀ j, j < os0.length → j < b0 → os[j]? = os0[j]?) → -9000000000000000000 ≤ R.bound →
      ∃ os' w', b0 ≤ w' ∧ xK T (.loop code300L0) ⟨stP p q cl ra roots.length rc aa acts.length ac (i : Nat), ⟨os, b, w⟩⟩ (k := ⟨K⟩) = K (.exit 0) ⟨[], ⟨os', b, w'⟩⟩
  | 0, i, hi, os, S, R, roots, ra, rc, w, P, hw, hin, hbd => by
    refine ⟨os, w, hw, ?_⟩
    rw [xK_loop]
    simp (disch := omega) [-getElem?_pos, -getElem?_neg, stP, code300L0, iltF]
  | j + 1, i, hi, os, S, R, roots, ra, rc, w, P, hw, hin, hbd => by
    obtain ⟨x, hx⟩ : ∃ x, acts[i]? = some x := ⟨_, List.getElem?_eq_getElem (by omega)⟩
    have hxo := hok x (List.mem_of_getElem? hx)
    obtain ⟨ab, ao, cs, rfl, h1, h2⟩ := hacts.at' (ne_of_get hx)
    obtain ⟨h3, h4⟩ := h2 i x hx
    have hab' := hab ab ao rfl
    have ha : os[ab]? = some (.cells 6 cs) := by rw [hin ab (lt_of_get h1) hab']; exact h1
    have hil : i < acts.length := by omega
    have hstep : ∀ K : AExit → St → Option β, ∃ os' S' R' roots' ra' rc' w', PInv os' b0 p q S' R' roots' ra' rc' (i + 1) ∧ b0 ≤ w' ∧ (∀ j, j < os.length → j < b0 → os'[j]? = os[j]?) ∧ R'.bound = R.bound ∧
        xK T code300L0 ⟨stP p q cl ra roots.length rc (some (ab, ao)) acts.length ac (i : Nat), ⟨os, b, w⟩⟩ (k := ⟨K⟩) = K .normal ⟨stP p q cl ra' roots'.length rc' (some (ab, ao)) acts.length ac ((i : Int) + 1), ⟨os', b, w'⟩⟩ := fun K => by
      rcases tmod5 hxo.kind.1 with hk | hk | hk | hk | hk
      · exact step0 (ac := 0) P (by omega) hb hxo hk hbd ha hab' h3 h4 hil hal hw K
      · exact step1 (ac := 0) P (by omega) hb hxo hk hbd ha hab' h3 h4 hil hal hw K
      · exact step2 (ac := 0) P (by omega) hb hxo hk hbd ha hab' h3 h4 hil hal hw K
      · exact step3 P (by omega) hb hxo hk ha hab' h3 h4 hil hal hw K
      · exact step4 (ac := 0) P (by omega) hb hxo hk hbd ha hab' h3 h4 hil hal hw K
    obtain ⟨os1, S1, R1, roots1, ra1, rc1, w1, P1, k1, k2, k3, k4⟩ := hstep (fun e st => nxK e st (f := ⟨fun st => xK T (.loop code300L0) st (k := ⟨K⟩)⟩) (k := ⟨K⟩))
    have hlen0 : b0 ≤ os.length := by have := P.H.low p (.inl rfl); have := lt_of_get P.H.head; omega
    obtain ⟨os2, w2, j1, j2⟩ := lplay hb hacts hok hal hab hb0 K j (i + 1) (by omega) os1 S1 R1 roots1 ra1 rc1 w1 P1 k1 (fun j hj hjb => (k2 j (by omega) hjb).trans (hin j hj hjb)) (by rw [k3]; exact hbd)
    refine ⟨os2, w2, j1, ?_⟩
    rw [xK_loop]
    refine k4.trans ((nxK_n _ _ _).trans ?_)
    have e1 : ((i + 1 : Nat) : Int) = (i : Int) + 1 := by omega
    rw [e1] at j2
    exact j2

theorem s300 {b0 p q : Nat} {acts : List Act} {aa : Option (Nat × Nat)} {ac : Option Nat} {cl : Bool} {S : HS} {R : RH} (hb : b ≤ b0) (hacts : Row os 6 Act.cs acts aa) (hok : ∀ x ∈ acts, x.Ok) (hal : acts.length ≤ 1000) (hab : ∀ i o, aa = some (i, o) → i < b0) (hb0 : b0 ≤ os.length) (P : PInv os b0 p q S R [] none (some 0) 0) (hbd : -9000000000000000000 ≤ R.bound) (w : Nat) :
    ∃ os' w', min w b0 ≤ w' ∧ xCall T 300 [.ptr (some (p, 0)), .ptr (some (q, 0)), .slice aa acts.length ac, .bool cl] ⟨os, b, w⟩ = some (.bool true, ⟨os', b, w'⟩) := by
  obtain ⟨os', w', h1, h2⟩ := lplay (β := AExit × St) (p := p) (q := q) (ac := ac) (cl := cl) hb hacts hok hal hab hb0 (fun e st => some (e, st)) acts.length 0 (by omega) os S R [] none (some 0) os.length P hb0 (fun _ _ _ => rfl) hbd
  have hl := fun (k : AExit → St → Option (AVal × Heap)) => xK_of (k := k) (xCode_of h2)
  simp only [stP, List.length_nil, Int.cast_ofNat_Int] at hl
  by_cases hlt : w' < os.length
  · refine ⟨os', min w w', by omega, ?_⟩
    simp (disch := omega) [-getElem?_pos, -getElem?_neg, xCallK t300, code300, hl, hlt]
  · refine ⟨os, w, Nat.min_le_left _ _, ?_⟩
    simp (disch := omega) [-getElem?_pos, -getElem?_neg, xCallK t300, code300, hl, hlt]

/-- Both heaps begin. -/
theorem PInv.start {n : Int} (h0 : 0 ≤ n) (hn : n ≤ 100000) : PInv (os ++ [.cells 4 [.int .i64 n, .int .i64 0, .int .i64 0, .map (some (os.length + 1))], .map [] 0, .cells 2 [.int .i64 n, .slice none 0 (some 0)]]) os.length os.length (os.length + 2) (HS.new n (os.length + 1)) ⟨n, none, []⟩ [] none (some 0) 0 where
  H := by simpa using HRep.new (os := os) (b := os.length) (n := n) (Nat.le_refl _) [.cells 2 [.int .i64 n, .slice none 0 (some 0)]]
  G := {
    head := by simp [RH.sl]
    nor := fun _ => rfl
    sor := fun i h => by cases h
    row := fun i h => by cases h
    cells := fun e h => by cases h
    rd := by simp
    low := fun i h => by
      rcases h with h | h | ⟨e, he, _⟩
      · omega
      · cases h
      · cases he
    small := fun e h => by cases h
    len := by simp }
  dis := fun i h1 h2 => by
    rcases h2 with h2 | h2 | ⟨e, he, _⟩
    · rcases h1 with h1 | h1 | ⟨e, he, _⟩
      · omega
      · simp only [HS.new] at h1; omega
      · cases he
    · cases h2
    · cases he
  A := ⟨fun n o h => by simp [HS.look, HS.find, HS.new] at h, fun n h => by
    obtain ⟨o, ho⟩ := h.there
    simp [RH.look] at ho⟩
  W := fun n o h => by simp [RH.look] at h
  T := by simp [HS.Tot, HS.new]
  last := by simp [HS.new]
  bd := rfl
  ok := ⟨by simp [HS.new], by simp [HS.new], by simp [HS.new], by simp [HS.new]; omega, by simp [HS.new]; omega, by simp [HS.new], by simp [HS.new]⟩
  row := nil_row _
  rt := fun v h => by cases h
  rn := fun _ => ⟨rfl, rfl⟩
  rs := fun i o h => by cases h
  rc := .inr rfl
  len := by simp

theorem s301 {bound : Int} {acts : List Act} {aa : Option (Nat × Nat)} {ac : Option Nat} (hacts : Row os 6 Act.cs acts aa) (hok : ∀ x ∈ acts, x.Ok) (hab : ∀ i o, aa = some (i, o) → i < os.length) (hb : b ≤ os.length) (hbd : 0 ≤ bound) :
    xCall T 301 [.int .u16 bound, .slice aa acts.length ac] ⟨os, b, w⟩ = some (.bool true, ⟨os, b, w⟩) ∧ xCall T 302 [.int .u16 bound, .slice aa acts.length ac] ⟨os, b, w⟩ = some (.bool true, ⟨os, b, w⟩) := by
  by_cases hl : (60 : Int) < (acts.length : Int)
  · constructor
    · simp (disch := omega) [-getElem?_pos, -getElem?_neg, xCallK t301, code301, s299, iltT]
    · simp (disch := omega) [-getElem?_pos, -getElem?_neg, xCallK t302, code302, s299, iltT]
  · have hm : 0 ≤ bound.tmod 400 ∧ bound.tmod 400 < 400 := by rw [Int.tmod_eq_emod_of_nonneg hbd]; omega
    have hw1 : IntKind.i64.wrap (bound.tmod 400) = bound.tmod 400 := wrapI (by omega)
    generalize hbn : bound.tmod 400 = n at hm hw1
    have P := PInv.start (os := os) hm.1 (by omega)
    have h298 := fun w => s298 (os := os) (b := b) (w := w) n
    have hrow : Row (os ++ [.cells 4 [.int .i64 n, .int .i64 0, .int .i64 0, .map (some (os.length + 1))], .map [] 0, .cells 2 [.int .i64 n, .slice none 0 (some 0)]]) 6 Act.cs acts aa := hacts.ext _
    constructor
    · obtain ⟨os', w', h1, h2⟩ := s300 (ac := ac) (cl := true) hb hrow hok (by omega) hab (by simp) P (by show -9000000000000000000 ≤ n; omega) os.length
      have hnl : ¬ w' < os.length := by omega
      simp (disch := omega) [-getElem?_pos, -getElem?_neg, xCallK t301, code301, s299, iltF, hbn, hw1, h298, h2, hnl]
    · obtain ⟨os', w', h1, h2⟩ := s300 (ac := ac) (cl := false) hb hrow hok (by omega) hab (by simp) P (by show -9000000000000000000 ≤ n; omega) os.length
      have hnl : ¬ w' < os.length := by omega
      simp (disch := omega) [-getElem?_pos, -getElem?_neg, xCallK t302, code302, s299, iltF, hbn, hw1, h298, h2, hnl]

end Go.Abs.AbsHeap

/-
  Layer 27: HeapCollects: both heaps are made alike, all that was made is there.
-/
namespace Go.Abs.AbsHeap
set_option maxRecDepth 100000
set_option linter.unusedSimpArgs false
variable {O os : List AObj} {b w : Nat} {β : Type}

structure CInv (os : List AObj) (b0 p q : Nat) (S : HS) (R : RH) (k : Nat) : Prop where
  P : PInv os b0 p q S R [] none (some 0) 1000
  E : ∀ m, S.look m = R.look m
  num : S.ents.map Ent.n = (List.range k).map fun (i : Nat) => (i : Int) + 1
  all : R.all.length = k
  used : S.used ≤ 6 * k
  bS : S.bound = 100000

theorem CInv.agr {b0 p q k : Nat} {S : HS} {R : RH} (C : CInv os b0 p q S R k) (roots : List V) : Agr S R roots :=
  ⟨fun n o h => by rw [← C.E]; exact h, fun n h => by
    obtain ⟨o, ho⟩ := h.there
    exact ⟨o, by rw [C.E]; exact ho⟩⟩

theorem CInv.len {b0 p q k : Nat} {S : HS} {R : RH} (C : CInv os b0 p q S R k) : S.ents.length = k := by
  have := congrArg List.length C.num
  simpa using this

theorem CInv.frame {b0 p q k : Nat} {S : HS} {R : RH} {os' : List AObj} (C : CInv os b0 p q S R k) (h : ∀ i, i < os.length → (S.fp p i ∨ R.fp q i) → os'[i]? = os[i]?) : CInv os' b0 p q S R k where
  P := { C.P with
    H := C.P.H.frame fun i hi => h i (C.P.H.fp_lt hi) (.inl hi)
    G := C.P.G.frame fun i hi => h i (C.P.G.fp_lt hi) (.inr hi)
    row := nil_row _
    rs := fun i o h => by cases h }
  E := C.E
  num := C.num
  all := C.all
  used := C.used
  bS := C.bS

/-- A thing is made by both. -/
theorem CInv.made {b0 p q k : Nat} {S S' : HS} {R R' : RH} {os1 os2 : List AObj} {n num num2 code code2 : Int} (C : CInv os b0 p q S R k) (hk : k ≤ 100) (h0 : 0 ≤ n) (h4 : n ≤ 4)
    (h1 : MkRes S [] 0 [] n num code S') (H1 : HRep os1 b0 p S') (U1 : Upd os os1 (S.fp p) (S'.fp p)) (h2 : MkR R [] 0 [] n num2 code2 R') (G2 : RRep os2 b0 q R') (U2 : Upd os1 os2 (R.fp q) (R'.fp q)) :
    (∀ i, i < os.length → i < b0 → os2[i]? = os[i]?) ∧ CInv os2 b0 p q S' R' (k + 1) := by
  obtain ⟨_, hcode, hold, P2, _⟩ := C.P.made (by omega) h1 H1 U1 h2 G2 U2 (fun h => absurd rfl h)
  refine ⟨hold, ?_⟩
  have hsz := sizeN_le [] n.toNat
  have hu := C.used
  have hbS := C.bS
  have hlast := C.P.last
  have hall := C.all
  have hSl : S'.last ≤ 1000 ∧ S'.OkN 1000 ∧ CInv os2 b0 p q S' R' (k + 1) → CInv os2 b0 p q S' R' (k + 1) := fun h => h.2.2
  rcases h1 with ⟨g1, _⟩ | ⟨_, h1⟩
  · omega
  cases h1 with
  | big h => omega
  | full _ h _ _ => omega
  | made2 _ h _ _ => omega
  | made1 k1 k2 =>
    cases h2 with
    | arg h => omega
    | big h => omega
    | full _ _ _ _ => omega
    | made _ _ _ _ =>
      have hok := P2.ok
      refine ⟨{ P2 with ok := ?_, len := Nat.zero_le _ }, fun m => ?_, ?_, by simp [RH.add, hall], ?_, hbS⟩
      · have i1 := C.P.ok
        have e1 : S.ents.length = k := C.len
        obtain ⟨j1, j2, j3, j4, j5, j6, j7⟩ := hok
        refine ⟨?_, j2, j3, j4, j5, j6, ?_⟩
        · simp [HS.add, e1]; omega
        · simp only [HS.add]; omega
      · rw [add_look (find_last C.P.H), addR_look, C.E m, hlast]
      · rw [List.range_succ, List.map_append, ← C.num]
        simp [HS.add, hlast, hall]
      · simp only [HS.add]; omega

def st4 (a0 a1 a2 : AVal) (p q : Nat) (aa : Option (Nat × Nat)) (al : Nat) (ac : Option Nat) (i : Int) : Slots :=
  [(0, .val a0), (1, .val a1), (2, .val a2), (7, .val (.ptr (some (p, 0)))), (8, .val (.ptr (some (q, 0)))), (46, .val (.slice aa al ac)), (47, .val (.int .i64 (al : Nat))), (48, .val (.int .i64 i))]

def byteC (x : Int) : List AVal := [.int .u8 x]

set_option maxHeartbeats 2000000 in
theorem l291_4 {os0 : List AObj} {b0 p q : Nat} {l : List Int} {aa : Option (Nat × Nat)} {ac : Option Nat} {a0 a1 a2 : AVal} (hb : b ≤ b0) (hl : Row os0 1 byteC l aa) (hok : ∀ x ∈ l, 0 ≤ x ∧ x ≤ 255) (hal : l.length ≤ 30) (hab : ∀ i o, aa = some (i, o) → i < b0) (K : AExit → St → Option β) :
    ∀ (j i : Nat), i + j = l.length → ∀ (os : List AObj) (S : HS) (R : RH) (w : Nat), CInv os b0 p q S R i → b0 ≤ w → (∀ j, j < os0.length → j < b0 → os[j]? = os0[j]?) →
      ∃ os' S' R' w', CInv os' b0 p q S' R' l.length ∧ b0 ≤ w' ∧ (∀ j, j < os0.length → j < b0 → os'[j]? = os0[j]?) ∧
        xK T (.loop code291L4) ⟨st4 a0 a1 a2 p q aa l.length ac (i : Nat), ⟨os, b, w⟩⟩ (k := ⟨K⟩) = K (.exit 0) ⟨[(0, .val a0), (1, .val a1), (2, .val a2), (7, .val (.ptr (some (p, 0)))), (8, .val (.ptr (some (q, 0))))], ⟨os', b, w'⟩⟩
  | 0, i, hi, os, S, R, w, C, hw, hin => by
    have hi' : i = l.length := by omega
    subst hi'
    refine ⟨os, S, R, w, C, hw, hin, ?_⟩
    rw [xK_loop]
    simp (disch := omega) [-getElem?_pos, -getElem?_neg, st4, code291L4, iltF]
  | j + 1, i, hi, os, S, R, w, C, hw, hin => by
    obtain ⟨x, hx⟩ : ∃ x, l[i]? = some x := ⟨_, List.getElem?_eq_getElem (by omega)⟩
    have hxo := hok x (List.mem_of_getElem? hx)
    obtain ⟨ab, ao, cs, rfl, h1, h2⟩ := hl.at' (ne_of_get hx)
    obtain ⟨h3, h4⟩ := h2 i x hx
    simp only [byteC, Nat.mul_one] at h3 h4
    have ga : cs[ao + i]? = some (.int .u8 x) := by
      have := congrArg (fun l => l[0]?) h4
      simpa [List.getElem?_take, List.getElem?_drop] using this
    have hab' := hab ab ao rfl
    have ha : os[ab]? = some (.cells 1 cs) := by rw [hin ab (lt_of_get h1) hab']; exact h1
    have hil : (i : Int) < (l.length : Int) := by omega
    have hm : 0 ≤ x.tmod 5 ∧ x.tmod 5 ≤ 4 := by rw [Int.tmod_eq_emod_of_nonneg hxo.1]; omega
    have hwx : IntKind.i64.wrap (x.tmod 5) = x.tmod 5 := wrapI (by omega)
    generalize hxn : x.tmod 5 = n at hm hwx
    obtain ⟨S', num, code, os1, m1, H1, U1, hc1⟩ := s297 (b := b) (c := some 0) (cls := 0) C.P.H (C.P.ok.ok (by omega)) hb (nil_row os) (by simp) n
    have hG1 := C.P.frameG U1
    obtain ⟨R', num2, code2, os2, m2, G2, U2, hc2⟩ := s296 (b := b) (c := some 0) (cls := 0) (t := []) hG1 hb (nil_row os1) (by simp) n (by have := C.P.bd; have := C.bS; omega) (by have := C.all; omega)
    obtain ⟨hold, C2⟩ := C.made (by omega) hm.1 hm.2 m1 H1 U1 m2 G2 U2
    obtain ⟨w1, hw1, hx1⟩ := hc1 w
    obtain ⟨w2, hw2, hx2⟩ := hc2 w1
    simp only [List.length_nil] at hx1 hx2
    have hi9 : (i : Int) + 1 ≤ 1001 := by omega
    obtain ⟨os3, S3, R3, w3, j1, j2, j3, j4⟩ := l291_4 hb hl hok hal hab K j (i + 1) (by omega) os2 S' R' w2 C2 (by omega) (fun j hj hjb => by
      have hjo : j < os.length := by
        have := C.P.H.low p (.inl rfl); have := lt_of_get C.P.H.head; omega
      rw [hold j hjo hjb, hin j hj hjb])
    refine ⟨os3, S3, R3, w3, j1, j2, j3, ?_⟩
    rw [xK_loop]
    have e1 : ((i + 1 : Nat) : Int) = (i : Int) + 1 := by omega
    rw [e1] at j4
    simp only [st4] at j4 ⊢
    simp (disch := omega) [-getElem?_pos, -getElem?_neg, -sget, sgetN, sgetH, sgetT, code291L4, iltT, wrapI, hil, ha, ga, hxn, hwx, hx1, hx2]
    exact j4

end Go.Abs.AbsHeap

/-
  Layer 27: HeapCollects: cells are set alike.
-/
namespace Go.Abs.AbsHeap
set_option maxRecDepth 100000
set_option linter.unusedSimpArgs false
variable {O os : List AObj} {b w : Nat} {β : Type}

theorem setE_eq {S : HS} {R : RH} (hE : ∀ m, S.look m = R.look m) (n i : Int) : setE (S.find n) i = setRE (R.get n) i := by
  have h := hE n
  rw [RH.look_get] at h
  unfold HS.look at h
  cases h1 : S.find n with
  | none =>
    cases h2 : R.get n with
    | none => rfl
    | some f => rw [h1, h2] at h; cases h
  | some e =>
    cases h2 : R.get n with
    | none => rw [h1, h2] at h; cases h
    | some f =>
      rw [h1, h2] at h
      simp only [Option.map_some, Option.some.injEq] at h
      simp only [setE, setRE, h]

theorem CInv.set {b0 p q k : Nat} {S : HS} {R : RH} (C : CInv os b0 p q S R k) (hb : b ≤ b0) (n i : Int) (v : V) :
    (∃ code, (∀ w, xCall T 100295 [.ptr (some (p, 0)), .int .i64 n, .int .i64 i, .agg v.cs] ⟨os, b, w⟩ = some (.int .i64 code, ⟨os, b, w⟩)) ∧
      ∀ w, xCall T 294 [.ptr (some (q, 0)), .int .i64 n, .int .i64 i, .agg v.cs] ⟨os, b, w⟩ = some (.int .i64 code, ⟨os, b, w⟩)) ∨
    (∃ os1 os2 S' R' e1 e2, CInv os2 b0 p q S' R' k ∧ b0 ≤ e1 ∧ e1 < os.length ∧ b0 ≤ e2 ∧ e2 < os1.length ∧ os1.length = os.length ∧ (∀ j, j < os.length → j < b0 → os2[j]? = os[j]?) ∧
      (∀ w, xCall T 100295 [.ptr (some (p, 0)), .int .i64 n, .int .i64 i, .agg v.cs] ⟨os, b, w⟩ = some (.int .i64 0, ⟨os1, b, min w e1⟩)) ∧
      (∀ w, xCall T 294 [.ptr (some (q, 0)), .int .i64 n, .int .i64 i, .agg v.cs] ⟨os1, b, w⟩ = some (.int .i64 0, ⟨os2, b, min w e2⟩))) := by
  have hE := setE_eq C.E n i
  have P := C.P
  obtain ⟨H1, U1⟩ := P.H.setO n i v
  have hG1 := P.frameG U1
  obtain ⟨G2, U2⟩ := RRep.setRO hG1 n i v
  have hs1 := fun w => s100295 (b := b) (w := w) P.H n i v hb
  have hs2 := fun w => s294 (b := b) (w := w) hG1 n i v hb
  by_cases hc : setE (S.find n) i = 0
  · right
    have B := both P H1 U1 G2 U2
    have hRl : (R.put n i v).all.length = R.all.length := by unfold RH.put; split <;> simp
    have hSl : (S.put n i v).last = S.last ∧ (S.put n i v).bound = S.bound ∧ (S.put n i v).used = S.used ∧ (S.put n i v).ents.length = S.ents.length ∧ (S.put n i v).ents.map Ent.n = S.ents.map Ent.n := by
      unfold HS.put
      rw [if_pos hc]
      refine ⟨rfl, rfl, rfl, by simp [HS.set], ?_⟩
      simp only [HS.set, List.map_map]
      refine List.map_congr_left fun e _ => ?_
      simp only [Function.comp]
      split <;> rfl
    have hRb : (R.put n i v).bound = R.bound := by unfold RH.put; split <;> rfl
    obtain ⟨q1, q2, q3, q4, q5⟩ := hSl
    have hok : (S.put n i v).OkN 1000 := by
      obtain ⟨i1, i2, i3, i4, i5, i6, i7⟩ := P.ok
      exact ⟨by omega, by omega, by rw [q3, q4]; exact i3, by rw [q2, q4]; exact i4, by omega, by omega, by omega⟩
    have hE2 : ∀ m, (S.put n i v).look m = (R.put n i v).look m := fun m => by
      rw [put_look, putR_look, hE, C.E m]
    have P2 : PInv _ b0 p q (S.put n i v) (R.put n i v) [] none (some 0) 1000 := P.keep B (Nat.le_refl _) ⟨fun m o h => by rw [← hE2]; exact h, fun m h => by
      obtain ⟨o, ho⟩ := h.there
      exact ⟨o, by rw [hE2]; exact ho⟩⟩ (put_wf P.W) (set_tot P.T _ _ _) (by rw [q1, hRl]; exact P.last) (by rw [hRb, q2]; exact P.bd) hok fun v' hv' => by cases hv'
    have hcR := hE.symm.trans hc
    cases hfs : S.find n with
    | none => rw [hfs] at hc; simp [setE] at hc
    | some e =>
      cases hfr : R.get n with
      | none => rw [hfr] at hcR; simp [setRE] at hcR
      | some f =>
        have hem := (HS.find_mem hfs).1
        have hfm := (RH.get_mem hfr).1
        have hi1 : ¬ (i < 0 ∨ (e.o.cells.length : Int) ≤ i) := fun h => by rw [hfs] at hc; simp only [setE, h, if_true] at hc; omega
        have hi2 : ¬ (i < 0 ∨ (f.o.cells.length : Int) ≤ i) := fun h => by rw [hfr] at hcR; simp only [setRE, h, if_true] at hcR; omega
        have hol : (setO os (S.find n) i v).length = os.length := by rw [hfs]; simp only [setO, hi1, if_false, List.length_set]
        refine ⟨setO os (S.find n) i v, _, _, _, e.r, f.r, ⟨P2, hE2, by rw [q5]; exact C.num, by rw [hRl]; exact C.all, by rw [q3]; exact C.used, by rw [q2]; exact C.bS⟩, P.H.low e.r (.inr (.inr ⟨e, hem, .inr rfl⟩)), lt_of_get (P.H.row e hem), P.G.low f.r (.inr (.inr ⟨f, hfm, rfl⟩)), ?_, hol, fun j hj hjb => (B.same j hj (fun h => by have := P.H.low j h; omega) (fun h => by have := P.G.low j h; omega)).1, fun w => ?_, fun w => ?_⟩
        · rw [hol]; exact lt_of_get (P.G.cells f hfm)
        · rw [hs1, hc]
          simp only [hfs, setW, hi1, if_false]
        · rw [hs2, hcR]
          simp only [hfr, setRW, hi2, if_false]
  · left
    have hcR : setRE (R.get n) i ≠ 0 := fun h => hc (hE.trans h)
    have hO : setO os (S.find n) i v = os ∧ ∀ w, setW w (S.find n) i = w := by
      cases hfs : S.find n with
      | none => exact ⟨rfl, fun _ => rfl⟩
      | some e =>
        rw [hfs] at hc
        have hi1 : (i < 0 ∨ (e.o.cells.length : Int) ≤ i) := by
          by_cases h : (i < 0 ∨ (e.o.cells.length : Int) ≤ i)
          · exact h
          · simp [setE, h] at hc
        exact ⟨by simp only [setO, hi1, if_true], fun w => by simp only [setW, hi1, if_true]⟩
    have hRO : ∀ O, setRO O (R.get n) i v = O ∧ ∀ w, setRW w (R.get n) i = w := fun O => by
      cases hfr : R.get n with
      | none => exact ⟨rfl, fun _ => rfl⟩
      | some e =>
        rw [hfr] at hcR
        have hi1 : (i < 0 ∨ (e.o.cells.length : Int) ≤ i) := by
          by_cases h : (i < 0 ∨ (e.o.cells.length : Int) ≤ i)
          · exact h
          · simp [setRE, h] at hcR
        exact ⟨by simp only [setRO, hi1, if_true], fun w => by simp only [setRW, hi1, if_true]⟩
    refine ⟨setE (S.find n) i, fun w => ?_, fun w => ?_⟩
    · rw [hs1, hO.1, hO.2]
    · have := hs2 w
      rw [hO.1, (hRO os).1, (hRO os).2] at this
      rw [this, hE]

def st3 (a2 : AVal) (p q : Nat) (n : Int) (aa : Option (Nat × Nat)) (al : Nat) (ac : Option Nat) (i : Int) : Slots :=
  [(2, .val a2), (7, .val (.ptr (some (p, 0)))), (8, .val (.ptr (some (q, 0)))), (11, .val (.int .i64 n)), (70, .val (.slice aa al ac)), (71, .val (.int .i64 (al : Nat))), (72, .val (.int .i64 i))]

set_option maxHeartbeats 4000000 in
theorem l291_3 {os0 : List AObj} {b0 p q k : Nat} {l : List Int} {aa : Option (Nat × Nat)} {ac : Option Nat} {a2 : AVal} (hb : b ≤ b0) (hb0 : b0 ≤ os0.length) (hk0 : 0 < k) (hk : k ≤ 30) (hl : Row os0 1 byteC l aa) (hok : ∀ x ∈ l, 0 ≤ x ∧ x ≤ 255) (hal : l.length ≤ 60) (hab : ∀ i o, aa = some (i, o) → i < b0) (K : AExit → St → Option β) :
    ∀ (j i : Nat), i + j = l.length → ∀ (os : List AObj) (S : HS) (R : RH) (w : Nat), CInv os b0 p q S R k → b0 ≤ w → (∀ j, j < os0.length → j < b0 → os[j]? = os0[j]?) →
      ∃ os' S' R' w', CInv os' b0 p q S' R' k ∧ b0 ≤ w' ∧ (∀ j, j < os0.length → j < b0 → os'[j]? = os0[j]?) ∧
        xK T (.loop code291L3) ⟨st3 a2 p q k aa l.length ac (i : Nat), ⟨os, b, w⟩⟩ (k := ⟨K⟩) = K (.exit 2) ⟨[(2, .val a2), (7, .val (.ptr (some (p, 0)))), (8, .val (.ptr (some (q, 0)))), (11, .val (.int .i64 k))], ⟨os', b, w'⟩⟩
  | 0, i, hi, os, S, R, w, C, hw, hin => by
    have hi' : i = l.length := by omega
    subst hi'
    refine ⟨os, S, R, w, C, hw, hin, ?_⟩
    rw [xK_loop]
    simp (disch := omega) [-getElem?_pos, -getElem?_neg, st3, code291L3, iltF]
  | j + 1, i, hi, os, S, R, w, C, hw, hin => by
    obtain ⟨x, hx⟩ : ∃ x, l[i]? = some x := ⟨_, List.getElem?_eq_getElem (by omega)⟩
    have hxo := hok x (List.mem_of_getElem? hx)
    obtain ⟨ab, ao, cs, rfl, h1, h2⟩ := hl.at' (ne_of_get hx)
    obtain ⟨h3, h4⟩ := h2 i x hx
    simp only [byteC, Nat.mul_one] at h3 h4
    have ga : cs[ao + i]? = some (.int .u8 x) := by
      have := congrArg (fun l => l[0]?) h4
      simpa [List.getElem?_take, List.getElem?_drop] using this
    have hab' := hab ab ao rfl
    have ha : os[ab]? = some (.cells 1 cs) := by rw [hin ab (lt_of_get h1) hab']; exact h1
    have hil : (i : Int) < (l.length : Int) := by omega
    have hwx : IntKind.i64.wrap x = x := wrapI (by omega)
    have hki : (0 : Int) < (k : Int) := by omega
    have hkz : ¬ k = 0 := by omega
    have hm1 : 0 ≤ x.tmod (k : Int) ∧ x.tmod (k : Int) < 30 := by
      rw [Int.tmod_eq_emod_of_nonneg hxo.1]
      have := Int.emod_lt_of_pos x hki
      have := Int.emod_nonneg x (show (k : Int) ≠ 0 by omega)
      omega
    have hm2 : 0 ≤ (i : Int).tmod (k : Int) ∧ (i : Int).tmod (k : Int) < 30 := by
      rw [Int.tmod_eq_emod_of_nonneg (by omega)]
      have := Int.emod_lt_of_pos (i : Int) hki
      have := Int.emod_nonneg (i : Int) (show (k : Int) ≠ 0 by omega)
      omega
    have hm5 : 0 ≤ x.tmod 5 ∧ x.tmod 5 ≤ 4 := by rw [Int.tmod_eq_emod_of_nonneg hxo.1]; omega
    have hm7 : 0 ≤ x.tmod 7 ∧ x.tmod 7 ≤ 6 := by rw [Int.tmod_eq_emod_of_nonneg hxo.1]; omega
    generalize hx1 : x.tmod (k : Int) = m1 at hm1
    generalize hx2 : (i : Int).tmod (k : Int) = m2 at hm2
    generalize hx5 : x.tmod 5 = m5 at hm5
    generalize hx7 : x.tmod 7 = m7 at hm7
    have hi9 : (i : Int) + 1 ≤ 1001 := by omega
    have e1 : ((i + 1 : Nat) : Int) = (i : Int) + 1 := by omega
    have hlen0 : b0 ≤ os.length := by have := C.P.H.low p (.inl rfl); have := lt_of_get C.P.H.head; omega
    have hp1 := lt_of_get C.P.H.head
    rcases C.set hb (1 + m2) m5 ⟨1 + m1, decide (0 < m7)⟩ with ⟨code, g1, g2⟩ | ⟨os1, os2, S', R', e1', e2', C2, g1, g2, g3, g4, g5, g6, g7, g8⟩
    · obtain ⟨os3, S3, R3, w3, j1, j2, j3, j4⟩ := l291_3 hb hb0 hk0 hk hl hok hal hab K j (i + 1) (by omega) os S R w C hw hin
      refine ⟨os3, S3, R3, w3, j1, j2, j3, ?_⟩
      rw [xK_loop]
      rw [e1] at j4
      simp only [st3, V.cs] at j4 g1 g2 ⊢
      simp (maxSteps := 3000000) (disch := omega) [-getElem?_pos, -getElem?_neg, -sget, sgetN, sgetH, sgetT, code291L3, iltT, wrapI, hil, ha, ga, hwx, hx1, hx2, hx5, hx7, hki, hkz, g1, g2]
      exact j4
    · obtain ⟨os3, S3, R3, w3, j1, j2, j3, j4⟩ := l291_3 hb hb0 hk0 hk hl hok hal hab K j (i + 1) (by omega) os2 S' R' (min w (min e1' e2')) C2 (by omega) (fun j hj hjb => by
        rw [g6 j (by omega) hjb, hin j hj hjb])
      refine ⟨os3, S3, R3, w3, j1, j2, j3, ?_⟩
      rw [xK_loop]
      rw [e1] at j4
      simp only [st3, V.cs] at j4 g7 g8 ⊢
      have g4' : e2' < os.length := by omega
      simp (maxSteps := 3000000) (disch := omega) [-getElem?_pos, -getElem?_neg, -sget, sgetN, sgetH, sgetT, code291L3, iltT, wrapI, hil, ha, ga, hwx, hx1, hx2, hx5, hx7, hki, hkz, g5, g7, g8]
      exact j4

end Go.Abs.AbsHeap

/-
  Layer 27: HeapCollects: roots, what is there, what is left.
-/
namespace Go.Abs.AbsHeap
set_option maxRecDepth 100000
set_option linter.unusedSimpArgs false
variable {O os : List AObj} {b w : Nat} {β : Type}

/-- A root more, of whatever kind. -/
theorem app_root {b0 i0 : Nat} {roots : List V} {ra : Option (Nat × Nat)} {rc : Option Nat} {x : Int} {r : Bool} (hrow : Row O 2 V.cs roots ra) (hb : b ≤ b0) (hb0 : b0 ≤ O.length) (hrn : ra = none → roots = [] ∧ rc = some 0) (hrs : ∀ i o, ra = some (i, o) → b0 ≤ i ∧ (∃ cs, O[i]? = some (.cells 2 cs))) (hrc : rc = none ∨ rc = some roots.length) (hl : roots.length ≤ 1000000) (hi0 : i0 = O.length) :
    ∃ O' w', aAppend 2 16 ⟨O ++ [.cells 2 [.int .i64 x, .bool r]], b, w⟩ (.slice ra roots.length rc) (.slice (some (i0, 0)) 1 (some 1)) = some (.slice (some (i0 + 1, 0)) (roots.length + 1) none, ⟨O', b, w'⟩) ∧ O'[i0 + 1]? = some (.cells 2 (rowC (roots ++ [⟨x, r⟩]))) ∧ O.length < O'.length ∧ (∀ j, j < O.length → (∀ o, ra ≠ some (j, o)) → O'[j]? = O[j]?) ∧ min w b0 ≤ w' := by
  subst hi0
  have z1 : (roots.length + 1) * 16 ≤ 140737488355328 := by omega
  have z2 : roots.length ≤ 9223372036854775806 := by omega
  have hx : rowC (roots ++ [⟨x, r⟩]) = rowC roots ++ [.int .i64 x, .bool r] := by rw [rowC_app]; rfl
  cases ra with
  | none =>
    obtain ⟨rfl, rfl⟩ := hrn rfl
    refine ⟨O ++ [.cells 2 [.int .i64 x, .bool r], .cells 2 [.int .i64 x, .bool r]], w, ?_, ?_, by simp, fun j hj _ => by rw [List.getElem?_append_left hj], Nat.min_le_left _ _⟩
    · simp [-getElem?_pos, -getElem?_neg]
    · rw [hx]; simp
  | some ir =>
    obtain ⟨i, o⟩ := ir
    obtain ⟨k1, cs0, k2⟩ := hrs i o rfl
    have hil := lt_of_get k2
    have hgi : (O ++ [AObj.cells 2 [.int .i64 x, .bool r]])[i]? = some (.cells 2 cs0) := by rw [List.getElem?_append_left hil]; exact k2
    have hbi : b ≤ i := by omega
    by_cases hne : roots = []
    · subst hne
      rcases hrc with rfl | rfl
      · refine ⟨(O ++ [AObj.cells 2 [.int .i64 x, .bool r]]).set i .dead ++ [.cells 2 [.int .i64 x, .bool r]], min w i, ?_, ?_, by simp; omega, fun j hj hne => ?_, by omega⟩
        · simp [-getElem?_pos, -getElem?_neg, hgi, hbi]
        · rw [hx, List.getElem?_append_right (by simp)]; simp
        · rw [List.getElem?_append_left (by simp; omega), List.getElem?_set_ne (fun h => hne o (by rw [h])), List.getElem?_append_left hj]
      · refine ⟨O ++ [.cells 2 [.int .i64 x, .bool r], .cells 2 [.int .i64 x, .bool r]], w, ?_, ?_, by simp, fun j hj _ => by rw [List.getElem?_append_left hj], Nat.min_le_left _ _⟩
        · simp [-getElem?_pos, -getElem?_neg]
        · rw [hx]; simp
    · obtain ⟨b', o', cs, h1, h2, h3, h4⟩ := Row.all hrow hne
      cases h1
      rw [k2] at h2
      cases h2
      have hl0 : roots.length ≠ 0 := fun h => hne (List.eq_nil_of_length_eq_zero h)
      rcases hrc with rfl | rfl
      · refine ⟨(O ++ [AObj.cells 2 [.int .i64 x, .bool r]]).set i .dead ++ [.cells 2 (rowC roots ++ [.int .i64 x, .bool r])], min w i, ?_, ?_, by simp; omega, fun j hj hne => ?_, by omega⟩
        · simp [-getElem?_pos, -getElem?_neg, hgi, hbi, hne, h3, h4, z1, z2]
        · rw [hx, List.getElem?_append_right (by simp)]; simp
        · rw [List.getElem?_append_left (by simp; omega), List.getElem?_set_ne (fun h => hne o (by rw [h])), List.getElem?_append_left hj]
      · refine ⟨O ++ [.cells 2 [.int .i64 x, .bool r], .cells 2 (rowC roots ++ [.int .i64 x, .bool r])], w, ?_, ?_, by simp, fun j hj _ => by rw [List.getElem?_append_left hj], Nat.min_le_left _ _⟩
        · simp [-getElem?_pos, -getElem?_neg, hgi, hbi, hne, h3, h4, z1, z2]
        · rw [hx]; simp

structure RInv (os : List AObj) (b0 p q : Nat) (S : HS) (R : RH) (k : Nat) (roots : List V) (ra : Option (Nat × Nat)) (rc : Option Nat) : Prop where
  C : CInv os b0 p q S R k
  row : Row os 2 V.cs roots ra
  rn : ra = none → roots = [] ∧ rc = some 0
  rs : ∀ i o, ra = some (i, o) → b0 ≤ i ∧ (∃ cs, os[i]? = some (.cells 2 cs)) ∧ ¬ S.fp p i ∧ ¬ R.fp q i
  rc : rc = none ∨ rc = some roots.length

def st2 (p q : Nat) (n : Int) (ra : Option (Nat × Nat)) (rl : Nat) (rc : Option Nat) (aa : Option (Nat × Nat)) (al : Nat) (ac : Option Nat) (i : Int) : Slots :=
  [(7, .val (.ptr (some (p, 0)))), (8, .val (.ptr (some (q, 0)))), (11, .val (.int .i64 n)), (15, .val (.slice ra rl rc)), (107, .val (.slice aa al ac)), (108, .val (.int .i64 (al : Nat))), (109, .val (.int .i64 i))]

set_option maxHeartbeats 4000000 in
theorem l291_2 {os0 : List AObj} {b0 p q k : Nat} {l : List Int} {aa : Option (Nat × Nat)} {ac : Option Nat} {S : HS} {R : RH} (hb : b ≤ b0) (hb0 : b0 ≤ os0.length) (hk : k ≤ 30) (hl : Row os0 1 byteC l aa) (hok : ∀ x ∈ l, 0 ≤ x ∧ x ≤ 255) (hal : l.length ≤ 30) (hab : ∀ i o, aa = some (i, o) → i < b0) (K : AExit → St → Option β) :
    ∀ (j i : Nat), i + j = l.length → ∀ (os : List AObj) (roots : List V) (ra : Option (Nat × Nat)) (rc : Option Nat) (w : Nat), RInv os b0 p q S R k roots ra rc → roots.length = i → b0 ≤ w → (∀ j, j < os0.length → j < b0 → os[j]? = os0[j]?) →
      ∃ os' roots' ra' rc' w', RInv os' b0 p q S R k roots' ra' rc' ∧ roots'.length ≤ 30 ∧ b0 ≤ w' ∧
        xK T (.loop code291L2) ⟨st2 p q k ra roots.length rc aa l.length ac (i : Nat), ⟨os, b, w⟩⟩ (k := ⟨K⟩) = K (.exit 4) ⟨[(7, .val (.ptr (some (p, 0)))), (8, .val (.ptr (some (q, 0)))), (11, .val (.int .i64 k)), (15, .val (.slice ra' roots'.length rc'))], ⟨os', b, w'⟩⟩
  | 0, i, hi, os, roots, ra, rc, w, I, hrl, hw, hin => by
    have hi' : i = l.length := by omega
    subst hi'
    refine ⟨os, roots, ra, rc, w, I, by omega, hw, ?_⟩
    rw [xK_loop]
    simp (disch := omega) [-getElem?_pos, -getElem?_neg, st2, code291L2, iltF]
  | j + 1, i, hi, os, roots, ra, rc, w, I, hrl, hw, hin => by
    obtain ⟨x, hx⟩ : ∃ x, l[i]? = some x := ⟨_, List.getElem?_eq_getElem (by omega)⟩
    have hxo := hok x (List.mem_of_getElem? hx)
    obtain ⟨ab, ao, cs, rfl, h1, h2⟩ := hl.at' (ne_of_get hx)
    obtain ⟨h3, h4⟩ := h2 i x hx
    simp only [byteC, Nat.mul_one] at h3 h4
    have ga : cs[ao + i]? = some (.int .u8 x) := by
      have := congrArg (fun l => l[0]?) h4
      simpa [List.getElem?_take, List.getElem?_drop] using this
    have hab' := hab ab ao rfl
    have ha : os[ab]? = some (.cells 1 cs) := by rw [hin ab (lt_of_get h1) hab']; exact h1
    have hil : (i : Int) < (l.length : Int) := by omega
    have hwx : IntKind.i64.wrap x = x := wrapI (by omega)
    have hki : (0 : Int) < (k : Int) + 2 := by omega
    have hkz : ¬ (k : Int) + 2 = 0 := by omega
    have hwk : IntKind.i64.wrap ((k : Int) + 2) = (k : Int) + 2 := wrapI (by omega)
    have hm1 : 0 ≤ x.tmod ((k : Int) + 2) ∧ x.tmod ((k : Int) + 2) < 32 := by
      rw [Int.tmod_eq_emod_of_nonneg hxo.1]
      have := Int.emod_lt_of_pos x hki
      have := Int.emod_nonneg x hkz
      omega
    have hm5 : 0 ≤ x.tmod 5 ∧ x.tmod 5 ≤ 4 := by rw [Int.tmod_eq_emod_of_nonneg hxo.1]; omega
    generalize hx1 : x.tmod ((k : Int) + 2) = m1 at hm1
    generalize hx5 : x.tmod 5 = m5 at hm5
    have hi9 : (i : Int) + 1 ≤ 1001 := by omega
    have e1 : ((i + 1 : Nat) : Int) = (i : Int) + 1 := by omega
    have hlen0 : b0 ≤ os.length := by have := I.C.P.H.low p (.inl rfl); have := lt_of_get I.C.P.H.head; omega
    obtain ⟨os3, w3, k1, k2, k3, k4, k5⟩ := app_root (i0 := os.length) (x := m1) (r := decide (0 < m5)) (w := w) I.row hb hlen0 I.rn (fun i o h => ⟨(I.rs i o h).1, (I.rs i o h).2.1⟩) I.rc (by omega) rfl
    have hnH : ∀ i, i < os.length → (S.fp p i ∨ R.fp q i) → os3[i]? = os[i]? := fun i hi h => k4 i hi fun o h' => by
      obtain ⟨_, _, g1, g2⟩ := I.rs i o h'
      rcases h with h | h
      · exact g1 h
      · exact g2 h
    have I2 : RInv os3 b0 p q S R k (roots ++ [⟨m1, decide (0 < m5)⟩]) (some (os.length + 1, 0)) none := by
      refine ⟨I.C.frame hnH, Row.mk0 (fun _ => rfl) k2, fun h => (by cases h), fun i o h => ?_, .inl rfl⟩
      cases h
      exact ⟨by omega, ⟨_, k2⟩, fun h => by have := I.C.P.H.fp_lt h; omega, fun h => by have := I.C.P.G.fp_lt h; omega⟩
    have hin3 : ∀ j, j < os0.length → j < b0 → os3[j]? = os0[j]? := fun j hj hjb => by
      rw [k4 j (by omega) fun o h' => by have := (I.rs j o h').1; omega, hin j hj hjb]
    have hll : (roots ++ [(⟨m1, decide (0 < m5)⟩ : V)]).length = roots.length + 1 := by simp
    obtain ⟨os4, roots4, ra4, rc4, w4, j1, j2, j3, j4⟩ := l291_2 hb hb0 hk hl hok hal hab K j (i + 1) (by omega) os3 (roots ++ [⟨m1, decide (0 < m5)⟩]) (some (os.length + 1, 0)) none w3 I2 (by rw [hll]; omega) (by omega) hin3
    refine ⟨os4, roots4, ra4, rc4, w4, j1, j2, j3, ?_⟩
    rw [xK_loop]
    rw [e1, hll] at j4
    simp only [st2] at j4 ⊢
    simp (maxSteps := 3000000) (disch := omega) [-getElem?_pos, -getElem?_neg, -aAppend, -sget, sgetN, sgetH, sgetT, code291L2, iltT, wrapI, hil, ha, ga, hwx, hx1, hx5, hki, hkz, hwk, k1]
    exact j4

theorem find_num {S : HS} {k : Nat} (h : S.ents.map Ent.n = (List.range k).map fun (i : Nat) => (i : Int) + 1) (i : Nat) (hi : i < k) : ∃ e, S.find ((i : Int) + 1) = some e := by
  have : ((i : Int) + 1) ∈ S.ents.map Ent.n := by
    rw [h, List.mem_map]
    exact ⟨i, List.mem_range.2 hi, rfl⟩
  rw [List.mem_map] at this
  obtain ⟨e, he, hn⟩ := this
  cases hf : S.find ((i : Int) + 1) with
  | some e => exact ⟨e, rfl⟩
  | none =>
    unfold HS.find at hf
    have := List.find?_eq_none.1 hf e he
    simp [hn] at this

def st1 (p q : Nat) (n : Int) (rv : AVal) (t i : Int) : Slots :=
  [(7, .val (.ptr (some (p, 0)))), (8, .val (.ptr (some (q, 0)))), (11, .val (.int .i64 n)), (15, .val rv), (18, .val (.int .i64 t)), (126, .val (.int .i64 n)), (127, .val (.int .i64 i))]

theorem l291_1 {b0 p q k : Nat} {S : HS} {R : RH} {rv : AVal} (C : CInv os b0 p q S R k) (hk : k ≤ 30) (K : AExit → St → Option β) :
    ∀ (j i : Nat), i + j = k →
        xK T (.loop code291L1) ⟨st1 p q k rv (i : Nat) (i : Nat), ⟨os, b, w⟩⟩ (k := ⟨K⟩) = K (.exit 6) ⟨[(7, .val (.ptr (some (p, 0)))), (8, .val (.ptr (some (q, 0)))), (11, .val (.int .i64 k)), (15, .val rv), (18, .val (.int .i64 k))], ⟨os, b, w⟩⟩
  | 0, i, hi => by
    have hi' : i = k := by omega
    subst hi'
    rw [xK_loop]
    simp (disch := omega) [-getElem?_pos, -getElem?_neg, st1, code291L1, iltF]
  | j + 1, i, hi => by
    have j4 := l291_1 (rv := rv) C hk K j (i + 1) (by omega)
    have e1 : ((i + 1 : Nat) : Int) = (i : Int) + 1 := by omega
    obtain ⟨e, he⟩ := find_num C.num i (by omega)
    have h290 := fun w => s290 (b := b) (w := w) C.P.H ((i : Int) + 1)
    simp only [he] at h290
    have hil : (i : Int) < (k : Int) := by omega
    rw [xK_loop]
    rw [e1] at j4
    simp only [st1] at j4 ⊢
    simp (maxSteps := 3000000) (disch := omega) [-getElem?_pos, -getElem?_neg, -sget, sgetN, sgetH, sgetT, code291L1, iltT, wrapI, hil, h290]
    exact j4

/-- So many of the first are seen. -/
def liveC (seen : List Int) (i : Nat) : Nat := ((List.range i).filter fun (j : Nat) => seen.contains ((j : Int) + 1)).length

theorem liveC_succ (seen : List Int) (i : Nat) : liveC seen (i + 1) = liveC seen i + if seen.contains ((i : Int) + 1) then 1 else 0 := by
  unfold liveC
  rw [List.range_succ, List.filter_append, List.length_append, List.filter_cons]
  split <;> rfl

theorem liveC_le (seen : List Int) (i : Nat) : liveC seen i ≤ i := by
  unfold liveC
  exact Nat.le_trans (List.length_filter_le _ _) (by simp)

theorem liveC_all {S : HS} {k : Nat} (h : S.ents.map Ent.n = (List.range k).map fun (i : Nat) => (i : Int) + 1) (seen : List Int) : (S.ents.filter fun e => seen.contains e.n).length = liveC seen k := by
  have h1 : (S.ents.filter fun e => seen.contains e.n).length = ((S.ents.map Ent.n).filter fun n => seen.contains n).length := by
    rw [List.filter_map, List.length_map]; rfl
  rw [h1, h, List.filter_map, List.length_map]; rfl

def st0 (p : Nat) (n : Int) (sv : AVal) (lv gone i : Int) : Slots :=
  [(7, .val (.ptr (some (p, 0)))), (11, .val (.int .i64 n)), (18, .val (.int .i64 n)), (22, .val sv), (23, .val (.int .i64 lv)), (24, .val (.int .i64 gone)), (148, .val (.int .i64 n)), (149, .val (.int .i64 i))]

set_option maxHeartbeats 4000000 in
theorem l291_0 {b0 p k sb : Nat} {S : HS} {seen : List Int} {bs : List Bool} {gone : Int} (H : HRep os b0 p (S.coll seen)) (hnd : (S.ents.map Ent.n).Nodup) (hnum : S.ents.map Ent.n = (List.range k).map fun (i : Nat) => (i : Int) + 1) (hk : k ≤ 30) (hsb : os[sb]? = some (.cells 1 (bs.map AVal.bool))) (hbs : bs.length = k + 1) (hag : ∀ i : Nat, i < k → (bs[i + 1]? = some true ↔ ((i : Int) + 1) ∈ seen)) (K : AExit → St → Option β) :
    ∀ (j i : Nat), i + j = k →
        xK T (.loop code291L0) ⟨st0 p k (.slice (some (sb, 0)) (k + 1) (some (k + 1))) (liveC seen i : Nat) gone (i : Nat), ⟨os, b, w⟩⟩ (k := ⟨K⟩) = K (.exit 8) ⟨[(18, .val (.int .i64 k)), (23, .val (.int .i64 (liveC seen k : Nat))), (24, .val (.int .i64 gone))], ⟨os, b, w⟩⟩
  | 0, i, hi => by
    have hi' : i = k := by omega
    subst hi'
    rw [xK_loop]
    simp (disch := omega) [-getElem?_pos, -getElem?_neg, st0, code291L0, iltF]
  | j + 1, i, hi => by
    have j4 := l291_0 (gone := gone) H hnd hnum hk hsb hbs hag K j (i + 1) (by omega)
    have e1 : ((i + 1 : Nat) : Int) = (i : Int) + 1 := by omega
    obtain ⟨e, he⟩ := find_num hnum i (by omega)
    have h290 := fun w => s290 (b := b) (w := w) H ((i : Int) + 1)
    simp only [coll_find hnd, he] at h290
    have hil : (i : Int) < (k : Int) := by omega
    have hlc := liveC_le seen i
    have hls := liveC_succ seen i
    have hag' := hag i (by omega)
    obtain ⟨y, hy⟩ : ∃ y, bs[i + 1]? = some y := ⟨_, List.getElem?_eq_getElem (by omega)⟩
    have hgy : (bs.map AVal.bool)[i + 1]? = some (.bool y) := by rw [List.getElem?_map, hy]; rfl
    have hik : (i : Int) + 1 < (k : Int) + 1 := by omega
    have hi0 : 0 ≤ (i : Int) + 1 := by omega
    rw [hy] at hag'
    have hb9 : liveC seen i ≤ 30 := by omega
    by_cases hs : ((i : Int) + 1) ∈ seen
    · have hyt : y = true := by simpa using hag'.2 hs
      subst hyt
      rw [if_pos (by simpa using hs)] at hls
      simp only [if_pos hs] at h290
      rw [e1, hls] at j4
      rw [xK_loop]
      have e2 : ((liveC seen i + 1 : Nat) : Int) = (liveC seen i : Int) + 1 := by omega
      rw [e2] at j4
      simp only [st0] at j4 ⊢
      simp (maxSteps := 3000000) (disch := omega) [-getElem?_pos, -getElem?_neg, -sget, sgetN, sgetH, sgetT, code291L0, iltT, wrapI, hil, h290, hsb, hgy, hik, hi0]
      exact j4
    · have hyt : y = false := by
        cases y with
        | false => rfl
        | true => exact absurd (hag'.1 rfl) hs
      subst hyt
      rw [if_neg (by simpa using hs)] at hls
      have hls : liveC seen (i + 1) = liveC seen i := hls
      simp only [if_neg hs] at h290
      rw [e1, hls] at j4
      rw [xK_loop]
      simp only [st0] at j4 ⊢
      simp (maxSteps := 3000000) (disch := omega) [-getElem?_pos, -getElem?_neg, -sget, sgetN, sgetH, sgetT, code291L0, iltT, wrapI, hil, h290, hsb, hgy, hik, hi0]
      exact j4

end Go.Abs.AbsHeap

/-
  Layer 27: HeapCollects.
-/
namespace Go.Abs.AbsHeap
set_option maxRecDepth 100000
set_option linter.unusedSimpArgs false
variable {O os : List AObj} {b w : Nat} {β : Type}

/-- Both heaps begin. -/
theorem CInv.start : CInv (os ++ [.cells 4 [.int .i64 100000, .int .i64 0, .int .i64 0, .map (some (os.length + 1))], .map [] 0, .cells 2 [.int .i64 100000, .slice none 0 (some 0)]]) os.length os.length (os.length + 2) (HS.new 100000 (os.length + 1)) ⟨100000, none, []⟩ 0 := by
  have P := PInv.start (os := os) (n := 100000) (by omega) (by omega)
  refine ⟨{ P with ok := P.ok.mono (by omega), len := Nat.zero_le _ }, fun m => ?_, rfl, rfl, by simp [HS.new], rfl⟩
  simp [HS.look, HS.find, HS.new, RH.look]


set_option maxHeartbeats 8000000 in
theorem s291 {l ls lk : List Int} {a0 a1 a2 : Option (Nat × Nat)} {c0 c1 c2 : Option Nat} (hb : b ≤ os.length)
    (h0 : Row os 1 byteC l a0) (h1 : Row os 1 byteC ls a1) (h2 : Row os 1 byteC lk a2)
    (o0 : ∀ x ∈ l, 0 ≤ x ∧ x ≤ 255) (o1 : ∀ x ∈ ls, 0 ≤ x ∧ x ≤ 255) (o2 : ∀ x ∈ lk, 0 ≤ x ∧ x ≤ 255)
    (i0 : ∀ i o, a0 = some (i, o) → i < os.length) (i1 : ∀ i o, a1 = some (i, o) → i < os.length) (i2 : ∀ i o, a2 = some (i, o) → i < os.length) :
    xCall T 291 [.slice a0 l.length c0, .slice a1 ls.length c1, .slice a2 lk.length c2] ⟨os, b, w⟩ = some (.bool true, ⟨os, b, w⟩) := by
  by_cases g0 : (30 : Int) < (l.length : Int)
  · simp (disch := omega) [-getElem?_pos, -getElem?_neg, -sget, sgetN, sgetH, sgetT, xCallK t291, code291, s299, g0, iltT]
  by_cases g1 : (60 : Int) < (ls.length : Int)
  · simp (disch := omega) [-getElem?_pos, -getElem?_neg, -sget, sgetN, sgetH, sgetT, xCallK t291, code291, s299, g0, g1]
  by_cases g2 : (30 : Int) < (lk.length : Int)
  · simp (disch := omega) [-getElem?_pos, -getElem?_neg, -sget, sgetN, sgetH, sgetT, xCallK t291, code291, s299, g0, g1, g2]
  have C0 := CInv.start (os := os)
  have h298 := fun w => s298 (os := os) (b := b) (w := w) 100000
  obtain ⟨O1, S1, R1, w1, C1, hw1, hin1, hx4⟩ := l291_4 (β := AExit × St) (ac := c0) (a0 := .slice a0 l.length c0) (a1 := .slice a1 ls.length c1) (a2 := .slice a2 lk.length c2) hb h0 o0 (by omega) i0 (fun e st => some (e, st)) l.length 0 (by omega) _ _ _ os.length C0 (Nat.le_refl _) (fun j hj _ => by rw [List.getElem?_append_left hj])
  have hl4 := fun (k : AExit → St → Option (AVal × Heap)) => xK_of (k := k) (xCode_of hx4)
  simp only [st4, Int.cast_ofNat_Int] at hl4
  have hlen1 : os.length ≤ O1.length := by have := C1.P.H.low _ (.inl rfl); have := lt_of_get C1.P.H.head; omega
  by_cases hz : l.length = 0
  · obtain ⟨seen, O2, hg, H2, U2, hc⟩ := s292 C1.P.H (c := some 0) (nil_row O1) (by simp) hb (by omega) (by have := C1.len; omega)
    obtain ⟨w2, _, hw2, hx2⟩ := hc w1
    have e0 : S1.ents = [] := List.eq_nil_of_length_eq_zero (by rw [C1.len]; exact hz)
    simp only [e0, List.length_nil, List.filter_nil] at hx2
    have hnl : ¬ w2 < os.length := by omega
    simp only [hz, Int.cast_ofNat_Int] at hl4
    simp (disch := omega) [-getElem?_pos, -getElem?_neg, -sget, sgetN, sgetH, sgetT, xCallK t291, code291, s299, g0, g1, g2, h298, hl4, hz, hx2, hnl]
  · obtain ⟨O2, S2, R2, w2, C2, hw2, hin2, hx3⟩ := l291_3 (β := AExit × St) (ac := c1) (a2 := .slice a2 lk.length c2) hb (Nat.le_refl _) (by omega) (by omega) h1 o1 (by omega) i1 (fun e st => some (e, st)) ls.length 0 (by omega) _ _ _ w1 C1 hw1 hin1
    have hl3 := fun (k : AExit → St → Option (AVal × Heap)) => xK_of (k := k) (xCode_of hx3)
    simp only [st3, Int.cast_ofNat_Int] at hl3
    have I2 : RInv O2 os.length os.length (os.length + 2) S2 R2 l.length [] none (some 0) := ⟨C2, nil_row _, fun _ => ⟨rfl, rfl⟩, fun i o h => (by cases h), .inr rfl⟩
    obtain ⟨O3, roots, ra, rc, w3, I3, hr3, hw3, hx5⟩ := l291_2 (β := AExit × St) (ac := c2) hb (Nat.le_refl _) (by omega) h2 o2 (by omega) i2 (fun e st => some (e, st)) lk.length 0 (by omega) _ _ _ _ w2 I2 rfl hw2 hin2
    have hl2 := fun (k : AExit → St → Option (AVal × Heap)) => xK_of (k := k) (xCode_of hx5)
    simp only [st2, Int.cast_ofNat_Int, List.length_nil] at hl2
    have hx6 := l291_1 (β := AExit × St) (b := b) (w := w3) (rv := .slice ra roots.length rc) I3.C (by omega) (fun e st => some (e, st)) l.length 0 (by omega)
    have hl1 := fun (k : AExit → St → Option (AVal × Heap)) => xK_of (k := k) (xCode_of hx6)
    simp only [st1, Int.cast_ofNat_Int] at hl1
    have hlen3 : os.length ≤ O3.length := by have := I3.C.P.H.low _ (.inl rfl); have := lt_of_get I3.C.P.H.head; omega
    obtain ⟨bs, hgb, h293⟩ := s293 (b := b) (c := rc) I3.C.P.G I3.row (by omega) (by omega)
    have hall := I3.C.all
    rw [hall] at h293
    have H3 := I3.C.P.H.app [.cells 1 (bs.map AVal.bool)]
    obtain ⟨seen, O4, hgs, H4, U4, hc⟩ := s292 H3 (c := rc) (I3.row.ext _) (by omega) hb (by simp; omega) (by have := I3.C.len; omega)
    obtain ⟨w4, _, hw4, hx7⟩ := hc w3
    rw [liveC_all I3.C.num, I3.C.len] at hx7
    have hsb : O4[O3.length]? = some (.cells 1 (bs.map AVal.bool)) := by
      rw [U4.same O3.length (by simp) fun h => by have := I3.C.P.H.fp_lt h; omega]
      simp
    have hlook : R2.look = S2.look := funext fun m => (I3.C.E m).symm
    have hag : ∀ i : Nat, i < l.length → (bs[i + 1]? = some true ↔ ((i : Int) + 1) ∈ seen) := fun i _ => by
      rw [goingR_end hgb, going_end hgs, hlook]
      rfl
    have hx8 := l291_0 (β := AExit × St) (b := b) (w := w4) (gone := (l.length : Int) - (liveC seen l.length : Nat)) H4 I3.C.P.H.nd I3.C.num (by omega) hsb (by rw [hgb.len, hall]) hag (fun e st => some (e, st)) l.length 0 (by omega)
    have hl0 := fun (k : AExit → St → Option (AVal × Heap)) => xK_of (k := k) (xCode_of hx8)
    have hlz : liveC seen 0 = 0 := rfl
    simp only [st0, Int.cast_ofNat_Int, hlz] at hl0
    have hll := liveC_le seen l.length
    have hnl : ¬ w4 < os.length := by omega
    simp (maxSteps := 3000000) (disch := omega) [-getElem?_pos, -getElem?_neg, -sget, sgetN, sgetH, sgetT, xCallK t291, code291, s299, g0, g1, g2, h298, hl4, hl3, hl2, hl1, hl0, hz, h293, hx7, hnl, wrapI]

end Go.Abs.AbsHeap
