/-
  Each operation but a call: what the abstract machine gives, the model's operation does.
-/
import Derived.Test.YtnpjncdnlacmeaaAbsOps2
import Derived.WalkSpells
namespace Go.Abs

/-- An operation is done: in the model it ends with a value (or with none: then 'undef'), and all belongs together as before. -/
def OpDone (E : Env) (lo : Nat) (D : List Nat) (μ : MM) (w : World) (a : Act) (dst : Option Tmp) (r : Result Next) (x : Slot) (s' : Slots) (h' : Heap) : Prop :=
  ∃ v w' μ' ν', ν'.ds = D ∧ (r = .ok (.value v) w' ∨ (v = Go.undef ∧ r = .ok .skip w')) ∧ Step (fun k => lo ≤ k) h'.wmin μ w μ' w' ∧ Rel E μ' h' w' ∧
    FRel E lo ν' μ' (put1 (sget s') dst x) (a.put dst v).tmps w'

section
variable {E : Env} {lo : Nat} {ν : Fr} {μ : MM} {s : Slots} {h : Heap} {a : Act} {w : World} {dst : Option Tmp} {r : Result Next}

theorem put_tmps (a : Act) (dst : Option Tmp) (v : Value) : (a.put dst v).tmps = putT a.tmps dst v := by
  cases dst <;> rfl

theorem FRel.heap {g : SlotFn} {tmps : Array Value} {w' : World} (hf : FRel E lo ν μ g tmps w) (hw : w'.heap = w.heap) : FRel E lo ν μ g tmps w' :=
  hf.keep (Later.refl _) (fun _ _ _ => by rw [hw]) (fun _ _ i m _ hi hm => absurd (lt_of_get hm) (by omega)) fun _ _ => ⟨by rw [hw], fun i m hi hm => absurd (lt_of_get hm) (by omega)⟩

/-- A value, and no change (but for what is drawn). -/
theorem done_val (hf : FRel E lo ν μ (sget s) a.tmps w) (hr : Rel E μ h w) (hd : ∀ x, dst = some x → x < a.tmps.size) {v : Value} {u : AVal} (hrun : r = .ok (.value v) w) (hv : VRel E μ u v) :
    OpDone E lo ν.ds μ w a dst r (.val u) s h := by
  refine ⟨v, w, μ, ν, rfl, .inl hrun, Step.refl _ _ _ _, hr, ?_⟩
  rw [put_tmps]
  exact hf.setVal hd hv

theorem done_loc (hf : FRel E lo ν μ (sget s) a.tmps w) (hr : Rel E μ h w) (hd : ∀ x, dst = some x → x < a.tmps.size) {t o : Nat} (hrun : r = .ok (.value (.pointer (some ⟨ν t, o, none⟩))) w) :
    OpDone E lo ν.ds μ w a dst r (.loc t o) s h := by
  refine ⟨_, w, μ, ν, rfl, .inl hrun, Step.refl _ _ _ _, hr, ?_⟩
  rw [put_tmps]
  cases dst with
  | none => exact hf.congr fun t => by simp [put1]
  | some d => exact hf.setLoc (hd d rfl)

/-- A new object: its address, or a slice of it, is the value. -/
theorem done_new (hf : FRel E lo ν μ (sget s) a.tmps w) (hr : Rel E μ h w) (hd : ∀ x, dst = some x → x < a.tmps.size) (o : AObj) (B : Obj) (m : M) (hm : m.blk = w.heap.size) {w1 : World} {v : Value} {u : AVal}
    (hrun : r = .ok (.value v) w1) (h1 : w1.heap = w.heap.push B) (h2 : w1.os = w.os) (h3 : w1.tape = w.tape) (h4 : w1.output = w.output)
    (ho : ORel E (μ ++ [some m]) h.base μ.length { w with heap := w.heap.push B } o) (hv : VRel E (μ ++ [some m]) u v) :
    OpDone E lo ν.ds μ w a dst r (.val u) s (h.push o) := by
  have hp := hr.push o B m hm ho
  have hs : Step (fun k => lo ≤ k) (h.push o).wmin μ w (μ ++ [some m]) { w with heap := w.heap.push B } := Step.push _ μ w B m (by omega)
  refine ⟨v, w1, μ ++ [some m], ν, rfl, .inl hrun, hs.heap h1 h2 h3 h4, hp.same rfl rfl h1, ?_⟩
  have hf1 : FRel E lo ν (μ ++ [some m]) (sget s) a.tmps { w with heap := w.heap.push B } := by
    refine hf.keep (later_push μ _) (fun t cs hv => ?_) (fun t cs i m' hv hi hm' => ?_) fun r hr => ⟨?_, fun i m' hi hm' => ?_⟩
    · have := hf.lt hv
      show (w.heap.push B)[ν t]? = _
      rw [Array.getElem?_push, if_neg (by omega)]
    · rcases get_push hm' with b | ⟨_, b⟩
      · exact absurd (lt_of_get b) (by omega)
      · cases b; have := hf.lt hv; omega
    · have := hf.lt_ds hr
      show (w.heap.push B)[r]? = _
      rw [Array.getElem?_push, if_neg (by omega)]
    · rcases get_push hm' with b | ⟨_, b⟩
      · exact absurd (lt_of_get b) (by omega)
      · cases b; have := hf.lt_ds hr; omega
  rw [put_tmps]
  exact (hf1.setVal hd hv).heap h1

/-- A new variable of the frame's own. -/
theorem done_var (hf : FRel E lo ν μ (sget s) a.tmps w) (hr : Rel E μ h w) (hlo : lo ≤ w.heap.size) {d : Nat} (hd : d < a.tmps.size) {cs : List AVal} {c : Array Value} (e : TypeId)
    (hc : VRels E μ cs c.toList) (h1 : ∀ x ∈ cs, x.isOne = true) (hrun : r = .ok (.value (.pointer (some ⟨w.heap.size, 0, none⟩))) { w with heap := w.heap.push (.cells c e (0, 0)) }) :
    OpDone E lo ν.ds μ w a (some d) r (.var cs) (unloc d s) h := by
  refine ⟨_, _, μ, ⟨fun t => if t = d then w.heap.size else ν t, ν.ds⟩, rfl, .inl hrun, ?_, hr.keep (by simp) fun i m hm => ?_, ?_⟩
  · exact ⟨rfl, rfl, rfl, by simp, fun k hk _ _ => by
      show (w.heap.push _)[k]? = _
      rw [Array.getElem?_push, if_neg (by omega)], Nat.le_refl _, fun _ _ => .inl rfl, fun i m hi hm => absurd (lt_of_get hm) (by omega)⟩
  · have := hr.lt i m hm
    show (w.heap.push _)[m.blk]? = _
    rw [Array.getElem?_push, if_neg (by omega)]
  · rw [put_tmps]
    exact hf.setVar hr.lt hlo hd e hc h1

theorem run_zero {P : Program} {t : TypeId} {z : List AVal} (hz : zeroOf P t = some z) (μ : MM) (w : World) : ∃ v, (zeroValue t).run P w = .ok v w ∧ VRels E μ z v.cells.toList ∧ ∀ x ∈ z, x.isOne = true := by
  unfold zeroOf at hz
  split at hz
  · rename_i i hi
    split at hz
    · rename_i v hv
      obtain ⟨k1, k2⟩ := toAs_rel (E := E) hz μ
      exact ⟨v, by simp [zeroValue, typeInfo, hi, hv], k1, k2⟩
    · cases hz
  · cases hz

theorem info_zero {P : Program} {t : TypeId} {z : List AVal} (hz : zeroOf P t = some z) : ∃ i v, P.info? t = some i ∧ i.zero = some v ∧ toAs v.cells.toList = some z := by
  unfold zeroOf at hz
  split at hz
  · rename_i i hi
    split at hz
    · rename_i v hv
      exact ⟨i, v, hi, hv, hz⟩
    · cases hz
  · cases hz

/-- A fresh block's cells. -/
theorem new_cells {cs : List AVal} {c : Array Value} {e : TypeId} {esz b : Nat} {m : M} (hc : VRels E μ cs c.toList) (h1 : ∀ x ∈ cs, x.isOne = true) (hm : m = ⟨w.heap.size, 0, c.size, esz⟩) :
    ORel E (μ ++ [some m]) b μ.length { w with heap := w.heap.push (.cells c e (0, 0)) } (.cells esz cs) := by
  subst hm
  have hl := hc.length
  refine ⟨⟨w.heap.size, 0, c.size, esz⟩, c, e, (0, 0), by simp, rfl, by simp, rfl, by simp at hl ⊢; omega, fun k v hk => ?_, fun _ off _ => by simp⟩
  obtain ⟨v', hv', hr⟩ := hc.get hk
  exact ⟨h1 v (List.mem_of_getElem? hk), v', by simpa using hv', hr.later (later_push μ _)⟩

theorem ptr_new {m : M} (hm : m.base = 0) : VRel E (μ ++ [some m]) (.ptr (some (μ.length, 0))) (.pointer (some ⟨m.blk, 0, none⟩)) := by
  simp only [VRel]
  exact ⟨_, rfl, some m, by simp, fun m' h => by cases h; rw [hm]⟩

theorem slice_new {m : M} {n cap : Nat} {c : Option Nat} (hm : m.base = 0) (hn : n ≤ cap) (hc : ∀ k, c = some k → cap = k) (hs : cap * m.esz ≤ m.size) :
    VRel E (μ ++ [some m]) (.slice (some (μ.length, 0)) n c) (.slice (some ⟨m.blk, 0, none⟩) n cap) := by
  simp only [VRel]
  refine ⟨_, cap, rfl, by simp, fun _ => ⟨some m, by simp, fun m' h => by cases h; rw [hm]⟩, hc, hn, fun m' h => ?_⟩
  simp at h; subst h; omega

/-! ## Aggregates that are built -/

theorem fold_splice : ∀ (xs : List Value) (cs : Array Value) (off j : Nat), (xs.zipIdx j).foldl (fun (cs : Array Value) (x : Value × Nat) => cs.setIfInBounds (off + x.2) x.1) cs = spliceA cs (off + j) xs
  | [], _, _, _ => rfl
  | x :: xs, cs, off, j => by
    simp only [List.zipIdx_cons, List.foldl_cons, spliceA]
    exact fold_splice xs _ off (j + 1)

theorem fill_rel (hf : FRel E lo ν μ (sget s) a.tmps w) {place : Nat → Option (Nat × Nat)} : ∀ {ps : List (Nat × Operand)} {qs : List (Nat × Nat × Opd)} {cs cs' : List AVal} {c : Array Value},
    cParts E place ps = some qs → Abs.fill s cs qs = some cs' → VRels E μ cs c.toList → (∀ x ∈ cs, x.isOne = true) →
    ∃ c' : Array Value, Instr.fill place c (ps.map fun p => (p.1, a.eval p.2)) = some c' ∧ VRels E μ cs' c'.toList ∧ (∀ x ∈ cs', x.isOne = true) ∧ c'.size = c.size
  | [], qs, cs, cs', c, hq, he, hc, h1 => by
    simp only [cParts] at hq; cases hq
    simp only [Abs.fill] at he; cases he
    exact ⟨c, rfl, hc, h1, rfl⟩
  | (i, x) :: ps, qs, cs, cs', c, hq, he, hc, h1 => by
    simp only [cParts] at hq
    split at hq
    · rename_i o n y qs' hp hx hps
      cases hq
      simp only [Abs.fill] at he
      split at he
      · rename_i xs hxs
        split at he
        · rename_i hh
          obtain ⟨hn, hlen⟩ := hh
          cases hev : y.ev s with
          | none => rw [hev] at hxs; simp at hxs
          | some v =>
            rw [hev] at hxs
            simp only [Option.bind_some] at hxs
            have hv := opd_rel hf hx hev
            obtain ⟨k1, k2⟩ := cells_rel hv hxs
            have k3 := k1.length
            have hlc := hc.length
            have hcr : CRel E μ cs c 0 := fun k v' hk => by
              obtain ⟨u, hu, hr⟩ := hc.get hk
              exact ⟨h1 v' (List.mem_of_getElem? hk), u, by simpa using hu, hr⟩
            have hsp := hcr.splice k1 k2 (o := o) (by omega) (by simp at hlc; omega)
            have hl2 := splice_length cs o xs (by omega)
            have hsz := spliceA_size (a.eval x).cells.toList c (0 + o)
            have hrel : VRels E μ (Abs.splice cs o xs) (spliceA c (0 + o) (a.eval x).cells.toList).toList := by
              apply VRels.of
              · simp [hl2, spliceA_size]; simpa using hlc
              · intro k v' hk
                obtain ⟨_, u, hu, hr⟩ := hsp k v' hk
                exact ⟨u, by simpa using hu, hr⟩
            have hone : ∀ x' ∈ Abs.splice cs o xs, x'.isOne = true := fun x' hx' => by
              obtain ⟨k, hk⟩ := List.getElem?_of_mem hx'
              exact (hsp k x' hk).1
            obtain ⟨c', j1, j2, j3, j4⟩ := fill_rel hf hps he hrel hone
            refine ⟨c', ?_, j2, j3, by rw [j4, hsz]⟩
            simp only [List.map_cons, Instr.fill, hp]
            have e1 : ((a.eval x).cells.size ≠ n || o + (a.eval x).cells.size > c.size) = false := by
              simp at k3 hlc
              simp; omega
            rw [if_neg (by simp only [e1]; exact Bool.false_ne_true)]
            have e2 : ((a.eval x).cells.zipIdx.foldl (fun (cs : Array Value) (x : Value × Nat) => cs.setIfInBounds (o + x.2) x.1) c) = spliceA c (0 + o) (a.eval x).cells.toList := by
              have := fold_splice (a.eval x).cells.toList c o 0
              rw [← Array.foldl_toList, Array.toList_zipIdx, this]
              congr 1; omega
            rw [e2]; exact j1
        · cases he
      · cases he
    · cases hq

theorem places_rel {P : Program} (w : World) : ∀ {fs : List Field} {pl : List (Nat × Nat)}, fieldPlaces P fs = some pl → (fs.mapM fun f => (Functor.map (Prod.mk f.offset) (sizeOf f.type) : Sem (Nat × Nat))).run P w = .ok pl w
  | [], pl, h => by simp only [fieldPlaces] at h; cases h; rfl
  | f :: fs, pl, h => by
    simp only [fieldPlaces] at h
    split at h
    · rename_i n l hn hl
      cases h
      have ih := places_rel w hl
      simp only [List.mapM_cons, Sem.run_bind, Sem.run_map, run_sizeOf hn, Result.andThen_ok, Sem.run_pure, ih]
    · cases h

end
end Go.Abs
