/-
  Each operation but a call, all together.
-/
import Derived.Test.YtnpjncdnlacmeaaAbsOps3
import Derived.Laws.IdiomStrings
import Derived.Laws.BytesArg
namespace Go.Abs

section
variable {E : Env} {lo : Nat} {ν : Fr} {μ : MM} {s : Slots} {h : Heap} {a : Act} {w : World}

theorem rep_get {α : Type} (l : List α) (k : Nat) (hk : l.length = k) (h0 : 0 < k) : ∀ (n i : Nat), i < n * k → ((List.replicate n l).flatten)[i]? = l[i % k]?
  | 0, i, h => by omega
  | n + 1, i, h => by
    rw [List.replicate_succ, List.flatten_cons]
    by_cases hi : i < k
    · rw [List.getElem?_append_left (by omega), Nat.mod_eq_of_lt hi]
    · rw [List.getElem?_append_right (by omega), hk, rep_get l k hk h0 n (i - k) (by rw [Nat.add_mul] at h; omega)]
      congr 1
      rw [Nat.mod_eq_sub_mod (a := i) (by omega)]

theorem rep_length {α : Type} (l : List α) (k : Nat) (hk : l.length = k) : ∀ n, ((List.replicate n l).flatten).length = n * k
  | 0 => by simp
  | n + 1 => by rw [List.replicate_succ, List.flatten_cons, List.length_append, hk, rep_length l k hk n, Nat.add_mul]; omega

theorem rep_rel {z : List AVal} {zero : Array Value} {k n : Nat} (hz : VRels E μ z zero.toList) (h1 : ∀ x ∈ z, x.isOne = true) (hk : z.length = k) (h0 : 0 < k) :
    VRels E μ (rep n z) ((Array.range (n * k)).map fun i => zero[i % zero.size]!).toList ∧ (∀ x ∈ rep n z, x.isOne = true) := by
  have hl := hz.length
  simp at hl
  constructor
  · apply VRels.of
    · rw [rep, rep_length z k hk]; simp
    · intro i x hx
      have hi : i < n * k := by
        have := lt_of_get hx
        rw [rep, rep_length z k hk] at this; exact this
      rw [rep, rep_get z k hk h0 n i hi] at hx
      obtain ⟨v, hv, hr⟩ := hz.get hx
      refine ⟨v, ?_, hr⟩
      have hm : i % zero.size < zero.size := Nat.mod_lt _ (by omega)
      have e : zero.size = k := by omega
      simp [hi]
      rw [e] at hm ⊢
      rw [Array.getElem?_toList] at hv
      rw [getElem!_pos zero _ (by omega)]
      rw [Array.getElem?_eq_getElem (by omega)] at hv
      simpa using hv
  · intro x hx
    unfold rep at hx
    rw [List.mem_flatten] at hx
    obtain ⟨l, hl1, hl2⟩ := hx
    rw [List.mem_replicate] at hl1
    rw [hl1.2] at hl2
    exact h1 x hl2

theorem bytesOf_rel : ∀ {cs : List AVal} {t : List UInt8} {l : List Value}, bytesOf cs = some t → VRels E μ cs l → ∃ ns : List Int, l = ns.map (Value.int .u8) ∧ t = ns.map fun n => UInt8.ofNat n.toNat
  | [], t, l, h, hl => by
    simp only [bytesOf] at h; cases h
    simp only [VRels] at hl; subst hl
    exact ⟨[], rfl, rfl⟩
  | c :: cs, t, l, h, hl => by
    simp only [VRels] at hl
    obtain ⟨v, r, rfl, hv, hr⟩ := hl
    unfold bytesOf at h
    split at h
    · rename_i h0; cases h0
    · rename_i n r' h0
      cases h0
      rw [Option.map_eq_some_iff] at h
      obtain ⟨t', ht, rfl⟩ := h
      simp only [VRel] at hv; subst hv
      obtain ⟨ns, e1, e2⟩ := bytesOf_rel ht hr
      exact ⟨n :: ns, by simp [e1], by simp [e2]⟩
    · cases h

theorem foldl_push : ∀ (ns : List Int) (r : ByteArray), ns.foldl (fun r n => r.push (UInt8.ofNat n.toNat)) r = ⟨(r.data.toList ++ ns.map fun n => UInt8.ofNat n.toNat).toArray⟩
  | [], r => by simp
  | n :: ns, r => by
    rw [List.foldl_cons, foldl_push ns]
    simp

theorem done_store (hf : FRel E lo ν μ (sget s) a.tmps w) (hr : Rel E μ h w) {dst : Option Tmp} {r : Result Next} (hd : ∀ x, dst = some x → x < a.tmps.size) {x : Operand} {y : Opd} {ad : AAddr} {xs : List AVal} {l : List Value} {s' : Slots} {h' : Heap}
    (hc : cOpd E x = some y) (hy : y.adr s = some ad) (hxs : VRels E μ xs l) (h1 : ∀ v ∈ xs, v.isOne = true) (hst : storeAt s h ad xs = some (s', h'))
    (hrun : ∀ adr, a.eval x = .pointer (some adr) → r = ((storeCells adr l).run E.P w).andThen fun _ w' => .ok .skip w') :
    OpDone E lo ν.ds μ w a dst r .undef s' h' := by
  have hlen := hxs.length
  have hone := oneCell_all hxs h1
  cases ad with
  | glob i o =>
    simp only [storeAt] at hst
    split at hst
    · rename_i esz cs hg
      split at hst
      · rename_i hh
        cases hst
        obtain ⟨hb, hl⟩ := hh
        obtain ⟨m, c, e, fr, k1, k2, k3, k4, k5, k6, k7⟩ := hr.obj i _ hg
        obtain ⟨adr, k8, x', k9, k10⟩ := adr_glob hf hc hy
        rw [k1] at k9; cases k9
        have := k10 m rfl; subst this
        have hrs := run_storeCells (P := E.P) (b := m.blk) (e := e) (fr := fr) (a := ⟨m.blk, m.base + o, none⟩) rfl rfl l 0 c w k3 (by simp; omega) (by rw [k4]; exact k7 hb) hone
        have hsp := k6.splice hxs h1 hl (by omega)
        refine ⟨Go.undef, _, μ, ν, rfl, .inr ⟨rfl, by rw [hrun _ k8, hrs]; rfl⟩, Step.put k1 (Nat.min_le_right _ _) _, hr.put hb k1 ?_, ?_⟩
        · exact ⟨m, _, e, fr, k1, k2, withBlock_same (hr.lt i m k1), by rw [spliceA_size]; exact k4, by rw [splice_length _ _ _ hl]; exact k5, hsp, k7⟩
        · rw [put_tmps]
          refine FRel.setUndef ?_ hd
          exact hf.keep (Later.refl _) (fun t cs' hv => withBlock_other (hf.sepm t cs' i m hv k1)) (fun t cs' j m' _ hj hm => absurd (lt_of_get hm) (by omega)) fun q hq => ⟨withBlock_other ((hf.sepd q hq).1 i m k1), fun j m' hj hm => absurd (lt_of_get hm) (by omega)⟩
      · cases hst
    · cases hst
  | loc t o =>
    simp only [storeAt] at hst
    split at hst
    · rename_i cs hg
      split at hst
      · rename_i hl
        cases hst
        obtain ⟨_, k2, c, e, fr, k3, k4, k5, k6⟩ := hf.var t _ hg
        have k8 := adr_loc hf hc hy hg
        have hrs := run_storeCells (P := E.P) (b := ν t) (e := e) (fr := fr) (a := ⟨ν t, o, none⟩) rfl rfl l 0 c w k3 (by simp; omega) k6 hone
        have hsp := k5.splice hxs h1 hl (by omega)
        have hsz := spliceA_size l c (0 + o)
        simp only [Nat.zero_add] at hsp hsz
        refine ⟨Go.undef, _, μ, ν, rfl, .inr ⟨rfl, by rw [hrun _ k8, hrs]; rfl⟩, ?_, hr.keep (by simp [withBlock]) fun i m hm => withBlock_other (fun e => hf.sepm t _ i m hg hm e.symm), ?_⟩
        · exact ⟨rfl, rfl, rfl, by simp [withBlock], fun k hk hx _ => withBlock_other (fun e => hx (by rw [← e]; exact k2)), Nat.le_refl _, fun _ _ => .inl rfl, fun i m hi hm => absurd (lt_of_get hm) (by omega)⟩
        · rw [put_tmps]
          refine FRel.setUndef ?_ hd
          simp only [Nat.add_zero]
          exact hf.putVar hg (by rw [hsz, splice_length _ _ _ hl]; exact k4) hsp (by rw [hsz]; exact k6)
      · cases hst
    · cases hst

theorem le_grown (w : World) (need old : Nat) (e : TypeId) : need ≤ grownCap w need old e := by
  simp [grownCap, Question.cut]

theorem append_done (hf : FRel E lo ν μ (sget s) a.tmps w) (hr : Rel E μ h w) {dst : Option Tmp} {r : Result Next} (hd : ∀ x, dst = some x → x < a.tmps.size)
    {t u ty e : TypeId} {i : TypeInfo} {z : Value} {x y v : AVal} {vx vy : Value} {h' : Heap} (ht : E.P.underlying t = some (.slice e)) (hu : (∃ e', E.P.underlying u = some (.slice e')) ∨ E.P.underlying u = some .string) (hi : E.P.info? e = some i) (hz : i.zero = some z) (hzs : z.cells.size = i.size)
    (hx : VRel E μ x vx) (hy : VRel E μ y vy) (he : aAppend i.size i.bytes h x y = some (v, h'))
    (hrun : r = ((Builtin.append_ #[t, u] ty #[vx, vy]).run E.P w).andThen fun v w' => .ok (.value v) w') :
    OpDone E lo ν.ds μ w a dst r (.val v) s h' := by
  unfold aAppend at he
  cases x with
  | slice ao n0 c => ?_
  | _ => cases he
  simp only at he
  split at he
  case h_2 => cases he
  rename_i old new ho hn
  unfold aApp at he
  have hk := hu
  obtain ⟨lo1, n1, o1, o2, o3, o4, o5, o6⟩ := rowOf_rel hr hx ho
  obtain ⟨ln, n2, p1, p2, p3, p4, p5, p6⟩ := rowOf_rel hr hy hn
  simp only [alen] at o5
  subst o5
  rw [← p5] at he
  have hsrc : Src E.P i.size u vy n2 ln w := ⟨hk, fun w' => p3 E.P w', p6 E.P w rfl, p6 E.P w.drew rfl, p4, fun v hv => by
    have := oneCell_all p1 p2 v hv
    cases v <;> simp_all [one?, Value.oneCell']⟩
  split at he
  · -- nothing is appended
    rename_i h0
    cases he
    subst h0
    have hl0 : ln = [] := List.eq_nil_of_length_eq_zero (by simpa using p4)
    subst hl0
    have : ∃ b cap, vx = .slice b n1 cap ∧ n1 ≤ cap := by
      cases ao with
      | none => simp only [VRel] at hx; obtain ⟨e1, _, e2⟩ := hx; exact ⟨none, 0, by rw [e2, e1], by omega⟩
      | some io => simp only [VRel] at hx; obtain ⟨ad, cap, e1, _, _, _, e2, _⟩ := hx; exact ⟨some ad, cap, e1, e2⟩
    obtain ⟨b, cap, rfl, hcap⟩ := this
    refine done_val hf hr hd ?_ hx
    rw [hrun]
    rcases hk with ⟨e', hk⟩ | hk <;> (cases b <;> simp [Builtin.append_, run_underlying ht, run_underlying hk, sizeOf, typeInfo, hi, p3, hcap, p6, storeCells])
  · rename_i h0
    split at he
    · rename_i hh
      obtain ⟨hb, h63⟩ := hh
      have hcat := o1.append p1
      have hcl : ∀ (k : Nat) (v' : AVal), (old ++ new)[k]? = some v' → v'.isOne = true := by
        intro k v' hk
        rcases List.mem_append.1 (List.mem_of_getElem? hk) with hm' | hm'
        · exact o2 _ hm'
        · exact p2 _ hm'
      -- a new row, whatever its room
      have grow : ∀ (b : Option Addr) (cap : Nat) (h1 : Heap) (μ1 : MM), vx = .slice b n1 cap → cap < n1 + n2 → Later μ μ1 → Rel E μ1 h1 w → FRel E lo ν μ1 (sget s) a.tmps w →
          OpDone E lo ν.ds μ1 w a dst r (.val (.slice (some (h1.size, 0)) (n1 + n2) none)) s (h1.push (.cells i.size (old ++ new))) := by
        intro b cap h1 μ1 hvx hcap hl1 hr1 hf1
        have hfit := growslice_fits (need := n1 + n2) (old := cap) (bytes := i.bytes) hcap hb
        have hgr := run_append_grow_src (P := E.P) w t u ty e i z ht hi hz b n1 cap lo1 (by rw [← hvx]; exact o6 E.P w.drew rfl) vy n2 ln hsrc hcap (by omega) hfit
        rw [hvx, hgr] at hrun
        have hg := le_grown w (n1 + n2) cap e
        generalize hcell : (lo1 ++ ln).toArray ++ Builtin.zeroCells z.cells (grownCap w (n1 + n2) cap e - (n1 + n2)) = C at hrun
        have hC : C.size = grownCap w (n1 + n2) cap e * i.size := by
          rw [← hcell]
          simp [Builtin.zeroCells, o4, p4, hzs]
          rw [← Nat.add_mul, ← Nat.add_mul]; congr 1; omega
        have hlen : h1.size = μ1.length := hr1.len.symm
        rw [hlen]
        refine done_new hf1 hr1 hd (.cells i.size (old ++ new)) (.cells C e) ⟨w.heap.size, 0, C.size, i.size⟩ rfl (w1 := w.drew.alloc (.cells C e)) hrun rfl rfl rfl rfl ?_ ?_
        · refine ⟨⟨w.heap.size, 0, C.size, i.size⟩, C, e, (0, 0), by simp, rfl, by simp, rfl, ?_, fun k v' hk => ?_, fun _ off _ => by simp⟩
          · have e1 := o1.length
            have e2 := p1.length
            simp only [List.length_append, Nat.zero_add, e1, e2, o4, p4, hC, ← Nat.add_mul]
            exact Nat.mul_le_mul_right _ hg
          · obtain ⟨u, hu', hr'⟩ := hcat.get hk
            refine ⟨hcl k v' hk, u, ?_, (hr'.later hl1).later (later_push μ1 _)⟩
            rw [Nat.zero_add, ← hcell, Array.getElem?_append_left (by simpa using lt_of_get hu')]
            simpa using hu'
        · exact slice_new rfl hg (fun k hk => by cases hk) (by simp [hC])
      split at he
      · -- nil
        cases he
        simp only [VRel] at hx
        obtain ⟨e1, _, e2⟩ := hx
        exact grow none 0 h μ (by rw [e2, e1]) (by omega) (Later.refl _) hr hf
      · rename_i j o
        simp only [VRel] at hx
        obtain ⟨ad, cap, hvx, hj, hA, hck, hcap, hsz⟩ := hx
        split at he
        · -- full
          rename_i hc
          cases he
          exact grow (some ad) cap h μ hvx (by have := hck _ hc; omega) (Later.refl _) hr hf
        · split at he
          · rename_i hbr
            cases he
            obtain ⟨hbase, hrow⟩ := hbr
            unfold rowIs at hrow
            split at hrow
            case h_2 => cases hrow
            rename_i e' cs hg
            have he' : e' = i.size := by simpa using hrow
            subst he'
            obtain ⟨m, cc, te, fr, k1, k2, k3, k4, k5, k6, k7⟩ := hr.obj j _ hg
            by_cases hroom : n1 + n2 ≤ cap
            · -- there is room: in its place
              obtain ⟨x', k8, k9⟩ := hA (by omega)
              rw [k1] at k8; cases k8
              have := k9 m rfl; subst this
              have hs := hsz m k1
              rw [k2] at hs
              have hle : m.base + o + n1 * i.size + ln.length ≤ cc.size := by
                rw [p4, k4, Nat.add_assoc, ← Nat.add_mul]
                exact Nat.le_trans (Nat.add_le_add_left (Nat.mul_le_mul_right _ hroom) _) hs
              have hone := oneCell_all p1 p2
              have hrs := run_storeCells (P := E.P) (b := m.blk) (e := te) (fr := fr) (a := ⟨m.blk, m.base + o + n1 * i.size, none⟩) rfl rfl ln 0 cc w k3 (by simpa using hle) (by rw [k4]; exact k7 hbase) hone
              have hrun' : r = .ok (.value (.slice (some ⟨m.blk, m.base + o, none⟩) (n1 + n2) cap)) (withBlock w m.blk (.cells (spliceA cc (m.base + o + n1 * i.size) ln) te fr)) := by
                rw [hrun, hvx]
                have e1 : (⟨m.blk, m.base + o, none⟩ : Addr).add (n1 * i.size) = ⟨m.blk, m.base + o + n1 * i.size, none⟩ := add_plain _ _ _
                rcases hk with ⟨e'', hk⟩ | hk <;> (simp [Builtin.append_, run_underlying ht, run_underlying hk, sizeOf, typeInfo, hi, p3, hroom, p6, e1, hrs])
              have hnew : ORel E (μ.set j none ++ [some ⟨m.blk, m.base + o, m.size, m.esz⟩]) h.base μ.length (withBlock w m.blk (.cells (spliceA cc (m.base + o + n1 * i.size) ln) te fr)) (.cells i.size (old ++ new)) := by
                have hold : ∀ (k : Nat) (v' : AVal), old[k]? = some v' → ∃ u, cc[m.base + o + k]? = some u ∧ VRel E μ v' u := by
                  intro k v' hk'
                  have hn0 : n1 ≠ 0 := by
                    intro h0'; subst h0'
                    have := lt_of_get hk'
                    rw [o1.length, o4] at this; omega
                  simp only [rowOf] at ho
                  rw [if_neg hn0, hg] at ho
                  simp only at ho
                  split at ho
                  · cases ho
                    have hkk : k < n1 * i.size := by
                      have := lt_of_get hk'
                      simp at this; omega
                    rw [List.getElem?_take_of_lt hkk, List.getElem?_drop] at hk'
                    obtain ⟨_, u, hu1, hu2⟩ := k6 _ v' hk'
                    exact ⟨u, by rw [← hu1]; congr 1; omega, hu2⟩
                  · cases ho
                have hlo : old.length = n1 * i.size := by rw [o1.length, o4]
                have hln : new.length = n2 * i.size := by rw [p1.length, p4]
                refine ⟨⟨m.blk, m.base + o, m.size, m.esz⟩, _, te, fr, ?_, k2, withBlock_same (hr.lt j m k1), by rw [spliceA_size]; exact k4, ?_, fun k v' hk' => ⟨hcl k v' hk', ?_⟩, fun _ => k7 hbase⟩
                · rw [List.getElem?_append_right (by simp)]; simp
                · simp only [List.length_append, hlo, hln]
                  rw [p4, k4] at hle; omega
                · rw [spliceA_get ln cc _ _ hle]
                  by_cases hk2 : k < n1 * i.size
                  · rw [List.getElem?_append_left (by omega)] at hk'
                    obtain ⟨u, hu1, hu2⟩ := hold k v' hk'
                    rw [if_neg (by simp only; omega)]
                    exact ⟨u, hu1, (hu2.later (later_set μ j)).later (later_push _ _)⟩
                  · rw [List.getElem?_append_right (by omega), hlo] at hk'
                    obtain ⟨u, hu1, hu2⟩ := p1.get hk'
                    have := lt_of_get hu1
                    rw [if_pos (by simp only; omega)]
                    refine ⟨u, ?_, (hu2.later (later_set μ j)).later (later_push _ _)⟩
                    rw [← hu1]; congr 1; simp only; omega
              have ht1 := hr.take (m' := ⟨m.blk, m.base + o, m.size, m.esz⟩) hbase k1 rfl hnew
              have hwm : ((h.put j .dead).push (.cells i.size (old ++ new))).wmin ≤ j := Nat.min_le_right _ _
              have hst : Step (fun k => lo ≤ k) _ μ w _ (withBlock w m.blk (.cells (spliceA cc (m.base + o + n1 * i.size) ln) te fr)) :=
                Step.take (X := fun k => lo ≤ k) (m' := ⟨m.blk, m.base + o, m.size, m.esz⟩) (.cells (spliceA cc (m.base + o + n1 * i.size) ln) te fr) k1 rfl hwm
              refine ⟨_, _, _, ν, rfl, .inl hrun', hst, ht1, ?_⟩
              rw [put_tmps]
              refine FRel.setVal ?_ hd ?_
              · refine hf.keep hst.later (fun t cs' hv => withBlock_other (hf.sepm t cs' j m hv k1)) (fun t cs' q m' hv hq hm' => ?_) fun r' hr' => ⟨withBlock_other ((hf.sepd r' hr').1 j m k1), fun q m' hq hm' => ?_⟩
                · rcases get_push hm' with b | ⟨_, b⟩
                  · exact absurd (lt_of_get b) (by simp; omega)
                  · cases b; exact hf.sepm t cs' j m hv k1
                · rcases get_push hm' with b | ⟨_, b⟩
                  · exact absurd (lt_of_get b) (by simp; omega)
                  · cases b; exact (hf.sepd r' hr').1 j m k1
              · have hlen : h.size = μ.length := hr.len.symm
                rw [hlen]
                simp only [VRel]
                refine ⟨_, cap, rfl, by simp, fun _ => ⟨some ⟨m.blk, m.base + o, m.size, m.esz⟩, by rw [List.getElem?_append_right (by simp)]; simp, fun m' hm' => by cases hm'; rfl⟩, (fun k hk => by cases hk), hroom, fun m' hm' => ?_⟩
                rw [List.getElem?_append_right (by simp)] at hm'
                simp at hm'; subst hm'
                simp only [k2, Nat.add_zero]
                exact hs
            · -- there is none
              have hk1 := hr.kill j
              have hfk : FRel E lo ν (μ.set j none) (sget s) a.tmps w := hf.keep (later_set μ j) (fun _ _ _ => rfl) (fun t cs' q m' _ hq hm' => absurd (lt_of_get hm') (by simp; omega)) fun _ _ => ⟨rfl, fun q m' hq hm' => absurd (lt_of_get hm') (by simp; omega)⟩
              obtain ⟨v', w', μ', ν', q0, q1, q2, q3, q4⟩ := grow (some ad) cap (h.put j .dead) (μ.set j none) hvx (by omega) (later_set μ j) hk1 hfk
              have hsz' : (h.put j .dead).size = h.size := by simp [Heap.put, Heap.size]
              rw [hsz'] at q4
              refine ⟨v', w', μ', ν', q0, q1, ?_, q3, q4⟩
              exact (Step.kill (X := fun k => lo ≤ k) (wm := j) μ w (Nat.le_refl _)).trans q2 (Nat.min_le_right _ _)
          · cases he
    · cases he

end
end Go.Abs
