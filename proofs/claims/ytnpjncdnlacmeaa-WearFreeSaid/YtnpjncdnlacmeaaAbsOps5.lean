/-
  Each operation but a call, all together.
-/
import Derived.Test.YtnpjncdnlacmeaaAbsExt
namespace Go.Abs

section
variable {E : Env} {lo : Nat} {ν : Fr} {μ : MM} {s : Slots} {h : Heap} {a : Act} {w : World}

theorem run_v {P : Program} {S : Sem Value} {v : Value} {w w' : World} (hS : S.run P w = .ok v w') : (do pure (Next.value (← S)) : Sem Next).run P w = .ok (.value v) w' := by
  simp [hS]

def plainEq : Value → Bool
  | .bool _ | .pointer _ | .slice _ _ _ | .map _ | .func _ _ _ | .nilFunc => true
  | _ => false

def kindIs (k : NilKind) (d : TypeDesc) : Prop :=
  match k with
  | .ptr => ∃ e, d = .pointer e
  | .slice => ∃ e, d = .slice e
  | .map => ∃ a b, d = .map a b
  | .func => ∃ a b c, d = .func a b c

theorem eqNil_rel {P : Program} {k : NilKind} {x y : AVal} {u v : Value} {d : TypeDesc} {t : TypeId} {b : Bool} (w : World) (hx : VRel E μ x u) (hy : VRel E μ y v) (ht : P.underlying t = some d)
    (hk : kindIs k d) (h : aEqNil k x y = some b) : plainEq u = true ∧ (Op.equal t u v).run P w = .ok b w := by
  suffices plainEq u = true ∧ ∀ n : Nat, (Op.equalIn (n + 1) t u v).run P w = .ok b w from ⟨this.1, this.2 9999⟩
  unfold aEqNil at h
  split at h <;> (try cases h)
  · obtain ⟨e, rfl⟩ := hk
    simp only [VRel] at hx; subst hx
    refine ⟨rfl, fun n => ?_⟩
    rename_i p
    cases p with
    | none => simp only [VRel] at hy; subst hy; simp [Op.equalIn, run_underlying ht]
    | some p => simp only [VRel] at hy; obtain ⟨_, rfl, _⟩ := hy; simp [Op.equalIn, run_underlying ht]
  · obtain ⟨e, rfl⟩ := hk
    simp only [VRel] at hx hy
    obtain ⟨_, rfl, _⟩ := hx; subst hy
    exact ⟨rfl, fun n => by simp [Op.equalIn, run_underlying ht]⟩
  · obtain ⟨e, rfl⟩ := hk
    simp only [VRel] at hx
    obtain ⟨_, _, rfl⟩ := hx
    refine ⟨rfl, fun n => ?_⟩
    rename_i p _ _ _ _
    cases p with
    | none => simp only [VRel] at hy; obtain ⟨_, _, rfl⟩ := hy; simp [Op.equalIn, run_underlying ht]
    | some p => simp only [VRel] at hy; obtain ⟨_, _, rfl, _⟩ := hy; simp [Op.equalIn, run_underlying ht]
  · obtain ⟨e, rfl⟩ := hk
    simp only [VRel] at hx hy
    obtain ⟨_, _, rfl, _⟩ := hx; obtain ⟨_, _, rfl⟩ := hy
    exact ⟨rfl, fun n => by simp [Op.equalIn, run_underlying ht]⟩
  · obtain ⟨e, e', rfl⟩ := hk
    simp only [VRel] at hx; subst hx
    refine ⟨rfl, fun n => ?_⟩
    rename_i p
    cases p with
    | none => simp only [VRel] at hy; subst hy; simp [Op.equalIn, run_underlying ht]
    | some p => simp only [VRel] at hy; obtain ⟨_, _, rfl, _⟩ := hy; simp [Op.equalIn, run_underlying ht]
  · obtain ⟨e, e', rfl⟩ := hk
    simp only [VRel] at hx hy
    obtain ⟨_, _, rfl, _⟩ := hx; subst hy
    exact ⟨rfl, fun n => by simp [Op.equalIn, run_underlying ht]⟩
  · obtain ⟨e, e', e'', rfl⟩ := hk
    simp only [VRel] at hx hy; subst hx; subst hy
    exact ⟨rfl, fun n => by simp [Op.equalIn, run_underlying ht]⟩
  · obtain ⟨e, e', e'', rfl⟩ := hk
    simp only [VRel] at hx hy; subst hx
    obtain ⟨_, _, _, rfl, _⟩ := hy
    exact ⟨rfl, fun n => by simp [Op.equalIn, run_underlying ht]⟩
  · obtain ⟨e, e', e'', rfl⟩ := hk
    simp only [VRel] at hx hy; subst hy
    obtain ⟨_, _, _, rfl, _⟩ := hx
    exact ⟨rfl, fun n => by simp [Op.equalIn, run_underlying ht]⟩

theorem run_eq {P : Program} {neg : Bool} {t : TypeId} {u v : Value} {b : Bool} (hu : plainEq u = true) (x y : Operand) (he : (Op.equal t u v).run P w = .ok b w) :
    (do eqGuard (if neg then .neq else .eql) t x y u v; binOp (if neg then .neq else .eql) t u v : Sem Value).run P w = .ok (.bool (if neg then !b else b)) w := by
  have hg : (eqGuard (if neg then .neq else .eql) t x y u v).run P w = .ok () w := run_eqGuard _ t x y u v w (fun c e => by subst e; cases hu) (fun e => by subst e; cases hu)
  rw [Sem.run_bind, hg, Result.andThen_ok]
  have key : ∀ op, (op = .eql → (binOp op t u v).run P w = .ok (.bool b) w) ∧ (op = .neq → (binOp op t u v).run P w = .ok (.bool !b) w) := by
    intro op
    constructor <;> (rintro rfl; unfold binOp; cases u <;> (try cases hu) <;> cases v <;> simp [he])
  cases neg
  · exact (key .eql).1 rfl
  · exact (key .neq).2 rfl

theorem beq_rel {P : Program} {t : TypeId} {a b : Bool} (ht : P.underlying t = some .bool) (w : World) : (Op.equal t (.bool a) (.bool b)).run P w = .ok (a == b) w := by
  suffices ∀ n : Nat, (Op.equalIn (n + 1) t (.bool a) (.bool b)).run P w = .ok (a == b) w from this 9999
  intro n
  simp [Op.equalIn, run_underlying ht]

theorem run_make_rowN' {P : Program} (t e : TypeId) (i : TypeInfo) (z : Value) (ht : P.underlying t = some (.slice e)) (hi : P.info? e = some i) (hz : i.zero = some z)
    (n c : Nat) (hnc : n ≤ c) (hbytes : (i.bytes : Int) * (c : Int) ≤ 281474976710656) (h63 : c ≤ 9223372036854775807) (w : World) :
    (Instr.makeSlice t (.int .i64 (n : Int)) (.int .i64 (c : Int))).run P w =
      .ok (.slice (some ⟨w.heap.size, 0, none⟩) n c) { w with heap := w.heap.push (.cells ((Array.range (c * i.size)).map fun j => z.cells[j % z.cells.size]!) e (0, 0)) } := by
  have hw : ∀ k : Nat, k ≤ 9223372036854775807 → IntKind.i64.wrap (k : Int) = k := by
    intro k hk
    simp only [IntKind.wrap, IntKind.bits, IntKind.signed]
    simp
    omega
  have h1 : ¬ (281474976710656 < (i.bytes : Int) * (c : Int)) := by omega
  have h2 : ¬ ((c : Int) < 0) := by omega
  have h3 : ¬ ((n : Int) < 0) := by omega
  have h4 : ¬ (c < n) := by omega
  by_cases h0 : c * i.size = 0
  · simp [Instr.makeSlice, run_underlying ht, typeInfo, hi, asInt, asIntOf, hw c h63, hw n (by omega), h1, h2, h3, h4, sizeOf, h0, newRow, show Array.range 0 = #[] from rfl]
  · simp [Instr.makeSlice, run_underlying ht, typeInfo, hi, asInt, asIntOf, hw c h63, hw n (by omega), h1, h2, h3, h4, sizeOf, h0, newRow, zeroValue, hz]

theorem isVar_some {s : Slots} {t : Nat} (h : isVar s t = true) : ∃ cs, sget s t = some (.var cs) := by
  unfold isVar at h
  split at h
  · rename_i cs h1; exact ⟨cs, h1⟩
  · cases h

theorem evs2 {x y : Opd} {vs : List AVal} (h : evs s [x, y] = some vs) : ∃ u v, vs = [u, v] ∧ x.ev s = some u ∧ y.ev s = some v := by
  cases hx : x.ev s with
  | none => simp [evs, hx] at h
  | some u =>
    cases hy : y.ev s with
    | none => simp [evs, hy] at h
    | some v => simp [evs, hx, hy] at h; exact ⟨u, v, h.symm, rfl, rfl⟩

theorem evs3 {x y z : Opd} {vs : List AVal} (h : evs s [x, y, z] = some vs) : ∃ u v p, vs = [u, v, p] ∧ x.ev s = some u ∧ y.ev s = some v ∧ z.ev s = some p := by
  cases hx : x.ev s with
  | none => simp [evs, hx] at h
  | some u =>
    cases hy : y.ev s with
    | none => simp [evs, hy] at h
    | some v =>
      cases hz : z.ev s with
      | none => simp [evs, hz] at h
      | some p => simp [evs, hx, hy, hz] at h; exact ⟨u, v, p, h.symm, rfl, rfl, rfl⟩

theorem aggs_rel {neg : Bool} {t : TypeId} {ks : List CK} {x y : AVal} {u v : Value} {d : TypeDesc} {r : AVal} {h' : Heap} (hd : E.P.underlying t = some d) (hda : (∃ fs, d = .struct fs) ∨ ∃ n e, d = .array n e) (hg : E.P.eqGuardType E.P.depth t = false) (hck : ckOf E.P 20 t = some ks)
    (hx : VRel E μ x u) (hy : VRel E μ y v) (he : evExt (.pure (.eqcells neg ks)) [x, y] h = some (r, h')) (p q : Operand) :
    h' = h ∧ ∃ b, r = .bool b ∧ (do eqGuard (if neg then .neq else .eql) t p q u v; binOp (if neg then .neq else .eql) t u v : Sem Value).run E.P w = .ok (.bool b) w := by
  simp only [evExt, evPure] at he
  rw [Option.map_eq_some_iff] at he
  obtain ⟨r', he, hr'⟩ := he
  cases hr'
  cases x <;> simp only [evEq, reduceCtorEq] at he
  cases y <;> simp only [reduceCtorEq] at he
  rename_i A B
  split at he
  case isFalse => cases he
  rename_i hh
  obtain ⟨hk, hlen⟩ := hh
  rw [Option.map_eq_some_iff] at he
  obtain ⟨b, hb, he⟩ := he
  cases he
  have hp : ∃ m, partT E.P t = some (some m) := by
    obtain ⟨i, hi⟩ := info_of_underlying hd
    refine ⟨i.size, ?_⟩
    rcases hda with ⟨fs, rfl⟩ | ⟨n, e, rfl⟩ <;> simp [partT, hd, sizeT, hi]
  obtain ⟨m, hm⟩ := hp
  have heq := eq_ck 20 t ks hck 9980 μ w (some m) _ _ u v _ _ b hm ⟨_, rfl⟩ ⟨_, rfl⟩ hx hy rfl rfl hlen hk hb
  simp only [VRel] at hx hy
  obtain ⟨xs, rfl, _⟩ := hx
  obtain ⟨ys, rfl, _⟩ := hy
  refine ⟨rfl, _, rfl, ?_⟩
  rw [Sem.run_bind, run_eqGuard_agg w _ t p q xs ys hg, Result.andThen_ok]
  cases neg
  · simp only [Bool.false_eq_true, if_false]
    rw [run_eql_struct w t xs ys, heq]; rfl
  · simp only [if_true]
    rw [run_neq_struct w t xs ys, heq]; rfl

theorem op_sound {call : CallSem} {loc : Bool} {o : Oper} {ao : AOp} {x : Slot} {s' : Slots} {h' : Heap} (hop : cOp E loc o.op = some ao) (hc1 : ∀ f as, ao ≠ .call f as) (hc2 : ∀ g as, ao ≠ .callg g as)
    (hev : evOp call (o.dst.getD 0) ao s h = some (x, s', h')) (hf : FRel E lo ν μ (sget s) a.tmps w) (hr : Rel E μ h w) (hlo : lo ≤ w.heap.size) (hd : ∀ t, o.dst = some t → t < a.tmps.size) (hloc : loc = true → o.dst.isSome = true) :
    OpDone E lo ν.ds μ w a o.dst ((execOp a.eval o).run E.P w) x s' h' := by
  cases ho : o.op with
  | move y =>
    rw [ho] at hop
    simp only [cOp] at hop
    rw [Option.map_eq_some_iff] at hop
    obtain ⟨y', hy, rfl⟩ := hop
    obtain ⟨u, hu, rfl, rfl, rfl⟩ := ok1_some (by simpa only [evOp] using hev)
    exact done_val hf hr hd (by simp [execOp, ho]) (opd_rel hf hy hu)
  | assign y =>
    rw [ho] at hop
    simp only [cOp] at hop
    rw [Option.map_eq_some_iff] at hop
    obtain ⟨y', hy, rfl⟩ := hop
    obtain ⟨u, hu, rfl, rfl, rfl⟩ := ok1_some (by simpa only [evOp] using hev)
    exact done_val hf hr hd (by simp [execOp, ho]) (opd_rel hf hy hu)
  | pick c y z =>
    rw [ho] at hop
    simp only [cOp] at hop
    split at hop
    case h_2 => cases hop
    rename_i c' y' z' hc hy hz
    cases hop
    simp only [evOp] at hev
    split at hev
    · rename_i hcv
      obtain ⟨u, hu, rfl, rfl, rfl⟩ := ok1_some hev
      have h1 := opd_rel hf hc hcv
      simp only [VRel] at h1
      exact done_val hf hr hd (by simp [execOp, ho, h1, asBool]) (opd_rel hf hy hu)
    · rename_i hcv
      obtain ⟨u, hu, rfl, rfl, rfl⟩ := ok1_some hev
      have h1 := opd_rel hf hc hcv
      simp only [VRel] at h1
      exact done_val hf hr hd (by simp [execOp, ho, h1, asBool]) (opd_rel hf hz hu)
    · cases hev
  | alloc t =>
    rw [ho] at hop
    simp only [cOp] at hop
    split at hop
    case h_2 => cases hop
    rename_i z e hz he
    obtain ⟨v, k1, k2, k3⟩ := run_zero (E := E) hz μ w
    have hrun : (execOp a.eval o).run E.P w = .ok (.value (.pointer (some ⟨w.heap.size, 0, none⟩))) { w with heap := w.heap.push (.cells v.cells t (0, 0)) } := by
      simp [execOp, ho, Instr.alloc, k1, newVar, newRow]
    cases loc with
    | true =>
      cases hop
      simp only [evOp] at hev; cases hev
      obtain ⟨d, hd'⟩ := Option.isSome_iff_exists.1 (hloc rfl)
      rw [hd']
      exact done_var hf hr hlo (hd d hd') t k2 k3 hrun
    | false =>
      cases hop
      simp only [evOp] at hev; cases hev
      have hlen : h.size = μ.length := hr.len.symm
      rw [hlen]
      exact done_new hf hr hd _ _ ⟨w.heap.size, 0, v.cells.size, e⟩ rfl hrun rfl rfl rfl rfl (new_cells k2 k3 rfl) (ptr_new rfl)
  | box t y =>
    rw [ho] at hop
    simp only [cOp] at hop
    rw [Option.map_eq_some_iff] at hop
    obtain ⟨y', hy, hop⟩ := hop
    have hrun : (execOp a.eval o).run E.P w = .ok (.value (.pointer (some ⟨w.heap.size, 0, none⟩))) { w with heap := w.heap.push (.cells (a.eval y).cells t (0, 0)) } := by
      simp [execOp, ho, Instr.box, newVar, newRow]
    cases loc with
    | true =>
      simp only [if_true] at hop
      subst hop
      simp only [evOp] at hev
      split at hev
      case h_2 => cases hev
      rename_i cs hcs
      cases hev
      rw [Option.bind_eq_some_iff] at hcs
      obtain ⟨u, hu, hcs⟩ := hcs
      obtain ⟨k2, k3⟩ := cells_rel (opd_rel hf hy hu) hcs
      obtain ⟨d, hd'⟩ := Option.isSome_iff_exists.1 (hloc rfl)
      rw [hd']
      exact done_var hf hr hlo (hd d hd') t k2 k3 hrun
    | false =>
      simp only [Bool.false_eq_true, if_false] at hop
      subst hop
      simp only [evOp] at hev
      split at hev
      case h_2 => cases hev
      rename_i cs hcs
      cases hev
      rw [Option.bind_eq_some_iff] at hcs
      obtain ⟨u, hu, hcs⟩ := hcs
      obtain ⟨k2, k3⟩ := cells_rel (opd_rel hf hy hu) hcs
      have hlen : h.size = μ.length := hr.len.symm
      rw [hlen]
      exact done_new hf hr hd _ _ ⟨w.heap.size, 0, (a.eval y).cells.size, cs.length⟩ rfl hrun rfl rfl rfl rfl (new_cells k2 k3 rfl) (ptr_new rfl)
  | build t ps =>
    rw [ho] at hop
    simp only [cOp] at hop
    split at hop
    case h_3 => cases hop
    · rename_i fs z hu hz
      obtain ⟨v, k1, k2, k3⟩ := run_zero (E := E) hz μ w
      split at hop
      case h_2 => cases hop
      rename_i pl hpl
      rw [Option.map_eq_some_iff] at hop
      obtain ⟨qs, hq, rfl⟩ := hop
      obtain ⟨u, hu', rfl, rfl, rfl⟩ := ok1_some (by simpa only [evOp] using hev)
      rw [Option.map_eq_some_iff] at hu'
      obtain ⟨cs, hcs, rfl⟩ := hu'
      obtain ⟨c', j1, j2, j3, _⟩ := fill_rel hf hq hcs k2 k3
      refine done_val hf hr hd (v := .agg c') ?_ (by simp only [VRel]; exact ⟨_, rfl, j2, j3⟩)
      simp [execOp, ho, Instr.build, k1, run_underlying hu, Array.mapM_eq_mapM_toList, places_rel w hpl]
      rw [j1]; rfl
    · rename_i n e z hu hz
      obtain ⟨v, k1, k2, k3⟩ := run_zero (E := E) hz μ w
      split at hop
      case h_2 => cases hop
      rename_i n hn
      rw [Option.map_eq_some_iff] at hop
      obtain ⟨qs, hq, rfl⟩ := hop
      obtain ⟨u, hu', rfl, rfl, rfl⟩ := ok1_some (by simpa only [evOp] using hev)
      rw [Option.map_eq_some_iff] at hu'
      obtain ⟨cs, hcs, rfl⟩ := hu'
      obtain ⟨c', j1, j2, j3, _⟩ := fill_rel hf hq hcs k2 k3
      refine done_val hf hr hd (v := .agg c') ?_ (by simp only [VRel]; exact ⟨_, rfl, j2, j3⟩)
      simp [execOp, ho, Instr.build, k1, run_underlying hu, run_sizeOf hn]
      rw [j1]; rfl
  | buildSlice t len ps =>
    rw [ho] at hop
    simp only [cOp] at hop
    split at hop
    case h_2 => cases hop
    rename_i e hu
    split at hop
    case h_2 => cases hop
    rename_i n z hn hz
    split at hop
    case isFalse => cases hop
    rename_i hh
    obtain ⟨hl, hzl, h0⟩ := hh
    rw [Option.map_eq_some_iff] at hop
    obtain ⟨qs, hq, rfl⟩ := hop
    obtain ⟨v, k1, k2, k3⟩ := run_zero (E := E) hz μ w
    simp only [evOp] at hev
    split at hev
    case h_2 => cases hev
    rename_i cs hcs
    cases hev
    obtain ⟨r1, r2⟩ := rep_rel (n := len) k2 k3 hzl h0
    have hlen : h.size = μ.length := hr.len.symm
    rw [hlen]
    by_cases hz0 : len * n = 0
    · -- no elements
      have hl0 : len = 0 := by
        rcases Nat.mul_eq_zero.1 hz0 with h1 | h1
        · exact h1
        · omega
      subst hl0
      obtain ⟨c', j1, j2, j3, j4⟩ := fill_rel (c := #[]) hf hq hcs (by simp [rep, VRels]) (by simp [rep])
      have hc'l := j2.length
      refine done_new hf hr hd (.cells n cs) (.cells c' e (0, 0)) ⟨w.heap.size, 0, c'.size, n⟩ rfl (w1 := { w with heap := w.heap.push (.cells c' e (0, 0)) }) ?_ rfl rfl rfl rfl (new_cells j2 j3 rfl) (slice_new rfl (Nat.le_refl _) (fun k hk => by cases hk; rfl) (by simp))
      simp [execOp, ho, Instr.buildSlice, run_underlying hu, run_sizeOf hn, show Array.range 0 = #[] from rfl]
      rw [j1]
      simp [newRow]
    · obtain ⟨c', j1, j2, j3, j4⟩ := fill_rel hf hq hcs r1 r2
      refine done_new hf hr hd (.cells n cs) (.cells c' e (0, 0)) ⟨w.heap.size, 0, c'.size, n⟩ rfl (w1 := { w with heap := w.heap.push (.cells c' e (0, 0)) }) ?_ rfl rfl rfl rfl (new_cells j2 j3 rfl) (slice_new rfl (Nat.le_refl _) (fun k hk => by cases hk; rfl) (by rw [j4]; simp))
      have hnl : ¬ (16777216 < len * n) := by omega
      simp [execOp, ho, Instr.buildSlice, run_underlying hu, run_sizeOf hn, hnl, hz0, k1]
      rw [j1]
      simp [newRow]
  | load t y =>
    rw [ho] at hop
    simp only [cOp] at hop
    split at hop
    case h_2 => cases hop
    rename_i n y' hn hy
    cases hop
    simp only [evOp] at hev
    split at hev
    case h_2 => cases hev
    rename_i ad had
    obtain ⟨u, hu, rfl, rfl, rfl⟩ := ok1_some hev
    unfold loadAt at hu
    split at hu
    case h_2 => cases hu
    rename_i cs o' hcs
    obtain ⟨b, p, c, e, fr, k1, k2, k3, k4⟩ := cellsAt_rel hf hr hy had hcs
    obtain ⟨v, k5, k6⟩ := load_rel (P := E.P) hn k2 k3 k4 hu
    exact done_val hf hr hd (by simp [execOp, ho, Instr.loadAt, Instr.sureAddr, k1, k5]) k6
  | store t y z =>
    rw [ho] at hop
    simp only [cOp] at hop
    split at hop
    case h_2 => cases hop
    rename_i n y' z' hn hy hz
    cases hop
    simp only [evOp] at hev
    split at hev
    case h_2 => cases hev
    rename_i ad xs had hxs
    split at hev
    case isFalse => cases hev
    rename_i hl
    rw [Option.map_eq_some_iff] at hev
    obtain ⟨⟨s1, h1⟩, hst, hev⟩ := hev
    cases hev
    rw [Option.bind_eq_some_iff] at hxs
    obtain ⟨u, hu, hxs⟩ := hxs
    obtain ⟨k2, k3⟩ := cells_rel (opd_rel hf hz hu) hxs
    have hsz : (a.eval z).cells.size = n := by have := k2.length; simp at this; omega
    refine done_store hf hr hd hy had k2 k3 hst fun adr hadr => ?_
    simp [execOp, ho, Instr.storeAt, Instr.sureAddr, hadr, storeVar, run_sizeOf hn, hsz]
  | nilCheck y =>
    rw [ho] at hop
    simp only [cOp] at hop
    rw [Option.map_eq_some_iff] at hop
    obtain ⟨y', hy, rfl⟩ := hop
    simp only [evOp] at hev
    split at hev
    · rename_i p hp
      obtain ⟨u, hu, rfl, rfl, rfl⟩ := ok1_some hev
      cases hu
      have hv := opd_rel hf hy hp
      have hv' := hv
      obtain ⟨i, o'⟩ := p
      simp only [VRel] at hv'
      obtain ⟨ad, e1, _⟩ := hv'
      rw [e1] at hv
      exact done_val hf hr hd (by simp [execOp, ho, e1]) hv
    · split at hev
      · rename_i t o' had
        split at hev
        · rename_i hv
          cases hev
          obtain ⟨cs, hv⟩ := isVar_some hv
          have e1 := adr_loc hf hy had hv
          exact done_loc hf hr hd (by simp [execOp, ho, e1])
        · cases hev
      · cases hev
  | binOp op t y z yt =>
    rw [ho] at hop
    simp only [cOp, cBin] at hop
    split at hop
    case h_2 => cases hop
    rename_i y' z' hy hz
    have hx : (execOp a.eval o) = (do pure (Next.value (← (do eqGuard op t y z (a.eval y) (a.eval z); binOp op t (a.eval y) (a.eval z) : Sem Value))) : Sem Next) := by simp [execOp, ho]
    have plain : ∀ {r : AVal}, ao = .bin op y' z' → OpDone E lo ν.ds μ w a o.dst ((execOp a.eval o).run E.P w) x s' h' := by
      intro r hao
      subst hao
      simp only [evOp] at hev
      split at hev
      case h_2 => cases hev
      rename_i u1 u2 hu1 hu2
      obtain ⟨u, hu, rfl, rfl, rfl⟩ := ok1_some hev
      have r1 := opd_rel hf hy hu1
      have r2 := opd_rel hf hz hu2
      cases u1 <;> (try (simp only [aBin] at hu; cases hu))
      case int k n =>
        cases u2 <;> (try (simp only [aBin] at hu; cases hu))
        case int k' n' =>
          simp only [VRel] at r1 r2
          obtain ⟨v, j1, j2⟩ := run_bin_int (E := E) (μ := μ) (P := E.P) (t := t) w hu
          refine done_val hf hr hd (v := v) ?_ j2
          rw [hx]
          apply run_v
          rw [r1, r2, Sem.run_bind, run_eqGuard op t y z _ _ w (fun c => by simp) (by simp), Result.andThen_ok]
          exact j1
      case str t1 =>
        cases u2 <;> (try (simp only [aBin] at hu; cases hu))
        case str t2 =>
          simp only [VRel] at r1 r2
          obtain ⟨v, j1, j2⟩ := run_bin_str (E := E) (μ := μ) (P := E.P) (t := t) w hu
          refine done_val hf hr hd (v := v) ?_ j2
          rw [hx]
          apply run_v
          rw [r1, r2, Sem.run_bind, run_eqGuard op t y z _ _ w (fun c => by simp) (by simp), Result.andThen_ok]
          exact j1
    have eqs : ∀ (d : TypeDesc) (neg : Bool), E.P.underlying t = some d → cEq d neg y' z' = some ao → op = (if neg then .neq else .eql) → OpDone E lo ν.ds μ w a o.dst ((execOp a.eval o).run E.P w) x s' h' := by
      intro d neg hu hao hop'
      subst hop'
      have nilcase : ∀ k, kindIs k d → ao = .eqnil k neg y' z' → OpDone E lo ν.ds μ w a o.dst ((execOp a.eval o).run E.P w) x s' h' := by
        intro k hk hao
        subst hao
        simp only [evOp] at hev
        split at hev
        case h_2 => cases hev
        rename_i u1 u2 hu1 hu2
        obtain ⟨u, hu', rfl, rfl, rfl⟩ := ok1_some hev
        rw [Option.map_eq_some_iff] at hu'
        obtain ⟨b, hb, rfl⟩ := hu'
        obtain ⟨j1, j2⟩ := eqNil_rel (P := E.P) w (opd_rel hf hy hu1) (opd_rel hf hz hu2) hu hk hb
        refine done_val hf hr hd (v := .bool (if neg then !b else b)) ?_ (by simp only [VRel])
        rw [hx]
        exact run_v (run_eq j1 y z j2)
      cases d <;> simp only [cEq] at hao <;> (try cases hao)
      · -- two bools
        simp only [evOp] at hev
        split at hev
        case h_2 => cases hev
        rename_i b1 b2 hu1 hu2
        obtain ⟨u, hu', rfl, rfl, rfl⟩ := ok1_some hev
        cases hu'
        have r1 := opd_rel hf hy hu1
        have r2 := opd_rel hf hz hu2
        simp only [VRel] at r1 r2
        refine done_val hf hr hd (v := .bool (if neg then !(b1 == b2) else (b1 == b2))) ?_ (by simp only [VRel, beq_decide])
        rw [hx, r1, r2]
        exact run_v (run_eq rfl y z (beq_rel hu w))
      · exact nilcase .ptr ⟨_, rfl⟩ rfl
      · exact nilcase .slice ⟨_, rfl⟩ rfl
      · exact nilcase .map ⟨_, _, rfl⟩ rfl
      · exact nilcase .func ⟨_, _, _, rfl⟩ rfl
    have aggs : ∀ (d : TypeDesc), E.P.underlying t = some d → ((∃ fs, d = .struct fs) ∨ ∃ n e, d = .array n e) →
        (if E.P.eqGuardType E.P.depth t then none else
          match op, ckOf E.P 20 t with
          | .eql, some ks => some (.ext (.pure (.eqcells false ks)) [y', z'])
          | .neq, some ks => some (.ext (.pure (.eqcells true ks)) [y', z'])
          | _, _ => none) = some ao → OpDone E lo ν.ds μ w a o.dst ((execOp a.eval o).run E.P w) x s' h' := by
      intro d hu hda hop2
      split at hop2
      · cases hop2
      rename_i hg
      have hg : E.P.eqGuardType E.P.depth t = false := by simpa using hg
      have fin : ∀ (neg : Bool) (ks : List CK), ckOf E.P 20 t = some ks → op = (if neg then .neq else .eql) → ao = .ext (.pure (.eqcells neg ks)) [y', z'] → OpDone E lo ν.ds μ w a o.dst ((execOp a.eval o).run E.P w) x s' h' := by
        intro neg ks hks hopn hao
        subst hopn; subst hao
        simp only [evOp] at hev
        split at hev
        case h_2 => cases hev
        rename_i vs hvs
        rw [Option.map_eq_some_iff] at hev
        obtain ⟨⟨v, h1⟩, hap, hev⟩ := hev
        cases hev
        obtain ⟨u1, u2, rfl, hu1, hu2⟩ := evs2 hvs
        obtain ⟨rfl, b, rfl, hrun⟩ := aggs_rel hu hda hg hks (opd_rel hf hy hu1) (opd_rel hf hz hu2) hap y z (w := w)
        refine done_val hf hr hd (v := .bool b) ?_ (by simp only [VRel])
        rw [hx]
        exact run_v hrun
      split at hop2
      · rename_i hks; cases hop2; exact fin false _ hks rfl rfl
      · rename_i hks; cases hop2; exact fin true _ hks rfl rfl
      · cases hop2
    split at hop
    · cases hop; exact plain (r := .nilFunc) rfl
    · cases hop; exact plain (r := .nilFunc) rfl
    · rename_i fs hu
      exact aggs _ hu (.inl ⟨_, rfl⟩) hop
    · rename_i n e hu
      exact aggs _ hu (.inr ⟨_, _, rfl⟩) hop
    · rename_i d _ _ _ _ hu
      split at hop
      · exact eqs d false hu hop rfl
      · exact eqs d true hu hop rfl
      · cases hop
    · cases hop
  | unOp op t y =>
    rw [ho] at hop
    simp only [cOp] at hop
    rw [Option.map_eq_some_iff] at hop
    obtain ⟨y', hy, rfl⟩ := hop
    simp only [evOp] at hev
    split at hev
    case h_2 => cases hev
    rename_i u1 hu1
    obtain ⟨u, hu, rfl, rfl, rfl⟩ := ok1_some hev
    obtain ⟨v, j1, j2⟩ := un_rel (P := E.P) w (opd_rel hf hy hu1) hu
    refine done_val hf hr hd (v := v) ?_ j2
    rw [show execOp a.eval o = (do pure (Next.value (← Op.unary op (a.eval y))) : Sem Next) by simp [execOp, ho]]
    exact run_v j1
  | convert src dst y =>
    rw [ho] at hop
    simp only [cOp, cConv] at hop
    have hx : (execOp a.eval o) = (do pure (Next.value (← convert src dst (a.eval y))) : Sem Next) := by simp [execOp, ho]
    split at hop
    · rename_i y' k0 k hy hs hdt
      cases hop
      simp only [evOp] at hev
      split at hev
      case h_2 => cases hev
      rename_i v hv
      simp only [evConv] at hev
      split at hev
      case h_2 => cases hev
      rename_i k' n
      obtain ⟨u, hu, rfl, rfl, rfl⟩ := ok1_some hev
      cases hu
      have r1 := opd_rel hf hy hv
      simp only [VRel] at r1
      refine done_val hf hr hd (v := .int k (k.wrap n)) ?_ (by simp only [VRel])
      rw [hx, r1]
      exact run_v (by simp [convert, run_underlying hs, run_underlying hdt, Conv.intToInt])
    · rename_i y' hy hs hdt
      cases hop
      simp only [evOp] at hev
      split at hev
      case h_2 => cases hev
      rename_i v hv
      simp only [evConv] at hev
      split at hev
      case h_2 => cases hev
      rename_i t
      obtain ⟨u, hu, rfl, rfl, rfl⟩ := ok1_some hev
      cases hu
      have r1 := opd_rel hf hy hv
      simp only [VRel] at r1
      refine done_val hf hr hd (v := .string ⟨t.toArray⟩) ?_ (by simp only [VRel])
      rw [hx, r1]
      exact run_v (by simp [convert, run_underlying hs, run_underlying hdt])
    · rename_i y' e hy hs hdt
      split at hop
      case isFalse => cases hop
      rename_i hb
      cases hop
      have he : E.P.underlying e = some (.int .u8) := by
        unfold isByte at hb
        split at hb
        · assumption
        · cases hb
      simp only [evOp] at hev
      split at hev
      case h_2 => cases hev
      rename_i v hv
      simp only [evConv] at hev
      split at hev
      case h_2 => cases hev
      rename_i t
      cases hev
      have r1 := opd_rel hf hy hv
      simp only [VRel] at r1
      have hrun := run_bytes_of_string (P := E.P) w src dst e ⟨t.toArray⟩ hs hdt he
      rw [mk_size] at hrun
      have hg := le_grown w t.length 0 e
      generalize hC : bytesRow ⟨t.toArray⟩ (grownCap w t.length 0 e) = C at hrun
      have hCs : C.size = grownCap w t.length 0 e := by
        rw [← hC]; simp [bytesRow, mk_size]; omega
      have hlen : h.size = μ.length := hr.len.symm
      rw [hlen]
      refine done_new hf hr hd _ (.cells C e (C.size, C.size + 1)) ⟨w.heap.size, 0, C.size, 1⟩ rfl (w1 := w.drew.alloc (.cells C e (C.size, C.size + 1))) (by rw [hx, r1]; exact run_v hrun) rfl rfl rfl rfl ?_ (slice_new rfl hg (fun k hk => by cases hk) (by simp [hCs]))
      refine ⟨⟨w.heap.size, 0, C.size, 1⟩, C, e, (C.size, C.size + 1), by simp, rfl, by simp, rfl, by simp [hCs]; exact hg, fun k v' hk => ?_, fun _ off ho' => by simp only at ho'; omega⟩
      simp only [List.getElem?_map, Option.map_eq_some_iff] at hk
      obtain ⟨b, hb', rfl⟩ := hk
      refine ⟨rfl, .int .u8 b.toNat, ?_, by simp only [VRel]⟩
      have hkl := lt_of_get hb'
      rw [← hC]
      simp only [bytesRow, Nat.zero_add]
      rw [Array.getElem?_append_left (by simpa using hkl)]
      simp [hb']
    · rename_i y' e hy hs hdt
      split at hop
      case isFalse => cases hop
      rename_i hb
      cases hop
      have he : E.P.underlying e = some (.int .u8) := by
        unfold isByte at hb
        split at hb
        · assumption
        · cases hb
      simp only [evOp] at hev
      split at hev
      case h_2 => cases hev
      rename_i v hv
      simp only [evConv] at hev
      split at hev
      case h_2 => cases hev
      rename_i ad n c
      split at hev
      case h_2 => cases hev
      rename_i t ht
      obtain ⟨u, hu, rfl, rfl, rfl⟩ := ok1_some hev
      cases hu
      rw [Option.bind_eq_some_iff] at ht
      obtain ⟨cs, hcs, ht⟩ := ht
      have r1 := opd_rel hf hy hv
      obtain ⟨l, n1, o1, o2, o3, o4, o5, o6⟩ := rowOf_rel hr r1 hcs
      obtain ⟨ns, e2, e3⟩ := bytesOf_rel ht o1
      simp only [alen] at o5
      subst o5
      refine done_val hf hr hd (v := .string ⟨t.toArray⟩) ?_ (by simp only [VRel])
      rw [hx]
      apply run_v
      cases ad with
      | none =>
        simp only [VRel] at r1
        obtain ⟨r2, _, r3⟩ := r1
        subst r2
        have hl0 : l = [] := List.eq_nil_of_length_eq_zero (by simpa using o4)
        rw [hl0] at e2
        have hns : ns = [] := by simpa using e2.symm
        rw [r3, run_convert_bytes_nil (P := E.P) w src e hs he 0 0 dst hdt, e3, hns]
        rfl
      | some io =>
        simp only [VRel] at r1
        obtain ⟨adr, cap, r2, _⟩ := r1
        have hl := o6 E.P w rfl
        rw [r2] at hl
        simp only [Builtin.firstCells, Nat.mul_one] at hl
        rw [e2] at hl
        rw [r2, run_convert_bytes_string w src dst e (some adr) n1 cap hs he hdt, run_bytesToString w adr n1 cap ns hl, foldl_push, e3]
        rfl
    · cases hop
  | makeFunc fn fs cs =>
    rw [ho] at hop
    cases fn with
    | func f =>
      simp only [cOp] at hop
      split at hop
      case h_2 => cases hop
      rename_i g f' c' hg hff hcc
      cases hop
      simp only [evOp] at hev
      split at hev
      case h_2 => cases hev
      rename_i fv cv hfv hcv
      obtain ⟨u, hu, rfl, rfl, rfl⟩ := ok1_some hev
      cases hu
      refine done_val hf hr hd (v := .func (.func f) (fs.map a.eval) (cs.map a.eval)) (by simp [execOp, ho, Instr.makeFunc]) ?_
      simp only [VRel]
      exact ⟨f, _, _, rfl, hg, by simpa using opds_rel hf hff hfv, by simpa using opds_rel hf hcc hcv⟩
    | _ => simp [cOp] at hop
  | makeSlice t l c =>
    rw [ho] at hop
    simp only [cOp] at hop
    split at hop
    case h_2 => cases hop
    rename_i e hu
    split at hop
    case h_2 => cases hop
    rename_i i z l' c' hi hz hl hc
    split at hop
    case isFalse => cases hop
    rename_i hh
    obtain ⟨hzl, h0⟩ := hh
    cases hop
    simp only [evOp] at hev
    split at hev
    case h_2 => cases hev
    rename_i kl n kc m hlv hcv
    split at hev
    case isFalse => cases hev
    rename_i hb
    obtain ⟨b1, b2, b3, b4, rfl, rfl⟩ := hb
    cases hev
    have r1 := opd_rel hf hl hlv
    have r2 := opd_rel hf hc hcv
    simp only [VRel] at r1 r2
    obtain ⟨i', v, hi', hv, hzt⟩ := info_zero hz
    rw [hi] at hi'; cases hi'
    obtain ⟨k2, k3⟩ := toAs_rel (E := E) hzt μ
    obtain ⟨j1, j2⟩ := rep_rel (n := m.toNat) k2 k3 hzl h0
    have hlen : h.size = μ.length := hr.len.symm
    rw [hlen]
    obtain ⟨n0, rfl⟩ := Int.eq_ofNat_of_zero_le b1
    obtain ⟨m0, rfl⟩ := Int.eq_ofNat_of_zero_le (show 0 ≤ m by omega)
    simp only [Int.toNat_natCast] at j1 j2 ⊢
    have hbb : i.bytes * (m0 : Int) ≤ 281474976710656 := by
      rw [Int.mul_comm]; omega
    have hmk := run_make_rowN' (P := E.P) t e i v hu hi hv n0 m0 (by omega) hbb (by omega) w
    generalize hC : ((Array.range (m0 * i.size)).map fun j => v.cells[j % v.cells.size]!) = C at j1 hmk
    have hCs : C.size = m0 * i.size := by rw [← hC]; simp
    refine done_new hf hr hd _ (.cells C e (0, 0)) ⟨w.heap.size, 0, C.size, i.size⟩ rfl (w1 := { w with heap := w.heap.push (.cells C e (0, 0)) }) ?_ rfl rfl rfl rfl (new_cells j1 j2 rfl) (slice_new (n := n0) (cap := m0) rfl (by omega) (fun k hk => by cases hk; rfl) (by simp [hCs]))
    rw [show execOp a.eval o = (do pure (Next.value (← Instr.makeSlice t (a.eval l) (a.eval c))) : Sem Next) by simp [execOp, ho], r1, r2]
    exact run_v hmk
  | slice t y l1 l2 l3 =>
    rw [ho] at hop
    have hop2 := hop
    have hao : ∃ k y' m1 m2 m3, ao = .slice k y' m1 m2 m3 := by
      simp only [cOp] at hop2
      split at hop2
      · split at hop2
        · cases hop2; exact ⟨_, _, _, _, _, rfl⟩
        · rw [Option.map_eq_some_iff] at hop2; obtain ⟨_, _, rfl⟩ := hop2; exact ⟨_, _, _, _, _, rfl⟩
        · rw [Option.map_eq_some_iff] at hop2; obtain ⟨_, _, rfl⟩ := hop2; exact ⟨_, _, _, _, _, rfl⟩
        · cases hop2
      · cases hop2
    obtain ⟨k, y', m1, m2, m3, hao⟩ := hao
    have hop' : cOp E false (.slice t y l1 l2 l3) = some ao := by rw [← hop]; rfl
    subst hao
    simp only [evOp] at hev
    split at hev
    case h_2 => cases hev
    rename_i lv hv mv hlv hhv hmv
    obtain ⟨u, hu, rfl, rfl, rfl⟩ := ok1_some hev
    obtain ⟨v, j1, j2⟩ := slice_rel hf hr hop' rfl hlv hhv hmv hu
    refine done_val hf hr hd (v := v) ?_ j2
    rw [show execOp a.eval o = (do pure (Next.value (← Instr.sliceAt t (a.eval y) (l1.map a.eval) (l2.map a.eval) (l3.map a.eval))) : Sem Next) by simp [execOp, ho]]
    exact run_v j1
  | fieldAddr t y fi =>
    rw [ho] at hop
    simp only [cOp] at hop
    split at hop
    case h_2 => cases hop
    rename_i fs y' hu hy
    split at hop
    case h_2 => cases hop
    rename_i fl hfl
    split at hop
    case h_2 => cases hop
    rename_i k hk
    cases hop
    have hz := run_sizeOf (P := E.P) hk w
    have hrun : ∀ b o', a.eval y = .pointer (some ⟨b, o', none⟩) → (execOp a.eval o).run E.P w = .ok (.value (.pointer (some ⟨b, o' + fl.offset, none⟩))) w := by
      intro b o' hy'
      simp [execOp, ho, Instr.fieldAt, run_underlying hu, hfl, hy', Instr.sureAddr, fieldPlace, hz, add_plain]
    simp only [evOp] at hev
    split at hev
    · rename_i i o' had
      obtain ⟨u, hu', rfl, rfl, rfl⟩ := ok1_some hev
      cases hu'
      obtain ⟨adr, k1, xx, k2, k3⟩ := adr_glob hf hy had
      cases xx with
      | none =>
        -- an object that is gone: whatever stands there
        obtain ⟨b, o2, sp⟩ := adr
        cases sp with
        | none =>
          refine done_val hf hr hd (hrun b o2 k1) ?_
          simp only [VRel]
          exact ⟨_, rfl, none, k2, fun m hm => by cases hm⟩
        | some sp =>
          refine done_val hf hr hd (v := .pointer (some ((⟨b, o2, some sp⟩ : Addr).add fl.offset))) ?_ ?_
          · simp [execOp, ho, Instr.fieldAt, run_underlying hu, hfl, k1, Instr.sureAddr, fieldPlace, hz]
          · simp only [VRel]
            exact ⟨_, rfl, none, k2, fun m hm => by cases hm⟩
      | some m =>
        have := k3 m rfl; subst this
        refine done_val hf hr hd (hrun _ _ k1) ?_
        simp only [VRel]
        exact ⟨_, rfl, some m, k2, fun m' hm => by cases hm; rw [Nat.add_assoc]⟩
    · rename_i t' o' had
      split at hev
      · rename_i hv
        cases hev
        obtain ⟨cs, hv⟩ := isVar_some hv
        exact done_loc hf hr hd (hrun _ _ (adr_loc hf hy had hv))
      · cases hev
    · cases hev
  | field t y fi =>
    rw [ho] at hop
    simp only [cOp] at hop
    split at hop
    case h_2 => cases hop
    rename_i fs y' hu hy
    split at hop
    case h_2 => cases hop
    rename_i fl hfl
    rw [Option.map_eq_some_iff] at hop
    obtain ⟨n, hn, rfl⟩ := hop
    simp only [evOp] at hev
    split at hev
    case h_2 => cases hev
    rename_i cs hcs
    obtain ⟨u, hu', rfl, rfl, rfl⟩ := ok1_some hev
    have r1 := opd_rel hf hy hcs
    simp only [VRel] at r1
    obtain ⟨c, r2, r3, r4⟩ := r1
    obtain ⟨v, j1, j2⟩ := part_rel (P := E.P) w hn r3 r4 hu'
    exact done_val hf hr hd (by simp [execOp, ho, Instr.field, run_underlying hu, hfl, r2, asAgg, j1]) j2
  | indexAddr t y z =>
    rw [ho] at hop
    simp only [cOp] at hop
    split at hop
    · rename_i e y' z' hu hy hz
      rw [Option.map_eq_some_iff] at hop
      obtain ⟨n, hn, rfl⟩ := hop
      simp only [evOp] at hev
      split at hev
      case h_2 => cases hev
      rename_i b o' len cap iv hyv hzv
      obtain ⟨u, hu', rfl, rfl, rfl⟩ := ok1_some hev
      rw [Option.map_eq_some_iff] at hu'
      obtain ⟨j, hj, rfl⟩ := hu'
      obtain ⟨kd, i, r1, r2, r3, r4⟩ := inBounds_rel (opd_rel hf hz hzv) hj
      have r5 := opd_rel hf hy hyv
      simp only [VRel] at r5
      obtain ⟨ad, cp, q1, q2, q3, q4, q5, q6⟩ := r5
      obtain ⟨xx, q7, q8⟩ := q3 (by omega)
      refine done_val hf hr hd (v := .pointer (some (ad.add (j * n)))) ?_ ?_
      · have hlt : i < (len : Int) := r3
        simp [execOp, ho, Instr.indexAt, r1, asIntOf, run_underlying hu, q1, r2, hlt, run_sizeOf hn, r4]
      · simp only [VRel]
        exact ⟨_, rfl, xx, q7, fun m hm => by rw [q8 m hm, add_plain, Nat.add_assoc]⟩
    · rename_i len e y' z' hu hy hz
      rw [Option.map_eq_some_iff] at hop
      obtain ⟨n, hn, rfl⟩ := hop
      have hrun : ∀ ad kd i, a.eval y = .pointer (some ad) → a.eval z = .int kd i → 0 ≤ i → i < (len : Int) →
          (execOp a.eval o).run E.P w = .ok (.value (.pointer (some (ad.add (i.toNat * n))))) w := by
        intro ad kd i h1 h2 h3 h4
        simp [execOp, ho, Instr.indexAt, h2, asIntOf, run_underlying hu, h1, Instr.sureAddr, h3, h4, run_sizeOf hn]
      simp only [evOp] at hev
      split at hev
      · rename_i b o' iv had hzv
        obtain ⟨u, hu', rfl, rfl, rfl⟩ := ok1_some hev
        rw [Option.map_eq_some_iff] at hu'
        obtain ⟨j, hj, rfl⟩ := hu'
        obtain ⟨kd, i, r1, r2, r3, r4⟩ := inBounds_rel (opd_rel hf hz hzv) hj
        obtain ⟨adr, k1, xx, k2, k3⟩ := adr_glob hf hy had
        refine done_val hf hr hd (hrun adr kd i k1 r1 r2 r3) ?_
        simp only [VRel]
        exact ⟨_, rfl, xx, k2, fun m hm => by rw [k3 m hm, add_plain, Nat.add_assoc, r4]⟩
      · rename_i t' o' iv had hzv
        split at hev
        case isFalse => cases hev
        rename_i hv
        rw [Option.map_eq_some_iff] at hev
        obtain ⟨j, hj, hev⟩ := hev
        cases hev
        obtain ⟨kd, i, r1, r2, r3, r4⟩ := inBounds_rel (opd_rel hf hz hzv) hj
        obtain ⟨cs, hv⟩ := isVar_some hv
        have k1 := adr_loc hf hy had hv
        have := hrun _ kd i k1 r1 r2 r3
        rw [add_plain, ← r4] at this
        exact done_loc hf hr hd this
      · cases hev
    · cases hop
  | index t y z =>
    rw [ho] at hop
    simp only [cOp] at hop
    split at hop
    · rename_i y' z' hu hy hz
      cases hop
      simp only [evOp] at hev
      split at hev
      case h_2 => cases hev
      rename_i t' iv hyv hzv
      obtain ⟨u, hu', rfl, rfl, rfl⟩ := ok1_some hev
      rw [Option.bind_eq_some_iff] at hu'
      obtain ⟨j, hj, hu'⟩ := hu'
      rw [Option.map_eq_some_iff] at hu'
      obtain ⟨b, hb, rfl⟩ := hu'
      obtain ⟨kd, i, r1, r2, r3, r4⟩ := inBounds_rel (opd_rel hf hz hzv) hj
      have r5 := opd_rel hf hy hyv
      simp only [VRel] at r5
      refine done_val hf hr hd (v := .int .u8 b.toNat) ?_ (by simp only [VRel])
      have hb' : (⟨t'.toArray⟩ : ByteArray)[i.toNat]? = some b := by rw [string_get, ← r4]; exact hb
      simp [execOp, ho, Instr.index, r1, asIntOf, run_underlying hu, r5, r2, hb']
    · rename_i len e y' z' hu hy hz
      split at hop
      case h_2 => cases hop
      rename_i n k hn hk
      cases hop
      simp only [evOp] at hev
      split at hev
      case h_2 => cases hev
      rename_i cs iv hyv hzv
      obtain ⟨u, hu', rfl, rfl, rfl⟩ := ok1_some hev
      rw [Option.bind_eq_some_iff] at hu'
      obtain ⟨j, hj, hu'⟩ := hu'
      obtain ⟨kd, i, r1, r2, r3, r4⟩ := inBounds_rel (opd_rel hf hz hzv) hj
      have r5 := opd_rel hf hy hyv
      simp only [VRel] at r5
      obtain ⟨c, r6, r7, r8⟩ := r5
      obtain ⟨v, j1, j2⟩ := part_rel (P := E.P) w hk r7 r8 hu'
      rw [r4] at j1
      have hlt : i < (len : Int) := r3
      exact done_val hf hr hd (v := v) (by simp [execOp, ho, Instr.index, r1, asIntOf, run_underlying hu, r6, r2, hlt, run_sizeOf hn, j1]) j2
    · cases hop
  | extract y i =>
    rw [ho] at hop
    simp only [cOp] at hop
    rw [Option.map_eq_some_iff] at hop
    obtain ⟨y', hy, rfl⟩ := hop
    simp only [evOp] at hev
    split at hev
    case h_2 => cases hev
    rename_i vs hvs
    obtain ⟨u, hu, rfl, rfl, rfl⟩ := ok1_some hev
    have r1 := opd_rel hf hy hvs
    simp only [VRel] at r1
    obtain ⟨vs', r2, r3⟩ := r1
    obtain ⟨v, r4, r5⟩ := r3.get hu
    have r4' : vs'[i]? = some v := by simpa using r4
    exact done_val hf hr hd (v := v) (by simp [execOp, ho, Instr.extract, r2, r4']) r5
  | call c =>
    rw [ho] at hop
    simp only [cOp, cCall] at hop
    split at hop
    · split at hop
      · cases hop; exact absurd rfl (hc2 _ _)
      · cases hop
    · split at hop
      · cases hop; exact absurd rfl (hc1 _ _)
      · cases hop
    · rename_i b hcal
      have hx : ∃ bs, ∀ (ts : List TypeId) (l : List Operand), c.argTypes.toList = ts → c.args.toList = l → (execOp a.eval o).run E.P w = (builtin b ts.toArray o.type bs (l.map a.eval).toArray).run E.P w := by
        refine ⟨c.args.map fun | .const _ => true | _ => false, fun ts l hts hl => ?_⟩
        have h1 : c.args.map a.eval = (l.map a.eval).toArray := by subst hl; apply Array.ext'; simp
        have h2 : c.argTypes = ts.toArray := by rw [← hts]
        simp only [execOp, ho, resolve, hcal, h1, ← h2]
        rfl
      obtain ⟨bs, hx⟩ := hx
      split at hop
      · -- len
        rename_i t y hat hargs
        have hx := hx _ _ hat hargs
        have fin : ∀ {u : AVal} {v : Value}, (Builtin.len_ #[t] o.type #[a.eval y]).run E.P w = .ok v w → VRel E μ u v → OpDone E lo ν.ds μ w a o.dst ((execOp a.eval o).run E.P w) (.val u) s h := by
          intro u v h1 h2
          refine done_val hf hr hd (v := v) ?_ h2
          rw [hx]
          exact run_v h1
        split at hop
        · rename_i hu
          rw [Option.map_eq_some_iff] at hop
          obtain ⟨y', hy, rfl⟩ := hop
          simp only [evOp] at hev
          split at hev
          case h_2 => cases hev
          rename_i v hv
          obtain ⟨u, hu', rfl, rfl, rfl⟩ := ok1_some hev
          simp only [evLen] at hu'
          split at hu'
          case h_2 => cases hu'
          cases hu'
          have r1 := opd_rel hf hy hv
          simp only [VRel] at r1
          exact fin (by simp [Builtin.len_, run_underlying hu, r1, mk_size]; rfl) (by simp only [VRel, goInt])
        · rename_i hu
          rw [Option.map_eq_some_iff] at hop
          obtain ⟨y', hy, rfl⟩ := hop
          simp only [evOp] at hev
          split at hev
          case h_2 => cases hev
          rename_i v hv
          obtain ⟨u, hu', rfl, rfl, rfl⟩ := ok1_some hev
          simp only [evLen] at hu'
          split at hu'
          case h_2 => cases hu'
          cases hu'
          rename_i ad n cp
          have r1 := opd_rel hf hy hv
          cases ad with
          | none =>
            simp only [VRel] at r1
            obtain ⟨r2, _, r3⟩ := r1
            subst r2
            exact fin (v := goInt 0) (by simp [Builtin.len_, run_underlying hu, r3]) (by simp only [VRel, goInt]; rfl)
          | some p =>
            simp only [VRel] at r1
            obtain ⟨adr, cap, r2, _⟩ := r1
            exact fin (by simp [Builtin.len_, run_underlying hu, r2]; rfl) (by simp only [VRel, goInt])
        · rename_i hu
          rw [Option.map_eq_some_iff] at hop
          obtain ⟨y', hy, rfl⟩ := hop
          simp only [evOp] at hev
          split at hev
          case h_2 => cases hev
          rename_i v hv
          obtain ⟨u, hu', rfl, rfl, rfl⟩ := ok1_some hev
          simp only [evLen] at hu'
          split at hu'
          · cases hu'
            have r1 := opd_rel hf hy hv
            simp only [VRel] at r1
            exact fin (v := goInt 0) (by simp [Builtin.len_, run_underlying hu, r1]) (by simp only [VRel, goInt])
          · rename_i i
            split at hu'
            · rename_i es ck hg
              cases hu'
              have r1 := opd_rel hf hy hv
              simp only [VRel] at r1
              obtain ⟨b', xx, r2, r3, r4⟩ := r1
              obtain ⟨m, es', q1, q2, q3, _⟩ := hr.obj i _ hg
              rw [r3] at q1; cases q1
              have := r4 m rfl; subst this
              refine fin (v := .int .i64 es'.size) ?_ (by simp only [VRel, q3])
              have hgo : (getObj m.blk).run E.P w = .ok (.map es' ck) w := by simp [getObj, Sem.run, q2]
              simp [Builtin.len_, run_underlying hu, r2, hgo, goInt]
            · cases hu'
          · cases hu'
        · cases hop
      · -- append
        rename_i t u y z hat hargs
        have hx := hx _ _ hat hargs
        have fin : ∀ (e : TypeId) (i : TypeInfo) (zv : Value) (y' z' : Opd), E.P.underlying t = some (.slice e) → ((∃ e', E.P.underlying u = some (.slice e')) ∨ E.P.underlying u = some .string) → cOpd E y = some y' → cOpd E z = some z' →
            E.P.info? e = some i → i.zero = some zv → zv.cells.size = i.size → ao = .append i.size i.bytes y' z' → OpDone E lo ν.ds μ w a o.dst ((execOp a.eval o).run E.P w) x s' h' := by
          intro e i zv y' z' ht hu hy hz hi hzv hzs hao
          subst hao
          simp only [evOp] at hev
          split at hev
          case h_2 => cases hev
          rename_i u1 u2 hu1 hu2
          rw [Option.map_eq_some_iff] at hev
          obtain ⟨⟨v, h1⟩, hap, hev⟩ := hev
          cases hev
          have r1 := opd_rel hf hy hu1
          have r2 := opd_rel hf hz hu2
          exact append_done (ty := o.type) hf hr hd ht hu hi hzv hzs r1 r2 hap (by rw [hx]; simp only [builtin]; rw [Sem.run_bind]; rfl)
        split at hop
        · rename_i e e' y' z' ht hu hy hz
          split at hop
          case h_2 => cases hop
          rename_i i hi
          split at hop
          case h_2 => cases hop
          rename_i zv hzv
          split at hop
          case isFalse => cases hop
          rename_i hzs
          cases hop
          exact fin e i zv y' z' ht (.inl ⟨_, hu⟩) hy hz hi hzv hzs rfl
        · rename_i e y' z' ht hu hy hz
          split at hop
          case h_2 => cases hop
          rename_i i hi
          split at hop
          case h_2 => cases hop
          rename_i zv hzv
          split at hop
          case isFalse => cases hop
          rename_i hzs
          cases hop
          exact fin e i zv y' z' ht (.inr hu) hy hz hi hzv hzs rfl
        · cases hop
      · -- cap
        rename_i t y hat hargs
        have hx := hx _ _ hat hargs
        split at hop
        case h_2 => cases hop
        rename_i e hu
        rw [Option.map_eq_some_iff] at hop
        obtain ⟨y', hy, rfl⟩ := hop
        simp only [evOp, evs] at hev
        cases hv : y'.ev s with
        | none => rw [hv] at hev; cases hev
        | some v =>
          rw [hv] at hev
          simp only at hev
          rw [Option.map_eq_some_iff] at hev
          obtain ⟨⟨u, h1⟩, hap, hev⟩ := hev
          cases hev
          have r1 := opd_rel hf hy hv
          simp only [evExt, evPure] at hap
          rw [Option.map_eq_some_iff] at hap
          obtain ⟨u', hap, hu'⟩ := hap
          cases hu'
          cases v <;> simp only [evCap, reduceCtorEq] at hap
          rename_i ad n cp
          cases cp with
          | none => cases hap
          | some k =>
            simp only at hap
            cases hap
            have : ∃ b n', a.eval y = .slice b n' k := by
              cases ad with
              | none => simp only [VRel] at r1; obtain ⟨_, e1, e2⟩ := r1; cases e1; exact ⟨_, _, e2⟩
              | some p => simp only [VRel] at r1; obtain ⟨b, cap, e1, _, _, e2, _⟩ := r1; rw [e2 k rfl] at e1; exact ⟨_, _, e1⟩
            obtain ⟨b, n', e1⟩ := this
            refine done_val hf hr hd (v := .int .i64 k) ?_ (by simp only [VRel])
            rw [hx]
            refine run_v (S := Builtin.cap_ #[t] o.type #[a.eval y]) ?_
            simp [Builtin.cap_, run_underlying hu, e1, goInt]
      · -- delete
        rename_i t ts y z hat hargs
        have hx := hx _ _ hat hargs
        split at hop
        case h_2 => cases hop
        rename_i k e hu
        split at hop
        case h_2 => cases hop
        rename_i kn y' z' hk hy hz
        cases hop
        simp only [evOp] at hev
        split at hev
        case h_2 => cases hev
        rename_i vs hvs
        rw [Option.map_eq_some_iff] at hev
        obtain ⟨⟨v, h1⟩, hap, hev⟩ := hev
        cases hev
        obtain ⟨u1, u2, rfl, hu1, hu2⟩ := evs2 hvs
        exact delete_done hf hr hd (ts := (t :: ts).toArray) (ty := o.type) rfl hu hk (opd_rel hf hy hu1) (opd_rel hf hz hu2) hap (by rw [hx]; simp only [builtin]; rw [Sem.run_bind]; rfl)
      · -- min
        rename_i ts ys
        rw [Option.map_eq_some_iff] at hop
        obtain ⟨ys', hys, rfl⟩ := hop
        have hx := hx _ _ rfl rfl
        simp only [evOp] at hev
        split at hev
        case h_2 => cases hev
        rename_i v0 vs hvs
        obtain ⟨u, hu, rfl, rfl, rfl⟩ := ok1_some hev
        have r1 := opds_rel hf hys hvs
        simp only [VRels] at r1
        obtain ⟨x0, xs, e1, r2, r3⟩ := r1
        obtain ⟨v, j1, j2⟩ := mins_rel (P := E.P) w r2 r3 hu
        refine done_val hf hr hd (v := v) ?_ j2
        rw [hx]
        refine run_v (S := Builtin.min_ c.argTypes o.type (c.args.toList.map a.eval).toArray) ?_
        simp only [Builtin.min_, e1]
        simpa using j1
      · rename_i ts ys
        rw [Option.map_eq_some_iff] at hop
        obtain ⟨ys', hys, rfl⟩ := hop
        have hx := hx _ _ rfl rfl
        simp only [evOp] at hev
        split at hev
        case h_2 => cases hev
        rename_i v0 vs hvs
        obtain ⟨u, hu, rfl, rfl, rfl⟩ := ok1_some hev
        have r1 := opds_rel hf hys hvs
        simp only [VRels] at r1
        obtain ⟨x0, xs, e1, r2, r3⟩ := r1
        obtain ⟨v, j1, j2⟩ := mins_rel (P := E.P) w r2 r3 hu
        refine done_val hf hr hd (v := v) ?_ j2
        rw [hx]
        refine run_v (S := Builtin.max_ c.argTypes o.type (c.args.toList.map a.eval).toArray) ?_
        simp only [Builtin.max_, e1]
        simpa using j1
      · cases hop
    · cases hop
  | makeMap t hint =>
    have fin : ao = .ext .mkmap [] → (hint = none ∨ ∃ k n, hint = some (.const (.int k n)) ∧ ∃ a b, E.P.underlying t = some (.map a b)) → OpDone E lo ν.ds μ w a o.dst ((execOp a.eval o).run E.P w) x s' h' := by
      intro hao hh
      subst hao
      simp only [evOp, evs, evExt, Option.map_some] at hev
      cases hev
      have hlen : h.size = μ.length := hr.len.symm
      rw [hlen]
      refine done_new hf hr hd (.map [] 0) (.map #[] 0) ⟨w.heap.size, 0, 0, 0⟩ rfl (w1 := { w with heap := w.heap.push (.map #[] 0) }) (v := .map (some w.heap.size)) ?_ rfl rfl rfl rfl ?_ ?_
      · rcases hh with rfl | ⟨k, n, rfl, p, q, hu⟩
        · simp [execOp, ho, Instr.makeMap]
        · simp [execOp, ho, Instr.makeMap, run_underlying hu, asInt, asIntOf, Act.eval]
      · exact ⟨⟨w.heap.size, 0, 0, 0⟩, #[], by rw [List.getElem?_append_right (Nat.le_refl _)]; simp, by simp, rfl, by simp⟩
      · simp only [VRel]
        exact ⟨w.heap.size, some ⟨w.heap.size, 0, 0, 0⟩, rfl, by rw [List.getElem?_append_right (Nat.le_refl _)]; simp, fun m hm => by cases hm; rfl⟩
    rw [ho] at hop
    cases hint with
    | none => simp only [cOp] at hop; cases hop; exact fin rfl (.inl rfl)
    | some y =>
      cases y with
      | const v =>
        cases v with
        | int k n =>
          simp only [cOp] at hop
          split at hop
          · rename_i hu
            cases hop
            exact fin rfl (.inr ⟨_, _, rfl, _, _, hu⟩)
          · cases hop
        | _ => simp [cOp] at hop
      | _ => simp [cOp] at hop
  | lookup t y z ok =>
    rw [ho] at hop
    simp only [cOp] at hop
    split at hop
    case h_2 => cases hop
    rename_i k e hu
    split at hop
    case h_2 => cases hop
    rename_i kn zv y' z' hk hzv hy hz
    cases hop
    simp only [evOp] at hev
    split at hev
    case h_2 => cases hev
    rename_i vs hvs
    rw [Option.map_eq_some_iff] at hev
    obtain ⟨⟨v, h1⟩, hap, hev⟩ := hev
    cases hev
    obtain ⟨u1, u2, rfl, hu1, hu2⟩ := evs2 hvs
    obtain ⟨rfl, r, j1, j2⟩ := lookup_rel hr hu hk hzv (opd_rel hf hy hu1) (opd_rel hf hz hu2) hap
    refine done_val hf hr hd (v := r) ?_ j2
    simp only [execOp, ho]
    exact run_v j1
  | mapUpdate t m y z =>
    rw [ho] at hop
    simp only [cOp] at hop
    split at hop
    case h_2 => cases hop
    rename_i k e hu
    split at hop
    case h_2 => cases hop
    rename_i kn m' y' z' hk hm hy hz
    cases hop
    simp only [evOp] at hev
    split at hev
    case h_2 => cases hev
    rename_i vs hvs
    rw [Option.map_eq_some_iff] at hev
    obtain ⟨⟨v, h1⟩, hap, hev⟩ := hev
    cases hev
    obtain ⟨u1, u2, u3, rfl, hu1, hu2, hu3⟩ := evs3 hvs
    refine mapupd_done hf hr hd hu hk (opd_rel hf hm hu1) (opd_rel hf hy hu2) (opd_rel hf hz hu3) hap ?_
    simp only [execOp, ho]
    rw [Sem.run_bind]; rfl
  | insert t m y z =>
    rw [ho] at hop
    simp only [cOp] at hop
    split at hop
    case h_2 => cases hop
    rename_i k e hu
    split at hop
    case h_2 => cases hop
    rename_i kn m' y' z' hk hm hy hz
    cases hop
    simp only [evOp] at hev
    split at hev
    case h_2 => cases hev
    rename_i vs hvs
    rw [Option.map_eq_some_iff] at hev
    obtain ⟨⟨v, h1⟩, hap, hev⟩ := hev
    cases hev
    obtain ⟨u1, u2, u3, rfl, hu1, hu2, hu3⟩ := evs3 hvs
    refine mapupd_done hf hr hd hu hk (opd_rel hf hm hu1) (opd_rel hf hy hu2) (opd_rel hf hz hu3) hap ?_
    simp only [execOp, ho]
    rw [Sem.run_bind]; rfl
  | _ => rw [ho] at hop; simp [cOp] at hop

end
end Go.Abs
