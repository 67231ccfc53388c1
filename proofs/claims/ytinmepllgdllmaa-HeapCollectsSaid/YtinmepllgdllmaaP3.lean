/-
  Each operation but a call, all together.
-/
import Derived.Test.YtinmepllgdllmaaP2
import Derived.Test.YtinmepllgdllmaaP1
import Derived.OrdersIn
import Derived.LoopNIn
import Derived.RangeFuncRecord
namespace Go.Abs

section
variable {E : Env} {lo : Nat} {ν : Fr} {μ : MM} {s : Slots} {h : Heap} {a : Act} {w : World}

theorem run_v {P : Program} {S : Sem Value} {v : Value} {w w' : World} (hS : S.run P w = .ok v w') : (do pure (Next.value (← S)) : Sem Next).run P w = .ok (.value v) w' := by
  simp [hS]

def plainEq : Value → Bool
  | .bool _ | .pointer _ | .slice _ _ _ | .map _ | .func _ _ _ | .nilFunc => true
  | _ => false

def kindIs (k : NilKind) (d : TypeDesc) : Prop :=
  match k with
  | .ptr => ∃ e, d = .pointer e
  | .slice => ∃ e, d = .slice e
  | .map => ∃ a b, d = .map a b
  | .func => ∃ a b c, d = .func a b c

theorem eqNil_rel {P : Program} {k : NilKind} {x y : AVal} {u v : Value} {d : TypeDesc} {t : TypeId} {b : Bool} (w : World) (hx : VRel E μ x u) (hy : VRel E μ y v) (ht : P.underlying t = some d)
    (hk : kindIs k d) (h : aEqNil k x y = some b) : plainEq u = true ∧ (Op.equal t u v).run P w = .ok b w := by
  suffices plainEq u = true ∧ ∀ n : Nat, (Op.equalIn (n + 1) t u v).run P w = .ok b w from ⟨this.1, this.2 9999⟩
  unfold aEqNil at h
  split at h <;> (try cases h)
  · obtain ⟨e, rfl⟩ := hk
    simp only [VRel] at hx; subst hx
    refine ⟨rfl, fun n => ?_⟩
    rename_i p
    cases p with
    | none => simp only [VRel] at hy; subst hy; simp [Op.equalIn, run_underlying ht]
    | some p => simp only [VRel] at hy; obtain ⟨_, rfl, _⟩ := hy; simp [Op.equalIn, run_underlying ht]
  · obtain ⟨e, rfl⟩ := hk
    simp only [VRel] at hx hy
    obtain ⟨_, rfl, _⟩ := hx; subst hy
    exact ⟨rfl, fun n => by simp [Op.equalIn, run_underlying ht]⟩
  · obtain ⟨e, rfl⟩ := hk
    simp only [VRel] at hx
    obtain ⟨_, _, rfl⟩ := hx
    refine ⟨rfl, fun n => ?_⟩
    rename_i p _ _ _ _
    cases p with
    | none => simp only [VRel] at hy; obtain ⟨_, _, rfl⟩ := hy; simp [Op.equalIn, run_underlying ht]
    | some p => simp only [VRel] at hy; obtain ⟨_, _, rfl, _⟩ := hy; simp [Op.equalIn, run_underlying ht]
  · obtain ⟨e, rfl⟩ := hk
    simp only [VRel] at hx hy
    obtain ⟨_, _, rfl, _⟩ := hx; obtain ⟨_, _, rfl⟩ := hy
    exact ⟨rfl, fun n => by simp [Op.equalIn, run_underlying ht]⟩
  · obtain ⟨e, e', rfl⟩ := hk
    simp only [VRel] at hx; subst hx
    refine ⟨rfl, fun n => ?_⟩
    rename_i p
    cases p with
    | none => simp only [VRel] at hy; subst hy; simp [Op.equalIn, run_underlying ht]
    | some p => simp only [VRel] at hy; obtain ⟨_, _, rfl, _⟩ := hy; simp [Op.equalIn, run_underlying ht]
  · obtain ⟨e, e', rfl⟩ := hk
    simp only [VRel] at hx hy
    obtain ⟨_, _, rfl, _⟩ := hx; subst hy
    exact ⟨rfl, fun n => by simp [Op.equalIn, run_underlying ht]⟩
  · obtain ⟨e, e', e'', rfl⟩ := hk
    simp only [VRel] at hx hy; subst hx; subst hy
    exact ⟨rfl, fun n => by simp [Op.equalIn, run_underlying ht]⟩
  · obtain ⟨e, e', e'', rfl⟩ := hk
    simp only [VRel] at hx hy; subst hx
    obtain ⟨_, _, _, rfl, _⟩ := hy
    exact ⟨rfl, fun n => by simp [Op.equalIn, run_underlying ht]⟩
  · obtain ⟨e, e', e'', rfl⟩ := hk
    simp only [VRel] at hx hy; subst hy
    obtain ⟨_, _, _, rfl, _⟩ := hx
    exact ⟨rfl, fun n => by simp [Op.equalIn, run_underlying ht]⟩

theorem run_eq {P : Program} {neg : Bool} {t : TypeId} {u v : Value} {b : Bool} (hu : plainEq u = true) (x y : Operand) (he : (Op.equal t u v).run P w = .ok b w) :
    (do eqGuard (if neg then .neq else .eql) t x y u v; binOp (if neg then .neq else .eql) t u v : Sem Value).run P w = .ok (.bool (if neg then !b else b)) w := by
  have hg : (eqGuard (if neg then .neq else .eql) t x y u v).run P w = .ok () w := run_eqGuard _ t x y u v w (fun c e => by subst e; cases hu) (fun e => by subst e; cases hu)
  rw [Sem.run_bind, hg, Result.andThen_ok]
  have key : ∀ op, (op = .eql → (binOp op t u v).run P w = .ok (.bool b) w) ∧ (op = .neq → (binOp op t u v).run P w = .ok (.bool !b) w) := by
    intro op
    constructor <;> (rintro rfl; unfold binOp; cases u <;> (try cases hu) <;> cases v <;> simp [he])
  cases neg
  · exact (key .eql).1 rfl
  · exact (key .neq).2 rfl

theorem beq_rel {P : Program} {t : TypeId} {a b : Bool} (ht : P.underlying t = some .bool) (w : World) : (Op.equal t (.bool a) (.bool b)).run P w = .ok (a == b) w := by
  suffices ∀ n : Nat, (Op.equalIn (n + 1) t (.bool a) (.bool b)).run P w = .ok (a == b) w from this 9999
  intro n
  simp [Op.equalIn, run_underlying ht]

theorem run_make_rowN' {P : Program} (t e : TypeId) (i : TypeInfo) (z : Value) (ht : P.underlying t = some (.slice e)) (hi : P.info? e = some i) (hz : i.zero = some z)
    (n c : Nat) (hnc : n ≤ c) (hbytes : (i.bytes : Int) * (c : Int) ≤ 281474976710656) (h63 : c ≤ 9223372036854775807) (w : World) :
    (Instr.makeSlice t (.int .i64 (n : Int)) (.int .i64 (c : Int))).run P w =
      .ok (.slice (some ⟨w.heap.size, 0, none⟩) n c) { w with heap := w.heap.push (.cells ((Array.range (c * i.size)).map fun j => z.cells[j % z.cells.size]!) e (0, 0)) } := by
  have hw : ∀ k : Nat, k ≤ 9223372036854775807 → IntKind.i64.wrap (k : Int) = k := by
    intro k hk
    simp only [IntKind.wrap, IntKind.bits, IntKind.signed]
    simp
    omega
  have h1 : ¬ (281474976710656 < (i.bytes : Int) * (c : Int)) := by omega
  have h2 : ¬ ((c : Int) < 0) := by omega
  have h3 : ¬ ((n : Int) < 0) := by omega
  have h4 : ¬ (c < n) := by omega
  by_cases h0 : c * i.size = 0
  · simp [Instr.makeSlice, run_underlying ht, typeInfo, hi, asInt, asIntOf, hw c h63, hw n (by omega), h1, h2, h3, h4, sizeOf, h0, newRow, show Array.range 0 = #[] from rfl]
  · simp [Instr.makeSlice, run_underlying ht, typeInfo, hi, asInt, asIntOf, hw c h63, hw n (by omega), h1, h2, h3, h4, sizeOf, h0, newRow, zeroValue, hz]

theorem isVar_some {s : Slots} {t : Nat} (h : isVar s t = true) : ∃ cs, sget s t = some (.var cs) := by
  unfold isVar at h
  split at h
  · rename_i cs h1; exact ⟨cs, h1⟩
  · cases h

theorem evs2 {x y : Opd} {vs : List AVal} (h : evs s [x, y] = some vs) : ∃ u v, vs = [u, v] ∧ x.ev s = some u ∧ y.ev s = some v := by
  cases hx : x.ev s with
  | none => simp [evs, hx] at h
  | some u =>
    cases hy : y.ev s with
    | none => simp [evs, hy] at h
    | some v => simp [evs, hx, hy] at h; exact ⟨u, v, h.symm, rfl, rfl⟩

theorem evs3 {x y z : Opd} {vs : List AVal} (h : evs s [x, y, z] = some vs) : ∃ u v p, vs = [u, v, p] ∧ x.ev s = some u ∧ y.ev s = some v ∧ z.ev s = some p := by
  cases hx : x.ev s with
  | none => simp [evs, hx] at h
  | some u =>
    cases hy : y.ev s with
    | none => simp [evs, hy] at h
    | some v =>
      cases hz : z.ev s with
      | none => simp [evs, hz] at h
      | some p => simp [evs, hx, hy, hz] at h; exact ⟨u, v, p, h.symm, rfl, rfl, rfl⟩

theorem aggs_rel {neg : Bool} {t : TypeId} {ks : List CK} {x y : AVal} {u v : Value} {d : TypeDesc} {r : AVal} {h' : Heap} (hd : E.P.underlying t = some d) (hda : (∃ fs, d = .struct fs) ∨ ∃ n e, d = .array n e) (hg : E.P.eqGuardType E.P.depth t = false) (hck : ckOf E.P 20 t = some ks)
    (hx : VRel E μ x u) (hy : VRel E μ y v) (he : evExt (.pure (.eqcells neg ks)) [x, y] h = some (r, h')) (p q : Operand) :
    h' = h ∧ ∃ b, r = .bool b ∧ (do eqGuard (if neg then .neq else .eql) t p q u v; binOp (if neg then .neq else .eql) t u v : Sem Value).run E.P w = .ok (.bool b) w := by
  simp only [evExt, evPure] at he
  rw [Option.map_eq_some_iff] at he
  obtain ⟨r', he, hr'⟩ := he
  cases hr'
  cases x <;> simp only [evEq, reduceCtorEq] at he
  cases y <;> simp only [reduceCtorEq] at he
  rename_i A B
  split at he
  case isFalse => cases he
  rename_i hh
  obtain ⟨hk, hlen⟩ := hh
  rw [Option.map_eq_some_iff] at he
  obtain ⟨b, hb, he⟩ := he
  cases he
  have hp : ∃ m, partT E.P t = some (some m) := by
    obtain ⟨i, hi⟩ := info_of_underlying hd
    refine ⟨i.size, ?_⟩
    rcases hda with ⟨fs, rfl⟩ | ⟨n, e, rfl⟩ <;> simp [partT, hd, sizeT, hi]
  obtain ⟨m, hm⟩ := hp
  have heq := eq_ck 20 t ks hck 9980 μ w (some m) _ _ u v _ _ b hm ⟨_, rfl⟩ ⟨_, rfl⟩ hx hy rfl rfl hlen hk hb
  simp only [VRel] at hx hy
  obtain ⟨xs, rfl, _⟩ := hx
  obtain ⟨ys, rfl, _⟩ := hy
  refine ⟨rfl, _, rfl, ?_⟩
  rw [Sem.run_bind, run_eqGuard_agg w _ t p q xs ys hg, Result.andThen_ok]
  cases neg
  · simp only [Bool.false_eq_true, if_false]
    rw [run_eql_struct w t xs ys, heq]; rfl
  · simp only [if_true]
    rw [run_neq_struct w t xs ys, heq]; rfl

/-! ## Functions for which the model stands in -/

theorem ib_find {fn : Func} (h : fn.name = "internal/bytealg.IndexByteString") : Extern.find fn = some Extern.BytealgIndexByte.indexByte := by
  have h1 : Extern.allGenericRows.lookup "internal/bytealg.IndexByteString" = none := by kernel_rfl
  have h2 : Extern.allTypedRows.lookup "internal/bytealg.IndexByteString" = none := by kernel_rfl
  have h3 : Extern.allRows.lookup "internal/bytealg.IndexByteString" = some Extern.BytealgIndexByte.indexByte := by kernel_rfl
  unfold Extern.find
  simp only [h, h1, h2, h3]
  rfl

theorem cb_find {fn : Func} (h : fn.name = "internal/bytealg.CountString") : Extern.find fn = some Extern.BytealgCount.count := by
  have h1 : Extern.allGenericRows.lookup "internal/bytealg.CountString" = none := by kernel_rfl
  have h2 : Extern.allTypedRows.lookup "internal/bytealg.CountString" = none := by kernel_rfl
  have h3 : Extern.allRows.lookup "internal/bytealg.CountString" = some Extern.BytealgCount.count := by kernel_rfl
  unfold Extern.find
  simp only [h, h1, h2, h3]
  rfl

theorem next_none {fn : Func} (h : fn.name = "internal/bytealg.IndexByteString" ∨ fn.name = "internal/bytealg.CountString") (ho : fn.origin = "") : Extern.findNext fn = none := by
  have h1 : Extern.allNextRows.lookup "internal/bytealg.IndexByteString" = none := by kernel_rfl
  have h2 : Extern.allNextRows.lookup "internal/bytealg.CountString" = none := by kernel_rfl
  have h3 : Extern.allNextRows.lookup "" = none := by kernel_rfl
  unfold Extern.findNext
  rcases h with h | h
  · simp only [h, ho, h1, h3]; rfl
  · simp only [h, ho, h2, h3]; rfl

theorem prim_done {call : CallSem} {d : Nat} {o : Oper} {k : PrimK} {f : FuncId} {c : Call} {as : List Opd} {x : Slot} {s' : Slots} {h' : Heap} (hf : FRel E lo ν μ (sget s) a.tmps w) (hr : Rel E μ h w) (hd : ∀ t, o.dst = some t → t < a.tmps.size)
    (ho : o.op = .call c) (hcal : c.callee = .value (.func f)) (has : cOpds E c.args.toList = some as) (hk : primOf E.P f = some k) (hev : evOp call d (.ext (.pure (.prim k)) as) s h = some (x, s', h')) :
    OpDone E lo ν.ds μ w a o.dst ((execOp a.eval o).run E.P w) x s' h' := by
  simp only [evOp] at hev
  split at hev
  case h_2 => cases hev
  rename_i vs hvs
  rw [Option.map_eq_some_iff] at hev
  obtain ⟨⟨u, h1⟩, hap, hev⟩ := hev
  cases hev
  simp only [evExt, evPure] at hap
  rw [Option.map_eq_some_iff] at hap
  obtain ⟨u', hap, e⟩ := hap
  cases e
  have hrel := opds_rel hf has hvs
  unfold primOf at hk
  split at hk
  case h_2 => cases hk
  rename_i fn hfn
  split at hk
  case isFalse => cases hk
  rename_i hbo
  have hrun : (execOp a.eval o).run E.P w = (callFunc f (c.args.map a.eval)).run E.P w := by
    simp [execOp, ho, resolve, hcal, Act.eval, Deferred.ofValue, invoke]
  rw [hrun]
  have hargs : c.args.map a.eval = (c.args.toList.map a.eval).toArray := by apply Array.ext'; simp
  rw [hargs]
  split at hk
  · rename_i hname
    cases hk
    have hn : (fn.name == "runtime.NumGoroutine") = false := by rw [hname]; decide
    unfold evPrim at hap
    split at hap
    · rename_i sb cb he1
      cases he1
      cases hap
      simp only [VRels, VRel] at hrel
      obtain ⟨_, _, e1, rfl, _, _, e2, rfl, rfl⟩ := hrel
      subst e2
      rw [e1]
      refine done_val hf hr hd (v := .int .i64 (Lib.indexByte sb cb.toNat.toUInt8)) ?_ (by simp only [VRel])
      rw [run_callFunc_extern hfn hn hbo.1 (next_none (.inl hname) hbo.2) (ib_find hname), Lib.run_indexByteString]
      rfl
    · exact absurd ‹PrimK.indexByte = PrimK.countByte› (by simp)
    · cases hap
  · split at hk
    case isFalse => cases hk
    rename_i hname
    cases hk
    have hn : (fn.name == "runtime.NumGoroutine") = false := by rw [hname]; decide
    unfold evPrim at hap
    split at hap
    · exact absurd ‹PrimK.countByte = PrimK.indexByte› (by simp)
    · rename_i sb cb he1
      cases he1
      cases hap
      simp only [VRels, VRel] at hrel
      obtain ⟨_, _, e1, rfl, _, _, e2, rfl, rfl⟩ := hrel
      subst e2
      rw [e1]
      refine done_val hf hr hd (v := .int .i64 (Lib.countByte sb cb.toNat.toUInt8)) ?_ (by simp only [VRel])
      rw [run_callFunc_extern hfn hn hbo.1 (next_none (.inr hname) hbo.2) (cb_find hname), Lib.run_countString]
      rfl
    · cases hap

/-- The entry at which a step through a map stands. -/
theorem entry_done (hf : FRel E lo ν μ (sget s) a.tmps w) (hr : Rel E μ h w) {dst : Option Tmp} {rr : Result Next} (hd : ∀ x, dst = some x → x < a.tmps.size) {x v : AVal} {u : Value} {h' : Heap} (hx : VRel E μ x u)
    (he : evExt .entry [x] h = some (v, h')) (hrun : rr = ((Instr.entry u).run E.P w).andThen fun v w' => .ok (.value v) w') : OpDone E lo ν.ds μ w a dst rr (.val v) s h' := by
  unfold evExt at he
  split at he
  case h_8 =>
    rename_i i e1 e2
    cases e2
    simp only [VRel] at hx
    obtain ⟨ad, hit, mo, hmo, had⟩ := hx
    split at he
    case h_2 => cases he
    rename_i m since seen last hgi
    split at he
    case h_2 => cases he
    rename_i st es clock hst hgm
    split at he
    case isFalse => cases he
    rename_i hcl
    subst hcl
    rw [Option.map_eq_some_iff] at he
    obtain ⟨e, hfd, he⟩ := he
    cases he
    obtain ⟨mi, r', ⟨q1, hbase⟩, q2, q3⟩ := hr.obj _ _ hgi
    rw [q1] at hmo; cases hmo
    have had' := had mi rfl
    subst had'
    rw [hbase] at hit
    obtain ⟨mm, es', p1, p2, p3, p4⟩ := hr.obj _ _ hgm
    simp only [VRel] at q3
    obtain ⟨bm, xo, e1, e2, e3⟩ := q3
    rw [p1] at e2; cases e2
    have e3 := e3 mm rfl
    subst e3
    have e1 : r' = some mm.blk := by simpa using e1
    subst e1
    have hfind : ∀ (l : List (AVal × AVal × Nat)) (l' : List MapEntry), l'.length = l.length → (∀ (k : Nat) (z : AVal × AVal × Nat), l[k]? = some z → ∃ y, l'[k]? = some y ∧ VRel E μ z.1 y.key ∧ VRel E μ z.2.1 y.val ∧ y.born = z.2.2) →
        ∀ e, (l.find? fun e => e.2.2 == st) = some e → ∃ y, (l'.find? fun y => y.born == st) = some y ∧ VRel E μ e.1 y.key ∧ VRel E μ e.2.1 y.val := by
      intro l
      induction l with
      | nil => intro _ _ _ e he; simp at he
      | cons z l ih =>
        intro l' hl hh e he
        cases l' with
        | nil => simp at hl
        | cons y l' =>
          obtain ⟨y0, h1, h2, h3, h4⟩ := hh 0 z rfl
          simp at h1
          subst h1
          rw [List.find?_cons] at he ⊢
          rw [h4]
          cases hz : z.2.2 == st with
          | true =>
            rw [hz] at he
            cases he
            exact ⟨y, rfl, h2, h3⟩
          | false =>
            rw [hz] at he
            exact ih l' (by simpa using hl) (fun k z hk => hh (k + 1) z (by simpa using hk)) e he
    obtain ⟨y, hy1, hy2, hy3⟩ := hfind es es'.toList (by simpa using p3) (fun k z hk => by obtain ⟨y, y1, y2⟩ := p4 k z hk; exact ⟨y, by simpa using y1, y2⟩) e hfd
    have hy1' : es'.find? (fun y => y.born == st) = some y := by rw [← Array.find?_toList]; exact hy1
    have hback : seen.toArray.back? = some st := by simpa using hst
    have hir : (Instr.entry u).run E.P w = .ok (.tuple #[y.key, y.val]) w := by
      rw [hit]
      simp [Instr.entry, getObj, Sem.run, q2, p2, Result.andThen, hback, hy1']
    refine done_val hf hr hd (v := .tuple #[y.key, y.val]) (by rw [hrun, hir]; rfl) ?_
    simp only [VRel]
    exact ⟨_, rfl, by simp only [VRels]; exact ⟨_, _, rfl, hy2, _, _, rfl, hy3, rfl⟩⟩
  all_goals simp_all

theorem op_sound {call : CallSem} {loc : Bool} {o : Oper} {ao : AOp} {x : Slot} {s' : Slots} {h' : Heap} (hop : cOp E loc o.op = some ao) (hc1 : ∀ f as, ao ≠ .call f as) (hc2 : ∀ g as, ao ≠ .callg g as)
    (hev : evOp call (o.dst.getD 0) ao s h = some (x, s', h')) (hf : FRel E lo ν μ (sget s) a.tmps w) (hr : Rel E μ h w) (hlo : lo ≤ w.heap.size) (hd : ∀ t, o.dst = some t → t < a.tmps.size) (hloc : loc = true → o.dst.isSome = true) :
    OpDone E lo ν.ds μ w a o.dst ((execOp a.eval o).run E.P w) x s' h' := by
  cases ho : o.op with
  | move y =>
    rw [ho] at hop
    simp only [cOp] at hop
    rw [Option.map_eq_some_iff] at hop
    obtain ⟨y', hy, rfl⟩ := hop
    obtain ⟨u, hu, rfl, rfl, rfl⟩ := ok1_some (by simpa only [evOp] using hev)
    exact done_val hf hr hd (by simp [execOp, ho]) (opd_rel hf hy hu)
  | assign y =>
    rw [ho] at hop
    simp only [cOp] at hop
    rw [Option.map_eq_some_iff] at hop
    obtain ⟨y', hy, rfl⟩ := hop
    obtain ⟨u, hu, rfl, rfl, rfl⟩ := ok1_some (by simpa only [evOp] using hev)
    exact done_val hf hr hd (by simp [execOp, ho]) (opd_rel hf hy hu)
  | pick c y z =>
    rw [ho] at hop
    simp only [cOp] at hop
    split at hop
    case h_2 => cases hop
    rename_i c' y' z' hc hy hz
    cases hop
    simp only [evOp] at hev
    split at hev
    · rename_i hcv
      obtain ⟨u, hu, rfl, rfl, rfl⟩ := ok1_some hev
      have h1 := opd_rel hf hc hcv
      simp only [VRel] at h1
      exact done_val hf hr hd (by simp [execOp, ho, h1, asBool]) (opd_rel hf hy hu)
    · rename_i hcv
      obtain ⟨u, hu, rfl, rfl, rfl⟩ := ok1_some hev
      have h1 := opd_rel hf hc hcv
      simp only [VRel] at h1
      exact done_val hf hr hd (by simp [execOp, ho, h1, asBool]) (opd_rel hf hz hu)
    · cases hev
  | alloc t =>
    rw [ho] at hop
    simp only [cOp] at hop
    split at hop
    case h_2 => cases hop
    rename_i z e hz he
    obtain ⟨v, k1, k2, k3⟩ := run_zero (E := E) hz μ w
    have hrun : (execOp a.eval o).run E.P w = .ok (.value (.pointer (some ⟨w.heap.size, 0, none⟩))) { w with heap := w.heap.push (.cells v.cells t (0, 0)) } := by
      simp [execOp, ho, Instr.alloc, k1, newVar, newRow]
    cases loc with
    | true =>
      cases hop
      simp only [evOp] at hev; cases hev
      obtain ⟨d, hd'⟩ := Option.isSome_iff_exists.1 (hloc rfl)
      rw [hd']
      exact done_var hf hr hlo (hd d hd') t k2 k3 hrun
    | false =>
      cases hop
      simp only [evOp] at hev; cases hev
      have hlen : h.size = μ.length := hr.len.symm
      rw [hlen]
      exact done_new hf hr hd _ _ ⟨w.heap.size, 0, v.cells.size, e⟩ rfl hrun rfl rfl rfl rfl (new_cells k2 k3 rfl) (ptr_new rfl)
  | box t y =>
    rw [ho] at hop
    simp only [cOp] at hop
    rw [Option.map_eq_some_iff] at hop
    obtain ⟨y', hy, hop⟩ := hop
    have hrun : (execOp a.eval o).run E.P w = .ok (.value (.pointer (some ⟨w.heap.size, 0, none⟩))) { w with heap := w.heap.push (.cells (a.eval y).cells t (0, 0)) } := by
      simp [execOp, ho, Instr.box, newVar, newRow]
    cases loc with
    | true =>
      simp only [if_true] at hop
      subst hop
      simp only [evOp] at hev
      split at hev
      case h_2 => cases hev
      rename_i cs hcs
      cases hev
      rw [Option.bind_eq_some_iff] at hcs
      obtain ⟨u, hu, hcs⟩ := hcs
      obtain ⟨k2, k3⟩ := cells_rel (opd_rel hf hy hu) hcs
      obtain ⟨d, hd'⟩ := Option.isSome_iff_exists.1 (hloc rfl)
      rw [hd']
      exact done_var hf hr hlo (hd d hd') t k2 k3 hrun
    | false =>
      simp only [Bool.false_eq_true, if_false] at hop
      subst hop
      simp only [evOp] at hev
      split at hev
      case h_2 => cases hev
      rename_i cs hcs
      cases hev
      rw [Option.bind_eq_some_iff] at hcs
      obtain ⟨u, hu, hcs⟩ := hcs
      obtain ⟨k2, k3⟩ := cells_rel (opd_rel hf hy hu) hcs
      have hlen : h.size = μ.length := hr.len.symm
      rw [hlen]
      exact done_new hf hr hd _ _ ⟨w.heap.size, 0, (a.eval y).cells.size, cs.length⟩ rfl hrun rfl rfl rfl rfl (new_cells k2 k3 rfl) (ptr_new rfl)
  | build t ps =>
    rw [ho] at hop
    simp only [cOp] at hop
    split at hop
    case h_3 => cases hop
    · rename_i fs z hu hz
      obtain ⟨v, k1, k2, k3⟩ := run_zero (E := E) hz μ w
      split at hop
      case h_2 => cases hop
      rename_i pl hpl
      rw [Option.map_eq_some_iff] at hop
      obtain ⟨qs, hq, rfl⟩ := hop
      obtain ⟨u, hu', rfl, rfl, rfl⟩ := ok1_some (by simpa only [evOp] using hev)
      rw [Option.map_eq_some_iff] at hu'
      obtain ⟨cs, hcs, rfl⟩ := hu'
      obtain ⟨c', j1, j2, j3, _⟩ := fill_rel hf hq hcs k2 k3
      refine done_val hf hr hd (v := .agg c') ?_ (by simp only [VRel]; exact ⟨_, rfl, j2, j3⟩)
      simp [execOp, ho, Instr.build, k1, run_underlying hu, Array.mapM_eq_mapM_toList, places_rel w hpl]
      rw [j1]; rfl
    · rename_i n e z hu hz
      obtain ⟨v, k1, k2, k3⟩ := run_zero (E := E) hz μ w
      split at hop
      case h_2 => cases hop
      rename_i n hn
      rw [Option.map_eq_some_iff] at hop
      obtain ⟨qs, hq, rfl⟩ := hop
      obtain ⟨u, hu', rfl, rfl, rfl⟩ := ok1_some (by simpa only [evOp] using hev)
      rw [Option.map_eq_some_iff] at hu'
      obtain ⟨cs, hcs, rfl⟩ := hu'
      obtain ⟨c', j1, j2, j3, _⟩ := fill_rel hf hq hcs k2 k3
      refine done_val hf hr hd (v := .agg c') ?_ (by simp only [VRel]; exact ⟨_, rfl, j2, j3⟩)
      simp [execOp, ho, Instr.build, k1, run_underlying hu, run_sizeOf hn]
      rw [j1]; rfl
  | buildSlice t len ps =>
    rw [ho] at hop
    simp only [cOp] at hop
    split at hop
    case h_2 => cases hop
    rename_i e hu
    split at hop
    case h_2 => cases hop
    rename_i n z hn hz
    split at hop
    case isFalse => cases hop
    rename_i hh
    obtain ⟨hl, hzl, h0⟩ := hh
    rw [Option.map_eq_some_iff] at hop
    obtain ⟨qs, hq, rfl⟩ := hop
    obtain ⟨v, k1, k2, k3⟩ := run_zero (E := E) hz μ w
    simp only [evOp] at hev
    split at hev
    case h_2 => cases hev
    rename_i cs hcs
    cases hev
    obtain ⟨r1, r2⟩ := rep_rel (n := len) k2 k3 hzl h0
    have hlen : h.size = μ.length := hr.len.symm
    rw [hlen]
    by_cases hz0 : len * n = 0
    · -- no elements
      have hl0 : len = 0 := by
        rcases Nat.mul_eq_zero.1 hz0 with h1 | h1
        · exact h1
        · omega
      subst hl0
      obtain ⟨c', j1, j2, j3, j4⟩ := fill_rel (c := #[]) hf hq hcs (by simp [rep, VRels]) (by simp [rep])
      have hc'l := j2.length
      refine done_new hf hr hd (.cells n cs) (.cells c' e (0, 0)) ⟨w.heap.size, 0, c'.size, n⟩ rfl (w1 := { w with heap := w.heap.push (.cells c' e (0, 0)) }) ?_ rfl rfl rfl rfl (new_cells j2 j3 rfl) (slice_new rfl (Nat.le_refl _) (fun k hk => by cases hk; rfl) (by simp))
      simp [execOp, ho, Instr.buildSlice, run_underlying hu, run_sizeOf hn, show Array.range 0 = #[] from rfl]
      rw [j1]
      simp [newRow]
    · obtain ⟨c', j1, j2, j3, j4⟩ := fill_rel hf hq hcs r1 r2
      refine done_new hf hr hd (.cells n cs) (.cells c' e (0, 0)) ⟨w.heap.size, 0, c'.size, n⟩ rfl (w1 := { w with heap := w.heap.push (.cells c' e (0, 0)) }) ?_ rfl rfl rfl rfl (new_cells j2 j3 rfl) (slice_new rfl (Nat.le_refl _) (fun k hk => by cases hk; rfl) (by rw [j4]; simp))
      have hnl : ¬ (16777216 < len * n) := by omega
      simp [execOp, ho, Instr.buildSlice, run_underlying hu, run_sizeOf hn, hnl, hz0, k1]
      rw [j1]
      simp [newRow]
  | load t y =>
    rw [ho] at hop
    simp only [cOp] at hop
    split at hop
    case h_2 => cases hop
    rename_i n y' hn hy
    cases hop
    simp only [evOp] at hev
    split at hev
    case h_2 => cases hev
    rename_i ad had
    obtain ⟨u, hu, rfl, rfl, rfl⟩ := ok1_some hev
    unfold loadAt at hu
    split at hu
    case h_2 => cases hu
    rename_i cs o' hcs
    obtain ⟨b, p, c, e, fr, k1, k2, k3, k4⟩ := cellsAt_rel hf hr hy had hcs
    obtain ⟨v, k5, k6⟩ := load_rel (P := E.P) hn k2 k3 k4 hu
    exact done_val hf hr hd (by simp [execOp, ho, Instr.loadAt, Instr.sureAddr, k1, k5]) k6
  | store t y z =>
    rw [ho] at hop
    simp only [cOp] at hop
    split at hop
    case h_2 => cases hop
    rename_i n y' z' hn hy hz
    cases hop
    simp only [evOp] at hev
    split at hev
    case h_2 => cases hev
    rename_i ad xs had hxs
    split at hev
    case isFalse => cases hev
    rename_i hl
    rw [Option.map_eq_some_iff] at hev
    obtain ⟨⟨s1, h1⟩, hst, hev⟩ := hev
    cases hev
    rw [Option.bind_eq_some_iff] at hxs
    obtain ⟨u, hu, hxs⟩ := hxs
    obtain ⟨k2, k3⟩ := cells_rel (opd_rel hf hz hu) hxs
    have hsz : (a.eval z).cells.size = n := by have := k2.length; simp at this; omega
    refine done_store hf hr hd hy had k2 k3 hst fun adr hadr => ?_
    simp [execOp, ho, Instr.storeAt, Instr.sureAddr, hadr, storeVar, run_sizeOf hn, hsz]
  | nilCheck y =>
    rw [ho] at hop
    simp only [cOp] at hop
    rw [Option.map_eq_some_iff] at hop
    obtain ⟨y', hy, rfl⟩ := hop
    simp only [evOp] at hev
    split at hev
    · rename_i p hp
      obtain ⟨u, hu, rfl, rfl, rfl⟩ := ok1_some hev
      cases hu
      have hv := opd_rel hf hy hp
      have hv' := hv
      obtain ⟨i, o'⟩ := p
      simp only [VRel] at hv'
      obtain ⟨ad, e1, _⟩ := hv'
      rw [e1] at hv
      exact done_val hf hr hd (by simp [execOp, ho, e1]) hv
    · split at hev
      · rename_i t o' had
        split at hev
        · rename_i hv
          cases hev
          obtain ⟨cs, hv⟩ := isVar_some hv
          have e1 := adr_loc hf hy had hv
          exact done_loc hf hr hd (by simp [execOp, ho, e1])
        · cases hev
      · cases hev
  | binOp op t y z yt =>
    rw [ho] at hop
    simp only [cOp, cBin] at hop
    split at hop
    case h_2 => cases hop
    rename_i y' z' hy hz
    have hx : (execOp a.eval o) = (do pure (Next.value (← (do eqGuard op t y z (a.eval y) (a.eval z); binOp op t (a.eval y) (a.eval z) : Sem Value))) : Sem Next) := by simp [execOp, ho]
    have plain : ∀ {r : AVal}, ao = .bin op y' z' → OpDone E lo ν.ds μ w a o.dst ((execOp a.eval o).run E.P w) x s' h' := by
      intro r hao
      subst hao
      simp only [evOp] at hev
      split at hev
      case h_2 => cases hev
      rename_i u1 u2 hu1 hu2
      obtain ⟨u, hu, rfl, rfl, rfl⟩ := ok1_some hev
      have r1 := opd_rel hf hy hu1
      have r2 := opd_rel hf hz hu2
      cases u1 <;> (try (simp only [aBin] at hu; cases hu))
      case int k n =>
        cases u2 <;> (try (simp only [aBin] at hu; cases hu))
        case int k' n' =>
          simp only [VRel] at r1 r2
          obtain ⟨v, j1, j2⟩ := run_bin_int (E := E) (μ := μ) (P := E.P) (t := t) w hu
          refine done_val hf hr hd (v := v) ?_ j2
          rw [hx]
          apply run_v
          rw [r1, r2, Sem.run_bind, run_eqGuard op t y z _ _ w (fun c => by simp) (by simp), Result.andThen_ok]
          exact j1
      case str t1 =>
        cases u2 <;> (try (simp only [aBin] at hu; cases hu))
        case str t2 =>
          simp only [VRel] at r1 r2
          obtain ⟨v, j1, j2⟩ := run_bin_str (E := E) (μ := μ) (P := E.P) (t := t) w hu
          refine done_val hf hr hd (v := v) ?_ j2
          rw [hx]
          apply run_v
          rw [r1, r2, Sem.run_bind, run_eqGuard op t y z _ _ w (fun c => by simp) (by simp), Result.andThen_ok]
          exact j1
    have eqs : ∀ (d : TypeDesc) (neg : Bool), E.P.underlying t = some d → cEq d neg y' z' = some ao → op = (if neg then .neq else .eql) → OpDone E lo ν.ds μ w a o.dst ((execOp a.eval o).run E.P w) x s' h' := by
      intro d neg hu hao hop'
      subst hop'
      have nilcase : ∀ k, kindIs k d → ao = .eqnil k neg y' z' → OpDone E lo ν.ds μ w a o.dst ((execOp a.eval o).run E.P w) x s' h' := by
        intro k hk hao
        subst hao
        simp only [evOp] at hev
        split at hev
        case h_2 => cases hev
        rename_i u1 u2 hu1 hu2
        obtain ⟨u, hu', rfl, rfl, rfl⟩ := ok1_some hev
        rw [Option.map_eq_some_iff] at hu'
        obtain ⟨b, hb, rfl⟩ := hu'
        obtain ⟨j1, j2⟩ := eqNil_rel (P := E.P) w (opd_rel hf hy hu1) (opd_rel hf hz hu2) hu hk hb
        refine done_val hf hr hd (v := .bool (if neg then !b else b)) ?_ (by simp only [VRel])
        rw [hx]
        exact run_v (run_eq j1 y z j2)
      cases d <;> simp only [cEq] at hao <;> (try cases hao)
      · -- two bools
        simp only [evOp] at hev
        split at hev
        case h_2 => cases hev
        rename_i b1 b2 hu1 hu2
        obtain ⟨u, hu', rfl, rfl, rfl⟩ := ok1_some hev
        cases hu'
        have r1 := opd_rel hf hy hu1
        have r2 := opd_rel hf hz hu2
        simp only [VRel] at r1 r2
        refine done_val hf hr hd (v := .bool (if neg then !(b1 == b2) else (b1 == b2))) ?_ (by simp only [VRel, beq_decide])
        rw [hx, r1, r2]
        exact run_v (run_eq rfl y z (beq_rel hu w))
      · exact nilcase .ptr ⟨_, rfl⟩ rfl
      · exact nilcase .slice ⟨_, rfl⟩ rfl
      · exact nilcase .map ⟨_, _, rfl⟩ rfl
      · exact nilcase .func ⟨_, _, _, rfl⟩ rfl
    have aggs : ∀ (d : TypeDesc), E.P.underlying t = some d → ((∃ fs, d = .struct fs) ∨ ∃ n e, d = .array n e) →
        (if E.P.eqGuardType E.P.depth t then none else
          match op, ckOf E.P 20 t with
          | .eql, some ks => some (.ext (.pure (.eqcells false ks)) [y', z'])
          | .neq, some ks => some (.ext (.pure (.eqcells true ks)) [y', z'])
          | _, _ => none) = some ao → OpDone E lo ν.ds μ w a o.dst ((execOp a.eval o).run E.P w) x s' h' := by
      intro d hu hda hop2
      split at hop2
      · cases hop2
      rename_i hg
      have hg : E.P.eqGuardType E.P.depth t = false := by simpa using hg
      have fin : ∀ (neg : Bool) (ks : List CK), ckOf E.P 20 t = some ks → op = (if neg then .neq else .eql) → ao = .ext (.pure (.eqcells neg ks)) [y', z'] → OpDone E lo ν.ds μ w a o.dst ((execOp a.eval o).run E.P w) x s' h' := by
        intro neg ks hks hopn hao
        subst hopn; subst hao
        simp only [evOp] at hev
        split at hev
        case h_2 => cases hev
        rename_i vs hvs
        rw [Option.map_eq_some_iff] at hev
        obtain ⟨⟨v, h1⟩, hap, hev⟩ := hev
        cases hev
        obtain ⟨u1, u2, rfl, hu1, hu2⟩ := evs2 hvs
        obtain ⟨rfl, b, rfl, hrun⟩ := aggs_rel hu hda hg hks (opd_rel hf hy hu1) (opd_rel hf hz hu2) hap y z (w := w)
        refine done_val hf hr hd (v := .bool b) ?_ (by simp only [VRel])
        rw [hx]
        exact run_v hrun
      split at hop2
      · rename_i hks; cases hop2; exact fin false _ hks rfl rfl
      · rename_i hks; cases hop2; exact fin true _ hks rfl rfl
      · cases hop2
    split at hop
    · cases hop; exact plain (r := .nilFunc) rfl
    · cases hop; exact plain (r := .nilFunc) rfl
    · rename_i fs hu
      exact aggs _ hu (.inl ⟨_, rfl⟩) hop
    · rename_i n e hu
      exact aggs _ hu (.inr ⟨_, _, rfl⟩) hop
    · rename_i d _ _ _ _ hu
      split at hop
      · exact eqs d false hu hop rfl
      · exact eqs d true hu hop rfl
      · cases hop
    · cases hop
  | unOp op t y =>
    rw [ho] at hop
    simp only [cOp] at hop
    rw [Option.map_eq_some_iff] at hop
    obtain ⟨y', hy, rfl⟩ := hop
    simp only [evOp] at hev
    split at hev
    case h_2 => cases hev
    rename_i u1 hu1
    obtain ⟨u, hu, rfl, rfl, rfl⟩ := ok1_some hev
    obtain ⟨v, j1, j2⟩ := un_rel (P := E.P) w (opd_rel hf hy hu1) hu
    refine done_val hf hr hd (v := v) ?_ j2
    rw [show execOp a.eval o = (do pure (Next.value (← Op.unary op (a.eval y))) : Sem Next) by simp [execOp, ho]]
    exact run_v j1
  | convert src dst y =>
    rw [ho] at hop
    simp only [cOp, cConv] at hop
    have hx : (execOp a.eval o) = (do pure (Next.value (← convert src dst (a.eval y))) : Sem Next) := by simp [execOp, ho]
    split at hop
    · rename_i y' k0 k hy hs hdt
      cases hop
      simp only [evOp] at hev
      split at hev
      case h_2 => cases hev
      rename_i v hv
      simp only [evConv] at hev
      split at hev
      case h_2 => cases hev
      rename_i k' n
      obtain ⟨u, hu, rfl, rfl, rfl⟩ := ok1_some hev
      cases hu
      have r1 := opd_rel hf hy hv
      simp only [VRel] at r1
      refine done_val hf hr hd (v := .int k (k.wrap n)) ?_ (by simp only [VRel])
      rw [hx, r1]
      exact run_v (by simp [convert, run_underlying hs, run_underlying hdt, Conv.intToInt])
    · rename_i y' hy hs hdt
      cases hop
      simp only [evOp] at hev
      split at hev
      case h_2 => cases hev
      rename_i v hv
      simp only [evConv] at hev
      split at hev
      case h_2 => cases hev
      rename_i t
      obtain ⟨u, hu, rfl, rfl, rfl⟩ := ok1_some hev
      cases hu
      have r1 := opd_rel hf hy hv
      simp only [VRel] at r1
      refine done_val hf hr hd (v := .string ⟨t.toArray⟩) ?_ (by simp only [VRel])
      rw [hx, r1]
      exact run_v (by simp [convert, run_underlying hs, run_underlying hdt])
    · rename_i y' e hy hs hdt
      split at hop
      case isFalse => cases hop
      rename_i hb
      cases hop
      have he : E.P.underlying e = some (.int .u8) := by
        unfold isByte at hb
        split at hb
        · assumption
        · cases hb
      simp only [evOp] at hev
      split at hev
      case h_2 => cases hev
      rename_i v hv
      simp only [evConv] at hev
      split at hev
      case h_2 => cases hev
      rename_i t
      cases hev
      have r1 := opd_rel hf hy hv
      simp only [VRel] at r1
      have hrun := run_bytes_of_string (P := E.P) w src dst e ⟨t.toArray⟩ hs hdt he
      rw [mk_size] at hrun
      have hg := le_grown w t.length 0 e
      generalize hC : bytesRow ⟨t.toArray⟩ (grownCap w t.length 0 e) = C at hrun
      have hCs : C.size = grownCap w t.length 0 e := by
        rw [← hC]; simp [bytesRow, mk_size]; omega
      have hlen : h.size = μ.length := hr.len.symm
      rw [hlen]
      refine done_new hf hr hd _ (.cells C e (C.size, C.size + 1)) ⟨w.heap.size, 0, C.size, 1⟩ rfl (w1 := w.drew.alloc (.cells C e (C.size, C.size + 1))) (by rw [hx, r1]; exact run_v hrun) rfl rfl rfl rfl ?_ (slice_new rfl hg (fun k hk => by cases hk) (by simp [hCs]))
      refine ⟨⟨w.heap.size, 0, C.size, 1⟩, C, e, (C.size, C.size + 1), by simp, rfl, by simp, rfl, by simp [hCs]; exact hg, fun k v' hk => ?_, fun _ off ho' => by simp only at ho'; omega⟩
      simp only [List.getElem?_map, Option.map_eq_some_iff] at hk
      obtain ⟨b, hb', rfl⟩ := hk
      refine ⟨rfl, .int .u8 b.toNat, ?_, by simp only [VRel]⟩
      have hkl := lt_of_get hb'
      rw [← hC]
      simp only [bytesRow, Nat.zero_add]
      rw [Array.getElem?_append_left (by simpa using hkl)]
      simp [hb']
    · rename_i y' e hy hs hdt
      split at hop
      case isFalse => cases hop
      rename_i hb
      cases hop
      have he : E.P.underlying e = some (.int .u8) := by
        unfold isByte at hb
        split at hb
        · assumption
        · cases hb
      simp only [evOp] at hev
      split at hev
      case h_2 => cases hev
      rename_i v hv
      simp only [evConv] at hev
      split at hev
      case h_2 => cases hev
      rename_i ad n c
      split at hev
      case h_2 => cases hev
      rename_i t ht
      obtain ⟨u, hu, rfl, rfl, rfl⟩ := ok1_some hev
      cases hu
      rw [Option.bind_eq_some_iff] at ht
      obtain ⟨cs, hcs, ht⟩ := ht
      have r1 := opd_rel hf hy hv
      obtain ⟨l, n1, o1, o2, o3, o4, o5, o6⟩ := rowOf_rel hr r1 hcs
      obtain ⟨ns, e2, e3⟩ := bytesOf_rel ht o1
      simp only [alen] at o5
      subst o5
      refine done_val hf hr hd (v := .string ⟨t.toArray⟩) ?_ (by simp only [VRel])
      rw [hx]
      apply run_v
      cases ad with
      | none =>
        simp only [VRel] at r1
        obtain ⟨r2, _, r3⟩ := r1
        subst r2
        have hl0 : l = [] := List.eq_nil_of_length_eq_zero (by simpa using o4)
        rw [hl0] at e2
        have hns : ns = [] := by simpa using e2.symm
        rw [r3, run_convert_bytes_nil (P := E.P) w src e hs he 0 0 dst hdt, e3, hns]
        rfl
      | some io =>
        simp only [VRel] at r1
        obtain ⟨adr, cap, r2, _⟩ := r1
        have hl := o6 E.P w rfl
        rw [r2] at hl
        simp only [Builtin.firstCells, Nat.mul_one] at hl
        rw [e2] at hl
        rw [r2, run_convert_bytes_string w src dst e (some adr) n1 cap hs he hdt, run_bytesToString w adr n1 cap ns hl, foldl_push, e3]
        rfl
    · cases hop
  | makeFunc fn fs cs =>
    rw [ho] at hop
    cases fn with
    | func f =>
      simp only [cOp] at hop
      split at hop
      case h_2 => cases hop
      rename_i g f' c' hg hff hcc
      cases hop
      simp only [evOp] at hev
      split at hev
      case h_2 => cases hev
      rename_i fv cv hfv hcv
      obtain ⟨u, hu, rfl, rfl, rfl⟩ := ok1_some hev
      cases hu
      refine done_val hf hr hd (v := .func (.func f) (fs.map a.eval) (cs.map a.eval)) (by simp [execOp, ho, Instr.makeFunc]) ?_
      simp only [VRel]
      exact ⟨f, _, _, rfl, hg, by simpa using opds_rel hf hff hfv, by simpa using opds_rel hf hcc hcv⟩
    | _ => simp [cOp] at hop
  | makeSlice t l c =>
    rw [ho] at hop
    simp only [cOp] at hop
    split at hop
    case h_2 => cases hop
    rename_i e hu
    split at hop
    case h_2 => cases hop
    rename_i i z l' c' hi hz hl hc
    split at hop
    case isFalse => cases hop
    rename_i hh
    obtain ⟨hzl, h0⟩ := hh
    cases hop
    simp only [evOp] at hev
    split at hev
    case h_2 => cases hev
    rename_i kl n kc m hlv hcv
    split at hev
    case isFalse => cases hev
    rename_i hb
    obtain ⟨b1, b2, b3, b4, rfl, rfl⟩ := hb
    cases hev
    have r1 := opd_rel hf hl hlv
    have r2 := opd_rel hf hc hcv
    simp only [VRel] at r1 r2
    obtain ⟨i', v, hi', hv, hzt⟩ := info_zero hz
    rw [hi] at hi'; cases hi'
    obtain ⟨k2, k3⟩ := toAs_rel (E := E) hzt μ
    obtain ⟨j1, j2⟩ := rep_rel (n := m.toNat) k2 k3 hzl h0
    have hlen : h.size = μ.length := hr.len.symm
    rw [hlen]
    obtain ⟨n0, rfl⟩ := Int.eq_ofNat_of_zero_le b1
    obtain ⟨m0, rfl⟩ := Int.eq_ofNat_of_zero_le (show 0 ≤ m by omega)
    simp only [Int.toNat_natCast] at j1 j2 ⊢
    have hbb : i.bytes * (m0 : Int) ≤ 281474976710656 := by
      rw [Int.mul_comm]; omega
    have hmk := run_make_rowN' (P := E.P) t e i v hu hi hv n0 m0 (by omega) hbb (by omega) w
    generalize hC : ((Array.range (m0 * i.size)).map fun j => v.cells[j % v.cells.size]!) = C at j1 hmk
    have hCs : C.size = m0 * i.size := by rw [← hC]; simp
    refine done_new hf hr hd _ (.cells C e (0, 0)) ⟨w.heap.size, 0, C.size, i.size⟩ rfl (w1 := { w with heap := w.heap.push (.cells C e (0, 0)) }) ?_ rfl rfl rfl rfl (new_cells j1 j2 rfl) (slice_new (n := n0) (cap := m0) rfl (by omega) (fun k hk => by cases hk; rfl) (by simp [hCs]))
    rw [show execOp a.eval o = (do pure (Next.value (← Instr.makeSlice t (a.eval l) (a.eval c))) : Sem Next) by simp [execOp, ho], r1, r2]
    exact run_v hmk
  | slice t y l1 l2 l3 =>
    rw [ho] at hop
    have hop2 := hop
    have hao : ∃ k y' m1 m2 m3, ao = .slice k y' m1 m2 m3 := by
      simp only [cOp] at hop2
      split at hop2
      · split at hop2
        · cases hop2; exact ⟨_, _, _, _, _, rfl⟩
        · rw [Option.map_eq_some_iff] at hop2; obtain ⟨_, _, rfl⟩ := hop2; exact ⟨_, _, _, _, _, rfl⟩
        · rw [Option.map_eq_some_iff] at hop2; obtain ⟨_, _, rfl⟩ := hop2; exact ⟨_, _, _, _, _, rfl⟩
        · cases hop2
      · cases hop2
    obtain ⟨k, y', m1, m2, m3, hao⟩ := hao
    have hop' : cOp E false (.slice t y l1 l2 l3) = some ao := by rw [← hop]; rfl
    subst hao
    simp only [evOp] at hev
    split at hev
    case h_2 => cases hev
    rename_i lv hv mv hlv hhv hmv
    obtain ⟨u, hu, rfl, rfl, rfl⟩ := ok1_some hev
    obtain ⟨v, j1, j2⟩ := slice_rel hf hr hop' rfl hlv hhv hmv hu
    refine done_val hf hr hd (v := v) ?_ j2
    rw [show execOp a.eval o = (do pure (Next.value (← Instr.sliceAt t (a.eval y) (l1.map a.eval) (l2.map a.eval) (l3.map a.eval))) : Sem Next) by simp [execOp, ho]]
    exact run_v j1
  | fieldAddr t y fi =>
    rw [ho] at hop
    simp only [cOp] at hop
    split at hop
    case h_2 => cases hop
    rename_i fs y' hu hy
    split at hop
    case h_2 => cases hop
    rename_i fl hfl
    split at hop
    case h_2 => cases hop
    rename_i k hk
    cases hop
    have hz := run_sizeOf (P := E.P) hk w
    have hrun : ∀ b o', a.eval y = .pointer (some ⟨b, o', none⟩) → (execOp a.eval o).run E.P w = .ok (.value (.pointer (some ⟨b, o' + fl.offset, none⟩))) w := by
      intro b o' hy'
      simp [execOp, ho, Instr.fieldAt, run_underlying hu, hfl, hy', Instr.sureAddr, fieldPlace, hz, add_plain]
    simp only [evOp] at hev
    split at hev
    · rename_i i o' had
      obtain ⟨u, hu', rfl, rfl, rfl⟩ := ok1_some hev
      cases hu'
      obtain ⟨adr, k1, xx, k2, k3⟩ := adr_glob hf hy had
      cases xx with
      | none =>
        -- an object that is gone: whatever stands there
        obtain ⟨b, o2, sp⟩ := adr
        cases sp with
        | none =>
          refine done_val hf hr hd (hrun b o2 k1) ?_
          simp only [VRel]
          exact ⟨_, rfl, none, k2, fun m hm => by cases hm⟩
        | some sp =>
          refine done_val hf hr hd (v := .pointer (some ((⟨b, o2, some sp⟩ : Addr).add fl.offset))) ?_ ?_
          · simp [execOp, ho, Instr.fieldAt, run_underlying hu, hfl, k1, Instr.sureAddr, fieldPlace, hz]
          · simp only [VRel]
            exact ⟨_, rfl, none, k2, fun m hm => by cases hm⟩
      | some m =>
        have := k3 m rfl; subst this
        refine done_val hf hr hd (hrun _ _ k1) ?_
        simp only [VRel]
        exact ⟨_, rfl, some m, k2, fun m' hm => by cases hm; rw [Nat.add_assoc]⟩
    · rename_i t' o' had
      split at hev
      · rename_i hv
        cases hev
        obtain ⟨cs, hv⟩ := isVar_some hv
        exact done_loc hf hr hd (hrun _ _ (adr_loc hf hy had hv))
      · cases hev
    · cases hev
  | field t y fi =>
    rw [ho] at hop
    simp only [cOp] at hop
    split at hop
    case h_2 => cases hop
    rename_i fs y' hu hy
    split at hop
    case h_2 => cases hop
    rename_i fl hfl
    rw [Option.map_eq_some_iff] at hop
    obtain ⟨n, hn, rfl⟩ := hop
    simp only [evOp] at hev
    split at hev
    case h_2 => cases hev
    rename_i cs hcs
    obtain ⟨u, hu', rfl, rfl, rfl⟩ := ok1_some hev
    have r1 := opd_rel hf hy hcs
    simp only [VRel] at r1
    obtain ⟨c, r2, r3, r4⟩ := r1
    obtain ⟨v, j1, j2⟩ := part_rel (P := E.P) w hn r3 r4 hu'
    exact done_val hf hr hd (by simp [execOp, ho, Instr.field, run_underlying hu, hfl, r2, asAgg, j1]) j2
  | indexAddr t y z =>
    rw [ho] at hop
    simp only [cOp] at hop
    split at hop
    · rename_i e y' z' hu hy hz
      rw [Option.map_eq_some_iff] at hop
      obtain ⟨n, hn, rfl⟩ := hop
      simp only [evOp] at hev
      split at hev
      case h_2 => cases hev
      rename_i b o' len cap iv hyv hzv
      obtain ⟨u, hu', rfl, rfl, rfl⟩ := ok1_some hev
      rw [Option.map_eq_some_iff] at hu'
      obtain ⟨j, hj, rfl⟩ := hu'
      obtain ⟨kd, i, r1, r2, r3, r4⟩ := inBounds_rel (opd_rel hf hz hzv) hj
      have r5 := opd_rel hf hy hyv
      simp only [VRel] at r5
      obtain ⟨ad, cp, q1, q2, q3, q4, q5, q6⟩ := r5
      obtain ⟨xx, q7, q8⟩ := q3 (by omega)
      refine done_val hf hr hd (v := .pointer (some (ad.add (j * n)))) ?_ ?_
      · have hlt : i < (len : Int) := r3
        simp [execOp, ho, Instr.indexAt, r1, asIntOf, run_underlying hu, q1, r2, hlt, run_sizeOf hn, r4]
      · simp only [VRel]
        exact ⟨_, rfl, xx, q7, fun m hm => by rw [q8 m hm, add_plain, Nat.add_assoc]⟩
    · rename_i len e y' z' hu hy hz
      rw [Option.map_eq_some_iff] at hop
      obtain ⟨n, hn, rfl⟩ := hop
      have hrun : ∀ ad kd i, a.eval y = .pointer (some ad) → a.eval z = .int kd i → 0 ≤ i → i < (len : Int) →
          (execOp a.eval o).run E.P w = .ok (.value (.pointer (some (ad.add (i.toNat * n))))) w := by
        intro ad kd i h1 h2 h3 h4
        simp [execOp, ho, Instr.indexAt, h2, asIntOf, run_underlying hu, h1, Instr.sureAddr, h3, h4, run_sizeOf hn]
      simp only [evOp] at hev
      split at hev
      · rename_i b o' iv had hzv
        obtain ⟨u, hu', rfl, rfl, rfl⟩ := ok1_some hev
        rw [Option.map_eq_some_iff] at hu'
        obtain ⟨j, hj, rfl⟩ := hu'
        obtain ⟨kd, i, r1, r2, r3, r4⟩ := inBounds_rel (opd_rel hf hz hzv) hj
        obtain ⟨adr, k1, xx, k2, k3⟩ := adr_glob hf hy had
        refine done_val hf hr hd (hrun adr kd i k1 r1 r2 r3) ?_
        simp only [VRel]
        exact ⟨_, rfl, xx, k2, fun m hm => by rw [k3 m hm, add_plain, Nat.add_assoc, r4]⟩
      · rename_i t' o' iv had hzv
        split at hev
        case isFalse => cases hev
        rename_i hv
        rw [Option.map_eq_some_iff] at hev
        obtain ⟨j, hj, hev⟩ := hev
        cases hev
        obtain ⟨kd, i, r1, r2, r3, r4⟩ := inBounds_rel (opd_rel hf hz hzv) hj
        obtain ⟨cs, hv⟩ := isVar_some hv
        have k1 := adr_loc hf hy had hv
        have := hrun _ kd i k1 r1 r2 r3
        rw [add_plain, ← r4] at this
        exact done_loc hf hr hd this
      · cases hev
    · cases hop
  | index t y z =>
    rw [ho] at hop
    simp only [cOp] at hop
    split at hop
    · rename_i y' z' hu hy hz
      cases hop
      simp only [evOp] at hev
      split at hev
      case h_2 => cases hev
      rename_i t' iv hyv hzv
      obtain ⟨u, hu', rfl, rfl, rfl⟩ := ok1_some hev
      rw [Option.bind_eq_some_iff] at hu'
      obtain ⟨j, hj, hu'⟩ := hu'
      rw [Option.map_eq_some_iff] at hu'
      obtain ⟨b, hb, rfl⟩ := hu'
      obtain ⟨kd, i, r1, r2, r3, r4⟩ := inBounds_rel (opd_rel hf hz hzv) hj
      have r5 := opd_rel hf hy hyv
      simp only [VRel] at r5
      refine done_val hf hr hd (v := .int .u8 b.toNat) ?_ (by simp only [VRel])
      have hb' : (⟨t'.toArray⟩ : ByteArray)[i.toNat]? = some b := by rw [string_get, ← r4]; exact hb
      simp [execOp, ho, Instr.index, r1, asIntOf, run_underlying hu, r5, r2, hb']
    · rename_i len e y' z' hu hy hz
      split at hop
      case h_2 => cases hop
      rename_i n k hn hk
      cases hop
      simp only [evOp] at hev
      split at hev
      case h_2 => cases hev
      rename_i cs iv hyv hzv
      obtain ⟨u, hu', rfl, rfl, rfl⟩ := ok1_some hev
      rw [Option.bind_eq_some_iff] at hu'
      obtain ⟨j, hj, hu'⟩ := hu'
      obtain ⟨kd, i, r1, r2, r3, r4⟩ := inBounds_rel (opd_rel hf hz hzv) hj
      have r5 := opd_rel hf hy hyv
      simp only [VRel] at r5
      obtain ⟨c, r6, r7, r8⟩ := r5
      obtain ⟨v, j1, j2⟩ := part_rel (P := E.P) w hk r7 r8 hu'
      rw [r4] at j1
      have hlt : i < (len : Int) := r3
      exact done_val hf hr hd (v := v) (by simp [execOp, ho, Instr.index, r1, asIntOf, run_underlying hu, r6, r2, hlt, run_sizeOf hn, j1]) j2
    · cases hop
  | extract y i =>
    rw [ho] at hop
    simp only [cOp] at hop
    rw [Option.map_eq_some_iff] at hop
    obtain ⟨y', hy, rfl⟩ := hop
    simp only [evOp] at hev
    split at hev
    case h_2 => cases hev
    rename_i vs hvs
    obtain ⟨u, hu, rfl, rfl, rfl⟩ := ok1_some hev
    have r1 := opd_rel hf hy hvs
    simp only [VRel] at r1
    obtain ⟨vs', r2, r3⟩ := r1
    obtain ⟨v, r4, r5⟩ := r3.get hu
    have r4' : vs'[i]? = some v := by simpa using r4
    exact done_val hf hr hd (v := v) (by simp [execOp, ho, Instr.extract, r2, r4']) r5
  | call c =>
    rw [ho] at hop
    simp only [cOp, cCall] at hop
    split at hop
    · rename_i f hcal
      split at hop
      · cases hop; exact absurd rfl (hc2 _ _)
      · rename_i as hg has
        rw [Option.map_eq_some_iff] at hop
        obtain ⟨k, hk, rfl⟩ := hop
        exact prim_done hf hr hd ho hcal has hk hev
      · cases hop
    · split at hop
      · cases hop; exact absurd rfl (hc1 _ _)
      · cases hop
    · rename_i b hcal
      have hx : ∃ bs, ∀ (ts : List TypeId) (l : List Operand), c.argTypes.toList = ts → c.args.toList = l → (execOp a.eval o).run E.P w = (builtin b ts.toArray o.type bs (l.map a.eval).toArray).run E.P w := by
        refine ⟨c.args.map fun | .const _ => true | _ => false, fun ts l hts hl => ?_⟩
        have h1 : c.args.map a.eval = (l.map a.eval).toArray := by subst hl; apply Array.ext'; simp
        have h2 : c.argTypes = ts.toArray := by rw [← hts]
        simp only [execOp, ho, resolve, hcal, h1, ← h2]
        rfl
      obtain ⟨bs, hx⟩ := hx
      split at hop
      · -- len
        rename_i t y hat hargs
        have hx := hx _ _ hat hargs
        have fin : ∀ {u : AVal} {v : Value}, (Builtin.len_ #[t] o.type #[a.eval y]).run E.P w = .ok v w → VRel E μ u v → OpDone E lo ν.ds μ w a o.dst ((execOp a.eval o).run E.P w) (.val u) s h := by
          intro u v h1 h2
          refine done_val hf hr hd (v := v) ?_ h2
          rw [hx]
          exact run_v h1
        split at hop
        · rename_i hu
          rw [Option.map_eq_some_iff] at hop
          obtain ⟨y', hy, rfl⟩ := hop
          simp only [evOp] at hev
          split at hev
          case h_2 => cases hev
          rename_i v hv
          obtain ⟨u, hu', rfl, rfl, rfl⟩ := ok1_some hev
          simp only [evLen] at hu'
          split at hu'
          case h_2 => cases hu'
          cases hu'
          have r1 := opd_rel hf hy hv
          simp only [VRel] at r1
          exact fin (by simp [Builtin.len_, run_underlying hu, r1, mk_size]; rfl) (by simp only [VRel, goInt])
        · rename_i hu
          rw [Option.map_eq_some_iff] at hop
          obtain ⟨y', hy, rfl⟩ := hop
          simp only [evOp] at hev
          split at hev
          case h_2 => cases hev
          rename_i v hv
          obtain ⟨u, hu', rfl, rfl, rfl⟩ := ok1_some hev
          simp only [evLen] at hu'
          split at hu'
          case h_2 => cases hu'
          cases hu'
          rename_i ad n cp
          have r1 := opd_rel hf hy hv
          cases ad with
          | none =>
            simp only [VRel] at r1
            obtain ⟨r2, _, r3⟩ := r1
            subst r2
            exact fin (v := goInt 0) (by simp [Builtin.len_, run_underlying hu, r3]) (by simp only [VRel, goInt]; rfl)
          | some p =>
            simp only [VRel] at r1
            obtain ⟨adr, cap, r2, _⟩ := r1
            exact fin (by simp [Builtin.len_, run_underlying hu, r2]; rfl) (by simp only [VRel, goInt])
        · rename_i hu
          rw [Option.map_eq_some_iff] at hop
          obtain ⟨y', hy, rfl⟩ := hop
          simp only [evOp] at hev
          split at hev
          case h_2 => cases hev
          rename_i v hv
          obtain ⟨u, hu', rfl, rfl, rfl⟩ := ok1_some hev
          simp only [evLen] at hu'
          split at hu'
          · cases hu'
            have r1 := opd_rel hf hy hv
            simp only [VRel] at r1
            exact fin (v := goInt 0) (by simp [Builtin.len_, run_underlying hu, r1]) (by simp only [VRel, goInt])
          · rename_i i
            split at hu'
            · rename_i es ck hg
              cases hu'
              have r1 := opd_rel hf hy hv
              simp only [VRel] at r1
              obtain ⟨b', xx, r2, r3, r4⟩ := r1
              obtain ⟨m, es', q1, q2, q3, _⟩ := hr.obj i _ hg
              rw [r3] at q1; cases q1
              have := r4 m rfl; subst this
              refine fin (v := .int .i64 es'.size) ?_ (by simp only [VRel, q3])
              have hgo : (getObj m.blk).run E.P w = .ok (.map es' ck) w := by simp [getObj, Sem.run, q2]
              simp [Builtin.len_, run_underlying hu, r2, hgo, goInt]
            · cases hu'
          · cases hu'
        · cases hop
      · -- append
        rename_i t u y z hat hargs
        have hx := hx _ _ hat hargs
        have fin : ∀ (e : TypeId) (i : TypeInfo) (zv : Value) (y' z' : Opd), E.P.underlying t = some (.slice e) → ((∃ e', E.P.underlying u = some (.slice e')) ∨ E.P.underlying u = some .string) → cOpd E y = some y' → cOpd E z = some z' →
            E.P.info? e = some i → i.zero = some zv → zv.cells.size = i.size → ao = .append i.size i.bytes y' z' → OpDone E lo ν.ds μ w a o.dst ((execOp a.eval o).run E.P w) x s' h' := by
          intro e i zv y' z' ht hu hy hz hi hzv hzs hao
          subst hao
          simp only [evOp] at hev
          split at hev
          case h_2 => cases hev
          rename_i u1 u2 hu1 hu2
          rw [Option.map_eq_some_iff] at hev
          obtain ⟨⟨v, h1⟩, hap, hev⟩ := hev
          cases hev
          have r1 := opd_rel hf hy hu1
          have r2 := opd_rel hf hz hu2
          exact append_done (ty := o.type) hf hr hd ht hu hi hzv hzs r1 r2 hap (by rw [hx]; simp only [builtin]; rw [Sem.run_bind]; rfl)
        split at hop
        · rename_i e e' y' z' ht hu hy hz
          split at hop
          case h_2 => cases hop
          rename_i i hi
          split at hop
          case h_2 => cases hop
          rename_i zv hzv
          split at hop
          case isFalse => cases hop
          rename_i hzs
          cases hop
          exact fin e i zv y' z' ht (.inl ⟨_, hu⟩) hy hz hi hzv hzs rfl
        · rename_i e y' z' ht hu hy hz
          split at hop
          case h_2 => cases hop
          rename_i i hi
          split at hop
          case h_2 => cases hop
          rename_i zv hzv
          split at hop
          case isFalse => cases hop
          rename_i hzs
          cases hop
          exact fin e i zv y' z' ht (.inr hu) hy hz hi hzv hzs rfl
        · cases hop
      · -- cap
        rename_i t y hat hargs
        have hx := hx _ _ hat hargs
        split at hop
        case h_2 => cases hop
        rename_i e hu
        rw [Option.map_eq_some_iff] at hop
        obtain ⟨y', hy, rfl⟩ := hop
        simp only [evOp, evs] at hev
        cases hv : y'.ev s with
        | none => rw [hv] at hev; cases hev
        | some v =>
          rw [hv] at hev
          simp only at hev
          rw [Option.map_eq_some_iff] at hev
          obtain ⟨⟨u, h1⟩, hap, hev⟩ := hev
          cases hev
          have r1 := opd_rel hf hy hv
          simp only [evExt, evPure] at hap
          rw [Option.map_eq_some_iff] at hap
          obtain ⟨u', hap, hu'⟩ := hap
          cases hu'
          cases v <;> simp only [evCap, reduceCtorEq] at hap
          rename_i ad n cp
          cases cp with
          | none => cases hap
          | some k =>
            simp only at hap
            cases hap
            have : ∃ b n', a.eval y = .slice b n' k := by
              cases ad with
              | none => simp only [VRel] at r1; obtain ⟨_, e1, e2⟩ := r1; cases e1; exact ⟨_, _, e2⟩
              | some p => simp only [VRel] at r1; obtain ⟨b, cap, e1, _, _, e2, _⟩ := r1; rw [e2 k rfl] at e1; exact ⟨_, _, e1⟩
            obtain ⟨b, n', e1⟩ := this
            refine done_val hf hr hd (v := .int .i64 k) ?_ (by simp only [VRel])
            rw [hx]
            refine run_v (S := Builtin.cap_ #[t] o.type #[a.eval y]) ?_
            simp [Builtin.cap_, run_underlying hu, e1, goInt]
      · -- delete
        rename_i t ts y z hat hargs
        have hx := hx _ _ hat hargs
        split at hop
        case h_2 => cases hop
        rename_i k e hu
        split at hop
        case h_2 => cases hop
        rename_i kn y' z' hk hy hz
        cases hop
        simp only [evOp] at hev
        split at hev
        case h_2 => cases hev
        rename_i vs hvs
        rw [Option.map_eq_some_iff] at hev
        obtain ⟨⟨v, h1⟩, hap, hev⟩ := hev
        cases hev
        obtain ⟨u1, u2, rfl, hu1, hu2⟩ := evs2 hvs
        exact delete_done hf hr hd (ts := (t :: ts).toArray) (ty := o.type) rfl hu hk (opd_rel hf hy hu1) (opd_rel hf hz hu2) hap (by rw [hx]; simp only [builtin]; rw [Sem.run_bind]; rfl)
      · -- min
        rename_i ts ys
        rw [Option.map_eq_some_iff] at hop
        obtain ⟨ys', hys, rfl⟩ := hop
        have hx := hx _ _ rfl rfl
        simp only [evOp] at hev
        split at hev
        case h_2 => cases hev
        rename_i v0 vs hvs
        obtain ⟨u, hu, rfl, rfl, rfl⟩ := ok1_some hev
        have r1 := opds_rel hf hys hvs
        simp only [VRels] at r1
        obtain ⟨x0, xs, e1, r2, r3⟩ := r1
        obtain ⟨v, j1, j2⟩ := mins_rel (P := E.P) w r2 r3 hu
        refine done_val hf hr hd (v := v) ?_ j2
        rw [hx]
        refine run_v (S := Builtin.min_ c.argTypes o.type (c.args.toList.map a.eval).toArray) ?_
        simp only [Builtin.min_, e1]
        simpa using j1
      · rename_i ts ys
        rw [Option.map_eq_some_iff] at hop
        obtain ⟨ys', hys, rfl⟩ := hop
        have hx := hx _ _ rfl rfl
        simp only [evOp] at hev
        split at hev
        case h_2 => cases hev
        rename_i v0 vs hvs
        obtain ⟨u, hu, rfl, rfl, rfl⟩ := ok1_some hev
        have r1 := opds_rel hf hys hvs
        simp only [VRels] at r1
        obtain ⟨x0, xs, e1, r2, r3⟩ := r1
        obtain ⟨v, j1, j2⟩ := mins_rel (P := E.P) w r2 r3 hu
        refine done_val hf hr hd (v := v) ?_ j2
        rw [hx]
        refine run_v (S := Builtin.max_ c.argTypes o.type (c.args.toList.map a.eval).toArray) ?_
        simp only [Builtin.max_, e1]
        simpa using j1
      · cases hop
    · cases hop
  | makeMap t hint =>
    have fin : ao = .ext .mkmap [] → (hint = none ∨ ∃ k n, hint = some (.const (.int k n)) ∧ ∃ a b, E.P.underlying t = some (.map a b)) → OpDone E lo ν.ds μ w a o.dst ((execOp a.eval o).run E.P w) x s' h' := by
      intro hao hh
      subst hao
      simp only [evOp, evs, evExt, Option.map_some] at hev
      cases hev
      have hlen : h.size = μ.length := hr.len.symm
      rw [hlen]
      refine done_new hf hr hd (.map [] 0) (.map #[] 0) ⟨w.heap.size, 0, 0, 0⟩ rfl (w1 := { w with heap := w.heap.push (.map #[] 0) }) (v := .map (some w.heap.size)) ?_ rfl rfl rfl rfl ?_ ?_
      · rcases hh with rfl | ⟨k, n, rfl, p, q, hu⟩
        · simp [execOp, ho, Instr.makeMap]
        · simp [execOp, ho, Instr.makeMap, run_underlying hu, asInt, asIntOf, Act.eval]
      · exact ⟨⟨w.heap.size, 0, 0, 0⟩, #[], by rw [List.getElem?_append_right (Nat.le_refl _)]; simp, by simp, rfl, by simp⟩
      · simp only [VRel]
        exact ⟨w.heap.size, some ⟨w.heap.size, 0, 0, 0⟩, rfl, by rw [List.getElem?_append_right (Nat.le_refl _)]; simp, fun m hm => by cases hm; rfl⟩
    rw [ho] at hop
    cases hint with
    | none => simp only [cOp] at hop; cases hop; exact fin rfl (.inl rfl)
    | some y =>
      cases y with
      | const v =>
        cases v with
        | int k n =>
          simp only [cOp] at hop
          split at hop
          · rename_i hu
            cases hop
            exact fin rfl (.inr ⟨_, _, rfl, _, _, hu⟩)
          · cases hop
        | _ => simp [cOp] at hop
      | _ => simp [cOp] at hop
  | lookup t y z ok =>
    rw [ho] at hop
    simp only [cOp] at hop
    split at hop
    case h_2 => cases hop
    rename_i k e hu
    split at hop
    case h_2 => cases hop
    rename_i kn zv y' z' hk hzv hy hz
    cases hop
    simp only [evOp] at hev
    split at hev
    case h_2 => cases hev
    rename_i vs hvs
    rw [Option.map_eq_some_iff] at hev
    obtain ⟨⟨v, h1⟩, hap, hev⟩ := hev
    cases hev
    obtain ⟨u1, u2, rfl, hu1, hu2⟩ := evs2 hvs
    obtain ⟨rfl, r, j1, j2⟩ := lookup_rel hr hu hk hzv (opd_rel hf hy hu1) (opd_rel hf hz hu2) hap
    refine done_val hf hr hd (v := r) ?_ j2
    simp only [execOp, ho]
    exact run_v j1
  | mapUpdate t m y z =>
    rw [ho] at hop
    simp only [cOp] at hop
    split at hop
    case h_2 => cases hop
    rename_i k e hu
    split at hop
    case h_2 => cases hop
    rename_i kn m' y' z' hk hm hy hz
    cases hop
    simp only [evOp] at hev
    split at hev
    case h_2 => cases hev
    rename_i vs hvs
    rw [Option.map_eq_some_iff] at hev
    obtain ⟨⟨v, h1⟩, hap, hev⟩ := hev
    cases hev
    obtain ⟨u1, u2, u3, rfl, hu1, hu2, hu3⟩ := evs3 hvs
    refine mapupd_done hf hr hd hu hk (opd_rel hf hm hu1) (opd_rel hf hy hu2) (opd_rel hf hz hu3) hap ?_
    simp only [execOp, ho]
    rw [Sem.run_bind]; rfl
  | insert t m y z =>
    rw [ho] at hop
    simp only [cOp] at hop
    split at hop
    case h_2 => cases hop
    rename_i k e hu
    split at hop
    case h_2 => cases hop
    rename_i kn m' y' z' hk hm hy hz
    cases hop
    simp only [evOp] at hev
    split at hev
    case h_2 => cases hev
    rename_i vs hvs
    rw [Option.map_eq_some_iff] at hev
    obtain ⟨⟨v, h1⟩, hap, hev⟩ := hev
    cases hev
    obtain ⟨u1, u2, u3, rfl, hu1, hu2, hu3⟩ := evs3 hvs
    refine mapupd_done hf hr hd hu hk (opd_rel hf hm hu1) (opd_rel hf hy hu2) (opd_rel hf hz hu3) hap ?_
    simp only [execOp, ho]
    rw [Sem.run_bind]; rfl
  | range t y =>
    rw [ho] at hop
    simp only [cOp] at hop
    split at hop
    case h_2 => cases hop
    rename_i k e hu
    rw [Option.map_eq_some_iff] at hop
    obtain ⟨y', hy, rfl⟩ := hop
    simp only [evOp] at hev
    split at hev
    case h_2 => cases hev
    rename_i vs hvs
    rw [Option.map_eq_some_iff] at hev
    obtain ⟨⟨v, h1⟩, hap, hev⟩ := hev
    cases hev
    simp only [evs] at hvs
    split at hvs
    case h_2 => cases hvs
    rename_i u us hu1 hus
    cases hus; cases hvs
    have hlen : h.size = μ.length := hr.len.symm
    have hyr := opd_rel hf hy hu1
    unfold evExt at hap
    split at hap
    case h_1 => simp_all
    case h_2 =>
      rename_i e1 e2
      cases e2
      cases hap
      simp only [VRel] at hyr
      rw [hlen]
      refine done_new hf hr hd (.mapIter none 0 [] 0) (.mapIter none 0 #[] 0) ⟨w.heap.size, 0, 0, 0⟩ rfl (w1 := { w with heap := w.heap.push (.mapIter none 0 #[] 0) }) (v := .pointer (some ⟨w.heap.size, 0, none⟩)) ?_ rfl rfl rfl rfl ?_ ?_
      · simp only [execOp, ho]
        refine run_v ?_
        rw [hyr]
        simp [Instr.range, run_underlying hu, newObj, Sem.run]
      · exact ⟨⟨w.heap.size, 0, 0, 0⟩, none, ⟨by rw [List.getElem?_append_right (Nat.le_refl _)]; simp, rfl⟩, by simp, by simp [VRel]⟩
      · simp only [VRel, ARel]
        exact ⟨_, rfl, some ⟨w.heap.size, 0, 0, 0⟩, by rw [List.getElem?_append_right (Nat.le_refl _)]; simp, fun m hm => by cases hm; rfl⟩
    case h_3 =>
      rename_i r e1 e2
      cases e2
      split at hap
      case h_2 => cases hap
      rename_i es clock hgr
      cases hap
      obtain ⟨m, es', q1, q2, q3, q4⟩ := hr.obj _ _ hgr
      have hyr' := hyr
      simp only [VRel] at hyr
      obtain ⟨bm, xo, r1, r2, r3⟩ := hyr
      rw [q1] at r2; cases r2
      have r3 := r3 m rfl
      subst r3
      rw [r1] at hyr'
      rw [hlen]
      refine done_new hf hr hd (.mapIter (some r) clock [] clock) (.mapIter (some m.blk) clock #[] clock) ⟨w.heap.size, 0, 0, 0⟩ rfl (w1 := { w with heap := w.heap.push (.mapIter (some m.blk) clock #[] clock) }) (v := .pointer (some ⟨w.heap.size, 0, none⟩)) ?_ rfl rfl rfl rfl ?_ ?_
      · simp only [execOp, ho]
        refine run_v ?_
        rw [r1]
        simp [Instr.range, run_underlying hu, MapKept.run_getObj_map q2, newObj, Sem.run]
      · exact ⟨⟨w.heap.size, 0, 0, 0⟩, some m.blk, ⟨by rw [List.getElem?_append_right (Nat.le_refl _)]; simp, rfl⟩, by simp, hyr'.later (later_push μ _)⟩
      · simp only [VRel, ARel]
        exact ⟨_, rfl, some ⟨w.heap.size, 0, 0, 0⟩, by rw [List.getElem?_append_right (Nat.le_refl _)]; simp, fun m hm => by cases hm; rfl⟩
    all_goals simp_all
  | entry y =>
    rw [ho] at hop
    simp only [cOp] at hop
    rw [Option.map_eq_some_iff] at hop
    obtain ⟨y', hy, rfl⟩ := hop
    simp only [evOp] at hev
    split at hev
    case h_2 => cases hev
    rename_i vs hvs
    rw [Option.map_eq_some_iff] at hev
    obtain ⟨⟨v, h1⟩, hap, hev⟩ := hev
    cases hev
    simp only [evs] at hvs
    split at hvs
    case h_2 => cases hvs
    rename_i u us hu1 hus
    cases hus; cases hvs
    exact entry_done hf hr hd (opd_rel hf hy hu1) hap (by simp only [execOp, ho]; rw [Sem.run_bind]; rfl)
  | _ => rw [ho] at hop; simp [cOp] at hop

end
end Go.Abs

/-
  The evaluator without a count of rounds: what it gives with any count that is great enough; and its equations, by which proofs rewrite.
-/
namespace Go.Abs

def Le {α : Type} (a b : Option α) : Prop := ∀ r, a = some r → b = some r
theorem Le.refl {α : Type} (a : Option α) : Le a a := fun _ h => h
def CallLe (c d : CallSem) : Prop := ∀ g args h, Le (c g args h) (d g args h)
theorem CallLe.refl (c : CallSem) : CallLe c c := fun _ _ _ => Le.refl _
theorem CallLe.trans {a b c : CallSem} (h : CallLe a b) (k : CallLe b c) : CallLe a c := fun g as hp r hr => k g as hp r (h g as hp r hr)

theorem Le.map {α β : Type} {a b : Option α} (f : α → β) (h : Le a b) : Le (a.map f) (b.map f) := by
  intro r hr
  cases a with
  | none => simp at hr
  | some x => rw [h x rfl]; exact hr

theorem evOp_mono {c d : CallSem} (hcd : CallLe c d) (dst : Nat) (o : AOp) (s : Slots) (h : Heap) : Le (evOp c dst o s h) (evOp d dst o s h) := by
  cases o with
  | call f args =>
    intro r hr
    simp only [evOp] at hr ⊢
    split at hr
    · exact Le.map _ (hcd _ _ _) r hr
    · split at hr
      · exact Le.map _ (hcd _ _ _) r hr
      · exact hr
    · exact hr
  | callg g args =>
    intro r hr
    simp only [evOp] at hr ⊢
    split at hr
    · exact Le.map _ (hcd _ _ _) r hr
    · exact hr
  | _ => exact fun r hr => hr

theorem evRun_mono {c d : CallSem} (hcd : CallLe c d) (o : AOper) (s : Slots) (h : Heap) : Le (evRun c o s h) (evRun d o s h) := by
  intro r hr
  unfold evRun at hr ⊢
  split at hr
  · rename_i x s' h' he
    rw [evOp_mono hcd _ _ _ _ _ he]; exact hr
  · simp at hr

theorem evOper_mono {c d : CallSem} (hcd : CallLe c d) (o : AOper) (s : Slots) (h : Heap) : Le (evOper c o s h) (evOper d o s h) := by
  intro r hr
  unfold evOper at hr ⊢
  split at hr
  · exact evRun_mono hcd _ _ _ r hr
  · split at hr
    · split at hr
      · rename_i h1; simp only [if_pos h1]; exact evRun_mono hcd _ _ _ r hr
      · rename_i h1; simp only [if_neg h1]; exact hr
    · exact hr
    · simp at hr

theorem evOps_mono {c d : CallSem} (hcd : CallLe c d) : ∀ (l : List AOper) (s : Slots) (h : Heap), Le (evOps c l s h) (evOps d l s h)
  | [], _, _ => Le.refl _
  | o :: l, s, h => by
    intro r hr
    simp only [evOps] at hr ⊢
    split at hr
    · rename_i s' h' he
      rw [evOper_mono hcd _ _ _ _ he]; exact evOps_mono hcd l _ _ r hr
    · simp at hr

theorem evQuiet_mono {c d : CallSem} (hcd : CallLe c d) : ∀ (l : List AOper) (s : Slots) (h : Heap), Le (evQuiet c l s h) (evQuiet d l s h)
  | [], _, _ => Le.refl _
  | o :: l, s, h => by
    intro r hr
    simp only [evQuiet] at hr ⊢
    split at hr
    · rename_i s' h' he
      rw [evOper_mono hcd _ _ _ _ he]
      simp only
      split at hr
      · rename_i h1; rw [if_pos h1]; exact evQuiet_mono hcd l _ _ r hr
      · simp at hr
    · simp at hr

theorem openOne_mono {c d : CallSem} (hcd : CallLe c d) (n0 m : Nat) (ds : List Did) (o : AOper) (s : Slots) (h : Heap) : Le (openOne c n0 m ds o s h) (openOne d n0 m ds o s h) := by
  intro r hr
  unfold openOne at hr ⊢
  split at hr
  · cases hr
  · rename_i h1
    rw [if_neg h1]
    split at hr
    · rename_i h2
      rw [if_pos h2]
      split at hr
      · cases hr
      · rename_i s' h' he
        rw [evOper_mono hcd _ _ _ _ he]
        exact hr
    · rename_i h2
      rw [if_neg h2]
      exact hr

theorem openAll_mono {c d : CallSem} (hcd : CallLe c d) (n0 : Nat) : ∀ (ops : List AOper) (ms : List Nat) (ds : List Did) (s : Slots) (h : Heap), Le (openAll c n0 ms ops ds s h) (openAll d n0 ms ops ds s h)
  | [], _, _, _, _ => fun r hr => by simp only [openAll] at hr ⊢; exact hr
  | o :: l, ms, ds, s, h => by
    intro r hr
    simp only [openAll] at hr ⊢
    split at hr
    · rename_i y h' x he
      rw [openOne_mono hcd _ _ _ _ _ _ _ he]
      simp only
      split at hr
      · rename_i h1; rw [if_pos h1]; exact openAll_mono hcd n0 l _ _ _ _ r hr
      · cases hr
    · cases hr

theorem evOpen_mono {c d : CallSem} (hcd : CallLe c d) (ms : List Nat) (ops : List AOper) (s : Slots) (h : Heap) : Le (evOpen c ms ops s h) (evOpen d ms ops s h) := openAll_mono hcd _ _ _ _ _ _

theorem evSegs_mono {c d : CallSem} (hcd : CallLe c d) : ∀ (l : List Seg) (s : Slots) (h : Heap), Le (evSegs c l s h) (evSegs d l s h)
  | [], _, _ => Le.refl _
  | g :: l, s, h => by
    intro r hr
    simp only [evSegs] at hr ⊢
    split at hr
    · rename_i s' h' he
      have : (if g.quiet = true then (if g.soft = [] then evQuiet d g.ops s h else evOpen d g.soft g.ops s h) else evOps d g.ops s h) = some (s', h') := by
        split at he
        · rename_i hq
          rw [if_pos hq]
          split at he
          · rename_i hq2; rw [if_pos hq2]; exact evQuiet_mono hcd _ _ _ _ he
          · rename_i hq2; rw [if_neg hq2]; exact evOpen_mono hcd _ _ _ _ _ he
        · rename_i hq; rw [if_neg hq]; exact evOps_mono hcd _ _ _ _ he
      rw [this]; exact evSegs_mono hcd l _ _ r hr
    · simp at hr

theorem loopN_mono {f g : St → Option (AExit × St)} (hfg : ∀ st, Le (f st) (g st)) : ∀ (n m : Nat) (st : St), n ≤ m → Le (loopN f n st) (loopN g m st)
  | 0, _, _, _ => by intro r hr; simp [loopN] at hr
  | n + 1, 0, _, h => absurd h (by omega)
  | n + 1, m + 1, st, h => by
    intro r hr
    simp only [loopN] at hr ⊢
    split at hr
    · rename_i st' he
      rw [hfg _ _ he]; exact loopN_mono hfg n m st' (by omega) r hr
    · rename_i hne
      rw [hfg _ _ hr]
      split
      · rename_i st' he; cases he; exact absurd hr (hne _)
      · rfl

theorem evCode_mono {c d : CallSem} (hcd : CallLe c d) {n m : Nat} (hnm : n ≤ m) : ∀ (x : ACode) (st : St), Le (evCode c n x st) (evCode d m x st) := by
  intro x
  induction x with
  | skip => exact fun _ => Le.refl _
  | region gs => exact fun st => Le.map _ (evSegs_mono hcd _ _ _)
  | seq a b iha ihb =>
    intro st r hr
    simp only [evCode] at hr ⊢
    split at hr
    · rename_i st' he; rw [iha _ _ he]; exact ihb _ _ hr
    · rename_i hne
      rw [iha _ _ hr]
      split
      · rename_i st' he; cases he; exact absurd hr (hne _)
      · rfl
  | cond c t e iht ihe =>
    intro st r hr
    simp only [evCode] at hr ⊢
    split at hr
    · exact iht _ _ hr
    · exact ihe _ _ hr
    · simp at hr
  | block id a ih =>
    intro st r hr
    simp only [evCode] at hr ⊢
    split at hr
    · rename_i j st' he; rw [ih _ _ he]; exact hr
    · rename_i hne
      rw [ih _ _ hr]
      split
      · rename_i j st' he; cases he; exact absurd hr (hne _ _)
      · rfl
  | loop a ih => exact fun st => loopN_mono ih n m st hnm
  | exit id => exact fun _ => Le.refl _
  | ret => exact fun _ => Le.refl _
  | live l a ih => exact fun st => ih _
  | after a l ih =>
    intro st r hr
    simp only [evCode] at hr ⊢
    split at hr
    · rename_i st' he; rw [ih _ _ he]; exact hr
    · rename_i hne
      rw [ih _ _ hr]
      split
      · rename_i st' he; cases he; exact absurd hr (hne _)
      · rfl

  | rangeFunc f g caps ps a b _ _ =>
    intro st r hr
    simp only [evCode] at hr ⊢
    split at hr
    · rename_i fv sl _ _
      split at hr
      · rename_i x h' he
        have : callVal d fv [.yield st.h.size] (st.h.push (.loop g .ready none sl)) = some (x, h') := by
          unfold callVal at he ⊢
          split at he
          · exact hcd _ _ _ _ he
          · cases he
        rw [this]; exact hr
      · cases hr
    · cases hr
  | next d x => intro st; exact Le.refl _

theorem roundIn_mono {g i : Nat} {a b : Option (AExit × St)} (hab : Le a b) : Le (roundIn g i a) (roundIn g i b) := by
  intro r hr
  cases a with
  | none => simp [roundIn] at hr
  | some x => rw [hab x rfl]; exact hr

theorem roundOut_mono {h : Heap} {g i : Nat} {a b : Option (AExit × St)} (hab : Le a b) : Le (roundOut h g i a) (roundOut h g i b) := by
  intro r hr
  cases a with
  | none => simp [roundOut] at hr
  | some x => rw [hab x rfl]; exact hr

theorem evRound_mono {c d : CallSem} (hcd : CallLe c d) {n m : Nat} (hnm : n ≤ m) (g : Nat) (r : ARound) (args : List AVal) (h : Heap) : Le (evRound c n g r args h) (evRound d m g r args h) := by
  intro x hx
  unfold evRound at hx ⊢
  split at hx
  · split at hx
    · rename_i h1
      rw [if_pos h1]
      split at hx
      · split at hx
        · rename_i st he
          rw [roundIn_mono (evCode_mono hcd hnm _ _) _ he]
          exact roundOut_mono (evCode_mono hcd hnm _ _) _ hx
        · cases hx
      · cases hx
    · cases hx
  · cases hx

theorem flatL_mono {α β : Type} {f g : α → Option (List β)} (hfg : ∀ x, Le (f x) (g x)) : ∀ l : List α, Le (flatL f l) (flatL g l)
  | [] => Le.refl _
  | x :: l => by
    intro r hr
    simp only [flatL] at hr ⊢
    split at hr
    case h_2 => cases hr
    rename_i a b h1 h2
    rw [hfg x a h1, flatL_mono hfg l b h2]
    exact hr

theorem loopO_mono {f g : St → Option (List (AExit × St))} (hfg : ∀ st, Le (f st) (g st)) : ∀ (n m : Nat) (st : St), n ≤ m → Le (loopO f n st) (loopO g m st)
  | 0, m, st, _ => by intro r hr; simp [loopO] at hr
  | n + 1, 0, st, h => by omega
  | n + 1, m + 1, st, h => by
    intro r hr
    simp only [loopO] at hr ⊢
    split at hr
    case h_2 => cases hr
    rename_i l h1
    rw [hfg st l h1]
    refine flatL_mono (fun x => ?_) l r hr
    split
    · exact loopO_mono hfg n m _ (by omega)
    · exact Le.refl _

theorem outs_mono {c d : CallSem} (hcd : CallLe c d) {n m : Nat} (hnm : n ≤ m) : ∀ (x : ACode) (st : St), Le (evOuts c n x st) (evOuts d m x st) := by
  have base : ∀ (x : ACode) (st : St), Le ((evCode c n x st).map fun x => [x]) ((evCode d m x st).map fun x => [x]) := fun x st => Le.map _ (evCode_mono hcd hnm x st)
  intro x
  induction x with
  | skip => exact base _
  | region gs => exact base _
  | exit id => exact base _
  | ret => exact base _
  | rangeFunc f g caps ps a b _ _ => exact base _
  | seq a b iha ihb =>
    intro st r hr
    simp only [evOuts] at hr ⊢
    split at hr
    case h_2 => cases hr
    rename_i l h1
    rw [iha st l h1]
    refine flatL_mono (fun x => ?_) l r hr
    split
    · exact ihb _
    · exact Le.refl _
  | cond c t e iht ihe =>
    intro st r hr
    simp only [evOuts] at hr ⊢
    split at hr
    · exact iht _ _ hr
    · exact ihe _ _ hr
    · cases hr
  | block id a ih => intro st; simp only [evOuts]; exact Le.map _ (ih st)
  | loop a ih => intro st; exact loopO_mono ih n m st hnm
  | live l a ih => intro st; simp only [evOuts]; exact ih _
  | after a l ih => intro st; simp only [evOuts]; exact Le.map _ (ih st)
  | next d x => intro st; exact Le.refl _

/-- How a function's run ends. -/
def outcome (f : AFunc) (h : Heap) : Option (AExit × St) → Option (AVal × Heap)
  | some (.normal, st) | some (.ret, st) => (resultsL st.s st.h f.results).map fun vs => finish h (tupled vs) st.h
  | _ => none

theorem outcome_some (f : AFunc) (h : Heap) (x : AExit × St) : outcome f h (some x) = funcEnd f h x := by
  obtain ⟨e, st⟩ := x
  cases e <;> rfl

theorem evFunc_eq (c : CallSem) (n : Nat) (f : AFunc) (args : List AVal) (h : Heap) (hw : f.wild = false) :
    evFunc c n f args h = if args.length = f.nargs then outcome f h (evCode c n f.body ⟨enter 0 args, { h with wmin := h.size }⟩) else none := by
  unfold evFunc
  split
  · rw [hw]
    simp only [Bool.false_eq_true, if_false]
    split
    · rename_i x hx
      rw [hx, outcome_some]
    · rename_i hx
      rw [hx]; rfl
  · rfl

theorem outcome_mono (f : AFunc) (h : Heap) {a b : Option (AExit × St)} (hab : Le a b) : Le (outcome f h a) (outcome f h b) := by
  intro r hr
  cases a with
  | none => simp [outcome] at hr
  | some x => rw [hab x rfl]; exact hr

theorem evFunc_mono {c d : CallSem} (hcd : CallLe c d) {n m : Nat} (hnm : n ≤ m) (f : AFunc) (args : List AVal) (h : Heap) : Le (evFunc c n f args h) (evFunc d m f args h) := by
  intro r hr
  unfold evFunc at hr ⊢
  split at hr
  case isFalse => cases hr
  rename_i hl
  rw [if_pos hl]
  split at hr
  · rename_i hw
    rw [if_pos hw]
    split at hr
    case h_2 => cases hr
    rename_i l h1
    rw [outs_mono hcd hnm _ _ l h1]
    exact hr
  · rename_i hw
    rw [if_neg hw]
    split at hr
    case h_2 => cases hr
    rename_i x h1
    rw [evCode_mono hcd hnm _ _ x h1]
    exact hr

theorem wrapC_mono {r r' : List AVal → Heap → Option (AVal × Heap)} (hr : ∀ args h, Le (r args h) (r' args h)) (c : Bool) (args : List AVal) (h : Heap) : Le (wrapC c r args h) (wrapC c r' args h) := by
  cases c with
  | false => exact hr args h
  | true =>
    intro x hx
    simp only [wrapC, evClosed, if_true] at hx ⊢
    split at hx
    · rename_i hu
      rw [if_pos hu]
      split at hx
      · rename_i v h' he
        rw [hr _ _ _ he]; exact hx
      · cases hx
    · cases hx

theorem evCall_mono1 (T : Nat → Option AFunc) : ∀ n, CallLe (evCall T n) (evCall T (n + 1))
  | 0 => by intro g args h r hr; simp [evCall] at hr
  | n + 1 => by
    intro g args h
    simp only [evCall]
    split
    · split
      · exact evRound_mono (evCall_mono1 T n) (by omega) _ _ _ _
      · exact Le.refl _
      · exact wrapC_mono (fun args h => evFunc_mono (evCall_mono1 T n) (by omega) _ _ _) _ _ _
    · exact Le.refl _

theorem evCall_mono (T : Nat → Option AFunc) {n m : Nat} (h : n ≤ m) : CallLe (evCall T n) (evCall T m) := by
  induction h with
  | refl => exact CallLe.refl _
  | step _ ih => exact ih.trans (evCall_mono1 T _)

/-! ## The limit -/

open Classical in
noncomputable def Lim {α : Type} (F : Nat → Option α) : Option α := if h : ∃ r n, F n = some r then some h.choose else none

theorem Lim_iff {α : Type} {F : Nat → Option α} (hF : ∀ n m, n ≤ m → Le (F n) (F m)) (r : α) : Lim F = some r ↔ ∃ n, F n = some r := by
  unfold Lim
  constructor
  · intro h
    split at h
    · rename_i hx
      cases h
      exact hx.choose_spec
    · simp at h
  · rintro ⟨n, hn⟩
    have hx : ∃ r n, F n = some r := ⟨r, n, hn⟩
    rw [dif_pos hx]
    obtain ⟨m, hm⟩ := hx.choose_spec
    have h1 := hF n (n + m) (by omega) _ hn
    have h2 := hF m (n + m) (by omega) _ hm
    rw [h1] at h2
    exact h2.symm

noncomputable def xCall (T : Nat → Option AFunc) : CallSem := fun g args h => Lim fun n => evCall T n g args h
noncomputable def xCode (T : Nat → Option AFunc) (c : ACode) (st : St) : Option (AExit × St) := Lim fun n => evCode (evCall T n) n c st

section
variable (T : Nat → Option AFunc)

theorem xCall_iff (g : Nat) (args : List AVal) (h : Heap) (r : AVal × Heap) : xCall T g args h = some r ↔ ∃ n, evCall T n g args h = some r :=
  Lim_iff (fun _ _ hnm => evCall_mono T hnm g args h) r

theorem xCode_iff (c : ACode) (st : St) (r : AExit × St) : xCode T c st = some r ↔ ∃ n, evCode (evCall T n) n c st = some r :=
  Lim_iff (fun _ _ hnm => evCode_mono (evCall_mono T hnm) hnm c st) r

theorem evCall_le_x (n : Nat) : CallLe (evCall T n) (xCall T) := fun g args h r hr => (xCall_iff T g args h r).2 ⟨n, hr⟩

theorem evOp_lim {dst : Nat} {o : AOp} {s : Slots} {h : Heap} {r} (hr : evOp (xCall T) dst o s h = some r) : ∃ n, evOp (evCall T n) dst o s h = some r := by
  cases o with
  | call f args =>
    simp only [evOp] at hr ⊢
    split at hr
    · rename_i g first caps as hf ha
      rw [Option.map_eq_some_iff] at hr
      obtain ⟨x, hx, rfl⟩ := hr
      obtain ⟨n, hn⟩ := (xCall_iff T _ _ _ _).1 hx
      exact ⟨n, by rw [hn]; rfl⟩
    · split at hr
      · rw [Option.map_eq_some_iff] at hr
        obtain ⟨x, hx, rfl⟩ := hr
        obtain ⟨n, hn⟩ := (xCall_iff T _ _ _ _).1 hx
        exact ⟨n, by rw [hn]; rfl⟩
      · cases hr
    · simp at hr
  | callg g args =>
    simp only [evOp] at hr ⊢
    split at hr
    · rename_i as ha
      rw [Option.map_eq_some_iff] at hr
      obtain ⟨x, hx, rfl⟩ := hr
      obtain ⟨n, hn⟩ := (xCall_iff T _ _ _ _).1 hx
      exact ⟨n, by rw [hn]; rfl⟩
    · simp at hr
  | _ => exact ⟨0, hr⟩

theorem evRun_lim {o : AOper} {s : Slots} {h : Heap} {r} (hr : evRun (xCall T) o s h = some r) : ∃ n, evRun (evCall T n) o s h = some r := by
  unfold evRun at hr ⊢
  split at hr
  · rename_i x s' h' he
    obtain ⟨n, hn⟩ := evOp_lim T he
    exact ⟨n, by rw [hn]; exact hr⟩
  · simp at hr

theorem evOper_lim {o : AOper} {s : Slots} {h : Heap} {r} (hr : evOper (xCall T) o s h = some r) : ∃ n, evOper (evCall T n) o s h = some r := by
  unfold evOper at hr ⊢
  split at hr
  · exact evRun_lim T hr
  · split at hr
    · split at hr
      · rename_i h1
        simp only [if_pos h1]
        exact evRun_lim T hr
      · rename_i h1
        simp only [if_neg h1]
        exact ⟨0, hr⟩
    · exact ⟨0, hr⟩
    · simp at hr

theorem evOps_lim : ∀ {l : List AOper} {s : Slots} {h : Heap} {r}, evOps (xCall T) l s h = some r → ∃ n, evOps (evCall T n) l s h = some r
  | [], _, _, _, hr => ⟨0, hr⟩
  | o :: l, s, h, r, hr => by
    simp only [evOps] at hr ⊢
    split at hr
    · rename_i s' h' he
      obtain ⟨n, hn⟩ := evOper_lim T he
      obtain ⟨m, hm⟩ := evOps_lim hr
      exact ⟨n + m, by rw [evOper_mono (evCall_mono T (by omega)) _ _ _ _ hn]; exact evOps_mono (evCall_mono T (by omega)) _ _ _ _ hm⟩
    · simp at hr

theorem evQuiet_lim : ∀ {l : List AOper} {s : Slots} {h : Heap} {r}, evQuiet (xCall T) l s h = some r → ∃ n, evQuiet (evCall T n) l s h = some r
  | [], _, _, _, hr => ⟨0, hr⟩
  | o :: l, s, h, r, hr => by
    simp only [evQuiet] at hr ⊢
    split at hr
    · rename_i s' h' he
      split at hr
      · rename_i h1
        obtain ⟨n, hn⟩ := evOper_lim T he
        obtain ⟨m, hm⟩ := evQuiet_lim hr
        exact ⟨n + m, by rw [evOper_mono (evCall_mono T (by omega)) _ _ _ _ hn]; simp only; rw [if_pos h1]; exact evQuiet_mono (evCall_mono T (by omega)) _ _ _ _ hm⟩
      · simp at hr
    · simp at hr

theorem openOne_lim {n0 m : Nat} {ds : List Did} {o : AOper} {s : Slots} {h : Heap} {r} (hr : openOne (xCall T) n0 m ds o s h = some r) : ∃ n, openOne (evCall T n) n0 m ds o s h = some r := by
  unfold openOne at hr ⊢
  split at hr
  · cases hr
  · rename_i h1
    simp only [if_neg h1]
    split at hr
    · rename_i h2
      simp only [if_pos h2]
      split at hr
      · cases hr
      · rename_i s' h' he
        obtain ⟨n, hn⟩ := evOper_lim T he
        exact ⟨n, by rw [hn]; exact hr⟩
    · rename_i h2
      simp only [if_neg h2]
      exact ⟨0, hr⟩

theorem openAll_lim {n0 : Nat} : ∀ {ops : List AOper} {ms : List Nat} {ds : List Did} {s : Slots} {h : Heap} {r}, openAll (xCall T) n0 ms ops ds s h = some r → ∃ n, openAll (evCall T n) n0 ms ops ds s h = some r
  | [], _, _, _, _, _, hr => ⟨0, by simp only [openAll] at hr ⊢; exact hr⟩
  | o :: l, ms, ds, s, h, r, hr => by
    simp only [openAll] at hr ⊢
    split at hr
    · rename_i y h' x he
      split at hr
      · rename_i h1
        obtain ⟨n, hn⟩ := openOne_lim T he
        obtain ⟨m, hm⟩ := openAll_lim hr
        exact ⟨n + m, by rw [openOne_mono (evCall_mono T (by omega)) _ _ _ _ _ _ _ hn]; simp only; rw [if_pos h1]; exact openAll_mono (evCall_mono T (by omega)) _ _ _ _ _ _ _ hm⟩
      · cases hr
    · cases hr

/-- One part. -/
def evSeg (call : CallSem) (g : Seg) (s : Slots) (h : Heap) : Option (Slots × Heap) :=
  if g.quiet then (if g.soft = [] then evQuiet call g.ops s h else evOpen call g.soft g.ops s h) else evOps call g.ops s h

theorem evSeg_mono {c d : CallSem} (hcd : CallLe c d) (g : Seg) (s : Slots) (h : Heap) : Le (evSeg c g s h) (evSeg d g s h) := by
  unfold evSeg
  split
  · split
    · exact evQuiet_mono hcd _ _ _
    · exact evOpen_mono hcd _ _ _ _
  · exact evOps_mono hcd _ _ _

theorem evSegs_lim : ∀ {l : List Seg} {s : Slots} {h : Heap} {r}, evSegs (xCall T) l s h = some r → ∃ n, evSegs (evCall T n) l s h = some r
  | [], _, _, _, hr => ⟨0, hr⟩
  | g :: l, s, h, r, hr => by
    simp only [evSegs] at hr ⊢
    split at hr
    · rename_i s' h' he
      have hx : ∃ n, evSeg (evCall T n) g s h = some (s', h') := by
        unfold evSeg
        split at he
        · rename_i hq
          simp only [if_pos hq]
          split at he
          · rename_i hq2; simp only [if_pos hq2]; exact evQuiet_lim T he
          · rename_i hq2; simp only [if_neg hq2]; exact openAll_lim T he
        · rename_i hq; simp only [if_neg hq]; exact evOps_lim T he
      obtain ⟨n, hn⟩ := hx
      obtain ⟨m, hm⟩ := evSegs_lim hr
      refine ⟨n + m, ?_⟩
      have : evSeg (evCall T (n + m)) g s h = some (s', h') := evSeg_mono (evCall_mono T (by omega)) _ _ _ _ hn
      unfold evSeg at this
      rw [this]; exact evSegs_mono (evCall_mono T (by omega)) _ _ _ _ hm
    · simp at hr

theorem lift {c : ACode} {st : St} {r} {n m : Nat} (h : evCode (evCall T n) n c st = some r) (hnm : n ≤ m) : evCode (evCall T m) m c st = some r :=
  evCode_mono (evCall_mono T hnm) hnm c st r h

theorem xCode_skip (st : St) : xCode T .skip st = some (.normal, st) := (xCode_iff T _ _ _).2 ⟨0, rfl⟩
theorem xCode_exit (id : Nat) (st : St) : xCode T (.exit id) st = some (.exit id, st) := (xCode_iff T _ _ _).2 ⟨0, rfl⟩
theorem xCode_ret (st : St) : xCode T .ret st = some (.ret, st) := (xCode_iff T _ _ _).2 ⟨0, rfl⟩

theorem xCode_region (gs : List Seg) (st : St) : xCode T (.region gs) st = (evSegs (xCall T) gs st.s st.h).map fun (s, h) => (.normal, ⟨s, h⟩) := by
  apply Option.ext
  intro r
  rw [xCode_iff]
  constructor
  · rintro ⟨n, hn⟩; exact Le.map _ (evSegs_mono (evCall_le_x T n) _ _ _) r hn
  · intro h
    rw [Option.map_eq_some_iff] at h
    obtain ⟨x, hx, rfl⟩ := h
    obtain ⟨n, hn⟩ := evSegs_lim T hx
    exact ⟨n, by simp only [evCode]; rw [hn]; rfl⟩

theorem xCode_seq (a b : ACode) (st : St) : xCode T (.seq a b) st = match xCode T a st with
    | some (.normal, st') => xCode T b st'
    | r => r := by
  apply Option.ext
  intro r
  rw [xCode_iff]
  constructor
  · rintro ⟨n, hn⟩
    simp only [evCode] at hn
    split at hn
    · rename_i st' he
      rw [(xCode_iff T _ _ _).2 ⟨n, he⟩]; exact (xCode_iff T _ _ _).2 ⟨n, hn⟩
    · rename_i hne
      rw [(xCode_iff T _ _ _).2 ⟨n, hn⟩]
      split
      · rename_i st' he; cases he; exact absurd hn (hne _)
      · rfl
  · intro h
    split at h
    · rename_i st' he
      obtain ⟨n, hn⟩ := (xCode_iff T _ _ _).1 he
      obtain ⟨m, hm⟩ := (xCode_iff T _ _ _).1 h
      refine ⟨n + m, ?_⟩
      simp only [evCode]
      rw [lift T hn (by omega)]; exact lift T hm (by omega)
    · rename_i hne
      obtain ⟨n, hn⟩ := (xCode_iff T _ _ _).1 h
      refine ⟨n, ?_⟩
      simp only [evCode]
      rw [hn]
      split
      · rename_i st' he; cases he; exact absurd h (hne _)
      · rfl

theorem xCode_cond (c : Opd) (t e : ACode) (st : St) : xCode T (.cond c t e) st = match c.ev st.s with
    | some (.bool true) => xCode T t st
    | some (.bool false) => xCode T e st
    | _ => none := by
  apply Option.ext
  intro r
  rw [xCode_iff]
  simp only [evCode]
  split
  · rename_i he; rw [he]; exact (xCode_iff T _ _ _).symm
  · rename_i he; rw [he]; exact (xCode_iff T _ _ _).symm
  · rename_i h1 h2
    split
    · rename_i he; exact absurd he h1
    · rename_i he; exact absurd he h2
    · simp

theorem xCode_block (id : Nat) (c : ACode) (st : St) : xCode T (.block id c) st = match xCode T c st with
    | some (.exit j, st') => if j = id then some (.normal, st') else some (.exit j, st')
    | r => r := by
  apply Option.ext
  intro r
  rw [xCode_iff]
  constructor
  · rintro ⟨n, hn⟩
    simp only [evCode] at hn
    split at hn
    · rename_i j st' he
      rw [(xCode_iff T _ _ _).2 ⟨n, he⟩]; exact hn
    · rename_i hne
      rw [(xCode_iff T _ _ _).2 ⟨n, hn⟩]
      split
      · rename_i st' he; cases he; exact absurd hn (hne _ _)
      · rfl
  · intro h
    split at h
    · rename_i j st' he
      obtain ⟨n, hn⟩ := (xCode_iff T _ _ _).1 he
      refine ⟨n, ?_⟩
      simp only [evCode]
      rw [hn]; exact h
    · rename_i hne
      obtain ⟨n, hn⟩ := (xCode_iff T _ _ _).1 h
      refine ⟨n, ?_⟩
      simp only [evCode]
      rw [hn]
      split
      · rename_i st' he; cases he; exact absurd h (hne _ _)
      · rfl

theorem xCode_live (l : List Nat) (c : ACode) (st : St) : xCode T (.live l c) st = xCode T c ⟨keep l st.s, st.h⟩ := rfl

theorem xCode_after (c : ACode) (l : List Nat) (st : St) : xCode T (.after c l) st = match xCode T c st with
    | some (.normal, st') => some (.normal, ⟨keep l st'.s, st'.h⟩)
    | r => r := by
  apply Option.ext
  intro r
  rw [xCode_iff]
  constructor
  · rintro ⟨n, hn⟩
    simp only [evCode] at hn
    split at hn
    · rename_i st' he
      rw [(xCode_iff T _ _ _).2 ⟨n, he⟩]; exact hn
    · rename_i hne
      rw [(xCode_iff T _ _ _).2 ⟨n, hn⟩]
      split
      · rename_i st' he; cases he; exact absurd hn (hne _)
      · rfl
  · intro h
    split at h
    · rename_i st' he
      obtain ⟨n, hn⟩ := (xCode_iff T _ _ _).1 he
      refine ⟨n, ?_⟩
      simp only [evCode]
      rw [hn]; exact h
    · rename_i hne
      obtain ⟨n, hn⟩ := (xCode_iff T _ _ _).1 h
      refine ⟨n, ?_⟩
      simp only [evCode]
      rw [hn]
      split
      · rename_i st' he; cases he; exact absurd h (hne _)
      · rfl

theorem xCode_loop (c : ACode) (st : St) : xCode T (.loop c) st = match xCode T c st with
    | some (.normal, st') => xCode T (.loop c) st'
    | r => r := by
  apply Option.ext
  intro r
  rw [xCode_iff]
  constructor
  · rintro ⟨n, hn⟩
    cases n with
    | zero => simp [evCode, loopN] at hn
    | succ n =>
      simp only [evCode, loopN] at hn
      split at hn
      · rename_i st' he
        rw [(xCode_iff T _ _ _).2 ⟨n + 1, he⟩]
        refine (xCode_iff T _ _ _).2 ⟨n + 1, ?_⟩
        exact loopN_mono (fun _ => Le.refl _) n (n + 1) st' (by omega) r hn
      · rename_i hne
        rw [(xCode_iff T _ _ _).2 ⟨n + 1, hn⟩]
        split
        · rename_i st' he; cases he; exact absurd hn (hne _)
        · rfl
  · intro h
    split at h
    · rename_i st' he
      obtain ⟨n, hn⟩ := (xCode_iff T _ _ _).1 he
      obtain ⟨m, hm⟩ := (xCode_iff T _ _ _).1 h
      refine ⟨n + m + 1, ?_⟩
      simp only [evCode, loopN]
      rw [lift T hn (by omega)]
      exact loopN_mono (fun st => evCode_mono (evCall_mono T (by omega)) (by omega) c st) m (n + m) st' (by omega) r hm
    · rename_i hne
      obtain ⟨n, hn⟩ := (xCode_iff T _ _ _).1 h
      refine ⟨n + 1, ?_⟩
      simp only [evCode, loopN]
      rw [lift T hn (by omega)]
      split
      · rename_i st' he; cases he; exact absurd h (hne _)
      · rfl

theorem xCode_rangeFunc (f : Opd) (g : Nat) (caps ps : List Nat) (a b : ACode) (st : St) : xCode T (.rangeFunc f g caps ps a b) st = match f.ev st.s, capsOf st.s caps with
    | some fv, some sl => match callVal (xCall T) fv [.yield st.h.size] (st.h.push (.loop g .ready none sl)) with
      | some (_, h') => loopEnd st.s h' st.h.size
      | none => none
    | _, _ => none := by
  apply Option.ext
  intro r
  rw [xCode_iff]
  have le : ∀ {c d : CallSem}, CallLe c d → ∀ f as h, Le (callVal c f as h) (callVal d f as h) := by
    intro c d hcd f as h x hx
    unfold callVal at hx ⊢
    split at hx
    · exact hcd _ _ _ _ hx
    · cases hx
  constructor
  · rintro ⟨n, hn⟩
    simp only [evCode] at hn
    split at hn
    · rename_i fv sl h1 h2
      rw [h1, h2]
      simp only
      split at hn
      · rename_i x h' he
        rw [le (evCall_le_x T n) _ _ _ _ he]; exact hn
      · cases hn
    · cases hn
  · intro h
    split at h
    · rename_i fv sl h1 h2
      split at h
      · rename_i x h' he
        have : ∃ n, callVal (evCall T n) fv [.yield st.h.size] (st.h.push (.loop g .ready none sl)) = some (x, h') := by
          unfold callVal at he ⊢
          split at he
          · exact (xCall_iff T _ _ _ _).1 he
          · cases he
        obtain ⟨n, hn⟩ := this
        exact ⟨n, by simp only [evCode, h1, h2, hn]; exact h⟩
      · cases h
    · cases h

/-- A call: its function's body is run, in slots that hold its arguments. -/
noncomputable def xFunc (f : AFunc) (args : List AVal) (h : Heap) : Option (AVal × Heap) :=
  if args.length = f.nargs then outcome f h (xCode T f.body ⟨enter 0 args, { h with wmin := h.size }⟩) else none

theorem xFunc_iff (f : AFunc) (args : List AVal) (h : Heap) (r : AVal × Heap) (hw : f.wild = false) : xFunc T f args h = some r ↔ ∃ n, evFunc (evCall T n) n f args h = some r := by
  unfold xFunc
  constructor
  · intro h1
    split at h1
    · rename_i hl
      cases hx : xCode T f.body ⟨enter 0 args, { h with wmin := h.size }⟩ with
      | none => rw [hx] at h1; simp [outcome] at h1
      | some x =>
        obtain ⟨n, hn⟩ := (xCode_iff T _ _ _).1 hx
        refine ⟨n, ?_⟩
        rw [evFunc_eq _ _ _ _ _ hw, if_pos hl, hn, ← hx]; exact h1
    · simp at h1
  · rintro ⟨n, hn⟩
    rw [evFunc_eq _ _ _ _ _ hw] at hn
    split at hn
    · rename_i hl
      rw [if_pos hl]
      exact outcome_mono _ _ (fun r hr => (xCode_iff T _ _ _).2 ⟨n, hr⟩) r hn
    · simp at hn

theorem xCall_eq {g : Nat} {f : AFunc} (hT : T g = some f) (args : List AVal) (h : Heap) (hr : f.round = none := by rfl) (hw : f.wild = false := by rfl) : xCall T g args h = wrapC f.closed (xFunc T f) args h := by
  apply Option.ext
  intro r
  rw [xCall_iff]
  constructor
  · rintro ⟨n, hn⟩
    cases n with
    | zero => simp [evCall] at hn
    | succ n =>
      simp only [evCall, hT, hr] at hn
      exact wrapC_mono (fun args h r hr => (xFunc_iff T f args h r hw).2 ⟨n, hr⟩) _ _ _ _ hn
  · intro h1
    have key : ∃ n, wrapC f.closed (evFunc (evCall T n) n f) args h = some r := by
      cases hc : f.closed with
      | false =>
        rw [hc] at h1
        exact (xFunc_iff T f args h r hw).1 h1
      | true =>
        rw [hc] at h1
        simp only [wrapC, evClosed, if_true] at h1 ⊢
        split at h1
        · rename_i hu
          split at h1
          · rename_i v h' he
            obtain ⟨n, hn⟩ := (xFunc_iff T f args _ _ hw).1 he
            refine ⟨n, ?_⟩
            rw [if_pos hu, hn]; exact h1
          · cases h1
        · cases h1
    obtain ⟨n, hn⟩ := key
    refine ⟨n + 1, ?_⟩
    simp only [evCall, hT, hr]; exact hn

/-- A round: yield is called. -/
noncomputable def xRound (g : Nat) (r : ARound) (args : List AVal) (h : Heap) : Option (AVal × Heap) :=
  match args with
  | .ptr (some (i, _)) :: as =>
    if as.length = r.params.length ∧ h.base ≤ i then match roundSlots i r.params as h with
      | some s => match roundIn g i (xCode T r.assign ⟨s, { h with wmin := h.size }⟩) with
        | some st => roundOut h g i (xCode T r.body st)
        | none => none
      | none => none
    else none
  | _ => none

theorem xRound_eq {g : Nat} {f : AFunc} {rd : ARound} (hT : T g = some f) (hr : f.round = some (.round rd)) (args : List AVal) (h : Heap) : xCall T g args h = xRound T g rd args h := by
  apply Option.ext
  intro r
  rw [xCall_iff]
  constructor
  · rintro ⟨n, hn⟩
    cases n with
    | zero => simp [evCall] at hn
    | succ n =>
      simp only [evCall, hT, hr] at hn
      unfold evRound at hn
      unfold xRound
      split at hn
      · simp only
        split at hn
        · rename_i h1
          rw [if_pos h1]
          split at hn
          · rename_i hs
            rw [hs]
            simp only
            split at hn
            · rename_i st he
              rw [roundIn_mono (fun x hx => (xCode_iff T _ _ _).2 ⟨n, hx⟩) _ he]
              exact roundOut_mono (fun x hx => (xCode_iff T _ _ _).2 ⟨n, hx⟩) _ hn
            · cases hn
          · cases hn
        · cases hn
      · cases hn
  · intro h1
    unfold xRound at h1
    split at h1
    · rename_i i k as
      split at h1
      · rename_i hl
        split at h1
        · rename_i s hs
          split at h1
          · rename_i st he
            have e1 : ∃ n, roundIn g i (evCode (evCall T n) n rd.assign ⟨s, { h with wmin := h.size }⟩) = some st := by
              cases hx : xCode T rd.assign ⟨s, { h with wmin := h.size }⟩ with
              | none => rw [hx] at he; simp [roundIn] at he
              | some x =>
                obtain ⟨n, hn⟩ := (xCode_iff T _ _ _).1 hx
                exact ⟨n, by rw [hn, ← hx]; exact he⟩
            have e2 : ∃ n, roundOut h g i (evCode (evCall T n) n rd.body st) = some r := by
              cases hx : xCode T rd.body st with
              | none => rw [hx] at h1; simp [roundOut] at h1
              | some x =>
                obtain ⟨n, hn⟩ := (xCode_iff T _ _ _).1 hx
                exact ⟨n, by rw [hn, ← hx]; exact h1⟩
            obtain ⟨n, hn⟩ := e1
            obtain ⟨m, hm⟩ := e2
            refine ⟨n + m + 1, ?_⟩
            simp only [evCall, hT, hr, evRound, if_pos hl, hs]
            rw [roundIn_mono (evCode_mono (evCall_mono T (show n ≤ n + m by omega)) (show n ≤ n + m by omega) _ _) _ hn]
            exact roundOut_mono (evCode_mono (evCall_mono T (show m ≤ n + m by omega)) (show m ≤ n + m by omega) _ _) _ hm
          · cases h1
        · cases h1
      · cases h1
    · cases h1

/-- A function of the library. -/
theorem xLib_eq {g : Nat} {f : AFunc} {F : List AVal → Heap → Option AVal} (hT : T g = some f) (args : List AVal) (h : Heap) (hr : f.round = some (.lib F) := by rfl) : xCall T g args h = (F args h).map fun v => (v, h) := by
  apply Option.ext
  intro r
  rw [xCall_iff]
  constructor
  · rintro ⟨n, hn⟩
    cases n with
    | zero => simp [evCall] at hn
    | succ n =>
      simp only [evCall, hT, hr] at hn
      exact hn
  · intro h1
    refine ⟨1, ?_⟩
    simp only [evCall, hT, hr]
    exact h1

theorem AVal.eqb_refl : (∀ a : AVal, a.eqb a = true) ∧ ∀ l : List AVal, AVal.eqbL l l = true := by
  have h : ∀ n, (∀ a : AVal, SizeOf.sizeOf a < n → a.eqb a = true) ∧ ∀ l : List AVal, SizeOf.sizeOf l < n → AVal.eqbL l l = true := by
    intro n
    induction n with
    | zero => exact ⟨fun a h => absurd h (Nat.not_lt_zero _), fun l h => absurd h (Nat.not_lt_zero _)⟩
    | succ n ih =>
      constructor
      · intro a h
        cases a <;> simp only [AVal.eqb, decide_true, Bool.and_self, beq_self_eq_true, Bool.true_and]
        · rename_i g f c
          simp at h
          rw [ih.2 f (by omega), ih.2 c (by omega)]; rfl
        · rename_i t v
          simp at h
          exact ih.1 v (by omega)
        · rename_i l
          simp at h
          exact ih.2 l (by omega)
        · rename_i l
          simp at h
          exact ih.2 l (by omega)
      · intro l h
        cases l with
        | nil => rfl
        | cons a l =>
          simp at h
          simp only [AVal.eqbL, ih.1 a (by omega), ih.2 l (by omega), Bool.and_self]
  exact ⟨fun a => (h (SizeOf.sizeOf a + 1)).1 a (Nat.lt_succ_self _), fun l => (h (SizeOf.sizeOf l + 1)).2 l (Nat.lt_succ_self _)⟩

theorem eqbE_refl : ∀ l : List (AVal × AVal × Nat), eqbE l l = true
  | [] => rfl
  | (k, v, b) :: r => by simp [eqbE, AVal.eqb_refl.1, eqbE_refl r]

theorem eqbS_refl : ∀ l : List (Nat × AVal), eqbS l l = true
  | [] => rfl
  | (k, v) :: r => by simp [eqbS, AVal.eqb_refl.1, eqbS_refl r]

theorem AObj.eqb_refl (o : AObj) : o.eqb o = true := by
  cases o <;> simp [AObj.eqb, AVal.eqb_refl.2, eqbE_refl, eqbS_refl]

theorem eqbO_refl : ∀ l : List AObj, eqbO l l = true
  | [] => rfl
  | o :: r => by simp [eqbO, AObj.eqb_refl, eqbO_refl r]

theorem eqbR_refl (x : AVal × Heap) : eqbR x x = true := by simp [eqbR, AVal.eqb_refl.1, eqbO_refl]

theorem allSame_of {l : List (Option (AVal × Heap))} {r : AVal × Heap} (hne : l ≠ []) (h : ∀ x ∈ l, x = some r) : allSame l = some r := by
  cases l with
  | nil => exact absurd rfl hne
  | cons x l =>
    rw [h x (List.mem_cons_self ..)]
    simp only [allSame]
    rw [if_pos]
    rw [List.all_eq_true]
    intro y hy
    rw [h y (List.mem_cons_of_mem _ hy)]
    exact eqbR_refl r

/-- A call of a function that steps through maps: all outcomes are the same. -/
theorem xCall_wild {g : Nat} {f : AFunc} (hT : T g = some f) {args : List AVal} {h : Heap} (hr : f.round = none) (hc : f.closed = false) (hw : f.wild = true) (hl : args.length = f.nargs) {n : Nat} {l : List (AExit × St)}
    (e : evOuts (evCall T n) n f.body ⟨enter 0 args, { h with wmin := h.size }⟩ = some l) (hne : l ≠ []) {r : AVal × Heap} (hall : ∀ x ∈ l, funcEnd f h x = some r) : xCall T g args h = some r := by
  rw [xCall_iff]
  refine ⟨n + 1, ?_⟩
  simp only [evCall, hT, hr, hc, wrapC, Bool.false_eq_true, if_false, evFunc, if_pos hl, hw, if_true, e]
  refine allSame_of (by simpa using hne) fun x hx => ?_
  rw [List.mem_map] at hx
  obtain ⟨y, hy, rfl⟩ := hx
  exact hall y hy

/-- A closed run: what the evaluator gives with n rounds. -/
theorem xCall_of (n : Nat) {g : Nat} {args : List AVal} {h : Heap} {r} (he : evCall T n g args h = some r) : xCall T g args h = some r := (xCall_iff T _ _ _ _).2 ⟨n, he⟩
end
end Go.Abs

/-
  What the evaluator leaves alone: objects whose numbers lie below 'wmin' are as they were.
-/
namespace Go.Abs

structure Evol (h h' : Heap) : Prop where
  size : h.size ≤ h'.size
  base : h'.base = h.base
  wmin : h'.wmin ≤ h.wmin
  objs : ∀ i, i < h.size → i < h'.wmin → h'.objs[i]? = h.objs[i]?

theorem Evol.refl (h : Heap) : Evol h h := ⟨Nat.le_refl _, rfl, Nat.le_refl _, fun _ _ _ => rfl⟩
theorem Evol.trans {a b c : Heap} (h : Evol a b) (k : Evol b c) : Evol a c :=
  ⟨Nat.le_trans h.size k.size, k.base.trans h.base, Nat.le_trans k.wmin h.wmin, fun i hi hw =>
    (k.objs i (Nat.lt_of_lt_of_le hi h.size) hw).trans (h.objs i hi (Nat.lt_of_lt_of_le hw k.wmin))⟩

theorem Evol.push (h : Heap) (o : AObj) : Evol h (h.push o) :=
  ⟨by simp [Heap.push, Heap.size], rfl, Nat.le_refl _, fun i hi _ => by simp only [Heap.push]; rw [List.getElem?_append_left hi]⟩

theorem Evol.put (h : Heap) (i : Nat) (o : AObj) : Evol h (h.put i o) :=
  ⟨by simp [Heap.put, Heap.size], rfl, Nat.min_le_left _ _, fun j _ hw => by
    simp only [Heap.put] at hw ⊢
    rw [List.getElem?_set_ne]
    omega⟩

def CallEvol (call : CallSem) : Prop := ∀ g args h v h', call g args h = some (v, h') → Evol h h'

theorem ok1_evol {s : Slots} {h : Heap} {v : Option AVal} {x : Slot} {s' : Slots} {h' : Heap} (e : ok1 s h v = some (x, s', h')) : Evol h h' := by
  unfold ok1 at e
  rw [Option.map_eq_some_iff] at e
  obtain ⟨u, _, e⟩ := e
  cases e
  exact Evol.refl _

theorem store_evol {s : Slots} {h : Heap} {ad : AAddr} {xs : List AVal} {s' : Slots} {h' : Heap} (e : storeAt s h ad xs = some (s', h')) : Evol h h' := by
  unfold storeAt at e
  split at e
  · split at e
    · split at e
      · cases e; exact Evol.put _ _ _
      · cases e
    · cases e
  · split at e
    · split at e
      · cases e; exact Evol.refl _
      · cases e
    · cases e

theorem append_evol {esz bytes : Nat} {h : Heap} {x y v : AVal} {h' : Heap} (e : aAppend esz bytes h x y = some (v, h')) : Evol h h' := by
  unfold aAppend at e
  split at e
  · split at e
    · unfold aApp at e
      split at e
      · cases e; exact Evol.refl _
      · split at e
        · split at e
          · cases e; exact Evol.push _ _
          · split at e
            · cases e; exact Evol.push _ _
            · split at e
              · cases e; exact (Evol.put _ _ _).trans (Evol.push _ _)
              · cases e
        · cases e
    · cases e
  · cases e

theorem ext_evol {k : ExtOp} {vs : List AVal} {h : Heap} {v : AVal} {h' : Heap} (e : evExt k vs h = some (v, h')) : Evol h h' := by
  unfold evExt at e
  repeat' split at e
  all_goals first
    | (cases e; done)
    | (cases e; exact Evol.refl _)
    | (cases e; exact Evol.push _ _)
    | (cases e; exact Evol.put _ _ _)
    | (rw [Option.map_eq_some_iff] at e; obtain ⟨_, _, e⟩ := e; cases e; exact Evol.refl _)

theorem op_evol {call : CallSem} (hc : CallEvol call) {d : Nat} {o : AOp} {s : Slots} {h : Heap} {x : Slot} {s' : Slots} {h' : Heap} (e : evOp call d o s h = some (x, s', h')) : Evol h h' := by
  cases o with
  | call f args =>
    simp only [evOp] at e
    split at e
    · rw [Option.map_eq_some_iff] at e
      obtain ⟨⟨v, h1⟩, h2, e⟩ := e
      cases e
      exact hc _ _ _ _ _ h2
    · split at e
      · rw [Option.map_eq_some_iff] at e
        obtain ⟨⟨v, h1⟩, h2, e⟩ := e
        cases e
        exact hc _ _ _ _ _ h2
      · cases e
    · cases e
  | ext k xs =>
    simp only [evOp] at e
    split at e
    · rw [Option.map_eq_some_iff] at e
      obtain ⟨⟨v, h1⟩, h2, e⟩ := e
      cases e
      exact ext_evol h2
    · cases e
  | callg g args =>
    simp only [evOp] at e
    split at e
    · rw [Option.map_eq_some_iff] at e
      obtain ⟨⟨v, h1⟩, h2, e⟩ := e
      cases e
      exact hc _ _ _ _ _ h2
    · cases e
  | append es b y z =>
    simp only [evOp] at e
    split at e
    · rw [Option.map_eq_some_iff] at e
      obtain ⟨⟨v, h1⟩, h2, e⟩ := e
      cases e
      exact append_evol h2
    · cases e
  | store n y z =>
    simp only [evOp] at e
    split at e
    · split at e
      · rw [Option.map_eq_some_iff] at e
        obtain ⟨⟨v, h1⟩, h2, e⟩ := e
        cases e
        exact store_evol h2
      · cases e
    · cases e
  | conv k y =>
    simp only [evOp] at e
    split at e
    · unfold evConv at e
      repeat' split at e
      all_goals first
        | (cases e; done)
        | exact ok1_evol e
        | (cases e; exact Evol.push _ _)
    · cases e
  | _ =>
    simp only [evOp] at e
    repeat' split at e
    all_goals first
      | (cases e; done)
      | exact ok1_evol e
      | (cases e; exact Evol.push _ _)
      | (cases e; exact Evol.refl _)
      | (rw [Option.map_eq_some_iff] at e; obtain ⟨_, _, e⟩ := e; cases e; exact Evol.refl _)

theorem oper_evol {call : CallSem} (hc : CallEvol call) {o : AOper} {s : Slots} {h : Heap} {s' : Slots} {h' : Heap} (e : evOper call o s h = some (s', h')) : Evol h h' := by
  have run : evRun call o s h = some (s', h') → Evol h h' := by
    intro e
    unfold evRun at e
    split at e
    · rename_i x s1 h1 h2
      cases e
      exact op_evol hc h2
    · cases e
  unfold evOper at e
  split at e
  · exact run e
  · split at e
    · split at e
      · exact run e
      · cases e; exact Evol.refl _
    · cases e; exact Evol.refl _
    · cases e

theorem ops_evol {call : CallSem} (hc : CallEvol call) : ∀ {l : List AOper} {s : Slots} {h : Heap} {s' : Slots} {h' : Heap}, evOps call l s h = some (s', h') → Evol h h'
  | [], _, _, _, _, e => by simp only [evOps] at e; cases e; exact Evol.refl _
  | o :: l, s, h, s', h', e => by
    simp only [evOps] at e
    split at e
    · rename_i s1 h1 h2
      exact (oper_evol hc h2).trans (ops_evol hc e)
    · cases e

theorem quiet_evol {call : CallSem} : ∀ {l : List AOper} {s : Slots} {h : Heap} {s' : Slots} {h' : Heap}, evQuiet call l s h = some (s', h') → h' = h
  | [], _, _, _, _, e => by simp only [evQuiet] at e; cases e; rfl
  | o :: l, s, h, s', h', e => by
    simp only [evQuiet] at e
    split at e
    · split at e
      · exact quiet_evol e
      · cases e
    · cases e

theorem killRange_length (lo hi : Nat) (os : List AObj) : (killRange lo hi os).length = os.length := by simp [killRange]

theorem hide_length (m : Nat) : ∀ (ds : List Did) (y : Nat) (os : List AObj), (hide m y ds os).length = os.length
  | [], _, _ => rfl
  | d :: r, y, os => by
    simp only [hide]
    rw [hide_length m r]
    split
    · rfl
    · exact killRange_length ..

theorem hide_all (m : Nat) : ∀ (ds : List Did) (y : Nat) (os : List AObj), allSeen m y ds = true → hide m y ds os = os
  | [], _, _, _ => rfl
  | d :: r, y, os, h => by
    simp only [allSeen, Bool.and_eq_true] at h
    simp only [hide]
    rw [if_pos h.1]
    exact hide_all m r _ _ h.2

theorem openOne_evol {call : CallSem} (hc : CallEvol call) {n0 m : Nat} {ds : List Did} {o : AOper} {s : Slots} {h : Heap} {y : Slot} {h' : Heap} {d : Did} (e : openOne call n0 m ds o s h = some (y, h', d)) : Evol h h' := by
  have hno : CallEvol noCall := fun _ _ _ _ _ e => by simp [noCall] at e
  unfold openOne at e
  split at e
  · cases e
  · split at e
    · split at e
      · cases e
      · rename_i s1 h1 he
        have hev := oper_evol hc he
        have hsz : h.size ≤ h1.size := by
          have := hev.size
          simp only [Heap.size, hide_length] at this
          exact this
        simp only at e
        split at e
        · rename_i hw
          split at e
          · rename_i hall
            cases e
            refine ⟨hsz, rfl, Nat.min_le_left _ _, fun i hi hi' => ?_⟩
            simp only at hi'
            have := hev.objs i (by simp only [Heap.size, hide_length]; exact hi) (by omega)
            simp only [hide_all m ds 0 h.objs hall] at this
            exact this
          · cases e
        · rename_i hw
          split at e
          · rename_i hall
            cases e
            refine ⟨hsz, rfl, Nat.le_refl _, fun i hi hi' => ?_⟩
            have := hev.objs i (by simp only [Heap.size, hide_length]; exact hi) (by omega)
            simp only [hide_all m ds 0 h.objs hall] at this
            exact this
          · split at e
            · cases e
              refine ⟨by simp [Heap.size], rfl, Nat.le_refl _, fun i hi _ => ?_⟩
              simp only
              rw [List.getElem?_append_left hi]
            · cases e
    · split at e
      · cases e
      · rename_i s1 h1 he
        have hev := oper_evol hno he
        simp only at e
        split at e
        · split at e
          · cases e; exact Evol.refl _
          · cases e
        · rename_i hsz1
          split at e
          · rename_i hsz
            split at e
            · split at e
              · split at e
                · rename_i hw
                  cases e
                  refine ⟨?_, rfl, Nat.le_refl _, fun i hi _ => hev.objs i hi (by rw [hw]; exact hi)⟩
                  show h.size ≤ h1.size; omega
                · cases e
                  refine ⟨?_, rfl, Nat.min_le_left _ _, fun i hi hi' => hev.objs i hi (by simp only at hi'; omega)⟩
                  show h.size ≤ h1.size; omega
              · cases e
            · cases e
          · cases e

theorem openAll_evol {call : CallSem} (hc : CallEvol call) {n0 : Nat} : ∀ {ops : List AOper} {ms : List Nat} {ds : List Did} {s : Slots} {h : Heap} {s' : Slots} {h' : Heap}, openAll call n0 ms ops ds s h = some (s', h') → Evol h h'
  | [], _, _, _, _, _, _, e => by simp only [openAll] at e; cases e; exact Evol.refl _
  | o :: l, ms, ds, s, h, s', h', e => by
    simp only [openAll] at e
    split at e
    · rename_i y h1 d he
      split at e
      · exact (openOne_evol hc he).trans (openAll_evol hc e)
      · cases e
    · cases e

theorem segs_evol {call : CallSem} (hc : CallEvol call) : ∀ {l : List Seg} {s : Slots} {h : Heap} {s' : Slots} {h' : Heap}, evSegs call l s h = some (s', h') → Evol h h'
  | [], _, _, _, _, e => by simp only [evSegs] at e; cases e; exact Evol.refl _
  | g :: l, s, h, s', h', e => by
    simp only [evSegs] at e
    split at e
    · rename_i s1 h1 h2
      refine Evol.trans ?_ (segs_evol hc e)
      split at h2
      · split at h2
        · rw [quiet_evol h2]; exact Evol.refl _
        · exact openAll_evol hc h2
      · exact ops_evol hc h2
    · cases e

theorem loop_evol {f : St → Option (AExit × St)} (hf : ∀ st e st', f st = some (e, st') → Evol st.h st'.h) : ∀ (n : Nat) (st : St) (e : AExit) (st' : St), loopN f n st = some (e, st') → Evol st.h st'.h
  | 0, _, _, _, h => by simp [loopN] at h
  | n + 1, st, e, st', h => by
    simp only [loopN] at h
    split at h
    · rename_i st1 h1
      exact (hf _ _ _ h1).trans (loop_evol hf n _ _ _ h)
    · exact hf _ _ _ h

theorem code_evol {call : CallSem} (hc : CallEvol call) (n : Nat) : ∀ (c : ACode) (st : St) (e : AExit) (st' : St), evCode call n c st = some (e, st') → Evol st.h st'.h := by
  intro c
  induction c with
  | skip => intro st e st' h; simp only [evCode] at h; cases h; exact Evol.refl _
  | region gs =>
    intro st e st' h
    simp only [evCode] at h
    rw [Option.map_eq_some_iff] at h
    obtain ⟨⟨s1, h1⟩, h2, h⟩ := h
    cases h
    exact segs_evol hc h2
  | seq a b iha ihb =>
    intro st e st' h
    simp only [evCode] at h
    split at h
    · rename_i st1 h1
      exact (iha _ _ _ h1).trans (ihb _ _ _ h)
    · exact iha _ _ _ h
  | cond c t e iht ihe =>
    intro st e st' h
    simp only [evCode] at h
    split at h
    · exact iht _ _ _ h
    · exact ihe _ _ _ h
    · cases h
  | block id a ih =>
    intro st e st' h
    simp only [evCode] at h
    split at h
    · rename_i j st1 h1
      split at h <;> cases h <;> exact ih _ _ _ h1
    · exact ih _ _ _ h
  | loop a ih => intro st e st' h; exact loop_evol ih n _ _ _ h
  | exit id => intro st e st' h; simp only [evCode] at h; cases h; exact Evol.refl _
  | ret => intro st e st' h; simp only [evCode] at h; cases h; exact Evol.refl _
  | live l a ih => intro st e st' h; simp only [evCode] at h; have h2 := ih _ _ _ h; exact h2
  | after a l ih =>
    intro st e st' h
    simp only [evCode] at h
    split at h
    · rename_i st1 h1
      cases h
      have h2 := ih _ _ _ h1
      exact h2
    · exact ih _ _ _ h
  | rangeFunc f g caps ps a b _ _ =>
    intro st e st' h
    simp only [evCode] at h
    split at h
    · rename_i fv sl _ _
      split at h
      · rename_i x h1 he
        have h2 : Evol (st.h.push (.loop g .ready none sl)) h1 := by
          unfold callVal at he
          split at he
          · exact hc _ _ _ _ _ he
          · cases he
        have h3 : Evol h1 st'.h := by
          unfold loopEnd at h
          split at h
          · split at h
            · cases h
            · cases h; exact Evol.put _ _ _
          · cases h
        exact (Evol.push _ _).trans (h2.trans h3)
      · cases h
    · cases h
  | next d x => intro st e st' h; simp [evCode] at h

theorem flatL_mem {α β : Type} {f : α → Option (List β)} : ∀ {l : List α} {ys : List β}, flatL f l = some ys → ∀ y ∈ ys, ∃ x ∈ l, ∃ zs, f x = some zs ∧ y ∈ zs
  | [], ys, h, y, hy => by simp only [flatL] at h; cases h; cases hy
  | x :: l, ys, h, y, hy => by
    simp only [flatL] at h
    split at h
    case h_2 => cases h
    rename_i a b h1 h2
    cases h
    rcases List.mem_append.1 hy with hy | hy
    · exact ⟨x, List.mem_cons_self .., a, h1, hy⟩
    · obtain ⟨x', k1, zs, k2, k3⟩ := flatL_mem h2 y hy
      exact ⟨x', List.mem_cons_of_mem _ k1, zs, k2, k3⟩

theorem nextOuts_evol {d : Option Nat} {x : Opd} {st : St} {l : List (AExit × St)} (e : nextOuts d x st = some l) : ∀ y ∈ l, Evol st.h y.2.h := by
  intro y hy
  unfold nextOuts at e
  split at e
  case h_2 => cases e
  split at e
  case isFalse => cases e
  split at e
  · cases e
    rw [List.mem_singleton] at hy; subst hy
    exact Evol.put _ _ _
  · split at e
    case h_2 => cases e
    split at e
    case isFalse => cases e
    split at e
    · cases e
      rw [List.mem_singleton] at hy; subst hy
      exact Evol.put _ _ _
    · cases e
      rw [List.mem_map] at hy
      obtain ⟨q, _, rfl⟩ := hy
      exact Evol.put _ _ _
  · cases e

theorem loopO_evol {f : St → Option (List (AExit × St))} (hf : ∀ st l, f st = some l → ∀ y ∈ l, Evol st.h y.2.h) : ∀ (n : Nat) (st : St) (l : List (AExit × St)), loopO f n st = some l → ∀ y ∈ l, Evol st.h y.2.h
  | 0, st, l, h => by simp [loopO] at h
  | n + 1, st, l, h => by
    intro y hy
    simp only [loopO] at h
    split at h
    case h_2 => cases h
    rename_i l1 h1
    obtain ⟨x, hx, zs, hz, hyz⟩ := flatL_mem h y hy
    have k := hf _ _ h1 x hx
    split at hz
    · exact k.trans (loopO_evol hf n _ _ hz y hyz)
    · cases hz
      rw [List.mem_singleton] at hyz; subst hyz
      exact k

theorem outs_evol {call : CallSem} (hc : CallEvol call) (n : Nat) : ∀ (c : ACode) (st : St) (l : List (AExit × St)), evOuts call n c st = some l → ∀ y ∈ l, Evol st.h y.2.h := by
  have base : ∀ (c : ACode) (st : St) (l : List (AExit × St)), (evCode call n c st).map (fun x => [x]) = some l → ∀ y ∈ l, Evol st.h y.2.h := by
    intro c st l e y hy
    rw [Option.map_eq_some_iff] at e
    obtain ⟨x, e, rfl⟩ := e
    rw [List.mem_singleton] at hy; subst hy
    exact code_evol hc n _ _ _ _ e
  intro c
  induction c with
  | skip => exact base _
  | region gs => exact base _
  | exit id => exact base _
  | ret => exact base _
  | rangeFunc f g caps ps a b _ _ => exact base _
  | seq a b iha ihb =>
    intro st l e y hy
    simp only [evOuts] at e
    split at e
    case h_2 => cases e
    rename_i l1 h1
    obtain ⟨x, hx, zs, hz, hyz⟩ := flatL_mem e y hy
    have k := iha _ _ h1 x hx
    split at hz
    · exact k.trans (ihb _ _ hz y hyz)
    · cases hz
      rw [List.mem_singleton] at hyz; subst hyz
      exact k
  | cond c t e iht ihe =>
    intro st l h y hy
    simp only [evOuts] at h
    split at h
    · exact iht _ _ h y hy
    · exact ihe _ _ h y hy
    · cases h
  | block id a ih =>
    intro st l e y hy
    simp only [evOuts] at e
    rw [Option.map_eq_some_iff] at e
    obtain ⟨l1, h1, rfl⟩ := e
    rw [List.mem_map] at hy
    obtain ⟨x, hx, rfl⟩ := hy
    have k := ih _ _ h1 x hx
    split
    · split <;> exact k
    · exact k
  | loop a ih => intro st l e; exact loopO_evol ih n _ _ e
  | live l a ih => intro st ys e y hy; simp only [evOuts] at e; have h2 := ih _ _ e y hy; exact h2
  | after a l ih =>
    intro st ys e y hy
    simp only [evOuts] at e
    rw [Option.map_eq_some_iff] at e
    obtain ⟨l1, h1, rfl⟩ := e
    rw [List.mem_map] at hy
    obtain ⟨x, hx, rfl⟩ := hy
    have k := ih _ _ h1 x hx
    split
    · have k2 : Evol st.h x.2.h := k
      exact k2
    · exact k
  | next d x => intro st l e; exact nextOuts_evol e

theorem finish_evol {h0 h : Heap} {v : AVal} (hb : h.base = h0.base) (hs : h0.size ≤ h.size) (ho : ∀ i, i < h0.size → i < h.wmin → h.objs[i]? = h0.objs[i]?) : Evol h0 (finish h0 v h).2 := by
  unfold finish
  split
  · exact ⟨hs, hb, Nat.min_le_left _ _, fun i hi hw => ho i hi (by simp only at hw; omega)⟩
  · rename_i hw
    split
    · exact Evol.refl _
    · simp only
      split
      · exact ⟨by simp [Heap.size], rfl, Nat.le_refl _, fun i hi _ => by simp only; rw [List.getElem?_append_left hi]⟩
      · exact ⟨hs, hb, Nat.le_refl _, fun i hi _ => ho i hi (by omega)⟩

theorem allSame_mem {l : List (Option (AVal × Heap))} {r : AVal × Heap} (e : allSame l = some r) : some r ∈ l := by
  unfold allSame at e
  split at e
  · split at e
    · cases e; exact List.mem_cons_self ..
    · cases e
  · cases e

theorem funcEnd_evol {f : AFunc} {h : Heap} {x : AExit × St} {r : AVal × Heap} (hx : Evol { h with wmin := h.size } x.2.h) (e : funcEnd f h x = some r) : Evol h r.2 := by
  have key : ∀ (st : St), Evol { h with wmin := h.size } st.h → ((resultsL st.s st.h f.results).map fun vs => finish h (tupled vs) st.h) = some r → Evol h r.2 := by
    intro st h3 h2
    rw [Option.map_eq_some_iff] at h2
    obtain ⟨vs, _, h2⟩ := h2
    have h4 := finish_evol (h0 := h) (h := st.h) (v := tupled vs) h3.base h3.size (fun i hi hw => h3.objs i hi hw)
    rw [h2] at h4
    exact h4
  obtain ⟨x, st⟩ := x
  cases x with
  | normal => exact key st hx e
  | ret => exact key st hx e
  | exit id => simp [funcEnd] at e

theorem func_evol {call : CallSem} (hc : CallEvol call) {n : Nat} {f : AFunc} {args : List AVal} {h : Heap} {v : AVal} {h' : Heap} (e : evFunc call n f args h = some (v, h')) : Evol h h' := by
  unfold evFunc at e
  split at e
  case isFalse => cases e
  split at e
  · split at e
    case h_2 => cases e
    rename_i l hl
    have := allSame_mem e
    rw [List.mem_map] at this
    obtain ⟨x, hx, he⟩ := this
    exact funcEnd_evol (outs_evol hc n _ _ _ hl x hx) he
  · split at e
    case h_2 => cases e
    rename_i x hx
    exact funcEnd_evol (code_evol hc n _ _ _ _ hx) e

theorem round_evol {call : CallSem} (hc : CallEvol call) {n g : Nat} {r : ARound} {args : List AVal} {h : Heap} {v : AVal} {h' : Heap} (e : evRound call n g r args h = some (v, h')) : Evol h h' := by
  unfold evRound at e
  split at e
  · split at e
    · split at e
      · split at e
        · rename_i i _ as _ _ s _ _ st he
          have h1 : Evol { h with wmin := h.size } st.h := by
            unfold roundIn at he
            split at he
            · rename_i st0 h0
              split at he
              · split at he
                · cases he; exact (code_evol hc n _ _ _ _ h0).trans (Evol.put _ _ _)
                · cases he
              · cases he
            · cases he
          unfold roundOut at e
          split at e
          · rename_i x st1 h2
            have h3 := h1.trans (code_evol hc n _ _ _ _ h2)
            split at e
            · rename_i sl2 _
              split at e
              · injection e with e
                have h4 := h3.trans (Evol.put st1.h i (.loop g (if x = .normal then .ready else .done) (if x = .normal then none else some x) sl2))
                have h5 := finish_evol (h0 := h) (v := .bool (decide (x = .normal))) h4.base h4.size fun i hi hw => h4.objs i hi hw
                rw [e] at h5
                exact h5
              · cases e
            · cases e
          · cases e
        · cases e
      · cases e
    · cases e
  · cases e

theorem wrapC_evol {r : List AVal → Heap → Option (AVal × Heap)} (hr : ∀ args h v h', r args h = some (v, h') → Evol h h') {c : Bool} {args : List AVal} {h : Heap} {v : AVal} {h' : Heap} (e : wrapC c r args h = some (v, h')) : Evol h h' := by
  cases c with
  | false => exact hr _ _ _ _ e
  | true =>
    simp only [wrapC, evClosed, if_true] at e
    split at e
    · split at e
      · split at e
        · cases e; exact Evol.refl _
        · cases e
      · cases e
    · cases e

theorem call_evol (T : Nat → Option AFunc) : ∀ n, CallEvol (evCall T n)
  | 0 => by intro g args h v h' e; simp [evCall] at e
  | n + 1 => by
    intro g args h v h' e
    simp only [evCall] at e
    split at e
    · split at e
      · exact round_evol (call_evol T n) e
      · rw [Option.map_eq_some_iff] at e
        obtain ⟨_, _, e⟩ := e
        cases e
        exact Evol.refl _
      · exact wrapC_evol (fun _ _ _ _ e => func_evol (call_evol T n) e) e
    · cases e

end Go.Abs

/-
  From operations to statements to functions: what the evaluator gives, the model's call gives.
-/
namespace Go.Abs

/-- Frames of functions, and of a loop's rounds. -/
def F0 (ro : Option Nat) : Fence := { Fence.wide with round := ro }

theorem room0 (ro : Option Nat) (n : Nat) : (F0 ro).room n := fun _ h => by simp [F0, Fence.wide] at h

/-- A call's end: as the evaluator says. -/
def Ends (E : Env) (μ : MM) (w : World) (v : AVal) (h' : Heap) (e : Ending) (w' : World) : Prop :=
  ∃ v' μ', e = .returned v' ∧ Step (fun _ => False) h'.wmin μ w μ' w' ∧ VRel E μ' v v' ∧ Rel E μ' h' w'

/-- What is known of a callee: as the evaluator says. -/
structure CallOK (E : Env) (call : CallSem) : Prop where
  fn : ∀ (g : Nat) (args : List AVal) (h : Heap) (v : AVal) (h' : Heap), call g args h = some (v, h') → ∀ (f : FuncId), E.gid f = some g → ∀ (μ : MM) (w : World) (args' : Array Value), VRels E μ args args'.toList → Rel E μ h w →
    CallsIn (F0 none) 0 E.P f args' w (Ends E μ w v h')
  round : ∀ (g i k : Nat) (args : List AVal) (h : Heap) (v : AVal) (h' : Heap) (st : LoopSt) (p : Option AExit) (sl : List (Nat × AVal)), call g (.ptr (some (i, k)) :: args) h = some (v, h') → h.get i = some (.loop g st p sl) →
    ∀ (μ : MM) (w : World) (args' : Array Value), VRels E μ args args'.toList → Rel E μ h w →
    ∃ (m : M) (r : Loop), μ[i]? = some (some m) ∧ w.heap[m.blk]? = some (.loop r) ∧ args'.size = r.params.size ∧
      RoundIn (F0 none) 0 E.P m.blk r.fn ((r.params.zip args').foldl (fun tmps (t, a) => tmps.setIfInBounds t a) r.tmps) r.assign r.body w (Ends E μ w v h')

/-- Functions that are named have a body. -/
def GidOK (E : Env) : Prop := ∀ f g, E.gid f = some g → ∃ fn, E.P.funcs[f]? = some fn ∧ fn.name ≠ "runtime.NumGoroutine" ∧ fn.body.isSome = true

/-- The mark that a loop over a function leaves among the deferred calls. -/
def markOf (r : Nat) : Deferred := { target := .collected r, args := #[] }

/-- A state of the evaluator and one of the model, since the frame began. -/
def At (E : Env) (lo nt : Nat) (μ0 : MM) (w0 : World) (ds : List Deferred) (s : Slots) (h : Heap) (a : Act) (w : World) : Prop :=
  ∃ μ ν, Step (fun k => lo ≤ k) h.wmin μ0 w0 μ w ∧ Rel E μ h w ∧ FRel E lo ν μ (sget s) a.tmps w ∧ a.tmps.size = nt ∧ a.defers = ν.ds.map markOf ++ ds ∧ lo ≤ w.heap.size

section
variable {E : Env} {lo nt : Nat} {μ0 : MM} {w0 : World} {ds : List Deferred} {s : Slots} {h : Heap} {a : Act} {w : World} {call : CallSem} {ro : Option Nat}

theorem put_size (a : Act) (dst : Option Tmp) (v : Value) : (a.put dst v).tmps.size = a.tmps.size := by cases dst <;> simp [Act.put]
theorem put_defers (a : Act) (dst : Option Tmp) (v : Value) : (a.put dst v).defers = a.defers := by cases dst <;> rfl

theorem At.undef (hat : At E lo nt μ0 w0 ds s h a w) {dst : Option Nat} (hd : ∀ t, dst = some t → t < nt) : At E lo nt μ0 w0 ds (setSlot dst .undef s) h (a.put dst Go.undef) w := by
  obtain ⟨μ, ν, k1, k2, k3, k4, k5, k6⟩ := hat
  refine ⟨μ, ν, k1, k2, ?_, by rw [put_size]; exact k4, by rw [put_defers]; exact k5, k6⟩
  rw [put_tmps]
  exact (k3.setUndef (fun x hx => by rw [k4]; exact hd x hx)).congr fun t => sget_setSlot _ _ _ _

theorem callFunc_enter (hg : GidOK E) {f g : Nat} (hf : E.gid f = some g) (args : Array Value) (w : World) : (callFunc f args).run E.P w = .ok (.enter f args) w := by
  obtain ⟨fn, h1, h2, h3⟩ := hg f g hf
  obtain ⟨c, hb⟩ := Option.isSome_iff_exists.1 h3
  simp [callFunc, h1, h2, hb]

/-- An operation that is carried out. -/
theorem run_sound (hc : CallOK E call) (hev0 : CallEvol call) (hg : GidOK E) {ops : Array Oper} {loc : Bool} {o : Oper} {o' : AOper} {s' : Slots} {h' : Heap} (hop : cOper E nt ops loc o = some o') (hev : evRun call o' s h = some (s', h'))
    (hat : At E lo nt μ0 w0 ds s h a w) {next : Act → World → Prop} {Q : Exit → Act → World → Prop} (hn : ∀ a' w', At E lo nt μ0 w0 ds s' h' a' w' → next a' w') : o.wpIn (F0 ro) 0 E.P a w next Q := by
  unfold cOper at hop
  split at hop
  case isFalse => cases hop
  rename_i hh
  simp only [Bool.and_eq_true, Bool.or_eq_true, Bool.not_eq_true'] at hh
  obtain ⟨hh1, hh2⟩ := hh
  have hd : ∀ t, o.dst = some t → t < nt := fun t ht => by rw [ht] at hh1; simpa using hh1
  have hloc : loc = true → o.dst.isSome = true := fun hl => hh2.resolve_left (by rw [hl]; simp)
  have ho1 : o'.dst = o.dst ∧ o'.op = cOpS E loc o.op := by
    split at hop
    · cases hop; exact ⟨rfl, rfl⟩
    · split at hop
      · cases hop; exact ⟨rfl, rfl⟩
      · cases hop
  have ho2 : ∃ ao, cOp E loc o.op = some ao ∧ o'.op = ao := by
    cases hco : cOp E loc o.op with
    | some ao => exact ⟨ao, rfl, by rw [ho1.2, cOpS, hco]⟩
    | none =>
      exfalso
      unfold evRun at hev
      rw [ho1.2, cOpS, hco] at hev
      simp [evOp] at hev
  obtain ⟨ao, hao, e2⟩ := ho2
  have e1 := ho1.1
  unfold evRun at hev
  rw [e1, e2] at hev
  split at hev
  case h_2 => cases hev
  rename_i x s1 h1 hop1
  cases hev
  have hat0 := hat
  obtain ⟨μ, ν, k1, k2, k3, k4, k5, k6⟩ := hat
  have hevol := op_evol hev0 hop1
  have hnd : ∀ c, o.op ≠ .defer c := fun c hc' => by rw [hc'] at hao; simp [cOp] at hao
  refine ⟨fun _ _ => trivial, ?_⟩
  rw [Oper.semAt_eq _ _ _ hnd]
  -- a call
  have ends : ∀ (v : AVal) (e : Ending) (w' : World), Ends E μ w v h' e w' → x = .val v → s1 = s → (match e with | .returned v => next (a.put o.dst v) w' | .panicked chain => Q (.panic chain) a w' | .outgrown => LetsOut Q) := by
    rintro v e w' ⟨v', μ', rfl, j1, j2, j3⟩ hx hs
    subst hx; subst hs
    refine hn _ _ ⟨μ', ν, ?_, j3, ?_, by rw [put_size]; exact k4, by rw [put_defers]; exact k5, Nat.le_trans k6 j1.size⟩
    · exact k1.trans (j1.weaken (Nat.le_refl _) fun b hb _ => hb.elim) hevol.wmin
    · rw [put_tmps]
      exact ((k3.step j1 fun b _ hb => hb).setVal (fun y hy => by rw [k4]; exact hd y hy) j2).congr fun t => sget_setSlot _ _ _ _
  have callcase : ∀ (g : Nat) (f : FuncId) (as : List AVal) (args' : Array Value) (v : AVal), call g as h = some (v, h') → E.gid f = some g → VRels E μ as args'.toList →
      (execOp a.eval o).run E.P w = .ok (.enter f args') w → x = .val v → s1 = s → o.uponIn (F0 ro) 0 E.P a next Q ((execOp a.eval o).run E.P w) := by
    intro g f as args' v hcall hgf hargs hrun hx hs
    rw [hrun, Oper.uponIn_enter]
    refine ⟨fun hh => by simp [F0, Fence.wide] at hh, ?_⟩
    exact CallsIn.mono (F := F0 ro) (n := 0) (hc.fn g as h v h' hcall f hgf μ w args' hargs k2) fun e w' he => by
      have := ends v e w' he hx hs
      cases e <;> exact this
  have roundcase : ∀ (g i : Nat) (as : List AVal) (args' : Array Value) (v : AVal) (st : LoopSt) (p : Option AExit) (sl : List (Nat × AVal)), call g (.ptr (some (i, 0)) :: as) h = some (v, h') → h.get i = some (.loop g st p sl) → VRels E μ as args'.toList →
      (∀ (m : M), μ[i]? = some (some m) → (execOp a.eval o).run E.P w = (Instr.yield m.blk args').run E.P w) → x = .val v → s1 = s → o.uponIn (F0 ro) 0 E.P a next Q ((execOp a.eval o).run E.P w) := by
    intro g i as args' v st p sl hcall hg hargs hrun hx hs
    obtain ⟨m, r, q1, q2, q3, q4⟩ := hc.round g i 0 as h v h' st p sl hcall hg μ w args' hargs k2
    rw [hrun m q1, run_yield q2 q3, Oper.uponIn_round]
    refine ⟨fun hh => by simp [F0, Fence.wide] at hh, ?_⟩
    exact RoundIn.mono (F := F0 ro) (n := 0) q4 fun e w' he => by
      have := ends v e w' he hx hs
      cases e <;> exact this
  by_cases hcl : (∃ f as, ao = .call f as) ∨ (∃ g as, ao = .callg g as)
  · have hcop : ∃ c, o.op = .call c ∧ cCall E c = some ao := by
      cases ho : o.op with
      | call c => exact ⟨c, rfl, by rw [ho] at hao; simpa only [cOp] using hao⟩
      | makeFunc fn x1 x2 =>
        rw [ho] at hao
        exfalso
        cases fn <;> simp only [cOp] at hao <;> (try (cases hao; done))
        rcases hcl with ⟨f, as, rfl⟩ | ⟨g, as, rfl⟩ <;> (split at hao <;> cases hao)
      | makeMap t hint =>
        rw [ho] at hao
        exfalso
        rcases hcl with ⟨f, as, rfl⟩ | ⟨g, as, rfl⟩ <;>
          (cases hint with
           | none => simp [cOp] at hao
           | some y =>
             cases y with
             | const v => cases v <;> simp only [cOp] at hao <;> first | (cases hao; done) | (split at hao <;> cases hao)
             | _ => simp [cOp] at hao)
      | _ =>
        rw [ho] at hao
        exfalso
        rcases hcl with ⟨f, as, rfl⟩ | ⟨g, as, rfl⟩ <;>
          (simp only [cOp, cBin, cConv, cEq] at hao
           repeat' split at hao
           all_goals first
             | (cases hao; done)
             | (rw [Option.map_eq_some_iff] at hao; obtain ⟨_, _, hao⟩ := hao; first | (cases hao; done) | (split at hao <;> cases hao)))
    obtain ⟨c, hcop, hcc⟩ := hcop
    unfold cCall at hcc
    split at hcc
    · rename_i f hcal
      split at hcc
      case h_2 =>
        exfalso
        rw [Option.map_eq_some_iff] at hcc
        obtain ⟨_, _, hcc⟩ := hcc
        rcases hcl with ⟨f, as, rfl⟩ | ⟨g, as, rfl⟩ <;> cases hcc
      case h_3 => cases hcc
      rename_i g as hgf has
      cases hcc
      simp only [evOp] at hop1
      split at hop1
      case h_2 => cases hop1
      rename_i vs hvs
      rw [Option.map_eq_some_iff] at hop1
      obtain ⟨⟨v, h2⟩, hcall, hop1⟩ := hop1
      cases hop1
      have hargs := opds_rel k3 has hvs
      refine callcase g f vs (c.args.map a.eval) v hcall hgf (by simpa using hargs) ?_ rfl rfl
      have := callFunc_enter hg hgf (c.args.map a.eval) w
      simp [execOp, hcop, resolve, hcal, Act.eval, Deferred.ofValue, invoke, this]
    · rename_i y hne hcal
      split at hcc
      case h_2 => cases hcc
      rename_i y' as hy has
      cases hcc
      simp only [evOp] at hop1
      split at hop1
      · rename_i g first caps vs hyv hvs
        rw [Option.map_eq_some_iff] at hop1
        obtain ⟨⟨v, h2⟩, hcall, hop1⟩ := hop1
        cases hop1
        have hargs := opds_rel k3 has hvs
        have hfv := opd_rel k3 hy hyv
        simp only [VRel] at hfv
        obtain ⟨fid, f', c', q1, q2, q3, q4⟩ := hfv
        refine callcase g fid (first ++ vs ++ caps) (f' ++ c.args.map a.eval ++ c') v hcall q2 ?_ ?_ rfl rfl
        · simpa using (q3.append hargs).append q4
        · have := callFunc_enter hg q2 (f' ++ (c.args.map a.eval ++ c')) w
          simp [execOp, hcop, resolve, hcal, q1, Deferred.ofValue, invoke, this]
      · rename_i i vs hyv hvs
        split at hop1
        case h_2 => cases hop1
        rename_i g st p sl hgi
        rw [Option.map_eq_some_iff] at hop1
        obtain ⟨⟨v, h2⟩, hcall, hop1⟩ := hop1
        cases hop1
        have hargs := opds_rel k3 has hvs
        have hfv := opd_rel k3 hy hyv
        simp only [VRel] at hfv
        obtain ⟨l, xx, q1, q2, q3⟩ := hfv
        refine roundcase g i vs (c.args.map a.eval) v st p sl hcall hgi (by simpa using hargs) (fun m hm => ?_) rfl rfl
        rw [hm] at q2; cases q2
        have := q3 m rfl; subst this
        simp [execOp, hcop, resolve, hcal, q1, Deferred.ofValue, invoke]
      · cases hop1
    · -- a built-in is no call
      exfalso
      rcases hcl with ⟨f, as, rfl⟩ | ⟨g, as, rfl⟩ <;>
        (repeat' split at hcc
         all_goals first
           | (cases hcc; done)
           | (rw [Option.map_eq_some_iff] at hcc; obtain ⟨_, _, hcc⟩ := hcc; cases hcc))
    · cases hcc
  · obtain ⟨v, w', μ', ν', j0, j1, j2, j3, j4⟩ := op_sound hao (fun f as e => hcl (.inl ⟨f, as, e⟩)) (fun g as e => hcl (.inr ⟨g, as, e⟩)) hop1 k3 k2 k6 (fun t ht => by rw [k4]; exact hd t ht) hloc
    have hat' : At E lo nt μ0 w0 ds (setSlot o.dst x s1) h' (a.put o.dst v) w' := by
      refine ⟨μ', ν', k1.trans j2 hevol.wmin, j3, ?_, by rw [put_size]; exact k4, by rw [put_defers, j0]; exact k5, Nat.le_trans k6 j2.size⟩
      exact j4.congr fun t => sget_setSlot _ _ _ _
    rcases j1 with j1 | ⟨rfl, j1⟩
    · rw [j1]; exact hn _ _ hat'
    · rw [j1]; exact hn _ _ hat'

/-- An operation, carried out or not. -/
theorem oper_sound (hc : CallOK E call) (hev0 : CallEvol call) (hg : GidOK E) {ops : Array Oper} {loc : Bool} {o : Oper} {o' : AOper} {s' : Slots} {h' : Heap} (hop : cOper E nt ops loc o = some o') (hev : evOper call o' s h = some (s', h'))
    (hat : At E lo nt μ0 w0 ds s h a w) {next : Act → World → Prop} {Q : Exit → Act → World → Prop} (hn : ∀ a' w', At E lo nt μ0 w0 ds s' h' a' w' → next a' w') :
    if Region.wanted o (yielded ops a.tmps) then o.wpIn (F0 ro) 0 E.P a w next Q else next (a.put o.dst Go.undef) w := by
  have hop0 := hop
  unfold cOper at hop
  split at hop
  case isFalse => cases hop
  rename_i hh
  simp only [Bool.and_eq_true, Bool.or_eq_true, Bool.not_eq_true'] at hh
  have hd : ∀ t, o.dst = some t → t < nt := fun t ht => by have := hh.1; rw [ht] at this; simpa using this
  unfold evOper at hev
  split at hop
  · rename_i hg0
    cases hop
    simp only at hev
    have : Region.wanted o (yielded ops a.tmps) = true := by simp [Region.wanted, hg0]
    rw [if_pos this]
    exact run_sound hc hev0 hg hop0 hev hat hn
  · rename_i j want hg0
    split at hop
    case h_2 => cases hop
    rename_i d hdj
    cases hop
    simp only at hev
    obtain ⟨μ, ν, k1, k2, k3, k4, k5, k6⟩ := hat
    split at hev
    · rename_i b hb
      obtain ⟨v', hv, hr⟩ := k3.val d _ hb
      simp only [VRel] at hr; subst hr
      have hy : yielded ops a.tmps j = some b := by simp [yielded, hdj, hv]
      have hw : Region.wanted o (yielded ops a.tmps) = (b == want) := by simp [Region.wanted, hg0, hy]
      split at hev
      · rename_i hbw
        rw [if_pos (by rw [hw]; simpa using hbw)]
        exact run_sound hc hev0 hg hop0 hev ⟨μ, ν, k1, k2, k3, k4, k5, k6⟩ hn
      · rename_i hbw
        cases hev
        rw [if_neg (by rw [hw]; simpa using hbw)]
        exact hn _ _ (At.undef ⟨μ, ν, k1, k2, k3, k4, k5, k6⟩ hd)
    · rename_i hb
      cases hev
      have hv := k3.undef d hb
      have hy : yielded ops a.tmps j = none := by simp [yielded, hdj, hv, Go.undef]
      have hw : Region.wanted o (yielded ops a.tmps) = false := by simp [Region.wanted, hg0, hy]
      rw [if_neg (by simp [hw])]
      exact hn _ _ (At.undef ⟨μ, ν, k1, k2, k3, k4, k5, k6⟩ hd)
    · cases hev

/-- Operations in the order of the text. -/
theorem ops_sound (hc : CallOK E call) (hev0 : CallEvol call) (hg : GidOK E) {ops : Array Oper} {locs : List Nat} {Q : Exit → Act → World → Prop} : ∀ (l : List Oper) (i : Nat) (as : List AOper) (s : Slots) (h : Heap) (s' : Slots) (h' : Heap) (a : Act) (w : World),
    ops.toList.drop i = l → cOpers E nt ops locs i l = some as → evOps call as s h = some (s', h') → At E lo nt μ0 w0 ds s h a w → (∀ a' w', At E lo nt μ0 w0 ds s' h' a' w' → Q .normal a' w') →
    wpOpsIn (F0 ro) 0 E.P ops Q (List.range' i l.length) a w
  | [], i, as, s, h, s', h', a, w, _, hcs, hev, hat, hn => by
    simp only [cOpers] at hcs; cases hcs
    simp only [evOps] at hev; cases hev
    exact hn _ _ hat
  | o :: l, i, as, s, h, s', h', a, w, hd, hcs, hev, hat, hn => by
    simp only [cOpers] at hcs
    split at hcs
    case h_2 => cases hcs
    rename_i o' as' ho has
    cases hcs
    simp only [evOps] at hev
    split at hev
    case h_2 => cases hev
    rename_i s1 h1 he
    have hi : ops[i]? = some o := by
      have := congrArg (fun l => l[0]?) hd
      simpa using this
    have hd' : ops.toList.drop (i + 1) = l := by
      have := congrArg List.tail hd
      simpa using this
    have ih := fun a' w' hat' => ops_sound hc hev0 hg l (i + 1) as' s1 h1 s' h' a' w' hd' has hev hat' hn
    simp only [List.length_cons, List.range'_succ, wpOpsIn, hi]
    have := oper_sound (ro := ro) (Q := Q) hc hev0 hg ho he hat ih
    split
    · rename_i hw; rw [if_pos hw] at this; exact this
    · rename_i hw; rw [if_neg hw] at this; exact ⟨fun _ _ => trivial, this⟩

end
end Go.Abs

/-
  A quiet part of a statement: its operations may come in any order that the edges allow.
-/
namespace Go.Abs

structure Agree (S S2 : Slots) (ts : List Nat) : Prop where
  at_ : ∀ t ∈ ts, sget S t = sget S2 t
  var : ∀ t cs, sget S t = some (.var cs) ↔ sget S2 t = some (.var cs)

section
variable {S S2 : Slots} {ts us : List Nat} {h : Heap}

theorem Agree.left (ha : Agree S S2 (ts ++ us)) : Agree S S2 ts := ⟨fun t ht => ha.at_ t (List.mem_append_left _ ht), ha.var⟩
theorem Agree.right (ha : Agree S S2 (ts ++ us)) : Agree S S2 us := ⟨fun t ht => ha.at_ t (List.mem_append_right _ ht), ha.var⟩

theorem ev_congr {x : Opd} (ha : Agree S S2 x.reads) : x.ev S2 = x.ev S := by
  cases x with
  | const v => rfl
  | tmp t => simp only [Opd.ev, ← ha.at_ t (by simp [Opd.reads])]

theorem evs_congr : ∀ {xs : List Opd}, Agree S S2 (readsL xs) → evs S2 xs = evs S xs
  | [], _ => rfl
  | x :: xs, ha => by
    simp only [readsL] at ha
    simp only [evs, ev_congr ha.left, evs_congr ha.right]

theorem optEv_congr {x : Option Opd} (ha : Agree S S2 (readsO x)) : optEv S2 x = optEv S x := by
  cases x with
  | none => rfl
  | some x => simp only [readsO] at ha; simp only [optEv, ev_congr ha]

theorem adr_congr {x : Opd} (ha : Agree S S2 x.reads) : x.adr S2 = x.adr S := by
  cases x with
  | const v => rfl
  | tmp t => simp only [Opd.adr, ← ha.at_ t (by simp [Opd.reads])]

theorem isVar_congr (ha : Agree S S2 ts) (t : Nat) : isVar S2 t = isVar S t := by
  have key : ∀ (A B : Slots), (∀ cs, sget A t = some (.var cs) → sget B t = some (.var cs)) → isVar A t = true → isVar B t = true := by
    intro A B hab h1
    unfold isVar at h1
    split at h1
    · rename_i cs h2; unfold isVar; rw [hab cs h2]
    · cases h1
  rw [Bool.eq_iff_iff]
  exact ⟨key S2 S fun cs => (ha.var t cs).2, key S S2 fun cs => (ha.var t cs).1⟩

theorem cellsAt_congr (ha : Agree S S2 ts) (ad : AAddr) : cellsAt S2 h ad = cellsAt S h ad := by
  cases ad with
  | glob i o => rfl
  | loc t o =>
    simp only [cellsAt]
    cases h1 : sget S t with
    | none =>
      cases h2 : sget S2 t with
      | none => rfl
      | some y => cases y <;> first | rfl | (rename_i cs; have := (ha.var t cs).2 h2; rw [h1] at this; cases this)
    | some x =>
      cases x with
      | var cs => rw [(ha.var t cs).1 h1]
      | _ =>
        cases h2 : sget S2 t with
        | none => rfl
        | some y => cases y <;> first | rfl | (rename_i cs; have := (ha.var t cs).2 h2; rw [h1] at this; cases this)

theorem loadAt_congr (ha : Agree S S2 ts) (ad : AAddr) (n : Option Nat) : loadAt S2 h ad n = loadAt S h ad n := by simp only [loadAt, cellsAt_congr ha]

theorem fill_congr : ∀ {ps : List (Nat × Nat × Opd)} {cs : List AVal}, Agree S S2 (readsP ps) → fill S2 cs ps = fill S cs ps
  | [], _, _ => rfl
  | (o, n, x) :: ps, cs, ha => by
    simp only [readsP] at ha
    simp only [fill, ev_congr ha.left]
    split
    · split
      · exact fill_congr ha.right
      · rfl
    · rfl

theorem aSlice_congr {k : SliceKind} {x : Opd} {lo hi mx : Option AVal} (ha : Agree S S2 x.reads) : aSlice k S2 h x lo hi mx = aSlice k S h x lo hi mx := by
  cases k <;> simp only [aSlice, ev_congr ha, adr_congr ha]

/-- What an operation gave at the slots S it gives at S2. -/
def Same (S S2 : Slots) (r r2 : Option (Slot × Slots × Heap)) : Prop :=
  ∀ x s' h', r = some (x, s', h') → s' = S ∧ r2 = some (x, S2, h') ∧ ∀ cs, x ≠ .var cs

theorem same_ok1 (v : Option AVal) : Same S S2 (ok1 S h v) (ok1 S2 h v) := by
  intro x s' h' e
  obtain ⟨u, rfl, rfl, rfl, rfl⟩ := ok1_some e
  exact ⟨rfl, rfl, fun cs e => by cases e⟩

theorem same_none (r2 : Option (Slot × Slots × Heap)) : Same S S2 none r2 := by intro x s' h' e; cases e

theorem same_val (v : AVal) (h' : Heap) : Same S S2 (some (.val v, S, h')) (some (.val v, S2, h')) := by
  intro x s' h1 e; cases e; exact ⟨rfl, rfl, fun cs e => by cases e⟩

theorem same_loc (t o : Nat) : Same S S2 (some (.loc t o, S, h)) (some (.loc t o, S2, h)) := by
  intro x s' h1 e; cases e; exact ⟨rfl, rfl, fun cs e => by cases e⟩

theorem same_map {α : Type} (r : Option α) (f : α → AVal) (g : α → Heap) : Same S S2 (r.map fun y => (.val (f y), S, g y)) (r.map fun y => (.val (f y), S2, g y)) := by
  cases r with
  | none => exact same_none _
  | some y => exact same_val _ _

theorem conv_same (k : ConvKind) (v : AVal) : Same S S2 (evConv k v S h) (evConv k v S2 h) := by
  unfold evConv
  cases k <;> simp only
  · split
    · exact same_ok1 _
    · exact same_none _
  · split
    · exact same_ok1 _
    · exact same_none _
  · split
    · exact same_val _ _
    · exact same_none _
  · split
    · split
      · exact same_ok1 _
      · exact same_none _
    · exact same_none _

theorem op_congr {call : CallSem} {d : Nat} {o : AOp} (hc : calm o = true) (ha : Agree S S2 o.reads) : Same S S2 (evOp call d o S h) (evOp call d o S2 h) := by
  cases o with
  | lalloc z => cases hc
  | lbox x => cases hc
  | store n a x => cases hc
  | copy e d s => cases hc
  | val x => simp only [evOp, ev_congr ha]; exact same_ok1 _
  | pick c a b =>
    simp only [evOp, ev_congr ha.left.left, ev_congr ha.left.right, ev_congr ha.right]
    split
    · exact same_ok1 _
    · exact same_ok1 _
    · exact same_none _
  | alloc e z => exact same_val _ _
  | box x =>
    simp only [evOp, ev_congr ha]
    split
    · exact same_val _ _
    · exact same_none _
  | build z ps => simp only [evOp, fill_congr ha]; exact same_ok1 _
  | mkslice e n z ps =>
    simp only [evOp, fill_congr ha]
    split
    · exact same_val _ _
    · exact same_none _
  | load n a =>
    simp only [evOp, adr_congr ha]
    split
    · simp only [loadAt_congr ha]; exact same_ok1 _
    · exact same_none _
  | bin op x y =>
    simp only [evOp, ev_congr ha.left, ev_congr ha.right]
    split
    · exact same_ok1 _
    · exact same_none _
  | un op x =>
    simp only [evOp, ev_congr ha]
    split
    · exact same_ok1 _
    · exact same_none _
  | conv k x =>
    simp only [evOp, ev_congr ha]
    split
    · exact conv_same _ _
    · exact same_none _
  | mkfunc g f c =>
    simp only [evOp, evs_congr ha.left, evs_congr ha.right]
    split
    · exact same_ok1 _
    · exact same_none _
  | make e b z l c =>
    simp only [evOp, ev_congr ha.left, ev_congr ha.right]
    split
    · split
      · exact same_val _ _
      · exact same_none _
    · exact same_none _
  | slice k x lo hi mx =>
    simp only [evOp, optEv_congr ha.right, optEv_congr ha.left.right, optEv_congr ha.left.left.right]
    split
    · rw [aSlice_congr ha.left.left.left]; exact same_ok1 _
    · exact same_none _
  | faddr x off =>
    simp only [evOp, adr_congr ha]
    split
    · exact same_ok1 _
    · rw [isVar_congr ha]
      split
      · exact same_loc _ _
      · exact same_none _
    · exact same_none _
  | field x off n =>
    simp only [evOp, ev_congr ha]
    split
    · exact same_ok1 _
    · exact same_none _
  | iaddr e x i =>
    simp only [evOp, ev_congr ha.left, ev_congr ha.right]
    split
    · exact same_ok1 _
    · exact same_none _
  | aaddr n e x i =>
    simp only [evOp, adr_congr ha.left, ev_congr ha.right]
    split
    · exact same_ok1 _
    · rw [isVar_congr ha.left]
      split
      · rename_i t o i' _ _ _
        cases inBounds n i' with
        | none => exact same_none _
        | some j => exact same_loc _ _
      · exact same_none _
    · exact same_none _
  | index x i =>
    simp only [evOp, ev_congr ha.left, ev_congr ha.right]
    split
    · exact same_ok1 _
    · exact same_none _
  | aindex n e k x i =>
    simp only [evOp, ev_congr ha.left, ev_congr ha.right]
    split
    · exact same_ok1 _
    · exact same_none _
  | extract x i =>
    simp only [evOp, ev_congr ha]
    split
    · exact same_ok1 _
    · exact same_none _
  | call f args =>
    simp only [evOp, ev_congr ha.left, evs_congr ha.right]
    split
    · exact same_map _ _ _
    · split
      · exact same_map _ _ _
      · exact same_none _
    · exact same_none _
  | ext k xs =>
    simp only [evOp, evs_congr ha]
    split
    · exact same_map _ _ _
    · exact same_none _
  | callg g args =>
    simp only [evOp, evs_congr ha]
    split
    · exact same_map _ _ _
    · exact same_none _
  | len k x =>
    simp only [evOp, ev_congr ha]
    split
    · exact same_ok1 _
    · exact same_none _
  | append e b x y =>
    simp only [evOp, ev_congr ha.left, ev_congr ha.right]
    split
    · exact same_map _ _ _
    · exact same_none _
  | minmax m xs =>
    simp only [evOp, evs_congr ha]
    split
    · exact same_ok1 _
    · exact same_none _
  | nilcheck x =>
    simp only [evOp, ev_congr ha, adr_congr ha]
    split
    · exact same_ok1 _
    · split
      · rw [isVar_congr ha]
        split
        · exact same_loc _ _
        · exact same_none _
      · exact same_none _
  | eqnil k neg x y =>
    simp only [evOp, ev_congr ha.left, ev_congr ha.right]
    split
    · exact same_ok1 _
    · exact same_none _
  | beq neg x y =>
    simp only [evOp, ev_congr ha.left, ev_congr ha.right]
    split
    · exact same_ok1 _
    · exact same_none _
  | nextStr x => exact same_none _

/-- A calm operation, at slots that look the same to it: its slot gets the same. -/
theorem oper_congr {call : CallSem} {o : AOper} (hc : calm o.op = true) (ha : Agree S S2 o.reads) {s' : Slots} {h' : Heap} (e : evOper call o S h = some (s', h')) :
    ∃ x, s' = setSlot o.dst x S ∧ evOper call o S2 h = some (setSlot o.dst x S2, h') ∧ ∀ cs, x ≠ .var cs := by
  have run : evRun call o S h = some (s', h') → ∃ x, s' = setSlot o.dst x S ∧ evRun call o S2 h = some (setSlot o.dst x S2, h') ∧ ∀ cs, x ≠ .var cs := by
    intro e
    unfold evRun at e
    split at e
    · rename_i x s1 h1 h2
      cases e
      obtain ⟨e1, e2, e3⟩ := op_congr hc ha.left _ _ _ h2
      subst e1
      exact ⟨x, rfl, by unfold evRun; rw [e2], e3⟩
    · cases e
  unfold evOper at e ⊢
  cases hg : o.guard with
  | none =>
    rw [hg] at e
    exact run e
  | some tw =>
    obtain ⟨t, want⟩ := tw
    rw [hg] at e
    have ht : sget S2 t = sget S t := (ha.at_ t (by simp [AOper.reads, hg])).symm
    simp only at e ⊢
    rw [ht]
    split at e
    · split at e
      · rename_i hb
        obtain ⟨x, e1, e2, e3⟩ := run e
        exact ⟨x, e1, by rw [if_pos hb]; exact e2, e3⟩
      · rename_i hb
        cases e
        exact ⟨.undef, rfl, by rw [if_neg hb], fun cs e => by cases e⟩
    · cases e; exact ⟨.undef, rfl, rfl, fun cs e => by cases e⟩
    · cases e

end
end Go.Abs

/-
  The numbers of objects that a value names.
-/
namespace Go.Abs

section
variable {E : Env} {μ μ' : MM}

mutual
theorem VRel.ids_lt : ∀ {a : AVal} {v : Value}, VRel E μ a v → ∀ i ∈ a.ids, i < μ.length
  | .bool _, _, _, i, hi => by simp [AVal.ids] at hi
  | .int _ _, _, _, i, hi => by simp [AVal.ids] at hi
  | .str _, _, _, i, hi => by simp [AVal.ids] at hi
  | .ptr none, _, _, i, hi => by simp [AVal.ids] at hi
  | .ptr (some (j, o)), v, h, i, hi => by
    simp only [AVal.ids, List.mem_singleton] at hi; subst hi
    simp only [VRel] at h
    obtain ⟨_, _, x, hx, _⟩ := h
    exact lt_of_get hx
  | .slice none _ _, _, _, i, hi => by simp [AVal.ids] at hi
  | .slice (some (j, o)) n c, v, h, i, hi => by
    simp only [AVal.ids, List.mem_singleton] at hi; subst hi
    simp only [VRel] at h
    obtain ⟨_, _, _, hl, _⟩ := h
    exact hl
  | .map none, _, _, i, hi => by simp [AVal.ids] at hi
  | .map (some j), v, h, i, hi => by
    simp only [AVal.ids, List.mem_singleton] at hi; subst hi
    simp only [VRel] at h
    obtain ⟨_, x, _, hx, _⟩ := h
    exact lt_of_get hx
  | .yield j, v, h, i, hi => by
    simp only [AVal.ids, List.mem_singleton] at hi; subst hi
    simp only [VRel] at h
    obtain ⟨_, x, _, hx, _⟩ := h
    exact lt_of_get hx
  | .func g f c, v, h, i, hi => by
    simp only [VRel] at h
    obtain ⟨_, f', c', _, _, h1, h2⟩ := h
    simp only [AVal.ids, List.mem_append] at hi
    rcases hi with hi | hi
    · exact VRels.ids_lt h1 i hi
    · exact VRels.ids_lt h2 i hi
  | .nilFunc, _, _, i, hi => by simp [AVal.ids] at hi
  | .iface _ _, _, h, _, _ => by simp only [VRel] at h
  | .nilIface, _, _, i, hi => by simp [AVal.ids] at hi
  | .agg cs, v, h, i, hi => by
    simp only [VRel] at h
    obtain ⟨_, _, h1, _⟩ := h
    exact VRels.ids_lt h1 i (by simpa [AVal.ids] using hi)
  | .tuple vs, v, h, i, hi => by
    simp only [VRel] at h
    obtain ⟨_, _, h1⟩ := h
    exact VRels.ids_lt h1 i (by simpa [AVal.ids] using hi)
theorem VRels.ids_lt : ∀ {as : List AVal} {l : List Value}, VRels E μ as l → ∀ i ∈ AVal.idsL as, i < μ.length
  | [], _, _, i, hi => by simp [AVal.idsL] at hi
  | a :: as, l, h, i, hi => by
    simp only [VRels] at h
    obtain ⟨_, _, _, h1, h2⟩ := h
    simp only [AVal.idsL, List.mem_append] at hi
    rcases hi with hi | hi
    · exact VRel.ids_lt h1 i hi
    · exact VRels.ids_lt h2 i hi
end

mutual
/-- What is known of the objects that a value names is all that counts. -/
theorem same_rel : ∀ {a : AVal} {v : Value}, (∀ i ∈ a.ids, i < μ.length → μ'[i]? = μ[i]?) → VRel E μ a v → VRel E μ' a v
  | .bool _, _, _, h => by simpa only [VRel] using h
  | .int _ _, _, _, h => by simpa only [VRel] using h
  | .str _, _, _, h => by simpa only [VRel] using h
  | .ptr none, _, _, h => by simpa only [VRel] using h
  | .ptr (some (j, o)), v, hi, h => by
    have h3 := hi j (by simp [AVal.ids])
    simp only [VRel, ARel] at h ⊢
    obtain ⟨a, e, x, hx, hm⟩ := h
    exact ⟨a, e, x, (h3 (lt_of_get hx)).trans hx, hm⟩
  | .slice none _ _, _, _, h => by simpa only [VRel] using h
  | .slice (some (j, o)) n c, v, hi, h => by
    have h3 := hi j (by simp [AVal.ids])
    simp only [VRel, ARel] at h ⊢
    obtain ⟨a, cap, e, h1, h2⟩ := h
    have h4 := h3 h1
    rw [h4]
    refine ⟨a, cap, e, ?_, h2⟩
    rw [List.getElem?_eq_getElem h1] at h4
    exact lt_of_get h4
  | .map none, _, _, h => by simpa only [VRel] using h
  | .map (some j), v, hi, h => by
    have h3 := hi j (by simp [AVal.ids])
    simp only [VRel] at h ⊢
    obtain ⟨b, x, e, hx, hm⟩ := h
    exact ⟨b, x, e, (h3 (lt_of_get hx)).trans hx, hm⟩
  | .yield j, v, hi, h => by
    have h3 := hi j (by simp [AVal.ids])
    simp only [VRel] at h ⊢
    obtain ⟨b, x, e, hx, hm⟩ := h
    exact ⟨b, x, e, (h3 (lt_of_get hx)).trans hx, hm⟩
  | .func g f c, v, hi, h => by
    simp only [VRel] at h ⊢
    obtain ⟨fid, f', c', e, hg, h1, h2⟩ := h
    exact ⟨fid, f', c', e, hg, sames_rel (fun i hi' => hi i (by simp [AVal.ids, hi'])) h1, sames_rel (fun i hi' => hi i (by simp [AVal.ids, hi'])) h2⟩
  | .nilFunc, _, _, h => by simpa only [VRel] using h
  | .iface _ _, _, _, h => by simp only [VRel] at h
  | .nilIface, _, _, h => by simpa only [VRel] using h
  | .agg cs, v, hi, h => by
    simp only [VRel] at h ⊢
    obtain ⟨cs', e, h1, h2⟩ := h
    exact ⟨cs', e, sames_rel (fun i hi' => hi i (by simp [AVal.ids, hi'])) h1, h2⟩
  | .tuple vs, v, hi, h => by
    simp only [VRel] at h ⊢
    obtain ⟨cs', e, h1⟩ := h
    exact ⟨cs', e, sames_rel (fun i hi' => hi i (by simp [AVal.ids, hi'])) h1⟩
theorem sames_rel : ∀ {as : List AVal} {l : List Value}, (∀ i ∈ AVal.idsL as, i < μ.length → μ'[i]? = μ[i]?) → VRels E μ as l → VRels E μ' as l
  | [], _, _, h => by simpa only [VRels] using h
  | a :: as, l, hi, h => by
    simp only [VRels] at h ⊢
    obtain ⟨v, r, e, h1, h2⟩ := h
    exact ⟨v, r, e, same_rel (fun i hi' => hi i (by simp [AVal.idsL, hi'])) h1, sames_rel (fun i hi' => hi i (by simp [AVal.idsL, hi'])) h2⟩
end

end
/-! ## What a call leaves behind -/

section
variable {E : Env} {μ μ' : MM} {n : Nat}

mutual
/-- A value whose objects are all among the first n: what stands beyond does not matter. -/
theorem under_rel (hm : ∀ i, i < n → μ'[i]? = μ[i]?) : ∀ {a : AVal} {v : Value}, a.under n = true → VRel E μ' a v → VRel E μ a v
  | .bool b, v, _, h => by simpa only [VRel] using h
  | .int k m, v, _, h => by simpa only [VRel] using h
  | .str s, v, _, h => by simpa only [VRel] using h
  | .ptr none, v, _, h => by simpa only [VRel] using h
  | .ptr (some (i, o)), v, hu, h => by
    simp only [AVal.under, decide_eq_true_eq] at hu
    simp only [VRel, ARel] at h ⊢
    rw [hm i hu] at h; exact h
  | .slice none m c, v, _, h => by simpa only [VRel] using h
  | .slice (some (i, o)) m c, v, hu, h => by
    simp only [AVal.under, decide_eq_true_eq] at hu
    simp only [VRel, ARel] at h ⊢
    rw [hm i hu] at h
    obtain ⟨a, cap, e, h1, h2⟩ := h
    refine ⟨a, cap, e, ?_, h2⟩
    have h3 := hm i hu
    rcases Nat.lt_or_ge i μ.length with h4 | h4
    · exact h4
    · rw [List.getElem?_eq_none h4, List.getElem?_eq_getElem h1] at h3; cases h3
  | .map none, v, _, h => by simpa only [VRel] using h
  | .map (some i), v, hu, h => by
    simp only [AVal.under, decide_eq_true_eq] at hu
    simp only [VRel] at h ⊢
    rw [hm i hu] at h; exact h
  | .yield i, v, hu, h => by
    simp only [AVal.under, decide_eq_true_eq] at hu
    simp only [VRel] at h ⊢
    rw [hm i hu] at h; exact h
  | .func g f c, v, hu, h => by
    simp only [AVal.under, Bool.and_eq_true] at hu
    simp only [VRel] at h ⊢
    obtain ⟨fid, f', c', e, hg, h1, h2⟩ := h
    exact ⟨fid, f', c', e, hg, unders_rel hm hu.1 h1, unders_rel hm hu.2 h2⟩
  | .nilFunc, v, _, h => by simpa only [VRel] using h
  | .iface _ _, v, _, h => by simp only [VRel] at h
  | .nilIface, v, _, h => by simpa only [VRel] using h
  | .agg cs, v, hu, h => by
    simp only [AVal.under] at hu
    simp only [VRel] at h ⊢
    obtain ⟨cs', e, h1, h2⟩ := h
    exact ⟨cs', e, unders_rel hm hu h1, h2⟩
  | .tuple vs, v, hu, h => by
    simp only [AVal.under] at hu
    simp only [VRel] at h ⊢
    obtain ⟨cs', e, h1⟩ := h
    exact ⟨cs', e, unders_rel hm hu h1⟩
theorem unders_rel (hm : ∀ i, i < n → μ'[i]? = μ[i]?) : ∀ {as : List AVal} {l : List Value}, AVal.unders n as = true → VRels E μ' as l → VRels E μ as l
  | [], l, _, h => by simpa only [VRels] using h
  | a :: as, l, hu, h => by
    simp only [AVal.unders, Bool.and_eq_true] at hu
    simp only [VRels] at h ⊢
    obtain ⟨v, r, e, h1, h2⟩ := h
    exact ⟨v, r, e, under_rel hm hu.1 h1, unders_rel hm hu.2 h2⟩
end

theorem isOne_ren (f : Nat → Nat) (a : AVal) : (a.ren f).isOne = a.isOne := by
  cases a with
  | ptr p => cases p <;> simp [AVal.ren, AVal.isOne]
  | slice p m c => cases p <;> simp [AVal.ren, AVal.isOne]
  | map p => cases p <;> simp [AVal.ren, AVal.isOne]
  | _ => simp [AVal.ren, AVal.isOne]

mutual
/-- Objects get other numbers. -/
theorem ren_rel (f : Nat → Nat) : ∀ {a : AVal} {v : Value}, (∀ i ∈ a.ids, i < μ.length → μ'[f i]? = μ[i]?) → VRel E μ a v → VRel E μ' (a.ren f) v
  | .bool b, v, _, h => by simpa only [AVal.ren, VRel] using h
  | .int k m, v, _, h => by simpa only [AVal.ren, VRel] using h
  | .str s, v, _, h => by simpa only [AVal.ren, VRel] using h
  | .ptr none, v, _, h => by simpa only [AVal.ren, VRel] using h
  | .ptr (some (i, o)), v, hi, h => by
    have h3 := hi i (by simp [AVal.ids])
    simp only [AVal.ren, VRel, ARel] at h ⊢
    obtain ⟨a, e, x, hx, hm⟩ := h
    exact ⟨a, e, x, (h3 (lt_of_get hx)).trans hx, hm⟩
  | .slice none m c, v, _, h => by simpa only [AVal.ren, VRel] using h
  | .slice (some (i, o)) m c, v, hi, h => by
    have h3 := hi i (by simp [AVal.ids])
    simp only [AVal.ren, VRel, ARel] at h ⊢
    obtain ⟨a, cap, e, h1, h2⟩ := h
    have h4 := h3 h1
    rw [h4]
    refine ⟨a, cap, e, ?_, h2⟩
    rw [List.getElem?_eq_getElem h1] at h4
    exact lt_of_get h4
  | .map none, v, _, h => by simpa only [AVal.ren, VRel] using h
  | .map (some i), v, hi, h => by
    have h3 := hi i (by simp [AVal.ids])
    simp only [AVal.ren, VRel] at h ⊢
    obtain ⟨b, x, e, hx, hm⟩ := h
    exact ⟨b, x, e, (h3 (lt_of_get hx)).trans hx, hm⟩
  | .yield i, v, hi, h => by
    have h3 := hi i (by simp [AVal.ids])
    simp only [AVal.ren, VRel] at h ⊢
    obtain ⟨b, x, e, hx, hm⟩ := h
    exact ⟨b, x, e, (h3 (lt_of_get hx)).trans hx, hm⟩
  | .func g a c, v, hi, h => by
    simp only [AVal.ren, VRel] at h ⊢
    obtain ⟨fid, f', c', e, hg, h1, h2⟩ := h
    exact ⟨fid, f', c', e, hg, rens_rel f (fun i hi' => hi i (by simp [AVal.ids, hi'])) h1, rens_rel f (fun i hi' => hi i (by simp [AVal.ids, hi'])) h2⟩
  | .nilFunc, v, _, h => by simpa only [AVal.ren, VRel] using h
  | .iface _ _, v, _, h => by simp only [VRel] at h
  | .nilIface, v, _, h => by simpa only [AVal.ren, VRel] using h
  | .agg cs, v, hi, h => by
    simp only [AVal.ren, VRel] at h ⊢
    obtain ⟨cs', e, h1, h2⟩ := h
    exact ⟨cs', e, rens_rel f (fun i hi' => hi i (by simp [AVal.ids, hi'])) h1, rens_one f h2⟩
  | .tuple vs, v, hi, h => by
    simp only [AVal.ren, VRel] at h ⊢
    obtain ⟨cs', e, h1⟩ := h
    exact ⟨cs', e, rens_rel f (fun i hi' => hi i (by simp [AVal.ids, hi'])) h1⟩
theorem rens_rel (f : Nat → Nat) : ∀ {as : List AVal} {l : List Value}, (∀ i ∈ AVal.idsL as, i < μ.length → μ'[f i]? = μ[i]?) → VRels E μ as l → VRels E μ' (AVal.renL f as) l
  | [], l, _, h => by simpa only [AVal.renL, VRels] using h
  | a :: as, l, hi, h => by
    simp only [AVal.renL, VRels] at h ⊢
    obtain ⟨v, r, e, h1, h2⟩ := h
    exact ⟨v, r, e, ren_rel f (fun i hi' => hi i (by simp [AVal.idsL, hi'])) h1, rens_rel f (fun i hi' => hi i (by simp [AVal.idsL, hi'])) h2⟩
theorem rens_one (f : Nat → Nat) : ∀ {as : List AVal}, (∀ x ∈ as, x.isOne = true) → ∀ x ∈ AVal.renL f as, x.isOne = true
  | [], _ => by simp [AVal.renL]
  | a :: as, h => by
    intro x hx
    simp only [AVal.renL, List.mem_cons] at hx
    rcases hx with rfl | hx
    · rw [isOne_ren]; exact h a (List.mem_cons_self ..)
    · exact rens_one f (fun y hy => h y (List.mem_cons_of_mem _ hy)) x hx
end

theorem renL_get (f : Nat → Nat) : ∀ (as : List AVal) (k : Nat), (AVal.renL f as)[k]? = (as[k]?).map (AVal.ren f)
  | [], k => by simp [AVal.renL]
  | a :: as, 0 => by simp [AVal.renL]
  | a :: as, k + 1 => by simpa [AVal.renL] using renL_get f as k

theorem renL_length (f : Nat → Nat) : ∀ (as : List AVal), (AVal.renL f as).length = as.length
  | [] => rfl
  | a :: as => by simp [AVal.renL, renL_length f as]

theorem idsL_mem : ∀ {as : List AVal} {k : Nat} {a : AVal} {i : Nat}, as[k]? = some a → i ∈ a.ids → i ∈ AVal.idsL as
  | [], k, a, i, h, _ => by simp at h
  | x :: as, 0, a, i, h, hi => by simp at h; subst h; simp [AVal.idsL, hi]
  | x :: as, k + 1, a, i, h, hi => by
    simp at h
    simp [AVal.idsL, idsL_mem h hi]

end
end Go.Abs

/-
  Operations that change nothing but make at most one object: what of the memory they look at.
-/
namespace Go.Abs

section
variable {s : Slots} {h1 h2 : Heap} {X : List Nat}

/-- A new object's number, in what is made of it. -/
inductive NewF : (Nat → Slot) → Prop where
  | ptr : NewF fun k => .val (.ptr (some (k, 0)))
  | slice (n : Nat) (c : Option Nat) : NewF fun k => .val (.slice (some (k, 0)) n c)
  | map : NewF fun k => .val (.map (some k))

theorem NewF.ids {f : Nat → Slot} (h : NewF f) (k : Nat) : (f k).ids = [k] := by cases h <;> rfl
theorem NewF.ren {f : Nat → Slot} (h : NewF f) (N r : Nat) : (f N).ren (mv N r) = f r := by cases h <;> simp [Slot.ren, AVal.ren, mv]
theorem NewF.novar {f : Nat → Slot} (h : NewF f) (k : Nat) (cs : List AVal) : f k ≠ .var cs := by cases h <;> simp
theorem NewF.val {f : Nat → Slot} (h : NewF f) (k : Nat) : ∃ v, f k = .val v := by cases h <;> exact ⟨_, rfl⟩

def Moved (o : AOp) (s : Slots) (h1 h2 : Heap) (a b : Option (Slot × Slots × Heap)) : Prop :=
  ∀ x s' h', a = some (x, s', h') → s' = s ∧ ((h' = h1 ∧ b = some (x, s, h2)) ∨ (∃ ob f, NewF f ∧ x = f h1.size ∧ h' = h1.push ob ∧ b = some (f h2.size, s, h2.push ob)) ∨
    (∃ i ob f, NewF f ∧ h1.base ≤ i ∧ i < h1.size ∧ i ∈ rdIds o s ∧ x = f h1.size ∧ h' = (h1.put i .dead).push ob ∧ b = some (f h2.size, s, (h2.put i .dead).push ob)))

variable {o : AOp}

theorem moved_none (b : Option (Slot × Slots × Heap)) : Moved o s h1 h2 none b := fun _ _ _ e => by cases e
theorem moved_ok1 (v : Option AVal) : Moved o s h1 h2 (ok1 s h1 v) (ok1 s h2 v) := fun x s' h' e => by
  unfold ok1 at e ⊢
  rw [Option.map_eq_some_iff] at e
  obtain ⟨u, rfl, e⟩ := e
  cases e
  exact ⟨rfl, .inl ⟨rfl, rfl⟩⟩
theorem moved_same (y : Slot) : Moved o s h1 h2 (some (y, s, h1)) (some (y, s, h2)) := fun x s' h' e => by
  cases e
  exact ⟨rfl, .inl ⟨rfl, rfl⟩⟩
theorem moved_map {α : Type} (v : Option α) (f : α → Slot) : Moved o s h1 h2 (v.map fun j => (f j, s, h1)) (v.map fun j => (f j, s, h2)) := fun x s' h' e => by
  rw [Option.map_eq_some_iff] at e
  obtain ⟨u, rfl, e⟩ := e
  cases e
  exact ⟨rfl, .inl ⟨rfl, rfl⟩⟩
theorem moved_push {f : Nat → Slot} (hf : NewF f) (ob : AObj) : Moved o s h1 h2 (some (f h1.size, s, h1.push ob)) (some (f h2.size, s, h2.push ob)) := fun x s' h' e => by
  cases e
  exact ⟨rfl, .inr (.inl ⟨ob, f, hf, rfl, rfl, rfl⟩)⟩

theorem rowOf_same {e : Nat} {v : AVal} (ha : ∀ i ∈ v.ids, h2.get i = h1.get i) : rowOf e h2 v = rowOf e h1 v := by
  unfold rowOf
  split
  · rfl
  · rename_i i o n c
    rw [ha i (by simp [AVal.ids])]
  · rfl
  · rfl

theorem adr_get {x : Opd} {i o : Nat} (ha : ∀ v, x.ev s = some v → ∀ i ∈ v.ids, h2.get i = h1.get i) (hx : x.adr s = some (.glob i o)) : h2.get i = h1.get i := by
  unfold Opd.adr at hx
  split at hx
  · rename_i t
    split at hx <;> cases hx
    rename_i hs
    exact ha (.ptr (some (i, o))) (by simp [Opd.ev, hs]) i (by simp [AVal.ids])
  · cases hx

theorem evs_mem : ∀ {xs : List Opd} {vs : List AVal} {v : AVal}, evs s xs = some vs → v ∈ vs → ∃ x ∈ xs, x.ev s = some v
  | [], vs, v, h, hv => by simp only [evs] at h; cases h; cases hv
  | x :: xs, vs, v, h, hv => by
    simp only [evs] at h
    split at h
    · rename_i u us hu hus
      cases h
      rcases List.mem_cons.1 hv with rfl | hv
      · exact ⟨x, List.mem_cons_self .., hu⟩
      · obtain ⟨y, hy, h3⟩ := evs_mem hus hv
        exact ⟨y, List.mem_cons_of_mem _ hy, h3⟩
    · cases h

theorem op_heap {call : CallSem} {d : Nat} {o : AOp} (hc : soft o = true) (hcc : o.isCall = false) (hb : h2.base = h1.base) (ha : ∀ x ∈ heapOpds o, ∀ v, x.ev s = some v → ∀ i ∈ v.ids, h2.get i = h1.get i) :
    Moved o s h1 h2 (evOp call d o s h1) (evOp call d o s h2) := by
  cases o with
  | lalloc z => cases hc
  | lbox x => cases hc
  | store n a x => cases hc
  | copy e d s => cases hc
  | call f args => cases hcc
  | callg g args => cases hcc
  | alloc e z => simp only [evOp]; exact moved_push .ptr _
  | box x =>
    simp only [evOp]
    split
    · exact moved_push .ptr _
    · exact moved_none _
  | mkslice e n z ps =>
    simp only [evOp]
    split
    · exact moved_push (.slice _ _) _
    · exact moved_none _
  | make e b z l c =>
    simp only [evOp]
    split
    · split
      · exact moved_push (.slice _ _) _
      · exact moved_none _
    · exact moved_none _
  | load n a =>
    simp only [evOp]
    split
    · rename_i ad had
      have : loadAt s h2 ad n = loadAt s h1 ad n := by
        unfold loadAt cellsAt
        cases ad with
        | glob i o => simp only; rw [adr_get (ha a (by simp [heapOpds])) had]
        | loc t o => rfl
      rw [this]
      exact moved_ok1 _
    · exact moved_none _
  | len k x =>
    simp only [evOp]
    split
    · rename_i v hv
      have : evLen k v h2 = evLen k v h1 := by
        unfold evLen
        split
        · rfl
        · rfl
        · split
          · rfl
          · rename_i r
            rw [ha x (by simp [heapOpds]) _ hv r (by simp [AVal.ids])]
          · rfl
      rw [this]
      exact moved_ok1 _
    · exact moved_none _
  | conv k x =>
    simp only [evOp]
    split
    · rename_i v hv
      have hav := ha x (by simp [heapOpds]) v hv
      unfold evConv
      split
      · split
        · exact moved_ok1 _
        · exact moved_none _
      · split
        · exact moved_ok1 _
        · exact moved_none _
      · split
        · exact moved_push (.slice _ _) _
        · exact moved_none _
      · split
        · rename_i a n c
          rw [rowOf_same hav]
          split
          · exact moved_ok1 _
          · exact moved_none _
        · exact moved_none _
    · exact moved_none _
  | slice k x lo hi mx =>
    simp only [evOp]
    split
    · rename_i lo' hi' mx' _ _ _
      have hav := ha x (by simp [heapOpds])
      have : aSlice k s h2 x lo' hi' mx' = aSlice k s h1 x lo' hi' mx' := by
        unfold aSlice
        cases k with
        | str => rfl
        | sl e =>
          simp only
          cases hx : x.ev s with
          | none => rfl
          | some v =>
            cases v with
            | slice p n c =>
              cases p with
              | none => rfl
              | some p =>
                obtain ⟨i, o⟩ := p
                have h3 := hav _ hx i (by simp [AVal.ids])
                have h4 : eszIs h2 i e = eszIs h1 i e := by unfold eszIs; rw [h3]
                simp only [h4]
            | _ => rfl
        | arr n e =>
          simp only
          cases hx : x.adr s with
          | none => rfl
          | some ad =>
            cases ad with
            | glob i o => simp only [adr_get hav hx]
            | loc t o => rfl
      rw [this]
      exact moved_ok1 _
    · exact moved_none _
  | append e b x y =>
    simp only [evOp]
    split
    · rename_i vx vy hx hy
      have hax := ha x (by simp [heapOpds]) vx hx
      have hay := ha y (by simp [heapOpds]) vy hy
      unfold aAppend
      split
      · rename_i a n c
        rw [rowOf_same hax, rowOf_same hay]
        split
        · rename_i old new _ _
          unfold aApp
          split
          · exact moved_same _
          · split
            · cases a with
              | none => simp only; exact moved_push (.slice _ _) _
              | some p =>
                obtain ⟨i, o⟩ := p
                simp only
                split
                · exact moved_push (.slice _ _) _
                · have hr : rowIs h2 i e = rowIs h1 i e := by
                    unfold rowIs
                    rw [hax i (by simp [AVal.ids])]
                  rw [hb, hr]
                  split
                  · rename_i hh
                    intro x' s' h' e'
                    cases e'
                    have hlt : i < h1.size := by
                      have h3 := hh.2
                      unfold rowIs at h3
                      split at h3
                      · rename_i hg; exact lt_of_get hg
                      · cases h3
                    refine ⟨rfl, .inr (.inr ⟨i, _, _, .slice _ _, hh.1, hlt, ?_, rfl, rfl, ?_⟩)⟩
                    · simp [rdIds, heapOpds, hx, AVal.ids]
                    · simp [Heap.size, Heap.put]
                  · exact moved_none _
            · exact moved_none _
        · exact moved_none _
      · exact moved_none _
    · exact moved_none _
  | val x => exact moved_ok1 _
  | build z ps => exact moved_ok1 _
  | faddr x off =>
    simp only [evOp]
    split
    · exact moved_ok1 _
    · split
      · exact moved_same _
      · exact moved_none _
    · exact moved_none _
  | pick c x y =>
    simp only [evOp]
    split
    · exact moved_ok1 _
    · exact moved_ok1 _
    · exact moved_none _
  | bin op x y =>
    simp only [evOp]
    split
    · exact moved_ok1 _
    · exact moved_none _
  | un op x =>
    simp only [evOp]
    split
    · exact moved_ok1 _
    · exact moved_none _
  | mkfunc g f c =>
    simp only [evOp]
    split
    · exact moved_ok1 _
    · exact moved_none _
  | field x off n =>
    simp only [evOp]
    split
    · exact moved_ok1 _
    · exact moved_none _
  | iaddr e x i =>
    simp only [evOp]
    split
    · exact moved_ok1 _
    · exact moved_none _
  | aaddr n e x i =>
    simp only [evOp]
    split
    · exact moved_ok1 _
    · split
      · exact moved_map _ _
      · exact moved_none _
    · exact moved_none _
  | index x i =>
    simp only [evOp]
    split
    · exact moved_ok1 _
    · exact moved_none _
  | aindex n e k x i =>
    simp only [evOp]
    split
    · exact moved_ok1 _
    · exact moved_none _
  | extract x i =>
    simp only [evOp]
    split
    · exact moved_ok1 _
    · exact moved_none _
  | minmax m xs =>
    simp only [evOp]
    split
    · exact moved_ok1 _
    · exact moved_none _
  | nilcheck x =>
    simp only [evOp]
    split
    · exact moved_ok1 _
    · split
      · split
        · exact moved_same _
        · exact moved_none _
      · exact moved_none _
  | eqnil k neg x y =>
    simp only [evOp]
    split
    · exact moved_ok1 _
    · exact moved_none _
  | beq neg x y =>
    simp only [evOp]
    split
    · exact moved_ok1 _
    · exact moved_none _
  | ext k xs =>
    simp only [evOp]
    split
    · rename_i vs hvs
      have hent : (∀ x ∈ xs, ∀ v, x.ev s = some v → ∀ i ∈ v.ids, h2.get i = h1.get i) → ∀ v ∈ vs, entriesOf h2 v = entriesOf h1 v := by
        intro ha v hv
        have := evs_mem hvs hv
        obtain ⟨x, hx, hxv⟩ := this
        unfold entriesOf
        split
        · rfl
        · rename_i r
          rw [ha x hx _ hxv r (by simp [AVal.ids])]
        · rfl
      cases k with
      | mkmap =>
        cases vs with
        | nil => simp only [evExt, Option.map_some]; exact moved_push .map _
        | cons v vs => exact moved_none _
      | mkiter =>
        have hent := hent (fun x hx => ha x (by simpa [heapOpds] using hx))
        cases vs with
        | nil => exact moved_none _
        | cons m vs =>
          cases vs with
          | cons _ _ =>
            cases m with
            | map r => cases r <;> exact moved_none _
            | _ => exact moved_none _
          | nil =>
            cases m with
            | map r =>
              cases r with
              | none => simp only [evExt, Option.map_some]; exact moved_push .ptr _
              | some r =>
                have hg : h2.get r = h1.get r := by
                  obtain ⟨x, hx, hxv⟩ := evs_mem hvs (List.mem_singleton_self _)
                  exact ha x (by simpa [heapOpds] using hx) _ hxv r (by simp [AVal.ids])
                simp only [evExt, hg]
                split
                · simp only [Option.map_some]; exact moved_push .ptr _
                · exact moved_none _
            | _ => exact moved_none _
      | mapupd kn => cases hc
      | delete kn => cases hc
      | entry => cases hc
      | lookup kn z ok =>
        have hent := hent (fun x hx => ha x (by simpa [heapOpds] using hx))
        cases vs with
        | nil => exact moved_none _
        | cons m vs =>
          cases vs with
          | nil => exact moved_none _
          | cons y vs =>
            cases vs with
            | cons _ _ => exact moved_none _
            | nil =>
              simp only [evExt, hent m (List.mem_cons_self ..)]
              split
              · split
                · split
                  · exact moved_same _
                  · exact moved_same _
                  · exact moved_none _
                · exact moved_none _
              · exact moved_none _
      | pure p =>
        simp only [evExt]
        cases evPure p vs with
        | none => exact moved_none _
        | some r => exact moved_same _
    · exact moved_none _
  | nextStr _ => exact moved_none _

end
end Go.Abs
