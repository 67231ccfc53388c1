/-
  Each operation: what the abstract machine gives, the model's operation does. First those that change nothing but their slot.
-/
import Derived.Test.YtnpjncdnlacmeaaAbsVar
import Derived.Laws.Strings
import Derived.Laws.Entries
import Derived.Deep.AppendSrc
namespace Go.Abs

/-- What stands in a slot: a value, or 'undef', or a way into a variable. -/
def SRel (E : Env) (ν : Fr) (μ : MM) (x : Slot) (v : Value) : Prop :=
  match x with
  | .val a => VRel E μ a v
  | .undef => v = Go.undef
  | .loc t o => v = .pointer (some ⟨ν t, o, none⟩)
  | _ => False

section
variable {E : Env} {lo : Nat} {ν : Fr} {μ : MM} {s : Slots} {h : Heap} {a : Act} {w : World} {call : CallSem} {d : Nat}

theorem ok1_some {v : Option AVal} {x : Slot} {s' : Slots} {h' : Heap} (e : ok1 s h v = some (x, s', h')) : ∃ u, v = some u ∧ x = .val u ∧ s' = s ∧ h' = h := by
  unfold ok1 at e
  rw [Option.map_eq_some_iff] at e
  obtain ⟨u, hu, e⟩ := e
  cases e
  exact ⟨u, hu, rfl, rfl, rfl⟩

theorem bytesLess_eq : ∀ (a b : List UInt8), aBytesLess a b = Op.bytesLess a b
  | [], [] => rfl
  | [], _ :: _ => rfl
  | _ :: _, [] => rfl
  | x :: a, y :: b => by simp [aBytesLess, Op.bytesLess, bytesLess_eq a b]

theorem beq_decide {α : Type} [BEq α] [LawfulBEq α] [DecidableEq α] (a b : α) : (a == b) = decide (a = b) := by
  rw [Bool.eq_iff_iff]; simp

theorem mk_append (a b : List UInt8) : (⟨a.toArray⟩ : ByteArray) ++ ⟨b.toArray⟩ = ⟨(a ++ b).toArray⟩ := by
  apply ByteArray.ext
  simp

theorem mk_size (a : List UInt8) : (⟨a.toArray⟩ : ByteArray).size = a.length := by simp [ByteArray.size]

theorem run_bin_int {P : Program} {op : BinOp} {t : TypeId} {k k' : IntKind} {x y : Int} {r : AVal} (w : World) (h : aBin op (.int k x) (.int k' y) = some r) :
    ∃ v, (binOp op t (.int k x) (.int k' y)).run P w = .ok v w ∧ VRel E μ r v := by
  cases op
  case shl =>
    simp only [aBin] at h
    split at h
    · cases h
    · rename_i hn
      cases h
      exact ⟨_, by simp [binOp, Op.shift, hn]; rfl, by simp [VRel]⟩
  case shr =>
    simp only [aBin] at h
    split at h
    · cases h
    · rename_i hn
      cases h
      exact ⟨_, by simp [binOp, Op.shift, hn]; rfl, by simp [VRel]⟩
  all_goals
    simp only [aBin] at h
    split at h
    case isFalse => cases h
    rename_i hk
    subst hk
  case quo =>
    split at h
    · cases h
    · rename_i hn
      cases h
      exact ⟨_, by simp [binOp, Op.intDiv, hn]; rfl, by simp [VRel]⟩
  case rem =>
    split at h
    · cases h
    · rename_i hn
      cases h
      exact ⟨_, by simp [binOp, Op.intDiv, hn]; rfl, by simp [VRel]⟩
  case add => cases h; exact ⟨_, by simp [binOp, Op.intArith]; rfl, by simp [VRel]⟩
  case sub => cases h; exact ⟨_, by simp [binOp, Op.intArith]; rfl, by simp [VRel]⟩
  case mul => cases h; exact ⟨_, by simp [binOp, Op.intArith]; rfl, by simp [VRel]⟩
  case and => simp only [aBits] at h; cases h; exact ⟨_, by simp [binOp, Op.intBits]; rfl, by simp [VRel]⟩
  case or => simp only [aBits] at h; cases h; exact ⟨_, by simp [binOp, Op.intBits]; rfl, by simp [VRel]⟩
  case xor => simp only [aBits] at h; cases h; exact ⟨_, by simp [binOp, Op.intBits]; rfl, by simp [VRel]⟩
  case andNot => simp only [aBits] at h; cases h; exact ⟨_, by simp [binOp, Op.intBits]; rfl, by simp [VRel]⟩
  case eql => cases h; exact ⟨.bool (x == y), by simp [binOp, Op.intCmp], by simp [VRel, beq_decide]⟩
  case neq => cases h; exact ⟨.bool (x != y), by simp [binOp, Op.intCmp], by simp [VRel, bne, beq_decide]⟩
  case lss => cases h; exact ⟨_, by simp [binOp, Op.intCmp]; rfl, by simp [VRel]⟩
  case leq => cases h; exact ⟨_, by simp [binOp, Op.intCmp]; rfl, by simp [VRel]⟩
  case gtr => cases h; exact ⟨_, by simp [binOp, Op.intCmp]; rfl, by simp [VRel]⟩
  case geq => cases h; exact ⟨_, by simp [binOp, Op.intCmp]; rfl, by simp [VRel]⟩

theorem run_bin_str {P : Program} {op : BinOp} {t : TypeId} {x y : List UInt8} {r : AVal} (w : World) (h : aBin op (.str x) (.str y) = some r) :
    ∃ v, (binOp op t (.string ⟨x.toArray⟩) (.string ⟨y.toArray⟩)).run P w = .ok v w ∧ VRel E μ r v := by
  cases op <;> simp only [aBin] at h
  case add =>
    split at h
    · rename_i hl
      cases h
      have hn : ¬ (((x.length + y.length : Nat) : Int) > IntKind.i64.max) := by simp [IntKind.max, IntKind.signed, IntKind.bits]; omega
      refine ⟨.string ⟨(x ++ y).toArray⟩, ?_, by simp [VRel]⟩
      simp only [binOp, Op.stringOp, mk_size]
      rw [if_neg hn, mk_append]; rfl
    · cases h
  case eql => cases h; exact ⟨_, by simp [binOp, Op.stringOp]; rfl, by simp [VRel, beq_decide]⟩
  case neq => cases h; exact ⟨_, by simp [binOp, Op.stringOp]; rfl, by simp [VRel, beq_decide]⟩
  case lss => cases h; exact ⟨_, by simp [binOp, Op.stringOp]; rfl, by simp [VRel, bytesLess_eq]⟩
  case leq => cases h; exact ⟨_, by simp [binOp, Op.stringOp]; rfl, by simp [VRel, bytesLess_eq, beq_decide]⟩
  case gtr => cases h; exact ⟨_, by simp [binOp, Op.stringOp]; rfl, by simp [VRel, bytesLess_eq, beq_decide]⟩
  case geq => cases h; exact ⟨_, by simp [binOp, Op.stringOp]; rfl, by simp [VRel, bytesLess_eq]⟩
  all_goals cases h

theorem run_eqGuard {P : Program} (op : BinOp) (t : TypeId) (x y : Operand) (u v : Value) (w : World) (h1 : ∀ c, u ≠ .agg c) (h2 : u ≠ .nilIface) : (eqGuard op t x y u v).run P w = .ok () w := by
  unfold eqGuard
  cases op <;> (try rfl) <;> (cases u <;> first | rfl | (exact absurd rfl h2) | (exact absurd rfl (h1 _)) | (cases v <;> rfl))

theorem un_rel {P : Program} {op : UnOp} {x r : AVal} {u : Value} (w : World) (hx : VRel E μ x u) (h : aUn op x = some r) : ∃ v, (Op.unary op u).run P w = .ok v w ∧ VRel E μ r v := by
  cases x <;> simp only [aUn] at h <;> (try cases h)
  case int k n =>
    simp only [VRel] at hx; subst hx
    cases op <;> simp only [aBits] at h <;> cases h
    · exact ⟨_, by simp [Op.unary, Op.intArith]; rfl, by simp [VRel]⟩
    · exact ⟨_, by simp [Op.unary, Op.intBits]; rfl, by simp [VRel]⟩
  case bool b =>
    simp only [VRel] at hx; subst hx
    cases op <;> simp at h
    subst h
    exact ⟨_, by simp [Op.unary]; rfl, by simp [VRel]⟩

theorem min2_rel {P : Program} {mx : Bool} {x y r : AVal} {u v : Value} (w : World) (hx : VRel E μ x u) (hy : VRel E μ y v) (h : aMin2 mx x y = some r) :
    ∃ z, (if mx then Builtin.max2 u v else Builtin.min2 u v).run P w = .ok z w ∧ VRel E μ r z := by
  cases x <;> cases y <;> simp only [aMin2] at h <;> (try cases h)
  case int.int k n k' m =>
    simp only [VRel] at hx hy; subst hx; subst hy
    split at h
    · rename_i e; subst e; cases h
      cases mx
      · exact ⟨_, by simp [Builtin.min2]; rfl, by simp [VRel]⟩
      · exact ⟨_, by simp [Builtin.max2]; rfl, by simp [VRel]⟩
    · cases h

theorem mins_rel {P : Program} {mx : Bool} (w : World) : ∀ {l : List AVal} {x r : AVal} {u : Value} {vs : List Value}, VRel E μ x u → VRels E μ l vs → aMins mx x l = some r →
    ∃ z, (vs.foldlM (fun a b => if mx then Builtin.max2 a b else Builtin.min2 a b) u : Sem Value).run P w = .ok z w ∧ VRel E μ r z
  | [], x, r, u, vs, hx, hl, h => by
    simp only [VRels] at hl; subst hl
    simp only [aMins] at h; cases h
    exact ⟨u, rfl, hx⟩
  | y :: l, x, r, u, vs, hx, hl, h => by
    simp only [VRels] at hl
    obtain ⟨v, t, rfl, hv, ht⟩ := hl
    simp only [aMins] at h
    split at h
    · rename_i z hz
      obtain ⟨z', h1, h2⟩ := min2_rel (P := P) w hx hv hz
      obtain ⟨r', h3, h4⟩ := mins_rel (P := P) w h2 ht h
      refine ⟨r', ?_, h4⟩
      simp only [List.foldlM_cons, Sem.run_bind, h1, Result.andThen_ok, h3]
    · cases h

/-! ## Parts of aggregates and of memory -/

theorem run_isAgg {P : Program} {t : TypeId} {n : Option Nat} (h : partT P t = some n) (w : World) : (isAgg t).run P w = .ok n.isSome w ∧ ∀ k, n = some k → (sizeOf t).run P w = .ok k w := by
  unfold partT at h
  cases hu : P.underlying t with
  | none => rw [hu] at h; simp at h
  | some d =>
    rw [hu] at h
    have hs : ∀ k, sizeT P t = some k → (sizeOf t).run P w = .ok k w := by
      intro k hk
      unfold sizeT at hk
      cases hi : P.info? t with
      | none => rw [hi] at hk; simp at hk
      | some i => rw [hi] at hk; simp at hk; subst hk; simp [sizeOf, typeInfo, hi]
    cases d <;> simp only [Option.some.injEq] at h <;> (first | (subst h; exact ⟨by simp [isAgg, run_underlying hu], fun k hk => by cases hk⟩) | skip)
    · cases hz : sizeT P t with
      | none => rw [hz] at h; simp at h
      | some k => rw [hz] at h; simp at h; subst h; exact ⟨by simp [isAgg, run_underlying hu], fun k' hk => by cases hk; exact hs k hz⟩
    · cases hz : sizeT P t with
      | none => rw [hz] at h; simp at h
      | some k => rw [hz] at h; simp at h; subst h; exact ⟨by simp [isAgg, run_underlying hu], fun k' hk => by cases hk; exact hs k hz⟩

theorem run_sizeOf {P : Program} {t : TypeId} {k : Nat} (h : sizeT P t = some k) (w : World) : (sizeOf t).run P w = .ok k w := by
  unfold sizeT at h
  cases hi : P.info? t with
  | none => rw [hi] at h; simp at h
  | some i => rw [hi] at h; simp at h; subst h; simp [sizeOf, typeInfo, hi]

theorem part_rel {P : Program} {t : TypeId} {n : Option Nat} {cs : List AVal} {c : Array Value} {o : Nat} {r : AVal} (w : World) (ht : partT P t = some n) (hc : VRels E μ cs c.toList) (h1 : ∀ x ∈ cs, x.isOne = true) (h : Abs.part cs o n = some r) :
    ∃ v, (Go.part t c o).run P w = .ok v w ∧ VRel E μ r v := by
  obtain ⟨ha, hs⟩ := run_isAgg ht w
  cases n with
  | none =>
    simp only [Abs.part] at h
    obtain ⟨v, hv, hr⟩ := hc.get h
    refine ⟨v, ?_, hr⟩
    have hv' : c[o]? = some v := by simpa using hv
    simp [Go.part, ha, hv']
  | some k =>
    simp only [Abs.part] at h
    split at h
    · rename_i hl
      cases h
      have hlen := hc.length
      refine ⟨.agg (c.extract o (o + k)), ?_, ?_⟩
      · simp [Go.part, ha, hs k rfl]
      · simp only [VRel]
        refine ⟨_, rfl, ?_, fun x hx => h1 x (List.mem_of_mem_drop (List.mem_of_mem_take hx))⟩
        apply VRels.of
        · simp at hlen ⊢; omega
        · intro j x hj
          have hjk : j < k := by
            rcases Nat.lt_or_ge j k with h2 | h2
            · exact h2
            · rw [List.getElem?_eq_none (by simp; omega)] at hj; cases hj
          rw [List.getElem?_take_of_lt hjk, List.getElem?_drop] at hj
          obtain ⟨v, hv, hr⟩ := hc.get hj
          refine ⟨v, ?_, hr⟩
          rw [← hv, Array.getElem?_toList, Array.getElem?_toList, Array.getElem?_extract, if_pos]
          simp at hlen
          omega
    · cases h

/-- Cells that an address leads to: in the world. -/
theorem cellsAt_rel (hf : FRel E lo ν μ (sget s) a.tmps w) (hr : Rel E μ h w) {x : Operand} {y : Opd} {ad : AAddr} {cs : List AVal} {o : Nat} (hc : cOpd E x = some y) (hy : y.adr s = some ad) (hcs : cellsAt s h ad = some (cs, o)) :
    ∃ b p c e fr, a.eval x = .pointer (some ⟨b, p + o, none⟩) ∧ w.heap[b]? = some (.cells c e fr) ∧ p + cs.length ≤ c.size ∧ CRel E μ cs c p := by
  cases ad with
  | glob i o' =>
    simp only [cellsAt] at hcs
    split at hcs
    · rename_i esz cs' hg
      cases hcs
      obtain ⟨m, c, e, fr, h1, _, h2, h3, h4, h5, _⟩ := hr.obj i _ hg
      obtain ⟨ad, h6, x', h7, h8⟩ := adr_glob hf hc hy
      rw [h1] at h7; cases h7
      have := h8 m rfl; subst this
      exact ⟨m.blk, m.base, c, e, fr, h6, h2, by omega, h5⟩
    · cases hcs
  | loc t o' =>
    simp only [cellsAt] at hcs
    split at hcs
    · rename_i cs' hg
      cases hcs
      obtain ⟨h1, h2, c, e, fr, h3, h4, h5, h6⟩ := hf.var t _ hg
      exact ⟨ν t, 0, c, e, fr, by rw [Nat.zero_add]; exact adr_loc hf hc hy hg, h3, by omega, h5⟩
    · cases hcs

theorem add_plain (b o n : Nat) : (⟨b, o, none⟩ : Addr).add n = ⟨b, o + n, none⟩ := by
  unfold Addr.add
  split
  · rename_i h; subst h; rfl
  · rfl

theorem run_loadCells' {P : Program} {w : World} {b o n : Nat} {l : List Value} (hl : l.length = n) (h : ∀ j v, l[j]? = some v → w.cell? ⟨b, o + j, none⟩ = some v) : (loadCells ⟨b, o, none⟩ n).run P w = .ok l.toArray w := by
  subst hl
  exact run_loadCells_list (P := P) (w := w) ⟨b, o, none⟩ l fun j v hj => by rw [add_plain]; exact h j v hj

theorem load_rel {P : Program} {t : TypeId} {n : Option Nat} {cs : List AVal} {o b p : Nat} {c : Array Value} {e : TypeId} {fr : Nat × Nat} {r : AVal}
    (ht : partT P t = some n) (hb : w.heap[b]? = some (.cells c e fr)) (hl : p + cs.length ≤ c.size) (hc : CRel E μ cs c p) (h : Abs.part cs o n = some r) :
    ∃ v, (loadVar t ⟨b, p + o, none⟩).run P w = .ok v w ∧ VRel E μ r v := by
  obtain ⟨ha, hs⟩ := run_isAgg ht w
  cases n with
  | none =>
    simp only [Abs.part] at h
    obtain ⟨_, v, hv, hr⟩ := hc o r h
    refine ⟨v, ?_, hr⟩
    simp [loadVar, ha, cell_of_block hb, hv]
  | some k =>
    simp only [Abs.part] at h
    split at h
    · rename_i hk
      cases h
      have hrun : (loadCells ⟨b, p + o, none⟩ k).run P w = .ok ((c.toList.drop (p + o)).take k).toArray w := by
        refine run_loadCells' (by simp; omega) fun j v hj => ?_
        rw [cell_of_block hb, ← hj]
        have hjk : j < k := by
          rcases Nat.lt_or_ge j k with h2 | h2
          · exact h2
          · rw [List.getElem?_eq_none (by simp; omega)] at hj; cases hj
        rw [List.getElem?_take_of_lt hjk, List.getElem?_drop]; simp
      refine ⟨.agg ((c.toList.drop (p + o)).take k).toArray, by simp [loadVar, ha, hs k rfl, hrun], ?_⟩
      simp only [VRel]
      refine ⟨_, rfl, ?_, fun x hx => ?_⟩
      · apply VRels.of
        · simp; omega
        · intro j x hj
          have hjk : j < k := by
            rcases Nat.lt_or_ge j k with h2 | h2
            · exact h2
            · rw [List.getElem?_eq_none (by simp; omega)] at hj; cases hj
          rw [List.getElem?_take_of_lt hjk, List.getElem?_drop] at hj
          obtain ⟨_, v, hv, hr⟩ := hc _ x hj
          refine ⟨v, ?_, hr⟩
          rw [← hv]
          simp only
          rw [List.getElem?_take_of_lt hjk, List.getElem?_drop]
          simp [Nat.add_assoc]
      · have hx' := List.mem_of_mem_drop (List.mem_of_mem_take hx)
        obtain ⟨j, hj⟩ := List.getElem?_of_mem hx'
        exact (hc j x hj).1
    · cases h

/-- A slice's elements, or a text's bytes: what append and conversions read. -/
theorem rowOf_rel (hr : Rel E μ h w) {esz : Nat} {x : AVal} {v : Value} {cs : List AVal} (hx : VRel E μ x v) (hc : rowOf esz h x = some cs) :
    ∃ l n, VRels E μ cs l ∧ (∀ y ∈ cs, y.isOne = true) ∧ (∀ P w', (Builtin.lenOf v).run P w' = .ok n w') ∧ l.length = n * esz ∧
      n = alen x ∧
      ∀ (P : Program) (w' : World), w'.heap = w.heap → (Builtin.firstCells esz n v).run P w' = .ok l.toArray w' := by
  cases x <;> simp only [rowOf] at hc <;> (try cases hc)
  case str t =>
    simp only [VRel] at hx; subst hx
    split at hc
    case isFalse => cases hc
    rename_i he1
    subst he1
    cases hc
    refine ⟨t.map fun b => .int .u8 b.toNat, t.length, ?_, ?_, ?_, by simp, rfl, ?_⟩
    · apply VRels.of
      · simp
      · intro k x hk
        simp only [List.getElem?_map, Option.map_eq_some_iff] at hk ⊢
        obtain ⟨b, hb, rfl⟩ := hk
        exact ⟨_, ⟨b, hb, rfl⟩, by simp [VRel]⟩
    · intro y hy
      obtain ⟨b, _, rfl⟩ := List.mem_map.1 hy
      rfl
    · intro P w'
      simp [Builtin.lenOf, mk_size]
    · intro P w' _
      have := firstCells_string (P := P) (⟨t.toArray⟩ : ByteArray) w'
      rw [mk_size] at this
      rw [this]; simp [byteCells]
  case slice ad n c =>
    cases ad with
    | none =>
      simp only at hc; cases hc
      simp only [VRel] at hx
      obtain ⟨rfl, rfl, rfl⟩ := hx
      exact ⟨[], 0, by simp [VRels], by simp, fun P w' => rfl, by simp, rfl, fun P w' _ => by simp [Builtin.firstCells]⟩
    | some io =>
      obtain ⟨i, o⟩ := io
      simp only at hc
      simp only [VRel] at hx
      obtain ⟨ad, cap, rfl, _, hA0, _, hcap, _⟩ := hx
      split at hc
      · rename_i h0
        subst h0; cases hc
        exact ⟨[], 0, by simp [VRels], by simp, fun P w' => rfl, by simp, rfl, fun P w' _ => by simp [Builtin.firstCells, loadCells, loadCellsFrom]⟩
      · rename_i h0
        split at hc
        · rename_i e' cs' hg
          split at hc
          · rename_i hh
            cases hc
            obtain ⟨rfl, hlen⟩ := hh
            obtain ⟨m, c', te, fr, h1, h2, h3, h4, h5, h6, _⟩ := hr.obj i _ hg
            obtain ⟨x', h7, h8⟩ := hA0 (by omega)
            rw [h1] at h7; cases h7
            have := h8 m rfl; subst this
            refine ⟨(c'.toList.drop (m.base + o)).take (n * e'), n, ?_, ?_, fun P w' => rfl, by simp; omega, rfl, ?_⟩
            · apply VRels.of
              · simp; omega
              · intro j x hj
                have hjk : j < n * e' := by
                  rcases Nat.lt_or_ge j (n * e') with h9 | h9
                  · exact h9
                  · rw [List.getElem?_eq_none (by simp; omega)] at hj; cases hj
                rw [List.getElem?_take_of_lt hjk, List.getElem?_drop] at hj
                obtain ⟨_, v, hv, hrr⟩ := h6 _ x hj
                refine ⟨v, ?_, hrr⟩
                rw [List.getElem?_take_of_lt hjk, List.getElem?_drop, ← hv]
                simp [Nat.add_assoc]
            · intro y hy
              obtain ⟨j, hj⟩ := List.getElem?_of_mem (List.mem_of_mem_drop (List.mem_of_mem_take hy))
              exact (h6 j y hj).1
            · intro P w' hw
              simp only [Builtin.firstCells]
              refine run_loadCells' (by simp; omega) fun j v hj => ?_
              have hjk : j < n * e' := by
                rcases Nat.lt_or_ge j (n * e') with h9 | h9
                · exact h9
                · rw [List.getElem?_eq_none (by simp; omega)] at hj; cases hj
              rw [cell_of_block (by rw [hw]; exact h3), ← hj, List.getElem?_take_of_lt hjk, List.getElem?_drop]
              simp
          · cases hc
        · cases hc

end
end Go.Abs
