/-
  An open part, in whatever order.
-/
import Derived.Test.YtnpjncdnlacmeaaAbsOpen5
namespace Go.Abs

section
variable {E : Env} {lo nt : Nat} {μ0 : MM} {w0 : World} {ds : List Deferred} {s : Slots} {h : Heap} {call : CallSem} {ops : Array Oper} {locs : List Nat} {as : List AOper} {Q : Exit → Act → World → Prop} {ro : Option Nat}
open Txt

theorem At.lower {a : Act} {w : World} {os : List AObj} {base wm wm' : Nat} (hat : At E lo nt μ0 w0 ds s ⟨os, base, wm⟩ a w) (hw : wm' ≤ wm) : At E lo nt μ0 w0 ds s ⟨os, base, wm'⟩ a w := by
  obtain ⟨μ, ν, k1, k2, k3⟩ := hat
  exact ⟨μ, ν, k1.weaken hw fun _ h _ => h, k2.same rfl rfl rfl, k3⟩

theorem open_any (hc : CallOK E call) (hev0 : CallEvol call) (hg : GidOK E) (has : cOpers E nt ops locs 0 ops.toList = some as) (hb : edgesBack ops = true)
    {p n : Nat} {h1 : Heap} {s1 : Slots} (hpn : p + n ≤ as.length) (hw1 : waits (befs ops.toList []) (p + n) = true)
    (hap : ∀ x y oi oj, x < n → y < n → as[p + x]? = some oi → as[p + y]? = some oj → apart (befs ops.toList []) (p + x) (p + y) oi oj = true)
    (hsoft : ∀ x o, x < n → as[p + x]? = some o → soft o.op = true) {ms : List Nat} (hms : ∀ x, x < n → ms.getD x 0 = (befs ops.toList []).getD (p + x) 0 >>> p)
    (hev : evOpen call ms ((as.drop p).take n) s h = some (s1, h1))
    (hk : ∀ listed' a' w', Exact ops listed' (p + n) → At E lo nt μ0 w0 ds s1 h1 a' w' → wpAnyIn (F0 ro) 0 E.P .any ops Q (ops.size - (p + n)) listed' a' w') :
    ∀ listed a w, Exact ops listed p → At E lo nt μ0 w0 ds s h a w → wpAnyIn (F0 ro) 0 E.P .any ops Q (ops.size - p) listed a w := by
  intro listed a w hex hat
  obtain ⟨q1, q2⟩ := opers_get _ _ _ has
  simp only [Array.length_toList] at q1
  have hchain := befs_chain (ops := ops) ops.toList [] (by simp) (fun k i hk => by simp at hk)
  have hbit := chain_bit hb ops.toList [] (by simp) (fun k i hk => by simp at hk)
  have hseg : ∀ x, x < n → ((as.drop p).take n)[x]? = as[p + x]? := fun x hx => by rw [List.getElem?_take_of_lt hx, List.getElem?_drop]
  have hslen : ((as.drop p).take n).length = n := by simp; omega
  obtain ⟨S, H, r, D, b1, b2, b3, b4, b5⟩ := open_text _ _ _ _ _ _ _ hev
  rw [hslen] at b3 b4
  have opat : ∀ x, x < n → ∃ o o', ops[p + x]? = some o ∧ as[p + x]? = some o' ∧ cOper E nt ops (locs.contains (p + x)) o = some o' := by
    intro x hx
    have hlt : p + x < ops.size := by omega
    obtain ⟨o', h2, h3⟩ := q2 (p + x) ops[p + x] (by simp [hlt])
    exact ⟨ops[p + x], o', by simp [hlt], h2, by simpa using h3⟩
  have tb : ∀ x y, x < n → ((ms.getD x 0).testBit y = true ↔ ((befs ops.toList []).getD (p + x) 0).testBit (p + y) = true) := fun x y hx => by
    rw [hms x hx, Nat.testBit_shiftRight]
  have T : Txt call n (fun x => as[p + x]?) (fun x => ms.getD x 0) S H r D := by
    refine ⟨fun x o hx ho => ?_, fun x hx => ?_, fun x o hx ho => hsoft x o hx ho, fun x y hx hy => ?_, fun x y z hx hy hz => ?_⟩
    · have := b5 x o (by rw [hseg x hx]; exact ho)
      simp only [List.nil_append] at this
      rw [← b2] at this
      exact this
    · obtain ⟨_, o', _, h2, _⟩ := opat x hx
      exact ⟨o', h2⟩
    · have := chain_lt hb (hchain _ _ ((tb x y hx).1 hy)); omega
    · have h2 := hchain _ _ ((tb x y hx).1 hy)
      have hyx := chain_lt hb h2
      have hyn : y < n := by omega
      have h3 := hchain _ _ ((tb y z hyn).1 hz)
      exact (tb x z hx).2 (hbit _ _ (by simp; omega) (chain_trans h2 h3))
  have hids := hat.ids
  obtain ⟨hid1, hid2, hid3⟩ := hids
  have hH0 : H 0 = h := b2
  have hbase0 : (H 0).base ≤ (H 0).size := by
    obtain ⟨_, _, _, k2, _⟩ := hat
    rw [hH0]; exact k2.bs
  have hsz0 : (H 0).size ≤ (H n).size := T.mono hev0 (Nat.zero_le n) (Nat.le_refl _)
  have h0 : ∀ (i : Nat) o, (H 0).objs[i]? = some o → ∀ j ∈ o.ids, j < (H 0).size := by rw [hH0]; exact hid2
  have hμ0 : μ0.length ≤ (H 0).size := by rw [hH0]; exact hid3
  refine any_order has hb hpn hw1 hap S r b1 (fun x o' hx ho => ?_) (Inv E lo nt μ0 w0 ds n (fun x => ms.getD x 0) H r D) (fun L sD a w x o o' hx h2 h3 h4 hL hbel habv hag hI next hn => ?_) (fun listed' sD a' w' hex' hsD hI => ?_) listed a w hex ?_
  · obtain ⟨t1, t2, t3, _⟩ := T.one x o' hx ho
    refine ⟨t2, fun cs e => ?_, t3⟩
    -- a result is no variable of the frame
    obtain ⟨_, _, _, _, hs | hs⟩ := T.spec hev0 hx ho
    · obtain ⟨s2, g, he, hy, _⟩ := hs.run
      obtain ⟨x0, c1, _, c3⟩ := oper_congr (S2 := S x) (calm_of_soft (hsoft x o' hx ho)) ⟨fun _ _ => rfl, fun _ _ => Iff.rfl⟩ he
      rw [hy, c1] at e
      cases hd : o'.dst with
      | none => rw [hd] at e; cases e
      | some d => rw [hd] at e; simp [dstSlot, setSlot, sget] at e; exact c3 cs e
    · obtain ⟨s2, g, he, hy, _⟩ := hs.run
      obtain ⟨x0, c1, _, c3⟩ := oper_congr (S2 := S x) (calm_of_soft (hsoft x o' hx ho)) ⟨fun _ _ => rfl, fun _ _ => Iff.rfl⟩ he
      rw [hy, c1] at e
      cases hd : o'.dst with
      | none => rw [hd] at e; cases e
      | some d => rw [hd] at e; simp [dstSlot, setSlot, sget] at e; exact c3 cs e
  · have hU : Up n (fun x => ms.getD x 0) L x := ⟨hx, hL, fun y hy hbt => hbel y hy ((tb x y hx).1 hbt), fun y hy hl => by
      cases hq : (ms.getD y 0).testBit x with
      | false => rfl
      | true =>
        have := (tb y x hy).1 hq
        rw [habv y hy hl] at this; cases this⟩
    have hrv : ∀ cs, r x ≠ .var cs := by
      intro cs e
      obtain ⟨_, _, _, _, hs | hs⟩ := T.spec hev0 hx h3
      · obtain ⟨s2, g, he, hy, _⟩ := hs.run
        obtain ⟨x0, c1, _, c3⟩ := oper_congr (S2 := S x) (calm_of_soft (hsoft x o' hx h3)) ⟨fun _ _ => rfl, fun _ _ => Iff.rfl⟩ he
        rw [hy, c1] at e
        cases hd : o'.dst with
        | none => rw [hd] at e; cases e
        | some d => rw [hd] at e; simp [dstSlot, setSlot, sget] at e; exact c3 cs e
      · obtain ⟨s2, g, he, hy, _⟩ := hs.run
        obtain ⟨x0, c1, _, c3⟩ := oper_congr (S2 := S x) (calm_of_soft (hsoft x o' hx h3)) ⟨fun _ _ => rfl, fun _ _ => Iff.rfl⟩ he
        rw [hy, c1] at e
        cases hd : o'.dst with
        | none => rw [hd] at e; cases e
        | some d => rw [hd] at e; simp [dstSlot, setSlot, sget] at e; exact c3 cs e
    cases hcl : o'.op.isCall with
    | true => exact call_up T hev0 hc hg h0 hμ0 hbase0 hU h3 h4 hcl hrv hag hI next hn
    | false => exact soft_up T hev0 hg h0 hμ0 hbase0 hU h3 h4 hcl hrv hag hI next hn
  · refine hk listed' a' w' hex' ?_
    have hmem : memL D H n (fun x => decide (x < n)) = (H n).objs := by
      apply List.ext_getElem?
      intro j
      rcases Nat.lt_or_ge j (H n).size with hj | hj
      · have hj' : j < (H n).objs.length := hj
        rw [memL_get hj, mem_congr (L' := fun _ => true) n fun y hy _ => decide_eq_true hy, mem_text (n := n) (fun _ => rfl) (fun y hy => (T.evol hev0 hy).size) (fun y i hy hi hw => T.unwritten hev0 hy hi hw) n (Nat.le_refl _), List.getElem?_eq_getElem hj']
        rfl
      · rw [List.getElem?_eq_none (by rw [memL_length]; exact hj), List.getElem?_eq_none hj]
    have hHn : (⟨memL D H n (fun x => decide (x < n)), (H 0).base, (H n).wmin⟩ : Heap) = h1 := by
      rw [hmem, ← T.base hev0 (Nat.le_refl n), b4]
    have := hI.at'
    rw [hHn] at this
    obtain ⟨μ, ν, k1, k2, k3, k4⟩ := this
    exact ⟨μ, ν, k1, k2, k3.congr fun t => by rw [hsD t, b3], k4⟩
  · have hnone : memL D H n (fun _ => false) = h.objs ++ List.replicate ((H n).size - h.size) .dead := by
      apply List.ext_getElem?
      intro j
      have hm : ∀ k, mem D (sz H) H (fun _ => false) k j = ((H 0).objs[j]?).getD .dead := by
        intro k
        induction k with
        | zero => rfl
        | succ k ih => simp only [mem]; rw [if_neg (by simp), ih]
      rcases Nat.lt_or_ge j (H n).size with hj | hj
      · rw [memL_get hj, hm n, hH0]
        rcases Nat.lt_or_ge j h.size with hj2 | hj2
        · have hj2' : j < h.objs.length := hj2
          rw [List.getElem?_append_left hj2', List.getElem?_eq_getElem hj2']; rfl
        · have hj2' : h.objs.length ≤ j := hj2
          rw [List.getElem?_append_right hj2', List.getElem?_eq_none hj2', List.getElem?_replicate, if_pos]
          · rfl
          · show j - h.size < (H n).size - h.size
            omega
      · rw [List.getElem?_eq_none (by rw [memL_length]; exact hj), List.getElem?_eq_none]
        rw [hH0] at hsz0
        have : h.objs.length = h.size := rfl
        simp; omega
    refine ⟨?_, fun t y hy i hi => .inl (by rw [hH0]; exact hid1 t y hy i hi), fun t cs hy i hi => by rw [hH0]; exact hid1 t (.var cs) hy i hi, (fun _ _ _ h _ => absurd h (by simp)), (fun _ _ h => absurd h (by simp))⟩
    rw [hnone]
    have h2 := (hat.reserve ((H n).size - h.size)).lower (wm' := (H n).wmin) (by rw [← hH0]; exact T.wmin hev0 (Nat.zero_le n) (Nat.le_refl _))
    rw [hH0]
    exact h2

end
end Go.Abs
