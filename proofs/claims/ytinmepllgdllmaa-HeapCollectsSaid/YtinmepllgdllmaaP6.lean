/-
  Layer 27: a heap is made, a cell is read, a cell is set.
-/
import Derived.Test.YtinmepllgdllmaaP5
namespace Go.Abs.AbsHeap
set_option maxRecDepth 100000
set_option linter.unusedSimpArgs false
variable {os : List AObj} {b w : Nat} {β : Type}

/-- What an operation on one thing leaves of the others. -/
structure Upd (os os' : List AObj) (P P' : Nat → Prop) : Prop where
  len : os.length ≤ os'.length
  same : ∀ i, i < os.length → ¬ P i → os'[i]? = os[i]?
  fp : ∀ i, P' i → P i ∨ os.length ≤ i

theorem Upd.refl (os : List AObj) (P : Nat → Prop) : Upd os os P P := ⟨Nat.le_refl _, fun _ _ _ => rfl, fun _ h => .inl h⟩
theorem Upd.trans {os os1 os2 : List AObj} {P P1 P2 : Nat → Prop} (h1 : Upd os os1 P P1) (h2 : Upd os1 os2 P1 P2) : Upd os os2 P P2 :=
  ⟨Nat.le_trans h1.len h2.len, fun i hi hp => by
    rw [h2.same i (Nat.lt_of_lt_of_le hi h1.len) (fun h => by rcases h1.fp i h with h | h; exact hp h; omega), h1.same i hi hp],
   fun i h => by
    rcases h2.fp i h with h | h
    · exact h1.fp i h
    · exact .inr (Nat.le_trans h1.len h)⟩

theorem HRep.fp_lt {b0 p : Nat} {S : HS} (H : HRep os b0 p S) {i : Nat} (h : S.fp p i) : i < os.length := by
  rcases h with rfl | rfl | ⟨e, he, rfl | rfl⟩
  · exact lt_of_get H.head
  · exact lt_of_get H.map
  · exact lt_of_get (H.ob e he)
  · exact lt_of_get (H.row e he)

/-- A heap of which nothing is touched. -/
theorem HRep.frame {b0 p : Nat} {S : HS} {os' : List AObj} (H : HRep os b0 p S) (h : ∀ i, S.fp p i → os'[i]? = os[i]?) : HRep os' b0 p S where
  head := by rw [h _ (.inl rfl)]; exact H.head
  map := by rw [h _ (.inr (.inl rfl))]; exact H.map
  ob := fun e he => by rw [h _ (.inr (.inr ⟨e, he, .inl rfl⟩))]; exact H.ob e he
  row := fun e he => by rw [h _ (.inr (.inr ⟨e, he, .inr rfl⟩))]; exact H.row e he
  nd := H.nd
  sd := H.sd
  clk := H.clk
  small := H.small
  rd := H.rd
  low := H.low
  lst := H.lst

theorem HRep.app {b0 p : Nat} {S : HS} (H : HRep os b0 p S) (zs : List AObj) : HRep (os ++ zs) b0 p S :=
  H.frame fun i hi => by rw [List.getElem?_append_left (H.fp_lt hi)]

theorem s298 (n : Int) : xCall T 298 [.int .i64 n] ⟨os, b, w⟩ = some (.ptr (some (os.length, 0)), ⟨os ++ [.cells 4 [.int .i64 n, .int .i64 0, .int .i64 0, .map (some (os.length + 1))], .map [] 0], b, w⟩) := by
  have h1 : (os ++ [AObj.map [] 0] ++ [AObj.cells 4 [AVal.int .i64 n, AVal.int .i64 0, AVal.int .i64 0, AVal.map (some os.length)]])[os.length + 1]? = some (AObj.cells 4 [AVal.int .i64 n, AVal.int .i64 0, AVal.int .i64 0, AVal.map (some os.length)]) := by simp
  have h2 : (os ++ [AObj.map [] 0] ++ [AObj.cells 4 [AVal.int .i64 n, AVal.int .i64 0, AVal.int .i64 0, AVal.map (some os.length)]])[os.length]? = some (AObj.map [] 0) := by simp
  simp (disch := omega) [-getElem?_pos, -getElem?_neg, xCallK t298, code298, reach_step, reach_done, h1, h2, nltF]

/-- A heap without objects. -/
def HS.new (n : Int) (m : Nat) : HS := ⟨n, 0, 0, m, 0, []⟩

theorem HRep.new {n : Int} (hb : b ≤ os.length) (zs : List AObj) : HRep (os ++ [.cells 4 [.int .i64 n, .int .i64 0, .int .i64 0, .map (some (os.length + 1))], .map [] 0] ++ zs) b os.length (HS.new n (os.length + 1)) where
  head := by simp [HS.new, HS.head]
  map := by simp [HS.new, HS.map]
  ob := by simp [HS.new]
  row := by simp [HS.new]
  nd := by simp [HS.new]
  sd := by simp [HS.new]
  clk := by simp [HS.new]
  small := by simp [HS.new]
  rd := by simp [HS.new]
  low := fun i h => by
    rcases h with rfl | rfl | ⟨e, he, _⟩
    · exact hb
    · show b ≤ os.length + 1; omega
    · cases he
  lst := by simp [HS.new]

theorem cell_at {l : List V} {j : Nat} {v : V} (h : l[j]? = some v) : j * 2 + 2 ≤ l.length * 2 ∧ ((rowC l).drop (j * 2)).take 2 = v.cs := by
  have := flat_at V.cs 2 (fun _ => rfl) l j v h
  have e := rowC_len l
  unfold rowC at e ⊢
  rw [e] at this
  exact this

theorem splice_flat {l : List V} {j : Nat} (h : j < l.length) (v : V) : splice (rowC l) (j * 2) v.cs = rowC (l.set j v) := by
  induction l generalizing j with
  | nil => simp at h
  | cons x l ih =>
    cases j with
    | zero => simp [splice, V.cs, rowC_cons]
    | succ j =>
      have := ih (j := j) (by simpa using h)
      simp only [splice, V.cs_len] at this ⊢
      rw [rowC_cons, List.set_cons_succ, rowC_cons, ← this]
      have e : (j + 1) * 2 = j * 2 + 1 + 1 := by omega
      rw [e]
      simp [V.cs]

section
variable {p : Nat} {S : HS} {b0 : Nat} (H : HRep os b0 p S)
include H

def zeroV : V := ⟨0, false⟩

/-- What a cell has. -/
def getV (x : Option Ent) (i : Int) : V × Int := match x with
  | none => (zeroV, 11)
  | some e => if i < 0 ∨ (e.o.cells.length : Int) ≤ i then (zeroV, 2) else (e.o.cells.getD i.toNat zeroV, 0)

theorem s304 (n i : Int) : xCall T 304 [.ptr (some (p, 0)), .int .i64 n, .int .i64 i] ⟨os, b, w⟩ = some (.tuple [.agg (getV (S.find n) i).1.cs, .int .i64 (getV (S.find n) i).2], ⟨os, b, w⟩) := by
  have h13 := fun w => s313 (b := b) (w := w) H n i
  cases hf : S.find n with
  | none =>
    simp only [hf, cellV] at h13
    simp [-getElem?_pos, -getElem?_neg, xCallK t304, code304, h13, getV, V.cs, zeroV]
  | some e =>
    by_cases hi : i < 0 ∨ (e.o.cells.length : Int) ≤ i
    · simp only [hf, cellV, hi, if_true] at h13
      simp [-getElem?_pos, -getElem?_neg, xCallK t304, code304, h13, getV, V.cs, zeroV, hi]
    · simp only [hf, cellV, hi, if_false] at h13
      obtain ⟨v, hv⟩ : ∃ v, e.o.cells[i.toNat]? = some v := ⟨_, List.getElem?_eq_getElem (by omega)⟩
      obtain ⟨h1, h2⟩ := cell_at hv
      have h3 := H.row e (HS.find_mem hf).1
      simp only [Ent.row] at h3
      have hg : e.o.cells[i.toNat]?.getD zeroV = v := by rw [hv]; rfl
      simp [-getElem?_pos, -getElem?_neg, xCallK t304, code304, h13, getV, hi, h3, hg, h1, h2, V.cs]

/-- What is set, in an object of that type. -/
def setV (typ : List UInt8) (v : V) : V := if typ = [91, 66] then ⟨IntKind.i64.wrap (IntKind.i8.wrap v.n), false⟩ else if typ = [91, 73] then ⟨v.n, false⟩ else v

def Ent.set (e : Ent) (j : Nat) (v : V) : Ent := { e with o := { e.o with cells := e.o.cells.set j (setV e.o.typ v) } }

def HS.set (S : HS) (n : Int) (j : Nat) (v : V) : HS := { S with ents := S.ents.map fun e => if e.n = n then e.set j v else e }

def setE (x : Option Ent) (i : Int) : Int := match x with
  | none => 11
  | some e => if i < 0 ∨ (e.o.cells.length : Int) ≤ i then 2 else 0

/-- A cell is set. -/
def HS.put (S : HS) (n i : Int) (v : V) : HS := if setE (S.find n) i = 0 then S.set n i.toNat v else S

def setO (os : List AObj) (x : Option Ent) (i : Int) (v : V) : List AObj := match x with
  | none => os
  | some e => if i < 0 ∨ (e.o.cells.length : Int) ≤ i then os else os.set e.r (e.set i.toNat v).row

def setW (w : Nat) (x : Option Ent) (i : Int) : Nat := match x with
  | none => w
  | some e => if i < 0 ∨ (e.o.cells.length : Int) ≤ i then w else min w e.r

theorem s100295 (n i : Int) (v : V) (hb : b ≤ b0) : xCall T 100295 [.ptr (some (p, 0)), .int .i64 n, .int .i64 i, .agg v.cs] ⟨os, b, w⟩ = some (.int .i64 (setE (S.find n) i), ⟨setO os (S.find n) i v, b, setW w (S.find n) i⟩) := by
  have h13 := fun w => s313 (b := b) (w := w) H n i
  cases hf : S.find n with
  | none =>
    simp only [hf, cellV] at h13
    simp [-getElem?_pos, -getElem?_neg, xCallK t100295, code100295, h13, setE, setO, setW]
  | some e =>
    by_cases hi : i < 0 ∨ (e.o.cells.length : Int) ≤ i
    · simp only [hf, cellV, hi, if_true] at h13
      simp [-getElem?_pos, -getElem?_neg, xCallK t100295, code100295, h13, setE, setO, setW, hi]
    · simp only [hf, cellV, hi, if_false] at h13
      obtain ⟨u, hu⟩ : ∃ v, e.o.cells[i.toNat]? = some v := ⟨_, List.getElem?_eq_getElem (by omega)⟩
      obtain ⟨h1, h2⟩ := cell_at hu
      have h3 := H.row e (HS.find_mem hf).1
      have h4 := H.ob e (HS.find_mem hf).1
      have hq := lt_of_get h4
      have hr := lt_of_get h3
      have hbr : b ≤ e.r := Nat.le_trans hb (H.low _ (.inr (.inr ⟨e, (HS.find_mem hf).1, .inr rfl⟩)))
      have hs := splice_flat (l := e.o.cells) (j := i.toNat) (by omega)
      simp only [Ent.row] at h3
      simp only [Ent.ob] at h4
      simp only [setE, setO, setW, hi, if_false, Ent.set, Ent.row]
      have hj : i.toNat < e.o.cells.length := by omega
      by_cases c1 : e.o.typ = [91, 66]
      · simp (disch := omega) [-getElem?_pos, -getElem?_neg, xCallK t100295, code100295, h13, h3, h4, h1, c1, setV, V.cs, hbr, nltT, ← hs _]
      · by_cases c2 : e.o.typ = [91, 73]
        · simp (disch := omega) [-getElem?_pos, -getElem?_neg, xCallK t100295, code100295, h13, h3, h4, h1, c2, setV, V.cs, hbr, nltT, ← hs _]
        · simp (disch := omega) [-getElem?_pos, -getElem?_neg, xCallK t100295, code100295, h13, h3, h4, h1, c1, c2, setV, V.cs, hbr, nltT, ← hs _]

end

theorem find_eq {l : List Ent} (nd : (l.map Ent.n).Nodup) {e : Ent} (he : e ∈ l) : l.find? (fun x => x.n == e.n) = some e := by
  induction l with
  | nil => cases he
  | cons x l ih =>
    simp only [List.map_cons, List.nodup_cons] at nd
    rw [List.find?_cons]
    rcases List.mem_cons.1 he with rfl | he
    · simp
    · have : ¬ x.n = e.n := fun h => nd.1 (by rw [h]; exact List.mem_map_of_mem he)
      rw [show (x.n == e.n) = false by simpa using this]
      exact ih nd.2 he

theorem nodup_inj {α γ : Type} {f : α → γ} {l : List α} (h : (l.map f).Nodup) {x y : α} (hx : x ∈ l) (hy : y ∈ l) (e : f x = f y) : x = y := by
  induction l with
  | nil => cases hx
  | cons a l ih =>
    simp only [List.map_cons, List.nodup_cons] at h
    rcases List.mem_cons.1 hx with hx1 | hx1 <;> rcases List.mem_cons.1 hy with hy1 | hy1
    · rw [hx1, hy1]
    · subst hx1; exact absurd (by rw [e]; exact List.mem_map_of_mem hy1) h.1
    · subst hy1; exact absurd (by rw [← e]; exact List.mem_map_of_mem hx1) h.1
    · exact ih h.2 hx1 hy1

/-- Kinds keep things apart. -/
theorem HRep.ne {b0 p : Nat} {S : HS} (H : HRep os b0 p S) {e : Ent} (he : e ∈ S.ents) : e.r ≠ p ∧ e.r ≠ S.m ∧ (∀ e' ∈ S.ents, e.r ≠ e'.q) ∧ e.q ≠ p ∧ e.q ≠ S.m ∧ p ≠ S.m := by
  have h1 := H.head
  have h2 := H.map
  have h3 := H.row e he
  have h4 := H.ob e he
  refine ⟨fun h => ?_, fun h => ?_, fun e' he' h => ?_, fun h => ?_, fun h => ?_, fun h => ?_⟩
  · rw [h, h1] at h3; simp [HS.head, Ent.row] at h3
  · rw [h, h2] at h3; simp [HS.map, Ent.row] at h3
  · rw [h, H.ob e' he'] at h3; simp [Ent.ob, Ent.row] at h3
  · rw [h, h1] at h4; simp [HS.head, Ent.ob] at h4
  · rw [h, h2] at h4; simp [HS.map, Ent.ob] at h4
  · rw [h, h2] at h1; simp [HS.map, HS.head] at h1

theorem HRep.setO {b0 p : Nat} {S : HS} (H : HRep os b0 p S) (n i : Int) (v : V) : HRep (setO os (S.find n) i v) b0 p (S.put n i v) ∧ Upd os (setO os (S.find n) i v) (S.fp p) ((S.put n i v).fp p) := by
  cases hf : S.find n with
  | none => simp only [HS.put, hf, setE, Abs.AbsHeap.setO]; exact ⟨H, Upd.refl _ _⟩
  | some e =>
    obtain ⟨he, hn⟩ := HS.find_mem hf
    by_cases hi : i < 0 ∨ (e.o.cells.length : Int) ≤ i
    · simp only [HS.put, hf, setE, Abs.AbsHeap.setO, hi, if_true, show ¬ (2 : Int) = 0 by omega, if_false]; exact ⟨H, Upd.refl _ _⟩
    · simp only [HS.put, hf, setE, Abs.AbsHeap.setO, hi, if_false, if_true]
      obtain ⟨n1, n2, n3, _⟩ := H.ne he
      have hg : ∀ j, j ≠ e.r → (os.set e.r (e.set i.toNat v).row)[j]? = os[j]? := fun j hj => by rw [List.getElem?_set_ne (by omega)]
      have huniq : ∀ x ∈ S.ents, x.n = n → x = e := fun x hx h => nodup_inj H.nd hx he (h.trans hn.symm)
      have hmem : ∀ x' ∈ (S.set n i.toNat v).ents, ∃ x ∈ S.ents, x'.n = x.n ∧ x'.q = x.q ∧ x'.r = x.r ∧ x'.st = x.st ∧ x'.o.cells.length = x.o.cells.length ∧ x'.o.cls = x.o.cls ∧ x'.o.typ = x.o.typ ∧ ((x = e ∧ x' = e.set i.toNat v) ∨ (x ≠ e ∧ x' = x)) := fun x' hx' => by
        simp only [HS.set, List.mem_map] at hx'
        obtain ⟨x, hx, rfl⟩ := hx'
        refine ⟨x, hx, ?_⟩
        split
        · rename_i h
          have := huniq x hx h
          subst this
          exact ⟨rfl, rfl, rfl, rfl, by simp [Ent.set], rfl, rfl, .inl ⟨rfl, rfl⟩⟩
        · rename_i h
          exact ⟨rfl, rfl, rfl, rfl, rfl, rfl, rfl, .inr ⟨fun h' => h (by rw [h']; exact hn), rfl⟩⟩
      have hkv : ∀ x : Ent, (if x.n = n then x.set i.toNat v else x).kv = x.kv := fun x => by split <;> rfl
      have hmapn : ((S.set n i.toNat v).ents.map Ent.n) = S.ents.map Ent.n := by
        simp only [HS.set, List.map_map]; exact List.map_congr_left fun x _ => by simp only [Function.comp]; split <;> rfl
      have hmaps : ((S.set n i.toNat v).ents.map Ent.st) = S.ents.map Ent.st := by
        simp only [HS.set, List.map_map]; exact List.map_congr_left fun x _ => by simp only [Function.comp]; split <;> rfl
      have hmapr : ((S.set n i.toNat v).ents.map Ent.r) = S.ents.map Ent.r := by
        simp only [HS.set, List.map_map]; exact List.map_congr_left fun x _ => by simp only [Function.comp]; split <;> rfl
      have hfp : ∀ j, (S.set n i.toNat v).fp p j → S.fp p j := fun j hj => by
        rcases hj with h | h | ⟨x', hx', h⟩
        · exact .inl h
        · exact .inr (.inl h)
        · obtain ⟨x, hx, _, h2, h3, _⟩ := hmem x' hx'
          exact .inr (.inr ⟨x, hx, by rw [← h2, ← h3]; exact h⟩)
      refine ⟨⟨?_, ?_, ?_, ?_, by rw [hmapn]; exact H.nd, by rw [hmaps]; exact H.sd, ?_, ?_, by rw [hmapr]; exact H.rd, fun j hj => H.low j (hfp j hj), fun x' hx' => by obtain ⟨x, hx, h1, _⟩ := hmem x' hx'; rw [h1]; exact H.lst x hx⟩, ⟨by simp, fun j _ hj => hg j fun h => hj (.inr (.inr ⟨e, he, .inr h⟩)), fun j hj => .inl (hfp j hj)⟩⟩
      · rw [hg _ n1.symm]; exact H.head
      · show (os.set e.r (e.set i.toNat v).row)[S.m]? = _
        rw [hg _ n2.symm, H.map]
        simp only [HS.map, HS.set, List.map_map]
        congr 2
        exact List.map_congr_left fun x _ => (hkv x).symm
      · intro x' hx'
        obtain ⟨x, hx, h1, h2, h3, h4, h5, h6, h7, _⟩ := hmem x' hx'
        rw [h2, hg _ (n3 x hx).symm, H.ob x hx]
        simp only [Ent.ob, h3, h5, h6, h7]
      · intro x' hx'
        obtain ⟨x, hx, h1, h2, h3, h4, h5, h6, h7, ⟨rfl, rfl⟩ | ⟨h8, rfl⟩⟩ := hmem x' hx'
        · rw [h3, List.getElem?_set_self (lt_of_get (H.row x hx))]
        · rw [hg _ fun h => h8 (nodup_inj H.rd hx he h), H.row _ hx]
      · intro x' hx'
        obtain ⟨x, hx, h1, h2, h3, h4, _⟩ := hmem x' hx'
        rw [h4]; exact H.clk x hx
      · intro x' hx'
        obtain ⟨x, hx, h1, h2, h3, h4, h5, _⟩ := hmem x' hx'
        rw [h5]; exact H.small x hx

end Go.Abs.AbsHeap

/-
  Layer 27, plain: what is marked.
-/
namespace Go.Abs.AbsHeap

def markF (S : HS) : List V → List Int → List Ent → List Int × List Ent
  | [], s, w => (s, w)
  | v :: l, s, w => match S.find v.n with
    | some e => if v.ref = true ∧ v.n ∉ s then markF S l (s ++ [v.n]) (w ++ [e]) else markF S l s w
    | none => markF S l s w

/-- How many are not seen yet. -/
def unseen (S : HS) (s : List Int) : Nat := (S.ents.filter fun e => !s.contains e.n).length

theorem filter_le {α : Type} {p q : α → Bool} (l : List α) (h : ∀ x ∈ l, q x = true → p x = true) : (l.filter q).length ≤ (l.filter p).length := by
  induction l with
  | nil => simp
  | cons x l ih =>
    have ih := ih fun y hy => h y (List.mem_cons_of_mem _ hy)
    have hx := h x (List.mem_cons_self ..)
    rw [List.filter_cons, List.filter_cons]
    by_cases hq : q x = true
    · rw [if_pos hq, if_pos (hx hq)]; simp; omega
    · rw [if_neg hq]
      split
      · simp; omega
      · exact ih

theorem filter_lt {α : Type} {p q : α → Bool} {l : List α} (h : ∀ x ∈ l, q x = true → p x = true) {x : α} (hx : x ∈ l) (hp : p x = true) (hq : q x = false) : (l.filter q).length < (l.filter p).length := by
  induction l with
  | nil => cases hx
  | cons y l ih =>
    rw [List.filter_cons, List.filter_cons]
    rcases List.mem_cons.1 hx with rfl | hx
    · rw [if_pos hp, if_neg (by simp [hq])]
      have := filter_le l fun y hy => h y (List.mem_cons_of_mem _ hy)
      simp; omega
    · have ih := ih (fun y hy => h y (List.mem_cons_of_mem _ hy)) hx
      have hy := h y (List.mem_cons_self ..)
      by_cases hqy : q y = true
      · rw [if_pos hqy, if_pos (hy hqy)]; simp; omega
      · rw [if_neg hqy]
        split
        · simp; omega
        · exact ih

theorem unseen_lt {S : HS} {s : List Int} {e : Ent} (he : e ∈ S.ents) (hn : e.n ∉ s) : unseen S (s ++ [e.n]) < unseen S s := by
  unfold unseen
  refine filter_lt (fun x _ hx => ?_) he ?_ ?_
  · simp at hx ⊢; exact hx.1
  · simpa using hn
  · simp

structure Marked (S : HS) (l : List V) (s : List Int) (w : List Ent) (s' : List Int) (w' : List Ent) : Prop where
  sub : ∀ n ∈ s, n ∈ s'
  nd : s.Nodup → s'.Nodup
  wsub : ∀ e ∈ w, e ∈ w'
  all : ∀ v ∈ l, v.ref = true → ∀ e, S.find v.n = some e → v.n ∈ s'
  new : ∀ n ∈ s', n ∈ s ∨ ∃ v ∈ l, v.ref = true ∧ v.n = n ∧ ∃ e, S.find n = some e ∧ e ∈ w'
  wnew : ∀ e ∈ w', e ∈ w ∨ (e.n ∈ s' ∧ e ∈ S.ents)
  less : w'.length + 2 * unseen S s' ≤ w.length + 2 * unseen S s

theorem mark_ok (S : HS) : ∀ (l : List V) (s : List Int) (w : List Ent), Marked S l s w (markF S l s w).1 (markF S l s w).2
  | [], s, w => ⟨fun _ h => h, fun h => h, fun _ h => h, fun v hv => absurd hv (by simp), fun n hn => .inl hn, fun e he => .inl he, Nat.le_refl _⟩
  | v :: l, s, w => by
    unfold markF
    cases hf : S.find v.n with
    | none =>
      simp only
      obtain ⟨h1, h2, h3, h4, h5, h6, h7⟩ := mark_ok S l s w
      refine ⟨h1, h2, h3, fun x hx hr e he => ?_, fun n hn => ?_, h6, h7⟩
      · rcases List.mem_cons.1 hx with rfl | hx
        · rw [hf] at he; cases he
        · exact h4 x hx hr e he
      · rcases h5 n hn with h | ⟨x, hx, h⟩
        · exact .inl h
        · exact .inr ⟨x, List.mem_cons_of_mem _ hx, h⟩
    | some e =>
      obtain ⟨hem, hen⟩ := HS.find_mem hf
      simp only
      split
      · rename_i hc
        obtain ⟨hr, hns⟩ := hc
        obtain ⟨h1, h2, h3, h4, h5, h6, h7⟩ := mark_ok S l (s ++ [v.n]) (w ++ [e])
        have hv : v.n ∈ (markF S l (s ++ [v.n]) (w ++ [e])).1 := h1 _ (by simp)
        refine ⟨fun n hn => h1 n (by simp [hn]), fun hs => h2 ?_, fun e he => h3 e (by simp [he]), fun x hx hr e he => ?_, fun n hn => ?_, fun e' he' => ?_, ?_⟩
        · rw [List.nodup_append]
          exact ⟨hs, by simp, fun a ha b hb => by simp at hb; subst hb; exact fun h => hns (h ▸ ha)⟩
        · rcases List.mem_cons.1 hx with rfl | hx
          · exact hv
          · exact h4 x hx hr e he
        · rcases h5 n hn with h | ⟨x, hx, h⟩
          · simp only [List.mem_append, List.mem_singleton] at h
            rcases h with h | rfl
            · exact .inl h
            · exact .inr ⟨v, List.mem_cons_self .., hr, rfl, e, hf, h3 e (by simp)⟩
          · exact .inr ⟨x, List.mem_cons_of_mem _ hx, h⟩
        · rcases h6 e' he' with h | h
          · simp only [List.mem_append, List.mem_singleton] at h
            rcases h with h | rfl
            · exact .inl h
            · exact .inr ⟨by rw [hen]; exact hv, hem⟩
          · exact .inr h
        · have := unseen_lt hem (s := s) (by rw [hen]; exact hns)
          rw [hen] at this
          simp only [List.length_append, List.length_singleton] at h7
          omega
      · rename_i hc
        obtain ⟨h1, h2, h3, h4, h5, h6, h7⟩ := mark_ok S l s w
        refine ⟨h1, h2, h3, fun x hx hr e he => ?_, fun n hn => ?_, h6, h7⟩
        · rcases List.mem_cons.1 hx with rfl | hx
          · simp only [hr, true_and, Decidable.not_not] at hc
            exact h1 _ hc
          · exact h4 x hx hr e he
        · rcases h5 n hn with h | ⟨x, hx, h⟩
          · exact .inl h
          · exact .inr ⟨x, List.mem_cons_of_mem _ hx, h⟩

/-- While things are marked. -/
structure Going (S : HS) (roots : List V) (s : List Int) (w : List Ent) : Prop where
  nd : s.Nodup
  ok : ∀ n ∈ s, Reach S.look roots n
  wk : ∀ e ∈ w, e ∈ S.ents ∧ e.n ∈ s
  cl : ∀ n ∈ s, ∀ e, S.find n = some e → e ∈ w ∨ ∀ v ∈ e.o.cells, v.ref = true → ∀ e', S.find v.n = some e' → v.n ∈ s
  rt : ∀ v ∈ roots, v.ref = true → ∀ e, S.find v.n = some e → v.n ∈ s

theorem look_some {S : HS} {n : Int} {e : Ent} (h : S.find n = some e) : S.look n = some e.o := by simp [HS.look, h]
theorem look_find {S : HS} {n : Int} {o : Ob} (h : S.look n = some o) : ∃ e, S.find n = some e ∧ e.o = o := by
  simpa [HS.look] using h

theorem going0 (S : HS) (roots : List V) : Going S roots (markF S roots [] []).1 (markF S roots [] []).2 := by
  obtain ⟨h1, h2, h3, h4, h5, h6, h7⟩ := mark_ok S roots [] []
  refine ⟨h2 (by simp), fun n hn => ?_, fun e he => ?_, fun n hn e he => ?_, h4⟩
  · rcases h5 n hn with h | ⟨v, hv, hr, rfl, e, he, _⟩
    · cases h
    · exact .root (by obtain ⟨a, c⟩ := v; simp only at hr ⊢; subst hr; exact hv) (look_some he)
  · rcases h6 e he with h | h
    · cases h
    · exact ⟨h.2, h.1⟩
  · rcases h5 n hn with h | ⟨v, hv, hr, rfl, e', he', hw⟩
    · cases h
    · rw [he] at he'; cases he'; exact .inl hw

theorem going_step {S : HS} {roots : List V} {s : List Int} {w : List Ent} {e : Ent} (hnd : (S.ents.map Ent.n).Nodup) (h : Going S roots s (w ++ [e])) : Going S roots (markF S e.o.cells s w).1 (markF S e.o.cells s w).2 := by
  obtain ⟨g1, g2, g3, g4, g5⟩ := h
  obtain ⟨h1, h2, h3, h4, h5, h6, h7⟩ := mark_ok S e.o.cells s w
  obtain ⟨hem, hen⟩ := g3 e (by simp)
  have hfe : S.find e.n = some e := find_eq hnd hem
  refine ⟨h2 g1, fun n hn => ?_, fun e' he' => ?_, fun n hn e' he' => ?_, fun v hv hr e' he' => h1 _ (g5 v hv hr e' he')⟩
  · rcases h5 n hn with h | ⟨v, hv, hr, rfl, e', he', _⟩
    · exact g2 n h
    · exact .step (g2 _ hen) (look_some hfe) (by obtain ⟨a, c⟩ := v; simp only at hr ⊢; subst hr; exact hv) (look_some he')
  · rcases h6 e' he' with h | h
    · have := g3 e' (by simp [h])
      exact ⟨this.1, h1 _ this.2⟩
    · exact ⟨h.2, h.1⟩
  · rcases h5 n hn with h | ⟨v, hv, hr, rfl, e2, he2, hw⟩
    · rcases g4 n h e' he' with h' | h'
      · simp only [List.mem_append, List.mem_singleton] at h'
        rcases h' with h' | rfl
        · exact .inl (h3 _ h')
        · exact .inr h4
      · exact .inr fun v hv hr e2 he2 => h1 _ (h' v hv hr e2 he2)
    · rw [he'] at he2; cases he2; exact .inl hw

/-- At the end: just what can be reached. -/
theorem going_end {S : HS} {roots : List V} {s : List Int} (h : Going S roots s []) (n : Int) : n ∈ s ↔ Reach S.look roots n := by
  refine ⟨h.ok n, fun hr => ?_⟩
  refine Reach.closed (S := fun n => n ∈ s) (fun n o h1 h2 => ?_) (fun m p n o h1 h2 h3 h4 => ?_) hr
  · obtain ⟨e, he, _⟩ := look_find h2
    exact h.rt _ h1 rfl e he
  · obtain ⟨e, he, rfl⟩ := look_find h2
    obtain ⟨e', he', _⟩ := look_find h4
    rcases h.cl m h1 e he with hc | hc
    · cases hc
    · exact hc _ h3 rfl e' he'

end Go.Abs.AbsHeap

/-
  Layer 27: what can be reached is marked.
-/
namespace Go.Abs.AbsHeap
set_option maxRecDepth 100000
set_option linter.unusedSimpArgs false
variable {os : List AObj} {b w : Nat} {β : Type}

def seenE : Nat → List Int → List (AVal × AVal × Nat)
  | _, [] => []
  | k, n :: r => (.int .i64 n, .bool true, k) :: seenE (k + 1) r
theorem seenE_app : ∀ (l : List Int) (k : Nat) (n : Int), seenE k (l ++ [n]) = seenE k l ++ [(.int .i64 n, .bool true, k + l.length)]
  | [], k, n => rfl
  | x :: l, k, n => by simp only [List.cons_append, seenE, seenE_app l, List.length_cons, Nat.add_assoc, Nat.add_comm 1]

theorem find_seen (n : Int) : ∀ (l : List Int) (k : Nat), ∃ j, findA (.int .i64 n) (seenE k l) = some (if n ∈ l then some (j, .bool true) else none)
  | [], _ => ⟨0, rfl⟩
  | x :: l, k => by
    obtain ⟨j, hj⟩ := find_seen n l (k + 1)
    by_cases h : n = x
    · exact ⟨0, by simp [seenE, findA, akey, akey1, h]⟩
    · refine ⟨j + 1, ?_⟩
      simp only [seenE, findA, akey, akey1, if_true, h, decide_false, hj, Option.map_some, List.mem_cons, false_or]
      split <;> rfl

/-- The memory while things are marked: behind what was there the head's box, the marks, their box, the box of what is to be done, and rows. -/
def RS (os : List AObj) (p : Nat) (seen : List Int) (W : AVal) (X : List AObj) : List AObj :=
  os ++ (.cells 1 [.ptr (some (p, 0))] :: .map (seenE 0 seen) seen.length :: .cells 1 [.map (some (os.length + 1))] :: .cells 1 [W] :: X)

section
variable {p : Nat} {seen : List Int} {W : AVal} {X : List AObj}
theorem RS_old {i : Nat} (h : i < os.length) : (RS os p seen W X)[i]? = os[i]? := by unfold RS; rw [List.getElem?_append_left h]
theorem RS_at (k : Nat) : (RS os p seen W X)[os.length + k]? = (AObj.cells 1 [.ptr (some (p, 0))] :: .map (seenE 0 seen) seen.length :: .cells 1 [.map (some (os.length + 1))] :: .cells 1 [W] :: X)[k]? := by
  unfold RS; rw [List.getElem?_append_right (by omega)]; congr 1; omega
theorem RS_hb : (RS os p seen W X)[os.length]? = some (.cells 1 [.ptr (some (p, 0))]) := RS_at 0
theorem RS_m : (RS os p seen W X)[os.length + 1]? = some (.map (seenE 0 seen) seen.length) := RS_at 1
theorem RS_sb : (RS os p seen W X)[os.length + 2]? = some (.cells 1 [.map (some (os.length + 1))]) := RS_at 2
theorem RS_wb : (RS os p seen W X)[os.length + 3]? = some (.cells 1 [W]) := RS_at 3
theorem RS_x (r : Nat) : (RS os p seen W X)[os.length + 4 + r]? = X[r]? := by
  rw [show os.length + 4 + r = os.length + (r + 4) by omega, RS_at]; rfl
theorem RS_len : (RS os p seen W X).length = os.length + 4 + X.length := by simp [RS]; omega
theorem RS_set_at (k : Nat) (o : AObj) : (RS os p seen W X).set (os.length + k) o = os ++ (AObj.cells 1 [.ptr (some (p, 0))] :: .map (seenE 0 seen) seen.length :: .cells 1 [.map (some (os.length + 1))] :: .cells 1 [W] :: X).set k o := by
  unfold RS; rw [List.set_append_right _ _ (by omega)]; congr 2; omega
theorem RS_set_m (n : Int) : (RS os p seen W X).set (os.length + 1) (.map (seenE 0 seen ++ [(.int .i64 n, .bool true, seen.length)]) (seen.length + 1)) = RS os p (seen ++ [n]) W X := by
  rw [RS_set_at]; simp [RS, seenE_app]
theorem RS_set_w (W' : AVal) : (RS os p seen W X).set (os.length + 3) (.cells 1 [W']) = RS os p seen W' X := by rw [RS_set_at]; rfl
theorem RS_set_x (r : Nat) (o : AObj) : (RS os p seen W X).set (os.length + 4 + r) o = RS os p seen W (X.set r o) := by
  rw [show os.length + 4 + r = os.length + (r + 4) by omega, RS_set_at]; rfl
theorem RS_push (l : List AObj) : RS os p seen W X ++ l = RS os p seen W (X ++ l) := by simp [RS]
end

/-- What is to be done, as a slice. -/
inductive WorkIs (N : Nat) (X : List AObj) : AVal → List Ent → Prop
  | nil : WorkIs N X (.slice none 0 (some 0)) []
  | row {r : Nat} {ws : List Ent} {junk : List AVal} : X[r]? = some (.cells 1 (ws.map (fun e => AVal.ptr (some (e.q, 0))) ++ junk)) → WorkIs N X (.slice (some (N + 4 + r, 0)) ws.length none) ws

section
variable {p : Nat} {S : HS} {b0 : Nat} (H : HRep os b0 p S)
include H

/-- One value is marked. -/
theorem mark_one {L : List V} {a : Option (Nat × Nat)} {c : Option Nat} (hR : Row os 2 V.cs L a) (hn : L.length ≤ 1000000000000) (hb : b ≤ os.length) (k : AExit → St → Option β) {i : Nat} {v : V} (hv : L[i]? = some v) {seen : List Int} {W : AVal} {X : List AObj} {ws : List Ent} (hW : WorkIs os.length X W ws) (hw : os.length ≤ w) (hlen : ws.length ≤ 1000000000000) :
    ∃ W' X' w', xK T (code318L0) ⟨[(1, .val (.ptr (some (os.length, 0)))), (2, .val (.ptr (some (os.length + 2, 0)))), (3, .val (.ptr (some (os.length + 3, 0)))), (8, .val (.slice a L.length c)), (9, .val (.int .i64 L.length)), (10, .val (.int .i64 (i : Nat)))], ⟨RS os p seen W X, b, w⟩⟩ (k := ⟨k⟩) =
      k .normal ⟨[(1, .val (.ptr (some (os.length, 0)))), (2, .val (.ptr (some (os.length + 2, 0)))), (3, .val (.ptr (some (os.length + 3, 0)))), (8, .val (.slice a L.length c)), (9, .val (.int .i64 L.length)), (10, .val (.int .i64 (i + 1 : Nat)))], ⟨RS os p (markF S [v] seen ws).1 W' X', b, w'⟩⟩ ∧ WorkIs os.length X' W' (markF S [v] seen ws).2 ∧ os.length ≤ w' ∧ (w' ≤ os.length + 1 ∨ (w' = w ∧ W' = W ∧ X' = X ∧ markF S [v] seen ws = (seen, ws))) := by
  obtain ⟨bb, o, cs, rfl, hrow, hpart⟩ := hR.at' (ne_of_get hv)
  obtain ⟨p1, p2⟩ := hpart i v hv
  have hlt := lt_of_get hv
  have hp := lt_of_get H.head
  have hm := lt_of_get H.map
  have e1 : (RS os p seen W X)[bb]? = some (.cells 2 cs) := (RS_old (lt_of_get hrow)).trans hrow
  have e2 : (RS os p seen W X)[p]? = some S.head := (RS_old hp).trans H.head
  have e3 : (RS os p seen W X)[S.m]? = some S.map := (RS_old hm).trans H.map
  simp only [HS.head, HS.map] at e2 e3
  have ei : ((i + 1 : Nat) : Int) = (i : Int) + 1 := by omega
  rw [ei]
  obtain ⟨vn, vr⟩ := v
  simp only [V.cs] at p2
  obtain ⟨j, hj⟩ := find_seen vn seen 0
  cases hf : S.find vn with
  | none =>
    have h3 := find_none hf
    refine ⟨W, X, w, ?_, by simpa [markF, hf] using hW, hw, .inr ⟨rfl, rfl, rfl, by simp [markF, hf]⟩⟩
    cases vr <;> simp (disch := omega) [-getElem?_pos, -getElem?_neg, code318L0, iltT, nltT, ileT, e1, e2, e3, p1, p2, RS_hb, RS_m, RS_sb, RS_wb, isKey, CK.is, entriesOf, h3, markF, hf, wrapI]
  | some e =>
    obtain ⟨jj, h3⟩ := find_some hf
    by_cases hs : vn ∈ seen
    · rw [if_pos hs] at hj
      refine ⟨W, X, w, ?_, by simpa [markF, hf, hs] using hW, hw, .inr ⟨rfl, rfl, rfl, by simp [markF, hf, hs]⟩⟩
      cases vr <;> simp (disch := omega) [-getElem?_pos, -getElem?_neg, code318L0, iltT, nltT, ileT, e1, e2, e3, p1, p2, RS_hb, RS_m, RS_sb, RS_wb, isKey, CK.is, entriesOf, h3, markF, hf, wrapI, hj, hs]
    · rw [if_neg hs] at hj
      cases vr with
      | false =>
        refine ⟨W, X, w, ?_, by simpa [markF, hf, hs] using hW, hw, .inr ⟨rfl, rfl, rfl, by simp [markF, hf, hs]⟩⟩
        simp (disch := omega) [-getElem?_pos, -getElem?_neg, code318L0, iltT, nltT, ileT, e1, e2, e3, p1, p2, RS_hb, RS_m, RS_sb, RS_wb, isKey, CK.is, entriesOf, h3, markF, hf, wrapI, hj, hs]
      | true =>
        cases hW with
        | nil =>
          refine ⟨.slice (some (os.length + 4 + (X.length + 1), 0)) 1 none, X ++ [.cells 1 [.ptr (some (e.q, 0))], .cells 1 [.ptr (some (e.q, 0))]], min (min w (os.length + 1)) (os.length + 3), ?_, ?_, by omega, .inl (by omega)⟩
          · simp (disch := omega) [-getElem?_pos, -getElem?_neg, code318L0, iltT, nltT, ileT, nleT, e1, e2, e3, p1, p2, RS_hb, RS_m, RS_sb, RS_wb, isKey, CK.is, entriesOf, h3, markF, hf, wrapI, hj, hs, RS_set_m, RS_set_w, RS_x, RS_len, RS_push]
          · simp only [markF, hf, hs, not_false_eq_true, and_self, if_true]
            exact .row (ws := [e]) (junk := []) (by simp)
        | @row r ws junk hx =>
          refine ⟨.slice (some (os.length + 4 + (X.length + 1), 0)) (ws.length + 1) none, (X ++ [AObj.cells 1 [.ptr (some (e.q, 0))]]).set r .dead ++ [AObj.cells 1 (ws.map (fun e => AVal.ptr (some (e.q, 0))) ++ [.ptr (some (e.q, 0))])], min (min (min w (os.length + 1)) (os.length + 4 + r)) (os.length + 3), ?_, ?_, by omega, .inl (by omega)⟩
          · have hr : r < X.length := lt_of_get hx
            have hx2 : (X ++ [AObj.cells 1 [.ptr (some (e.q, 0))]])[r]? = some (.cells 1 (ws.map (fun e => AVal.ptr (some (e.q, 0))) ++ junk)) := by rw [List.getElem?_append_left hr]; exact hx
            have hx3 : (X ++ [AObj.cells 1 [.ptr (some (e.q, 0))]])[X.length]? = some (.cells 1 [.ptr (some (e.q, 0))]) := by simp
            have hl1 : (ws.length + 1) * 8 ≤ 140737488355328 := by omega
            have hl2 : ws.length ≤ 9223372036854775806 := by omega
            have htk : List.take ws.length (ws.map (fun e => AVal.ptr (some (e.q, 0))) ++ junk) = ws.map (fun e => AVal.ptr (some (e.q, 0))) := List.take_left' (by simp)
            by_cases hws : ws = []
            · subst hws
              simp only [List.length_nil] at e1 e2 e3
              simp (disch := omega) [-getElem?_pos, -getElem?_neg, code318L0, iltT, nltT, ileT, nleT, e1, e2, e3, p1, p2, RS_hb, RS_m, RS_sb, RS_wb, isKey, CK.is, entriesOf, h3, markF, hf, wrapI, hj, hs, RS_set_m, RS_set_w, RS_set_x, RS_x, RS_len, RS_push, hx2, hx3]
            · simp (disch := omega) [-getElem?_pos, -getElem?_neg, code318L0, iltT, nltT, ileT, nleT, e1, e2, e3, p1, p2, RS_hb, RS_m, RS_sb, RS_wb, isKey, CK.is, entriesOf, h3, markF, hf, wrapI, hj, hs, RS_set_m, RS_set_w, RS_set_x, RS_x, RS_len, RS_push, hx2, hx3, hws, hl1, hl2, htk]
          · simp only [markF, hf, hs, not_false_eq_true, and_self, if_true]
            have := WorkIs.row (N := os.length) (X := (X ++ [AObj.cells 1 [.ptr (some (e.q, 0))]]).set r .dead ++ [AObj.cells 1 (ws.map (fun e => AVal.ptr (some (e.q, 0))) ++ [.ptr (some (e.q, 0))])]) (r := X.length + 1) (ws := ws ++ [e]) (junk := []) (by simp)
            simpa using this
end

theorem unseen_le (S : HS) (s : List Int) : unseen S s ≤ S.ents.length := by
  unfold unseen; exact List.length_filter_le _ _

theorem WorkIs.inv {N : Nat} {X : List AObj} {W : AVal} {ws : List Ent} (h : WorkIs N X W ws) (hne : ws ≠ []) : ∃ (r : Nat) (junk : List AVal), W = .slice (some (N + 4 + r, 0)) ws.length none ∧ X[r]? = some (.cells 1 (ws.map (fun e => AVal.ptr (some (e.q, 0))) ++ junk)) := by
  cases h with
  | nil => exact absurd rfl hne
  | row hx => exact ⟨_, _, rfl, hx⟩

theorem finish_low {h0 h : Heap} {v : AVal} (hlt : h.wmin < h0.size) : finish h0 v h = (v, { h with wmin := min h0.wmin h.wmin }) := by
  unfold finish
  rw [if_pos hlt]

theorem markF_cons (S : HS) (v : V) (l : List V) (s : List Int) (ws : List Ent) : markF S (v :: l) s ws = markF S l (markF S [v] s ws).1 (markF S [v] s ws).2 := by
  simp only [markF]
  cases S.find v.n with
  | none => rfl
  | some e => simp only; split <;> rfl

section
variable {p : Nat} {S : HS} {b0 : Nat} (H : HRep os b0 p S)
include H

theorem l318 {L : List V} {a : Option (Nat × Nat)} {c : Option Nat} (hR : Row os 2 V.cs L a) (hn : L.length ≤ 1000000000000) (hb : b ≤ os.length) (k : AExit → St → Option β) : ∀ (j i : Nat), i + j = L.length → ∀ {seen : List Int} {W : AVal} {X : List AObj} {ws : List Ent} {w : Nat}, WorkIs os.length X W ws → os.length ≤ w → ws.length + 2 * unseen S seen ≤ 1000000000000 →
    ∃ W' X' w', xK T (.loop code318L0) ⟨[(1, .val (.ptr (some (os.length, 0)))), (2, .val (.ptr (some (os.length + 2, 0)))), (3, .val (.ptr (some (os.length + 3, 0)))), (8, .val (.slice a L.length c)), (9, .val (.int .i64 L.length)), (10, .val (.int .i64 (i : Nat)))], ⟨RS os p seen W X, b, w⟩⟩ (k := ⟨k⟩) =
      k (.exit 0) ⟨[], ⟨RS os p (markF S (L.drop i) seen ws).1 W' X', b, w'⟩⟩ ∧ WorkIs os.length X' W' (markF S (L.drop i) seen ws).2 ∧ os.length ≤ w' ∧ (w' ≤ os.length + 1 ∨ (w' = w ∧ W' = W ∧ X' = X ∧ markF S (L.drop i) seen ws = (seen, ws)))
  | 0, i, hi, seen, W, X, ws, w, hW, hw, hle => by
    refine ⟨W, X, w, ?_, by rw [List.drop_of_length_le (by omega)]; exact hW, hw, .inr ⟨rfl, rfl, rfl, by rw [List.drop_of_length_le (by omega)]; rfl⟩⟩
    rw [xK_loop, List.drop_of_length_le (by omega)]
    simp (disch := omega) [-getElem?_pos, -getElem?_neg, code318L0, iltF, markF]
  | j + 1, i, hi, seen, W, X, ws, w, hW, hw, hle => by
    obtain ⟨v, hv⟩ : ∃ v, L[i]? = some v := ⟨_, List.getElem?_eq_getElem (by omega)⟩
    have hlt := lt_of_get hv
    have hd : L.drop i = v :: L.drop (i + 1) := by
      rw [List.getElem?_eq_getElem hlt] at hv
      rw [List.drop_eq_getElem_cons hlt, Option.some.inj hv]
    rw [xK_loop, hd, markF_cons]
    obtain ⟨W1, X1, w1, h1, h2, h3, h4⟩ := mark_one H hR hn hb (fun e st => nxK e st (f := ⟨fun st => xK T (.loop code318L0) st (k := ⟨k⟩)⟩) (k := ⟨k⟩)) hv hW hw (by omega) (seen := seen)
    obtain ⟨W2, X2, w2, k1, k2, k3, k4⟩ := l318 hR hn hb k j (i + 1) (by omega) (seen := (markF S [v] seen ws).1) h2 h3 (Nat.le_trans (mark_ok S [v] seen ws).less hle)
    refine ⟨W2, X2, w2, (h1.trans (nxK_n _ _ _)).trans k1, k2, k3, ?_⟩
    rcases k4 with k4 | ⟨q1, q2, q3, q4⟩
    · exact .inl k4
    · rcases h4 with h4 | ⟨r1, r2, r3, r4⟩
      · exact .inl (by omega)
      · exact .inr ⟨by omega, q2.trans r2, q3.trans r3, by rw [q4, r4]⟩

theorem s318 {L : List V} {a : Option (Nat × Nat)} {c : Option Nat} (hR : Row os 2 V.cs L a) (hn : L.length ≤ 1000000000000) (hb : b ≤ os.length) {seen : List Int} {W : AVal} {X : List AObj} {ws : List Ent} (hW : WorkIs os.length X W ws) (hle : ws.length + 2 * unseen S seen ≤ 1000000000000) (hw : os.length ≤ w) :
    ∃ W' X' w', xCall T 318 [.slice a L.length c, .ptr (some (os.length, 0)), .ptr (some (os.length + 2, 0)), .ptr (some (os.length + 3, 0))] ⟨RS os p seen W X, b, w⟩ = some (.tuple [], ⟨RS os p (markF S L seen ws).1 W' X', b, w'⟩) ∧ WorkIs os.length X' W' (markF S L seen ws).2 ∧ os.length ≤ w' := by
  obtain ⟨W', X', w', h1, h2, h3, h4⟩ := l318 H (c := c) hR hn hb (fun e st => (fun e st => nxK e st (f := ⟨fun st => retK code318 ⟨RS os p seen W X, b, w⟩ .normal ⟨keepK [] st.s, st.h⟩⟩) (k := ⟨retK code318 ⟨RS os p seen W X, b, w⟩⟩)) (blkE 0 e) st) L.length 0 (by omega) (seen := seen) (w := (RS os p seen W X).length) hW (by rw [RS_len]; omega) hle
  simp only [Int.cast_ofNat_Int, List.drop_zero] at h1 h2 h4
  have hrun : xCall T 318 [.slice a L.length c, .ptr (some (os.length, 0)), .ptr (some (os.length + 2, 0)), .ptr (some (os.length + 3, 0))] ⟨RS os p seen W X, b, w⟩ = some (finish ⟨RS os p seen W X, b, w⟩ (.tuple []) ⟨RS os p (markF S L seen ws).1 W' X', b, w'⟩) := by
    simp [-getElem?_pos, -getElem?_neg, -finish, xCallK t318, code318]
    refine h1.trans ?_
    simp [code318, -finish]
  rcases h4 with h4 | ⟨q1, q2, q3, q4⟩
  · refine ⟨W', X', min w w', ?_, h2, by omega⟩
    rw [hrun, finish_low (by show w' < (RS os p seen W X).length; rw [RS_len]; omega)]
  · refine ⟨W, X, w, ?_, by rw [q4]; exact hW, hw⟩
    rw [hrun, q4, q2, q3]
    simp [finish, q1]

/-- What is to be done is done. -/
theorem l312 {roots : List V} (hb : b ≤ os.length) (hents : S.ents.length ≤ 100000000000) (k : AExit → St → Option β) : ∀ (m : Nat) {seen : List Int} {W : AVal} {X : List AObj} {ws : List Ent} {w : Nat}, ws.length + 2 * unseen S seen ≤ m → m ≤ 1000000000000 → WorkIs os.length X W ws → Going S roots seen ws → os.length ≤ w →
    ∃ seen' W' X' w', xK T (.loop code312L0) ⟨[(5, .val (.ptr (some (os.length + 2, 0)))), (6, .val (.ptr (some (os.length + 3, 0)))), (7, .val (.func 318 [] [.ptr (some (os.length, 0)), .ptr (some (os.length + 2, 0)), .ptr (some (os.length + 3, 0))]))], ⟨RS os p seen W X, b, w⟩⟩ (k := ⟨k⟩) =
      k (.exit 0) ⟨[(5, .val (.ptr (some (os.length + 2, 0))))], ⟨RS os p seen' W' X', b, w'⟩⟩ ∧ Going S roots seen' [] ∧ os.length ≤ w' := by
  intro m
  induction m with
  | zero =>
    intro seen W X ws w hm hm2 hW hg hw
    have h0 : ws = [] := List.eq_nil_of_length_eq_zero (by omega)
    subst h0
    refine ⟨seen, W, X, w, ?_, hg, hw⟩
    rw [xK_loop]
    cases hW <;> simp (disch := omega) [-getElem?_pos, -getElem?_neg, code312L0, RS_wb, iltF]
  | succ m ih =>
    intro seen W X ws w hm hm2 hW hg hw
    rw [xK_loop]
    rcases List.eq_nil_or_concat ws with rfl | ⟨wi, e, rfl⟩
    · refine ⟨seen, W, X, w, ?_, hg, hw⟩
      cases hW <;> simp (disch := omega) [-getElem?_pos, -getElem?_neg, code312L0, RS_wb, iltF]
    · simp only [List.concat_eq_append] at hm hW hg
      have hem := (hg.wk e (by simp)).1
      have hob := H.ob e hem
      have hq := lt_of_get hob
      simp only [Ent.ob] at hob
      have hRow : Row os 2 V.cs e.o.cells (some (e.r, 0)) := Row.mk0 (fun _ => rfl) (H.row e hem)
      obtain ⟨r, junk, rfl, hx⟩ := hW.inv (by simp)
      · have hW1 : WorkIs os.length X (.slice (some (os.length + 4 + r, 0)) wi.length none) wi := .row (ws := wi) (junk := .ptr (some (e.q, 0)) :: junk) (by rw [hx]; simp)
        simp only [List.length_append, List.length_singleton] at hm
        obtain ⟨W2, X2, w2, k1, k2, k3⟩ := s318 H (c := some e.o.cells.length) hRow (by have := H.small e hem; omega) hb hW1 (seen := seen) (w := min w (os.length + 3)) (by omega) (by omega)
        have hlt : ∀ W, (RS os p seen W X)[e.q]? = some (.cells 3 [.int .i64 e.o.cls, .str e.o.typ, .slice (some (e.r, 0)) e.o.cells.length (some e.o.cells.length)]) := fun W => (RS_old hq).trans hob
        obtain ⟨s3, W3, X3, w3, j1, j2, j3⟩ := ih (seen := (markF S e.o.cells seen wi).1) (by have := (mark_ok S e.o.cells seen wi).less; omega) (by omega) k2 (going_step H.nd hg) k3
        refine ⟨s3, W3, X3, w3, ?_, j2, j3⟩
        generalize ACode.loop code312L0 = LL at j1 ⊢
        have hx1 : X[r]? = some (.cells 1 (wi.map (fun e => AVal.ptr (some (e.q, 0))) ++ .ptr (some (e.q, 0)) :: junk)) := by rw [hx]; simp
        have hg1 : (wi.map (fun e => AVal.ptr (some (e.q, 0))) ++ .ptr (some (e.q, 0)) :: junk)[wi.length]? = some (.ptr (some (e.q, 0))) := by simp
        have hwl : wi.length ≤ 1000000000000 := by omega
        simp (disch := omega) [-getElem?_pos, -getElem?_neg, code312L0, RS_wb, RS_x, RS_set_w, RS_len, hx1, hg1, iltT, ileT, nltT, nleT, wrapI, hlt, k1, j1]

end

theorem RS_new (os : List AObj) (p : Nat) : os ++ [.cells 1 [.ptr (some (p, 0))], .map [] 0, .cells 1 [.map (some (os.length + 1))], .cells 1 [.slice none 0 (some 0)]] = RS os p [] (.slice none 0 (some 0)) [] := rfl

theorem seenE_ids : ∀ (l : List Int) (k : Nat), (seenE k l).flatMap (fun x => x.1.ids ++ x.2.1.ids) = []
  | [], _ => rfl
  | n :: l, k => by simp only [seenE, List.flatMap_cons, seenE_ids l, AVal.ids, List.append_nil]

theorem seenE_ren (f : Nat → Nat) : ∀ (l : List Int) (k : Nat), (seenE k l).map (fun x => (x.1.ren f, x.2.1.ren f, x.2.2)) = seenE k l
  | [], _ => rfl
  | n :: l, k => by simp only [seenE, List.map_cons, seenE_ren f l, AVal.ren]

section
variable {p : Nat} {S : HS} {b0 : Nat} (H : HRep os b0 p S)
include H
theorem s312 {roots : List V} {a : Option (Nat × Nat)} {c : Option Nat} (hR : Row os 2 V.cs roots a) (hn : roots.length ≤ 1000000000000) (hb : b ≤ os.length) (hents : S.ents.length ≤ 100000000000) :
    ∃ seen, Going S roots seen [] ∧ ∀ w, xCall T 312 [.ptr (some (p, 0)), .slice a roots.length c] ⟨os, b, w⟩ = some (.map (some os.length), ⟨os ++ [.map (seenE 0 seen) seen.length], b, w⟩) := by
  have hu := unseen_le S []
  obtain ⟨W1, X1, w1, h1, h2, h3⟩ := s318 H (c := c) hR hn hb (WorkIs.nil (N := os.length) (X := [])) (seen := []) (w := os.length) (by simp; omega) (by omega)
  obtain ⟨seen, W2, X2, w2, k1, k2, k3⟩ := l312 H (roots := roots) hb hents (fun e st => some (e, st)) _ (Nat.le_refl _) (by have := (mark_ok S roots [] []).less; simp at this; omega) h2 (going0 S roots) h3
  have hl := fun (k : AExit → St → Option (AVal × Heap)) => xK_of (k := k) (xCode_of k1)
  refine ⟨seen, k2, fun w => ?_⟩
  have hids := seenE_ids seen 0
  have hren := fun f => seenE_ren f seen 0
  simp (disch := omega) [-getElem?_pos, -getElem?_neg, -finish, xCallK t312, code312, RS_new, h1, hl, RS_sb, nleT]
  simp (disch := omega) [-getElem?_pos, -getElem?_neg, reach_step, reach_done, RS_m, nltF, hids, hren]
end
end Go.Abs.AbsHeap

/-
  Layer 27: how much can be reached.
-/
namespace Go.Abs.AbsHeap
set_option maxRecDepth 100000
set_option linter.unusedSimpArgs false
variable {os : List AObj} {b w : Nat} {β : Type}

theorem Wp_seqx {T : Nat → Option AFunc} {a c : ACode} {st : St} {Q : AExit → St → Prop} (h : xK T a st (k := ⟨fun e st' => okIf (match e with | .normal => Wp T c st' Q | e => Q e st')⟩) = some ()) (hw : a.wild = false := by rfl) : Wp T (.seq a c) st Q := Wp_seq (Wp_x hw h)

def Ent.size (e : Ent) : Nat := sizeN e.o.typ e.o.cells.length

theorem sum_le : ∀ (l : List Nat) (m : Nat), (∀ x ∈ l, x ≤ m) → l.sum ≤ l.length * m
  | [], _, _ => by simp
  | x :: l, m, h => by
    have h1 := h x (List.mem_cons_self ..)
    have h2 := sum_le l m fun y hy => h y (List.mem_cons_of_mem _ hy)
    rw [List.sum_cons, List.length_cons, Nat.add_mul]; omega

/-- How much what was seen has. -/
def liveN (S : HS) (seen : List Int) : Nat := ((S.ents.filter fun e => seen.contains e.n).map Ent.size).sum

def szAt (S : HS) (n : Int) : Nat := match S.find n with
  | some e => e.size
  | none => 0

theorem seen_perm {S : HS} (hnd : (S.ents.map Ent.n).Nodup) {seen : List Int} (h : seen.Nodup) (hin : ∀ n ∈ seen, ∃ e, S.find n = some e) : seen.Perm ((S.ents.filter fun e => seen.contains e.n).map Ent.n) := by
  rw [List.perm_ext_iff_of_nodup h ((List.filter_sublist.map _).nodup hnd)]
  intro n
  constructor
  · intro hn
    obtain ⟨e, he⟩ := hin n hn
    obtain ⟨h1, h2⟩ := HS.find_mem he
    rw [List.mem_map]
    exact ⟨e, List.mem_filter.2 ⟨h1, by simpa [h2] using hn⟩, h2⟩
  · intro hn
    rw [List.mem_map] at hn
    obtain ⟨e, he, rfl⟩ := hn
    simpa using (List.mem_filter.1 he).2

theorem sum_seen {S : HS} (hnd : (S.ents.map Ent.n).Nodup) {seen : List Int} (h : seen.Nodup) (hin : ∀ n ∈ seen, ∃ e, S.find n = some e) : (seen.map (szAt S)).sum = liveN S seen := by
  rw [((seen_perm hnd h hin).map (szAt S)).sum_nat, List.map_map]
  unfold liveN
  congr 1
  refine List.map_congr_left fun e he => ?_
  have := find_eq hnd (List.mem_filter.1 he).1
  simp only [Function.comp, szAt, HS.find, this]

theorem range_sum (f : Nat → Nat) {n : Nat} {done : List Nat} (h : done.Nodup) (h1 : ∀ j ∈ done, j < n) (h2 : ∀ j, j < n → j ∈ done) : (done.map f).sum = ((List.range n).map f).sum :=
  (((List.perm_ext_iff_of_nodup h List.nodup_range).2 fun j => by rw [List.mem_range]; exact ⟨h1 j, h2 j⟩).map f).sum_nat

theorem map_range_get (g : Int → Nat) (l : List Int) : (List.range l.length).map (fun j => g (l.getD j 0)) = l.map g := by
  induction l with
  | nil => rfl
  | cons x l ih =>
    rw [List.length_cons, List.range_succ_eq_map, List.map_cons, List.map_map, List.map_cons, ← ih]
    rfl

theorem seenE_mem : ∀ (l : List Int) (k : Nat) (x : AVal × AVal × Nat), x ∈ seenE k l → ∃ j n, l[j]? = some n ∧ x = (.int .i64 n, .bool true, k + j)
  | [], _, x, h => by simp [seenE] at h
  | y :: l, k, x, h => by
    simp only [seenE, List.mem_cons] at h
    rcases h with rfl | h
    · exact ⟨0, y, rfl, rfl⟩
    · obtain ⟨j, n, h1, h2⟩ := seenE_mem l (k + 1) x h
      exact ⟨j + 1, n, by simpa using h1, by rw [h2]; congr 2; omega⟩

theorem seenE_has : ∀ (l : List Int) (k j : Nat) (n : Int), l[j]? = some n → (.int .i64 n, .bool true, k + j) ∈ seenE k l ∧ (seenE k l).find? (fun e => e.2.2 == k + j) = some (.int .i64 n, .bool true, k + j)
  | [], _, j, n, h => by simp at h
  | y :: l, k, 0, n, h => by simp at h; subst h; simp [seenE]
  | y :: l, k, j + 1, n, h => by
    obtain ⟨h1, h2⟩ := seenE_has l (k + 1) j n (by simpa using h)
    have e : k + 1 + j = k + (j + 1) := by omega
    rw [e] at h1 h2
    refine ⟨List.mem_cons_of_mem _ h1, ?_⟩
    simp only [seenE, List.find?_cons]
    rw [show (k == k + (j + 1)) = false by simp]
    exact h2

theorem Going.there {S : HS} {roots : List V} {seen : List Int} {ws : List Ent} (hg : Going S roots seen ws) : ∀ n ∈ seen, ∃ e, S.find n = some e := fun n hn => by
  obtain ⟨o, ho⟩ := (hg.ok n hn).there
  obtain ⟨e, he, _⟩ := look_find ho
  exact ⟨e, he⟩

def doneN (S : HS) (seen : List Int) (done : List Nat) : Nat := (done.map fun j => szAt S (seen.getD j 0)).sum

section
variable {p : Nat} {S : HS} {b0 : Nat} (H : HRep os b0 p S)
include H

theorem seen_len {seen : List Int} (h : seen.Nodup) (hin : ∀ n ∈ seen, ∃ e, S.find n = some e) : seen.length ≤ S.ents.length := by
  rw [(seen_perm H.nd h hin).length_eq, List.length_map]
  exact List.length_filter_le _ _

theorem live_loop {roots : List V} {seen : List Int} (hg : Going S roots seen []) (hb : b ≤ os.length) (hents : S.ents.length ≤ 1000000) :
    Wp T (.loop code303L0) ⟨[(0, .val (.ptr (some (p, 0)))), (5, .val (.int .i64 0)), (12, .val (.ptr (some (os.length + 1, 0))))], ⟨os ++ [.map (seenE 0 seen) seen.length, .mapIter (some os.length) seen.length [] seen.length], b, os.length⟩⟩
      (fun e st => e = .exit 0 ∧ ∃ O, st = ⟨[(5, .val (.int .i64 (liveN S seen : Nat)))], ⟨O, b, os.length⟩⟩) := by
  have hin := hg.there
  have hlen := seen_len H hg.nd hin
  have hsum : ∀ done : List Nat, done.Nodup → (∀ j ∈ done, j < seen.length) → doneN S seen done ≤ 1000000 * 1000002 ∧ done.length ≤ seen.length := by
    intro done h1 h2
    have hl : done.length ≤ seen.length := by
      have := ((List.perm_ext_iff_of_nodup h1 ((List.filter_sublist (p := fun j => done.contains j)).nodup (List.nodup_range (n := seen.length)))).2 fun j => by
        rw [List.mem_filter, List.mem_range]
        exact ⟨fun h => ⟨h2 j h, by simpa using h⟩, fun h => by simpa using h.2⟩).length_eq
      rw [this]
      exact Nat.le_trans (List.length_filter_le _ _) (by simp)
    refine ⟨Nat.le_trans (show doneN S seen done ≤ _ from sum_le _ 1000002 fun x hx => ?_) (by rw [List.length_map]; exact Nat.mul_le_mul_right _ (by omega)), hl⟩
    rw [List.mem_map] at hx
    obtain ⟨j, _, rfl⟩ := hx
    unfold szAt
    split
    · rename_i e he
      have h3 := H.small e (HS.find_mem he).1
      have := sizeN_le e.o.typ e.o.cells.length
      unfold Ent.size; omega
    · omega
  let I : Nat → St → Prop := fun m st => ∃ done : List Nat, done.Nodup ∧ (∀ j ∈ done, j < seen.length) ∧ m + done.length = seen.length ∧
    st = ⟨[(0, .val (.ptr (some (p, 0)))), (5, .val (.int .i64 (doneN S seen done : Nat))), (12, .val (.ptr (some (os.length + 1, 0))))], ⟨os ++ [.map (seenE 0 seen) seen.length, .mapIter (some os.length) seen.length done seen.length], b, os.length⟩⟩
  refine Wp_loop I (fun m st hI => ?_) seen.length _ ⟨[], by simp, by simp, by simp, rfl⟩
  obtain ⟨done, h1, h2, h3, rfl⟩ := hI
  have hget1 : ∀ D, (os ++ [AObj.map (seenE 0 seen) seen.length, D])[os.length]? = some (.map (seenE 0 seen) seen.length) := fun D => by simp
  have hget2 : ∀ D, (os ++ [AObj.map (seenE 0 seen) seen.length, D])[os.length + 1]? = some D := fun D => by simp
  have hold : ∀ (D : AObj) (i : Nat), i < os.length → (os ++ [AObj.map (seenE 0 seen) seen.length, D])[i]? = os[i]? := fun D i hi => by rw [List.getElem?_append_left hi]
  have hset : ∀ D D', (os ++ [AObj.map (seenE 0 seen) seen.length, D]).set (os.length + 1) D' = os ++ [AObj.map (seenE 0 seen) seen.length, D'] := fun D D' => by
    rw [List.set_append_right _ _ (by omega)]; simp
  unfold code303L0
  refine Wp_live ?_
  refine Wp_seq (Wp_after (Wp_seq ?_))
  refine Wp_next (m := os.length) (i := os.length + 1) (since := seen.length) (last := seen.length) (clock := seen.length) (seen := done) (es := seenE 0 seen) (by simp) (by show b ≤ _; omega) (by simp [Heap.get]) (by simp [Heap.get]) (fun e he => ?_) (Nat.le_refl _) (fun hall => ?_) (fun e he hne => ?_)
  · obtain ⟨j, n, hj, rfl⟩ := seenE_mem _ _ _ he
    have := lt_of_get hj
    show 0 + j < _
    omega
  · -- all have come
    have htot : doneN S seen done = liveN S seen := by
      rw [doneN, range_sum _ h1 h2 fun j hj => ?_, map_range_get (szAt S), sum_seen H.nd hg.nd hin]
      obtain ⟨n, hn⟩ : ∃ n, seen[j]? = some n := ⟨_, List.getElem?_eq_getElem hj⟩
      have := hall _ (seenE_has seen 0 j n hn).1
      simpa using this
    refine Wp_x rfl ?_
    simp (disch := omega) [-getElem?_pos, -getElem?_neg, hset, nleT]
    refine Wp_x rfl ?_
    simp (disch := omega) [-getElem?_pos, -getElem?_neg, htot]
  · -- an entry
    obtain ⟨j, n, hj, rfl⟩ := seenE_mem _ _ _ he
    simp only [Nat.zero_add] at hne ⊢
    have hjl := lt_of_get hj
    obtain ⟨e, hf⟩ := hin n (List.mem_of_getElem? hj)
    obtain ⟨jj, hfa⟩ := find_some hf
    have hem := (HS.find_mem hf).1
    have hob := H.ob e hem
    have hhd := H.head
    have hmp := H.map
    have hq := lt_of_get hob
    have hp := lt_of_get hhd
    have hm := lt_of_get hmp
    simp only [Ent.ob] at hob
    simp only [HS.head] at hhd
    simp only [HS.map] at hmp
    have hsm := H.small e hem
    have h311 := fun os w => s311 (os := os) (b := b) (w := w) (t := e.o.typ) (n := e.o.cells.length) (by omega)
    have hfd := (seenE_has seen 0 j n hj).2
    simp only [Nat.zero_add] at hfd
    have hn2 : (done ++ [j]).Nodup := by
      rw [List.nodup_append]
      exact ⟨h1, by simp, fun a ha c hc => by simp at hc; subst hc; exact fun h => hne (h ▸ ha)⟩
    have hl2 : ∀ i ∈ done ++ [j], i < seen.length := fun i hi => by
      rcases List.mem_append.1 hi with hi | hi
      · exact h2 i hi
      · simp at hi; subst hi; exact hjl
    have hsum2 := hsum _ hn2 hl2
    have hdn : doneN S seen (done ++ [j]) = doneN S seen done + sizeN e.o.typ e.o.cells.length := by
      simp [doneN, szAt, hj, hf, Ent.size]
    have hfin : ∃ j', j' < m ∧ I j' ⟨[(0, .val (.ptr (some (p, 0)))), (5, .val (.int .i64 ((doneN S seen done : Int) + (sizeN e.o.typ e.o.cells.length : Nat)))), (12, .val (.ptr (some (os.length + 1, 0))))], ⟨os ++ [.map (seenE 0 seen) seen.length, .mapIter (some os.length) seen.length (done ++ [j]) seen.length], b, os.length⟩⟩ := by
      have hl3 := hsum2.2
      simp only [List.length_append, List.length_singleton] at hl3
      refine ⟨m - 1, by omega, done ++ [j], hn2, hl2, by simp; omega, ?_⟩
      rw [hdn]
      simp
    refine Wp_x rfl ?_
    simp (disch := omega) [-getElem?_pos, -getElem?_neg, hset, nleT]
    refine Wp_x rfl ?_
    simp (disch := omega) [-getElem?_pos, -getElem?_neg, hget1, hget2, hold, hhd, hmp, hob, hfa, hfd, isKey, CK.is, entriesOf, h311, wrapI, hfin]
end
end Go.Abs.AbsHeap

/-
  Layer 27: Live, Collect.
-/
namespace Go.Abs.AbsHeap
set_option maxRecDepth 100000
set_option linter.unusedSimpArgs false
variable {os : List AObj} {b w : Nat} {β : Type}

theorem s303n (h : Heap) (v : AVal) : xCall T 303 [.ptr none, v] h = some (.int .i64 0, h) := by
  refine xCallW t303 rfl (Wp_seqx ?_)
  simp
  refine Wp_seqx ?_
  simp [code303]

section
variable {p : Nat} {S : HS} {b0 : Nat} (H : HRep os b0 p S)
include H

theorem s303 {roots : List V} {a : Option (Nat × Nat)} {c : Option Nat} (hR : Row os 2 V.cs roots a) (hn : roots.length ≤ 1000000000000) (hb : b ≤ os.length) (hents : S.ents.length ≤ 1000000) :
    ∃ seen, Going S roots seen [] ∧ ∀ w, xCall T 303 [.ptr (some (p, 0)), .slice a roots.length c] ⟨os, b, w⟩ = some (.int .i64 (liveN S seen : Nat), ⟨os, b, w⟩) := by
  obtain ⟨seen, hg, h312⟩ := s312 H (c := c) hR hn hb (by omega)
  refine ⟨seen, hg, fun w => xCallW t303 rfl ?_⟩
  unfold code303
  refine Wp_seqx ?_
  simp
  refine Wp_seqx ?_
  simp
  refine Wp_seqx ?_
  simp
  refine Wp_seq (Wp_seqx ?_)
  simp [-getElem?_pos, -getElem?_neg, h312]
  refine Wp_after (Wp_block ((live_loop H hg hb hents).mono fun e st hq => ?_))
  obtain ⟨rfl, O, rfl⟩ := hq
  simp
  refine Wp_x rfl ?_
  simp

end

/-! ## Collect -/

/-- The memory while things are let go: so much is told to be in use, these are left. -/
def CO (os : List AObj) (p : Nat) (S : HS) (seen : List Int) (U : Nat) (E : List Ent) (D : AObj) : List AObj :=
  (os.set p (.cells 4 [.int .i64 S.bound, .int .i64 (U : Nat), .int .i64 S.last, .map (some S.m)])).set S.m (.map (E.map Ent.kv) S.clock) ++ [.map (seenE 0 seen) seen.length, D]

section
variable {p : Nat} {S : HS} {b0 : Nat} (H : HRep os b0 p S) {seen : List Int} {U : Nat} {E : List Ent} {D : AObj}
include H
theorem HRep.pm : p ≠ S.m := fun h => by
  have h1 := H.head
  rw [h, H.map] at h1; simp [HS.map, HS.head] at h1
theorem CO_p : (CO os p S seen U E D)[p]? = some (.cells 4 [.int .i64 S.bound, .int .i64 (U : Nat), .int .i64 S.last, .map (some S.m)]) := by
  have hp := lt_of_get H.head
  unfold CO
  rw [List.getElem?_append_left (by simpa using hp), List.getElem?_set_ne (HRep.pm H).symm, List.getElem?_set_self hp]
theorem CO_m : (CO os p S seen U E D)[S.m]? = some (.map (E.map Ent.kv) S.clock) := by
  have hp := lt_of_get H.map
  unfold CO
  rw [List.getElem?_append_left (by simpa using hp), List.getElem?_set_self (by simpa using hp)]
omit H in
theorem CO_old {i : Nat} (hi : i < os.length) (h1 : i ≠ p) (h2 : i ≠ S.m) : (CO os p S seen U E D)[i]? = os[i]? := by
  unfold CO
  rw [List.getElem?_append_left (by simpa using hi), List.getElem?_set_ne h2.symm, List.getElem?_set_ne h1.symm]
omit H in
theorem CO_s : (CO os p S seen U E D)[os.length]? = some (.map (seenE 0 seen) seen.length) := by
  unfold CO; rw [List.getElem?_append_right (by simp)]; simp
omit H in
theorem CO_i : (CO os p S seen U E D)[os.length + 1]? = some D := by
  unfold CO; rw [List.getElem?_append_right (by simp)]; simp
theorem CO_set_p (U' : Nat) : (CO os p S seen U E D).set p (.cells 4 [.int .i64 S.bound, .int .i64 (U' : Nat), .int .i64 S.last, .map (some S.m)]) = CO os p S seen U' E D := by
  have hp := lt_of_get H.head
  unfold CO
  rw [List.set_append_left _ _ (by simpa using hp), List.set_comm _ _ (HRep.pm H).symm, List.set_set]
theorem CO_set_m (E' : List Ent) : (CO os p S seen U E D).set S.m (.map (E'.map Ent.kv) S.clock) = CO os p S seen U E' D := by
  have hp := lt_of_get H.map
  unfold CO
  rw [List.set_append_left _ _ (by simpa using hp), List.set_set]
omit H in
theorem CO_set_i (D' : AObj) : (CO os p S seen U E D).set (os.length + 1) D' = CO os p S seen U E D' := by
  unfold CO; rw [List.set_append_right _ _ (by simp)]; simp
omit H in
theorem CO_len : (CO os p S seen U E D).length = os.length + 2 := by simp [CO]
end

theorem erase_ents {n : Int} : ∀ {l : List Ent} {e : Ent}, (l.map Ent.n).Nodup → (l.find? fun e => e.n == n) = some e →
    ∃ j, findA (.int .i64 n) (l.map Ent.kv) = some (some (j, .ptr (some (e.q, 0)))) ∧ (l.map Ent.kv).eraseIdx j = (l.filter fun x => x.n != n).map Ent.kv
  | [], e, _, h => by simp at h
  | x :: l, e, nd, h => by
    simp only [List.map_cons, List.nodup_cons] at nd
    rw [List.find?_cons] at h
    by_cases hx : x.n = n
    · rw [show (x.n == n) = true by simpa using hx] at h
      cases h
      refine ⟨0, by simp [findA, Ent.kv, akey, akey1, hx], ?_⟩
      rw [List.filter_cons, if_neg (by simp [hx]), List.map_cons, List.eraseIdx_cons_zero]
      rw [List.filter_eq_self.2 fun y hy => ?_]
      have : y.n ≠ x.n := fun h => nd.1 (by rw [← h]; exact List.mem_map_of_mem hy)
      simpa [← hx] using this
    · rw [show (x.n == n) = false by simpa using hx] at h
      obtain ⟨j, h1, h2⟩ := erase_ents nd.2 h
      have h3 : akey (.int .i64 n) x.kv.1 = some false := by
        have h' : ¬ n = x.n := fun e => hx e.symm
        simp [Ent.kv, akey, akey1, h']
      refine ⟨j + 1, by simp only [List.map_cons, findA, h3, h1, Option.map_some], ?_⟩
      rw [List.map_cons, List.eraseIdx_cons_succ, h2, List.filter_cons, if_pos (by simpa using hx), List.map_cons]

theorem find_st : ∀ {l : List Ent} {e : Ent}, (l.map Ent.st).Nodup → e ∈ l → ((l.map Ent.kv).find? fun x => x.2.2 == e.st) = some e.kv
  | [], e, _, h => by cases h
  | x :: l, e, nd, h => by
    simp only [List.map_cons, List.nodup_cons] at nd
    rw [List.map_cons, List.find?_cons]
    rcases List.mem_cons.1 h with h1 | h1
    · subst h1; simp [Ent.kv]
    · have : ¬ x.st = e.st := fun h => nd.1 (by rw [h]; exact List.mem_map_of_mem h1)
      rw [show (x.kv.2.2 == e.st) = false by simpa [Ent.kv] using this]
      exact find_st nd.2 h1

/-- Those that are left. -/
def leftE (S : HS) (seen : List Int) (done : List Nat) : List Ent := S.ents.filter fun e => !done.contains e.st || seen.contains e.n
def usedN (S : HS) (seen : List Int) (done : List Nat) : Nat := (done.map fun s => match S.ents.find? (fun e => e.st == s) with | some e => if seen.contains e.n then e.size else 0 | none => 0).sum

theorem find_st' : ∀ {l : List Ent} {e : Ent}, (l.map Ent.st).Nodup → e ∈ l → (l.find? fun x => x.st == e.st) = some e
  | [], e, _, h => by cases h
  | x :: l, e, nd, h => by
    simp only [List.map_cons, List.nodup_cons] at nd
    rw [List.find?_cons]
    rcases List.mem_cons.1 h with h1 | h1
    · subst h1; simp
    · have : ¬ x.st = e.st := fun h => nd.1 (by rw [h]; exact List.mem_map_of_mem h1)
      rw [show (x.st == e.st) = false by simpa using this]
      exact find_st' nd.2 h1

theorem used_end {S : HS} {seen : List Int} {done : List Nat} (sd : (S.ents.map Ent.st).Nodup) (h : done.Nodup) (h1 : ∀ s ∈ done, ∃ e ∈ S.ents, e.st = s) (h2 : ∀ e ∈ S.ents, e.st ∈ done) : usedN S seen done = liveN S seen := by
  unfold usedN
  rw [(((List.perm_ext_iff_of_nodup h sd).2 fun s => by
    rw [List.mem_map]
    exact ⟨fun hs => h1 s hs, fun ⟨e, he, hs⟩ => hs ▸ h2 e he⟩).map _).sum_nat, List.map_map]
  unfold liveN
  have key : ∀ (l : List Ent), (∀ e ∈ l, e ∈ S.ents) → (l.map ((fun s => match S.ents.find? (fun e => e.st == s) with | some e => if seen.contains e.n then e.size else 0 | none => 0) ∘ Ent.st)).sum = ((l.filter fun e => seen.contains e.n).map Ent.size).sum := by
    intro l
    induction l with
    | nil => intro _; rfl
    | cons e l ih =>
      intro hl
      have := find_st' sd (hl e (List.mem_cons_self ..))
      rw [List.map_cons, List.sum_cons, ih fun x hx => hl x (List.mem_cons_of_mem _ hx), List.filter_cons]
      simp only [Function.comp, this]
      split <;> simp
  exact key _ fun _ h => h

end Go.Abs.AbsHeap

/-
  Layer 27: Collect.
-/
namespace Go.Abs.AbsHeap
set_option maxRecDepth 100000
set_option linter.unusedSimpArgs false
variable {os : List AObj} {b w : Nat} {β : Type}

/-- The heap behind a collection. -/
def HS.coll (S : HS) (seen : List Int) : HS := { S with used := (liveN S seen : Nat), ents := S.ents.filter fun e => seen.contains e.n }

def wC (p : Nat) (S : HS) (E : List Ent) : Nat := if E.length = S.ents.length then p else min p S.m

section
variable {p : Nat} {S : HS} {b0 : Nat} (H : HRep os b0 p S)
include H

theorem used_le {seen : List Int} {done : List Nat} (hl : done.length ≤ 1000000) : usedN S seen done ≤ 1000000 * 1000002 := by
  refine Nat.le_trans (sum_le _ 1000002 fun x hx => ?_) (by rw [List.length_map]; exact Nat.mul_le_mul_right _ hl)
  rw [List.mem_map] at hx
  obtain ⟨s, _, rfl⟩ := hx
  split
  · rename_i e he
    have h3 := H.small e (List.mem_of_find?_eq_some he)
    have := sizeN_le e.o.typ e.o.cells.length
    split
    · unfold Ent.size; omega
    · omega
  · omega

theorem done_len {done : List Nat} (h : done.Nodup) (h1 : ∀ s ∈ done, ∃ e ∈ S.ents, e.st = s) : done.length ≤ S.ents.length := by
  have := ((List.perm_ext_iff_of_nodup h ((List.filter_sublist (p := fun j => done.contains j)).nodup H.sd)).2 fun j => by
    rw [List.mem_filter, List.mem_map]
    exact ⟨fun h => ⟨h1 j h, by simpa using h⟩, fun h => by simpa using h.2⟩).length_eq
  rw [this]
  exact Nat.le_trans (List.length_filter_le _ _) (by simp)

theorem collect_loop {roots : List V} {seen : List Int} (hg : Going S roots seen []) (hb : b ≤ b0) (hents : S.ents.length ≤ 1000000) (B : AVal) :
    Wp T (.loop code292L0) ⟨[(0, .val (.ptr (some (p, 0)))), (5, .val (.map (some os.length))), (6, .val B), (26, .val (.ptr (some (os.length + 1, 0))))], ⟨CO os p S seen 0 S.ents (.mapIter (some S.m) S.clock [] S.clock), b, p⟩⟩
      (fun e st => e = .exit 0 ∧ st = ⟨[(0, .val (.ptr (some (p, 0)))), (6, .val B)], ⟨CO os p S seen (liveN S seen) (S.ents.filter fun e => seen.contains e.n) .dead, b, wC p S (S.ents.filter fun e => seen.contains e.n)⟩⟩) := by
  have hp := lt_of_get H.head
  have hm := lt_of_get H.map
  have hbp : b ≤ p := Nat.le_trans hb (H.low _ (.inl rfl))
  have hbm : b ≤ S.m := Nat.le_trans hb (H.low _ (.inr (.inl rfl)))
  let I : Nat → St → Prop := fun m st => ∃ done : List Nat, done.Nodup ∧ (∀ s ∈ done, ∃ e ∈ S.ents, e.st = s) ∧ m + done.length = S.ents.length ∧
    st = ⟨[(0, .val (.ptr (some (p, 0)))), (5, .val (.map (some os.length))), (6, .val B), (26, .val (.ptr (some (os.length + 1, 0))))], ⟨CO os p S seen (usedN S seen done) (leftE S seen done) (.mapIter (some S.m) S.clock done S.clock), b, wC p S (leftE S seen done)⟩⟩
  have h00 : leftE S seen [] = S.ents := by simp [leftE]
  refine Wp_loop I (fun m st hI => ?_) S.ents.length _ ⟨[], by simp, by simp, by simp, by rw [h00]; simp [usedN, wC]⟩
  obtain ⟨done, h1, h2, h3, rfl⟩ := hI
  have hsub : ∀ e ∈ leftE S seen done, e ∈ S.ents := fun e he => (List.mem_filter.1 he).1
  have hwN : wC p S (leftE S seen done) ≤ os.length + 1 := by unfold wC; split <;> omega
  have hmin : min (wC p S (leftE S seen done)) (os.length + 1) = wC p S (leftE S seen done) := by omega
  unfold code292L0
  refine Wp_live ?_
  refine Wp_seq (Wp_after (Wp_seq ?_))
  refine Wp_next (m := S.m) (i := os.length + 1) (since := S.clock) (last := S.clock) (clock := S.clock) (seen := done) (es := (leftE S seen done).map Ent.kv) (by simp) (by show b ≤ _; omega) (by simp only [Heap.get]; exact CO_i) (by simp only [Heap.get]; exact CO_m H) (fun x hx => ?_) (Nat.le_refl _) (fun hall => ?_) (fun x hx hne => ?_)
  · rw [List.mem_map] at hx
    obtain ⟨e, he, rfl⟩ := hx
    exact H.clk e (hsub e he)
  · -- all have come
    have hin : ∀ e ∈ S.ents, e.st ∈ done := fun e he => by
      by_cases hd : e.st ∈ done
      · exact hd
      · exact hall e.kv (List.mem_map_of_mem (List.mem_filter.2 ⟨he, by simp [hd]⟩))
    have hu := used_end (seen := seen) H.sd h1 h2 hin
    have hE : leftE S seen done = S.ents.filter fun e => seen.contains e.n := List.filter_congr fun e he => by simp [hin e he]
    refine Wp_x rfl ?_
    simp (disch := omega) [-getElem?_pos, -getElem?_neg, CO_set_i, nleT]
    refine Wp_x rfl ?_
    rw [hE, hu]
    simp
  · -- an entry
    rw [List.mem_map] at hx
    obtain ⟨e, he, rfl⟩ := hx
    have hem := hsub e he
    have hst : e.st ∉ done := hne
    have hob := H.ob e hem
    have hq := lt_of_get hob
    obtain ⟨_, _, _, n4, n5, _⟩ := H.ne hem
    have hobC : ∀ U E D, (CO os p S seen U E D)[e.q]? = some (.cells 3 [.int .i64 e.o.cls, .str e.o.typ, .slice (some (e.r, 0)) e.o.cells.length (some e.o.cells.length)]) := fun U E D => (CO_old hq n4 n5).trans hob
    have hsm := H.small e hem
    have h311 := fun os w => s311 (os := os) (b := b) (w := w) (t := e.o.typ) (n := e.o.cells.length) (by omega)
    have hsdL : ((leftE S seen done).map Ent.st).Nodup := (List.filter_sublist.map _).nodup H.sd
    have hndL : ((leftE S seen done).map Ent.n).Nodup := (List.filter_sublist.map _).nodup H.nd
    have hfd := find_st hsdL he
    have hn2 : (done ++ [e.st]).Nodup := by
      rw [List.nodup_append]
      exact ⟨h1, by simp, fun a ha c hc => by simp at hc; subst hc; exact fun h => hst (h ▸ ha)⟩
    have hl2 : ∀ s ∈ done ++ [e.st], ∃ e ∈ S.ents, e.st = s := fun s hs => by
      rcases List.mem_append.1 hs with hs | hs
      · exact h2 s hs
      · simp at hs; subst hs; exact ⟨e, hem, rfl⟩
    have hdl := done_len H hn2 hl2
    have hub := used_le H (seen := seen) (done := done ++ [e.st]) (by omega)
    simp only [List.length_append, List.length_singleton] at hdl
    have hus : usedN S seen (done ++ [e.st]) = usedN S seen done + (if seen.contains e.n then e.size else 0) := by
      simp [usedN, find_st' H.sd hem]
    obtain ⟨j1, hj1⟩ := find_seen e.n seen 0
    have hkv : e.kv = (.int .i64 e.n, .ptr (some (e.q, 0)), e.st) := rfl
    rw [hkv] at hfd
    have hfin : ∀ U E' , U = usedN S seen (done ++ [e.st]) → E' = leftE S seen (done ++ [e.st]) → ∃ j', j' < m ∧ I j' ⟨[(0, .val (.ptr (some (p, 0)))), (5, .val (.map (some os.length))), (6, .val B), (26, .val (.ptr (some (os.length + 1, 0))))], ⟨CO os p S seen U E' (.mapIter (some S.m) S.clock (done ++ [e.st]) S.clock), b, wC p S E'⟩⟩ := by
      rintro U E' rfl rfl
      exact ⟨m - 1, by omega, done ++ [e.st], hn2, hl2, by simp; omega, rfl⟩
    refine Wp_x rfl ?_
    simp (disch := omega) [-getElem?_pos, -getElem?_neg, CO_set_i, nleT, hkv]
    refine Wp_x rfl ?_
    by_cases hs : e.n ∈ seen
    · rw [if_pos hs] at hj1
      have hE : leftE S seen done = leftE S seen (done ++ [e.st]) := List.filter_congr fun x hx => by
        by_cases hxe : x.st = e.st
        · have : x = e := nodup_inj H.sd hx hem hxe
          subst this; simp [hs]
        · simp [hxe]
      have hU : usedN S seen (done ++ [e.st]) = usedN S seen done + sizeN e.o.typ e.o.cells.length := by rw [hus]; simp [hs, Ent.size]
      have hf := hfin _ _ hU.symm hE
      have hset := CO_set_p H (seen := seen) (U := usedN S seen done) (E := leftE S seen done) (D := .mapIter (some S.m) S.clock (done ++ [e.st]) S.clock) (usedN S seen done + sizeN e.o.typ e.o.cells.length)
      have hwp : min (wC p S (leftE S seen done)) p = wC p S (leftE S seen done) := by unfold wC; split <;> omega
      simp only [Int.natCast_add] at hset
      simp (disch := omega) [-getElem?_pos, -getElem?_neg, CO_i, CO_p H, CO_m H, CO_s, hobC, CO_len, hfd, hj1, isKey, CK.is, entriesOf, h311, wrapI, nleT, nltT, hset, hwp, hf]
    · rw [if_neg hs] at hj1
      have hfe := find_eq hndL he
      obtain ⟨jj, k1, k2⟩ := erase_ents hndL hfe
      have hE : (leftE S seen done).filter (fun x => x.n != e.n) = leftE S seen (done ++ [e.st]) := by
        unfold leftE
        rw [List.filter_filter]
        refine List.filter_congr fun x hx => ?_
        by_cases hxe : x.st = e.st
        · have : x = e := nodup_inj H.sd hx hem hxe
          subst this; simp [hs]
        · have hxn : x.n ≠ e.n := fun h => hxe (by rw [nodup_inj H.nd hx hem h])
          simp [hxe, hxn]
      have hU : usedN S seen (done ++ [e.st]) = usedN S seen done := by rw [hus]; simp [hs]
      have hf := hfin _ _ hU.symm hE
      have hset := CO_set_m H (seen := seen) (U := usedN S seen done) (E := leftE S seen done) (D := .mapIter (some S.m) S.clock (done ++ [e.st]) S.clock) ((leftE S seen done).filter fun x => x.n != e.n)
      rw [← k2] at hset
      have hlt : ((leftE S seen done).filter fun x => x.n != e.n).length < (leftE S seen done).length := by
        have := filter_lt (p := fun _ => true) (q := fun x : Ent => x.n != e.n) (l := leftE S seen done) (fun _ _ _ => rfl) he rfl (by simp)
        rw [List.filter_eq_self.2 fun _ _ => rfl] at this
        exact this
      have hle : (leftE S seen done).length ≤ S.ents.length := List.length_filter_le _ _
      have hwp : min (wC p S (leftE S seen done)) S.m = wC p S ((leftE S seen done).filter fun x => x.n != e.n) := by unfold wC; split <;> (rw [if_neg (by omega)]; try omega)
      simp (disch := omega) [-getElem?_pos, -getElem?_neg, CO_i, CO_p H, CO_m H, CO_s, hobC, CO_len, hfd, hj1, isKey, CK.is, entriesOf, h311, wrapI, nleT, nltT, k1, hset, hwp, hf]

theorem s292 {roots : List V} {a : Option (Nat × Nat)} {c : Option Nat} (hR : Row os 2 V.cs roots a) (hn : roots.length ≤ 1000000000000) (hb : b ≤ b0) (hb2 : b ≤ os.length) (hents : S.ents.length ≤ 1000000) :
    ∃ seen os', Going S roots seen [] ∧ HRep os' b0 p (S.coll seen) ∧ Upd os os' (S.fp p) ((S.coll seen).fp p) ∧
      ∀ w, ∃ w', w' ≤ p ∧ min w b0 ≤ w' ∧ xCall T 292 [.ptr (some (p, 0)), .slice a roots.length c] ⟨os, b, w⟩ = some (.int .i64 ((S.ents.length : Int) - ((S.ents.filter fun e => seen.contains e.n).length : Nat)), ⟨os', b, w'⟩) := by
  obtain ⟨seen, hg, h312⟩ := s312 H (c := c) hR hn hb2 (by omega)
  have hp := lt_of_get H.head
  have hm := lt_of_get H.map
  have hpm := HRep.pm H
  have hbp0 := H.low _ (.inl rfl)
  have hbm0 := H.low _ (.inr (.inl rfl))
  have hbp : b ≤ p := Nat.le_trans hb (H.low _ (.inl rfl))
  refine ⟨seen, CO os p S seen (liveN S seen) (S.ents.filter fun e => seen.contains e.n) .dead, hg, ?_, ?_, fun w => ⟨min w (wC p S (S.ents.filter fun e => seen.contains e.n)), by unfold wC; split <;> omega, by unfold wC; split <;> omega, ?_⟩⟩
  · have hsub : ∀ e ∈ (S.coll seen).ents, e ∈ S.ents := fun e he => (List.mem_filter.1 he).1
    refine ⟨CO_p H, CO_m H, fun e he => ?_, fun e he => ?_, (List.filter_sublist.map _).nodup H.nd, (List.filter_sublist.map _).nodup H.sd, fun e he => H.clk e (hsub e he), fun e he => H.small e (hsub e he), (List.filter_sublist.map _).nodup H.rd, fun i hi => H.low i ?_, fun e he => H.lst e (hsub e he)⟩
    · obtain ⟨_, _, _, n4, n5, _⟩ := H.ne (hsub e he)
      have := H.ob e (hsub e he)
      exact (CO_old (lt_of_get this) n4 n5).trans this
    · obtain ⟨n1, n2, _⟩ := H.ne (hsub e he)
      have := H.row e (hsub e he)
      exact (CO_old (lt_of_get this) n1 n2).trans this
    · rcases hi with h | h | ⟨e, he, h⟩
      · exact .inl h
      · exact .inr (.inl h)
      · exact .inr (.inr ⟨e, hsub e he, h⟩)
  · refine ⟨by rw [CO_len]; omega, fun i hi hn => CO_old hi (fun h => hn (.inl h)) (fun h => hn (.inr (.inl h))), fun i hi => .inl ?_⟩
    rcases hi with h | h | ⟨e, he, h⟩
    · exact .inl h
    · exact .inr (.inl h)
    · exact .inr (.inr ⟨e, (List.mem_filter.1 he).1, h⟩)
  · refine xCallW t292 rfl ?_
    have hhd := H.head
    have hmp := H.map
    simp only [HS.head] at hhd
    simp only [HS.map] at hmp
    have hlenE : (S.ents.filter fun e => seen.contains e.n).length ≤ S.ents.length := List.length_filter_le _ _
    have g1 : (os ++ [AObj.map (seenE 0 seen) seen.length])[p]? = some (.cells 4 [.int .i64 S.bound, .int .i64 S.used, .int .i64 S.last, .map (some S.m)]) := by rw [List.getElem?_append_left hp]; exact hhd
    have g2 : (os ++ [AObj.map (seenE 0 seen) seen.length])[S.m]? = some (.map (S.ents.map Ent.kv) S.clock) := by rw [List.getElem?_append_left hm]; exact hmp
    have g3 : ∀ x, ((os.set p x) ++ [AObj.map (seenE 0 seen) seen.length])[p]? = some x := fun x => by rw [List.getElem?_append_left (by simpa using hp), List.getElem?_set_self hp]
    have g4 : ∀ x, ((os.set p x) ++ [AObj.map (seenE 0 seen) seen.length])[S.m]? = some (.map (S.ents.map Ent.kv) S.clock) := fun x => by rw [List.getElem?_append_left (by simpa using hm), List.getElem?_set_ne hpm]; exact hmp
    have hco : os.set p (.cells 4 [.int .i64 S.bound, .int .i64 0, .int .i64 S.last, .map (some S.m)]) ++ [AObj.map (seenE 0 seen) seen.length, .mapIter (some S.m) S.clock [] S.clock] = CO os p S seen 0 S.ents (.mapIter (some S.m) S.clock [] S.clock) := by
      unfold CO
      congr 1
      apply List.ext_getElem?
      intro i
      by_cases hi : i = S.m
      · subst hi; rw [List.getElem?_set_self (by simpa using hm), List.getElem?_set_ne hpm]; exact hmp
      · rw [List.getElem?_set_ne (Ne.symm hi)]; rfl
    have hwlt : wC p S (S.ents.filter fun e => seen.contains e.n) < os.length := by unfold wC; split <;> omega
    have hcl := fun B => collect_loop H hg hb hents B
    generalize (S.ents.filter fun e => seen.contains e.n) = E at hcl hwlt hlenE ⊢
    unfold code292
    refine Wp_seqx ?_
    simp
    refine Wp_seqx ?_
    simp
    refine Wp_seqx ?_
    simp [-getElem?_pos, -getElem?_neg, h312]
    refine Wp_seqx ?_
    simp [-getElem?_pos, -getElem?_neg, g1, g2]
    refine Wp_seqx ?_
    simp (disch := omega) [-getElem?_pos, -getElem?_neg, g1, g2, nleT]
    refine Wp_seq (Wp_seqx ?_)
    simp (disch := omega) [-getElem?_pos, -getElem?_neg, g3, g4, hco]
    refine Wp_after (Wp_block ((hcl _).mono fun e st hq => ?_))
    obtain ⟨rfl, rfl⟩ := hq
    simp
    refine Wp_x rfl ?_
    simp (disch := omega) [-getElem?_pos, -getElem?_neg, CO_p H, CO_m H, CO_len, wrapI, nltT, code292]
end
end Go.Abs.AbsHeap

/-
  Layer 27: an object is made.
-/
namespace Go.Abs.AbsHeap
set_option maxRecDepth 100000
set_option linter.unusedSimpArgs false
variable {os : List AObj} {b w : Nat} {β : Type}

/-- Are an object's first values references? -/
def refT (t : List UInt8) : Bool := !decide (t = []) && !decide (t = [91, 73]) && !decide (t = [91, 66])
def cells0 (t : List UInt8) (n : Nat) : List V := List.replicate n ⟨0, refT t⟩

theorem rowC_rep (n : Nat) (v : V) : rowC (List.replicate n v) = rep n v.cs := by
  unfold rowC rep
  induction n with
  | zero => rfl
  | succ n ih => rw [List.replicate_succ, List.flatMap_cons, ih, List.replicate_succ, List.flatten_cons]

theorem set_ref : ∀ (l : List V) (i : Nat) (a : Int) (x : Bool), l[i]? = some ⟨a, x⟩ → List.take (i * 2 + 1) (rowC l) ++ .bool true :: List.drop (i * 2 + 1 + 1) (rowC l) = rowC (l.set i ⟨a, true⟩)
  | [], i, a, x, h => by simp at h
  | v :: l, 0, a, x, h => by simp at h; subst h; simp [rowC_cons]
  | v :: l, i + 1, a, x, h => by
    have ih := set_ref l i a x (by simpa using h)
    rw [rowC_cons, List.set_cons_succ, rowC_cons, ← ih, show (i + 1) * 2 = i * 2 + 1 + 1 by omega]
    simp

theorem l308 (k : AExit → St → Option β) {P N c t : AVal} {q r n : Nat} (hqr : q ≠ r) (hb : b ≤ r) (hn : n ≤ 1000000000000) : ∀ (j i : Nat), i + j = n → ∀ (O : List AObj) (w : Nat), O[q]? = some (.cells 3 [c, t, .slice (some (r, 0)) n (some n)]) → O[r]? = some (.cells 2 (rowC (List.replicate i ⟨0, true⟩ ++ List.replicate j ⟨0, false⟩))) →
    ∃ w', xK T (.loop code308L0) ⟨[(0, .val P), (1, .val (.ptr (some (q, 0)))), (10, .val N), (77, .val (.int .i64 (n : Nat))), (78, .val (.int .i64 (i : Nat)))], ⟨O, b, w⟩⟩ (k := ⟨k⟩) =
      k (.exit 0) ⟨[(0, .val P), (1, .val (.ptr (some (q, 0)))), (10, .val N)], ⟨O.set r (.cells 2 (rowC (List.replicate n ⟨0, true⟩))), b, w'⟩⟩ ∧ w' ≤ w ∧ min w r ≤ w'
  | 0, i, hi, O, w, hq, hr => by
    refine ⟨w, ?_, Nat.le_refl _, Nat.min_le_left _ _⟩
    have hO : O.set r (.cells 2 (rowC (List.replicate n ⟨0, true⟩))) = O := by
      apply List.ext_getElem?
      intro m
      by_cases h : m = r
      · subst h; rw [List.getElem?_set_self (lt_of_get hr), hr]; simp [show i = n by omega]
      · rw [List.getElem?_set_ne (Ne.symm h)]
    rw [xK_loop, hO]
    simp (disch := omega) [-getElem?_pos, -getElem?_neg, code308L0, iltF]
  | j + 1, i, hi, O, w, hq, hr => by
    have hlr := lt_of_get hr
    have hset : (List.replicate i (⟨0, true⟩ : V) ++ List.replicate (j + 1) (⟨0, false⟩ : V)).set i (⟨0, true⟩ : V) = List.replicate (i + 1) (⟨0, true⟩ : V) ++ List.replicate j (⟨0, false⟩ : V) := by
      rw [List.set_append_right _ _ (by simp), List.length_replicate, Nat.sub_self, List.replicate_succ (a := (⟨0, false⟩ : V)), List.replicate_succ' (a := (⟨0, true⟩ : V)), List.set_cons_zero, List.append_assoc]
      rfl
    obtain ⟨w', h1, h2, h3⟩ := l308 k (P := P) (N := N) hqr hb hn j (i + 1) (by omega) (O.set r (.cells 2 (rowC (List.replicate (i + 1) ⟨0, true⟩ ++ List.replicate j ⟨0, false⟩)))) (min w r) (by rw [List.getElem?_set_ne hqr.symm]; exact hq) (by rw [List.getElem?_set_self hlr])
    rw [List.set_set] at h1
    refine ⟨w', ?_, by omega, by omega⟩
    have e : ((i + 1 : Nat) : Int) = (i : Int) + 1 := by omega
    rw [e] at h1
    have hlen : (rowC (List.replicate i (⟨0, true⟩ : V) ++ List.replicate (j + 1) ⟨0, false⟩)).length = n * 2 := by simp; omega
    have hsp2 := set_ref (List.replicate i (⟨0, true⟩ : V) ++ List.replicate (j + 1) ⟨0, false⟩) i 0 false (by simp)
    rw [hset] at hsp2
    rw [xK_loop]
    generalize ACode.loop code308L0 = LL at h1 ⊢
    simp (disch := omega) [-getElem?_pos, -getElem?_neg, code308L0, iltT, ileT, nltT, nleT, wrapI, hq, hr, hlen, hsp2, h1]
/-- The memory while an object is made. -/
def MO (O : List AObj) (p q m : Nat) (A Q M X : AObj) : List AObj := ((O.set p A).set m M).set q Q ++ [X]

structure MOk (O : List AObj) (p q m : Nat) : Prop where
  hp : p < O.length
  hq : q < O.length
  hm : m < O.length
  hpq : p ≠ q
  hpm : p ≠ m
  hqm : q ≠ m

section
variable {O : List AObj} {p q m : Nat} {A Q M X : AObj}
theorem MO_p (h : MOk O p q m) : (MO O p q m A Q M X)[p]? = some A := by
  unfold MO
  rw [List.getElem?_append_left (by simpa using h.hp), List.getElem?_set_ne h.hpq.symm, List.getElem?_set_ne h.hpm.symm, List.getElem?_set_self h.hp]
theorem MO_m (h : MOk O p q m) : (MO O p q m A Q M X)[m]? = some M := by
  unfold MO
  rw [List.getElem?_append_left (by simpa using h.hm), List.getElem?_set_ne h.hqm, List.getElem?_set_self (by simpa using h.hm)]
theorem MO_q (h : MOk O p q m) : (MO O p q m A Q M X)[q]? = some Q := by
  unfold MO
  rw [List.getElem?_append_left (by simpa using h.hq), List.getElem?_set_self (by simpa using h.hq)]
theorem MO_r : (MO O p q m A Q M X)[O.length]? = some X := by
  unfold MO
  rw [List.getElem?_append_right (by simp)]; simp
theorem MO_old {i : Nat} (hi : i < O.length) (h1 : i ≠ p) (h2 : i ≠ q) (h3 : i ≠ m) : (MO O p q m A Q M X)[i]? = O[i]? := by
  unfold MO
  rw [List.getElem?_append_left (by simpa using hi), List.getElem?_set_ne h2.symm, List.getElem?_set_ne h3.symm, List.getElem?_set_ne h1.symm]
theorem MO_set_p (h : MOk O p q m) (A' : AObj) : (MO O p q m A Q M X).set p A' = MO O p q m A' Q M X := by
  unfold MO
  rw [List.set_append_left _ _ (by simpa using h.hp), List.set_comm _ _ h.hpq.symm, List.set_comm _ _ h.hpm.symm, List.set_set]
theorem MO_set_m (h : MOk O p q m) (M' : AObj) : (MO O p q m A Q M X).set m M' = MO O p q m A Q M' X := by
  unfold MO
  rw [List.set_append_left _ _ (by simpa using h.hm), List.set_comm _ _ h.hqm, List.set_set]
theorem MO_set_q (h : MOk O p q m) (Q' : AObj) : (MO O p q m A Q M X).set q Q' = MO O p q m A Q' M X := by
  unfold MO
  rw [List.set_append_left _ _ (by simpa using h.hq), List.set_set]
theorem MO_set_r (X' : AObj) : (MO O p q m A Q M X).set O.length X' = MO O p q m A Q M X' := by
  unfold MO
  rw [List.set_append_right _ _ (by simp)]; simp
theorem MO_len : (MO O p q m A Q M X).length = O.length + 1 := by simp [MO]
theorem set_same {O : List AObj} {i : Nat} {x : AObj} (h : O[i]? = some x) : O.set i x = O := by
  apply List.ext_getElem?
  intro j
  by_cases hj : j = i
  · subst hj; rw [List.getElem?_set_self (lt_of_get h), h]
  · rw [List.getElem?_set_ne (Ne.symm hj)]
theorem MO_new (h1 : O[p]? = some A) (h2 : O[q]? = some Q) (h3 : O[m]? = some M) (X : AObj) : O ++ [X] = MO O p q m A Q M X := by
  unfold MO
  rw [set_same h1, set_same h3, set_same h2]
end

def HS.add (S : HS) (q r : Nat) (cls : Int) (t : List UInt8) (n : Nat) : HS :=
  { S with used := S.used + (sizeN t n : Nat), last := S.last + 1, clock := S.clock + 1, ents := S.ents ++ [⟨S.last + 1, q, r, S.clock, ⟨cls, t, cells0 t n⟩⟩] }

/-- What making an object comes to. -/
inductive MkRel (S : HS) (roots : List V) (cls : Int) (t : List UInt8) (n : Int) : Int → Int → HS → Prop
  | big : 1099511627776 < n → MkRel S roots cls t n 0 10 S
  | full {seen : List Int} : n ≤ 1099511627776 → S.bound - S.used < (sizeN t n.toNat : Nat) → Going S roots seen [] → S.bound - (liveN S seen : Nat) < (sizeN t n.toNat : Nat) → MkRel S roots cls t n 0 10 (S.coll seen)
  | made1 {q r : Nat} : n ≤ 1099511627776 → (sizeN t n.toNat : Nat) ≤ S.bound - S.used → MkRel S roots cls t n (S.last + 1) 0 (S.add q r cls t n.toNat)
  | made2 {seen : List Int} {q r : Nat} : n ≤ 1099511627776 → S.bound - S.used < (sizeN t n.toNat : Nat) → Going S roots seen [] → (sizeN t n.toNat : Nat) ≤ S.bound - (liveN S seen : Nat) → MkRel S roots cls t n (S.last + 1) 0 ((S.coll seen).add q r cls t n.toNat)

theorem find_last {b0 p : Nat} {S : HS} (H : HRep os b0 p S) : S.find (S.last + 1) = none := by
  cases hf : S.find (S.last + 1) with
  | none => rfl
  | some e =>
    obtain ⟨h1, h2⟩ := HS.find_mem hf
    have := H.lst e h1
    omega

/-- The heap behind it. -/
theorem HRep.add {b0 p : Nat} {S : HS} (H : HRep os b0 p S) {q : Nat} {cls : Int} {t : List UInt8} {n : Nat} {Q : AObj} (hq : os[q]? = some Q) (hqk : q ≠ p ∧ q ≠ S.m ∧ ∀ e ∈ S.ents, q ≠ e.q ∧ q ≠ e.r) (hbq : b0 ≤ q) (hn : n ≤ 1000000) (A : AObj)
    (hA : A = .cells 4 [.int .i64 S.bound, .int .i64 (S.used + (sizeN t n : Nat)), .int .i64 (S.last + 1), .map (some S.m)]) :
    HRep (MO os p q S.m A (.cells 3 [.int .i64 cls, .str t, .slice (some (os.length, 0)) n (some n)]) (.map (S.ents.map Ent.kv ++ [(.int .i64 (S.last + 1), .ptr (some (q, 0)), S.clock)]) (S.clock + 1)) (.cells 2 (rowC (cells0 t n)))) b0 p (S.add q os.length cls t n) := by
  have hp := lt_of_get H.head
  have hm := lt_of_get H.map
  have hql := lt_of_get hq
  obtain ⟨k1, k2, k3⟩ := hqk
  have hpm := HRep.pm H
  have hcl : (cells0 t n).length = n := by simp [cells0]
  have hok : MOk os p q S.m := ⟨hp, hql, hm, k1.symm, hpm, k2⟩
  refine ⟨?_, ?_, fun e he => ?_, fun e he => ?_, ?_, ?_, fun e he => ?_, fun e he => ?_, ?_, fun i hi => ?_, fun e he => ?_⟩
  · rw [MO_p hok, hA]; rfl
  · show (MO os p q S.m _ _ _ _)[S.m]? = _
    rw [MO_m hok]
    simp [HS.add, HS.map, Ent.kv]
  · simp only [HS.add, List.mem_append, List.mem_singleton] at he
    rcases he with he | rfl
    · obtain ⟨n1, n2, n3, n4, n5, _⟩ := H.ne he
      have := H.ob e he
      exact (MO_old (lt_of_get this) n4 (k3 e he).1.symm n5).trans this
    · rw [MO_q hok]; simp [Ent.ob, hcl]
  · simp only [HS.add, List.mem_append, List.mem_singleton] at he
    rcases he with he | rfl
    · obtain ⟨n1, n2, n3, n4, n5, _⟩ := H.ne he
      have := H.row e he
      exact (MO_old (lt_of_get this) n1 (k3 e he).2.symm n2).trans this
    · rw [MO_r]; rfl
  · simp only [HS.add, List.map_append, List.map_cons, List.map_nil]
    rw [List.nodup_append]
    refine ⟨H.nd, by simp, fun x hx y hy => ?_⟩
    rw [List.mem_map] at hx
    obtain ⟨e, he, rfl⟩ := hx
    have := H.lst e he
    simp at hy; omega
  · simp only [HS.add, List.map_append, List.map_cons, List.map_nil]
    rw [List.nodup_append]
    refine ⟨H.sd, by simp, fun x hx y hy => ?_⟩
    rw [List.mem_map] at hx
    obtain ⟨e, he, rfl⟩ := hx
    have := H.clk e he
    simp at hy; omega
  · simp only [HS.add, List.mem_append, List.mem_singleton] at he
    show e.st < S.clock + 1
    rcases he with he | rfl
    · have := H.clk e he; omega
    · simp
  · simp only [HS.add, List.mem_append, List.mem_singleton] at he
    rcases he with he | rfl
    · exact H.small e he
    · simpa [hcl] using hn
  · simp only [HS.add, List.map_append, List.map_cons, List.map_nil]
    rw [List.nodup_append]
    refine ⟨H.rd, by simp, fun x hx y hy => ?_⟩
    rw [List.mem_map] at hx
    obtain ⟨e, he, rfl⟩ := hx
    have := lt_of_get (H.row e he)
    simp at hy; omega
  · rcases hi with h | h | ⟨e, he, h⟩
    · exact H.low i (.inl h)
    · exact H.low i (.inr (.inl h))
    · simp only [HS.add, List.mem_append, List.mem_singleton] at he
      rcases he with he | rfl
      · exact H.low i (.inr (.inr ⟨e, he, h⟩))
      · rcases h with rfl | rfl
        · exact hbq
        · have := H.low p (.inl rfl)
          show b0 ≤ os.length
          omega
  · simp only [HS.add, List.mem_append, List.mem_singleton] at he
    show e.n ≤ S.last + 1
    rcases he with he | rfl
    · have := H.lst e he; omega
    · simp

end Go.Abs.AbsHeap

/-
  Layer 27: an object is made: put.
-/
namespace Go.Abs.AbsHeap
set_option maxRecDepth 100000
set_option linter.unusedSimpArgs false
variable {O : List AObj} {b w : Nat} {β : Type}

/-- What is behind the look for room. -/
def tail308 : ACode := match code308.body with
  | .seq _ (.seq _ (.seq _ (.seq _ (.seq _ c)))) => c
  | _ => .skip

theorem tail308_run {p q b0 n sz : Nat} (hsz : sz ≤ 2 + n) {S : HS} {cls : Int} {t : List UInt8} (H : HRep O b0 p S) (hq : O[q]? = some (.cells 3 [.int .i64 cls, .str t, .slice none 0 (some 0)])) (hqk : q ≠ p ∧ q ≠ S.m ∧ ∀ e ∈ S.ents, q ≠ e.q ∧ q ≠ e.r) (hbq0 : b0 ≤ q) (hb : b ≤ b0)
    (hn : n ≤ 1000000) (hu : 0 ≤ S.used ∧ S.used ≤ 1000000000000000) (hl : 0 ≤ S.last ∧ S.last ≤ 1000000000000000) (h0 : Heap) :
    ∃ w', w' ≤ p ∧ min w b0 ≤ w' ∧ xK T tail308 ⟨[(0, .val (.ptr (some (p, 0)))), (1, .val (.ptr (some (q, 0)))), (2, .val (.int .i64 (n : Nat))), (10, .val (.int .i64 (sz : Nat)))], ⟨O, b, w⟩⟩ (k := ⟨retK code308 h0⟩) =
      some (finish h0 (.tuple [.int .i64 (S.last + 1), .int .i64 0]) ⟨MO O p q S.m (.cells 4 [.int .i64 S.bound, .int .i64 (S.used + (sz : Nat)), .int .i64 (S.last + 1), .map (some S.m)]) (.cells 3 [.int .i64 cls, .str t, .slice (some (O.length, 0)) n (some n)]) (.map (S.ents.map Ent.kv ++ [(.int .i64 (S.last + 1), .ptr (some (q, 0)), S.clock)]) (S.clock + 1)) (.cells 2 (rowC (cells0 t n))), b, w'⟩) := by
  have hbq : b ≤ q := Nat.le_trans hb hbq0
  have hbp0 := H.low _ (.inl rfl)
  have hbm0 := H.low _ (.inr (.inl rfl))
  have hp := lt_of_get H.head
  have hm := lt_of_get H.map
  have hql := lt_of_get hq
  obtain ⟨k1, k2, k3⟩ := hqk
  have hpm := HRep.pm H
  have hok : MOk O p q S.m := ⟨hp, hql, hm, k1.symm, hpm, k2⟩
  have hhd := H.head
  have hmp := H.map
  simp only [HS.head] at hhd
  simp only [HS.map] at hmp
  have hbp : b ≤ p := Nat.le_trans hb (H.low _ (.inl rfl))
  have hbm : b ≤ S.m := Nat.le_trans hb (H.low _ (.inr (.inl rfl)))
  have hmo := fun X => MO_new hhd hq hmp X
  have hfl := find_none (find_last H)
  have h1 : ((n : Int) * 16 ≤ 140737488355328) := by omega
  have h2 : ((n : Int) ≤ 9223372036854775807) := by omega
  have hz : (List.replicate n [AVal.int .i64 0, AVal.bool false]).flatten = rowC (List.replicate n ⟨0, false⟩) := (rowC_rep n ⟨0, false⟩).symm
  by_cases hr : refT t = true
  · obtain ⟨⟨c1, c2⟩, c3⟩ : (¬ t = [] ∧ ¬ t = [91, 73]) ∧ ¬ t = [91, 66] := by simpa [refT] using hr
    have hc0 : cells0 t n = List.replicate n ⟨0, true⟩ := by simp [cells0, hr]
    have hqr : q ≠ O.length := by omega
    let O2 := MO O p q S.m (.cells 4 [.int .i64 S.bound, .int .i64 S.used, .int .i64 S.last, .map (some S.m)]) (.cells 3 [.int .i64 cls, .str t, .slice (some (O.length, 0)) n (some n)]) (.map (S.ents.map Ent.kv) S.clock) (.cells 2 (rowC (List.replicate n ⟨0, false⟩)))
    obtain ⟨w1, j1, j2, j3⟩ := l308 (β := AExit × St) (b := b) (fun e st => some (e, st)) (P := .ptr (some (p, 0))) (N := .int .i64 (sz : Nat)) (c := .int .i64 cls) (t := .str t) hqr (by omega) (show n ≤ 1000000000000 by omega) n 0 (by omega) O2 (min w q) (MO_q hok) (by rw [show O2[O.length]? = _ from MO_r]; simp)
    have hl := fun (k : AExit → St → Option (AVal × Heap)) => xK_of (k := k) (xCode_of j1)
    simp only [O2, MO_set_r] at hl
    refine ⟨min (min (min w1 p) S.m) p, by omega, by omega, ?_⟩
    rw [hc0]
    simp only [Int.cast_ofNat_Int] at hl
    generalize hLL : ACode.loop code308L0 = LL at hl
    simp (disch := omega) [-getElem?_pos, -getElem?_neg, -finish, tail308, code308, h1, h2, hz, hmo, MO_p hok, MO_m hok, MO_q hok, MO_r, MO_set_p hok, MO_set_m hok, MO_set_q hok, MO_set_r, MO_len, hbp, hbm, hbq, isKey, CK.is, hfl, wrapI, c1, c2, c3, hLL, hl]
  · refine ⟨min (min (min (min w q) p) S.m) p, by omega, by omega, ?_⟩
    have hc0 : cells0 t n = List.replicate n ⟨0, false⟩ := by simp [cells0, Bool.eq_false_iff.2 hr]
    rw [hc0]
    rcases Decidable.em (t = []) with c1 | c1
    · simp (disch := omega) [-getElem?_pos, -getElem?_neg, -finish, tail308, code308, h1, h2, hz, hmo, MO_p hok, MO_m hok, MO_q hok, MO_r, MO_set_p hok, MO_set_m hok, MO_set_q hok, MO_set_r, MO_len, hbp, hbm, hbq, isKey, CK.is, hfl, wrapI, c1]
    · rcases Decidable.em (t = [91, 73]) with c2 | c2
      · simp (disch := omega) [-getElem?_pos, -getElem?_neg, -finish, tail308, code308, h1, h2, hz, hmo, MO_p hok, MO_m hok, MO_q hok, MO_r, MO_set_p hok, MO_set_m hok, MO_set_q hok, MO_set_r, MO_len, hbp, hbm, hbq, isKey, CK.is, hfl, wrapI, c2]
      · have c3 : t = [91, 66] := by simpa [refT, c1, c2] using hr
        simp (disch := omega) [-getElem?_pos, -getElem?_neg, -finish, tail308, code308, h1, h2, hz, hmo, MO_p hok, MO_m hok, MO_q hok, MO_r, MO_set_p hok, MO_set_m hok, MO_set_q hok, MO_set_r, MO_len, hbp, hbm, hbq, isKey, CK.is, hfl, wrapI, c3]
end Go.Abs.AbsHeap

/-
  Layer 27: put, Object, Array.
-/
namespace Go.Abs.AbsHeap
set_option maxRecDepth 100000
set_option linter.unusedSimpArgs false
variable {O os : List AObj} {b w : Nat} {β : Type}

def pa308 : ACode := match code308.body with | .seq a _ => a | _ => .skip
def pb308 : ACode := match code308.body with | .seq _ (.seq a _) => a | _ => .skip
def pc308 : ACode := match code308.body with | .seq _ (.seq _ (.seq a _)) => a | _ => .skip
def pd308 : ACode := match code308.body with | .seq _ (.seq _ (.seq _ (.seq a _))) => a | _ => .skip
def pe308 : ACode := match code308.body with | .seq _ (.seq _ (.seq _ (.seq _ (.seq a _)))) => a | _ => .skip
theorem body308 : code308.body = .seq pa308 (.seq pb308 (.seq pc308 (.seq pd308 (.seq pe308 tail308)))) := rfl

theorem live_le {b0 p : Nat} {S : HS} (H : HRep O b0 p S) (seen : List Int) : liveN S seen ≤ S.ents.length * 1000002 := by
  unfold liveN
  refine Nat.le_trans (sum_le _ 1000002 fun x hx => ?_) ?_
  · rw [List.mem_map] at hx
    obtain ⟨e, he, rfl⟩ := hx
    have h3 := H.small e (List.mem_filter.1 he).1
    have := sizeN_le e.o.typ e.o.cells.length
    unfold Ent.size; omega
  · rw [List.length_map]
    exact Nat.mul_le_mul_right _ (List.length_filter_le _ _)

/-- Numbers that are not too great. -/
structure HS.Ok (S : HS) : Prop where
  len : S.ents.length ≤ 1000000
  used0 : 0 ≤ S.used
  used : S.used ≤ S.ents.length * 1000002
  b1 : -9223372036854775808 + S.ents.length * 1000002 ≤ S.bound
  b2 : S.bound ≤ 100000
  l0 : 0 ≤ S.last
  l1 : S.last ≤ 1000000

theorem size_n {t : List UInt8} {n : Nat} (h : sizeN t n ≤ 100000) : n ≤ 1000000 := by
  unfold sizeN at h; split at h <;> omega

theorem Upd_add {p q m : Nat} {A Q M X : AObj} {S : HS} (hm : m = S.m) {cls : Int} {t : List UInt8} {n : Nat} : Upd O (MO O p q m A Q M X) (fun i => S.fp p i ∨ i = q) ((S.add q O.length cls t n).fp p) := by
  subst hm
  refine ⟨by rw [MO_len]; omega, fun i hi hn => MO_old hi (fun h => hn (.inl (.inl h))) (fun h => hn (.inr h)) (fun h => hn (.inl (.inr (.inl h)))), fun i hi => ?_⟩
  rcases hi with h | h | ⟨e, he, h⟩
  · exact .inl (.inl (.inl h))
  · exact .inl (.inl (.inr (.inl h)))
  · simp only [HS.add, List.mem_append, List.mem_singleton] at he
    rcases he with he | rfl
    · exact .inl (.inl (.inr (.inr ⟨e, he, h⟩)))
    · rcases h with h | h
      · exact .inl (.inr h)
      · exact .inr (by rw [h]; exact Nat.le_refl _)

theorem Upd.weaken {os os' : List AObj} {P P' R : Nat → Prop} (h : Upd os os' P P') (hr : ∀ i, P i → R i) : Upd os os' R P' :=
  ⟨h.len, fun i hi hn => h.same i hi fun hp => hn (hr i hp), fun i hi => by rcases h.fp i hi with h | h; exact .inl (hr i h); exact .inr h⟩

theorem Upd.plus {os os' : List AObj} {P P' : Nat → Prop} (h : Upd os os' P P') (R : Nat → Prop) : Upd os os' (fun i => P i ∨ R i) (fun i => P' i ∨ R i) :=
  ⟨h.len, fun i hi hn => h.same i hi fun hp => hn (.inl hp), fun i hi => by
    rcases hi with hi | hi
    · rcases h.fp i hi with h | h
      · exact .inl (.inl h)
      · exact .inr h
    · exact .inl (.inr hi)⟩

theorem s308 {p q b0 : Nat} {S : HS} {cls : Int} {t : List UInt8} (H : HRep O b0 p S) (hS : S.Ok) (hq : O[q]? = some (.cells 3 [.int .i64 cls, .str t, .slice none 0 (some 0)])) (hqk : q ≠ p ∧ q ≠ S.m ∧ ∀ e ∈ S.ents, q ≠ e.q ∧ q ≠ e.r) (hbq : b0 ≤ q) (hb : b ≤ b0)
    {roots : List V} {a : Option (Nat × Nat)} {c : Option Nat} (hR : Row O 2 V.cs roots a) (hrn : roots.length ≤ 1000000000000) (n : Int) (hn0 : 0 ≤ n) :
    ∃ S' num code os', MkRel S roots cls t n num code S' ∧ HRep os' b0 p S' ∧ Upd O os' (fun i => S.fp p i ∨ i = q) (S'.fp p) ∧
      ∀ w, ∃ w', (os' = O ∧ S' = S ∧ w' = w ∨ w' ≤ p) ∧ min w b0 ≤ w' ∧ xCall T 308 [.ptr (some (p, 0)), .ptr (some (q, 0)), .int .i64 n, .slice a roots.length c] ⟨O, b, w⟩ = some (.tuple [.int .i64 num, .int .i64 code], ⟨os', b, w'⟩) := by
  have hbp0 := H.low _ (.inl rfl)
  have hp := lt_of_get H.head
  have hm := lt_of_get H.map
  have hql := lt_of_get hq
  have hhd := H.head
  simp only [HS.head] at hhd
  obtain ⟨i1, i2, i3, i4, i5, i6, i7⟩ := hS
  by_cases hbig : 1099511627776 < n
  · refine ⟨S, 0, 10, O, .big hbig, H, ⟨Nat.le_refl _, fun _ _ _ => rfl, fun _ h => .inl (.inl h)⟩, fun w => ⟨w, .inl ⟨rfl, rfl, rfl⟩, Nat.min_le_left _ _, ?_⟩⟩
    simp (disch := omega) [-getElem?_pos, -getElem?_neg, xCallK t308, code308, iltT, hbig]
  obtain ⟨nn, rfl⟩ : ∃ nn : Nat, n = nn := ⟨n.toNat, by omega⟩
  have hsz := sizeN_le t nn
  have h311 := fun os w => s311 (os := os) (b := b) (w := w) (t := t) (n := nn) (by omega)
  by_cases hfit : (sizeN t nn : Nat) ≤ S.bound - S.used
  · have hnn : nn ≤ 1000000 := size_n (t := t) (by omega)
    obtain ⟨w', k1, k3, k2⟩ := tail308_run (b := b) (w := O.length) hsz H hq hqk hbq hb hnn ⟨i2, by omega⟩ ⟨i6, by omega⟩ ⟨O, b, 0⟩
    refine ⟨_, S.last + 1, 0, _, .made1 (q := q) (r := O.length) (by omega) (by rw [Int.toNat_natCast]; omega), HRep.add H hq hqk hbq hnn _ rfl, Upd_add rfl, fun w => ?_⟩
    obtain ⟨w', k1, k3, k2⟩ := tail308_run (b := b) (w := O.length) hsz H hq hqk hbq hb hnn ⟨i2, by omega⟩ ⟨i6, by omega⟩ ⟨O, b, w⟩
    refine ⟨min w w', .inr (by omega), by omega, ?_⟩
    rw [finish_low (by show w' < O.length; omega)] at k2
    rw [xCallK t308, body308]
    simp (disch := omega) [-getElem?_pos, -getElem?_neg, -finish, pa308, pb308, pc308, pd308, pe308, code308, iltF, hhd, hq, h311, wrapI, k2]
  · obtain ⟨seen, O1, hg, H1, hU, h292⟩ := s292 H (c := c) hR hrn hb (by omega) i1
    have hll := live_le H seen
    have hlle : (liveN S seen : Int) ≤ S.ents.length * 1000002 := by omega
    have hq1 : O1[q]? = some (.cells 3 [.int .i64 cls, .str t, .slice none 0 (some 0)]) := by
      rw [hU.same q hql fun hf => ?_, hq]
      rcases hf with h | h | ⟨e, he, h⟩
      · exact hqk.1 h
      · exact hqk.2.1 h
      · have := hqk.2.2 e he; rcases h with h | h
        · exact this.1 h
        · exact this.2 h
    have hhd1 := H1.head
    simp only [HS.head, HS.coll] at hhd1
    have hp1 := lt_of_get hhd1
    by_cases hfit2 : (sizeN t nn : Nat) ≤ S.bound - (liveN S seen : Nat)
    · have hnn : nn ≤ 1000000 := size_n (t := t) (by omega)
      have hqk1 : q ≠ p ∧ q ≠ (S.coll seen).m ∧ ∀ e ∈ (S.coll seen).ents, q ≠ e.q ∧ q ≠ e.r := ⟨hqk.1, hqk.2.1, fun e he => hqk.2.2 e (List.mem_filter.1 he).1⟩
      refine ⟨_, S.last + 1, 0, _, .made2 (q := q) (r := O1.length) (by omega) (by rw [Int.toNat_natCast]; omega) hg (by rw [Int.toNat_natCast]; omega), HRep.add H1 hq1 hqk1 hbq hnn _ rfl, (hU.plus fun i => i = q).trans (Upd_add rfl), fun w => ?_⟩
      · obtain ⟨w1, hw1, hw2, k0⟩ := h292 O.length
        obtain ⟨w', k1, k3, k2⟩ := tail308_run (b := b) (w := w1) hsz H1 hq1 hqk1 hbq hb hnn ⟨show (0 : Int) ≤ (liveN S seen : Nat) by omega, show ((liveN S seen : Nat) : Int) ≤ 1000000000000000 by omega⟩ ⟨i6, show S.last ≤ 1000000000000000 by omega⟩ ⟨O, b, w⟩
        refine ⟨min w w', .inr (by omega), by omega, ?_⟩
        rw [finish_low (by show w' < O.length; omega)] at k2
        simp only [HS.coll] at k2
        rw [xCallK t308, body308]
        simp (disch := omega) [-getElem?_pos, -getElem?_neg, -finish, pa308, pb308, pc308, pd308, pe308, code308, iltF, iltT, hhd, hhd1, hq, h311, wrapI, k0, k2, HS.coll]
    · refine ⟨_, 0, 10, O1, .full (by omega) (by rw [Int.toNat_natCast]; omega) hg (by rw [Int.toNat_natCast]; omega), H1, hU.weaken fun i h => .inl h, fun w => ?_⟩
      obtain ⟨w1, hw1, hw2, k0⟩ := h292 O.length
      refine ⟨min w w1, .inr (by omega), by omega, ?_⟩
      have hlt : w1 < O.length := by omega
      rw [xCallK t308, body308]
      simp (disch := omega) [-getElem?_pos, -getElem?_neg, pa308, pb308, pc308, pd308, pe308, code308, iltF, iltT, hhd, hhd1, hq, h311, wrapI, k0, hlt]
end Go.Abs.AbsHeap

/-
  Layer 27: Object, Array; a heap that is not there.
-/
namespace Go.Abs.AbsHeap
set_option maxRecDepth 100000
set_option linter.unusedSimpArgs false
variable {O os : List AObj} {b w : Nat} {β : Type}

def begins (c : UInt8) : List UInt8 → Bool
  | [] => false
  | x :: _ => decide (x = c)

theorem s140 {s : List UInt8} {c : UInt8} : xCall T 140 [.str s, .str [c]] ⟨os, b, w⟩ = some (.bool (begins c s), ⟨os, b, w⟩) := by
  cases s with
  | nil => simp [xCallK t140, code140, begins]
  | cons x r =>
    have h1 : (1 : Int) ≤ (r.length : Int) + 1 := by omega
    simp [xCallK t140, code140, begins, h1]

theorem s88 {s : List UInt8} {c : UInt8} : xCall T 88 [.str s, .str [c]] ⟨os, b, w⟩ = some (.bool (begins c s), ⟨os, b, w⟩) := by
  have h := s140 (os := os) (b := b) (w := os.length) (s := s) (c := c)
  simp [xCallK t88, code88, h]

/-- What making comes to, with numbers below 0, too. -/
def MkRes (S : HS) (roots : List V) (cls : Int) (t : List UInt8) (n num code : Int) (S' : HS) : Prop :=
  n < 0 ∧ num = 0 ∧ code = 1 ∧ S' = S ∨ 0 ≤ n ∧ MkRel S roots cls t n num code S'

section
variable {p b0 : Nat} {S : HS} (H : HRep os b0 p S)
include H

/-- A new object, and what is made with it. -/
theorem made_new (hS : S.Ok) (hb : b ≤ b0) {cls : Int} {t : List UInt8} {roots : List V} {a : Option (Nat × Nat)} {c : Option Nat} (hR : Row os 2 V.cs roots a) (hrn : roots.length ≤ 1000000000000) (n : Int) (hn0 : 0 ≤ n) :
    ∃ S' num code os', MkRel S roots cls t n num code S' ∧ HRep os' b0 p S' ∧ Upd os os' (S.fp p) (S'.fp p) ∧
      ∀ w, ∃ w' os2 w2, min w b0 ≤ w' ∧ xCall T 308 [.ptr (some (p, 0)), .ptr (some (os.length, 0)), .int .i64 n, .slice a roots.length c] ⟨os ++ [.cells 3 [.int .i64 cls, .str t, .slice none 0 (some 0)]], b, os.length⟩ = some (.tuple [.int .i64 num, .int .i64 code], ⟨os2, b, w2⟩) ∧
        finish ⟨os, b, w⟩ (.tuple [.int .i64 num, .int .i64 code]) ⟨os2, b, w2⟩ = (.tuple [.int .i64 num, .int .i64 code], ⟨os', b, w'⟩) := by
  have hp := lt_of_get H.head
  have hm := lt_of_get H.map
  have hbp := H.low p (.inl rfl)
  have hlt : ∀ e ∈ S.ents, e.q < os.length ∧ e.r < os.length := fun e he => ⟨lt_of_get (H.ob e he), lt_of_get (H.row e he)⟩
  obtain ⟨S', num, code, os', h1, h2, h3, h4⟩ := s308 (b := b) (c := c) (H.app [.cells 3 [.int .i64 cls, .str t, .slice none 0 (some 0)]]) hS (q := os.length) (cls := cls) (t := t) (by simp)
    ⟨by omega, by omega, fun e he => by have := hlt e he; omega⟩ (by omega) hb (hR.ext _) hrn n hn0
  obtain ⟨w2, h5, hw2, h6⟩ := h4 os.length
  rcases h5 with ⟨h7, h8, h9⟩ | h5
  · subst h8
    refine ⟨S', num, code, os, h1, H, Upd.refl _ _, fun w => ⟨w, os', w2, Nat.min_le_left _ _, h6, ?_⟩⟩
    rw [h9]
    simp [finish]
  · refine ⟨S', num, code, os', h1, h2, ?_, fun w => ⟨min w w2, os', w2, by omega, h6, ?_⟩⟩
    · refine ⟨by have := h3.len; simp at this; omega, fun i hi hn => ?_, fun i hi => ?_⟩
      · rw [h3.same i (by simp; omega) (fun h => by rcases h with h | h; exact hn h; omega), List.getElem?_append_left hi]
      · rcases h3.fp i hi with (h | h) | h
        · exact .inl h
        · exact .inr (by omega)
        · exact .inr (by simp at h; omega)
    · rw [finish_low (by show w2 < os.length; omega)]

theorem s297 (hS : S.Ok) (hb : b ≤ b0) {cls : Int} {roots : List V} {a : Option (Nat × Nat)} {c : Option Nat} (hR : Row os 2 V.cs roots a) (hrn : roots.length ≤ 1000000000000) (n : Int) :
    ∃ S' num code os', MkRes S roots cls [] n num code S' ∧ HRep os' b0 p S' ∧ Upd os os' (S.fp p) (S'.fp p) ∧
      ∀ w, ∃ w', min w b0 ≤ w' ∧ xCall T 297 [.ptr (some (p, 0)), .int .i64 cls, .int .i64 n, .slice a roots.length c] ⟨os, b, w⟩ = some (.tuple [.int .i64 num, .int .i64 code], ⟨os', b, w'⟩) := by
  by_cases hn : n < 0
  · refine ⟨S, 0, 1, os, .inl ⟨hn, rfl, rfl, rfl⟩, H, Upd.refl _ _, fun w => ⟨w, Nat.min_le_left _ _, ?_⟩⟩
    simp (disch := omega) [-getElem?_pos, -getElem?_neg, xCallK t297, code297, iltT]
  · obtain ⟨S', num, code, os', h1, h2, h3, h4⟩ := made_new H hS hb (cls := cls) (t := []) (c := c) hR hrn n (by omega)
    refine ⟨S', num, code, os', .inr ⟨by omega, h1⟩, h2, h3, fun w => ?_⟩
    obtain ⟨w', os2, w2, hw, h5, h6⟩ := h4 w
    refine ⟨w', hw, ?_⟩
    simp (disch := omega) [-getElem?_pos, -getElem?_neg, -finish, xCallK t297, code297, iltF, h5, h6]

theorem s305 (hS : S.Ok) (hb : b ≤ b0) {t : List UInt8} {roots : List V} {a : Option (Nat × Nat)} {c : Option Nat} (hR : Row os 2 V.cs roots a) (hrn : roots.length ≤ 1000000000000) (n : Int) (ht : begins 91 t = true) :
    ∃ S' num code os', MkRes S roots (-1) t n num code S' ∧ HRep os' b0 p S' ∧ Upd os os' (S.fp p) (S'.fp p) ∧
      ∀ w, ∃ w', min w b0 ≤ w' ∧ xCall T 305 [.ptr (some (p, 0)), .str t, .int .i64 n, .slice a roots.length c] ⟨os, b, w⟩ = some (.tuple [.int .i64 num, .int .i64 code], ⟨os', b, w'⟩) := by
  have h88 := fun w => s88 (os := os) (b := b) (w := w) (s := t) (c := 91)
  by_cases hn : n < 0
  · refine ⟨S, 0, 1, os, .inl ⟨hn, rfl, rfl, rfl⟩, H, Upd.refl _ _, fun w => ⟨w, Nat.min_le_left _ _, ?_⟩⟩
    simp (disch := omega) [-getElem?_pos, -getElem?_neg, xCallK t305, code305, iltT]
  · obtain ⟨S', num, code, os', h1, h2, h3, h4⟩ := made_new H hS hb (cls := -1) (t := t) (c := c) hR hrn n (by omega)
    refine ⟨S', num, code, os', .inr ⟨by omega, h1⟩, h2, h3, fun w => ?_⟩
    obtain ⟨w', os2, w2, hw, h5, h6⟩ := h4 w
    refine ⟨w', hw, ?_⟩
    simp (disch := omega) [-getElem?_pos, -getElem?_neg, -finish, xCallK t305, code305, iltF, h88, ht, h5, h6]

end

theorem s305x {t : List UInt8} {p x : AVal} (n : Int) (ht : n < 0 ∨ begins 91 t = false) : xCall T 305 [p, .str t, .int .i64 n, x] ⟨os, b, w⟩ = some (.tuple [.int .i64 0, .int .i64 1], ⟨os, b, w⟩) := by
  have h88 := fun w => s88 (os := os) (b := b) (w := w) (s := t) (c := 91)
  by_cases hn : n < 0
  · simp (disch := omega) [-getElem?_pos, -getElem?_neg, xCallK t305, code305, iltT]
  · have ht : begins 91 t = false := by rcases ht with h | h; exact absurd h hn; exact h
    simp (disch := omega) [-getElem?_pos, -getElem?_neg, xCallK t305, code305, iltF, h88, ht]

/-! ## No heap -/

theorem n292 (h : Heap) (v : AVal) : xCall T 292 [.ptr none, v] h = some (.int .i64 0, h) := by
  refine xCallW t292 rfl (Wp_seqx ?_)
  simp
  refine Wp_seqx ?_
  simp [code292]

theorem n297 : xCall T 297 [.ptr none, .int .i64 0, .int .i64 0, .slice none 0 (some 0)] ⟨os, b, w⟩ = some (.tuple [.int .i64 0, .int .i64 10], ⟨os, b, w⟩) := by
  have h308 : ∀ w, xCall T 308 [.ptr none, .ptr (some (os.length, 0)), .int .i64 0, .slice none 0 (some 0)] ⟨os ++ [.cells 3 [.int .i64 0, .str [], .slice none 0 (some 0)]], b, w⟩ = some (.tuple [.int .i64 0, .int .i64 10], ⟨os ++ [.cells 3 [.int .i64 0, .str [], .slice none 0 (some 0)]], b, w⟩) := fun w => by
    simp (disch := omega) [-getElem?_pos, -getElem?_neg, xCallK t308, code308]
  simp (disch := omega) [-getElem?_pos, -getElem?_neg, xCallK t297, code297, h308]

theorem n304 (n i : Int) : xCall T 304 [.ptr none, .int .i64 n, .int .i64 i] ⟨os, b, w⟩ = some (.tuple [.agg [.int .i64 0, .bool false], .int .i64 11], ⟨os, b, w⟩) := by
  have h315 : ∀ w, xCall T 315 [.ptr none, .int .i64 n] ⟨os, b, w⟩ = some (.tuple [.ptr none, .int .i64 11], ⟨os, b, w⟩) := fun w => by
    simp (disch := omega) [-getElem?_pos, -getElem?_neg, xCallK t315, code315]
  have h313 : ∀ w, xCall T 313 [.ptr none, .int .i64 n, .int .i64 i] ⟨os, b, w⟩ = some (.tuple [.ptr none, .ptr none, .int .i64 11], ⟨os, b, w⟩) := fun w => by
    simp (disch := omega) [-getElem?_pos, -getElem?_neg, xCallK t313, code313, h315]
  simp (disch := omega) [-getElem?_pos, -getElem?_neg, xCallK t304, code304, h313]

theorem s299 (h : Heap) : xCall T 299 [] h = some (.bool true, h) :=
  closed_run (f := code299) t299 rfl 60 rfl rfl (h' := ⟨[], 0, 0⟩) (by kernel_rfl) h

end Go.Abs.AbsHeap

/-
  Layer 27: what isn't there.
-/
namespace Go.Abs.AbsHeap
set_option maxRecDepth 100000
set_option linter.unusedSimpArgs false
variable {O os : List AObj} {b w : Nat} {β : Type}

theorem live_le' {b0 p : Nat} {S : HS} (H : HRep O b0 p S) (seen : List Int) : liveN S seen ≤ (S.ents.filter fun e => seen.contains e.n).length * 1000002 := by
  unfold liveN
  refine Nat.le_trans (sum_le _ 1000002 fun x hx => ?_) (by rw [List.length_map]; exact Nat.le_refl _)
  rw [List.mem_map] at hx
  obtain ⟨e, he, rfl⟩ := hx
  have h3 := H.small e (List.mem_filter.1 he).1
  have := sizeN_le e.o.typ e.o.cells.length
  unfold Ent.size; omega

structure HS.OkN (S : HS) (k : Nat) : Prop where
  len : S.ents.length ≤ k
  used0 : 0 ≤ S.used
  used : S.used ≤ S.ents.length * 1000002
  b1 : -9223372036854775808 + S.ents.length * 1000002 ≤ S.bound
  b2 : S.bound ≤ 100000
  l0 : 0 ≤ S.last
  l1 : S.last ≤ k

theorem HS.OkN.ok {S : HS} {k : Nat} (h : S.OkN k) (hk : k ≤ 1000000) : S.Ok :=
  ⟨by have := h.len; omega, h.used0, h.used, h.b1, h.b2, h.l0, by have := h.l1; omega⟩

theorem HS.OkN.coll {S : HS} {k b0 p : Nat} (h : S.OkN k) (H : HRep O b0 p S) (seen : List Int) : (S.coll seen).OkN k := by
  have h1 := live_le' H seen
  have h2 : (S.ents.filter fun e => seen.contains e.n).length ≤ S.ents.length := List.length_filter_le _ _
  obtain ⟨i1, i2, i3, i4, i5, i6, i7⟩ := h
  refine ⟨Nat.le_trans h2 i1, ?_, ?_, ?_, i5, i6, i7⟩
  · show (0 : Int) ≤ (liveN S seen : Nat); omega
  · show ((liveN S seen : Nat) : Int) ≤ ((S.ents.filter fun e => seen.contains e.n).length : Nat) * 1000002; omega
  · show -9223372036854775808 + ((S.ents.filter fun e => seen.contains e.n).length : Nat) * (1000002 : Int) ≤ S.bound; omega

theorem HS.OkN.add {S : HS} {k q r n : Nat} {cls : Int} {t : List UInt8} (h : S.OkN k) (hk : k ≤ 1000000) (hn : (sizeN t n : Nat) ≤ S.bound - S.used) : (S.add q r cls t n).OkN (k + 1) := by
  obtain ⟨i1, i2, i3, i4, i5, i6, i7⟩ := h
  have e : (S.add q r cls t n).ents.length = S.ents.length + 1 := by simp [HS.add]
  refine ⟨by omega, ?_, ?_, ?_, i5, ?_, ?_⟩
  · show (0 : Int) ≤ S.used + (sizeN t n : Nat); omega
  · rw [e]; simp only [HS.add]; omega
  · rw [e]; simp only [HS.add]; omega
  · show 0 ≤ S.last + 1; omega
  · show S.last + 1 ≤ ((k + 1 : Nat) : Int); omega

theorem HS.OkN.mono {S : HS} {k m : Nat} (h : S.OkN k) (hm : k ≤ m) : S.OkN m :=
  ⟨by have := h.len; omega, h.used0, h.used, h.b1, h.b2, h.l0, by have := h.l1; omega⟩

theorem MkRel.okN {S S' : HS} {roots : List V} {cls n num code : Int} {t : List UInt8} {k b0 p : Nat} (h : MkRel S roots cls t n num code S') (H : HRep O b0 p S) (hS : S.OkN k) (hk : k ≤ 1000000) : S'.OkN (k + 1) := by
  cases h with
  | big _ => exact hS.mono (by omega)
  | full _ _ _ _ => exact (hS.coll H _).mono (by omega)
  | made1 _ h2 => exact hS.add hk h2
  | made2 _ _ _ h4 => exact (hS.coll H _).add hk h4

theorem MkRes.okN {S S' : HS} {roots : List V} {cls n num code : Int} {t : List UInt8} {k b0 p : Nat} (h : MkRes S roots cls t n num code S') (H : HRep O b0 p S) (hS : S.OkN k) (hk : k ≤ 1000000) : S'.OkN (k + 1) := by
  rcases h with ⟨_, _, _, rfl⟩ | ⟨_, h⟩
  · exact hS.mono (by omega)
  · exact h.okN H hS hk

theorem u8_eq (x : UInt8) (n : Nat) (hn : n < 256) : ((x.toNat : Int) = (n : Int)) = (x = UInt8.ofNat n) := by
  apply propext
  constructor
  · intro h
    apply UInt8.toNat_inj.1
    have e : (UInt8.ofNat n).toNat = n := by simp; omega
    omega
  · intro h
    subst h
    have e : (UInt8.ofNat n).toNat = n := by simp; omega
    omega

theorem nil_row (O : List AObj) : Row O 2 V.cs [] none := ⟨fun h => absurd rfl h⟩

set_option maxHeartbeats 2000000 in
theorem s307 {bound cells at' i : Int} {v : V} {typ : List UInt8} (hb : b ≤ os.length) (hbd : -9223372036854775808 ≤ bound) (ht : typ.length ≤ 9223372036854775807) :
    xCall T 307 [.int .i64 bound, .int .i64 cells, .int .i64 at', .int .i64 i, .agg v.cs, .str typ] ⟨os, b, w⟩ = some (.bool true, ⟨os, b, w⟩) := by
  by_cases g1 : 100 < (typ.length : Int)
  · simp (disch := omega) [-getElem?_pos, -getElem?_neg, xCallK t307, code307, s299, iltT, V.cs]
  by_cases g2 : 100000 < cells ∧ cells < 2199023255552
  · simp (disch := omega) [-getElem?_pos, -getElem?_neg, xCallK t307, code307, s299, iltT, iltF, V.cs]
  obtain ⟨B, hB⟩ : ∃ B : Int, (if (200 : Int) < bound then 200 else bound) = B := ⟨_, rfl⟩
  have hB1 : -9223372036854775808 ≤ B ∧ B ≤ 200 := by rw [← hB]; split <;> omega
  have H0 : HRep (os ++ [.cells 4 [.int .i64 B, .int .i64 0, .int .i64 0, .map (some (os.length + 1))], .map [] 0]) os.length os.length (HS.new B (os.length + 1)) := by
    simpa using HRep.new (os := os) (b := os.length) (n := B) (Nat.le_refl _) []
  have h298 := fun w => s298 (os := os) (b := b) (w := w) B
  have hlen : (os ++ [AObj.cells 4 [.int .i64 B, .int .i64 0, .int .i64 0, .map (some (os.length + 1))], .map [] 0]).length = os.length + 2 := by simp
  generalize os ++ [AObj.cells 4 [.int .i64 B, .int .i64 0, .int .i64 0, .map (some (os.length + 1))], .map [] 0] = O0 at H0 h298 hlen
  have hok0 : (HS.new B (os.length + 1)).OkN 0 := ⟨by simp [HS.new], by simp [HS.new], by simp [HS.new], by simp [HS.new]; omega, by simp [HS.new]; omega, by simp [HS.new], by simp [HS.new]⟩
  have hfn : ∀ n, (HS.new B (os.length + 1)).find n = none := fun n => rfl
  have h304 := fun w => s304 (b := b) (w := w) H0 at' i
  have h290 := fun w => s290 (b := b) (w := w) H0 at'
  have h306 := fun w => s306 (b := b) (w := w) H0 at'
  have h100295 := fun w => s100295 (b := b) (w := w) H0 at' i v hb
  simp only [hfn, getV, setE, setO, setW] at h304 h290 h306 h100295
  have H1 := H0.app [.cells 2 v.cs]
  have hR : Row (O0 ++ [.cells 2 v.cs]) 2 V.cs [v] (some (O0.length, 0)) := Row.mk0 (fun _ => rfl) (by simp)
  obtain ⟨S1, num, code, O1, hmk, H2, hU, hx⟩ := s297 (b := b) (c := some 1) (cls := 1) H1 (hok0.ok (by omega)) hb hR (by simp) cells
  obtain ⟨w1, hw1, hx1⟩ := hx os.length
  simp only [List.length_singleton] at hx1
  have hcode : code = if cells < 0 then 1 else if 300 < cells ∨ B < cells + 2 then 10 else 0 := by
    rcases hmk with ⟨h1, _, h2, _⟩ | ⟨h1, h2⟩
    · rw [if_pos h1, h2]
    · rw [if_neg (by omega)]
      have hs : sizeN [] cells.toNat = 2 + cells.toNat := by simp [sizeN]
      cases h2 with
      | big h3 => rw [if_pos (.inl (by omega))]
      | full h3 h4 _ _ => rw [hs] at h4; simp only [HS.new] at h4; rw [if_pos (.inr (by omega))]
      | made1 h3 h4 => rw [hs] at h4; simp only [HS.new] at h4; rw [if_neg (by omega)]
      | made2 h3 h4 _ h6 => rw [hs] at h4 h6; simp only [HS.new] at h4 h6; omega
  have hbl : min os.length os.length ≤ w1 := hw1
  have h303 := fun os w => s303n ⟨os, b, w⟩ (.slice none 0 (some 0))
  have h292 := fun os w => n292 ⟨os, b, w⟩ (.slice none 0 (some 0))
  have h297 := fun os w => n297 (os := os) (b := b) (w := w)
  have h304n := fun os w => n304 (os := os) (b := b) (w := w) at' i
  have e91 : ∀ x : UInt8, ((x.toNat : Int) = 91) = (x = 91) := fun x => u8_eq x 91 (by omega)
  simp only [V.cs] at h100295 hx1
  by_cases g3 : cells < 0 ∨ begins 91 typ = false
  · have h305 := fun os w p x => s305x (os := os) (b := b) (w := w) (t := typ) (p := p) (x := x) cells g3
    by_cases g4 : cells < 0
    · rw [if_pos g4] at hcode
      subst hcode
      simp (disch := omega) [-getElem?_pos, -getElem?_neg, xCallK t307, code307, s299, iltT, iltF, V.cs, hB, h298, h304, h290, h306, h100295, hx1, h305, h303, h292, h297, h304n, zeroV, wrapI, nltF]
    · rw [if_neg g4] at hcode
      have g5 : begins 91 typ = false := by rcases g3 with h | h; exact absurd h g4; exact h
      by_cases g6 : 300 < cells
      · rw [if_pos (.inl g6)] at hcode
        subst hcode
        cases typ with
        | nil => by_cases g9 : 100000 < cells <;> simp (disch := omega) [-getElem?_pos, -getElem?_neg, xCallK t307, code307, s299, iltT, iltF, V.cs, hB, h298, h304, h290, h306, h100295, hx1, h305, h303, h292, h297, h304n, zeroV, wrapI, nltF]
        | cons x r =>
          have g7 : ¬ x = 91 := by simpa [begins] using g5
          have g10 : (r.length : Int) + 1 ≤ 100 := by simp only [List.length_cons] at g1; omega
          have g11 : ¬ ((r.length : Int) + 1 = 0) := by omega
          by_cases g9 : 100000 < cells <;> simp (disch := omega) [-getElem?_pos, -getElem?_neg, xCallK t307, code307, s299, iltT, iltF, V.cs, hB, h298, h304, h290, h306, h100295, hx1, h305, h303, h292, h297, h304n, zeroV, wrapI, nltF, e91, g7, g11, List.getElem?_cons_zero]
      · by_cases g8 : B < cells + 2
        · rw [if_pos (.inr g8)] at hcode
          subst hcode
          cases typ with
          | nil => simp (disch := omega) [-getElem?_pos, -getElem?_neg, xCallK t307, code307, s299, iltT, iltF, V.cs, hB, h298, h304, h290, h306, h100295, hx1, h305, h303, h292, h297, h304n, zeroV, wrapI, nltF]
          | cons x r =>
            have g7 : ¬ x = 91 := by simpa [begins] using g5
            have g10 : (r.length : Int) + 1 ≤ 100 := by simp only [List.length_cons] at g1; omega
            have g11 : ¬ ((r.length : Int) + 1 = 0) := by omega
            simp (disch := omega) [-getElem?_pos, -getElem?_neg, xCallK t307, code307, s299, iltT, iltF, V.cs, hB, h298, h304, h290, h306, h100295, hx1, h305, h303, h292, h297, h304n, zeroV, wrapI, nltF, e91, g7, g11, List.getElem?_cons_zero]
        · rw [if_neg (by omega)] at hcode
          subst hcode
          cases typ with
          | nil => simp (disch := omega) [-getElem?_pos, -getElem?_neg, xCallK t307, code307, s299, iltT, iltF, V.cs, hB, h298, h304, h290, h306, h100295, hx1, h305, h303, h292, h297, h304n, zeroV, wrapI, nltF]
          | cons x r =>
            have g7 : ¬ x = 91 := by simpa [begins] using g5
            have g10 : (r.length : Int) + 1 ≤ 100 := by simp only [List.length_cons] at g1; omega
            have g11 : ¬ ((r.length : Int) + 1 = 0) := by omega
            simp (disch := omega) [-getElem?_pos, -getElem?_neg, xCallK t307, code307, s299, iltT, iltF, V.cs, hB, h298, h304, h290, h306, h100295, hx1, h305, h303, h292, h297, h304n, zeroV, wrapI, nltF, e91, g7, g11, List.getElem?_cons_zero]
  · have g4 : ¬ cells < 0 := fun h => g3 (.inl h)
    have g5 : begins 91 typ = true := by
      cases hbt : begins 91 typ with
      | true => rfl
      | false => exact absurd (.inr hbt) g3
    rw [if_neg g4] at hcode
    obtain ⟨S2, num2, code2, O2, hmk2, H3, hU2, hy⟩ := s305 (b := b) (c := some 0) (t := typ) H2 ((hmk.okN H1 hok0 (by omega)).ok (by omega)) hb (nil_row O1) (by simp) cells g5
    obtain ⟨w2, hw2, hx2⟩ := hy w1
    simp only [List.length_nil] at hx2
    have hc2 : code2 = 0 ∨ code2 = 10 := by
      rcases hmk2 with ⟨h1, _⟩ | ⟨_, h2⟩
      · exact absurd h1 g4
      · cases h2 with
        | big _ => exact .inr rfl
        | full _ _ _ _ => exact .inr rfl
        | made1 _ _ => exact .inl rfl
        | made2 _ _ _ _ => exact .inl rfl
    have hbl2 : os.length ≤ w2 := by omega
    cases typ with
    | nil => simp [begins] at g5
    | cons x r =>
      have g7' : x = 91 := by simpa [begins] using g5
      subst g7'
      have g7 : (91 : UInt8) = 91 := rfl
      have g10 : (r.length : Int) + 1 ≤ 100 := by simp only [List.length_cons] at g1; omega
      have g11 : ¬ ((r.length : Int) + 1 = 0) := by omega
      by_cases g6 : 300 < cells
      · rw [if_pos (.inl g6)] at hcode
        subst hcode
        rcases hc2 with rfl | rfl <;> by_cases g9 : 100000 < cells <;> simp (disch := omega) [-getElem?_pos, -getElem?_neg, xCallK t307, code307, s299, iltT, iltF, V.cs, hB, h298, h304, h290, h306, h100295, hx1, hx2, h303, h292, h297, h304n, zeroV, wrapI, nltF, e91, g7, g11, List.getElem?_cons_zero]
      · by_cases g8 : B < cells + 2
        · rw [if_pos (.inr g8)] at hcode
          subst hcode
          rcases hc2 with rfl | rfl <;> simp (disch := omega) [-getElem?_pos, -getElem?_neg, xCallK t307, code307, s299, iltT, iltF, V.cs, hB, h298, h304, h290, h306, h100295, hx1, hx2, h303, h292, h297, h304n, zeroV, wrapI, nltF, e91, g7, g11, List.getElem?_cons_zero]
        · rw [if_neg (by omega)] at hcode
          subst hcode
          rcases hc2 with rfl | rfl <;> simp (disch := omega) [-getElem?_pos, -getElem?_neg, xCallK t307, code307, s299, iltT, iltF, V.cs, hB, h298, h304, h290, h306, h100295, hx1, hx2, h303, h292, h297, h304n, zeroV, wrapI, nltF, e91, g7, g11, List.getElem?_cons_zero]

end Go.Abs.AbsHeap

/-
  Layer 27: the reference's heap: how it lies; its small functions.
-/
namespace Go.Abs.AbsHeap
set_option maxRecDepth 100000
set_option linter.unusedSimpArgs false
variable {O os : List AObj} {b w : Nat} {β : Type}

/-- An object of the reference's: where its cells lie. -/
structure REnt where
  r : Nat
  o : Ob

def REnt.cs (e : REnt) : List AVal := [.int .i64 e.o.cls, .str e.o.typ, .slice (some (e.r, 0)) e.o.cells.length (some e.o.cells.length)]
@[simp] theorem REnt.cs_len (e : REnt) : e.cs.length = 3 := rfl
def rowR (l : List REnt) : List AVal := l.flatMap REnt.cs
@[simp] theorem rowR_len (l : List REnt) : (rowR l).length = l.length * 3 := flat_len _ 3 (fun _ => rfl) l

/-- The reference's heap: its bound, the row of its objects. -/
structure RH where
  bound : Int
  row : Option Nat
  all : List REnt

def RH.sl (R : RH) : AVal := match R.row with
  | none => .slice none 0 (some 0)
  | some i => .slice (some (i, 0)) R.all.length none
def RH.look (R : RH) (n : Int) : Option Ob := if 1 ≤ n then (R.all[n.toNat - 1]?).map REnt.o else none
def RH.fp (R : RH) (p i : Nat) : Prop := i = p ∨ R.row = some i ∨ ∃ e ∈ R.all, i = e.r

structure RRep (os : List AObj) (b p : Nat) (R : RH) : Prop where
  head : os[p]? = some (.cells 2 [.int .i64 R.bound, R.sl])
  nor : R.row = none → R.all = []
  sor : ∀ i, R.row = some i → R.all ≠ []
  row : ∀ i, R.row = some i → os[i]? = some (.cells 3 (rowR R.all))
  cells : ∀ e ∈ R.all, os[e.r]? = some (.cells 2 (rowC e.o.cells))
  rd : (R.all.map REnt.r).Nodup
  low : ∀ i, R.fp p i → b ≤ i
  small : ∀ e ∈ R.all, e.o.cells.length ≤ 1000000
  len : R.all.length ≤ 1000000

theorem RRep.fp_lt {b0 p : Nat} {R : RH} (H : RRep os b0 p R) {i : Nat} (h : R.fp p i) : i < os.length := by
  rcases h with rfl | h | ⟨e, he, rfl⟩
  · exact lt_of_get H.head
  · exact lt_of_get (H.row i h)
  · exact lt_of_get (H.cells e he)

theorem RRep.frame {b0 p : Nat} {R : RH} {os' : List AObj} (H : RRep os b0 p R) (h : ∀ i, R.fp p i → os'[i]? = os[i]?) : RRep os' b0 p R where
  head := by rw [h _ (.inl rfl)]; exact H.head
  nor := H.nor
  sor := H.sor
  row := fun i hi => by rw [h _ (.inr (.inl hi))]; exact H.row i hi
  cells := fun e he => by rw [h _ (.inr (.inr ⟨e, he, rfl⟩))]; exact H.cells e he
  rd := H.rd
  low := H.low
  small := H.small
  len := H.len

theorem RRep.app {b0 p : Nat} {R : RH} (H : RRep os b0 p R) (zs : List AObj) : RRep (os ++ zs) b0 p R :=
  H.frame fun i hi => by rw [List.getElem?_append_left (H.fp_lt hi)]

theorem rowR_at {l : List REnt} {j : Nat} {e : REnt} (h : l[j]? = some e) : j * 3 + 3 ≤ l.length * 3 ∧ ((rowR l).drop (j * 3)).take 3 = e.cs := by
  have := flat_at REnt.cs 3 (fun _ => rfl) l j e h
  have e' := rowR_len l
  unfold rowR at e' ⊢
  rw [e'] at this
  exact this

theorem rowR_get {l : List REnt} {j : Nat} {e : REnt} (h : l[j]? = some e) : (rowR l)[j * 3]? = some (.int .i64 e.o.cls) ∧ (rowR l)[j * 3 + 1]? = some (.str e.o.typ) ∧ (rowR l)[j * 3 + 2]? = some (.slice (some (e.r, 0)) e.o.cells.length (some e.o.cells.length)) := by
  obtain ⟨_, h2⟩ := rowR_at h
  have hg : ∀ k, k < 3 → (rowR l)[j * 3 + k]? = e.cs[k]? := fun k hk => by
    rw [← h2, List.getElem?_take, if_pos hk, List.getElem?_drop]
  exact ⟨hg 0 (by omega), hg 1 (by omega), hg 2 (by omega)⟩

theorem s309 {t : List UInt8} {n : Nat} (hn : n ≤ 1099511627776) : xCall T 309 [.str t, .int .i64 (n : Nat)] ⟨os, b, w⟩ = some (.int .i64 (sizeN t n : Nat), ⟨os, b, w⟩) := by
  by_cases h : t = [91, 66]
  · have e : ((n : Int) + 7).tdiv 8 = ((n : Int) + 7) / 8 := by
      rw [Int.tdiv_eq_ediv_of_nonneg (by omega)]
    simp (disch := omega) [xCallK t309, code309, h, wrapI, sizeN, e]
  · simp (disch := omega) [xCallK t309, code309, h, wrapI, sizeN]

section
variable {p : Nat} {R : RH} {b0 : Nat} (H : RRep os b0 p R)
include H

theorem RRep.some_row {e : REnt} (he : e ∈ R.all) : ∃ i, R.row = some i := by
  cases h : R.row with
  | none => rw [H.nor h] at he; cases he
  | some i => exact ⟨i, rfl⟩

/-- An object, if there is one. -/
def RH.atV (R : RH) (n : Int) : AVal := if 1 ≤ n then match R.all[n.toNat - 1]? with
    | some e => .tuple [.agg e.cs, .bool true]
    | none => .tuple [.agg [.int .i64 0, .str [], .slice none 0 (some 0)], .bool false]
  else .tuple [.agg [.int .i64 0, .str [], .slice none 0 (some 0)], .bool false]

theorem s314 (n : Int) : xCall T 314 [.ptr (some (p, 0)), .int .i64 n] ⟨os, b, w⟩ = some (R.atV n, ⟨os, b, w⟩) := by
  have h1 := H.head
  have hlen := H.len
  by_cases hn : 1 ≤ n
  · by_cases hm : (R.all.length : Int) < n
    · have hnone : R.all[n.toNat - 1]? = none := List.getElem?_eq_none (by omega)
      have hv : R.atV n = .tuple [.agg [.int .i64 0, .str [], .slice none 0 (some 0)], .bool false] := by simp [RH.atV, hn, hnone]
      rw [hv]
      cases hr : R.row with
      | none =>
        have := H.nor hr
        have hl0 : R.all.length = 0 := by rw [this]; rfl
        have hpos : (0 : Int) < n := by omega
        simp only [RH.sl, hr] at h1
        simp (disch := omega) [-getElem?_pos, -getElem?_neg, xCallK t314, code314, iltF, iltT, h1, hpos]
      | some i =>
        simp only [RH.sl, hr] at h1
        simp (disch := omega) [-getElem?_pos, -getElem?_neg, xCallK t314, code314, iltF, iltT, h1]
    · obtain ⟨e, he⟩ : ∃ e, R.all[n.toNat - 1]? = some e := ⟨_, List.getElem?_eq_getElem (by omega)⟩
      have hem := List.mem_of_getElem? he
      obtain ⟨i, hr⟩ := RRep.some_row H hem
      have hv : R.atV n = .tuple [.agg e.cs, .bool true] := by simp [RH.atV, hn, he]
      rw [hv]
      have h2 := H.row i hr
      have hcr := lt_of_get (H.cells e hem)
      simp only [RH.sl, hr] at h1
      obtain ⟨k1, k2⟩ := rowR_at he
      have hii : ((n.toNat - 1 : Nat) : Int) = n - 1 := by omega
      have hlt : n - 1 < (R.all.length : Int) := by omega
      have hge : 0 ≤ n - 1 := by omega
      simp (disch := omega) [-getElem?_pos, -getElem?_neg, xCallK t314, code314, iltF, iltT, h1, h2, wrapI, hlt, hge, hn, k1, k2, REnt.cs, hcr]
  · have hv : R.atV n = .tuple [.agg [.int .i64 0, .str [], .slice none 0 (some 0)], .bool false] := by simp [RH.atV, hn]
    rw [hv]
    simp (disch := omega) [-getElem?_pos, -getElem?_neg, xCallK t314, code314, iltF, iltT, h1]

end
end Go.Abs.AbsHeap

/-
  Layer 27: the reference sets a cell.
-/
namespace Go.Abs.AbsHeap
set_option maxRecDepth 100000
set_option linter.unusedSimpArgs false
variable {O os : List AObj} {b w : Nat} {β : Type}

def RH.get (R : RH) (n : Int) : Option REnt := if 1 ≤ n then R.all[n.toNat - 1]? else none

def REnt.set (e : REnt) (j : Nat) (v : V) : REnt := { e with o := { e.o with cells := e.o.cells.set j (setV e.o.typ v) } }
@[simp] theorem REnt.set_r (e : REnt) (j : Nat) (v : V) : (e.set j v).r = e.r := rfl

def setRE (x : Option REnt) (i : Int) : Int := match x with
  | none => 11
  | some e => if i < 0 ∨ (e.o.cells.length : Int) ≤ i then 2 else 0

def RH.put (R : RH) (n i : Int) (v : V) : RH := if setRE (R.get n) i = 0 then { R with all := R.all.modify (n.toNat - 1) fun e => e.set i.toNat v } else R

def setRO (os : List AObj) (x : Option REnt) (i : Int) (v : V) : List AObj := match x with
  | none => os
  | some e => if i < 0 ∨ (e.o.cells.length : Int) ≤ i then os else os.set e.r (.cells 2 (rowC (e.set i.toNat v).o.cells))

def setRW (w : Nat) (x : Option REnt) (i : Int) : Nat := match x with
  | none => w
  | some e => if i < 0 ∨ (e.o.cells.length : Int) ≤ i then w else min w e.r

theorem RH.atV_get (R : RH) (n : Int) : R.atV n = match R.get n with
    | some e => .tuple [.agg e.cs, .bool true]
    | none => .tuple [.agg [.int .i64 0, .str [], .slice none 0 (some 0)], .bool false] := by
  unfold RH.atV RH.get
  split
  · cases R.all[n.toNat - 1]? <;> rfl
  · rfl

theorem RH.get_mem {R : RH} {n : Int} {e : REnt} (h : R.get n = some e) : e ∈ R.all ∧ 1 ≤ n ∧ R.all[n.toNat - 1]? = some e := by
  unfold RH.get at h
  split at h
  · rename_i h1; exact ⟨List.mem_of_getElem? h, h1, h⟩
  · cases h

section
variable {p : Nat} {R : RH} {b0 : Nat} (H : RRep os b0 p R)
include H

theorem s294 (n i : Int) (v : V) (hb : b ≤ b0) : xCall T 294 [.ptr (some (p, 0)), .int .i64 n, .int .i64 i, .agg v.cs] ⟨os, b, w⟩ = some (.int .i64 (setRE (R.get n) i), ⟨setRO os (R.get n) i v, b, setRW w (R.get n) i⟩) := by
  have h14 := fun w => s314 (b := b) (w := w) H n
  simp only [RH.atV_get] at h14
  cases hf : R.get n with
  | none =>
    simp only [hf] at h14
    simp [-getElem?_pos, -getElem?_neg, xCallK t294, code294, h14, setRE, setRO, setRW]
  | some e =>
    have hem := (RH.get_mem hf).1
    simp only [hf, REnt.cs] at h14
    have h3 := H.cells e hem
    have hr := lt_of_get h3
    by_cases hi : i < 0 ∨ (e.o.cells.length : Int) ≤ i
    · simp only [setRE, setRO, setRW, hi, if_true]
      rcases hi with hi | hi
      · simp (disch := omega) [-getElem?_pos, -getElem?_neg, xCallK t294, code294, h14, iltT]
      · have hi0 : ¬ i < 0 := by omega
        simp (disch := omega) [-getElem?_pos, -getElem?_neg, xCallK t294, code294, h14, hi0, hi]
    · obtain ⟨u, hu⟩ : ∃ v, e.o.cells[i.toNat]? = some v := ⟨_, List.getElem?_eq_getElem (by omega)⟩
      obtain ⟨h1, h2⟩ := cell_at hu
      have hbr : b ≤ e.r := Nat.le_trans hb (H.low _ (.inr (.inr ⟨e, hem, rfl⟩)))
      have hs := splice_flat (l := e.o.cells) (j := i.toNat) (by omega)
      have hj : i.toNat < e.o.cells.length := by omega
      have hi0 : ¬ i < 0 := by omega
      have hi1 : ¬ (e.o.cells.length : Int) ≤ i := by omega
      have hi2 : (0 : Int) ≤ i := by omega
      have hi3 : i < (e.o.cells.length : Int) := by omega
      simp only [setRE, setRO, setRW, hi, if_false, REnt.set]
      by_cases c1 : e.o.typ = [91, 66]
      · simp (disch := omega) [-getElem?_pos, -getElem?_neg, xCallK t294, code294, h14, h3, h1, c1, setV, V.cs, hbr, nltT, hi0, hi1, hi2, hi3, ← hs _]
      · by_cases c2 : e.o.typ = [91, 73]
        · simp (disch := omega) [-getElem?_pos, -getElem?_neg, xCallK t294, code294, h14, h3, h1, c2, setV, V.cs, hbr, nltT, hi0, hi1, hi2, hi3, ← hs _]
        · simp (disch := omega) [-getElem?_pos, -getElem?_neg, xCallK t294, code294, h14, h3, h1, c1, c2, setV, V.cs, hbr, nltT, hi0, hi1, hi2, hi3, ← hs _]

/-- Kinds keep things apart. -/
theorem RRep.ne {e : REnt} (he : e ∈ R.all) : e.r ≠ p ∧ (∀ i, R.row = some i → e.r ≠ i ∧ p ≠ i) := by
  have h1 := H.head
  have h3 := H.cells e he
  refine ⟨fun h => ?_, fun i hi => ⟨fun h => ?_, fun h => ?_⟩⟩
  · rw [h, h1] at h3
    simp only [RH.sl] at h3
    cases hc : e.o.cells with
    | nil => rw [hc] at h3; simp at h3
    | cons v l => rw [hc, rowC_cons] at h3; cases hrr : R.row <;> (rw [hrr] at h3; simp at h3)
  · have := H.row i hi
    rw [h, this] at h3; simp at h3
  · have := H.row i hi
    rw [h, this] at h1; simp at h1

theorem RRep.setRO (n i : Int) (v : V) : RRep (setRO os (R.get n) i v) b0 p (R.put n i v) ∧ Upd os (setRO os (R.get n) i v) (R.fp p) ((R.put n i v).fp p) := by
  cases hf : R.get n with
  | none => simp only [RH.put, hf, setRE, Abs.AbsHeap.setRO]; exact ⟨H, Upd.refl _ _⟩
  | some e =>
    obtain ⟨he, hn, hat⟩ := RH.get_mem hf
    by_cases hi : i < 0 ∨ (e.o.cells.length : Int) ≤ i
    · simp only [RH.put, hf, setRE, Abs.AbsHeap.setRO, hi, if_true, show ¬ (2 : Int) = 0 by omega, if_false]; exact ⟨H, Upd.refl _ _⟩
    · simp only [RH.put, hf, setRE, Abs.AbsHeap.setRO, hi, if_false, if_true]
      obtain ⟨n1, n2⟩ := RRep.ne H he
      have hg : ∀ j, j ≠ e.r → (os.set e.r (.cells 2 (rowC (e.set i.toNat v).o.cells)))[j]? = os[j]? := fun j hj => by rw [List.getElem?_set_ne (by omega)]
      have hcs : (R.all.modify (n.toNat - 1) fun e => e.set i.toNat v).map REnt.cs = R.all.map REnt.cs := by
        apply List.ext_getElem?
        intro k
        rw [List.getElem?_map, List.getElem?_map, List.getElem?_modify]
        split
        · cases R.all[k]? with
          | none => rfl
          | some x => simp [REnt.set, REnt.cs]
        · cases R.all[k]? <;> rfl
      have hrow : rowR (R.all.modify (n.toNat - 1) fun e => e.set i.toNat v) = rowR R.all := by
        unfold rowR; rw [List.flatMap_def, hcs, ← List.flatMap_def]
      have hrs : (R.all.modify (n.toNat - 1) fun e => e.set i.toNat v).map REnt.r = R.all.map REnt.r := by
        apply List.ext_getElem?
        intro k
        rw [List.getElem?_map, List.getElem?_map, List.getElem?_modify]
        split
        · cases R.all[k]? <;> rfl
        · cases R.all[k]? <;> rfl
      have hmem : ∀ x' ∈ R.all.modify (n.toNat - 1) (fun e => e.set i.toNat v), (x' ∈ R.all ∧ x'.r ≠ e.r) ∨ x' = e.set i.toNat v := fun x' hx' => by
        obtain ⟨k, hk⟩ := List.getElem?_of_mem hx'
        rw [List.getElem?_modify] at hk
        by_cases hkn : n.toNat - 1 = k
        · subst hkn
          rw [hat] at hk
          simp at hk
          exact .inr hk.symm
        · have hk' : R.all[k]? = some x' := by
            cases hq : R.all[k]? with
            | none => rw [hq] at hk; simp at hk
            | some y => rw [hq] at hk; simp [hkn] at hk; rw [hk]
          refine .inl ⟨List.mem_of_getElem? hk', fun h => hkn ?_⟩
          have e1 : (R.all.map REnt.r)[n.toNat - 1]? = some e.r := by rw [List.getElem?_map, hat]; rfl
          have e2 : (R.all.map REnt.r)[k]? = some e.r := by rw [List.getElem?_map, hk', ← h]; rfl
          exact (List.getElem?_inj (lt_of_get e1) H.rd).1 (e1.trans e2.symm)
      have hlen : (R.all.modify (n.toNat - 1) fun e => e.set i.toNat v).length = R.all.length := by simp
      have hfp : ∀ j, RH.fp { R with all := R.all.modify (n.toNat - 1) fun e => e.set i.toNat v } p j → R.fp p j := fun j hj => by
        rcases hj with h | h | ⟨x', hx', h⟩
        · exact .inl h
        · exact .inr (.inl h)
        · rcases hmem x' hx' with ⟨hx, _⟩ | rfl
          · exact .inr (.inr ⟨x', hx, h⟩)
          · exact .inr (.inr ⟨e, he, h⟩)
      refine ⟨⟨?_, fun h => ?_, fun k _ hk => by (have h0 := congrArg List.length hk; simp only [hlen, List.length_nil] at h0; rw [List.eq_nil_of_length_eq_zero h0] at he; cases he), fun k hk => ?_, fun x' hx' => ?_, by rw [hrs]; exact H.rd, fun j hj => H.low j (hfp j hj), fun x' hx' => ?_, by rw [hlen]; exact H.len⟩, ⟨by simp, fun j _ hj => hg j fun h => hj (.inr (.inr ⟨e, he, h⟩)), fun j hj => .inl (hfp j hj)⟩⟩
      · rw [hg _ n1.symm, H.head]
        have : R.sl = RH.sl { R with all := R.all.modify (n.toNat - 1) fun e => e.set i.toNat v } := by simp only [RH.sl, hlen]
        rw [this]
      · have := H.nor h
        rw [this] at he; cases he
      · rw [hg _ (n2 k hk).1.symm, H.row k hk, hrow]
      · rcases hmem x' hx' with ⟨hx, hne⟩ | rfl
        · rw [hg _ hne]; exact H.cells x' hx
        · rw [REnt.set_r, List.getElem?_set_self (lt_of_get (H.cells e he))]
      · rcases hmem x' hx' with ⟨hx, _⟩ | rfl
        · exact H.small x' hx
        · simpa [REnt.set] using H.small e he

end
end Go.Abs.AbsHeap

/-
  Layer 27: what the reference reaches.
-/
namespace Go.Abs.AbsHeap
set_option maxRecDepth 100000
set_option linter.unusedSimpArgs false
variable {O os : List AObj} {b w : Nat} {β : Type}

theorem RH.look_get (R : RH) (n : Int) : R.look n = (R.get n).map REnt.o := by
  unfold RH.look RH.get
  split <;> rfl

/-! ## Plain -/

/-- What is still to come: of all objects that aren't told yet. -/
def costR (R : RH) (bs : List Bool) : Nat := ((List.range R.all.length).map fun k => if bs.getD (k + 1) false then 0 else ((R.all[k]?).map fun e => e.o.cells.length).getD 0).sum

structure GoingR (R : RH) (roots : List V) (bs : List Bool) (ws : List V) : Prop where
  len : bs.length = R.all.length + 1
  ok : ∀ k : Nat, bs[k]? = some true → Reach R.look roots k
  wk : ∀ v ∈ ws, v.ref = true → ∀ o, R.look v.n = some o → Reach R.look roots v.n
  cl : ∀ k : Nat, bs[k]? = some true → ∀ o, R.look k = some o → ∀ v ∈ o.cells, v.ref = true → ∀ o', R.look v.n = some o' → bs[v.n.toNat]? = some true ∨ v ∈ ws
  rt : ∀ v ∈ roots, v.ref = true → ∀ o, R.look v.n = some o → bs[v.n.toNat]? = some true ∨ v ∈ ws

theorem goingR0 (R : RH) (roots : List V) : GoingR R roots (List.replicate (R.all.length + 1) false) roots where
  len := by simp
  ok := fun k hk => by
    rw [List.getElem?_replicate] at hk
    split at hk <;> simp at hk
  wk := fun v hv hr o ho => .root (by obtain ⟨a, c⟩ := v; simp only at hr ⊢; subst hr; exact hv) ho
  cl := fun k hk => by
    rw [List.getElem?_replicate] at hk
    split at hk <;> simp at hk
  rt := fun v hv _ _ _ => .inr hv

theorem look_range {R : RH} {n : Int} {o : Ob} (h : R.look n = some o) : 1 ≤ n ∧ n ≤ R.all.length := by
  unfold RH.look at h
  split at h
  · rename_i h1
    rw [Option.map_eq_some_iff] at h
    obtain ⟨e, he, _⟩ := h
    have := lt_of_get he
    omega
  · cases h

/-- A value that leads nowhere new. -/
theorem goingR_skip {R : RH} {roots ws : List V} {bs : List Bool} {v : V} (h : GoingR R roots bs (v :: ws)) (hs : v.ref = false ∨ R.look v.n = none ∨ bs[v.n.toNat]? = some true) : GoingR R roots bs ws where
  len := h.len
  ok := h.ok
  wk := fun x hx => h.wk x (List.mem_cons_of_mem _ hx)
  cl := fun k hk o ho x hx hr o' ho' => by
    rcases h.cl k hk o ho x hx hr o' ho' with h1 | h1
    · exact .inl h1
    · rcases List.mem_cons.1 h1 with rfl | h1
      · rcases hs with hs | hs | hs
        · rw [hs] at hr; cases hr
        · rw [hs] at ho'; cases ho'
        · exact .inl hs
      · exact .inr h1
  rt := fun x hx hr o' ho' => by
    rcases h.rt x hx hr o' ho' with h1 | h1
    · exact .inl h1
    · rcases List.mem_cons.1 h1 with rfl | h1
      · rcases hs with hs | hs | hs
        · rw [hs] at hr; cases hr
        · rw [hs] at ho'; cases ho'
        · exact .inl hs
      · exact .inr h1

/-- A value that leads to something new. -/
theorem goingR_new {R : RH} {roots ws : List V} {bs : List Bool} {v : V} {o : Ob} (h : GoingR R roots bs (v :: ws)) (hr : v.ref = true) (ho : R.look v.n = some o) : GoingR R roots (bs.set v.n.toNat true) (ws ++ o.cells) where
  len := by simp [h.len]
  ok := fun k hk => by
    rw [List.getElem?_set] at hk
    split at hk
    · rename_i e
      have := (look_range ho).1
      have hv := h.wk v (List.mem_cons_self ..) hr o ho
      have : (k : Int) = v.n := by omega
      rw [this]; exact hv
    · exact h.ok k hk
  wk := fun x hx hxr o' ho' => by
    rcases List.mem_append.1 hx with hx | hx
    · exact h.wk x (List.mem_cons_of_mem _ hx) hxr o' ho'
    · exact .step (h.wk v (List.mem_cons_self ..) hr o ho) ho (by obtain ⟨a, c⟩ := x; simp only at hxr ⊢; subst hxr; exact hx) ho'
  cl := fun k hk o1 ho1 x hx hxr o' ho' => by
    have hb : ∀ i : Nat, bs[i]? = some true → (bs.set v.n.toNat true)[i]? = some true := fun i hi => by
      rw [List.getElem?_set]; split
      · rename_i e; subst e; rw [if_pos (lt_of_get hi)]
      · exact hi
    rw [List.getElem?_set] at hk
    split at hk
    · rename_i e
      have := (look_range ho).1
      have hkv : (k : Int) = v.n := by omega
      rw [hkv, ho] at ho1
      cases ho1
      exact .inr (List.mem_append_right _ hx)
    · rcases h.cl k hk o1 ho1 x hx hxr o' ho' with h1 | h1
      · exact .inl (hb _ h1)
      · rcases List.mem_cons.1 h1 with rfl | h1
        · refine .inl ?_
          have := look_range ho'
          rw [List.getElem?_set, if_pos rfl, if_pos (by rw [h.len]; omega)]
        · exact .inr (List.mem_append_left _ h1)
  rt := fun x hx hxr o' ho' => by
    rcases h.rt x hx hxr o' ho' with h1 | h1
    · refine .inl ?_
      rw [List.getElem?_set]; split
      · rename_i e; rw [if_pos (by rw [e]; exact lt_of_get h1)]
      · exact h1
    · rcases List.mem_cons.1 h1 with rfl | h1
      · refine .inl ?_
        have := look_range ho'
        rw [List.getElem?_set, if_pos rfl, if_pos (by rw [h.len]; omega)]
      · exact .inr (List.mem_append_left _ h1)

theorem goingR_end {R : RH} {roots : List V} {bs : List Bool} (h : GoingR R roots bs []) (k : Nat) : bs[k]? = some true ↔ Reach R.look roots k := by
  refine ⟨h.ok k, fun hr => ?_⟩
  have key : ∀ {n : Int}, Reach R.look roots n → bs[n.toNat]? = some true := fun {n} hr => by
    refine Reach.closed (S := fun n => bs[n.toNat]? = some true) (fun n o h1 h2 => ?_) (fun m p n o h1 h2 h3 h4 => ?_) hr
    · rcases h.rt _ h1 rfl o h2 with hc | hc
      · exact hc
      · cases hc
    · have := look_range h2
      have e : ((m.toNat : Nat) : Int) = m := by omega
      rcases h.cl m.toNat h1 p (by rw [e]; exact h2) _ h3 rfl o h4 with hc | hc
      · exact hc
      · cases hc
  simpa using key hr

theorem costR_new {R : RH} {bs : List Bool} {v : V} {o : Ob} (ho : R.look v.n = some o) (hlen : bs.length = R.all.length + 1) (hb : bs[v.n.toNat]? ≠ some true) : costR R (bs.set v.n.toNat true) + o.cells.length = costR R bs := by
  have hr := look_range ho
  unfold costR
  have key : ∀ (n : Nat), (v.n.toNat - 1 < n → ((List.range n).map fun k => if (bs.set v.n.toNat true).getD (k + 1) false then 0 else ((R.all[k]?).map fun e => e.o.cells.length).getD 0).sum + o.cells.length = ((List.range n).map fun k => if bs.getD (k + 1) false then 0 else ((R.all[k]?).map fun e => e.o.cells.length).getD 0).sum) ∧
      (n ≤ v.n.toNat - 1 → ((List.range n).map fun k => if (bs.set v.n.toNat true).getD (k + 1) false then 0 else ((R.all[k]?).map fun e => e.o.cells.length).getD 0).sum = ((List.range n).map fun k => if bs.getD (k + 1) false then 0 else ((R.all[k]?).map fun e => e.o.cells.length).getD 0).sum) := by
    intro n
    induction n with
    | zero => exact ⟨fun h => absurd h (by omega), fun _ => rfl⟩
    | succ n ih =>
      have hother : n + 1 ≠ v.n.toNat → (bs.set v.n.toNat true).getD (n + 1) false = bs.getD (n + 1) false := fun hne => by
        simp only [List.getD]; rw [List.getElem?_set_ne (Ne.symm hne)]
      constructor
      · intro hlt
        rw [List.range_succ, List.map_append, List.map_append, List.sum_append, List.sum_append]
        simp only [List.map_cons, List.map_nil, List.sum_cons, List.sum_nil, Nat.add_zero]
        by_cases hn : n = v.n.toNat - 1
        · have hn1 : n + 1 = v.n.toNat := by omega
          rw [ih.2 (by omega)]
          have e1 : (bs.set v.n.toNat true).getD (n + 1) false = true := by
            simp only [List.getD]; rw [hn1, List.getElem?_set, if_pos rfl, if_pos (by omega)]; rfl
          have e2 : bs.getD (n + 1) false = false := by
            simp only [List.getD]; rw [hn1]
            cases hq : bs[v.n.toNat]? with
            | none => rfl
            | some x => cases x with
              | true => exact absurd hq hb
              | false => rfl
          rw [e1, e2]
          have e3 : (R.all[n]?).map (fun e => e.o.cells.length) = some o.cells.length := by
            unfold RH.look at ho
            rw [if_pos hr.1, ← hn, Option.map_eq_some_iff] at ho
            obtain ⟨e, he, rfl⟩ := ho
            rw [he]; rfl
          rw [e3]
          simp
        · rw [hother (by omega), ← ih.1 (by omega)]
          omega
      · intro hle
        rw [List.range_succ, List.map_append, List.map_append, List.sum_append, List.sum_append]
        simp only [List.map_cons, List.map_nil, List.sum_cons, List.sum_nil, Nat.add_zero]
        rw [hother (by omega), ih.2 (by omega)]
  exact (key _).1 (by omega)

end Go.Abs.AbsHeap

/-
  Layer 27: what the reference reaches: its loop.
-/
namespace Go.Abs.AbsHeap
set_option maxRecDepth 100000
set_option linter.unusedSimpArgs false
variable {O os : List AObj} {b w : Nat} {β : Type}

/-- The memory while things are looked for: behind what was there the answers, an empty row, rows. -/
def BO (os : List AObj) (bs : List Bool) (X : List AObj) : List AObj := os ++ (.cells 1 (bs.map AVal.bool) :: .cells 2 [] :: X)

section
variable {bs : List Bool} {X : List AObj}
theorem BO_old {i : Nat} (h : i < os.length) : (BO os bs X)[i]? = os[i]? := by unfold BO; rw [List.getElem?_append_left h]
theorem BO_at (k : Nat) : (BO os bs X)[os.length + k]? = (AObj.cells 1 (bs.map AVal.bool) :: .cells 2 [] :: X)[k]? := by
  unfold BO; rw [List.getElem?_append_right (by omega)]; congr 1; omega
theorem BO_b : (BO os bs X)[os.length]? = some (.cells 1 (bs.map AVal.bool)) := BO_at 0
theorem BO_e : (BO os bs X)[os.length + 1]? = some (.cells 2 []) := BO_at 1
theorem BO_x (r : Nat) : (BO os bs X)[os.length + 2 + r]? = X[r]? := by
  rw [show os.length + 2 + r = os.length + (r + 2) by omega, BO_at]; rfl
theorem BO_len : (BO os bs X).length = os.length + 2 + X.length := by simp [BO]; omega
theorem BO_set_at (k : Nat) (o : AObj) : (BO os bs X).set (os.length + k) o = os ++ (AObj.cells 1 (bs.map AVal.bool) :: .cells 2 [] :: X).set k o := by
  unfold BO; rw [List.set_append_right _ _ (by omega)]; congr 2; omega
theorem BO_set_b (bs' : List Bool) : (BO os bs X).set os.length (.cells 1 (bs'.map AVal.bool)) = BO os bs' X := BO_set_at 0 _
theorem BO_set_x (r : Nat) (o : AObj) : (BO os bs X).set (os.length + 2 + r) o = BO os bs (X.set r o) := by
  rw [show os.length + 2 + r = os.length + (r + 2) by omega, BO_set_at]; rfl
theorem BO_push (l : List AObj) : BO os bs X ++ l = BO os bs (X ++ l) := by simp [BO]
end

inductive WorkV (N : Nat) (X : List AObj) : AVal → List V → Prop
  | nil : WorkV N X (.slice (some (N + 1, 0)) 0 (some 0)) []
  | row {r o : Nat} {cs : List AVal} {ws : List V} : X[r]? = some (.cells 2 cs) → o + ws.length * 2 ≤ cs.length → (cs.drop o).take (ws.length * 2) = rowC ws → WorkV N X (.slice (some (N + 2 + r, o)) ws.length none) ws

theorem WorkV.inv {N : Nat} {X : List AObj} {W : AVal} {ws : List V} (h : WorkV N X W ws) (hne : ws ≠ []) : ∃ (r o : Nat) (cs : List AVal), W = .slice (some (N + 2 + r, o)) ws.length none ∧ X[r]? = some (.cells 2 cs) ∧ o + ws.length * 2 ≤ cs.length ∧ (cs.drop o).take (ws.length * 2) = rowC ws := by
  cases h with
  | nil => exact absurd rfl hne
  | row h1 h2 h3 => exact ⟨_, _, _, rfl, h1, h2, h3⟩

theorem WorkV.len {N : Nat} {X : List AObj} {W : AVal} {ws : List V} (h : WorkV N X W ws) : ∃ a c, W = .slice a ws.length c := by
  cases h with
  | nil => exact ⟨_, _, rfl⟩
  | row h1 h2 h3 => exact ⟨_, _, rfl⟩

theorem work_pop {N r o : Nat} {X : List AObj} {cs : List AVal} {v : V} {ws : List V} (h1 : X[r]? = some (.cells 2 cs)) (h2 : o + (ws.length + 1) * 2 ≤ cs.length) (h3 : (cs.drop o).take ((ws.length + 1) * 2) = rowC (v :: ws)) :
    (cs.drop o).take 2 = v.cs ∧ (cs.drop (o + 2)).take (ws.length * 2) = rowC ws ∧ WorkV N X (.slice (some (N + 2 + r, o + 2)) ws.length none) ws := by
  have e1 : (cs.drop o).take 2 = v.cs := by
    have := congrArg (List.take 2) h3
    rw [List.take_take, Nat.min_eq_left (by omega), rowC_cons] at this
    simpa [V.cs] using this
  have e2 : (cs.drop (o + 2)).take (ws.length * 2) = rowC ws := by
    have := congrArg (List.drop 2) h3
    rw [List.drop_take, List.drop_drop, rowC_cons] at this
    simpa [show (ws.length + 1) * 2 - 2 = ws.length * 2 by omega] using this
  exact ⟨e1, e2, .row h1 (by omega) e2⟩

theorem take_set_map (bs : List Bool) (n : Nat) (h : n < bs.length) : List.take n (bs.map AVal.bool) ++ AVal.bool true :: List.drop (n + 1) (bs.map AVal.bool) = (bs.set n true).map AVal.bool := by
  rw [List.map_set, List.set_eq_take_append_cons_drop, if_pos (by simpa using h)]

section
variable {p : Nat} {R : RH} {b0 : Nat} (H : RRep os b0 p R)
include H

set_option maxHeartbeats 1000000 in
theorem l293 {roots : List V} (hb : b ≤ os.length) (k : AExit → St → Option β) : ∀ (m : Nat) {bs : List Bool} {W : AVal} {X : List AObj} {ws : List V} {w : Nat}, ws.length + costR R bs ≤ m → m ≤ 2000000000000 → WorkV os.length X W ws → GoingR R roots bs ws → os.length ≤ w →
    ∃ bs' X' w', xK T (.loop code293L0) ⟨[(0, .val (.ptr (some (p, 0)))), (5, .val (.slice (some (os.length, 0)) (R.all.length + 1) (some (R.all.length + 1)))), (6, .val W)], ⟨BO os bs X, b, w⟩⟩ (k := ⟨k⟩) =
      k (.exit 0) ⟨[(5, .val (.slice (some (os.length, 0)) (R.all.length + 1) (some (R.all.length + 1))))], ⟨BO os bs' X', b, w'⟩⟩ ∧ GoingR R roots bs' [] ∧ os.length ≤ w' := by
  intro m
  induction m with
  | zero =>
    intro bs W X ws w hm hm2 hW hg hw
    have h0 : ws = [] := List.eq_nil_of_length_eq_zero (by omega)
    subst h0
    refine ⟨bs, X, w, ?_, hg, hw⟩
    rw [xK_loop]
    obtain ⟨a, c, rfl⟩ := hW.len
    simp (disch := omega) [-getElem?_pos, -getElem?_neg, code293L0, iltF]
  | succ m ih =>
    intro bs W X ws w hm hm2 hW hg hw
    rw [xK_loop]
    cases ws with
    | nil =>
      refine ⟨bs, X, w, ?_, hg, hw⟩
      obtain ⟨a, c, rfl⟩ := hW.len
      simp (disch := omega) [-getElem?_pos, -getElem?_neg, code293L0, iltF]
    | cons v ws =>
      obtain ⟨r, o, cs, rfl, hx, hle, htk⟩ := hW.inv (by simp)
      simp only [List.length_cons] at hle htk hm
      obtain ⟨q1, q2, q3⟩ := work_pop (N := os.length) hx hle htk
      have hhd := H.head
      have hp := lt_of_get hhd
      have hrl := H.len
      have hBp : ∀ bs X, (BO os bs X)[p]? = some (.cells 2 [.int .i64 R.bound, R.sl]) := fun bs X => (BO_old hp).trans hhd
      obtain ⟨vn, vr⟩ := v
      simp only [V.cs] at q1
      have hl1 : (0 : Int) < (ws.length : Int) + 1 := by omega
      have hsl : ∃ ar cr, R.sl = .slice ar R.all.length cr := by
        unfold RH.sl
        cases hr : R.row with
        | none => rw [H.nor hr]; exact ⟨_, _, rfl⟩
        | some i => exact ⟨_, _, rfl⟩
      obtain ⟨ar, cr, hsl⟩ := hsl
      have hll := hg.len
      by_cases c1 : vr = false
      · subst c1
        obtain ⟨bs', X', w', j1, j2, j3⟩ := ih (by omega) (by omega) q3 (goingR_skip hg (.inl rfl)) hw
        refine ⟨bs', X', w', ?_, j2, j3⟩
        generalize ACode.loop code293L0 = LL at j1 ⊢
        simp (disch := omega) [-getElem?_pos, -getElem?_neg, code293L0, iltT, ileT, nltT, nleT, hl1, BO_x, hx, q1, hle, j1]
      · have c1' : vr = true := by simpa using c1
        subst c1'
        by_cases c2 : vn < 1
        · obtain ⟨bs', X', w', j1, j2, j3⟩ := ih (by omega) (by omega) q3 (goingR_skip hg (.inr (.inl (by simp only [RH.look]; rw [if_neg (by omega)])))) hw
          refine ⟨bs', X', w', ?_, j2, j3⟩
          generalize ACode.loop code293L0 = LL at j1 ⊢
          simp (disch := omega) [-getElem?_pos, -getElem?_neg, code293L0, iltT, ileT, nltT, nleT, hl1, BO_x, hx, q1, hle, j1]
        · by_cases c3 : (R.all.length : Int) < vn
          · obtain ⟨bs', X', w', j1, j2, j3⟩ := ih (by omega) (by omega) q3 (goingR_skip hg (.inr (.inl (by
              cases hl : R.look vn with
              | none => rfl
              | some o => have := look_range hl; omega)))) hw
            refine ⟨bs', X', w', ?_, j2, j3⟩
            generalize ACode.loop code293L0 = LL at j1 ⊢
            simp (disch := omega) [-getElem?_pos, -getElem?_neg, code293L0, iltT, iltF, ileT, nltT, nleT, hl1, BO_x, hx, q1, hle, j1, hBp, hsl]
          · have hvl : vn.toNat < bs.length := by omega
            obtain ⟨x, hbx⟩ : ∃ x, bs[vn.toNat]? = some x := ⟨_, List.getElem?_eq_getElem hvl⟩
            have hbx' : (bs.map AVal.bool)[vn.toNat]? = some (.bool x) := by rw [List.getElem?_map, hbx]; rfl
            have g0 : (0 : Int) ≤ vn := by omega
            have g1 : vn < (R.all.length : Int) + 1 := by omega
            cases x with
            | true =>
              obtain ⟨bs', X', w', j1, j2, j3⟩ := ih (by omega) (by omega) q3 (goingR_skip hg (.inr (.inr hbx))) hw
              refine ⟨bs', X', w', ?_, j2, j3⟩
              generalize ACode.loop code293L0 = LL at j1 ⊢
              simp (disch := omega) [-getElem?_pos, -getElem?_neg, code293L0, iltT, iltF, ileT, nltT, nleT, hl1, BO_x, BO_b, hx, q1, hle, j1, hBp, hsl, g0, g1, hbx']
            | false =>
              obtain ⟨e, he⟩ : ∃ e, R.all[vn.toNat - 1]? = some e := ⟨_, List.getElem?_eq_getElem (by omega)⟩
              have hem := List.mem_of_getElem? he
              obtain ⟨i, hr⟩ := RRep.some_row H hem
              have hlo : R.look vn = some e.o := by simp only [RH.look]; rw [if_pos (by omega), he]; rfl
              have hcost := costR_new (R := R) (bs := bs) (v := ⟨vn, true⟩) hlo hll (by simp only; rw [hbx]; simp)
              simp only at hcost
              have hrow := H.row i hr
              have hrl2 := lt_of_get hrow
              have hcells := H.cells e hem
              have hcl := lt_of_get hcells
              have hBi : ∀ bs X, (BO os bs X)[i]? = some (.cells 3 (rowR R.all)) := fun bs X => (BO_old hrl2).trans hrow
              have hBc : ∀ bs X, (BO os bs X)[e.r]? = some (.cells 2 (rowC e.o.cells)) := fun bs X => (BO_old hcl).trans hcells
              obtain ⟨k1, k2, k3⟩ := rowR_get he
              have hgn := goingR_new hg rfl hlo
              simp only at hgn
              have hsm := H.small e hem
              have hset := take_set_map bs vn.toNat hvl
              have hs1 : vn.toNat + 1 ≤ bs.length := hvl
              have hsl2 : R.sl = .slice (some (i, 0)) R.all.length none := by simp only [RH.sl, hr]
              have g2 : (1 : Int) ≤ vn := by omega
              have g3 : vn - 1 < (R.all.length : Int) := by omega
              have hrX := lt_of_get hx
              have hwl : ws.length ≤ 2000000000000 := by omega
              by_cases hcz : e.o.cells = []
              · rw [hcz] at hcost hgn
                simp only [List.length_nil, List.append_nil] at hcost hgn
                obtain ⟨bs', X', w', j1, j2, j3⟩ := ih (w := os.length) (by omega) (by omega) q3 hgn (by omega)
                refine ⟨bs', X', w', ?_, j2, j3⟩
                generalize ACode.loop code293L0 = LL at j1 ⊢
                have hlz : e.o.cells.length = 0 := by rw [hcz]; rfl
                simp only [hlz] at k3
                by_cases hws : ws = []
                · subst hws
                  simp only [List.length_nil] at *
                  simp (disch := omega) [-getElem?_pos, -getElem?_neg, -List.map_set, code293L0, iltT, iltF, ileT, nltT, nleT, BO_x, BO_b, BO_set_b, hx, q1, hle, j1, hBp, hBi, hsl2, g0, g1, g2, g3, hbx', hset, hs1, wrapI, k3]
                · simp (disch := omega) [-getElem?_pos, -getElem?_neg, -List.map_set, code293L0, iltT, iltF, ileT, nltT, nleT, hl1, BO_x, BO_b, BO_set_b, hx, q1, hle, j1, hBp, hBi, hsl2, g0, g1, g2, g3, hbx', hset, hs1, wrapI, k3, hws]
              · have hW' : WorkV os.length (X.set r .dead ++ [.cells 2 (rowC ws ++ rowC e.o.cells)]) (.slice (some (os.length + 2 + X.length, 0)) (ws ++ e.o.cells).length none) (ws ++ e.o.cells) := by
                  have hlr : (rowC ws ++ rowC e.o.cells).length = (ws ++ e.o.cells).length * 2 := by simp; omega
                  refine .row (r := X.length) (o := 0) (cs := rowC ws ++ rowC e.o.cells) ?_ (by omega) ?_
                  · rw [List.getElem?_append_right (by simp)]; simp
                  · rw [List.drop_zero, List.take_of_length_le (by omega), rowC_app]
                rw [List.length_append] at hW'
                have hcl0 : e.o.cells.length ≠ 0 := fun h => hcz (List.eq_nil_of_length_eq_zero h)
                obtain ⟨bs', X', w', j1, j2, j3⟩ := ih (w := os.length) (by rw [List.length_append]; omega) (by omega) hW' hgn (by omega)
                refine ⟨bs', X', w', ?_, j2, j3⟩
                generalize ACode.loop code293L0 = LL at j1 ⊢
                have hz1 : (ws.length + e.o.cells.length) * 16 ≤ 140737488355328 := by omega
                have hz2 : ws.length + e.o.cells.length ≤ 9223372036854775807 := by omega
                have htc : List.take (e.o.cells.length * 2) (rowC e.o.cells) = rowC e.o.cells := List.take_of_length_le (by simp)
                by_cases hws : ws = []
                · subst hws
                  simp only [List.length_nil, Nat.zero_add, rowC_nil, List.nil_append] at *
                  simp (disch := omega) [-getElem?_pos, -getElem?_neg, -List.map_set, code293L0, iltT, iltF, ileT, nltT, nleT, BO_x, BO_b, BO_len, BO_push, BO_set_b, BO_set_x, hx, q1, hle, hBp, hBi, hBc, hsl2, g0, g1, g2, g3, hbx', hset, hs1, wrapI, k3, hcz, hz1, hz2, htc, j1]
                · simp (disch := omega) [-getElem?_pos, -getElem?_neg, -List.map_set, code293L0, iltT, iltF, ileT, nltT, nleT, hl1, BO_x, BO_b, BO_len, BO_push, BO_set_b, BO_set_x, hx, q1, q2, hle, hBp, hBi, hBc, hsl2, g0, g1, g2, g3, hbx', hset, hs1, wrapI, k3, hws, hcz, hz1, hz2, htc, j1]
end

theorem BO_new (os : List AObj) (n : Nat) : os ++ [.cells 1 (List.replicate n (AVal.bool false)), .cells 2 []] = BO os (List.replicate n false) [] := by
  simp [BO]

theorem bools_ids : ∀ bs : List Bool, AVal.idsL (bs.map AVal.bool) = []
  | [] => rfl
  | b :: bs => by
    rw [List.map_cons]
    simp only [AVal.idsL, AVal.ids, bools_ids bs, List.append_nil]

theorem bools_ren (f : Nat → Nat) : ∀ bs : List Bool, AVal.renL f (bs.map AVal.bool) = bs.map AVal.bool
  | [] => rfl
  | b :: bs => by
    rw [List.map_cons]
    simp only [AVal.renL, AVal.ren, bools_ren f bs]

theorem rep_bool (n : Nat) : (List.replicate n [AVal.bool false]).flatten = List.replicate n (AVal.bool false) := by
  induction n with
  | zero => rfl
  | succ n ih => rw [List.replicate_succ, List.flatten_cons, ih, List.replicate_succ]; rfl

theorem cost_le {b0 p : Nat} {R : RH} (H : RRep os b0 p R) (bs : List Bool) : costR R bs ≤ 1000000 * 1000000 := by
  unfold costR
  refine Nat.le_trans (sum_le _ 1000000 fun x hx => ?_) (by rw [List.length_map, List.length_range]; exact Nat.mul_le_mul_right _ H.len)
  rw [List.mem_map] at hx
  obtain ⟨k, _, rfl⟩ := hx
  split
  · omega
  · cases hk : R.all[k]? with
    | none => simp
    | some e => exact H.small e (List.mem_of_getElem? hk)

theorem rows_all : ∀ (L : List V) (cs : List AVal), (∀ (j : Nat) (x : V), L[j]? = some x → j * 2 + 2 ≤ cs.length ∧ (cs.drop (j * 2)).take 2 = x.cs) → L.length * 2 ≤ cs.length ∧ cs.take (L.length * 2) = rowC L
  | [], cs, _ => by simp
  | v :: L, cs, h => by
    obtain ⟨h1, h2⟩ := h 0 v rfl
    obtain ⟨k1, k2⟩ := rows_all L (cs.drop 2) fun j x hx => by
      obtain ⟨g1, g2⟩ := h (j + 1) x (by simpa using hx)
      rw [List.length_drop, List.drop_drop]
      exact ⟨by omega, by rw [show 2 + j * 2 = (j + 1) * 2 by omega]; exact g2⟩
    simp only [Nat.zero_mul, List.drop_zero] at h2
    rw [List.length_drop] at k1
    simp only [List.length_cons]
    refine ⟨by omega, ?_⟩
    rw [rowC_cons, ← k2, ← List.take_append_drop 2 (cs.take ((L.length + 1) * 2)), List.take_take, Nat.min_eq_left (by omega), h2, List.drop_take, show (L.length + 1) * 2 - 2 = L.length * 2 by omega]
    rfl

theorem Row.all {L : List V} {a : Option (Nat × Nat)} (h : Row os 2 V.cs L a) (hne : L ≠ []) : ∃ b o cs, a = some (b, o) ∧ os[b]? = some (.cells 2 cs) ∧ o + L.length * 2 ≤ cs.length ∧ (cs.drop o).take (L.length * 2) = rowC L := by
  obtain ⟨b, o, cs, h1, h2, h3⟩ := h.at' hne
  obtain ⟨x, hx⟩ : ∃ x, L[0]? = some x := ⟨_, List.getElem?_eq_getElem (List.length_pos_iff.2 hne)⟩
  have ho := (h3 0 x hx).1
  obtain ⟨k1, k2⟩ := rows_all L (cs.drop o) fun j x hx => by
    obtain ⟨g1, g2⟩ := h3 j x hx
    rw [List.length_drop, List.drop_drop]
    exact ⟨by omega, g2⟩
  rw [List.length_drop] at k1
  exact ⟨b, o, cs, h1, h2, by omega, k2⟩

section
variable {p : Nat} {R : RH} {b0 : Nat} (H : RRep os b0 p R)
include H

theorem s293 {roots : List V} {a : Option (Nat × Nat)} {c : Option Nat} (hR : Row os 2 V.cs roots a) (hn : roots.length ≤ 1000000) (hb : b ≤ os.length) :
    ∃ bs, GoingR R roots bs [] ∧ ∀ w, xCall T 293 [.ptr (some (p, 0)), .slice a roots.length c] ⟨os, b, w⟩ = some (.slice (some (os.length, 0)) (R.all.length + 1) (some (R.all.length + 1)), ⟨os ++ [.cells 1 (bs.map AVal.bool)], b, w⟩) := by
  have hhd := H.head
  have hp := lt_of_get hhd
  have hrl := H.len
  have hsl : ∃ ar cr, R.sl = .slice ar R.all.length cr := by
    unfold RH.sl
    cases hr : R.row with
    | none => rw [H.nor hr]; exact ⟨_, _, rfl⟩
    | some i => exact ⟨_, _, rfl⟩
  obtain ⟨ar, cr, hsl⟩ := hsl
  have hc := cost_le H (List.replicate (R.all.length + 1) false)
  have hfl := fun n => rep_bool n
  have z1 : (R.all.length : Int) + 1 ≤ 140737488355328 := by omega
  have z2 : (R.all.length : Int) + 1 ≤ 9223372036854775807 := by omega
  have z0 : (0 : Int) ≤ (R.all.length : Int) + 1 := by omega
  have hpush : ∀ n, os ++ [AObj.cells 1 (List.replicate n (AVal.bool false)), .cells 2 []] = BO os (List.replicate n false) [] := fun n => BO_new os n
  by_cases hne : roots = []
  · subst hne
    obtain ⟨bs, X, w', h1, h2, h3⟩ := l293 (β := AExit × St) H (roots := []) hb (fun e st => some (e, st)) _ (Nat.le_refl _) (by simp only [List.length_nil]; omega) (WorkV.nil (N := os.length) (X := [])) (goingR0 R []) (Nat.le_refl os.length)
    have hl := fun (k : AExit → St → Option (AVal × Heap)) => xK_of (k := k) (xCode_of h1)
    refine ⟨bs, h2, fun w => ?_⟩
    cases a <;> simp (disch := omega) [-getElem?_pos, -getElem?_neg, -finish, xCallK t293, code293, hhd, hsl, wrapI, z0, z1, z2, hfl, hpush, hl] <;>
      simp (disch := omega) [-getElem?_pos, -getElem?_neg, reach_step, reach_done, nltF, BO_b, bools_ids, bools_ren]
  · obtain ⟨bb, o, cs, rfl, k1, k2, k3⟩ := Row.all hR hne
    have hl0 : roots.length ≠ 0 := fun h => hne (List.eq_nil_of_length_eq_zero h)
    have hW : WorkV os.length [.cells 2 (rowC roots)] (.slice (some (os.length + 2 + 0, 0)) roots.length none) roots := .row (cs := rowC roots) rfl (by simp) (by rw [List.drop_zero, List.take_of_length_le (by simp)])
    obtain ⟨bs, X, w', h1, h2, h3⟩ := l293 (β := AExit × St) H (roots := roots) hb (fun e st => some (e, st)) _ (Nat.le_refl _) (by omega) hW (goingR0 R roots) (Nat.le_refl os.length)
    have hl := fun (k : AExit → St → Option (AVal × Heap)) => xK_of (k := k) (xCode_of h1)
    simp only [Nat.add_zero] at hl
    refine ⟨bs, h2, fun w => ?_⟩
    have hBb : (BO os (List.replicate (R.all.length + 1) false) [])[bb]? = some (.cells 2 cs) := (BO_old (lt_of_get k1)).trans k1
    have z3 : roots.length * 16 ≤ 140737488355328 := by omega
    have z4 : roots.length ≤ 9223372036854775807 := by omega
    simp (disch := omega) [-getElem?_pos, -getElem?_neg, -finish, xCallK t293, code293, hhd, hsl, wrapI, z0, z1, z2, z3, z4, hfl, hpush, hl, hl0, hne, hBb, k2, k3, BO_e, BO_len, BO_push]
    simp (disch := omega) [-getElem?_pos, -getElem?_neg, reach_step, reach_done, nltF, BO_b, bools_ids, bools_ren]
end
end Go.Abs.AbsHeap

/-
  Layer 27: how much the reference reaches; both are the same.
-/
namespace Go.Abs.AbsHeap
set_option maxRecDepth 100000
set_option linter.unusedSimpArgs false
variable {O os : List AObj} {b w : Nat} {β : Type}

def szR (R : RH) (n : Int) : Nat := match R.look n with
  | some o => sizeN o.typ o.cells.length
  | none => 0

def liveR (R : RH) (bs : List Bool) (i : Nat) : Nat := ((List.range i).map fun k => if bs.getD k false then szR R k else 0).sum

theorem liveR_succ (R : RH) (bs : List Bool) (i : Nat) : liveR R bs (i + 1) = liveR R bs i + (if bs.getD i false then szR R i else 0) := by
  unfold liveR
  rw [List.range_succ, List.map_append, List.sum_append]
  simp

theorem liveR_le {b0 p : Nat} {R : RH} (H : RRep os b0 p R) (bs : List Bool) (i : Nat) (hi : i ≤ 1000001) : liveR R bs i ≤ 1000001 * 1000002 := by
  unfold liveR
  refine Nat.le_trans (sum_le _ 1000002 fun x hx => ?_) (by rw [List.length_map, List.length_range]; exact Nat.mul_le_mul_right _ hi)
  rw [List.mem_map] at hx
  obtain ⟨k, _, rfl⟩ := hx
  split
  · unfold szR
    split
    · rename_i o ho
      rw [RH.look_get, Option.map_eq_some_iff] at ho
      obtain ⟨e, he, rfl⟩ := ho
      have h3 := H.small e (RH.get_mem he).1
      have := sizeN_le e.o.typ e.o.cells.length
      omega
    · omega
  · omega

section
variable {p : Nat} {R : RH} {b0 : Nat} (H : RRep os b0 p R)
include H

theorem l310 {roots : List V} {bs : List Bool} (hg : GoingR R roots bs []) (k : AExit → St → Option β) : ∀ j i, i + j = R.all.length + 1 → ∀ w,
    xK T (.loop code310L0) ⟨[(0, .val (.ptr (some (p, 0)))), (5, .val (.int .i64 (liveR R bs i : Nat))), (10, .val (.slice (some (os.length, 0)) (R.all.length + 1) (some (R.all.length + 1)))), (11, .val (.int .i64 ((R.all.length : Int) + 1))), (12, .val (.int .i64 (i : Nat)))], ⟨os ++ [.cells 1 (bs.map AVal.bool)], b, w⟩⟩ (k := ⟨k⟩) =
      k (.exit 0) ⟨[(5, .val (.int .i64 (liveR R bs (R.all.length + 1) : Nat)))], ⟨os ++ [.cells 1 (bs.map AVal.bool)], b, w⟩⟩
  | 0, i, hi, w => by
    have hl := hg.len
    rw [xK_loop, show i = R.all.length + 1 by omega]
    simp (disch := omega) [-getElem?_pos, -getElem?_neg, code310L0, iltF]
  | j + 1, i, hi, w => by
    have hl := hg.len
    have ih := l310 hg k j (i + 1) (by omega) w
    have e1 : ((i + 1 : Nat) : Int) = (i : Int) + 1 := by omega
    obtain ⟨x, hx⟩ : ∃ x, bs[i]? = some x := ⟨_, List.getElem?_eq_getElem (by omega)⟩
    have hd : bs.getD i false = x := by simp [List.getD, hx]
    have hx' : (bs.map AVal.bool)[i]? = some (.bool x) := by rw [List.getElem?_map, hx]; rfl
    have hrl := H.len
    have hb : (os ++ [AObj.cells 1 (bs.map AVal.bool)])[os.length]? = some (.cells 1 (bs.map AVal.bool)) := by simp
    have g1 : (i : Int) < (R.all.length : Int) + 1 := by omega
    have g2 : i + 1 ≤ bs.length := by omega
    rw [liveR_succ, hd, e1] at ih
    rw [xK_loop]
    generalize ACode.loop code310L0 = LL at ih ⊢
    cases x with
    | false =>
      simp only [Bool.false_eq_true, if_false, Nat.add_zero] at ih
      simp (disch := omega) [-getElem?_pos, -getElem?_neg, code310L0, iltT, ileT, nltT, nleT, wrapI, hb, hx', g1, g2, hl, ih]
    | true =>
      obtain ⟨o, ho⟩ := (hg.ok i hx).there
      have hr := look_range ho
      have ho' := ho
      rw [RH.look_get, Option.map_eq_some_iff] at ho
      obtain ⟨e, he, rfl⟩ := ho
      obtain ⟨hem, _, hat⟩ := RH.get_mem he
      obtain ⟨ir, hir⟩ := RRep.some_row H hem
      have hrow := H.row ir hir
      have hhd := H.head
      have hsm := H.small e hem
      simp only [RH.sl, hir] at hhd
      have q1 : (os ++ [AObj.cells 1 (bs.map AVal.bool)])[ir]? = some (.cells 3 (rowR R.all)) := by rw [List.getElem?_append_left (lt_of_get hrow)]; exact hrow
      have q2 : (os ++ [AObj.cells 1 (bs.map AVal.bool)])[p]? = some (.cells 2 [.int .i64 R.bound, .slice (some (ir, 0)) R.all.length none]) := by rw [List.getElem?_append_left (lt_of_get hhd)]; exact hhd
      have h309 := fun os w => s309 (os := os) (b := b) (w := w) (t := e.o.typ) (n := e.o.cells.length) (by omega)
      have hat' : R.all[i - 1]? = some e := by simpa using hat
      obtain ⟨_, k2, k3⟩ := rowR_get hat'
      have hsz : szR R i = sizeN e.o.typ e.o.cells.length := by unfold szR; rw [ho']
      have hle := liveR_le H bs i (by omega)
      have hle2 := sizeN_le e.o.typ e.o.cells.length
      simp only [if_true, hsz, Int.natCast_add] at ih
      have g3 : (1 : Int) ≤ (i : Int) := by omega
      have g4 : (i : Int) - 1 < (R.all.length : Int) := by omega
      have g5 : ((i : Int) - 1).toNat = i - 1 := by omega
      simp (disch := omega) [-getElem?_pos, -getElem?_neg, code310L0, iltT, ileT, nltT, nleT, wrapI, hb, hx', g1, g2, g3, g4, g5, hl, q1, q2, k2, k3, h309, ih]

theorem s310 {roots : List V} {a : Option (Nat × Nat)} {c : Option Nat} (hR : Row os 2 V.cs roots a) (hn : roots.length ≤ 1000000) (hb : b ≤ os.length) :
    ∃ bs, GoingR R roots bs [] ∧ ∀ w, xCall T 310 [.ptr (some (p, 0)), .slice a roots.length c] ⟨os, b, w⟩ = some (.int .i64 (liveR R bs (R.all.length + 1) : Nat), ⟨os, b, w⟩) := by
  obtain ⟨bs, hg, h293⟩ := s293 H (c := c) hR hn hb
  refine ⟨bs, hg, fun w => ?_⟩
  have hl := fun w (k : AExit → St → Option (AVal × Heap)) => l310 (b := b) H hg k (R.all.length + 1) 0 (by omega) w
  have h0 : liveR R bs 0 = 0 := rfl
  simp only [h0, Int.cast_ofNat_Int] at hl
  simp (disch := omega) [-getElem?_pos, -getElem?_neg, xCallK t310, code310, h293, hl]
end

/-- Both tell the same. -/
structure Agr (S : HS) (R : RH) (roots : List V) : Prop where
  sub : ∀ n o, S.look n = some o → R.look n = some o
  there : ∀ n, Reach R.look roots n → ∃ o, S.look n = some o

theorem sum_filter (f : Nat → Nat) (q : Nat → Bool) : ∀ l : List Nat, (l.map fun k => if q k then f k else 0).sum = ((l.filter q).map f).sum
  | [] => rfl
  | x :: l => by
    rw [List.map_cons, List.sum_cons, sum_filter f q l, List.filter_cons]
    split <;> simp

theorem live_eq {S : HS} {R : RH} {roots : List V} {seen : List Int} {bs : List Bool} (hnd : (S.ents.map Ent.n).Nodup) (hA : Agr S R roots) (hs : Going S roots seen []) (hr : GoingR R roots bs []) : liveR R bs (R.all.length + 1) = liveN S seen := by
  rw [← sum_seen hnd hs.nd hs.there]
  unfold liveR
  rw [sum_filter (fun k => szR R k) (fun k => bs.getD k false)]
  have hsz : seen.map (szAt S) = seen.map (szR R) := List.map_congr_left fun n hn => by
    obtain ⟨e, he⟩ := hs.there n hn
    have h1 := look_some he
    have h2 := hA.sub n _ h1
    unfold szAt szR
    rw [he, h2]; rfl
  rw [hsz, show ((List.range (R.all.length + 1)).filter fun k => bs.getD k false).map (fun k : Nat => szR R (k : Int)) = (((List.range (R.all.length + 1)).filter fun k => bs.getD k false).map (fun k : Nat => (k : Int))).map (szR R) by rw [List.map_map]; rfl]
  refine (List.Perm.map _ ((List.perm_ext_iff_of_nodup ?_ hs.nd).2 fun n => ?_)).sum_nat
  · refine List.Pairwise.map _ (fun a b hab h => hab (by omega)) (List.filter_sublist.nodup List.nodup_range)
  · rw [going_end hs, Reach.same hA.sub hA.there, List.mem_map]
    constructor
    · rintro ⟨k, hk, rfl⟩
      rw [List.mem_filter] at hk
      refine (goingR_end hr k).1 ?_
      have := hk.2
      simp only [List.getD] at this
      cases hq : bs[k]? with
      | none => rw [hq] at this; simp at this
      | some x => rw [hq] at this; simp at this; rw [this]
    · intro h
      obtain ⟨o, ho⟩ := h.there
      have hrg := look_range ho
      have e : ((n.toNat : Nat) : Int) = n := by omega
      have := (goingR_end hr n.toNat).2 (by rw [e]; exact h)
      refine ⟨n.toNat, List.mem_filter.2 ⟨by rw [List.mem_range]; omega, by simp [List.getD, this]⟩, e⟩

end Go.Abs.AbsHeap

/-
  Layer 27: the reference makes an object.
-/
namespace Go.Abs.AbsHeap
set_option maxRecDepth 100000
set_option linter.unusedSimpArgs false
variable {O os : List AObj} {b w : Nat} {β : Type}

theorem l296 (k : AExit → St → Option β) {P c t : AVal} {r n : Nat} (hb : b ≤ r) (hn : n ≤ 1000000000000) : ∀ (j i : Nat), i + j = n → ∀ (O : List AObj) (w : Nat), O[r]? = some (.cells 2 (rowC (List.replicate i ⟨0, true⟩ ++ List.replicate j ⟨0, false⟩))) →
    ∃ w', xK T (.loop code296L0) ⟨[(0, .val P), (12, .var [c, t, .slice (some (r, 0)) n (some n)]), (51, .val (.int .i64 (n : Nat))), (52, .val (.int .i64 (i : Nat)))], ⟨O, b, w⟩⟩ (k := ⟨k⟩) =
      k (.exit 0) ⟨[(0, .val P), (12, .var [c, t, .slice (some (r, 0)) n (some n)])], ⟨O.set r (.cells 2 (rowC (List.replicate n ⟨0, true⟩))), b, w'⟩⟩ ∧ w' ≤ w ∧ min w r ≤ w'
  | 0, i, hi, O, w, hr => by
    refine ⟨w, ?_, Nat.le_refl _, Nat.min_le_left _ _⟩
    have hO : O.set r (.cells 2 (rowC (List.replicate n ⟨0, true⟩))) = O := set_same (by rw [hr]; simp [show i = n by omega])
    rw [xK_loop, hO]
    simp (disch := omega) [-getElem?_pos, -getElem?_neg, code296L0, iltF]
  | j + 1, i, hi, O, w, hr => by
    have hlr := lt_of_get hr
    have hset : (List.replicate i (⟨0, true⟩ : V) ++ List.replicate (j + 1) (⟨0, false⟩ : V)).set i (⟨0, true⟩ : V) = List.replicate (i + 1) (⟨0, true⟩ : V) ++ List.replicate j (⟨0, false⟩ : V) := by
      rw [List.set_append_right _ _ (by simp), List.length_replicate, Nat.sub_self, List.replicate_succ (a := (⟨0, false⟩ : V)), List.replicate_succ' (a := (⟨0, true⟩ : V)), List.set_cons_zero, List.append_assoc]
      rfl
    obtain ⟨w', h1, h2, h3⟩ := l296 k (P := P) (c := c) (t := t) hb hn j (i + 1) (by omega) (O.set r (.cells 2 (rowC (List.replicate (i + 1) ⟨0, true⟩ ++ List.replicate j ⟨0, false⟩)))) (min w r) (by rw [List.getElem?_set_self hlr])
    rw [List.set_set] at h1
    refine ⟨w', ?_, by omega, by omega⟩
    have e : ((i + 1 : Nat) : Int) = (i : Int) + 1 := by omega
    rw [e] at h1
    have hlen : (rowC (List.replicate i (⟨0, true⟩ : V) ++ List.replicate (j + 1) ⟨0, false⟩)).length = n * 2 := by simp; omega
    have hsp2 := set_ref (List.replicate i (⟨0, true⟩ : V) ++ List.replicate (j + 1) ⟨0, false⟩) i 0 false (by simp)
    rw [hset] at hsp2
    rw [xK_loop]
    generalize ACode.loop code296L0 = LL at h1 ⊢
    simp (disch := omega) [-getElem?_pos, -getElem?_neg, code296L0, iltT, ileT, nltT, nleT, wrapI, hr, hlen, hsp2, h1]

/-- The memory while the reference makes an object: its head, the old row of objects. -/
def NO (O : List AObj) (p : Nat) (i : Option Nat) (A D : AObj) (X : List AObj) : List AObj := (match i with
  | some i => (O.set p A).set i D
  | none => O.set p A) ++ X

section
variable {p : Nat} {i : Option Nat} {A D : AObj} {X : List AObj}
theorem NO_p (hp : p < O.length) (hi : ∀ j, i = some j → p ≠ j) : (NO O p i A D X)[p]? = some A := by
  unfold NO
  cases i with
  | none => rw [List.getElem?_append_left (by simpa using hp), List.getElem?_set_self hp]
  | some j => simp only; rw [List.getElem?_append_left (by simpa using hp), List.getElem?_set_ne (hi j rfl).symm, List.getElem?_set_self hp]
theorem NO_i {j : Nat} (hj : j < O.length) : (NO O p (some j) A D X)[j]? = some D := by
  unfold NO
  simp only
  rw [List.getElem?_append_left (by simpa using hj), List.getElem?_set_self (by simpa using hj)]
theorem NO_x (k : Nat) : (NO O p i A D X)[O.length + k]? = X[k]? := by
  unfold NO
  cases i <;> (simp only; rw [List.getElem?_append_right (by simp)]; simp)
theorem NO_x0 : (NO O p i A D X)[O.length]? = X[0]? := NO_x 0
theorem NO_old {j : Nat} (hj : j < O.length) (h1 : j ≠ p) (h2 : i ≠ some j) : (NO O p i A D X)[j]? = O[j]? := by
  unfold NO
  cases i with
  | none => simp only; rw [List.getElem?_append_left (by simpa using hj), List.getElem?_set_ne h1.symm]
  | some q => simp only; rw [List.getElem?_append_left (by simpa using hj), List.getElem?_set_ne (fun h => h2 (by rw [h])), List.getElem?_set_ne h1.symm]
theorem NO_len : (NO O p i A D X).length = O.length + X.length := by unfold NO; cases i <;> simp
theorem NO_push (l : List AObj) : NO O p i A D X ++ l = NO O p i A D (X ++ l) := by unfold NO; rw [List.append_assoc]
theorem NO_set_p (hp : p < O.length) (hi : ∀ j, i = some j → p ≠ j) (A' : AObj) : (NO O p i A D X).set p A' = NO O p i A' D X := by
  unfold NO
  cases i with
  | none => simp only; rw [List.set_append_left _ _ (by simpa using hp), List.set_set]
  | some j => simp only; rw [List.set_append_left _ _ (by simpa using hp), List.set_comm _ _ (hi j rfl).symm, List.set_set]
theorem NO_set_i {j : Nat} (hj : j < O.length) (D' : AObj) : (NO O p (some j) A D X).set j D' = NO O p (some j) A D' X := by
  unfold NO
  simp only
  rw [List.set_append_left _ _ (by simpa using hj), List.set_set]
theorem NO_set_x (o : AObj) : (NO O p i A D X).set O.length o = NO O p i A D (X.set 0 o) := by
  unfold NO
  cases i <;> (simp only; rw [List.set_append_right _ _ (by simp)]; simp)
theorem NO_new (h1 : O[p]? = some A) (h2 : ∀ j, i = some j → O[j]? = some D) (X : List AObj) : O ++ X = NO O p i A D X := by
  unfold NO
  cases i with
  | none => simp only; rw [set_same h1]
  | some j => simp only; rw [set_same h1, set_same (h2 j rfl)]
end

def RH.add (R : RH) (i r : Nat) (cls : Int) (t : List UInt8) (n : Nat) : RH := { R with row := some i, all := R.all ++ [⟨r, ⟨cls, t, cells0 t n⟩⟩] }

/-- What the reference's making comes to. -/
inductive MkR (R : RH) (roots : List V) (cls : Int) (t : List UInt8) (n : Int) : Int → Int → RH → Prop
  | arg : n < 0 → MkR R roots cls t n 0 1 R
  | big : 1099511627776 < n → MkR R roots cls t n 0 10 R
  | full {bs : List Bool} : 0 ≤ n → n ≤ 1099511627776 → GoingR R roots bs [] → R.bound - (liveR R bs (R.all.length + 1) : Nat) < (sizeN t n.toNat : Nat) → MkR R roots cls t n 0 10 R
  | made {bs : List Bool} {i r : Nat} : 0 ≤ n → n ≤ 1099511627776 → GoingR R roots bs [] → (sizeN t n.toNat : Nat) ≤ R.bound - (liveR R bs (R.all.length + 1) : Nat) → MkR R roots cls t n ((R.all.length : Int) + 1) 0 (R.add i r cls t n.toNat)

theorem rowR_app (l m : List REnt) : rowR (l ++ m) = rowR l ++ rowR m := by simp [rowR]

section
variable {p : Nat} {R : RH} {b0 : Nat} (H : RRep os b0 p R)
include H

theorem RRep.add {cls : Int} {t : List UInt8} {n : Nat} (hn : n ≤ 1000000) (hl : R.all.length < 1000000) (Y : AObj) (D : AObj) :
    RRep (NO os p R.row (.cells 2 [.int .i64 R.bound, .slice (some (os.length + 2, 0)) (R.all.length + 1) Option.none]) D [.cells 2 (rowC (cells0 t n)), Y, .cells 3 (rowR R.all ++ [.int .i64 cls, .str t, .slice (some (os.length, 0)) n (some n)])]) b0 p (R.add (os.length + 2) os.length cls t n) := by
  have hhd := H.head
  have hp := lt_of_get hhd
  have hcl : (cells0 t n).length = n := by simp [cells0]
  have hpi : ∀ j, R.row = some j → p ≠ j := fun j hj h => by
    have := H.row j hj
    rw [← h, hhd] at this; simp at this
  refine ⟨?_, fun h => (by cases h), fun i _ => by simp [RH.add], fun i hi => ?_, fun e he => ?_, ?_, fun i hi => ?_, fun e he => ?_, ?_⟩
  · rw [NO_p hp hpi]
    simp [RH.add, RH.sl]
  · simp only [RH.add, Option.some.injEq] at hi
    subst hi
    rw [NO_x 2]
    simp [RH.add, rowR_app, rowR, REnt.cs, hcl]
  · simp only [RH.add, List.mem_append, List.mem_singleton] at he
    rcases he with he | rfl
    · obtain ⟨n1, n2⟩ := RRep.ne H he
      have := H.cells e he
      rw [NO_old (lt_of_get this) n1 (fun h => (n2 _ h).1 rfl)]
      exact this
    · rw [NO_x0]; rfl
  · simp only [RH.add, List.map_append, List.map_cons, List.map_nil]
    rw [List.nodup_append]
    refine ⟨H.rd, by simp, fun x hx y hy => ?_⟩
    rw [List.mem_map] at hx
    obtain ⟨e, he, rfl⟩ := hx
    have := lt_of_get (H.cells e he)
    simp at hy; omega
  · have hb0 := H.low p (.inl rfl)
    rcases hi with h | h | ⟨e, he, h⟩
    · exact H.low i (.inl h)
    · simp only [RH.add, Option.some.injEq] at h; omega
    · simp only [RH.add, List.mem_append, List.mem_singleton] at he
      rcases he with he | rfl
      · exact H.low i (.inr (.inr ⟨e, he, h⟩))
      · simp only at h; omega
  · simp only [RH.add, List.mem_append, List.mem_singleton] at he
    rcases he with he | rfl
    · exact H.small e he
    · simpa [hcl] using hn
  · simp [RH.add]; omega

end

theorem Upd_addR {p : Nat} {R : RH} {A D : AObj} {X : List AObj} {cls : Int} {t : List UInt8} {n : Nat} : Upd os (NO os p R.row A D X) (R.fp p) ((R.add (os.length + 2) os.length cls t n).fp p) := by
  refine ⟨by rw [NO_len]; omega, fun i hi hn => NO_old hi (fun h => hn (.inl h)) (fun h => hn (.inr (.inl h))), fun i hi => ?_⟩
  rcases hi with h | h | ⟨e, he, h⟩
  · exact .inl (.inl h)
  · simp only [RH.add, Option.some.injEq] at h; exact .inr (by omega)
  · simp only [RH.add, List.mem_append, List.mem_singleton] at he
    rcases he with he | rfl
    · exact .inl (.inr (.inr ⟨e, he, h⟩))
    · simp only at h; exact .inr (by omega)
end Go.Abs.AbsHeap

/-
  Layer 27: the reference makes an object: its run.
-/
namespace Go.Abs.AbsHeap
set_option maxRecDepth 100000
set_option linter.unusedSimpArgs false
variable {O os : List AObj} {b w : Nat} {β : Type}

theorem ids_rowR : ∀ (l : List REnt) (x : Nat), x ∈ AVal.idsL (rowR l) → ∃ e ∈ l, x = e.r
  | [], x, h => by simp [rowR, AVal.idsL] at h
  | e :: l, x, h => by
    have e1 : rowR (e :: l) = e.cs ++ rowR l := rfl
    rw [e1, idsL_app] at h
    rcases List.mem_append.1 h with h | h
    · simp only [REnt.cs, AVal.idsL, AVal.ids, List.nil_append, List.append_nil, List.mem_singleton] at h
      exact ⟨e, List.mem_cons_self .., h⟩
    · obtain ⟨e', h1, h2⟩ := ids_rowR l x h
      exact ⟨e', List.mem_cons_of_mem _ h1, h2⟩

def pa296 : ACode := match code296.body with | .seq a _ => a | _ => .skip
def pb296 : ACode := match code296.body with | .seq _ (.seq a _) => a | _ => .skip
def pc296 : ACode := match code296.body with | .seq _ (.seq _ (.seq a _)) => a | _ => .skip
def pd296 : ACode := match code296.body with | .seq _ (.seq _ (.seq _ (.seq a _))) => a | _ => .skip
def pe296 : ACode := match code296.body with | .seq _ (.seq _ (.seq _ (.seq _ (.seq a _)))) => a | _ => .skip
def tail296 : ACode := match code296.body with | .seq _ (.seq _ (.seq _ (.seq _ (.seq _ c)))) => c | _ => .skip
theorem body296 : code296.body = .seq pa296 (.seq pb296 (.seq pc296 (.seq pd296 (.seq pe296 tail296)))) := rfl

section
variable {p : Nat} {R : RH} {b0 : Nat} (H : RRep os b0 p R)
include H

theorem RRep.ppi (j : Nat) (hj : R.row = some j) : p ≠ j := fun h => by
  have hhd := H.head
  have := H.row j hj
  rw [← h, hhd] at this; simp at this

set_option maxHeartbeats 2000000 in
theorem tail296_run (hb : b ≤ b0) {cls : Int} {t : List UInt8} {n : Nat} {Z : AObj} (hl : R.all.length < 1000000) (h0 : Heap) (hw : b0 ≤ w) :
    ∃ w', w' ≤ p ∧ b0 ≤ w' ∧ xK T tail296 ⟨[(0, .val (.ptr (some (p, 0)))), (12, .var [.int .i64 cls, .str t, .slice (some (os.length, 0)) n (some n)])], ⟨os ++ [Z], b, w⟩⟩ (k := ⟨retK code296 h0⟩) =
      some (finish h0 (.tuple [.int .i64 ((R.all.length : Int) + 1), .int .i64 0]) ⟨NO os p R.row (.cells 2 [.int .i64 R.bound, .slice (some (os.length + 2, 0)) (R.all.length + 1) none]) .dead [Z, .cells 3 [.int .i64 cls, .str t, .slice (some (os.length, 0)) n (some n)], .cells 3 (rowR R.all ++ [.int .i64 cls, .str t, .slice (some (os.length, 0)) n (some n)])], b, w'⟩) := by
  have hhd := H.head
  have hp := lt_of_get hhd
  have hbp0 := H.low p (.inl rfl)
  have hbp : b ≤ p := by omega
  have hpi := RRep.ppi H
  cases hrow : R.row with
  | none =>
    have hal := H.nor hrow
    have hal0 : R.all.length = 0 := by rw [hal]; rfl
    simp only [RH.sl, hrow] at hhd
    have hno := fun X => NO_new (i := none) (D := AObj.dead) hhd (fun j hj => by cases hj) X
    have hp2 := fun A D X => NO_p (i := none) (A := A) (D := D) (X := X) hp (by intro j hj; cases hj)
    have hps := fun A D X => NO_set_p (i := none) (A := A) (D := D) (X := X) hp (by intro j hj; cases hj)
    refine ⟨min w p, by omega, by omega, ?_⟩
    have hz0 : rowR [] = [] := rfl
    simp only [hal, List.length_nil, hz0, List.nil_append]
    simp (maxSteps := 3000000) (disch := omega) [-getElem?_pos, -getElem?_neg, -finish, List.getElem?_cons_zero, List.getElem?_cons_succ, tail296, code296, iltT, iltF, nltT, nltF, nleT, hno, hp2, hps, NO_x, NO_x0, NO_len, NO_push, Nat.testBit_eq_decide_div_mod_eq]
  | some i =>
    have hri := H.row i hrow
    have hal := H.sor i hrow
    have hil := lt_of_get hri
    have hbi := H.low i (.inr (.inl hrow))
    have hpi := hpi i hrow
    simp only [RH.sl, hrow] at hhd
    have hno := fun X => NO_new (i := some i) hhd (fun j hj => by cases hj; exact hri) X
    have hp2 := fun A D X => NO_p (A := A) (D := D) (X := X) hp (fun j hj => by cases hj; exact hpi : ∀ j, some i = some j → p ≠ j)
    have hps := fun A D X => NO_set_p (A := A) (D := D) (X := X) hp (fun j hj => by cases hj; exact hpi : ∀ j, some i = some j → p ≠ j)
    have hi2 := fun A D X => NO_i (p := p) (A := A) (D := D) (X := X) hil
    have his := fun A D X => NO_set_i (p := p) (A := A) (D := D) (X := X) hil
    refine ⟨min (min w i) p, by omega, by omega, ?_⟩
    have hb1 : b ≤ i := by omega
    have hal0 : R.all.length ≠ 0 := fun h => hal (List.eq_nil_of_length_eq_zero h)
    have htr : List.take (R.all.length * 3) (rowR R.all) = rowR R.all := List.take_of_length_le (by simp)
    have z3 : (R.all.length + 1) * 48 ≤ 140737488355328 := by omega
    have z4 : R.all.length ≤ 9223372036854775806 := by omega
    have hi3 : ¬ i = os.length + 2 := by omega
    have hids : (∀ (x : Nat), x ∈ AVal.idsL (rowR R.all) → x < os.length + 1 ∨ os.length + 1 ≤ x ∧ x < os.length + 1 ∨ os.length + 1 ≤ x ∧ x < os.length + 1 + 1) = True := eq_true fun x hx => by
      obtain ⟨e, he, rfl⟩ := ids_rowR _ x hx
      have := lt_of_get (H.cells e he)
      exact .inl (by omega)
    simp (maxSteps := 3000000) (disch := omega) [-getElem?_pos, -getElem?_neg, -finish, List.getElem?_cons_zero, List.getElem?_cons_succ, tail296, code296, iltT, iltF, nltT, nltF, nleT, hno, hp2, hps, hi2, his, NO_x, NO_x0, NO_len, NO_push, Nat.testBit_eq_decide_div_mod_eq, hal, htr, z3, z4, hids, hi3]

set_option maxHeartbeats 1000000 in
theorem s296 (hb : b ≤ b0) {cls : Int} {t : List UInt8} {roots : List V} {a : Option (Nat × Nat)} {c : Option Nat} (hR : Row os 2 V.cs roots a) (hrn : roots.length ≤ 1000000) (n : Int) (hbd : R.bound ≤ 100000 ∧ -9000000000000000000 ≤ R.bound) (hl : R.all.length < 1000000) :
    ∃ R' num code os', MkR R roots cls t n num code R' ∧ RRep os' b0 p R' ∧ Upd os os' (R.fp p) (R'.fp p) ∧
      ∀ w, ∃ w', min w b0 ≤ w' ∧ xCall T 296 [.ptr (some (p, 0)), .int .i64 cls, .str t, .int .i64 n, .slice a roots.length c] ⟨os, b, w⟩ = some (.tuple [.int .i64 num, .int .i64 code], ⟨os', b, w'⟩) := by
  have hhd := H.head
  have hp := lt_of_get hhd
  have hbp0 := H.low p (.inl rfl)
  by_cases hn : n < 0
  · refine ⟨R, 0, 1, os, .arg hn, H, Upd.refl _ _, fun w => ⟨w, Nat.min_le_left _ _, ?_⟩⟩
    simp (disch := omega) [-getElem?_pos, -getElem?_neg, xCallK t296, code296, iltT]
  by_cases hbig : 1099511627776 < n
  · refine ⟨R, 0, 10, os, .big hbig, H, Upd.refl _ _, fun w => ⟨w, Nat.min_le_left _ _, ?_⟩⟩
    simp (disch := omega) [-getElem?_pos, -getElem?_neg, xCallK t296, code296, iltT, iltF]
  obtain ⟨nn, rfl⟩ : ∃ nn : Nat, n = nn := ⟨n.toNat, by omega⟩
  have hsz := sizeN_le t nn
  have h309 := fun os w => s309 (os := os) (b := b) (w := w) (t := t) (n := nn) (by omega)
  obtain ⟨bs, hg, h310⟩ := s310 H (c := c) hR hrn (show b ≤ os.length by omega)
  have hll := liveR_le H bs (R.all.length + 1) (by omega)
  by_cases hfit : (sizeN t nn : Nat) ≤ R.bound - (liveR R bs (R.all.length + 1) : Nat)
  · have hnn : nn ≤ 1000000 := size_n (t := t) (by omega)
    have hz : (List.replicate nn [AVal.int .i64 0, AVal.bool false]).flatten = rowC (List.replicate nn ⟨0, false⟩) := (rowC_rep nn ⟨0, false⟩).symm
    have z1 : (nn : Int) * 16 ≤ 140737488355328 := by omega
    have z2 : (nn : Int) ≤ 9223372036854775807 := by omega
    have hbp : b ≤ p := by omega
    refine ⟨_, (R.all.length : Int) + 1, 0, _, .made (i := os.length + 2) (r := os.length) (by omega) (by omega) hg (by rw [Int.toNat_natCast]; omega), RRep.add H hnn hl (.cells 3 [.int .i64 cls, .str t, .slice (some (os.length, 0)) nn (some nn)]) .dead, Upd_addR, fun w => ?_⟩
    by_cases hr : refT t = true
    · obtain ⟨⟨c1, c2⟩, c3⟩ : (¬ t = [] ∧ ¬ t = [91, 73]) ∧ ¬ t = [91, 66] := by simpa [refT] using hr
      have hc0 : cells0 t nn = List.replicate nn ⟨0, true⟩ := by simp [cells0, hr]
      obtain ⟨w1, j1, j2, j3⟩ := l296 (β := AExit × St) (b := b) (fun e st => some (e, st)) (P := .ptr (some (p, 0))) (c := .int .i64 cls) (t := .str t) (r := os.length) (by omega) (show nn ≤ 1000000000000 by omega) nn 0 (by omega) (os ++ [.cells 2 (rowC (List.replicate nn ⟨0, false⟩))]) os.length (by simp)
      have hl1 := fun (k : AExit → St → Option (AVal × Heap)) => xK_of (k := k) (xCode_of j1)
      have hset : (os ++ [AObj.cells 2 (rowC (List.replicate nn ⟨0, false⟩))]).set os.length (.cells 2 (rowC (List.replicate nn ⟨0, true⟩))) = os ++ [AObj.cells 2 (rowC (List.replicate nn ⟨0, true⟩))] := by simp
      rw [hset] at hl1
      obtain ⟨w2, k1, k2, k3⟩ := tail296_run H (w := w1) hb (cls := cls) (t := t) (n := nn) (Z := .cells 2 (rowC (List.replicate nn ⟨0, true⟩))) hl ⟨os, b, w⟩ (by omega)
      rw [finish_low (by show w2 < os.length; omega)] at k3
      refine ⟨min w w2, by omega, ?_⟩
      rw [xCallK t296, body296, hc0]
      simp only [Int.cast_ofNat_Int] at hl1
      generalize hLL : ACode.loop code296L0 = LL at hl1
      simp (disch := omega) [-getElem?_pos, -getElem?_neg, -finish, pa296, pb296, pc296, pd296, pe296, code296, iltF, h309, h310, hhd, wrapI, hz, z1, z2, c1, c2, c3, hLL, hl1, k3]
    · have hc0 : cells0 t nn = List.replicate nn ⟨0, false⟩ := by simp [cells0, Bool.eq_false_iff.2 hr]
      obtain ⟨w2, k1, k2, k3⟩ := tail296_run H (w := os.length) hb (cls := cls) (t := t) (n := nn) (Z := .cells 2 (rowC (List.replicate nn ⟨0, false⟩))) hl ⟨os, b, w⟩ (by omega)
      rw [finish_low (by show w2 < os.length; omega)] at k3
      refine ⟨min w w2, by omega, ?_⟩
      rw [xCallK t296, body296, hc0]
      rcases Decidable.em (t = []) with c1 | c1
      · subst c1
        simp (disch := omega) [-getElem?_pos, -getElem?_neg, -finish, pa296, pb296, pc296, pd296, pe296, code296, iltF, h309, h310, hhd, wrapI, hz, z1, z2, k3]
      · rcases Decidable.em (t = [91, 73]) with c2 | c2
        · subst c2
          simp (disch := omega) [-getElem?_pos, -getElem?_neg, -finish, pa296, pb296, pc296, pd296, pe296, code296, iltF, h309, h310, hhd, wrapI, hz, z1, z2, k3]
        · have c3 : t = [91, 66] := by simpa [refT, c1, c2] using hr
          subst c3
          simp (disch := omega) [-getElem?_pos, -getElem?_neg, -finish, pa296, pb296, pc296, pd296, pe296, code296, iltF, h309, h310, hhd, wrapI, hz, z1, z2, k3]
  · refine ⟨R, 0, 10, os, .full (by omega) (by omega) hg (by rw [Int.toNat_natCast]; omega), H, Upd.refl _ _, fun w => ⟨w, Nat.min_le_left _ _, ?_⟩⟩
    simp (disch := omega) [-getElem?_pos, -getElem?_neg, xCallK t296, code296, iltT, iltF, h309, h310, hhd, wrapI]
end
end Go.Abs.AbsHeap

/-
  Layer 27: do both tell the same?
-/
namespace Go.Abs.AbsHeap
set_option maxRecDepth 100000
set_option linter.unusedSimpArgs false
variable {O os : List AObj} {b w : Nat} {β : Type}

/-- An array has no class. -/
def RH.WF (R : RH) : Prop := ∀ n o, R.look n = some o → o.typ ≠ [] → o.cls = -1

section
variable {p q : Nat} {S : HS} {R : RH} {b0 : Nat} (H : HRep os b0 p S) (G : RRep os b0 q R)
include H G

theorem l316a {Z : AObj} {e : Ent} {f : REnt} {n : Int} {x y z : AVal} (hf : S.find n = some e) (hg : R.get n = some f) (ho : e.o = f.o) (k : AExit → St → Option β) : ∀ j i, i + j = f.o.cells.length → ∀ w,
    xK T (.loop code316L0) ⟨[(0, .val (.ptr (some (p, 0)))), (1, .val (.ptr (some (q, 0)))), (9, .val (.int .i64 n)), (30, .val x), (31, .val y), (32, .val z), (99, .val (.slice (some (f.r, 0)) f.o.cells.length (some f.o.cells.length))), (100, .val (.int .i64 (f.o.cells.length : Nat))), (101, .val (.int .i64 (i : Nat)))], ⟨os ++ [Z], b, w⟩⟩ (k := ⟨k⟩) =
      k (.exit 2) ⟨[(0, .val (.ptr (some (p, 0)))), (1, .val (.ptr (some (q, 0)))), (30, .val x), (31, .val y), (32, .val z)], ⟨os ++ [Z], b, w⟩⟩
  | 0, i, hi, w => by
    rw [xK_loop]
    simp (disch := omega) [-getElem?_pos, -getElem?_neg, code316L0, iltF]
  | j + 1, i, hi, w => by
    have ih := l316a (Z := Z) (x := x) (y := y) (z := z) hf hg ho k j (i + 1) (by omega) w
    have e1 : ((i + 1 : Nat) : Int) = (i : Int) + 1 := by omega
    rw [e1] at ih
    obtain ⟨v, hv⟩ : ∃ v, f.o.cells[i]? = some v := ⟨_, List.getElem?_eq_getElem (by omega)⟩
    have hfm := (RH.get_mem hg).1
    have hsm := G.small f hfm
    have hc := G.cells f hfm
    have hc' : (os ++ [Z])[f.r]? = some (.cells 2 (rowC f.o.cells)) := by rw [List.getElem?_append_left (lt_of_get hc)]; exact hc
    obtain ⟨p1, p2⟩ := cell_at hv
    have h304 := fun w => s304 (b := b) (w := w) (H.app [Z]) n i
    have hgv : getV (S.find n) i = (v, 0) := by
      simp only [hf, getV, ho]
      rw [if_neg (by omega)]
      simp [List.getD, hv]
    simp only [hgv, V.cs] at h304
    simp only [V.cs] at p2
    rw [xK_loop]
    generalize ACode.loop code316L0 = LL at ih ⊢
    simp (disch := omega) [-getElem?_pos, -getElem?_neg, code316L0, iltT, ileT, nltT, nleT, wrapI, hc', p1, p2, h304, evEq, areKeys, CK.is, akeyL, akey1, ih]

theorem l316 {roots : List V} {bs : List Bool} (hA : Agr S R roots) (hW : R.WF) (hr : GoingR R roots bs []) (k : AExit → St → Option β) : ∀ j i, i + j = R.all.length + 1 → ∀ w,
    xK T (.loop code316L1) ⟨[(0, .val (.ptr (some (p, 0)))), (1, .val (.ptr (some (q, 0)))), (30, .val (.slice (some (os.length, 0)) (R.all.length + 1) (some (R.all.length + 1)))), (31, .val (.int .i64 ((R.all.length : Int) + 1))), (32, .val (.int .i64 (i : Nat)))], ⟨os ++ [.cells 1 (bs.map AVal.bool)], b, w⟩⟩ (k := ⟨k⟩) =
      k (.exit 0) ⟨[], ⟨os ++ [.cells 1 (bs.map AVal.bool)], b, w⟩⟩
  | 0, i, hi, w => by
    rw [xK_loop]
    simp (disch := omega) [-getElem?_pos, -getElem?_neg, code316L1, iltF]
  | j + 1, i, hi, w => by
    have ih := l316 hA hW hr k j (i + 1) (by omega) w
    have e1 : ((i + 1 : Nat) : Int) = (i : Int) + 1 := by omega
    rw [e1] at ih
    have hl := hr.len
    obtain ⟨x, hx⟩ : ∃ x, bs[i]? = some x := ⟨_, List.getElem?_eq_getElem (by omega)⟩
    have hx' : (bs.map AVal.bool)[i]? = some (.bool x) := by rw [List.getElem?_map, hx]; rfl
    have hrl := G.len
    have hb : (os ++ [AObj.cells 1 (bs.map AVal.bool)])[os.length]? = some (.cells 1 (bs.map AVal.bool)) := by simp
    have g1 : (i : Int) < (R.all.length : Int) + 1 := by omega
    have g2 : i + 1 ≤ bs.length := by omega
    rw [xK_loop]
    generalize ACode.loop code316L1 = LL at ih ⊢
    cases x with
    | false =>
      simp (disch := omega) [-getElem?_pos, -getElem?_neg, code316L1, iltT, ileT, nltT, nleT, wrapI, hb, hx', g1, g2, hl, ih]
    | true =>
      have hreach := hr.ok i hx
      obtain ⟨o, ho⟩ := hA.there _ hreach
      have ho2 := hA.sub _ _ ho
      obtain ⟨e, hf, heo⟩ := look_find ho
      have hwf := hW _ _ ho2
      rw [RH.look_get, Option.map_eq_some_iff] at ho2
      obtain ⟨f, hg, hfo⟩ := ho2
      have heq : e.o = f.o := heo.trans hfo.symm
      have hfm := (RH.get_mem hg).1
      have h314 := fun w => s314 (b := b) (w := w) (G.app [.cells 1 (bs.map AVal.bool)]) i
      have h290 := fun w => s290 (b := b) (w := w) (H.app [.cells 1 (bs.map AVal.bool)]) i
      have h306 := fun w => s306 (b := b) (w := w) (H.app [.cells 1 (bs.map AVal.bool)]) i
      simp only [RH.atV_get, hg, REnt.cs] at h314
      simp only [hf, heq] at h290 h306
      have hcr := lt_of_get (G.cells f hfm)
      have hin := fun w (k : AExit → St → Option β) (x y z : AVal) => l316a (b := b) (Z := .cells 1 (bs.map AVal.bool)) (x := x) (y := y) (z := z) H G hf hg heq k f.o.cells.length 0 (by omega) w
      simp only [Int.cast_ofNat_Int] at hin
      rw [hfo.symm] at hwf
      by_cases ht : f.o.typ = []
      · simp (disch := omega) [-getElem?_pos, -getElem?_neg, code316L1, iltT, ileT, nltT, nleT, wrapI, hb, hx', g1, g2, hl, h314, h290, h306, ht, hin, ih]
      · have hcls := hwf ht
        simp (disch := omega) [-getElem?_pos, -getElem?_neg, code316L1, iltT, ileT, nltT, nleT, wrapI, hb, hx', g1, g2, hl, h314, h290, h306, ht, hcls, hin, ih]

theorem s316 {roots : List V} {a : Option (Nat × Nat)} {c : Option Nat} (hR : Row os 2 V.cs roots a) (hn : roots.length ≤ 1000000) (hb : b ≤ b0) (hents : S.ents.length ≤ 1000000) (hA : Agr S R roots) (hW : R.WF) :
    xCall T 316 [.ptr (some (p, 0)), .ptr (some (q, 0)), .slice a roots.length c] ⟨os, b, w⟩ = some (.bool true, ⟨os, b, w⟩) := by
  have hb2 : b ≤ os.length := Nat.le_trans (Nat.le_trans hb (H.low p (.inl rfl))) (Nat.le_of_lt (lt_of_get H.head))
  obtain ⟨seen, hs, h303⟩ := s303 H (c := c) hR (by omega) hb2 hents
  obtain ⟨bs, hr, h310⟩ := s310 G (c := c) hR hn hb2
  obtain ⟨bs', hr', h293⟩ := s293 G (c := c) hR hn hb2
  have heq := live_eq H.nd hA hs hr
  have hl := fun w (k : AExit → St → Option (AVal × Heap)) => l316 (b := b) H G hA hW hr' k (R.all.length + 1) 0 (by omega) w
  simp only [Int.cast_ofNat_Int] at hl
  rw [heq] at h310
  simp (disch := omega) [-getElem?_pos, -getElem?_neg, xCallK t316, code316, h303, h310, h293, hl]
end
end Go.Abs.AbsHeap
