/-
  What a law is asked of: its arguments, as data, and where they lie in the machine's memory.
-/
import Derived.Test.YtnpjncdnlacmeaaAbsFin
import Derived.ChangeArms
import Derived.Handed
import Derived.Below
namespace Go.Abs
open Go.RowKit

/-- The shapes of types. -/
inductive Sh where
  | bool
  | int (k : IntKind)
  | str
  | slice (e : Sh)
  | struct (fs : List Sh)

mutual
def Sh.size : Sh → Nat
  | .struct fs => Sh.sizes fs
  | _ => 1
def Sh.sizes : List Sh → Nat
  | [] => 0
  | s :: r => s.size + Sh.sizes r
end

inductive Dat where
  | bool (b : Bool)
  | int (n : Int)
  | str (s : List UInt8)
  | nil
  | row (l : List Dat)
  | agg (l : List Dat)

mutual
/-- These cells are that datum; what it is made of lies in memory that nobody writes. -/
def Has (h : Heap) : Sh → Dat → List AVal → Prop
  | .bool, .bool b, cs => cs = [.bool b]
  | .int k, .int n, cs => cs = [.int k n] ∧ k.min ≤ n ∧ n ≤ k.max
  | .str, .str s, cs => cs = [.str s] ∧ s.length ≤ maxLen
  | .slice _, .nil, cs => cs = [.slice none 0 (some 0)]
  | .slice e, .row l, cs => l.length ≤ maxLen ∧ ∃ (i : Nat) (css : List (List AVal)), cs = [.slice (some (i, 0)) l.length none] ∧ i < h.base ∧ css.length = l.length ∧ (h.get i = some (.cells e.size css.flatten) ∨ (l = [] ∧ h.get i = some .dead)) ∧
      ∀ (k : Nat) (d : Dat) (c : List AVal), l[k]? = some d → css[k]? = some c → Has h e d c
  | .struct fs, .agg l, cs => HasL h fs l cs
  | _, _, _ => False
def HasL (h : Heap) : List Sh → List Dat → List AVal → Prop
  | [], [], cs => cs = []
  | s :: r, d :: l, cs => ∃ a b, cs = a ++ b ∧ Has h s d a ∧ HasL h r l b
  | _, _, _ => False
end

mutual
theorem Has.cells {h : Heap} : ∀ {s : Sh} {d : Dat} {cs : List AVal}, Has h s d cs → cs.length = s.size ∧ ∀ x ∈ cs, x.isOne = true
  | .bool, d, cs, hh => by cases d <;> simp only [Has] at hh; subst hh; simp [Sh.size, AVal.isOne]
  | .int k, d, cs, hh => by cases d <;> simp only [Has] at hh; obtain ⟨rfl, _⟩ := hh; simp [Sh.size, AVal.isOne]
  | .str, d, cs, hh => by cases d <;> simp only [Has] at hh; obtain ⟨rfl, _⟩ := hh; simp [Sh.size, AVal.isOne]
  | .slice e, d, cs, hh => by
    cases d <;> simp only [Has] at hh
    · subst hh; simp [Sh.size, AVal.isOne]
    · obtain ⟨_, _, _, rfl, _⟩ := hh; simp [Sh.size, AVal.isOne]
  | .struct fs, d, cs, hh => by
    cases d <;> simp only [Has] at hh
    have := HasL.cells hh
    simpa only [Sh.size] using this
theorem HasL.cells {h : Heap} : ∀ {fs : List Sh} {l : List Dat} {cs : List AVal}, HasL h fs l cs → cs.length = Sh.sizes fs ∧ ∀ x ∈ cs, x.isOne = true
  | [], l, cs, hh => by cases l <;> simp only [HasL] at hh; subst hh; simp [Sh.sizes]
  | s :: r, l, cs, hh => by
    cases l <;> simp only [HasL] at hh
    obtain ⟨a, b, rfl, h1, h2⟩ := hh
    obtain ⟨k1, k2⟩ := Has.cells h1
    obtain ⟨k3, k4⟩ := HasL.cells h2
    refine ⟨by simp [Sh.sizes, k1, k3], fun x hx => ?_⟩
    rcases List.mem_append.1 hx with hx | hx
    · exact k2 x hx
    · exact k4 x hx
end

/-- What nobody writes is as it was. -/
structure Heap.Ext (h h' : Heap) : Prop where
  base : h.base ≤ h'.base
  get : ∀ i, i < h.base → h'.get i = h.get i

theorem Heap.Ext.refl (h : Heap) : h.Ext h := ⟨Nat.le_refl _, fun _ _ => rfl⟩
theorem Heap.Ext.trans {a b c : Heap} (h : a.Ext b) (k : b.Ext c) : a.Ext c := ⟨Nat.le_trans h.base k.base, fun i hi => (k.get i (Nat.lt_of_lt_of_le hi h.base)).trans (h.get i hi)⟩

mutual
theorem Has.ext {h h' : Heap} (e : h.Ext h') : ∀ {s : Sh} {d : Dat} {cs : List AVal}, Has h s d cs → Has h' s d cs
  | .bool, d, cs, hh => by cases d <;> simp only [Has] at hh ⊢ <;> exact hh
  | .int k, d, cs, hh => by cases d <;> simp only [Has] at hh ⊢ <;> exact hh
  | .str, d, cs, hh => by cases d <;> simp only [Has] at hh ⊢ <;> exact hh
  | .slice e', d, cs, hh => by
    cases d <;> simp only [Has] at hh ⊢
    · exact hh
    · obtain ⟨h0, i, css, h1, h2, h3, h4, h5⟩ := hh
      refine ⟨h0, i, css, h1, Nat.lt_of_lt_of_le h2 e.base, h3, ?_, fun k d c hd hc => Has.ext e (h5 k d c hd hc)⟩
      rw [e.get i h2]; exact h4
  | .struct fs, d, cs, hh => by
    cases d <;> simp only [Has] at hh ⊢
    exact HasL.ext e hh
theorem HasL.ext {h h' : Heap} (e : h.Ext h') : ∀ {fs : List Sh} {l : List Dat} {cs : List AVal}, HasL h fs l cs → HasL h' fs l cs
  | [], l, cs, hh => by cases l <;> simp only [HasL] at hh ⊢; exact hh
  | s :: r, l, cs, hh => by
    cases l <;> simp only [HasL] at hh ⊢
    obtain ⟨a, b, e1, h1, h2⟩ := hh
    exact ⟨a, b, e1, Has.ext e h1, HasL.ext e h2⟩
end

/-! ## Shapes of the model's types -/

def shFields (P : Program) (g : TypeId → Option Sh) : Nat → List Field → Option (List Sh)
  | _, [] => some []
  | off, f :: r => match g f.type with
    | some s => if f.offset = off ∧ P.cellsOf f.type = s.size then (shFields P g (off + s.size) r).map (s :: ·) else none
    | none => none

def shOf (P : Program) : Nat → TypeId → Option Sh
  | 0, _ => none
  | n + 1, t => match P.underlying t with
    | some .bool => some .bool
    | some (.int k) => some (.int k)
    | some .string => some .str
    | some (.slice e) => match shOf P n e with
      | some s => if P.cellsOf e = s.size ∧ 0 < s.size then some (.slice s) else none
      | none => none
    | some (.struct fs) => match shFields P (shOf P n) 0 fs.toList with
      | some ss => if P.cellsOf t = Sh.sizes ss then some (.struct ss) else none
      | none => none
    | _ => none

/-! ## Memory that is there -/

def H0 (os : List AObj) : Heap := ⟨os, os.length, os.length⟩

theorem H0_ext (os zs : List AObj) : (H0 os).Ext (H0 (os ++ zs)) :=
  ⟨by simp [H0], fun i hi => by simp only [H0, Heap.get] at hi ⊢; rw [List.getElem?_append_left hi]⟩

section
variable {E : Env}

theorem ORel.base {μ : MM} {b b' i : Nat} {w : World} {o : AObj} (h : ORel E μ b i w o) (hi : i < b') : ORel E μ b' i w o := by
  cases o with
  | cells esz cs =>
    obtain ⟨m, c, e, fr, h1, h2, h3, h4, h5, h6, _⟩ := h
    exact ⟨m, c, e, fr, h1, h2, h3, h4, h5, h6, fun k => absurd hi (by omega)⟩
  | _ => exact h

/-- One object more, in a block that is there. -/
theorem Rel.view {μ : MM} {os : List AObj} {w : World} (hr : Rel E μ (H0 os) w) (o : AObj) (x : Option M) (ho : ORel E (μ ++ [x]) (os.length + 1) os.length w o) (hx : ∀ m, x = some m → m.blk < w.heap.size) :
    Rel E (μ ++ [x]) (H0 (os ++ [o])) w := by
  have hlen : μ.length = os.length := hr.len
  constructor
  · simp [H0, hlen]
  · simp [H0]
  · intro i o' hi
    simp only [H0] at hi ⊢
    rcases Nat.lt_or_ge i os.length with h1 | h1
    · rw [List.getElem?_append_left h1] at hi
      refine ((hr.obj i o' hi).keep (later_push μ x) fun m hm => ⟨?_, rfl⟩).base (by simp; omega)
      rw [List.getElem?_append_left (by omega)]; exact hm
    · have := lt_of_get hi
      simp at this
      have e : i = os.length := by omega
      subst e
      simp at hi; subst hi
      simpa using ho
  · intro i j mi mj _ hi hmi _
    have := lt_of_get hmi
    simp [H0] at hi this
    omega
  · intro i m hm
    rcases get_push hm with h1 | ⟨_, h1⟩
    · exact hr.lt i m h1
    · exact hx m h1

theorem VRels.push {μ ν : MM} {as : List AVal} {l : List Value} (h : VRels E μ as l) : VRels E (μ ++ ν) as l :=
  h.later ⟨by simp, fun i hi => .inl (List.getElem?_append_left hi)⟩

theorem cell_block {w : World} {a : Addr} {v : Value} (h : w.cell? a = some v) : ∃ c e fr, w.heap[a.block]? = some (.cells c e fr) ∧ a.spot = none ∧ c[a.off]? = some v := by
  unfold World.cell? at h
  split at h
  · rename_i c e fr hb
    split at h
    · cases h
    · rename_i hs
      exact ⟨c, e, fr, hb, by simpa using hs, h⟩
  · cases h

theorem add_off {a : Addr} (hs : a.spot = none) (n : Nat) : a.add n = ⟨a.block, a.off + n, none⟩ := by
  unfold Addr.add
  cases a
  simp only at hs
  subst hs
  split <;> simp_all

theorem flatten_get {sz : Nat} : ∀ {css : List (List AVal)} {k : Nat} {v : AVal}, (∀ c ∈ css, c.length = sz) → css.flatten[k]? = some v → ∃ q r c, k = q * sz + r ∧ r < sz ∧ css[q]? = some c ∧ c[r]? = some v
  | [], k, v, _, h => by simp at h
  | c :: css, k, v, hl, h => by
    simp only [List.flatten_cons] at h
    have hc := hl c (List.mem_cons_self ..)
    rcases Nat.lt_or_ge k c.length with h1 | h1
    · rw [List.getElem?_append_left h1] at h
      exact ⟨0, k, c, by omega, by omega, rfl, h⟩
    · rw [List.getElem?_append_right h1] at h
      obtain ⟨q, r, c', e, hr, h2, h3⟩ := flatten_get (fun x hx => hl x (List.mem_cons_of_mem _ hx)) h
      refine ⟨q + 1, r, c', ?_, hr, by simpa using h2, h3⟩
      rw [Nat.add_mul]; omega

theorem flatten_len {sz : Nat} : ∀ {css : List (List AVal)}, (∀ c ∈ css, c.length = sz) → css.flatten.length = css.length * sz
  | [], _ => by simp
  | c :: css, h => by
    rw [List.flatten_cons, List.length_append, flatten_len fun x hx => h x (List.mem_cons_of_mem _ hx), h c (List.mem_cons_self ..), List.length_cons, Nat.add_mul]
    omega

variable {H : Type} {enc : TypeId × Value → H} {w : World} {held : Bool}

/-- One datum is read: from there on it is among the machine's memory. -/
def Reads (E : Env) (w : World) (sh : Sh) (cs : List Value) : Prop :=
  ∀ (μ : MM) (os : List AObj), Rel E μ (H0 os) w → ∃ ν zs acs d, Rel E (μ ++ ν) (H0 (os ++ zs)) w ∧ VRels E (μ ++ ν) acs cs ∧ Has (H0 (os ++ zs)) sh d acs

theorem Reads.pure {sh : Sh} {cs : List Value} (acs : List AVal) (d : Dat) (h1 : ∀ μ, VRels E μ acs cs) (h2 : ∀ h, Has h sh d acs) : Reads E w sh cs := fun μ os hr =>
  ⟨[], [], acs, d, by simpa using hr, h1 _, h2 _⟩

theorem reads_fields {g : TypeId → Option Sh} {cs : List Value} (hg : ∀ t sh, g t = some sh → ∀ n vs x, DataW.trod enc E.P w 0 (fun _ => true) held n t vs = some x → Reads E w sh vs) :
    ∀ {fl : List Field} {off : Nat} {ss : List Sh}, shFields E.P g off fl = some ss → off + Sh.sizes ss ≤ cs.length → (∀ f ∈ fl, ∃ n x, DataW.trod enc E.P w 0 (fun _ => true) held n f.type ((cs.drop f.offset).take (E.P.cellsOf f.type)) = some x) →
      ∀ (μ : MM) (os : List AObj), Rel E μ (H0 os) w → ∃ ν zs acs l, Rel E (μ ++ ν) (H0 (os ++ zs)) w ∧ VRels E (μ ++ ν) acs ((cs.drop off).take (Sh.sizes ss)) ∧ HasL (H0 (os ++ zs)) ss l acs
  | [], off, ss, hs, _, _, μ, os, hr => by
    simp only [shFields] at hs; cases hs
    exact ⟨[], [], [], [], by simpa using hr, by simp [Sh.sizes, VRels], by simp [HasL]⟩
  | f :: fl, off, ss, hs, hlen, hf, μ, os, hr => by
    simp only [shFields] at hs
    split at hs
    case h_2 => cases hs
    rename_i s h1
    split at hs
    case isFalse => cases hs
    rename_i h2
    rw [Option.map_eq_some_iff] at hs
    obtain ⟨ss', h3, rfl⟩ := hs
    simp only [Sh.sizes] at hlen ⊢
    obtain ⟨n, x, hx⟩ := hf f (List.mem_cons_self ..)
    obtain ⟨ν, zs, acs, d, k1, k2, k3⟩ := hg _ _ h1 _ _ _ hx μ os hr
    obtain ⟨ν', zs', acs', l, k4, k5, k6⟩ := reads_fields hg h3 (by omega) (fun f' hf' => hf f' (List.mem_cons_of_mem _ hf')) _ _ k1
    refine ⟨ν ++ ν', zs ++ zs', acs ++ acs', d :: l, by simpa using k4, ?_, ?_⟩
    · rw [List.take_add]
      refine VRels.append ?_ ?_
      · rw [← List.append_assoc]
        rw [h2.1, h2.2] at k2
        exact k2.push
      · rw [List.drop_drop, ← List.append_assoc]
        exact k5
    · simp only [HasL]
      refine ⟨acs, acs', rfl, ?_, ?_⟩
      · rw [← List.append_assoc]; exact k3.ext (H0_ext _ _)
      · rw [← List.append_assoc]; exact k6

theorem reads_row {e : TypeId} {s : Sh} (hg : ∀ n vs x, DataW.trod enc E.P w 0 (fun _ => true) held n e vs = some x → Reads E w s vs) {a : Addr} {sz : Nat} :
    ∀ (m : Nat), (∀ i, i < m → ∃ n vs x, w.cells? 0 (a.add (i * sz)) sz = some vs ∧ DataW.trod enc E.P w 0 (fun _ => true) held n e vs = some x) →
      ∀ (μ : MM) (os : List AObj), Rel E μ (H0 os) w → ∃ (ν : MM) (zs : List AObj) (css : List (List AVal)) (l : List Dat), Rel E (μ ++ ν) (H0 (os ++ zs)) w ∧ css.length = m ∧ l.length = m ∧
        (∀ i c, css[i]? = some c → ∃ vs, w.cells? 0 (a.add (i * sz)) sz = some vs ∧ VRels E (μ ++ ν) c vs) ∧ ∀ (k : Nat) (d : Dat) (c : List AVal), l[k]? = some d → css[k]? = some c → Has (H0 (os ++ zs)) s d c
  | 0, _, μ, os, hr => ⟨[], [], [], [], by simpa using hr, rfl, rfl, by simp, by simp⟩
  | m + 1, hm, μ, os, hr => by
    obtain ⟨ν, zs, css, l, k1, k2, k3, k4, k5⟩ := reads_row hg m (fun i hi => hm i (by omega)) μ os hr
    obtain ⟨n, vs, x, h1, h2⟩ := hm m (by omega)
    obtain ⟨ν', zs', acs, d, j1, j2, j3⟩ := hg _ _ _ h2 _ _ k1
    refine ⟨ν ++ ν', zs ++ zs', css ++ [acs], l ++ [d], by simpa using j1, by simp [k2], by simp [k3], ?_, ?_⟩
    · intro i c hc
      rcases Nat.lt_or_ge i css.length with h3 | h3
      · rw [List.getElem?_append_left h3] at hc
        obtain ⟨vs', h4, h5⟩ := k4 i c hc
        exact ⟨vs', h4, by rw [← List.append_assoc]; exact h5.push⟩
      · have h4 := lt_of_get hc
        simp at h4
        have e : i = css.length := by omega
        subst e
        simp at hc; subst hc
        exact ⟨vs, by rw [k2]; exact h1, by rw [← List.append_assoc]; exact j2⟩
    · intro k d' c hd hc
      rcases Nat.lt_or_ge k css.length with h3 | h3
      · rw [List.getElem?_append_left h3] at hc
        rw [List.getElem?_append_left (by omega)] at hd
        rw [← List.append_assoc]
        exact (k5 k d' c hd hc).ext (H0_ext _ _)
      · have h4 := lt_of_get hc
        simp at h4
        have e : k = css.length := by omega
        subst e
        rw [List.getElem?_append_right (by omega)] at hd
        simp at hc; subst hc
        simp [k2, k3] at hd; subst hd
        rw [← List.append_assoc]; exact j3

theorem reads_of : ∀ (f : Nat) (t : TypeId) (sh : Sh), shOf E.P f t = some sh → ∀ (n : Nat) (cs : List Value) (x : DataW H × List MemPlace), DataW.trod enc E.P w 0 (fun _ => true) held n t cs = some x → Reads E w sh cs
  | 0, t, sh, h => by simp [shOf] at h
  | f + 1, t, sh, h => by
    intro n cs x hx
    simp only [shOf] at h
    split at h
    · rename_i hu
      cases h
      obtain ⟨b, rfl, _⟩ := DataW.trod_bool hu hx
      exact Reads.pure [.bool b] (.bool b) (fun μ => by simp [VRels, VRel]) fun h => by simp [Has]
    · rename_i k hu
      cases h
      obtain ⟨m, rfl, _, hw⟩ := DataW.trod_int hu hx
      simp [Lit.wf] at hw
      exact Reads.pure [.int k m] (.int m) (fun μ => by simp [VRels, VRel]) fun h => by simp [Has, hw]
    · rename_i hu
      cases h
      obtain ⟨s, rfl, _, hw⟩ := DataW.trod_string hu hx
      exact Reads.pure [.str s.data.toList] (.str s.data.toList) (fun μ => by simp [VRels, VRel]) fun h => by
        simp only [Has]
        exact ⟨trivial, by rw [Array.length_toList]; exact hw⟩
    · rename_i e hu
      split at h
      case h_2 => cases h
      rename_i s hs
      split at h
      case isFalse => cases h
      rename_i hsz
      cases h
      rcases DataW.trod_slice hu hx with ⟨rfl, _⟩ | ⟨a, len, cap, elems, rest, n', _, rfl, _, _, hlc, hcm, hel, h1, h2, _⟩
      · exact Reads.pure [.slice none 0 (some 0)] .nil (fun μ => by simp [VRels, VRel]) fun h => by simp [Has]
      · obtain ⟨hrl, h2⟩ := h2 rfl
        rw [hsz.1] at h1 h2
        have hall : ∀ i, i < cap → ∃ n vs x, w.cells? 0 (a.add (i * s.size)) s.size = some vs ∧ DataW.trod enc E.P w 0 (fun _ => true) held n e vs = some x := fun i hi => by
          rcases Nat.lt_or_ge i len with hl | hl
          · have h3 := h1 i hl
            rw [List.getElem?_eq_getElem (by omega)] at h3
            rw [Option.bind_eq_some_iff] at h3
            obtain ⟨vs, h4, h5⟩ := h3
            exact ⟨n', vs, _, h4, h5⟩
          · have h3 := h2 (i - len) (by omega)
            rw [List.getElem?_eq_getElem (by omega), show len + (i - len) = i by omega] at h3
            rw [Option.bind_eq_some_iff] at h3
            obtain ⟨vs, h4, h5⟩ := h3
            exact ⟨n', vs, _, h4, h5⟩
        intro μ os hr
        obtain ⟨ν, zs, css, l, k1, k2, k3, k4, k5⟩ := reads_row (a := a) (sz := s.size) (fun n vs x => reads_of f e s hs n vs x) len (fun i hi => hall i (by omega)) μ os hr
        have hlen : (μ ++ ν).length = (os ++ zs).length := k1.len
        rcases Nat.eq_zero_or_pos cap with hc | hc
        · -- nothing there
          subst hc
          have hl0 : len = 0 := by omega
          subst hl0
          have hcss : css = [] := List.eq_nil_of_length_eq_zero k2
          have hl : l = [] := List.eq_nil_of_length_eq_zero k3
          subst hcss; subst hl
          refine ⟨ν ++ [none], zs ++ [.dead], [.slice (some ((os ++ zs).length, 0)) 0 none], .row [], ?_, ?_, ?_⟩
          · have := k1.view .dead none (show (_ ++ [none] : MM)[_]? = _ by rw [← hlen]; simp) (by simp)
            simpa using this
          · simp only [VRels, VRel]
            refine ⟨_, [], rfl, ⟨a, 0, rfl, ?_, by simp, by simp, Nat.le_refl _, ?_⟩, rfl⟩
            · rw [← List.append_assoc, ← hlen]; simp only [List.length_append, List.length_cons]; omega
            · intro m hm
              rw [← List.append_assoc, ← hlen] at hm
              simp at hm
          · unfold Has
            refine ⟨Nat.zero_le _, (os ++ zs).length, [], rfl, by simp [H0], rfl, .inr ⟨rfl, ?_⟩, by simp⟩
            rw [← List.append_assoc]
            simp [Heap.get, H0]
        · -- the row
          have hsp := hsz.2
          obtain ⟨_, vs0, _, c0, _⟩ := hall 0 hc
          obtain ⟨_, cl0, cg0⟩ := World.cells?_some c0
          have c1 := cg0 0 hsp
          rw [List.getElem?_eq_getElem (by omega)] at c1
          have : (a.add (0 * s.size)).add 0 = a := by simp [Addr.add]
          rw [this] at c1
          obtain ⟨c, te, fr, hb, hspot, _⟩ := cell_block c1
          have hcell : ∀ i vs, w.cells? 0 (a.add (i * s.size)) s.size = some vs → vs.length = s.size ∧ ∀ r, r < s.size → c[a.off + i * s.size + r]? = vs[r]? := fun i vs hvs => by
            obtain ⟨_, e1, e2⟩ := World.cells?_some hvs
            refine ⟨e1, fun r hr => ?_⟩
            have e3 := e2 r hr
            rw [add_off hspot, add_off rfl, cell_of_block hb] at e3
            exact e3
          have hcap : a.off + cap * s.size ≤ c.size := by
            obtain ⟨_, vs, _, d1, _⟩ := hall (cap - 1) (by omega)
            obtain ⟨d2, d3⟩ := hcell _ _ d1
            have d4 := d3 (s.size - 1) (by omega)
            rw [List.getElem?_eq_getElem (by omega)] at d4
            have d5 : a.off + (cap - 1) * s.size + (s.size - 1) < c.size := lt_of_get (l := c.toList) (by simpa using d4)
            have d6 : cap * s.size = (cap - 1) * s.size + s.size := by
              conv => lhs; rw [show cap = (cap - 1) + 1 by omega]
              rw [Nat.add_mul]; omega
            omega
          have hcl : ∀ x ∈ css, x.length = s.size := fun x hx => by
            obtain ⟨i, hi⟩ := List.getElem?_of_mem hx
            obtain ⟨vs, hvs, hv⟩ := k4 i x hi
            rw [hv.length, (hcell i vs hvs).1]
          have hfl := flatten_len hcl
          have hlec : len * s.size ≤ cap * s.size := Nat.mul_le_mul_right _ hlc
          let m : M := ⟨a.block, a.off, c.size, s.size⟩
          have hrel : ORel E ((μ ++ ν) ++ [some m]) ((os ++ zs).length + 1) (os ++ zs).length w (.cells s.size css.flatten) := by
            refine ⟨m, c, te, fr, by rw [← hlen]; simp, rfl, hb, rfl, by rw [hfl, k2]; show a.off + _ ≤ c.size; omega, ?_, fun k => by omega⟩
            intro k v hk
            obtain ⟨q, r, cc, e1, e2, e3, e4⟩ := flatten_get hcl hk
            obtain ⟨vs, f1, f2⟩ := k4 q cc e3
            obtain ⟨v', g1, g2⟩ := f2.get e4
            have hq : q < len := by have := lt_of_get e3; omega
            obtain ⟨dd, hdd⟩ : ∃ dd, l[q]? = some dd := ⟨_, List.getElem?_eq_getElem (by omega)⟩
            refine ⟨((k5 q dd cc hdd e3).cells).2 v (List.mem_of_getElem? e4), v', ?_, g2.later (later_push _ _)⟩
            show c[a.off + k]? = _
            rw [e1, ← Nat.add_assoc, (hcell q vs f1).2 r e2, g1]
          refine ⟨ν ++ [some m], zs ++ [.cells s.size css.flatten], [.slice (some ((os ++ zs).length, 0)) len none], .row l, ?_, ?_, ?_⟩
          · have := k1.view _ (some m) hrel (by rintro m' h; cases h; exact lt_heap hb)
            simpa using this
          · simp only [VRels, VRel]
            refine ⟨_, [], rfl, ⟨a, cap, rfl, ?_, fun _ => ?_, by simp, hlc, ?_⟩, rfl⟩
            · rw [← List.append_assoc, ← hlen]; simp only [List.length_append, List.length_cons]; omega
            · refine ⟨some m, by rw [← List.append_assoc, ← hlen]; simp, fun m' hm' => ?_⟩
              cases hm'
              cases a
              simp only at hspot
              subst hspot
              rfl
            · intro m' hm'
              rw [← List.append_assoc, ← hlen] at hm'
              simp at hm'; subst hm'
              show a.off + 0 + cap * s.size ≤ c.size
              omega
          · simp only [Has]
            refine ⟨by rw [k3]; omega, (os ++ zs).length, css, by rw [k3], by simp [H0], by omega, .inl ?_, fun k d c' hd hc' => ?_⟩
            · rw [← List.append_assoc]
              simp [Heap.get, H0]
            · rw [← List.append_assoc]
              exact (k5 k d c' hd hc').ext (H0_ext _ _)
    · rename_i fs hu
      split at h
      case h_2 => cases h
      rename_i ss hs
      split at h
      case isFalse => cases h
      rename_i hsz
      cases h
      obtain ⟨xs, n', _, _, hl, hxl, hfl⟩ := DataW.trod_struct hu hx
      intro μ os hr
      obtain ⟨ν, zs, acs, l, k1, k2, k3⟩ := reads_fields (cs := cs) (fun t sh hsh n vs x hx => reads_of f t sh hsh n vs x hx) hs (by omega) (fun fd hfd => by
        obtain ⟨i, hi⟩ := List.getElem?_of_mem hfd
        have := hfl i fd (by simpa using hi)
        have hlt : i < fs.size := by have := lt_of_get hi; simpa using this
        rw [List.getElem?_eq_getElem (by omega)] at this
        exact ⟨n', _, this⟩) μ os hr
      refine ⟨ν, zs, acs, .agg l, k1, ?_, ?_⟩
      · rw [List.drop_zero, List.take_of_length_le (by omega)] at k2
        exact k2
      · simp only [Has]; exact k3
    · cases h

/-! ## Arguments -/

def avalOf : Sh → List AVal → AVal
  | .struct _, cs => .agg cs
  | _, [a] => a
  | _, cs => .agg cs

def HasArgs (h : Heap) : List Sh → List Dat → List AVal → Prop
  | [], [], as => as = []
  | s :: r, d :: l, as => ∃ cs t, as = avalOf s cs :: t ∧ Has h s d cs ∧ HasArgs h r l t
  | _, _, _ => False

theorem HasArgs.ext {h h' : Heap} (e : h.Ext h') : ∀ {ss : List Sh} {l : List Dat} {as : List AVal}, HasArgs h ss l as → HasArgs h' ss l as
  | [], l, as, hh => by cases l <;> simp only [HasArgs] at hh ⊢; exact hh
  | s :: r, l, as, hh => by
    cases l <;> simp only [HasArgs] at hh ⊢
    obtain ⟨a, b, e1, h1, h2⟩ := hh
    exact ⟨a, b, e1, h1.ext e, h2.ext e⟩

theorem aval_rel {f : Nat} {t : TypeId} {sh : Sh} (hs : shOf E.P f t = some sh) {r : Reach} {base : Nat} {W : World} {v : Value} (hv : Value.okWide E.P W r base t v) {μ : MM} {acs : List AVal} (hrel : VRels E μ acs v.cells.toList) {h : Heap} {d : Dat} (hh : Has h sh d acs) :
    VRel E μ (avalOf sh acs) v := by
  have hone := hh.cells
  have one : ∀ {acs : List AVal}, sh.size = 1 → (∀ fs, sh ≠ .struct fs) → acs.length = sh.size → v.cells = #[v] → VRels E μ acs v.cells.toList → VRel E μ (avalOf sh acs) v := by
    intro acs h1 h2 h3 h4 h5
    rw [h4] at h5
    match acs, h3 with
    | [], h3 => rw [h1] at h3; simp at h3
    | [a], _ =>
      have : avalOf sh [a] = a := by
        cases sh <;> simp only [avalOf]
        exact absurd rfl (h2 _)
      rw [this]
      simp only [VRels] at h5
      obtain ⟨_, _, e, h6, _⟩ := h5
      cases e
      exact h6
    | _ :: _ :: _, h3 => rw [h1] at h3; simp at h3
  cases f with
  | zero => simp [shOf] at hs
  | succ f =>
    simp only [shOf] at hs
    unfold Value.okWide at hv
    split at hs
    · rename_i hu
      cases hs
      rw [hu] at hv
      simp only [Cell.okWide, Cell.ok, hu] at hv
      exact one rfl (by simp) hone.1 (by cases v <;> first | rfl | exact hv.elim) hrel
    · rename_i k hu
      cases hs
      rw [hu] at hv
      simp only [Cell.okWide, Cell.ok, hu] at hv
      exact one rfl (by simp) hone.1 (by cases v <;> first | rfl | exact hv.elim) hrel
    · rename_i hu
      cases hs
      rw [hu] at hv
      simp only [Cell.okWide, Cell.ok, hu] at hv
      exact one rfl (by simp) hone.1 (by cases v <;> first | rfl | exact hv.elim) hrel
    · rename_i e hu
      split at hs
      case h_2 => cases hs
      split at hs
      case isFalse => cases hs
      cases hs
      rw [hu] at hv
      simp only [Cell.okWide, Cell.ok, hu] at hv
      exact one rfl (by simp) hone.1 (by cases v <;> first | rfl | exact hv.elim) hrel
    · rename_i fs hu
      split at hs
      case h_2 => cases hs
      split at hs
      case isFalse => cases hs
      cases hs
      rw [hu] at hv
      obtain ⟨cs, rfl, _⟩ := hv
      simp only [avalOf, VRel]
      exact ⟨cs, rfl, hrel, hone.2⟩
    · cases hs

def shAll (P : Program) (f : Nat) : List TypeId → Option (List Sh)
  | [] => some []
  | t :: r => match shOf P f t, shAll P f r with
    | some s, some ss => some (s :: ss)
    | _, _ => none

theorem args_read {f : Nat} {W : World} {r : Reach} {base : Nat} : ∀ {ts : List TypeId} {vs : List Value} {ds : List (DataW H)} {ps : List MemPlace} {ss : List Sh}, DataW.TrodAll enc E.P w 0 (fun _ => true) held ts vs ds ps → shAll E.P f ts = some ss →
    (∀ (j : Nat) (t : TypeId) (v : Value), ts[j]? = some t → vs[j]? = some v → Value.okWide E.P W r base t v) → ∀ (μ : MM) (os : List AObj), Rel E μ (H0 os) w →
      ∃ ν zs as l, Rel E (μ ++ ν) (H0 (os ++ zs)) w ∧ VRels E (μ ++ ν) as vs ∧ HasArgs (H0 (os ++ zs)) ss l as
  | [], [], [], ps, ss, _, hs, _, μ, os, hr => by
    simp only [shAll] at hs; cases hs
    exact ⟨[], [], [], [], by simpa using hr, by simp [VRels], by simp [HasArgs]⟩
  | t :: ts, v :: vs, d :: ds, ps, ss, h, hs, hv, μ, os, hr => by
    simp only [shAll] at hs
    split at hs
    case h_2 => cases hs
    rename_i s ss' h1 h2
    cases hs
    obtain ⟨p, q, ⟨n, h3⟩, h4, _⟩ := h
    obtain ⟨ν, zs, acs, d', k1, k2, k3⟩ := reads_of f t s h1 n _ _ h3 μ os hr
    obtain ⟨ν', zs', as, l, k4, k5, k6⟩ := args_read h4 h2 (fun j t' v' ht hv' => hv (j + 1) t' v' (by simpa using ht) (by simpa using hv')) _ _ k1
    refine ⟨ν ++ ν', zs ++ zs', avalOf s acs :: as, d' :: l, by simpa using k4, ?_, ?_⟩
    · simp only [VRels]
      refine ⟨v, vs, rfl, ?_, by rw [← List.append_assoc]; exact k5⟩
      have := aval_rel h1 (hv 0 t v rfl rfl) k2 k3
      rw [← List.append_assoc]
      exact this.later ⟨by simp, fun i hi => .inl (List.getElem?_append_left hi)⟩
    · simp only [HasArgs]
      exact ⟨acs, as, rfl, by rw [← List.append_assoc]; exact k3.ext (H0_ext _ _), by rw [← List.append_assoc]; exact k6⟩
  | [], _ :: _, _, _, _, h, _, _, _, _, _ => by simp [DataW.TrodAll] at h
  | [], [], _ :: _, _, _, h, _, _, _, _, _ => by simp [DataW.TrodAll] at h
  | _ :: _, [], _, _, _, h, _, _, _, _, _ => by simp [DataW.TrodAll] at h
  | _ :: _, _ :: _, [], _, _, h, _, _, _, _, _ => by simp [DataW.TrodAll] at h

theorem rel_none (w : World) : Rel E [] (H0 []) w :=
  ⟨rfl, Nat.le_refl _, by simp [H0], by simp, by simp⟩

/-- A law is called: if the machine says true of all data of these shapes, so does the program; and nothing that was there is written. -/
theorem law_calls {T : Nat → Option AFunc} (hT : Agrees E T) (hm : E.P.follows .mixedOrders = true) {f : FuncId} {g : Nat} (hg : E.gid f = some g) {n : Nat} {ts : List TypeId} {ss : List Sh} (hss : shAll E.P n ts = some ss)
    (hlaw : ∀ (h : Heap) (l : List Dat) (as : List AVal), HasArgs h ss l as → h.base = h.size → h.wmin = h.size → xCall T g as h = some (.bool true, h))
    {W : World} {r : Reach} {base : Nat} {args : Array Value} {ds : List (DataW H)} {ps : List MemPlace} (ht : DataW.TrodAll enc E.P W 0 (fun _ => true) held ts args.toList ds ps)
    (hv : ∀ (j : Nat) (t : TypeId) (v : Value), ts[j]? = some t → args.toList[j]? = some v → Value.okWide E.P W r base t v) :
    Calls E.P f args W fun e W' => e = .returned (.bool true) ∧ Below W.heap.size W W' := by
  obtain ⟨ν, zs, as, l, k1, k2, k3⟩ := args_read ht hss hv [] [] (rel_none W)
  have hx := hlaw _ l as k3 rfl rfl
  refine (x_sound hT hm hx hg k2 k1).mono fun e W' ⟨v', μ', he, hst, hvr, _⟩ => ?_
  simp only [VRel] at hvr
  subst hvr
  refine ⟨he, hst.os, hst.tape, hst.output, hst.size, fun k hk => hst.block k hk (fun h => h) fun i m hi hm => ?_⟩
  have h1 := lt_of_get hm
  have h2 : ([] ++ ν : MM).length = ([] ++ zs).length := k1.len
  simp only [H0] at hi
  omega

end
end Go.Abs
