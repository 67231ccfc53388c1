/-
  The evaluator without a count of rounds: what it gives with any count that is great enough; and its equations, by which proofs rewrite.
-/
import Derived.Test.YtnpjncdnlacmeaaAbsCore
namespace Go.Abs

def Le {α : Type} (a b : Option α) : Prop := ∀ r, a = some r → b = some r
theorem Le.refl {α : Type} (a : Option α) : Le a a := fun _ h => h
def CallLe (c d : CallSem) : Prop := ∀ g args h, Le (c g args h) (d g args h)
theorem CallLe.refl (c : CallSem) : CallLe c c := fun _ _ _ => Le.refl _
theorem CallLe.trans {a b c : CallSem} (h : CallLe a b) (k : CallLe b c) : CallLe a c := fun g as hp r hr => k g as hp r (h g as hp r hr)

theorem Le.map {α β : Type} {a b : Option α} (f : α → β) (h : Le a b) : Le (a.map f) (b.map f) := by
  intro r hr
  cases a with
  | none => simp at hr
  | some x => rw [h x rfl]; exact hr

theorem evOp_mono {c d : CallSem} (hcd : CallLe c d) (dst : Nat) (o : AOp) (s : Slots) (h : Heap) : Le (evOp c dst o s h) (evOp d dst o s h) := by
  cases o with
  | call f args =>
    intro r hr
    simp only [evOp] at hr ⊢
    split at hr
    · exact Le.map _ (hcd _ _ _) r hr
    · split at hr
      · exact Le.map _ (hcd _ _ _) r hr
      · exact hr
    · exact hr
  | callg g args =>
    intro r hr
    simp only [evOp] at hr ⊢
    split at hr
    · exact Le.map _ (hcd _ _ _) r hr
    · exact hr
  | _ => exact fun r hr => hr

theorem evRun_mono {c d : CallSem} (hcd : CallLe c d) (o : AOper) (s : Slots) (h : Heap) : Le (evRun c o s h) (evRun d o s h) := by
  intro r hr
  unfold evRun at hr ⊢
  split at hr
  · rename_i x s' h' he
    rw [evOp_mono hcd _ _ _ _ _ he]; exact hr
  · simp at hr

theorem evOper_mono {c d : CallSem} (hcd : CallLe c d) (o : AOper) (s : Slots) (h : Heap) : Le (evOper c o s h) (evOper d o s h) := by
  intro r hr
  unfold evOper at hr ⊢
  split at hr
  · exact evRun_mono hcd _ _ _ r hr
  · split at hr
    · split at hr
      · rename_i h1; simp only [if_pos h1]; exact evRun_mono hcd _ _ _ r hr
      · rename_i h1; simp only [if_neg h1]; exact hr
    · exact hr
    · simp at hr

theorem evOps_mono {c d : CallSem} (hcd : CallLe c d) : ∀ (l : List AOper) (s : Slots) (h : Heap), Le (evOps c l s h) (evOps d l s h)
  | [], _, _ => Le.refl _
  | o :: l, s, h => by
    intro r hr
    simp only [evOps] at hr ⊢
    split at hr
    · rename_i s' h' he
      rw [evOper_mono hcd _ _ _ _ he]; exact evOps_mono hcd l _ _ r hr
    · simp at hr

theorem evQuiet_mono {c d : CallSem} (hcd : CallLe c d) : ∀ (l : List AOper) (s : Slots) (h : Heap), Le (evQuiet c l s h) (evQuiet d l s h)
  | [], _, _ => Le.refl _
  | o :: l, s, h => by
    intro r hr
    simp only [evQuiet] at hr ⊢
    split at hr
    · rename_i s' h' he
      rw [evOper_mono hcd _ _ _ _ he]
      simp only
      split at hr
      · rename_i h1; rw [if_pos h1]; exact evQuiet_mono hcd l _ _ r hr
      · simp at hr
    · simp at hr

theorem openOne_mono {c d : CallSem} (hcd : CallLe c d) (n0 m : Nat) (ds : List Did) (o : AOper) (s : Slots) (h : Heap) : Le (openOne c n0 m ds o s h) (openOne d n0 m ds o s h) := by
  intro r hr
  unfold openOne at hr ⊢
  split at hr
  · cases hr
  · rename_i h1
    rw [if_neg h1]
    split at hr
    · rename_i h2
      rw [if_pos h2]
      split at hr
      · cases hr
      · rename_i s' h' he
        rw [evOper_mono hcd _ _ _ _ he]
        exact hr
    · rename_i h2
      rw [if_neg h2]
      exact hr

theorem openAll_mono {c d : CallSem} (hcd : CallLe c d) (n0 : Nat) : ∀ (ops : List AOper) (ms : List Nat) (ds : List Did) (s : Slots) (h : Heap), Le (openAll c n0 ms ops ds s h) (openAll d n0 ms ops ds s h)
  | [], _, _, _, _ => fun r hr => by simp only [openAll] at hr ⊢; exact hr
  | o :: l, ms, ds, s, h => by
    intro r hr
    simp only [openAll] at hr ⊢
    split at hr
    · rename_i y h' x he
      rw [openOne_mono hcd _ _ _ _ _ _ _ he]
      simp only
      split at hr
      · rename_i h1; rw [if_pos h1]; exact openAll_mono hcd n0 l _ _ _ _ r hr
      · cases hr
    · cases hr

theorem evOpen_mono {c d : CallSem} (hcd : CallLe c d) (ms : List Nat) (ops : List AOper) (s : Slots) (h : Heap) : Le (evOpen c ms ops s h) (evOpen d ms ops s h) := openAll_mono hcd _ _ _ _ _ _

theorem evSegs_mono {c d : CallSem} (hcd : CallLe c d) : ∀ (l : List Seg) (s : Slots) (h : Heap), Le (evSegs c l s h) (evSegs d l s h)
  | [], _, _ => Le.refl _
  | g :: l, s, h => by
    intro r hr
    simp only [evSegs] at hr ⊢
    split at hr
    · rename_i s' h' he
      have : (if g.quiet = true then (if g.soft = [] then evQuiet d g.ops s h else evOpen d g.soft g.ops s h) else evOps d g.ops s h) = some (s', h') := by
        split at he
        · rename_i hq
          rw [if_pos hq]
          split at he
          · rename_i hq2; rw [if_pos hq2]; exact evQuiet_mono hcd _ _ _ _ he
          · rename_i hq2; rw [if_neg hq2]; exact evOpen_mono hcd _ _ _ _ _ he
        · rename_i hq; rw [if_neg hq]; exact evOps_mono hcd _ _ _ _ he
      rw [this]; exact evSegs_mono hcd l _ _ r hr
    · simp at hr

theorem loopN_mono {f g : St → Option (AExit × St)} (hfg : ∀ st, Le (f st) (g st)) : ∀ (n m : Nat) (st : St), n ≤ m → Le (loopN f n st) (loopN g m st)
  | 0, _, _, _ => by intro r hr; simp [loopN] at hr
  | n + 1, 0, _, h => absurd h (by omega)
  | n + 1, m + 1, st, h => by
    intro r hr
    simp only [loopN] at hr ⊢
    split at hr
    · rename_i st' he
      rw [hfg _ _ he]; exact loopN_mono hfg n m st' (by omega) r hr
    · rename_i hne
      rw [hfg _ _ hr]
      split
      · rename_i st' he; cases he; exact absurd hr (hne _)
      · rfl

theorem evCode_mono {c d : CallSem} (hcd : CallLe c d) {n m : Nat} (hnm : n ≤ m) : ∀ (x : ACode) (st : St), Le (evCode c n x st) (evCode d m x st) := by
  intro x
  induction x with
  | skip => exact fun _ => Le.refl _
  | region gs => exact fun st => Le.map _ (evSegs_mono hcd _ _ _)
  | seq a b iha ihb =>
    intro st r hr
    simp only [evCode] at hr ⊢
    split at hr
    · rename_i st' he; rw [iha _ _ he]; exact ihb _ _ hr
    · rename_i hne
      rw [iha _ _ hr]
      split
      · rename_i st' he; cases he; exact absurd hr (hne _)
      · rfl
  | cond c t e iht ihe =>
    intro st r hr
    simp only [evCode] at hr ⊢
    split at hr
    · exact iht _ _ hr
    · exact ihe _ _ hr
    · simp at hr
  | block id a ih =>
    intro st r hr
    simp only [evCode] at hr ⊢
    split at hr
    · rename_i j st' he; rw [ih _ _ he]; exact hr
    · rename_i hne
      rw [ih _ _ hr]
      split
      · rename_i j st' he; cases he; exact absurd hr (hne _ _)
      · rfl
  | loop a ih => exact fun st => loopN_mono ih n m st hnm
  | exit id => exact fun _ => Le.refl _
  | ret => exact fun _ => Le.refl _
  | live l a ih => exact fun st => ih _
  | after a l ih =>
    intro st r hr
    simp only [evCode] at hr ⊢
    split at hr
    · rename_i st' he; rw [ih _ _ he]; exact hr
    · rename_i hne
      rw [ih _ _ hr]
      split
      · rename_i st' he; cases he; exact absurd hr (hne _)
      · rfl

  | rangeFunc f g caps ps a b _ _ =>
    intro st r hr
    simp only [evCode] at hr ⊢
    split at hr
    · rename_i fv sl _ _
      split at hr
      · rename_i x h' he
        have : callVal d fv [.yield st.h.size] (st.h.push (.loop g .ready none sl)) = some (x, h') := by
          unfold callVal at he ⊢
          split at he
          · exact hcd _ _ _ _ he
          · cases he
        rw [this]; exact hr
      · cases hr
    · cases hr

theorem roundIn_mono {g i : Nat} {a b : Option (AExit × St)} (hab : Le a b) : Le (roundIn g i a) (roundIn g i b) := by
  intro r hr
  cases a with
  | none => simp [roundIn] at hr
  | some x => rw [hab x rfl]; exact hr

theorem roundOut_mono {h : Heap} {g i : Nat} {a b : Option (AExit × St)} (hab : Le a b) : Le (roundOut h g i a) (roundOut h g i b) := by
  intro r hr
  cases a with
  | none => simp [roundOut] at hr
  | some x => rw [hab x rfl]; exact hr

theorem evRound_mono {c d : CallSem} (hcd : CallLe c d) {n m : Nat} (hnm : n ≤ m) (g : Nat) (r : ARound) (args : List AVal) (h : Heap) : Le (evRound c n g r args h) (evRound d m g r args h) := by
  intro x hx
  unfold evRound at hx ⊢
  split at hx
  · split at hx
    · rename_i h1
      rw [if_pos h1]
      split at hx
      · split at hx
        · rename_i st he
          rw [roundIn_mono (evCode_mono hcd hnm _ _) _ he]
          exact roundOut_mono (evCode_mono hcd hnm _ _) _ hx
        · cases hx
      · cases hx
    · cases hx
  · cases hx

/-- How a function's run ends. -/
def outcome (f : AFunc) (h : Heap) : Option (AExit × St) → Option (AVal × Heap)
  | some (.normal, st) | some (.ret, st) => (resultsL st.s st.h f.results).map fun vs => finish h (tupled vs) st.h
  | _ => none

theorem evFunc_eq (c : CallSem) (n : Nat) (f : AFunc) (args : List AVal) (h : Heap) :
    evFunc c n f args h = if args.length = f.nargs then outcome f h (evCode c n f.body ⟨enter 0 args, { h with wmin := h.size }⟩) else none := by
  unfold evFunc outcome
  split
  · split <;> simp_all
  · rfl

theorem outcome_mono (f : AFunc) (h : Heap) {a b : Option (AExit × St)} (hab : Le a b) : Le (outcome f h a) (outcome f h b) := by
  intro r hr
  cases a with
  | none => simp [outcome] at hr
  | some x => rw [hab x rfl]; exact hr

theorem evFunc_mono {c d : CallSem} (hcd : CallLe c d) {n m : Nat} (hnm : n ≤ m) (f : AFunc) (args : List AVal) (h : Heap) : Le (evFunc c n f args h) (evFunc d m f args h) := by
  rw [evFunc_eq, evFunc_eq]
  split
  · exact outcome_mono _ _ (evCode_mono hcd hnm _ _)
  · exact Le.refl _

theorem wrapC_mono {r r' : List AVal → Heap → Option (AVal × Heap)} (hr : ∀ args h, Le (r args h) (r' args h)) (c : Bool) (args : List AVal) (h : Heap) : Le (wrapC c r args h) (wrapC c r' args h) := by
  cases c with
  | false => exact hr args h
  | true =>
    intro x hx
    simp only [wrapC, evClosed, if_true] at hx ⊢
    split at hx
    · rename_i hu
      rw [if_pos hu]
      split at hx
      · rename_i v h' he
        rw [hr _ _ _ he]; exact hx
      · cases hx
    · cases hx

theorem evCall_mono1 (T : Nat → Option AFunc) : ∀ n, CallLe (evCall T n) (evCall T (n + 1))
  | 0 => by intro g args h r hr; simp [evCall] at hr
  | n + 1 => by
    intro g args h
    simp only [evCall]
    split
    · split
      · exact evRound_mono (evCall_mono1 T n) (by omega) _ _ _ _
      · exact wrapC_mono (fun args h => evFunc_mono (evCall_mono1 T n) (by omega) _ _ _) _ _ _
    · exact Le.refl _

theorem evCall_mono (T : Nat → Option AFunc) {n m : Nat} (h : n ≤ m) : CallLe (evCall T n) (evCall T m) := by
  induction h with
  | refl => exact CallLe.refl _
  | step _ ih => exact ih.trans (evCall_mono1 T _)

/-! ## The limit -/

open Classical in
noncomputable def Lim {α : Type} (F : Nat → Option α) : Option α := if h : ∃ r n, F n = some r then some h.choose else none

theorem Lim_iff {α : Type} {F : Nat → Option α} (hF : ∀ n m, n ≤ m → Le (F n) (F m)) (r : α) : Lim F = some r ↔ ∃ n, F n = some r := by
  unfold Lim
  constructor
  · intro h
    split at h
    · rename_i hx
      cases h
      exact hx.choose_spec
    · simp at h
  · rintro ⟨n, hn⟩
    have hx : ∃ r n, F n = some r := ⟨r, n, hn⟩
    rw [dif_pos hx]
    obtain ⟨m, hm⟩ := hx.choose_spec
    have h1 := hF n (n + m) (by omega) _ hn
    have h2 := hF m (n + m) (by omega) _ hm
    rw [h1] at h2
    exact h2.symm

noncomputable def xCall (T : Nat → Option AFunc) : CallSem := fun g args h => Lim fun n => evCall T n g args h
noncomputable def xCode (T : Nat → Option AFunc) (c : ACode) (st : St) : Option (AExit × St) := Lim fun n => evCode (evCall T n) n c st

section
variable (T : Nat → Option AFunc)

theorem xCall_iff (g : Nat) (args : List AVal) (h : Heap) (r : AVal × Heap) : xCall T g args h = some r ↔ ∃ n, evCall T n g args h = some r :=
  Lim_iff (fun _ _ hnm => evCall_mono T hnm g args h) r

theorem xCode_iff (c : ACode) (st : St) (r : AExit × St) : xCode T c st = some r ↔ ∃ n, evCode (evCall T n) n c st = some r :=
  Lim_iff (fun _ _ hnm => evCode_mono (evCall_mono T hnm) hnm c st) r

theorem evCall_le_x (n : Nat) : CallLe (evCall T n) (xCall T) := fun g args h r hr => (xCall_iff T g args h r).2 ⟨n, hr⟩

theorem evOp_lim {dst : Nat} {o : AOp} {s : Slots} {h : Heap} {r} (hr : evOp (xCall T) dst o s h = some r) : ∃ n, evOp (evCall T n) dst o s h = some r := by
  cases o with
  | call f args =>
    simp only [evOp] at hr ⊢
    split at hr
    · rename_i g first caps as hf ha
      rw [Option.map_eq_some_iff] at hr
      obtain ⟨x, hx, rfl⟩ := hr
      obtain ⟨n, hn⟩ := (xCall_iff T _ _ _ _).1 hx
      exact ⟨n, by rw [hn]; rfl⟩
    · split at hr
      · rw [Option.map_eq_some_iff] at hr
        obtain ⟨x, hx, rfl⟩ := hr
        obtain ⟨n, hn⟩ := (xCall_iff T _ _ _ _).1 hx
        exact ⟨n, by rw [hn]; rfl⟩
      · cases hr
    · simp at hr
  | callg g args =>
    simp only [evOp] at hr ⊢
    split at hr
    · rename_i as ha
      rw [Option.map_eq_some_iff] at hr
      obtain ⟨x, hx, rfl⟩ := hr
      obtain ⟨n, hn⟩ := (xCall_iff T _ _ _ _).1 hx
      exact ⟨n, by rw [hn]; rfl⟩
    · simp at hr
  | _ => exact ⟨0, hr⟩

theorem evRun_lim {o : AOper} {s : Slots} {h : Heap} {r} (hr : evRun (xCall T) o s h = some r) : ∃ n, evRun (evCall T n) o s h = some r := by
  unfold evRun at hr ⊢
  split at hr
  · rename_i x s' h' he
    obtain ⟨n, hn⟩ := evOp_lim T he
    exact ⟨n, by rw [hn]; exact hr⟩
  · simp at hr

theorem evOper_lim {o : AOper} {s : Slots} {h : Heap} {r} (hr : evOper (xCall T) o s h = some r) : ∃ n, evOper (evCall T n) o s h = some r := by
  unfold evOper at hr ⊢
  split at hr
  · exact evRun_lim T hr
  · split at hr
    · split at hr
      · rename_i h1
        simp only [if_pos h1]
        exact evRun_lim T hr
      · rename_i h1
        simp only [if_neg h1]
        exact ⟨0, hr⟩
    · exact ⟨0, hr⟩
    · simp at hr

theorem evOps_lim : ∀ {l : List AOper} {s : Slots} {h : Heap} {r}, evOps (xCall T) l s h = some r → ∃ n, evOps (evCall T n) l s h = some r
  | [], _, _, _, hr => ⟨0, hr⟩
  | o :: l, s, h, r, hr => by
    simp only [evOps] at hr ⊢
    split at hr
    · rename_i s' h' he
      obtain ⟨n, hn⟩ := evOper_lim T he
      obtain ⟨m, hm⟩ := evOps_lim hr
      exact ⟨n + m, by rw [evOper_mono (evCall_mono T (by omega)) _ _ _ _ hn]; exact evOps_mono (evCall_mono T (by omega)) _ _ _ _ hm⟩
    · simp at hr

theorem evQuiet_lim : ∀ {l : List AOper} {s : Slots} {h : Heap} {r}, evQuiet (xCall T) l s h = some r → ∃ n, evQuiet (evCall T n) l s h = some r
  | [], _, _, _, hr => ⟨0, hr⟩
  | o :: l, s, h, r, hr => by
    simp only [evQuiet] at hr ⊢
    split at hr
    · rename_i s' h' he
      split at hr
      · rename_i h1
        obtain ⟨n, hn⟩ := evOper_lim T he
        obtain ⟨m, hm⟩ := evQuiet_lim hr
        exact ⟨n + m, by rw [evOper_mono (evCall_mono T (by omega)) _ _ _ _ hn]; simp only; rw [if_pos h1]; exact evQuiet_mono (evCall_mono T (by omega)) _ _ _ _ hm⟩
      · simp at hr
    · simp at hr

theorem openOne_lim {n0 m : Nat} {ds : List Did} {o : AOper} {s : Slots} {h : Heap} {r} (hr : openOne (xCall T) n0 m ds o s h = some r) : ∃ n, openOne (evCall T n) n0 m ds o s h = some r := by
  unfold openOne at hr ⊢
  split at hr
  · cases hr
  · rename_i h1
    simp only [if_neg h1]
    split at hr
    · rename_i h2
      simp only [if_pos h2]
      split at hr
      · cases hr
      · rename_i s' h' he
        obtain ⟨n, hn⟩ := evOper_lim T he
        exact ⟨n, by rw [hn]; exact hr⟩
    · rename_i h2
      simp only [if_neg h2]
      exact ⟨0, hr⟩

theorem openAll_lim {n0 : Nat} : ∀ {ops : List AOper} {ms : List Nat} {ds : List Did} {s : Slots} {h : Heap} {r}, openAll (xCall T) n0 ms ops ds s h = some r → ∃ n, openAll (evCall T n) n0 ms ops ds s h = some r
  | [], _, _, _, _, _, hr => ⟨0, by simp only [openAll] at hr ⊢; exact hr⟩
  | o :: l, ms, ds, s, h, r, hr => by
    simp only [openAll] at hr ⊢
    split at hr
    · rename_i y h' x he
      split at hr
      · rename_i h1
        obtain ⟨n, hn⟩ := openOne_lim T he
        obtain ⟨m, hm⟩ := openAll_lim hr
        exact ⟨n + m, by rw [openOne_mono (evCall_mono T (by omega)) _ _ _ _ _ _ _ hn]; simp only; rw [if_pos h1]; exact openAll_mono (evCall_mono T (by omega)) _ _ _ _ _ _ _ hm⟩
      · cases hr
    · cases hr

/-- One part. -/
def evSeg (call : CallSem) (g : Seg) (s : Slots) (h : Heap) : Option (Slots × Heap) :=
  if g.quiet then (if g.soft = [] then evQuiet call g.ops s h else evOpen call g.soft g.ops s h) else evOps call g.ops s h

theorem evSeg_mono {c d : CallSem} (hcd : CallLe c d) (g : Seg) (s : Slots) (h : Heap) : Le (evSeg c g s h) (evSeg d g s h) := by
  unfold evSeg
  split
  · split
    · exact evQuiet_mono hcd _ _ _
    · exact evOpen_mono hcd _ _ _ _
  · exact evOps_mono hcd _ _ _

theorem evSegs_lim : ∀ {l : List Seg} {s : Slots} {h : Heap} {r}, evSegs (xCall T) l s h = some r → ∃ n, evSegs (evCall T n) l s h = some r
  | [], _, _, _, hr => ⟨0, hr⟩
  | g :: l, s, h, r, hr => by
    simp only [evSegs] at hr ⊢
    split at hr
    · rename_i s' h' he
      have hx : ∃ n, evSeg (evCall T n) g s h = some (s', h') := by
        unfold evSeg
        split at he
        · rename_i hq
          simp only [if_pos hq]
          split at he
          · rename_i hq2; simp only [if_pos hq2]; exact evQuiet_lim T he
          · rename_i hq2; simp only [if_neg hq2]; exact openAll_lim T he
        · rename_i hq; simp only [if_neg hq]; exact evOps_lim T he
      obtain ⟨n, hn⟩ := hx
      obtain ⟨m, hm⟩ := evSegs_lim hr
      refine ⟨n + m, ?_⟩
      have : evSeg (evCall T (n + m)) g s h = some (s', h') := evSeg_mono (evCall_mono T (by omega)) _ _ _ _ hn
      unfold evSeg at this
      rw [this]; exact evSegs_mono (evCall_mono T (by omega)) _ _ _ _ hm
    · simp at hr

theorem lift {c : ACode} {st : St} {r} {n m : Nat} (h : evCode (evCall T n) n c st = some r) (hnm : n ≤ m) : evCode (evCall T m) m c st = some r :=
  evCode_mono (evCall_mono T hnm) hnm c st r h

theorem xCode_skip (st : St) : xCode T .skip st = some (.normal, st) := (xCode_iff T _ _ _).2 ⟨0, rfl⟩
theorem xCode_exit (id : Nat) (st : St) : xCode T (.exit id) st = some (.exit id, st) := (xCode_iff T _ _ _).2 ⟨0, rfl⟩
theorem xCode_ret (st : St) : xCode T .ret st = some (.ret, st) := (xCode_iff T _ _ _).2 ⟨0, rfl⟩

theorem xCode_region (gs : List Seg) (st : St) : xCode T (.region gs) st = (evSegs (xCall T) gs st.s st.h).map fun (s, h) => (.normal, ⟨s, h⟩) := by
  apply Option.ext
  intro r
  rw [xCode_iff]
  constructor
  · rintro ⟨n, hn⟩; exact Le.map _ (evSegs_mono (evCall_le_x T n) _ _ _) r hn
  · intro h
    rw [Option.map_eq_some_iff] at h
    obtain ⟨x, hx, rfl⟩ := h
    obtain ⟨n, hn⟩ := evSegs_lim T hx
    exact ⟨n, by simp only [evCode]; rw [hn]; rfl⟩

theorem xCode_seq (a b : ACode) (st : St) : xCode T (.seq a b) st = match xCode T a st with
    | some (.normal, st') => xCode T b st'
    | r => r := by
  apply Option.ext
  intro r
  rw [xCode_iff]
  constructor
  · rintro ⟨n, hn⟩
    simp only [evCode] at hn
    split at hn
    · rename_i st' he
      rw [(xCode_iff T _ _ _).2 ⟨n, he⟩]; exact (xCode_iff T _ _ _).2 ⟨n, hn⟩
    · rename_i hne
      rw [(xCode_iff T _ _ _).2 ⟨n, hn⟩]
      split
      · rename_i st' he; cases he; exact absurd hn (hne _)
      · rfl
  · intro h
    split at h
    · rename_i st' he
      obtain ⟨n, hn⟩ := (xCode_iff T _ _ _).1 he
      obtain ⟨m, hm⟩ := (xCode_iff T _ _ _).1 h
      refine ⟨n + m, ?_⟩
      simp only [evCode]
      rw [lift T hn (by omega)]; exact lift T hm (by omega)
    · rename_i hne
      obtain ⟨n, hn⟩ := (xCode_iff T _ _ _).1 h
      refine ⟨n, ?_⟩
      simp only [evCode]
      rw [hn]
      split
      · rename_i st' he; cases he; exact absurd h (hne _)
      · rfl

theorem xCode_cond (c : Opd) (t e : ACode) (st : St) : xCode T (.cond c t e) st = match c.ev st.s with
    | some (.bool true) => xCode T t st
    | some (.bool false) => xCode T e st
    | _ => none := by
  apply Option.ext
  intro r
  rw [xCode_iff]
  simp only [evCode]
  split
  · rename_i he; rw [he]; exact (xCode_iff T _ _ _).symm
  · rename_i he; rw [he]; exact (xCode_iff T _ _ _).symm
  · rename_i h1 h2
    split
    · rename_i he; exact absurd he h1
    · rename_i he; exact absurd he h2
    · simp

theorem xCode_block (id : Nat) (c : ACode) (st : St) : xCode T (.block id c) st = match xCode T c st with
    | some (.exit j, st') => if j = id then some (.normal, st') else some (.exit j, st')
    | r => r := by
  apply Option.ext
  intro r
  rw [xCode_iff]
  constructor
  · rintro ⟨n, hn⟩
    simp only [evCode] at hn
    split at hn
    · rename_i j st' he
      rw [(xCode_iff T _ _ _).2 ⟨n, he⟩]; exact hn
    · rename_i hne
      rw [(xCode_iff T _ _ _).2 ⟨n, hn⟩]
      split
      · rename_i st' he; cases he; exact absurd hn (hne _ _)
      · rfl
  · intro h
    split at h
    · rename_i j st' he
      obtain ⟨n, hn⟩ := (xCode_iff T _ _ _).1 he
      refine ⟨n, ?_⟩
      simp only [evCode]
      rw [hn]; exact h
    · rename_i hne
      obtain ⟨n, hn⟩ := (xCode_iff T _ _ _).1 h
      refine ⟨n, ?_⟩
      simp only [evCode]
      rw [hn]
      split
      · rename_i st' he; cases he; exact absurd h (hne _ _)
      · rfl

theorem xCode_live (l : List Nat) (c : ACode) (st : St) : xCode T (.live l c) st = xCode T c ⟨keep l st.s, st.h⟩ := rfl

theorem xCode_after (c : ACode) (l : List Nat) (st : St) : xCode T (.after c l) st = match xCode T c st with
    | some (.normal, st') => some (.normal, ⟨keep l st'.s, st'.h⟩)
    | r => r := by
  apply Option.ext
  intro r
  rw [xCode_iff]
  constructor
  · rintro ⟨n, hn⟩
    simp only [evCode] at hn
    split at hn
    · rename_i st' he
      rw [(xCode_iff T _ _ _).2 ⟨n, he⟩]; exact hn
    · rename_i hne
      rw [(xCode_iff T _ _ _).2 ⟨n, hn⟩]
      split
      · rename_i st' he; cases he; exact absurd hn (hne _)
      · rfl
  · intro h
    split at h
    · rename_i st' he
      obtain ⟨n, hn⟩ := (xCode_iff T _ _ _).1 he
      refine ⟨n, ?_⟩
      simp only [evCode]
      rw [hn]; exact h
    · rename_i hne
      obtain ⟨n, hn⟩ := (xCode_iff T _ _ _).1 h
      refine ⟨n, ?_⟩
      simp only [evCode]
      rw [hn]
      split
      · rename_i st' he; cases he; exact absurd h (hne _)
      · rfl

theorem xCode_loop (c : ACode) (st : St) : xCode T (.loop c) st = match xCode T c st with
    | some (.normal, st') => xCode T (.loop c) st'
    | r => r := by
  apply Option.ext
  intro r
  rw [xCode_iff]
  constructor
  · rintro ⟨n, hn⟩
    cases n with
    | zero => simp [evCode, loopN] at hn
    | succ n =>
      simp only [evCode, loopN] at hn
      split at hn
      · rename_i st' he
        rw [(xCode_iff T _ _ _).2 ⟨n + 1, he⟩]
        refine (xCode_iff T _ _ _).2 ⟨n + 1, ?_⟩
        exact loopN_mono (fun _ => Le.refl _) n (n + 1) st' (by omega) r hn
      · rename_i hne
        rw [(xCode_iff T _ _ _).2 ⟨n + 1, hn⟩]
        split
        · rename_i st' he; cases he; exact absurd hn (hne _)
        · rfl
  · intro h
    split at h
    · rename_i st' he
      obtain ⟨n, hn⟩ := (xCode_iff T _ _ _).1 he
      obtain ⟨m, hm⟩ := (xCode_iff T _ _ _).1 h
      refine ⟨n + m + 1, ?_⟩
      simp only [evCode, loopN]
      rw [lift T hn (by omega)]
      exact loopN_mono (fun st => evCode_mono (evCall_mono T (by omega)) (by omega) c st) m (n + m) st' (by omega) r hm
    · rename_i hne
      obtain ⟨n, hn⟩ := (xCode_iff T _ _ _).1 h
      refine ⟨n + 1, ?_⟩
      simp only [evCode, loopN]
      rw [lift T hn (by omega)]
      split
      · rename_i st' he; cases he; exact absurd h (hne _)
      · rfl

theorem xCode_rangeFunc (f : Opd) (g : Nat) (caps ps : List Nat) (a b : ACode) (st : St) : xCode T (.rangeFunc f g caps ps a b) st = match f.ev st.s, capsOf st.s caps with
    | some fv, some sl => match callVal (xCall T) fv [.yield st.h.size] (st.h.push (.loop g .ready none sl)) with
      | some (_, h') => loopEnd st.s h' st.h.size
      | none => none
    | _, _ => none := by
  apply Option.ext
  intro r
  rw [xCode_iff]
  have le : ∀ {c d : CallSem}, CallLe c d → ∀ f as h, Le (callVal c f as h) (callVal d f as h) := by
    intro c d hcd f as h x hx
    unfold callVal at hx ⊢
    split at hx
    · exact hcd _ _ _ _ hx
    · cases hx
  constructor
  · rintro ⟨n, hn⟩
    simp only [evCode] at hn
    split at hn
    · rename_i fv sl h1 h2
      rw [h1, h2]
      simp only
      split at hn
      · rename_i x h' he
        rw [le (evCall_le_x T n) _ _ _ _ he]; exact hn
      · cases hn
    · cases hn
  · intro h
    split at h
    · rename_i fv sl h1 h2
      split at h
      · rename_i x h' he
        have : ∃ n, callVal (evCall T n) fv [.yield st.h.size] (st.h.push (.loop g .ready none sl)) = some (x, h') := by
          unfold callVal at he ⊢
          split at he
          · exact (xCall_iff T _ _ _ _).1 he
          · cases he
        obtain ⟨n, hn⟩ := this
        exact ⟨n, by simp only [evCode, h1, h2, hn]; exact h⟩
      · cases h
    · cases h

/-- A call: its function's body is run, in slots that hold its arguments. -/
noncomputable def xFunc (f : AFunc) (args : List AVal) (h : Heap) : Option (AVal × Heap) :=
  if args.length = f.nargs then outcome f h (xCode T f.body ⟨enter 0 args, { h with wmin := h.size }⟩) else none

theorem xFunc_iff (f : AFunc) (args : List AVal) (h : Heap) (r : AVal × Heap) : xFunc T f args h = some r ↔ ∃ n, evFunc (evCall T n) n f args h = some r := by
  unfold xFunc
  constructor
  · intro h1
    split at h1
    · rename_i hl
      cases hx : xCode T f.body ⟨enter 0 args, { h with wmin := h.size }⟩ with
      | none => rw [hx] at h1; simp [outcome] at h1
      | some x =>
        obtain ⟨n, hn⟩ := (xCode_iff T _ _ _).1 hx
        refine ⟨n, ?_⟩
        rw [evFunc_eq, if_pos hl, hn, ← hx]; exact h1
    · simp at h1
  · rintro ⟨n, hn⟩
    rw [evFunc_eq] at hn
    split at hn
    · rename_i hl
      rw [if_pos hl]
      exact outcome_mono _ _ (fun r hr => (xCode_iff T _ _ _).2 ⟨n, hr⟩) r hn
    · simp at hn

theorem xCall_eq {g : Nat} {f : AFunc} (hT : T g = some f) (args : List AVal) (h : Heap) (hr : f.round = none := by rfl) : xCall T g args h = wrapC f.closed (xFunc T f) args h := by
  apply Option.ext
  intro r
  rw [xCall_iff]
  constructor
  · rintro ⟨n, hn⟩
    cases n with
    | zero => simp [evCall] at hn
    | succ n =>
      simp only [evCall, hT, hr] at hn
      exact wrapC_mono (fun args h r hr => (xFunc_iff T f args h r).2 ⟨n, hr⟩) _ _ _ _ hn
  · intro h1
    have key : ∃ n, wrapC f.closed (evFunc (evCall T n) n f) args h = some r := by
      cases hc : f.closed with
      | false =>
        rw [hc] at h1
        exact (xFunc_iff T f args h r).1 h1
      | true =>
        rw [hc] at h1
        simp only [wrapC, evClosed, if_true] at h1 ⊢
        split at h1
        · rename_i hu
          split at h1
          · rename_i v h' he
            obtain ⟨n, hn⟩ := (xFunc_iff T f args _ _).1 he
            refine ⟨n, ?_⟩
            rw [if_pos hu, hn]; exact h1
          · cases h1
        · cases h1
    obtain ⟨n, hn⟩ := key
    refine ⟨n + 1, ?_⟩
    simp only [evCall, hT, hr]; exact hn

/-- A round: yield is called. -/
noncomputable def xRound (g : Nat) (r : ARound) (args : List AVal) (h : Heap) : Option (AVal × Heap) :=
  match args with
  | .ptr (some (i, _)) :: as =>
    if as.length = r.params.length ∧ h.base ≤ i then match roundSlots i r.params as h with
      | some s => match roundIn g i (xCode T r.assign ⟨s, { h with wmin := h.size }⟩) with
        | some st => roundOut h g i (xCode T r.body st)
        | none => none
      | none => none
    else none
  | _ => none

theorem xRound_eq {g : Nat} {f : AFunc} {rd : ARound} (hT : T g = some f) (hr : f.round = some rd) (args : List AVal) (h : Heap) : xCall T g args h = xRound T g rd args h := by
  apply Option.ext
  intro r
  rw [xCall_iff]
  constructor
  · rintro ⟨n, hn⟩
    cases n with
    | zero => simp [evCall] at hn
    | succ n =>
      simp only [evCall, hT, hr] at hn
      unfold evRound at hn
      unfold xRound
      split at hn
      · simp only
        split at hn
        · rename_i h1
          rw [if_pos h1]
          split at hn
          · rename_i hs
            rw [hs]
            simp only
            split at hn
            · rename_i st he
              rw [roundIn_mono (fun x hx => (xCode_iff T _ _ _).2 ⟨n, hx⟩) _ he]
              exact roundOut_mono (fun x hx => (xCode_iff T _ _ _).2 ⟨n, hx⟩) _ hn
            · cases hn
          · cases hn
        · cases hn
      · cases hn
  · intro h1
    unfold xRound at h1
    split at h1
    · rename_i i k as
      split at h1
      · rename_i hl
        split at h1
        · rename_i s hs
          split at h1
          · rename_i st he
            have e1 : ∃ n, roundIn g i (evCode (evCall T n) n rd.assign ⟨s, { h with wmin := h.size }⟩) = some st := by
              cases hx : xCode T rd.assign ⟨s, { h with wmin := h.size }⟩ with
              | none => rw [hx] at he; simp [roundIn] at he
              | some x =>
                obtain ⟨n, hn⟩ := (xCode_iff T _ _ _).1 hx
                exact ⟨n, by rw [hn, ← hx]; exact he⟩
            have e2 : ∃ n, roundOut h g i (evCode (evCall T n) n rd.body st) = some r := by
              cases hx : xCode T rd.body st with
              | none => rw [hx] at h1; simp [roundOut] at h1
              | some x =>
                obtain ⟨n, hn⟩ := (xCode_iff T _ _ _).1 hx
                exact ⟨n, by rw [hn, ← hx]; exact h1⟩
            obtain ⟨n, hn⟩ := e1
            obtain ⟨m, hm⟩ := e2
            refine ⟨n + m + 1, ?_⟩
            simp only [evCall, hT, hr, evRound, if_pos hl, hs]
            rw [roundIn_mono (evCode_mono (evCall_mono T (show n ≤ n + m by omega)) (show n ≤ n + m by omega) _ _) _ hn]
            exact roundOut_mono (evCode_mono (evCall_mono T (show m ≤ n + m by omega)) (show m ≤ n + m by omega) _ _) _ hm
          · cases h1
        · cases h1
      · cases h1
    · cases h1

/-- A closed run: what the evaluator gives with n rounds. -/
theorem xCall_of (n : Nat) {g : Nat} {args : List AVal} {h : Heap} {r} (he : evCall T n g args h = some r) : xCall T g args h = some r := (xCall_iff T _ _ _ _).2 ⟨n, he⟩
end
end Go.Abs
