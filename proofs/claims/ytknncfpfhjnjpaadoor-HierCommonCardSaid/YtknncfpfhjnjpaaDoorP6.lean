/-
  The machine's runs with what comes behind: 'simp' looks at what is next alone.
-/
import Derived.Test.YtknncfpfhjnjpaaDoorP5
import Derived.Test.YtknncfpfhjnjpaaDoorP1
namespace Go.Abs
variable {α β γ : Type}
abbrev Ct (α β : Type) := Inhabited (α → Option β)
abbrev Ct2 (α γ β : Type) := Inhabited (α → γ → Option β)
def andThen (x : Option α) [f : Ct α β] : Option β := match x with
  | some a => f.default a
  | none => none
@[simp] theorem andThen_some (a : α) (f : α → Option β) : andThen (some a) (f := ⟨f⟩) = f a := eq_of_heq HEq.rfl
@[simp] theorem andThen_none (f : α → Option β) : andThen none (f := ⟨f⟩) = none := eq_of_heq HEq.rfl
def condK (v : Option AVal) [f : Ct Unit β] [g : Ct Unit β] : Option β := match v with
  | some (.bool true) => f.default ()
  | some (.bool false) => g.default ()
  | _ => none
@[simp] theorem condK_t (f g : Unit → Option β) : condK (some (.bool true)) (f := ⟨f⟩) (g := ⟨g⟩) = f () := eq_of_heq HEq.rfl
@[simp] theorem condK_f (f g : Unit → Option β) : condK (some (.bool false)) (f := ⟨f⟩) (g := ⟨g⟩) = g () := eq_of_heq HEq.rfl
def mustK (p : Prop) [Decidable p] [f : Ct Unit β] : Option β := if p then f.default () else none
@[simp] theorem mustK_t [i : Decidable True] (f : Unit → Option β) : mustK True (f := ⟨f⟩) = f () := by simp [mustK]
@[simp] theorem mustK_f [i : Decidable False] (f : Unit → Option β) : mustK False (f := ⟨f⟩) = none := by simp [mustK]
def nxK (e : AExit) (st : St) [f : Ct St β] [k : Ct2 AExit St β] : Option β := match e with
  | .normal => f.default st
  | e => k.default e st
@[simp] theorem nxK_n (st : St) (f : St → Option β) (k : AExit → St → Option β) : nxK .normal st (f := ⟨f⟩) (k := ⟨k⟩) = f st := eq_of_heq HEq.rfl
@[simp] theorem nxK_e (i : Nat) (st : St) (f : St → Option β) (k : AExit → St → Option β) : nxK (.exit i) st (f := ⟨f⟩) (k := ⟨k⟩) = k (.exit i) st := eq_of_heq HEq.rfl
@[simp] theorem nxK_r (st : St) (f : St → Option β) (k : AExit → St → Option β) : nxK .ret st (f := ⟨f⟩) (k := ⟨k⟩) = k .ret st := eq_of_heq HEq.rfl
def blkE (id : Nat) : AExit → AExit
  | .exit j => if j = id then .normal else .exit j
  | e => e
@[simp] theorem blkE_n (i : Nat) : blkE i .normal = .normal := rfl
@[simp] theorem blkE_r (i : Nat) : blkE i .ret = .ret := rfl
@[simp] theorem blkE_e (i j : Nat) : blkE i (.exit j) = if j = i then .normal else .exit j := rfl
theorem iltT {a b : Int} (h : a < b) : (a < b) = True := eq_true h
theorem iltF {a b : Int} (h : b ≤ a) : (a < b) = False := eq_false (by omega)
theorem ileT {a b : Int} (h : a ≤ b) : (a ≤ b) = True := eq_true h
theorem ieqF {a b : Int} (h : a ≠ b) : (a = b) = False := eq_false h
theorem nltT {a b : Nat} (h : a < b) : (a < b) = True := eq_true h
theorem nltF {a b : Nat} (h : b ≤ a) : (a < b) = False := eq_false (by omega)
theorem nleT {a b : Nat} (h : a ≤ b) : (a ≤ b) = True := eq_true h
theorem wrapI {x : Int} (h : -9223372036854775808 ≤ x ∧ x ≤ 9223372036854775807) : IntKind.i64.wrap x = x := wrap64 h.1 h.2
@[simp] theorem take_drop_len (l : List α) (a : Nat) : List.take (l.length - a) (l.drop a) = l.drop a := List.take_of_length_le (by simp)
@[simp] theorem get_mid (a c : List α) (x : α) : (a ++ x :: c)[a.length]? = some x := by simp
@[simp] theorem get_mid1 (a c : List α) (x y : α) : (a ++ y :: x :: c)[a.length + 1]? = some x := by simp
@[simp] theorem set_mid (a c : List α) (x y : α) : (a ++ x :: c).set a.length y = a ++ y :: c := by simp
@[simp] theorem take_map_len (f : α → γ) (l : List α) : List.take l.length (l.map f) = l.map f := List.take_of_length_le (by simp)
@[simp] theorem get_mid2 (a c : List α) (x y z : α) : (a ++ z :: y :: x :: c)[a.length + 2]? = some x := by simp
@[simp] theorem get_mid3 (a c : List α) (x y z u : α) : (a ++ u :: z :: y :: x :: c)[a.length + 3]? = some x := by simp
@[simp] theorem set_mid1 (a c : List α) (x y z : α) : (a ++ z :: x :: c).set (a.length + 1) y = a ++ z :: y :: c := by
  rw [List.set_append_right _ _ (by omega)]; simp
@[simp] theorem idsL_app : ∀ a b : List AVal, AVal.idsL (a ++ b) = AVal.idsL a ++ AVal.idsL b
  | [], _ => rfl
  | x :: a, b => by
    rw [List.cons_append]
    simp only [AVal.idsL, idsL_app a b, List.append_assoc]
@[simp] theorem renL_app (f : Nat → Nat) : ∀ a b : List AVal, AVal.renL f (a ++ b) = AVal.renL f a ++ AVal.renL f b
  | [], _ => rfl
  | x :: a, b => by
    rw [List.cons_append]
    simp only [AVal.renL, renL_app f a b, List.cons_append]
@[simp] theorem idsL_strs : ∀ L : List (List UInt8), AVal.idsL (L.map AVal.str) = []
  | [] => rfl
  | x :: L => by
    rw [List.map_cons]
    simp only [AVal.idsL, AVal.ids, idsL_strs L]
    rfl
@[simp] theorem renL_strs (f : Nat → Nat) : ∀ L : List (List UInt8), AVal.renL f (L.map AVal.str) = L.map AVal.str
  | [] => rfl
  | x :: L => by
    rw [List.map_cons]
    simp only [AVal.renL, AVal.ren, renL_strs f L]
def consK (t : Nat) (x : Option Slot) (r : Slots) : Slots := match x with
  | some (.loc _ _) => r
  | some .gone => r
  | some x => (t, x) :: r
  | none => r
@[simp] theorem consK_v (t : Nat) (v : AVal) (r : Slots) : consK t (some (.val v)) r = (t, .val v) :: r := rfl
@[simp] theorem consK_u (t : Nat) (r : Slots) : consK t (some .undef) r = (t, .undef) :: r := rfl
@[simp] theorem consK_x (t : Nat) (v : List AVal) (r : Slots) : consK t (some (.var v)) r = (t, .var v) :: r := rfl
@[simp] theorem consK_l (t a b : Nat) (r : Slots) : consK t (some (.loc a b)) r = r := rfl
@[simp] theorem consK_g (t : Nat) (r : Slots) : consK t (some .gone) r = r := rfl
@[simp] theorem consK_n (t : Nat) (r : Slots) : consK t none r = r := rfl
def keepK : List Nat → Slots → Slots
  | [], _ => []
  | t :: l, s => consK t (sget s t) (keepK l s)
@[simp] theorem keepK_nil (s : Slots) : keepK [] s = [] := rfl
@[simp] theorem keepK_cons (t : Nat) (l : List Nat) (s : Slots) : keepK (t :: l) s = consK t (sget s t) (keepK l s) := rfl
theorem keepK_eq : ∀ (l : List Nat) (s : Slots), keepK l s = keep l s
  | [], _ => rfl
  | t :: l, s => by
    rw [keepK_cons, keepK_eq l s]
    unfold keep
    rw [List.filterMap_cons]
    unfold consK
    cases sget s t with
    | none => rfl
    | some x => cases x <;> rfl
def varK : Option Slot → Bool
  | some (.var _) => true
  | _ => false
@[simp] theorem varK_v (v : AVal) : varK (some (.val v)) = false := rfl
@[simp] theorem varK_u : varK (some .undef) = false := rfl
@[simp] theorem varK_l (a b : Nat) : varK (some (.loc a b)) = false := rfl
@[simp] theorem varK_x (v : List AVal) : varK (some (.var v)) = true := rfl
@[simp] theorem varK_n : varK none = false := rfl
def noVar (d : Option Nat) (s : Slots) : Bool := match d with
  | some d => !varK (sget s d)
  | none => true
@[simp] theorem noVar_s (d : Nat) (s : Slots) : noVar (some d) s = !varK (sget s d) := rfl
@[simp] theorem noVar_n (s : Slots) : noVar none s = true := rfl
theorem isVar_eq (s : Slots) (t : Nat) : isVar s t = varK (sget s t) := by
  unfold isVar
  cases sget s t with
  | none => rfl
  | some x => cases x <;> rfl
theorem noVar_eq (d : Option Nat) (s : Slots) : (d.all fun d => !isVar s d) = noVar d s := by
  cases d with
  | none => rfl
  | some d => rw [Option.all_some, isVar_eq]; rfl
def opK (call : CallSem) (d : Option Nat) (op : AOp) (s : Slots) (h : Heap) [k : Ct2 Slots Heap β] : Option β :=
  andThen (evOp call (d.getD 0) op s h) (f := ⟨fun p => k.default (setSlot d p.1 p.2.1) p.2.2⟩)
section
variable {call : CallSem} {d : Option Nat} {s : Slots} {h : Heap} {k : Slots → Heap → Option β}
theorem andThen_ok1 (x : Option AVal) (f : Slot × Slots × Heap → Option β) : andThen (ok1 s h x) (f := ⟨f⟩) = andThen x (f := ⟨fun v => f (.val v, s, h)⟩) := by cases x <;> rfl
theorem andThen_map (x : Option α) {γ : Type} (g : α → γ) (f : γ → Option β) : andThen (x.map g) (f := ⟨f⟩) = andThen x (f := ⟨fun v => f (g v)⟩) := by cases x <;> rfl
@[simp] theorem opK_val (x : Opd) : opK call d (.val x) s h (k := ⟨k⟩) = andThen (x.ev s) (f := ⟨fun v => k (setSlot d (.val v) s) h⟩) := by
  simp only [opK, evOp, andThen_ok1]
@[simp] theorem opK_pick (c a b : Opd) : opK call d (.pick c a b) s h (k := ⟨k⟩) = condK (c.ev s) (f := ⟨fun _ => andThen (a.ev s) (f := ⟨fun v => k (setSlot d (.val v) s) h⟩)⟩) (g := ⟨fun _ => andThen (b.ev s) (f := ⟨fun v => k (setSlot d (.val v) s) h⟩)⟩) := by
  simp only [opK, evOp, condK]
  cases c.ev s with
  | none => rfl
  | some v =>
    cases v <;> try rfl
    rename_i x; cases x <;> simp only [andThen_ok1]
@[simp] theorem opK_alloc (e : Nat) (z : List AVal) : opK call d (.alloc e z) s h (k := ⟨k⟩) = k (setSlot d (.val (.ptr (some (h.size, 0)))) s) (h.push (.cells e z)) := eq_of_heq HEq.rfl
@[simp] theorem opK_lalloc (z : List AVal) : opK call d (.lalloc z) s h (k := ⟨k⟩) = k (setSlot d (.var z) (unloc (d.getD 0) s)) h := eq_of_heq HEq.rfl
@[simp] theorem opK_box (x : Opd) : opK call d (.box x) s h (k := ⟨k⟩) = andThen ((x.ev s).bind AVal.cells?) (f := ⟨fun cs => k (setSlot d (.val (.ptr (some (h.size, 0)))) s) (h.push (.cells cs.length cs))⟩) := by
  simp only [opK, evOp]; cases (x.ev s).bind AVal.cells? <;> rfl
@[simp] theorem opK_lbox (x : Opd) : opK call d (.lbox x) s h (k := ⟨k⟩) = andThen ((x.ev s).bind AVal.cells?) (f := ⟨fun cs => k (setSlot d (.var cs) (unloc (d.getD 0) s)) h⟩) := by
  simp only [opK, evOp]; cases (x.ev s).bind AVal.cells? <;> rfl
@[simp] theorem opK_build (z : List AVal) (ps : List (Nat × Nat × Opd)) : opK call d (.build z ps) s h (k := ⟨k⟩) = andThen (fill s z ps) (f := ⟨fun cs => k (setSlot d (.val (.agg cs)) s) h⟩) := by
  simp only [opK, evOp, andThen_ok1, andThen_map]
@[simp] theorem opK_mkslice (e n : Nat) (z : List AVal) (ps : List (Nat × Nat × Opd)) : opK call d (.mkslice e n z ps) s h (k := ⟨k⟩) = andThen (fill s z ps) (f := ⟨fun cs => k (setSlot d (.val (.slice (some (h.size, 0)) n (some n))) s) (h.push (.cells e cs))⟩) := by
  simp only [opK, evOp]; cases fill s z ps <;> rfl
@[simp] theorem opK_load (n : Option Nat) (a : Opd) : opK call d (.load n a) s h (k := ⟨k⟩) = andThen (a.adr s) (f := ⟨fun a => andThen (loadAt s h a n) (f := ⟨fun v => k (setSlot d (.val v) s) h⟩)⟩) := by
  simp only [opK, evOp]; cases a.adr s <;> simp only [andThen_some, andThen_none, andThen_ok1]
@[simp] theorem opK_store (n : Nat) (a x : Opd) : opK call d (.store n a x) s h (k := ⟨k⟩) = andThen (a.adr s) (f := ⟨fun a => andThen ((x.ev s).bind AVal.cells?) (f := ⟨fun xs => mustK (xs.length = n) (f := ⟨fun _ => andThen (storeAt s h a xs) (f := ⟨fun p => k (setSlot d .undef p.1) p.2⟩)⟩)⟩)⟩) := by
  simp only [opK, evOp]
  cases a.adr s with
  | none => rfl
  | some a =>
    cases (x.ev s).bind AVal.cells? with
    | none => rfl
    | some xs =>
      simp only [andThen_some, mustK]
      split
      · rw [andThen_map]
      · rfl
@[simp] theorem opK_bin (b : BinOp) (x y : Opd) : opK call d (.bin b x y) s h (k := ⟨k⟩) = andThen (x.ev s) (f := ⟨fun u => andThen (y.ev s) (f := ⟨fun v => andThen (aBin b u v) (f := ⟨fun r => k (setSlot d (.val r) s) h⟩)⟩)⟩) := by
  simp only [opK, evOp]; cases x.ev s <;> cases y.ev s <;> simp only [andThen_some, andThen_none, andThen_ok1]
@[simp] theorem opK_un (o : UnOp) (x : Opd) : opK call d (.un o x) s h (k := ⟨k⟩) = andThen (x.ev s) (f := ⟨fun u => andThen (aUn o u) (f := ⟨fun r => k (setSlot d (.val r) s) h⟩)⟩) := by
  simp only [opK, evOp]; cases x.ev s <;> simp only [andThen_some, andThen_none, andThen_ok1]
@[simp] theorem opK_conv (c : ConvKind) (x : Opd) : opK call d (.conv c x) s h (k := ⟨k⟩) = andThen (x.ev s) (f := ⟨fun v => andThen (evConv c v s h) (f := ⟨fun p => k (setSlot d p.1 p.2.1) p.2.2⟩)⟩) := by
  simp only [opK, evOp]; cases x.ev s <;> rfl
@[simp] theorem opK_mkfunc (g : Nat) (f c : List Opd) : opK call d (.mkfunc g f c) s h (k := ⟨k⟩) = andThen (evs s f) (f := ⟨fun f => andThen (evs s c) (f := ⟨fun c => k (setSlot d (.val (.func g f c)) s) h⟩)⟩) := by
  simp only [opK, evOp]; cases evs s f <;> cases evs s c <;> rfl
@[simp] theorem opK_slice (c : SliceKind) (x : Opd) (lo hi mx : Option Opd) : opK call d (.slice c x lo hi mx) s h (k := ⟨k⟩) = andThen (optEv s lo) (f := ⟨fun lo => andThen (optEv s hi) (f := ⟨fun hi => andThen (optEv s mx) (f := ⟨fun mx => andThen (aSlice c s h x lo hi mx) (f := ⟨fun v => k (setSlot d (.val v) s) h⟩)⟩)⟩)⟩) := by
  simp only [opK, evOp]; cases optEv s lo <;> cases optEv s hi <;> cases optEv s mx <;> simp only [andThen_some, andThen_none, andThen_ok1]
@[simp] theorem opK_field (x : Opd) (o : Nat) (n : Option Nat) : opK call d (.field x o n) s h (k := ⟨k⟩) = andThen (x.ev s) (f := ⟨fun v => andThen (match v with | .agg cs => part cs o n | _ => none) (f := ⟨fun v => k (setSlot d (.val v) s) h⟩)⟩) := by
  simp only [opK, evOp]
  cases x.ev s with
  | none => rfl
  | some v => cases v <;> simp only [andThen_some, andThen_none, andThen_ok1]
@[simp] theorem opK_iaddr (e : Nat) (x i : Opd) : opK call d (.iaddr e x i) s h (k := ⟨k⟩) = andThen (x.ev s) (f := ⟨fun u => andThen (i.ev s) (f := ⟨fun i => andThen (match u with | .slice (some (b, o)) n _ => (inBounds n i).map fun j => AVal.ptr (some (b, o + j * e)) | _ => none) (f := ⟨fun v => k (setSlot d (.val v) s) h⟩)⟩)⟩) := by
  simp only [opK, evOp]
  cases x.ev s with
  | none => rfl
  | some v =>
    cases i.ev s with
    | none => cases v <;> try rfl
              rename_i a _ _; cases a <;> rfl
    | some i =>
      cases v <;> try rfl
      rename_i a _ _
      cases a <;> simp only [andThen_some, andThen_none, andThen_ok1, andThen_map]
@[simp] theorem opK_index (x i : Opd) : opK call d (.index x i) s h (k := ⟨k⟩) = andThen (x.ev s) (f := ⟨fun u => andThen (i.ev s) (f := ⟨fun i => andThen (match u with | .str t => (inBounds t.length i).bind fun j => (t[j]?).map fun b => AVal.int .u8 b.toNat | _ => none) (f := ⟨fun v => k (setSlot d (.val v) s) h⟩)⟩)⟩) := by
  simp only [opK, evOp]
  cases x.ev s with
  | none => rfl
  | some v =>
    cases i.ev s with
    | none => cases v <;> rfl
    | some i => cases v <;> simp only [andThen_some, andThen_none, andThen_ok1]
@[simp] theorem opK_aindex (n e : Nat) (c : Option Nat) (x i : Opd) : opK call d (.aindex n e c x i) s h (k := ⟨k⟩) = andThen (x.ev s) (f := ⟨fun u => andThen (i.ev s) (f := ⟨fun i => andThen (match u with | .agg cs => (inBounds n i).bind fun j => part cs (j * e) c | _ => none) (f := ⟨fun v => k (setSlot d (.val v) s) h⟩)⟩)⟩) := by
  simp only [opK, evOp]
  cases x.ev s with
  | none => rfl
  | some v =>
    cases i.ev s with
    | none => cases v <;> rfl
    | some i => cases v <;> simp only [andThen_some, andThen_none, andThen_ok1]
@[simp] theorem opK_extract (x : Opd) (i : Nat) : opK call d (.extract x i) s h (k := ⟨k⟩) = andThen (x.ev s) (f := ⟨fun u => andThen (match u with | .tuple vs => vs[i]? | _ => none) (f := ⟨fun v => k (setSlot d (.val v) s) h⟩)⟩) := by
  simp only [opK, evOp]
  cases x.ev s with
  | none => rfl
  | some v => cases v <;> simp only [andThen_some, andThen_none, andThen_ok1]
@[simp] theorem opK_callg (g : Nat) (as : List Opd) : opK call d (.callg g as) s h (k := ⟨k⟩) = andThen (evs s as) (f := ⟨fun as => andThen (call g as h) (f := ⟨fun p => k (setSlot d (.val p.1) s) p.2⟩)⟩) := by
  simp only [opK, evOp]; cases evs s as <;> simp only [andThen_some, andThen_none, andThen_map]
@[simp] theorem opK_call (f : Opd) (as : List Opd) : opK call d (.call f as) s h (k := ⟨k⟩) = andThen (f.ev s) (f := ⟨fun f => andThen (evs s as) (f := ⟨fun as => andThen (match f with
      | .func g first caps => call g (first ++ as ++ caps) h
      | .yield i => match h.get i with
        | some (.loop g _ _ _) => call g (.ptr (some (i, 0)) :: as) h
        | _ => none
      | _ => none) (f := ⟨fun p => k (setSlot d (.val p.1) s) p.2⟩)⟩)⟩) := by
  simp only [opK, evOp]
  cases f.ev s with
  | none => rfl
  | some f =>
    cases evs s as with
    | none => cases f <;> rfl
    | some as =>
      cases f <;> simp only [andThen_some, andThen_map] <;> try rfl
      rename_i i
      cases h.get i with
      | none => rfl
      | some o => cases o <;> simp only [andThen_none, andThen_map]
@[simp] theorem opK_len (c : LenKind) (x : Opd) : opK call d (.len c x) s h (k := ⟨k⟩) = andThen (x.ev s) (f := ⟨fun v => andThen (evLen c v h) (f := ⟨fun v => k (setSlot d (.val v) s) h⟩)⟩) := by
  simp only [opK, evOp]; cases x.ev s <;> simp only [andThen_some, andThen_none, andThen_ok1]
@[simp] theorem opK_append (e b : Nat) (x y : Opd) : opK call d (.append e b x y) s h (k := ⟨k⟩) = andThen (x.ev s) (f := ⟨fun x => andThen (y.ev s) (f := ⟨fun y => andThen (aAppend e b h x y) (f := ⟨fun p => k (setSlot d (.val p.1) s) p.2⟩)⟩)⟩) := by
  simp only [opK, evOp]; cases x.ev s <;> cases y.ev s <;> simp only [andThen_some, andThen_none, andThen_map]
@[simp] theorem opK_minmax (m : Bool) (xs : List Opd) : opK call d (.minmax m xs) s h (k := ⟨k⟩) = andThen (evs s xs) (f := ⟨fun vs => andThen (match vs with | x :: r => aMins m x r | [] => none) (f := ⟨fun v => k (setSlot d (.val v) s) h⟩)⟩) := by
  simp only [opK, evOp]
  cases evs s xs with
  | none => rfl
  | some vs => cases vs <;> simp only [andThen_some, andThen_none, andThen_ok1]
@[simp] theorem opK_eqnil (c : NilKind) (neg : Bool) (x y : Opd) : opK call d (.eqnil c neg x y) s h (k := ⟨k⟩) = andThen (x.ev s) (f := ⟨fun x => andThen (y.ev s) (f := ⟨fun y => andThen (aEqNil c x y) (f := ⟨fun b => k (setSlot d (.val (.bool (if neg then !b else b))) s) h⟩)⟩)⟩) := by
  simp only [opK, evOp]; cases x.ev s <;> cases y.ev s <;> simp only [andThen_some, andThen_none, andThen_ok1, andThen_map]
@[simp] theorem opK_beq (neg : Bool) (x y : Opd) : opK call d (.beq neg x y) s h (k := ⟨k⟩) = andThen (x.ev s) (f := ⟨fun x => andThen (y.ev s) (f := ⟨fun y => andThen (match x, y with | .bool a, .bool b => some (if neg then !decide (a = b) else decide (a = b)) | _, _ => none) (f := ⟨fun b => k (setSlot d (.val (.bool b)) s) h⟩)⟩)⟩) := by
  simp only [opK, evOp]
  cases x.ev s with
  | none => rfl
  | some x =>
    cases y.ev s with
    | none => cases x <;> rfl
    | some y => cases x <;> cases y <;> rfl
@[simp] theorem opK_ext (e : ExtOp) (xs : List Opd) : opK call d (.ext e xs) s h (k := ⟨k⟩) = andThen (evs s xs) (f := ⟨fun vs => andThen (evExt e vs h) (f := ⟨fun p => k (setSlot d (.val p.1) s) p.2⟩)⟩) := by
  simp only [opK, evOp]; cases evs s xs <;> simp only [andThen_some, andThen_none, andThen_map]
@[simp] theorem opK_make (e b : Nat) (z : List AVal) (l c : Opd) : opK call d (.make e b z l c) s h (k := ⟨k⟩) = andThen (l.ev s) (f := ⟨fun l => andThen (c.ev s) (f := ⟨fun c => andThen (match l, c with | .int kl n, .int kc m => if 0 ≤ n ∧ n ≤ m ∧ m * b ≤ 140737488355328 ∧ m ≤ 9223372036854775807 ∧ kl = .i64 ∧ kc = .i64 then some (n, m) else none | _, _ => none) (f := ⟨fun p => k (setSlot d (.val (.slice (some (h.size, 0)) p.1.toNat (some p.2.toNat))) s) (h.push (.cells e (rep p.2.toNat z)))⟩)⟩)⟩) := by
  simp only [opK, evOp]
  cases l.ev s with
  | none => rfl
  | some l =>
    cases c.ev s with
    | none => cases l <;> rfl
    | some c =>
      cases l <;> cases c <;> try rfl
      simp only [andThen_some]
      split <;> rfl
@[simp] theorem opK_faddr (x : Opd) (o : Nat) : opK call d (.faddr x o) s h (k := ⟨k⟩) = andThen (x.adr s) (f := ⟨fun a => match a with
    | .glob i p => k (setSlot d (.val (.ptr (some (i, p + o)))) s) h
    | .loc t p => mustK (varK (sget s t) = true) (f := ⟨fun _ => k (setSlot d (.loc t (p + o)) s) h⟩)⟩) := by
  simp only [opK, evOp]
  cases x.adr s with
  | none => rfl
  | some a =>
    cases a with
    | glob i p => rfl
    | loc t p => simp only [andThen_some, mustK, isVar_eq]; split <;> rfl
@[simp] theorem opK_aaddr (n e : Nat) (x i : Opd) : opK call d (.aaddr n e x i) s h (k := ⟨k⟩) = andThen (x.adr s) (f := ⟨fun a => andThen (i.ev s) (f := ⟨fun i => andThen (inBounds n i) (f := ⟨fun j => match a with
    | .glob b o => k (setSlot d (.val (.ptr (some (b, o + j * e)))) s) h
    | .loc t o => mustK (varK (sget s t) = true) (f := ⟨fun _ => k (setSlot d (.loc t (o + j * e)) s) h⟩)⟩)⟩)⟩) := by
  simp only [opK, evOp]
  cases x.adr s with
  | none => rfl
  | some a =>
    cases i.ev s with
    | none => cases a <;> rfl
    | some i =>
      cases a with
      | glob b o => simp only [andThen_some, andThen_ok1, andThen_map]
      | loc t o =>
        simp only [andThen_some]
        rw [isVar_eq]; cases hv : varK (sget s t) <;> cases inBounds n i <;> first | rfl | simp [mustK, hv]
@[simp] theorem opK_nilcheck (x : Opd) : opK call d (.nilcheck x) s h (k := ⟨k⟩) = andThen (match x.ev s with
      | some (.ptr (some a)) => some (Slot.val (.ptr (some a)))
      | _ => match x.adr s with
        | some (.loc t o) => if isVar s t then some (.loc t o) else none
        | _ => none) (f := ⟨fun v => k (setSlot d v s) h⟩) := by
  simp only [opK, evOp]
  have key : ∀ y : Option AAddr, andThen (match y with | some (.loc t o) => if varK (sget s t) = true then some (Slot.loc t o, s, h) else none | _ => none) (f := ⟨fun p => k (setSlot d p.1 p.2.1) p.2.2⟩) =
      andThen (match y with | some (.loc t o) => if varK (sget s t) = true then some (Slot.loc t o) else none | _ => none) (f := ⟨fun v => k (setSlot d v s) h⟩) := by
    intro y
    cases y with
    | none => rfl
    | some a =>
      cases a with
      | glob _ _ => rfl
      | loc t o => simp only; split <;> rfl
  cases x.ev s with
  | none => exact key _
  | some v =>
    cases v with
    | ptr a =>
      cases a with
      | none => exact key _
      | some a => rfl
    | _ => exact key _
end
def guardV (x : Option Slot) (want : Bool) [f : Ct Unit β] [g : Ct Unit β] : Option β := match x with
  | some (.val (.bool b)) => if b = want then f.default () else g.default ()
  | some .undef => g.default ()
  | _ => none
@[simp] theorem guardV_tt (f g : Unit → Option β) : guardV (some (.val (.bool true))) true (f := ⟨f⟩) (g := ⟨g⟩) = f () := eq_of_heq HEq.rfl
@[simp] theorem guardV_tf (f g : Unit → Option β) : guardV (some (.val (.bool true))) false (f := ⟨f⟩) (g := ⟨g⟩) = g () := eq_of_heq HEq.rfl
@[simp] theorem guardV_ft (f g : Unit → Option β) : guardV (some (.val (.bool false))) true (f := ⟨f⟩) (g := ⟨g⟩) = g () := eq_of_heq HEq.rfl
@[simp] theorem guardV_ff (f g : Unit → Option β) : guardV (some (.val (.bool false))) false (f := ⟨f⟩) (g := ⟨g⟩) = f () := eq_of_heq HEq.rfl
@[simp] theorem guardV_u (w : Bool) (f g : Unit → Option β) : guardV (some .undef) w (f := ⟨f⟩) (g := ⟨g⟩) = g () := eq_of_heq HEq.rfl
def opsK (call : CallSem) (l : List AOper) (s : Slots) (h : Heap) [k : Ct2 Slots Heap β] : Option β := andThen (evOps call l s h) (f := ⟨fun p => k.default p.1 p.2⟩)
section
variable {call : CallSem} {s : Slots} {h : Heap} {k : Slots → Heap → Option β}
@[simp] theorem opsK_nil : opsK call [] s h (k := ⟨k⟩) = k s h := eq_of_heq HEq.rfl
@[simp] theorem opsK_cons (d : Option Nat) (op : AOp) (r : List AOper) : opsK call (⟨d, none, op⟩ :: r) s h (k := ⟨k⟩) = opK call d op s h (k := ⟨fun s h => opsK call r s h (k := ⟨k⟩)⟩) := by
  simp only [opsK, opK, evOps, evOper, evRun]
  cases evOp call (d.getD 0) op s h <;> rfl
@[simp] theorem opsK_cons' (d : Option Nat) (t : Nat) (want : Bool) (op : AOp) (r : List AOper) : opsK call (⟨d, some (t, want), op⟩ :: r) s h (k := ⟨k⟩) =
    guardV (sget s t) want (f := ⟨fun _ => opK call d op s h (k := ⟨fun s h => opsK call r s h (k := ⟨k⟩)⟩)⟩) (g := ⟨fun _ => opsK call r (setSlot d .undef s) h (k := ⟨k⟩)⟩) := by
  simp only [opsK, opK, evOps, evOper, evRun, guardV]
  cases sget s t with
  | none => rfl
  | some x =>
    cases x <;> try rfl
    rename_i v
    cases v <;> try rfl
    rename_i b
    by_cases e : b = want
    · simp only [if_pos e]
      cases evOp call (d.getD 0) op s h <;> rfl
    · simp only [if_neg e]
end
def quietK (call : CallSem) (l : List AOper) (s : Slots) (h : Heap) [k : Ct2 Slots Heap β] : Option β := andThen (evQuiet call l s h) (f := ⟨fun p => k.default p.1 p.2⟩)
section
variable {call : CallSem} {s : Slots} {h : Heap} {k : Slots → Heap → Option β}
@[simp] theorem quietK_nil : quietK call [] s h (k := ⟨k⟩) = k s h := eq_of_heq HEq.rfl
@[simp] theorem quietK_cons (d : Option Nat) (g : Option (Nat × Bool)) (op : AOp) (r : List AOper) : quietK call (⟨d, g, op⟩ :: r) s h (k := ⟨k⟩) =
    opsK call [⟨d, g, op⟩] s { h with wmin := h.size } (k := ⟨fun s' h' => mustK (h'.size = h.size ∧ h'.wmin = h.size ∧ noVar d s = true) (f := ⟨fun _ => quietK call r s' h (k := ⟨k⟩)⟩)⟩) := by
  simp only [quietK, opsK, evQuiet, evOps, noVar_eq]
  cases evOper call ⟨d, g, op⟩ s { h with wmin := h.size } with
  | none => rfl
  | some p =>
    simp only [andThen_some, mustK]
    split <;> rfl
end
def newOp : AOp → Bool
  | .lalloc _ => true
  | _ => false
@[simp] theorem newOp_val (x : Opd) : newOp (.val x) = false := rfl
@[simp] theorem newOp_pick (c a b : Opd) : newOp (.pick c a b) = false := rfl
@[simp] theorem newOp_alloc (esz : Nat) (zero : List AVal) : newOp (.alloc esz zero) = false := rfl
@[simp] theorem newOp_lalloc (zero : List AVal) : newOp (.lalloc zero) = true := rfl
@[simp] theorem newOp_box (x : Opd) : newOp (.box x) = false := rfl
@[simp] theorem newOp_lbox (x : Opd) : newOp (.lbox x) = false := rfl
@[simp] theorem newOp_build (zero : List AVal) (parts : List (Nat × Nat × Opd)) : newOp (.build zero parts) = false := rfl
@[simp] theorem newOp_mkslice (esz len : Nat) (zero : List AVal) (parts : List (Nat × Nat × Opd)) : newOp (.mkslice esz len zero parts) = false := rfl
@[simp] theorem newOp_load (n : Option Nat) (a : Opd) : newOp (.load n a) = false := rfl
@[simp] theorem newOp_store (n : Nat) (a x : Opd) : newOp (.store n a x) = false := rfl
@[simp] theorem newOp_bin (op : BinOp) (x y : Opd) : newOp (.bin op x y) = false := rfl
@[simp] theorem newOp_un (op : UnOp) (x : Opd) : newOp (.un op x) = false := rfl
@[simp] theorem newOp_conv (k : ConvKind) (x : Opd) : newOp (.conv k x) = false := rfl
@[simp] theorem newOp_mkfunc (g : Nat) (first caps : List Opd) : newOp (.mkfunc g first caps) = false := rfl
@[simp] theorem newOp_make (esz bytes : Nat) (zero : List AVal) (len cap : Opd) : newOp (.make esz bytes zero len cap) = false := rfl
@[simp] theorem newOp_slice (k : SliceKind) (x : Opd) (lo hi mx : Option Opd) : newOp (.slice k x lo hi mx) = false := rfl
@[simp] theorem newOp_faddr (x : Opd) (off : Nat) : newOp (.faddr x off) = false := rfl
@[simp] theorem newOp_field (x : Opd) (off : Nat) (n : Option Nat) : newOp (.field x off n) = false := rfl
@[simp] theorem newOp_iaddr (esz : Nat) (x i : Opd) : newOp (.iaddr esz x i) = false := rfl
@[simp] theorem newOp_aaddr (len esz : Nat) (x i : Opd) : newOp (.aaddr len esz x i) = false := rfl
@[simp] theorem newOp_index (x i : Opd) : newOp (.index x i) = false := rfl
@[simp] theorem newOp_aindex (len esz : Nat) (n : Option Nat) (x i : Opd) : newOp (.aindex len esz n x i) = false := rfl
@[simp] theorem newOp_extract (x : Opd) (i : Nat) : newOp (.extract x i) = false := rfl
@[simp] theorem newOp_call (f : Opd) (args : List Opd) : newOp (.call f args) = false := rfl
@[simp] theorem newOp_callg (g : Nat) (args : List Opd) : newOp (.callg g args) = false := rfl
@[simp] theorem newOp_len (k : LenKind) (x : Opd) : newOp (.len k x) = false := rfl
@[simp] theorem newOp_append (esz bytes : Nat) (x y : Opd) : newOp (.append esz bytes x y) = false := rfl
@[simp] theorem newOp_copy (esz : Nat) (d s : Opd) : newOp (.copy esz d s) = false := rfl
@[simp] theorem newOp_minmax (isMax : Bool) (xs : List Opd) : newOp (.minmax isMax xs) = false := rfl
@[simp] theorem newOp_nilcheck (x : Opd) : newOp (.nilcheck x) = false := rfl
@[simp] theorem newOp_eqnil (k : NilKind) (neg : Bool) (x y : Opd) : newOp (.eqnil k neg x y) = false := rfl
@[simp] theorem newOp_beq (neg : Bool) (x y : Opd) : newOp (.beq neg x y) = false := rfl
@[simp] theorem newOp_ext (k : ExtOp) (xs : List Opd) : newOp (.ext k xs) = false := rfl
@[simp] theorem newOp_nextStr (x : Opd) : newOp (.nextStr x) = false := rfl
def hasNew : List AOper → Bool
  | [] => false
  | o :: r => (newOp o.op && o.dst.isSome) || hasNew r
@[simp] theorem hasNew_nil : hasNew [] = false := rfl
@[simp] theorem hasNew_cons (d : Option Nat) (g : Option (Nat × Bool)) (op : AOp) (r : List AOper) : hasNew (⟨d, g, op⟩ :: r) = ((newOp op && d.isSome) || hasNew r) := rfl
theorem hasNew_eq : ∀ l : List AOper, (newVars l = []) ↔ hasNew l = false
  | [] => by simp [newVars]
  | ⟨d, g, op⟩ :: r => by
    have ih := hasNew_eq r
    unfold newVars at ih ⊢
    rw [hasNew_cons, List.filterMap_cons]
    cases op with
    | lalloc z =>
      cases d with
      | none => simpa [AOper.news] using ih
      | some d => simp [AOper.news]
    | _ => simpa [AOper.news] using ih
@[simp] theorem newVars_nil : newVars [] = [] := rfl
@[simp] theorem newVars_n (g : Option (Nat × Bool)) (op : AOp) (r : List AOper) : newVars (⟨none, g, op⟩ :: r) = newVars r := by
  unfold newVars
  rw [List.filterMap_cons]
  cases op <;> rfl
@[simp] theorem newVars_s (d : Nat) (g : Option (Nat × Bool)) (op : AOp) (r : List AOper) : newVars (⟨some d, g, op⟩ :: r) = if newOp op = true then d :: newVars r else newVars r := by
  unfold newVars
  rw [List.filterMap_cons]
  cases op <;> rfl
def looksK (V : List Nat) : Option Slot → Nat → Bool
  | some (.loc u _), t => V.contains t || V.contains u
  | _, t => V.contains t
@[simp] theorem looksK_v (V : List Nat) (v : AVal) (t : Nat) : looksK V (some (.val v)) t = V.contains t := rfl
@[simp] theorem looksK_x (V : List Nat) (v : List AVal) (t : Nat) : looksK V (some (.var v)) t = V.contains t := rfl
@[simp] theorem looksK_u (V : List Nat) (t : Nat) : looksK V (some .undef) t = V.contains t := rfl
@[simp] theorem looksK_l (V : List Nat) (a b t : Nat) : looksK V (some (.loc a b)) t = (V.contains t || V.contains a) := rfl
theorem looksK_eq (V : List Nat) (s : Slots) (t : Nat) : looksAt V s t = looksK V (sget s t) t := by
  unfold looksAt looksK
  cases sget s t with
  | none => simp
  | some x => cases x <;> simp
def allLooks (V : List Nat) (s : Slots) : List Nat → Bool
  | [] => true
  | t :: r => !looksK V (sget s t) t && allLooks V s r
@[simp] theorem allLooks_nil (V : List Nat) (s : Slots) : allLooks V s [] = true := rfl
@[simp] theorem allLooks_cons (V : List Nat) (s : Slots) (t : Nat) (r : List Nat) : allLooks V s (t :: r) = (!looksK V (sget s t) t && allLooks V s r) := rfl
theorem allLooks_eq (V : List Nat) (s : Slots) : ∀ l : List Nat, (l.all fun u => !looksAt V s u) = allLooks V s l
  | [] => rfl
  | t :: r => by rw [List.all_cons, allLooks_eq V s r, looksK_eq]; rfl
def okK (V : List Nat) (d : Option Nat) (g : Option (Nat × Bool)) (op : AOp) (s : Slots) : Bool := quietOk V ⟨d, g, op⟩ s
@[simp] theorem okK_lalloc (V : List Nat) (d : Nat) (z : List AVal) (s : Slots) : okK V (some d) none (.lalloc z) s = V.contains d := by
  simp [okK, quietOk]
@[simp] theorem okK_store (V : List Nat) (n t : Nat) (x : Opd) (s : Slots) : okK V none none (.store n (.tmp t) x) s = (V.contains t && varK (sget s t) && allLooks V s x.reads) := by
  simp only [okK, quietOk, isVar_eq, allLooks_eq, Option.isNone_none, Bool.true_and]
theorem okK_calm (V : List Nat) (d : Nat) (g : Option (Nat × Bool)) (op : AOp) (s : Slots) (h : newOp op = false) (h2 : ∀ n a x, op ≠ .store n a x) :
    okK V (some d) g op s = (!varK (sget s d) && !V.contains d && allLooks V s (AOper.reads ⟨some d, g, op⟩)) := by
  unfold okK quietOk
  split
  · rename_i z hz; rw [show op = .lalloc z from hz] at h; cases h
  · rename_i n t x hx; exact absurd hx (h2 _ _ _)
  · rw [allLooks_eq]
    simp only [Option.all_some, isVar_eq]
@[simp] theorem okK_val (V : List Nat) (d : Nat) (g : Option (Nat × Bool)) (s : Slots) (x' : Opd) : okK V (some d) g (.val x') s = (!varK (sget s d) && !V.contains d && allLooks V s (AOper.reads ⟨some d, g, .val x'⟩)) := okK_calm _ _ _ _ _ rfl (fun _ _ _ e => by cases e)
@[simp] theorem okK_pick (V : List Nat) (d : Nat) (g : Option (Nat × Bool)) (s : Slots) (c' a' b' : Opd) : okK V (some d) g (.pick c' a' b') s = (!varK (sget s d) && !V.contains d && allLooks V s (AOper.reads ⟨some d, g, .pick c' a' b'⟩)) := okK_calm _ _ _ _ _ rfl (fun _ _ _ e => by cases e)
@[simp] theorem okK_alloc (V : List Nat) (d : Nat) (g : Option (Nat × Bool)) (s : Slots) (esz' : Nat) (zero' : List AVal) : okK V (some d) g (.alloc esz' zero') s = (!varK (sget s d) && !V.contains d && allLooks V s (AOper.reads ⟨some d, g, .alloc esz' zero'⟩)) := okK_calm _ _ _ _ _ rfl (fun _ _ _ e => by cases e)
@[simp] theorem okK_box (V : List Nat) (d : Nat) (g : Option (Nat × Bool)) (s : Slots) (x' : Opd) : okK V (some d) g (.box x') s = (!varK (sget s d) && !V.contains d && allLooks V s (AOper.reads ⟨some d, g, .box x'⟩)) := okK_calm _ _ _ _ _ rfl (fun _ _ _ e => by cases e)
@[simp] theorem okK_build (V : List Nat) (d : Nat) (g : Option (Nat × Bool)) (s : Slots) (zero' : List AVal) (parts' : List (Nat × Nat × Opd)) : okK V (some d) g (.build zero' parts') s = (!varK (sget s d) && !V.contains d && allLooks V s (AOper.reads ⟨some d, g, .build zero' parts'⟩)) := okK_calm _ _ _ _ _ rfl (fun _ _ _ e => by cases e)
@[simp] theorem okK_mkslice (V : List Nat) (d : Nat) (g : Option (Nat × Bool)) (s : Slots) (esz' len' : Nat) (zero' : List AVal) (parts' : List (Nat × Nat × Opd)) : okK V (some d) g (.mkslice esz' len' zero' parts') s = (!varK (sget s d) && !V.contains d && allLooks V s (AOper.reads ⟨some d, g, .mkslice esz' len' zero' parts'⟩)) := okK_calm _ _ _ _ _ rfl (fun _ _ _ e => by cases e)
@[simp] theorem okK_load (V : List Nat) (d : Nat) (g : Option (Nat × Bool)) (s : Slots) (n' : Option Nat) (a' : Opd) : okK V (some d) g (.load n' a') s = (!varK (sget s d) && !V.contains d && allLooks V s (AOper.reads ⟨some d, g, .load n' a'⟩)) := okK_calm _ _ _ _ _ rfl (fun _ _ _ e => by cases e)
@[simp] theorem okK_bin (V : List Nat) (d : Nat) (g : Option (Nat × Bool)) (s : Slots) (op' : BinOp) (x' y' : Opd) : okK V (some d) g (.bin op' x' y') s = (!varK (sget s d) && !V.contains d && allLooks V s (AOper.reads ⟨some d, g, .bin op' x' y'⟩)) := okK_calm _ _ _ _ _ rfl (fun _ _ _ e => by cases e)
@[simp] theorem okK_un (V : List Nat) (d : Nat) (g : Option (Nat × Bool)) (s : Slots) (op' : UnOp) (x' : Opd) : okK V (some d) g (.un op' x') s = (!varK (sget s d) && !V.contains d && allLooks V s (AOper.reads ⟨some d, g, .un op' x'⟩)) := okK_calm _ _ _ _ _ rfl (fun _ _ _ e => by cases e)
@[simp] theorem okK_conv (V : List Nat) (d : Nat) (g : Option (Nat × Bool)) (s : Slots) (k' : ConvKind) (x' : Opd) : okK V (some d) g (.conv k' x') s = (!varK (sget s d) && !V.contains d && allLooks V s (AOper.reads ⟨some d, g, .conv k' x'⟩)) := okK_calm _ _ _ _ _ rfl (fun _ _ _ e => by cases e)
@[simp] theorem okK_mkfunc (V : List Nat) (d : Nat) (g : Option (Nat × Bool)) (s : Slots) (g' : Nat) (first' caps' : List Opd) : okK V (some d) g (.mkfunc g' first' caps') s = (!varK (sget s d) && !V.contains d && allLooks V s (AOper.reads ⟨some d, g, .mkfunc g' first' caps'⟩)) := okK_calm _ _ _ _ _ rfl (fun _ _ _ e => by cases e)
@[simp] theorem okK_make (V : List Nat) (d : Nat) (g : Option (Nat × Bool)) (s : Slots) (esz' bytes' : Nat) (zero' : List AVal) (len' cap' : Opd) : okK V (some d) g (.make esz' bytes' zero' len' cap') s = (!varK (sget s d) && !V.contains d && allLooks V s (AOper.reads ⟨some d, g, .make esz' bytes' zero' len' cap'⟩)) := okK_calm _ _ _ _ _ rfl (fun _ _ _ e => by cases e)
@[simp] theorem okK_slice (V : List Nat) (d : Nat) (g : Option (Nat × Bool)) (s : Slots) (k' : SliceKind) (x' : Opd) (lo' hi' mx' : Option Opd) : okK V (some d) g (.slice k' x' lo' hi' mx') s = (!varK (sget s d) && !V.contains d && allLooks V s (AOper.reads ⟨some d, g, .slice k' x' lo' hi' mx'⟩)) := okK_calm _ _ _ _ _ rfl (fun _ _ _ e => by cases e)
@[simp] theorem okK_faddr (V : List Nat) (d : Nat) (g : Option (Nat × Bool)) (s : Slots) (x' : Opd) (off' : Nat) : okK V (some d) g (.faddr x' off') s = (!varK (sget s d) && !V.contains d && allLooks V s (AOper.reads ⟨some d, g, .faddr x' off'⟩)) := okK_calm _ _ _ _ _ rfl (fun _ _ _ e => by cases e)
@[simp] theorem okK_field (V : List Nat) (d : Nat) (g : Option (Nat × Bool)) (s : Slots) (x' : Opd) (off' : Nat) (n' : Option Nat) : okK V (some d) g (.field x' off' n') s = (!varK (sget s d) && !V.contains d && allLooks V s (AOper.reads ⟨some d, g, .field x' off' n'⟩)) := okK_calm _ _ _ _ _ rfl (fun _ _ _ e => by cases e)
@[simp] theorem okK_iaddr (V : List Nat) (d : Nat) (g : Option (Nat × Bool)) (s : Slots) (esz' : Nat) (x' i' : Opd) : okK V (some d) g (.iaddr esz' x' i') s = (!varK (sget s d) && !V.contains d && allLooks V s (AOper.reads ⟨some d, g, .iaddr esz' x' i'⟩)) := okK_calm _ _ _ _ _ rfl (fun _ _ _ e => by cases e)
@[simp] theorem okK_aaddr (V : List Nat) (d : Nat) (g : Option (Nat × Bool)) (s : Slots) (len' esz' : Nat) (x' i' : Opd) : okK V (some d) g (.aaddr len' esz' x' i') s = (!varK (sget s d) && !V.contains d && allLooks V s (AOper.reads ⟨some d, g, .aaddr len' esz' x' i'⟩)) := okK_calm _ _ _ _ _ rfl (fun _ _ _ e => by cases e)
@[simp] theorem okK_index (V : List Nat) (d : Nat) (g : Option (Nat × Bool)) (s : Slots) (x' i' : Opd) : okK V (some d) g (.index x' i') s = (!varK (sget s d) && !V.contains d && allLooks V s (AOper.reads ⟨some d, g, .index x' i'⟩)) := okK_calm _ _ _ _ _ rfl (fun _ _ _ e => by cases e)
@[simp] theorem okK_aindex (V : List Nat) (d : Nat) (g : Option (Nat × Bool)) (s : Slots) (len' esz' : Nat) (n' : Option Nat) (x' i' : Opd) : okK V (some d) g (.aindex len' esz' n' x' i') s = (!varK (sget s d) && !V.contains d && allLooks V s (AOper.reads ⟨some d, g, .aindex len' esz' n' x' i'⟩)) := okK_calm _ _ _ _ _ rfl (fun _ _ _ e => by cases e)
@[simp] theorem okK_extract (V : List Nat) (d : Nat) (g : Option (Nat × Bool)) (s : Slots) (x' : Opd) (i' : Nat) : okK V (some d) g (.extract x' i') s = (!varK (sget s d) && !V.contains d && allLooks V s (AOper.reads ⟨some d, g, .extract x' i'⟩)) := okK_calm _ _ _ _ _ rfl (fun _ _ _ e => by cases e)
@[simp] theorem okK_call (V : List Nat) (d : Nat) (g : Option (Nat × Bool)) (s : Slots) (f' : Opd) (args' : List Opd) : okK V (some d) g (.call f' args') s = (!varK (sget s d) && !V.contains d && allLooks V s (AOper.reads ⟨some d, g, .call f' args'⟩)) := okK_calm _ _ _ _ _ rfl (fun _ _ _ e => by cases e)
@[simp] theorem okK_callg (V : List Nat) (d : Nat) (g : Option (Nat × Bool)) (s : Slots) (g' : Nat) (args' : List Opd) : okK V (some d) g (.callg g' args') s = (!varK (sget s d) && !V.contains d && allLooks V s (AOper.reads ⟨some d, g, .callg g' args'⟩)) := okK_calm _ _ _ _ _ rfl (fun _ _ _ e => by cases e)
@[simp] theorem okK_len (V : List Nat) (d : Nat) (g : Option (Nat × Bool)) (s : Slots) (k' : LenKind) (x' : Opd) : okK V (some d) g (.len k' x') s = (!varK (sget s d) && !V.contains d && allLooks V s (AOper.reads ⟨some d, g, .len k' x'⟩)) := okK_calm _ _ _ _ _ rfl (fun _ _ _ e => by cases e)
@[simp] theorem okK_append (V : List Nat) (d : Nat) (g : Option (Nat × Bool)) (s : Slots) (esz' bytes' : Nat) (x' y' : Opd) : okK V (some d) g (.append esz' bytes' x' y') s = (!varK (sget s d) && !V.contains d && allLooks V s (AOper.reads ⟨some d, g, .append esz' bytes' x' y'⟩)) := okK_calm _ _ _ _ _ rfl (fun _ _ _ e => by cases e)
@[simp] theorem okK_minmax (V : List Nat) (d : Nat) (g : Option (Nat × Bool)) (s : Slots) (isMax' : Bool) (xs' : List Opd) : okK V (some d) g (.minmax isMax' xs') s = (!varK (sget s d) && !V.contains d && allLooks V s (AOper.reads ⟨some d, g, .minmax isMax' xs'⟩)) := okK_calm _ _ _ _ _ rfl (fun _ _ _ e => by cases e)
@[simp] theorem okK_nilcheck (V : List Nat) (d : Nat) (g : Option (Nat × Bool)) (s : Slots) (x' : Opd) : okK V (some d) g (.nilcheck x') s = (!varK (sget s d) && !V.contains d && allLooks V s (AOper.reads ⟨some d, g, .nilcheck x'⟩)) := okK_calm _ _ _ _ _ rfl (fun _ _ _ e => by cases e)
@[simp] theorem okK_eqnil (V : List Nat) (d : Nat) (g : Option (Nat × Bool)) (s : Slots) (k' : NilKind) (neg' : Bool) (x' y' : Opd) : okK V (some d) g (.eqnil k' neg' x' y') s = (!varK (sget s d) && !V.contains d && allLooks V s (AOper.reads ⟨some d, g, .eqnil k' neg' x' y'⟩)) := okK_calm _ _ _ _ _ rfl (fun _ _ _ e => by cases e)
@[simp] theorem okK_beq (V : List Nat) (d : Nat) (g : Option (Nat × Bool)) (s : Slots) (neg' : Bool) (x' y' : Opd) : okK V (some d) g (.beq neg' x' y') s = (!varK (sget s d) && !V.contains d && allLooks V s (AOper.reads ⟨some d, g, .beq neg' x' y'⟩)) := okK_calm _ _ _ _ _ rfl (fun _ _ _ e => by cases e)
@[simp] theorem okK_ext (V : List Nat) (d : Nat) (g : Option (Nat × Bool)) (s : Slots) (k' : ExtOp) (xs' : List Opd) : okK V (some d) g (.ext k' xs') s = (!varK (sget s d) && !V.contains d && allLooks V s (AOper.reads ⟨some d, g, .ext k' xs'⟩)) := okK_calm _ _ _ _ _ rfl (fun _ _ _ e => by cases e)
attribute [simp] noLocs
def quietVK (call : CallSem) (V : List Nat) (l : List AOper) (s : Slots) (h : Heap) [k : Ct2 Slots Heap β] : Option β := andThen (evQuietV call V l s h) (f := ⟨fun p => k.default p.1 p.2⟩)
section
variable {call : CallSem} {s : Slots} {h : Heap} {V : List Nat} {k : Slots → Heap → Option β}
@[simp] theorem quietVK_nil : quietVK call V [] s h (k := ⟨k⟩) = k s h := eq_of_heq HEq.rfl
@[simp] theorem quietVK_cons (d : Option Nat) (g : Option (Nat × Bool)) (op : AOp) (r : List AOper) : quietVK call V (⟨d, g, op⟩ :: r) s h (k := ⟨k⟩) =
    opsK call [⟨d, g, op⟩] s { h with wmin := h.size } (k := ⟨fun s' h' => mustK (h'.size = h.size ∧ h'.wmin = h.size ∧ okK V d g op s = true) (f := ⟨fun _ => quietVK call V r s' h (k := ⟨k⟩)⟩)⟩) := by
  simp only [quietVK, opsK, evQuietV, evOps]
  cases evOper call ⟨d, g, op⟩ s { h with wmin := h.size } with
  | none => rfl
  | some p =>
    simp only [andThen_some]
    unfold mustK okK
    by_cases e : p.2.size = h.size ∧ p.2.wmin = h.size ∧ quietOk V ⟨d, g, op⟩ s = true
    · rw [if_pos e, if_pos e]; rfl
    · rw [if_neg e, if_neg e]; rfl
end
def segsK (call : CallSem) (l : List Seg) (s : Slots) (h : Heap) [k : Ct2 Slots Heap β] : Option β := andThen (evSegs call l s h) (f := ⟨fun p => k.default p.1 p.2⟩)
def openK (call : CallSem) (n0 : Nat) (ms : List Nat) (l : List AOper) (ds : List Did) (s : Slots) (h : Heap) [k : Ct2 Slots Heap β] : Option β := andThen (openAll call n0 ms l ds s h) (f := ⟨fun p => k.default p.1 p.2⟩)
section
variable {call : CallSem} {s : Slots} {h : Heap} {k : Slots → Heap → Option β}
@[simp] theorem segsK_nil : segsK call [] s h (k := ⟨k⟩) = k s h := eq_of_heq HEq.rfl
@[simp] theorem segsK_f (m : List Nat) (l : List AOper) (r : List Seg) : segsK call (⟨false, m, l⟩ :: r) s h (k := ⟨k⟩) = opsK call l s h (k := ⟨fun s h => segsK call r s h (k := ⟨k⟩)⟩) := by
  simp only [segsK, opsK, evSegs, Bool.false_eq_true, if_false]
  cases evOps call l s h <;> rfl
theorem segsK_t (l : List AOper) (r : List Seg) (hn : hasNew l = false) : segsK call (⟨true, [], l⟩ :: r) s h (k := ⟨k⟩) = quietK call l s h (k := ⟨fun s h => segsK call r s h (k := ⟨k⟩)⟩) := by
  simp only [segsK, quietK, evSegs, if_true, evQ]
  rw [if_pos ((hasNew_eq l).2 hn)]
  cases evQuiet call l s h <;> rfl
theorem segsK_v (l : List AOper) (r : List Seg) (hn : hasNew l = true) : segsK call (⟨true, [], l⟩ :: r) s h (k := ⟨k⟩) = mustK (noLocs (newVars l) s = true) (f := ⟨fun _ => quietVK call (newVars l) l s h (k := ⟨fun s h => segsK call r s h (k := ⟨k⟩)⟩)⟩) := by
  simp only [segsK, quietVK, evSegs, if_true, evQ]
  rw [if_neg (fun e => by rw [(hasNew_eq l).1 e] at hn; cases hn)]
  unfold mustK
  split
  · rename_i he
    split at he
    · rename_i hl
      rw [if_pos hl, he]; rfl
    · cases he
  · rename_i he
    split at he
    · rename_i hl
      rw [if_pos hl, he]; rfl
    · rename_i hl; rw [if_neg hl]; rfl
theorem segsK_o (m : Nat) (ms : List Nat) (l : List AOper) (r : List Seg) : segsK call (⟨true, m :: ms, l⟩ :: r) s h (k := ⟨k⟩) = openK call h.size (m :: ms) l [] s h (k := ⟨fun s h => segsK call r s h (k := ⟨k⟩)⟩) := by
  simp only [segsK, openK, evSegs, evOpen, if_true, reduceCtorEq, if_false]
  cases openAll call h.size (m :: ms) l [] s h <;> rfl
@[simp] theorem openK_nil (n0 : Nat) (ms : List Nat) (ds : List Did) : openK call n0 ms [] ds s h (k := ⟨k⟩) = k s h := by
  simp [openK, openAll]
end
def iteK (p : Prop) [Decidable p] [f : Ct Unit β] [g : Ct Unit β] : Option β := if p then f.default () else g.default ()
@[simp] theorem iteK_t [i : Decidable True] (f g : Unit → Option β) : iteK True (f := ⟨f⟩) (g := ⟨g⟩) = f () := by simp [iteK]
@[simp] theorem iteK_f [i : Decidable False] (f g : Unit → Option β) : iteK False (f := ⟨f⟩) (g := ⟨g⟩) = g () := by simp [iteK]
@[simp] theorem segsK_q (call : CallSem) (l : List AOper) (r : List Seg) (s : Slots) (h : Heap) (k : Slots → Heap → Option β) : segsK call (⟨true, [], l⟩ :: r) s h (k := ⟨k⟩) = iteK (hasNew l = true)
    (f := ⟨fun _ => mustK (noLocs (newVars l) s = true) (f := ⟨fun _ => quietVK call (newVars l) l s h (k := ⟨fun s h => segsK call r s h (k := ⟨k⟩)⟩)⟩)⟩)
    (g := ⟨fun _ => quietK call l s h (k := ⟨fun s h => segsK call r s h (k := ⟨k⟩)⟩)⟩) := by
  unfold iteK
  split
  · rename_i hn; exact segsK_v l r hn
  · rename_i hn; exact segsK_t l r (by simpa using hn)
abbrev Ct3 (β : Type) := Inhabited (Slot → Heap → Did → Option β)
def endK (n0 m : Nat) (ds : List Did) (rd : List Nat) (ld : Option (Nat × Nat × Option Nat × AVal)) (y : Slot) (h h' : Heap) [k : Ct3 β] : Option β :=
  if h'.size = h.size then
    if h'.wmin < h.size then
      match h'.objs[h'.wmin]? with
      | some ob => if (y.ids ++ ob.ids).all (okId n0 m ds) = true then k.default y ⟨h'.objs, h.base, min h.wmin h'.wmin⟩ ⟨false, rd, some h'.wmin, none, h.size, h.size, ld⟩ else none
      | none => none
    else if h'.wmin = h.size ∧ y.ids.all (okId n0 m ds) = true then k.default y h ⟨false, rd, none, none, h.size, h.size, ld⟩ else none
  else if h'.size = h.size + 1 then
    match h'.objs[h.size]? with
    | some ob =>
      if ob.ids.all (okId n0 m ds) then
        if h'.wmin = h.size then k.default y ⟨h'.objs, h.base, h.wmin⟩ ⟨false, rd, none, none, h.size, h.size + 1, ld⟩
        else k.default y ⟨h'.objs, h.base, min h.wmin h'.wmin⟩ ⟨false, rd, some h'.wmin, none, h.size, h.size + 1, ld⟩
      else none
    | none => none
  else none
def endC (n0 m : Nat) (ds : List Did) (y : Slot) (h h' : Heap) [k : Ct3 β] : Option β :=
  if h'.wmin < h.size then
    if allSeen m 0 ds then k.default y ⟨h'.objs, h.base, min h.wmin h'.wmin⟩ ⟨true, [], none, some (h'.wmin, h.objs, h'.objs), h.size, h'.size, none⟩ else none
  else if allSeen m 0 ds then k.default y ⟨h'.objs, h.base, h.wmin⟩ ⟨true, [], none, none, h.size, h'.size, none⟩
  else if (y.ids ++ (h'.objs.drop h.size).flatMap AObj.ids).all (fun i => okId n0 m ds i || decide (h.size ≤ i)) then
    k.default y ⟨h.objs ++ h'.objs.drop h.size, h.base, h.wmin⟩ ⟨true, [], none, none, h.size, h'.size, none⟩
  else none
section
variable {n0 m : Nat} {ds : List Did} {rd : List Nat} {ld : Option (Nat × Nat × Option Nat × AVal)} {y : Slot} {h h' : Heap} {k : Slot → Heap → Did → Option β}
@[simp] theorem endK_eq : endK n0 m ds rd ld y h h' (k := ⟨k⟩) = iteK (h'.size = h.size)
    (f := ⟨fun _ => iteK (h'.wmin < h.size)
      (f := ⟨fun _ => andThen (h'.objs[h'.wmin]?) (f := ⟨fun ob => mustK ((y.ids ++ ob.ids).all (okId n0 m ds) = true) (f := ⟨fun _ => k y ⟨h'.objs, h.base, min h.wmin h'.wmin⟩ ⟨false, rd, some h'.wmin, none, h.size, h.size, ld⟩⟩)⟩)⟩)
      (g := ⟨fun _ => mustK (h'.wmin = h.size ∧ y.ids.all (okId n0 m ds) = true) (f := ⟨fun _ => k y h ⟨false, rd, none, none, h.size, h.size, ld⟩⟩)⟩)⟩)
    (g := ⟨fun _ => mustK (h'.size = h.size + 1) (f := ⟨fun _ => andThen (h'.objs[h.size]?) (f := ⟨fun ob => mustK (ob.ids.all (okId n0 m ds) = true) (f := ⟨fun _ => iteK (h'.wmin = h.size)
      (f := ⟨fun _ => k y ⟨h'.objs, h.base, h.wmin⟩ ⟨false, rd, none, none, h.size, h.size + 1, ld⟩⟩)
      (g := ⟨fun _ => k y ⟨h'.objs, h.base, min h.wmin h'.wmin⟩ ⟨false, rd, some h'.wmin, none, h.size, h.size + 1, ld⟩⟩)⟩)⟩)⟩)⟩) := by
  unfold endK iteK mustK
  split
  · show _ = if _ then _ else _
    split
    · cases h'.objs[h'.wmin]? with
      | none => rfl
      | some ob => rfl
    · rfl
  · show _ = if _ then _ else _
    split
    · cases h'.objs[h.size]? with
      | none => rfl
      | some ob =>
        show (if ob.ids.all (okId n0 m ds) = true then _ else none) = if ob.ids.all (okId n0 m ds) = true then _ else none
        split <;> rfl
    · rfl
@[simp] theorem endC_eq : endC n0 m ds y h h' (k := ⟨k⟩) = iteK (h'.wmin < h.size)
    (f := ⟨fun _ => mustK (allSeen m 0 ds = true) (f := ⟨fun _ => k y ⟨h'.objs, h.base, min h.wmin h'.wmin⟩ ⟨true, [], none, some (h'.wmin, h.objs, h'.objs), h.size, h'.size, none⟩⟩)⟩)
    (g := ⟨fun _ => iteK (allSeen m 0 ds = true) (f := ⟨fun _ => k y ⟨h'.objs, h.base, h.wmin⟩ ⟨true, [], none, none, h.size, h'.size, none⟩⟩)
      (g := ⟨fun _ => mustK ((y.ids ++ (h'.objs.drop h.size).flatMap AObj.ids).all (fun i => okId n0 m ds i || decide (h.size ≤ i)) = true) (f := ⟨fun _ =>
        k y ⟨h.objs ++ h'.objs.drop h.size, h.base, h.wmin⟩ ⟨true, [], none, none, h.size, h'.size, none⟩⟩)⟩)⟩) := by
  unfold endC iteK mustK
  split <;> rfl
end
section
variable {call : CallSem} {s : Slots} {h : Heap} {k : Slots → Heap → Option β}
@[simp] theorem openK_cons (n0 : Nat) (ms : List Nat) (o : AOper) (r : List AOper) (ds : List Did) : openK call n0 ms (o :: r) ds s h (k := ⟨k⟩) =
    mustK ((o.reads.flatMap (slotIds s) ++ rdIds o.op s).all (okId n0 (ms.headD 0) ds) = true) (f := ⟨fun _ => iteK (o.op.isCall = true)
      (f := ⟨fun _ => opsK call [o] s ⟨hide (ms.headD 0) 0 ds h.objs, h.base, h.size⟩ (k := ⟨fun s' h' => endC n0 (ms.headD 0) ds (dstSlot o.dst s') h h' (k := ⟨fun y h2 d =>
        mustK (noVar o.dst s = true ∧ noClash h2 (ms.headD 0) d 0 ds = true) (f := ⟨fun _ => openK call n0 ms.tail r (ds ++ [d]) (setSlot o.dst y s) h2 (k := ⟨k⟩)⟩)⟩)⟩)⟩)
      (g := ⟨fun _ => opsK noCall [o] s ⟨h.objs, h.base, h.size⟩ (k := ⟨fun s' h' => endK n0 (ms.headD 0) ds (rdIds o.op s) (ldOf o s (dstSlot o.dst s')) (dstSlot o.dst s') h h' (k := ⟨fun y h2 d =>
        mustK (noVar o.dst s = true ∧ noClash h2 (ms.headD 0) d 0 ds = true) (f := ⟨fun _ => openK call n0 ms.tail r (ds ++ [d]) (setSlot o.dst y s) h2 (k := ⟨k⟩)⟩)⟩)⟩)⟩)⟩) := by
  have key : ∀ (x : Option (Slot × Heap × Did)), andThen (match x with
      | some (y, h', d) => if (o.dst.all fun d => !isVar s d) = true ∧ noClash h' (ms.headD 0) d 0 ds = true then openAll call n0 ms.tail r (ds ++ [d]) (setSlot o.dst y s) h' else none
      | none => none) (f := ⟨fun p => k p.1 p.2⟩) = andThen x (f := ⟨fun p => if noVar o.dst s = true ∧ noClash p.2.1 (ms.headD 0) p.2.2 0 ds = true then andThen (openAll call n0 ms.tail r (ds ++ [p.2.2]) (setSlot o.dst p.1 s) p.2.1) (f := ⟨fun p => k p.1 p.2⟩) else none⟩) := by
    intro x
    cases x with
    | none => rfl
    | some x =>
      obtain ⟨y, h', d⟩ := x
      simp only [andThen_some, noVar_eq]
      split <;> rfl
  unfold openK openAll
  refine (key _).trans ?_
  generalize hF : (fun p : Slot × Heap × Did => if noVar o.dst s = true ∧ noClash p.2.1 (ms.headD 0) p.2.2 0 ds = true then andThen (openAll call n0 ms.tail r (ds ++ [p.2.2]) (setSlot o.dst p.1 s) p.2.1) (f := ⟨fun p => k p.1 p.2⟩) else none) = F
  have hF' : ∀ y h d, F (y, h, d) = if noVar o.dst s = true ∧ noClash h (ms.headD 0) d 0 ds = true then andThen (openAll call n0 ms.tail r (ds ++ [d]) (setSlot o.dst y s) h) (f := ⟨fun p => k p.1 p.2⟩) else none := fun y h d => by rw [← hF]
  unfold openOne mustK iteK opsK
  simp only [evOps]
  cases h1 : (o.reads.flatMap (slotIds s) ++ rdIds o.op s).all (okId n0 (ms.headD 0) ds) with
  | false => simp
  | true =>
    simp only [Bool.true_eq_false, if_false, if_true]
    split
    · cases evOper call o s ⟨hide (ms.headD 0) 0 ds h.objs, h.base, h.size⟩ with
      | none => rfl
      | some p =>
        obtain ⟨s', h'⟩ := p
        simp only [andThen_some]
        unfold endC
        simp only [← hF']
        split
        · split <;> rfl
        · split
          · rfl
          · split <;> rfl
    · cases evOper noCall o s ⟨h.objs, h.base, h.size⟩ with
      | none => rfl
      | some p =>
        obtain ⟨s', h'⟩ := p
        simp only [andThen_some]
        unfold endK
        simp only [← hF']
        split
        · split
          · cases h'.objs[h'.wmin]? with
            | none => rfl
            | some ob =>
              simp only
              split <;> rfl
          · split <;> rfl
        · split
          · cases h'.objs[h.size]? with
            | none => rfl
            | some ob =>
              simp only
              split
              · split <;> rfl
              · rfl
          · rfl
end
def openPK (call : CallSem) (n0 : Nat) [k : Ct2 Slots Heap β] [f : Ct Unit β] : Bool → List AOper → Slots → Heap → Option β
  | _, [], s, h => k.default s h
  | c, o :: r, s, h => iteK ((o.reads.flatMap (slotIds s) ++ rdIds o.op s).all (fun i => decide (i < n0)) = true)
    (f := ⟨fun _ => iteK (o.op.isCall = true)
      (f := ⟨fun _ => iteK (c = true) (f := f) (g := ⟨fun _ => opsK call [o] s ⟨h.objs, h.base, h.size⟩ (k := ⟨fun s' h' =>
        iteK (h'.size = h.size ∧ ((dstSlot o.dst s').ids.all fun i => decide (i < n0)) = true ∧ noVar o.dst s = true)
          (f := ⟨fun _ => openPK call n0 (k := k) (f := f) true r (setSlot o.dst (dstSlot o.dst s') s) ⟨h'.objs, h.base, if h'.wmin < h.size then min h.wmin h'.wmin else h.wmin⟩⟩) (g := f)⟩)⟩)⟩)
      (g := ⟨fun _ => iteK (rdIds o.op s = [])
        (f := ⟨fun _ => opsK noCall [o] s ⟨h.objs, h.base, h.size⟩ (k := ⟨fun s' h' =>
          iteK (h'.size = h.size ∧ h'.wmin = h.size ∧ ((dstSlot o.dst s').ids.all fun i => decide (i < n0)) = true ∧ noVar o.dst s = true)
            (f := ⟨fun _ => openPK call n0 (k := k) (f := f) c r (setSlot o.dst (dstSlot o.dst s') s) h⟩) (g := f)⟩)⟩) (g := f)⟩)⟩) (g := f)
def PlainD (c : Bool) (ds : List Did) : Prop := ∀ d ∈ ds, d.rd = [] ∧ d.ch = none ∧ d.hi ≤ d.lo ∧ (c = false → d.isCall = false ∧ d.wr = none)
theorem plain_hide {c : Bool} {m : Nat} {os : List AObj} : ∀ {ds : List Did} {y : Nat}, PlainD c ds → hide m y ds os = os
  | [], _, _ => rfl
  | d :: ds, y, h => by
    simp only [hide]
    rw [if_pos (by simp [(h d (List.mem_cons_self ..)).2.2.1])]
    exact plain_hide fun x hx => h x (List.mem_cons_of_mem _ hx)
theorem plain_seen {c : Bool} {m : Nat} : ∀ {ds : List Did} {y : Nat}, PlainD c ds → allSeen m y ds = true
  | [], _, _ => rfl
  | d :: ds, y, h => by
    simp only [allSeen]
    rw [plain_seen fun x hx => h x (List.mem_cons_of_mem _ hx)]
    simp [(h d (List.mem_cons_self ..)).2.2.1]
theorem plain_noClash {hh : Heap} {c : Bool} {m : Nat} {x : Did} (hx : x.rd = [] ∧ x.ch = none ∧ (c = true → x.isCall = false)) : ∀ {ds : List Did} {y : Nat}, PlainD c ds → noClash hh m x y ds = true
  | [], _, _ => rfl
  | d :: ds, y, h => by
    simp only [noClash]
    rw [plain_noClash hx fun x hx => h x (List.mem_cons_of_mem _ hx)]
    obtain ⟨h1, h2, _, h4⟩ := h d (List.mem_cons_self ..)
    obtain ⟨k1, k2, k3⟩ := hx
    have hcc : (x.isCall && d.isCall) = false := by
      cases c with
      | true => rw [k3 rfl]; rfl
      | false => rw [(h4 rfl).1]; simp
    simp [clash, h1, h2, k1, k2, hcc]
theorem openPK_eq {call : CallSem} {n0 : Nat} {k : Slots → Heap → Option β} {F : Option β} : ∀ (ops : List AOper) (c : Bool) (ms : List Nat) (ds : List Did) (s : Slots) (h : Heap), PlainD c ds → openK call n0 ms ops ds s h (k := ⟨k⟩) = F → openPK call n0 c ops s h (k := ⟨k⟩) (f := ⟨fun _ => F⟩) = F
  | [], c, ms, ds, s, h, hd, hF => by
    simp only [openPK]
    rw [← hF]
    simp
  | o :: r, c, ms, ds, s, h, hd, hF => by
    have hok : (o.reads.flatMap (slotIds s) ++ rdIds o.op s).all (fun i => decide (i < n0)) = true → (o.reads.flatMap (slotIds s) ++ rdIds o.op s).all (okId n0 (ms.headD 0) ds) = true := fun hh => by
      rw [List.all_eq_true] at hh ⊢
      intro x hx
      have := hh x hx
      simp only [okId, Bool.or_eq_true]
      exact .inl this
    have hok2 : ∀ l : List Nat, (l.all fun i => decide (i < n0)) = true → l.all (okId n0 (ms.headD 0) ds) = true := fun l hh => by
      rw [List.all_eq_true] at hh ⊢
      intro x hx
      have := hh x hx
      simp only [okId, Bool.or_eq_true]
      exact .inl this
    rw [openK_cons] at hF
    simp only [openPK]
    unfold iteK
    split
    case isFalse => rfl
    rename_i h1
    rw [show mustK _ (f := _) = _ from if_pos (hok h1)] at hF
    simp only at hF ⊢
    split
    · rename_i hc
      rw [show iteK _ (f := _) (g := _) = _ from if_pos hc] at hF
      split
      · rfl
      · rename_i hcf
        have hcf : c = false := by simpa using hcf
        subst hcf
        rw [plain_hide hd] at hF
        unfold opsK at hF ⊢
        cases he : evOps call [o] s ⟨h.objs, h.base, h.size⟩ with
        | none => rw [he] at hF; simpa using hF
        | some q =>
          obtain ⟨s', h'⟩ := q
          rw [he] at hF
          simp only [andThen_some] at hF ⊢
          split
          case isFalse => rfl
          rename_i hh
          obtain ⟨g1, g2, g3⟩ := hh
          have hseen := plain_seen (m := ms.headD 0) (y := 0) hd
          have hnc : ∀ hh wr, noClash hh (ms.headD 0) ⟨true, [], none, wr, h.size, h'.size, none⟩ 0 ds = true := fun hh wr => plain_noClash (c := false) ⟨rfl, rfl, fun h => by cases h⟩ hd
          have hd2 : ∀ wr, PlainD true (ds ++ [⟨true, [], none, wr, h.size, h'.size, none⟩]) := fun wr x hx => by
            rcases List.mem_append.1 hx with hx | hx
            · obtain ⟨a1, a2, a3, _⟩ := hd x hx
              exact ⟨a1, a2, a3, fun h => by cases h⟩
            · simp only [List.mem_singleton] at hx
              subst hx
              exact ⟨rfl, rfl, Nat.le_of_eq g1, fun h => by cases h⟩
          by_cases hw : h'.wmin < h.size
          · rw [if_pos hw]
            refine openPK_eq r true ms.tail _ _ _ (hd2 (some (h'.wmin, h.objs, h'.objs))) ?_
            rw [← hF]
            unfold endC
            rw [if_pos hw, if_pos hseen]
            exact (if_pos (c := noVar o.dst s = true ∧ noClash _ (ms.headD 0) ⟨true, [], none, some (h'.wmin, h.objs, h'.objs), h.size, h'.size, none⟩ 0 ds = true) ⟨g3, hnc _ _⟩).symm
          · rw [if_neg hw]
            refine openPK_eq r true ms.tail _ _ _ (hd2 none) ?_
            rw [← hF]
            unfold endC
            rw [if_neg hw, if_pos hseen]
            exact (if_pos (c := noVar o.dst s = true ∧ noClash _ (ms.headD 0) ⟨true, [], none, none, h.size, h'.size, none⟩ 0 ds = true) ⟨g3, hnc _ _⟩).symm
    · rename_i hc
      rw [show iteK _ (f := _) (g := _) = _ from if_neg hc] at hF
      split
      case isFalse => rfl
      rename_i hr
      unfold opsK at hF ⊢
      cases he : evOps noCall [o] s ⟨h.objs, h.base, h.size⟩ with
      | none => rw [he] at hF; simpa using hF
      | some q =>
        obtain ⟨s', h'⟩ := q
        rw [he] at hF
        simp only [andThen_some] at hF ⊢
        split
        case isFalse => rfl
        rename_i hh
        obtain ⟨g1, g2, g3, g4⟩ := hh
        have hnc : ∀ hh ld, noClash hh (ms.headD 0) ⟨false, [], none, none, h.size, h.size, ld⟩ 0 ds = true := fun hh ld => plain_noClash (c := c) ⟨rfl, rfl, fun _ => rfl⟩ hd
        refine openPK_eq r c ms.tail (ds ++ [⟨false, [], none, none, h.size, h.size, ldOf o s (dstSlot o.dst s')⟩]) _ _ (fun x hx => ?_) ?_
        · rcases List.mem_append.1 hx with hx | hx
          · exact hd x hx
          · simp only [List.mem_singleton] at hx
            subst hx
            exact ⟨rfl, rfl, Nat.le_refl _, fun _ => ⟨rfl, rfl⟩⟩
        · rw [← hF]
          unfold endK
          rw [if_pos g1, if_neg (by omega), if_pos ⟨g2, hok2 _ g3⟩, hr]
          exact (if_pos (c := noVar o.dst s = true ∧ noClash _ (ms.headD 0) ⟨false, [], none, none, h.size, h.size, _⟩ 0 ds = true) ⟨g4, hnc _ _⟩).symm
section
variable {call : CallSem} {n0 : Nat} {c : Bool} {s : Slots} {h : Heap} {k : Slots → Heap → Option β} {f : Unit → Option β}
@[simp] theorem openPK_nil : openPK call n0 (k := ⟨k⟩) (f := ⟨f⟩) c [] s h = k s h := eq_of_heq HEq.rfl
@[simp] theorem openPK_cons (o : AOper) (r : List AOper) : openPK call n0 (k := ⟨k⟩) (f := ⟨f⟩) c (o :: r) s h = iteK ((o.reads.flatMap (slotIds s) ++ rdIds o.op s).all (fun i => decide (i < n0)) = true)
    (f := ⟨fun _ => iteK (o.op.isCall = true)
      (f := ⟨fun _ => iteK (c = true) (f := ⟨f⟩) (g := ⟨fun _ => opsK call [o] s ⟨h.objs, h.base, h.size⟩ (k := ⟨fun s' h' =>
        iteK (h'.size = h.size ∧ ((dstSlot o.dst s').ids.all fun i => decide (i < n0)) = true ∧ noVar o.dst s = true)
          (f := ⟨fun _ => openPK call n0 (k := ⟨k⟩) (f := ⟨f⟩) true r (setSlot o.dst (dstSlot o.dst s') s) ⟨h'.objs, h.base, if h'.wmin < h.size then min h.wmin h'.wmin else h.wmin⟩⟩) (g := ⟨f⟩)⟩)⟩)⟩)
      (g := ⟨fun _ => iteK (rdIds o.op s = [])
        (f := ⟨fun _ => opsK noCall [o] s ⟨h.objs, h.base, h.size⟩ (k := ⟨fun s' h' =>
          iteK (h'.size = h.size ∧ h'.wmin = h.size ∧ ((dstSlot o.dst s').ids.all fun i => decide (i < n0)) = true ∧ noVar o.dst s = true)
            (f := ⟨fun _ => openPK call n0 (k := ⟨k⟩) (f := ⟨f⟩) c r (setSlot o.dst (dstSlot o.dst s') s) h⟩) (g := ⟨f⟩)⟩)⟩) (g := ⟨f⟩)⟩)⟩) (g := ⟨f⟩) := eq_of_heq HEq.rfl
end
@[simp] theorem segsK_p (call : CallSem) (m : Nat) (ms : List Nat) (l : List AOper) (r : List Seg) (s : Slots) (h : Heap) (k : Slots → Heap → Option β) : segsK call (⟨true, m :: ms, l⟩ :: r) s h (k := ⟨k⟩) =
    openPK call h.size false l s h (k := ⟨fun s h => segsK call r s h (k := ⟨k⟩)⟩) (f := ⟨fun _ => openK call h.size (m :: ms) l [] s h (k := ⟨fun s h => segsK call r s h (k := ⟨k⟩)⟩)⟩) := by
  rw [segsK_o]
  exact (openPK_eq l false (m :: ms) [] s h (fun x hx => by cases hx) rfl).symm
noncomputable def xK (T : Nat → Option AFunc) (c : ACode) (st : St) [k : Ct2 AExit St β] : Option β := andThen (xCode T c st) (f := ⟨fun p => k.default p.1 p.2⟩)
section
variable {T : Nat → Option AFunc} {st : St} {k : AExit → St → Option β}
@[simp] theorem xK_skip : xK T .skip st (k := ⟨k⟩) = k .normal st := by simp [xK]
@[simp] theorem xK_exit (i : Nat) : xK T (.exit i) st (k := ⟨k⟩) = k (.exit i) st := by simp [xK]
@[simp] theorem xK_ret : xK T .ret st (k := ⟨k⟩) = k .ret st := by simp [xK]
@[simp] theorem xK_region (gs : List Seg) : xK T (.region gs) st (k := ⟨k⟩) = segsK (xCall T) gs st.s st.h (k := ⟨fun s h => k .normal ⟨s, h⟩⟩) := by
  simp only [xK, segsK, xCode_region, andThen_map]
@[simp] theorem xK_seq (a b : ACode) : xK T (.seq a b) st (k := ⟨k⟩) = xK T a st (k := ⟨fun e st => nxK e st (f := ⟨fun st => xK T b st (k := ⟨k⟩)⟩) (k := ⟨k⟩)⟩) := by
  simp only [xK, xCode_seq]
  cases xCode T a st with
  | none => rfl
  | some p =>
    obtain ⟨e, st'⟩ := p
    cases e <;> rfl
@[simp] theorem xK_cond (c : Opd) (a b : ACode) : xK T (.cond c a b) st (k := ⟨k⟩) = condK (c.ev st.s) (f := ⟨fun _ => xK T a st (k := ⟨k⟩)⟩) (g := ⟨fun _ => xK T b st (k := ⟨k⟩)⟩) := by
  simp only [xK, xCode_cond, condK]
  cases c.ev st.s with
  | none => rfl
  | some v =>
    cases v <;> try rfl
    rename_i x; cases x <;> rfl
@[simp] theorem xK_block (i : Nat) (c : ACode) : xK T (.block i c) st (k := ⟨k⟩) = xK T c st (k := ⟨fun e st => k (blkE i e) st⟩) := by
  simp only [xK, xCode_block]
  cases xCode T c st with
  | none => rfl
  | some p =>
    obtain ⟨e, st'⟩ := p
    cases e <;> simp only [andThen_some, blkE]
    split <;> rfl
@[simp] theorem xK_live (l : List Nat) (c : ACode) : xK T (.live l c) st (k := ⟨k⟩) = xK T c ⟨keepK l st.s, st.h⟩ (k := ⟨k⟩) := by
  simp only [xK, xCode_live, keepK_eq]
@[simp] theorem xK_after (c : ACode) (l : List Nat) : xK T (.after c l) st (k := ⟨k⟩) = xK T c st (k := ⟨fun e st => nxK e st (f := ⟨fun st => k .normal ⟨keepK l st.s, st.h⟩⟩) (k := ⟨k⟩)⟩) := by
  simp only [xK, xCode_after]
  cases xCode T c st with
  | none => rfl
  | some p =>
    obtain ⟨e, st'⟩ := p
    cases e <;> first | rfl | (simp only [andThen_some, nxK, keepK_eq])
theorem xK_loop (c : ACode) : xK T (.loop c) st (k := ⟨k⟩) = xK T c st (k := ⟨fun e st => nxK e st (f := ⟨fun st => xK T (.loop c) st (k := ⟨k⟩)⟩) (k := ⟨k⟩)⟩) := by
  simp only [xK]
  rw [xCode_loop]
  cases xCode T c st with
  | none => rfl
  | some p =>
    obtain ⟨e, st'⟩ := p
    cases e <;> rfl
@[simp] theorem xK_rangeFunc (f : Opd) (g : Nat) (caps ps : List Nat) (a b : ACode) : xK T (.rangeFunc f g caps ps a b) st (k := ⟨k⟩) = andThen (f.ev st.s) (f := ⟨fun fv => andThen (capsOf st.s caps) (f := ⟨fun sl =>
    andThen (callVal (xCall T) fv [.yield st.h.size] (st.h.push (.loop g .ready none sl))) (f := ⟨fun p => andThen (loopEnd st.s p.2 st.h.size) (f := ⟨fun q => k q.1 q.2⟩)⟩)⟩)⟩) := by
  simp only [xK, xCode_rangeFunc]
  cases f.ev st.s <;> cases capsOf st.s caps <;> try rfl
  simp only [andThen_some]
  cases callVal _ _ _ _ <;> rfl
end
def retK (f : AFunc) (h : Heap) (e : AExit) (st : St) : Option (AVal × Heap) := match e with
  | .exit _ => none
  | _ => andThen (resultsL st.s st.h f.results) (f := ⟨fun vs => some (finish h (tupled vs) st.h)⟩)
@[simp] theorem retK_r (f : AFunc) (h : Heap) (st : St) : retK f h .ret st = andThen (resultsL st.s st.h f.results) (f := ⟨fun vs => some (finish h (tupled vs) st.h)⟩) := eq_of_heq HEq.rfl
@[simp] theorem retK_n (f : AFunc) (h : Heap) (st : St) : retK f h .normal st = andThen (resultsL st.s st.h f.results) (f := ⟨fun vs => some (finish h (tupled vs) st.h)⟩) := eq_of_heq HEq.rfl
theorem xCallK {T : Nat → Option AFunc} {g : Nat} {f : AFunc} (hT : T g = some f) (args : List AVal) (h : Heap) (hr : f.round = none := by rfl) (hc : f.closed = false := by rfl) (hw : f.wild = false := by rfl) :
    xCall T g args h = mustK (args.length = f.nargs) (f := ⟨fun _ => xK T f.body ⟨enter 0 args, { h with wmin := h.size }⟩ (k := ⟨retK f h⟩)⟩) := by
  rw [xCall_eq T hT (hr := hr) (hw := hw), hc, wrapC_false]
  unfold xFunc mustK
  by_cases hn : args.length = f.nargs
  · rw [if_pos hn, if_pos hn]
    unfold xK outcome
    cases xCode T f.body ⟨enter 0 args, { h with wmin := h.size }⟩ with
    | none => rfl
    | some p =>
      obtain ⟨e, st⟩ := p
      cases e with
      | exit i => rfl
      | normal => simp only [andThen_some, retK]; cases resultsL st.s st.h f.results <;> rfl
      | ret => simp only [andThen_some, retK]; cases resultsL st.s st.h f.results <;> rfl
  · rw [if_neg hn, if_neg hn]
end Go.Abs

/-
  Abbreviations, in which the codes are printed.
-/
namespace Go.Abs.Short
@[reducible] def t (i : Nat) : Opd := .tmp i
@[reducible] def n (i : Int) : Opd := .const (.int .i64 i)
@[reducible] def F : Opd := .const (.bool false)
@[reducible] def Y : Opd := .const (.bool true)
@[reducible] def R (l : List Nat) (ops : List AOper) : ACode := .after (.region [⟨false, [], ops⟩]) l
@[reducible] def v (d x : Nat) : AOper := ⟨some d, none, .val (.tmp x)⟩
@[reducible] def o (d : Nat) (op : AOp) : AOper := ⟨some d, none, op⟩
@[reducible] def u (op : AOp) : AOper := ⟨none, none, op⟩
@[reducible] def g (d t : Nat) (w : Bool) (op : AOp) : AOper := ⟨some d, some (t, w), op⟩
end Go.Abs.Short
namespace Go.Abs.ShortH
def r (n : Nat) (l : List Nat) : Hint := .after (.reg [(false, n)] []) l
def l (l : List Nat) : Hint := .live l .leaf
end Go.Abs.ShortH

/-
  The code of the functions, for the abstract machine: printed by a program.
-/
namespace Go.Abs.AbsDesc
set_option linter.unusedVariables false
set_option linter.unusedSimpArgs false
set_option maxRecDepth 100000
open Go.Abs.Short
def code25 : AFunc := ⟨false, false, 1, 12, [.tmp 2],
  .seq (R [0] [o 2 (.val F)])
  (.seq (R [2] [v 3 0, o 4 (.len .str (t 3)), o 5 (.bin .leq (t 4) (n 64)), v 6 5, g 7 6 true (.val (t 0)), g 8 6 true (.callg 90 [t 7, .const (.str [47])]), g 9 6 true (.callg 91 [t 8, .const (.func 92 [] [])]), g 10 6 true (.un .not (t 9)), o 11 (.pick (t 6) (t 10) F), v 2 11])
  (.live [2] (.ret))), none⟩
def code27 : AFunc := ⟨false, false, 1, 11, [.tmp 2],
  .seq (R [0] [o 2 (.val F)])
  (.seq (R [2] [v 3 0, o 4 (.bin .neq (t 3) (.const (.str []))), v 5 4, g 6 5 true (.val (t 0)), g 7 5 true (.callg 86 [t 6]), g 8 5 true (.val (t 0)), g 9 5 true (.bin .eql (t 7) (t 8)), o 10 (.pick (t 5) (t 9) F), v 2 10])
  (.live [2] (.ret))), none⟩
def code30 : AFunc := ⟨false, false, 1, 9, [.tmp 2],
  .seq (R [0] [o 2 (.val F)])
  (.seq (R [2] [v 3 0, o 4 (.callg 88 [t 3, .const (.str [76])]), v 5 4, g 6 5 false (.val (t 0)), g 7 5 false (.callg 88 [t 6, .const (.str [91])]), o 8 (.pick (t 5) Y (t 7)), v 2 8])
  (.live [2] (.ret))), none⟩
def code34 : AFunc := ⟨false, false, 1, 22, [.tmp 2, .tmp 3],
  .seq (R [0] [o 2 (.val (.const (.str []))), o 3 (.val F)])
  (.seq (.seq (R [0, 16] [v 4 0, o 5 (.len .str (t 4)), o 6 (.bin .lss (t 5) (n 2)), v 7 6, g 8 7 false (.val (t 0)), g 9 7 false (.callg 88 [t 8, .const (.str [76])]), g 10 7 false (.un .not (t 9)), o 11 (.pick (t 7) Y (t 10)), v 12 11, g 13 12 false (.val (t 0)), g 14 12 false (.callg 89 [t 13, .const (.str [59])]), g 15 12 false (.un .not (t 14)), o 16 (.pick (t 12) Y (t 15))])
  (.after (.cond (t 16) (.seq (R [2, 3] [o 2 (.val (.const (.str []))), o 3 (.val F)])
  (.live [2, 3] (.ret))) (.skip)) [0]))
  (.seq (R [2, 3] [v 17 0, v 18 0, o 19 (.len .str (t 18)), o 20 (.bin .sub (t 19) (n 1)), o 21 (.slice .str (t 17) (some (n 1)) (some (t 20)) none), v 2 21, o 3 (.val Y)])
  (.live [2, 3] (.ret)))), none⟩
def code36 : AFunc := ⟨false, false, 1, 14, [.tmp 2, .tmp 3],
  .seq (R [0] [o 2 (.val (.const (.str []))), o 3 (.val F)])
  (.seq (R [4, 5] [v 7 0, o 8 (.callg 85 [t 7, .const (.str [91])]), v 6 8, o 9 (.extract (t 6) 0), o 10 (.extract (t 6) 1), v 4 9, v 5 10])
  (.seq (.seq (R [4, 12] [v 11 5, o 12 (.un .not (t 11))])
  (.after (.cond (t 12) (.seq (R [2, 3] [o 2 (.val (.const (.str []))), o 3 (.val F)])
  (.live [2, 3] (.ret))) (.skip)) [4]))
  (.seq (R [2, 3] [v 13 4, v 2 13, o 3 (.val Y)])
  (.live [2, 3] (.ret))))), none⟩
def code38L0 : ACode :=
  .live [5, 7] (.seq (.seq (R [5, 7, 23] [v 17 5, o 18 (.bin .neq (t 17) (.const (.str []))), v 19 18, g 20 19 true (.val (t 5)), g 21 19 true (.index (t 20) (n 0)), g 22 19 true (.bin .neq (t 21) (.const (.int .u8 41))), o 23 (.pick (t 19) (t 22) F)])
  (.after (.cond (t 23) (.skip) (.live [5, 7] (.exit 0))) [5, 7]))
  (.after (.block 1 (.seq (R [5, 7, 8] [v 24 5, o 25 (.callg 86 [t 24]), v 8 25])
  (.seq (.seq (R [5, 7, 8, 32] [v 26 8, o 27 (.bin .eql (t 26) (.const (.str []))), v 28 27, g 29 28 false (.val (t 7)), g 30 28 false (.len .sl (t 29)), g 31 28 false (.bin .eql (t 30) (n 16)), o 32 (.pick (t 28) Y (t 31))])
  (.after (.cond (t 32) (.seq (R [2, 3, 4] [o 2 (.val (.const (.slice none 0 (some 0)))), o 3 (.val (.const (.str []))), o 4 (.val (n 8))])
  (.live [2, 3, 4] (.ret))) (.skip)) [5, 7, 8]))
  (.after (.region [⟨true, [0, 0, 2, 7, 0, 0, 32, 112, 15], [v 33 7, v 34 8, o 35 (.mkslice 1 1 [.str []] [(0, 1, t 34)]), o 36 (.append 1 16 (t 33) (t 35)), v 37 5, v 38 8, o 39 (.len .str (t 38)), o 40 (.slice .str (t 37) (some (t 39)) none none), v 7 36]⟩, ⟨false, [], [v 5 40]⟩]) [5, 7])))) [5, 7]))
def code38 : AFunc := ⟨false, false, 1, 59, [.tmp 2, .tmp 3, .tmp 4],
  .seq (R [0] [o 2 (.val (.const (.slice none 0 (some 0)))), o 3 (.val (.const (.str []))), o 4 (.val (n 0))])
  (.seq (R [5, 6] [v 11 0, o 12 (.callg 85 [t 11, .const (.str [40])]), v 10 12, o 13 (.extract (t 10) 0), o 14 (.extract (t 10) 1), v 5 13, v 6 14])
  (.seq (.seq (R [5, 16] [v 15 6, o 16 (.un .not (t 15))])
  (.after (.cond (t 16) (.seq (R [2, 3, 4] [o 2 (.val (.const (.slice none 0 (some 0)))), o 3 (.val (.const (.str []))), o 4 (.val (n 8))])
  (.live [2, 3, 4] (.ret))) (.skip)) [5]))
  (.seq (R [5, 7] [o 7 (.val (.const (.slice none 0 (some 0))))])
  (.seq (.after (.block 0 (.loop code38L0)) [5, 7])
  (.seq (R [6, 7, 9] [v 42 5, o 43 (.callg 85 [t 42, .const (.str [41])]), v 41 43, o 44 (.extract (t 41) 0), o 45 (.extract (t 41) 1), v 9 44, v 6 45])
  (.seq (.seq (R [7, 9, 56] [v 46 6, o 47 (.un .not (t 46)), v 48 47, g 49 48 false (.val (t 9)), g 50 48 false (.bin .neq (t 49) (.const (.str [86]))), g 51 48 false (.val (t 50)), g 52 51 true (.val (t 9)), g 53 51 true (.callg 27 [t 52]), g 54 51 true (.un .not (t 53)), g 55 48 false (.pick (t 51) (t 54) F), o 56 (.pick (t 48) Y (t 55))])
  (.after (.cond (t 56) (.seq (R [2, 3, 4] [o 2 (.val (.const (.slice none 0 (some 0)))), o 3 (.val (.const (.str []))), o 4 (.val (n 8))])
  (.live [2, 3, 4] (.ret))) (.skip)) [7, 9]))
  (.seq (R [2, 3, 4] [v 57 7, v 58 9, v 2 57, v 3 58, o 4 (.val (n 0))])
  (.live [2, 3, 4] (.ret))))))))), none⟩
def code85 : AFunc := ⟨false, false, 2, 11, [.tmp 4, .tmp 5],
  .seq (R [0, 1] [o 4 (.val (.const (.str []))), o 5 (.val F)])
  (.seq (R [4, 5] [v 6 0, v 7 1, o 8 (.callg 137 [t 6, t 7]), o 9 (.extract (t 8) 0), o 10 (.extract (t 8) 1), v 4 9, v 5 10])
  (.live [4, 5] (.ret))), none⟩
def code86 : AFunc := ⟨false, false, 1, 65, [.tmp 2],
  .seq (R [0] [o 2 (.val (.const (.str [])))])
  (.seq (R [0, 3] [v 9 0, o 10 (.callg 139 [t 9, .const (.str [91])]), v 3 10])
  (.seq (R [0, 3, 4] [v 11 0, o 12 (.len .str (t 11)), v 13 3, o 14 (.len .str (t 13)), o 15 (.bin .sub (t 12) (t 14)), v 4 15])
  (.seq (.seq (R [0, 3, 4, 21] [v 16 3, o 17 (.bin .eql (t 16) (.const (.str []))), v 18 17, g 19 18 false (.val (t 4)), g 20 18 false (.bin .gtr (t 19) (n 8)), o 21 (.pick (t 18) Y (t 20))])
  (.after (.cond (t 21) (.seq (R [2] [o 2 (.val (.const (.str [])))])
  (.live [2] (.ret))) (.skip)) [0, 3, 4]))
  (.seq (.seq (R [0, 3, 4, 5] [v 22 3, o 23 (.index (t 22) (n 0)), v 5 23])
  (.after (.block 0 (.seq (.seq (R [0, 3, 4, 5, 24] [v 25 5, o 26 (.bin .eql (t 25) (.const (.int .u8 73))), v 24 26])
  (.after (.cond (t 24) (.skip) (.seq (R [0, 3, 4, 5, 24] [v 27 5, o 28 (.bin .eql (t 27) (.const (.int .u8 74))), v 29 28, g 30 29 true (.val (t 4)), g 31 29 true (.bin .eql (t 30) (n 0)), o 32 (.pick (t 29) (t 31) F), v 24 32])
  (.after (.cond (t 24) (.skip) (R [0, 3, 4, 5, 24] [v 33 5, o 34 (.bin .eql (t 33) (.const (.int .u8 66))), v 35 34, g 36 35 true (.val (t 4)), g 37 35 true (.bin .gtr (t 36) (n 0)), o 38 (.pick (t 35) (t 37) F), v 24 38])) [0, 3, 4, 5, 24]))) [0, 3, 4, 5, 24]))
  (.after (.cond (t 24) (.seq (R [2] [v 39 0, v 40 4, o 41 (.bin .add (t 40) (n 1)), o 42 (.slice .str (t 39) none (some (t 41)) none), v 2 42])
  (.live [2] (.ret))) (.seq (R [0, 3, 4, 43] [v 44 5, o 45 (.bin .eql (t 44) (.const (.int .u8 76))), v 43 45])
  (.after (.cond (t 43) (.seq (R [0, 4, 6, 8] [v 47 3, o 48 (.slice .str (t 47) (some (n 1)) none none), o 49 (.callg 138 [t 48, .const (.str [59])]), v 46 49, o 50 (.extract (t 46) 0), o 51 (.extract (t 46) 1), o 52 (.extract (t 46) 2), v 6 50, v 7 51, v 8 52])
  (.seq (R [0, 4, 6, 57] [v 53 8, v 54 53, g 55 54 true (.val (t 6)), g 56 54 true (.callg 25 [t 55]), o 57 (.pick (t 54) (t 56) F)])
  (.after (.cond (t 57) (.seq (R [2] [v 58 0, v 59 4, v 60 6, o 61 (.len .str (t 60)), o 62 (.bin .add (t 59) (t 61)), o 63 (.bin .add (t 62) (n 2)), o 64 (.slice .str (t 58) none (some (t 63)) none), v 2 64])
  (.live [2] (.ret))) (.skip)) []))) (.skip)) []))) []))) []))
  (.seq (R [2] [o 2 (.val (.const (.str [])))])
  (.live [2] (.ret))))))), none⟩
def code88 : AFunc := ⟨false, false, 2, 8, [.tmp 4],
  .seq (R [0, 1] [o 4 (.val F)])
  (.seq (R [4] [v 5 0, v 6 1, o 7 (.callg 140 [t 5, t 6]), v 4 7])
  (.live [4] (.ret))), none⟩
def code89 : AFunc := ⟨false, false, 2, 8, [.tmp 4],
  .seq (R [0, 1] [o 4 (.val F)])
  (.seq (R [4] [v 5 0, v 6 1, o 7 (.callg 141 [t 5, t 6]), v 4 7])
  (.live [4] (.ret))), none⟩
def code90 : AFunc := ⟨false, false, 2, 8, [.tmp 4],
  .seq (R [0, 1] [o 4 (.val (.const (.slice none 0 (some 0))))])
  (.seq (R [4] [v 5 0, v 6 1, o 7 (.callg 143 [t 5, t 6, n 0, .const (.int .i64 (-1))]), v 4 7])
  (.live [4] (.ret))), none⟩
def code91 : AFunc := ⟨false, false, 2, 9, [.tmp 4],
  .seq (R [0, 1] [o 4 (.val F)])
  (.seq (R [4] [v 5 0, v 6 1, o 7 (.callg 142 [t 5, t 6]), o 8 (.bin .geq (t 7) (n 0)), v 4 8])
  (.live [4] (.ret))), none⟩
def code92 : AFunc := ⟨false, false, 1, 6, [.tmp 2],
  .seq (R [0] [o 2 (.val F)])
  (.seq (R [2] [v 3 0, o 4 (.callg 144 [t 3]), o 5 (.un .not (t 4)), v 2 5])
  (.live [2] (.ret))), none⟩
def code137 : AFunc := ⟨false, false, 2, 15, [.tmp 4, .tmp 5],
  .seq (R [0, 1] [o 4 (.val (.const (.str []))), o 5 (.val F)])
  (.seq (.seq (R [0, 1, 9] [v 6 0, v 7 1, o 8 (.callg 140 [t 6, t 7]), o 9 (.un .not (t 8))])
  (.after (.cond (t 9) (.seq (R [4, 5] [v 10 0, v 4 10, o 5 (.val F)])
  (.live [4, 5] (.ret))) (.skip)) [0, 1]))
  (.seq (R [4, 5] [v 11 0, v 12 1, o 13 (.len .str (t 12)), o 14 (.slice .str (t 11) (some (t 13)) none none), v 4 14, o 5 (.val Y)])
  (.live [4, 5] (.ret)))), none⟩
def code138 : AFunc := ⟨false, false, 2, 13, [.tmp 4, .tmp 5, .tmp 6],
  .seq (R [0, 1] [o 4 (.val (.const (.str []))), o 5 (.val (.const (.str []))), o 6 (.val F)])
  (.seq (R [4, 5, 6] [v 7 0, v 8 1, o 9 (.callg 172 [t 7, t 8]), o 10 (.extract (t 9) 0), o 11 (.extract (t 9) 1), o 12 (.extract (t 9) 2), v 4 10, v 5 11, v 6 12])
  (.live [4, 5, 6] (.ret))), none⟩
def code139 : AFunc := ⟨false, false, 2, 37, [.tmp 4],
  .seq (R [0, 1] [o 4 (.val (.const (.str [])))])
  (.seq (.seq (R [0, 1, 12] [v 7 0, o 8 (.bin .eql (t 7) (.const (.str []))), v 9 8, g 10 9 false (.val (t 1)), g 11 9 false (.bin .eql (t 10) (.const (.str []))), o 12 (.pick (t 9) Y (t 11))])
  (.after (.cond (t 12) (.seq (R [4] [v 13 0, v 4 13])
  (.live [4] (.ret))) (.skip)) [0, 1]))
  (.seq (.seq (R [0, 1, 21] [v 14 1, o 15 (.len .str (t 14)), o 16 (.bin .eql (t 15) (n 1)), v 17 16, g 18 17 true (.val (t 1)), g 19 17 true (.index (t 18) (n 0)), g 20 17 true (.bin .lss (t 19) (.const (.int .u8 128))), o 21 (.pick (t 17) (t 20) F)])
  (.after (.cond (t 21) (.seq (R [4] [v 22 0, v 23 1, o 24 (.index (t 23) (n 0)), o 25 (.callg 171 [t 22, t 24]), v 4 25])
  (.live [4] (.ret))) (.skip)) [0, 1]))
  (.seq (.seq (R [0, 1, 5, 6] [v 27 1, o 28 (.nextStr F), v 26 28, o 29 (.extract (t 26) 0), o 30 (.extract (t 26) 1), o 5 (.alloc 1 [.bool false, .bool false, .bool false, .bool false, .bool false, .bool false, .bool false, .bool false, .bool false, .bool false, .bool false, .bool false, .bool false, .bool false, .bool false, .bool false, .bool false, .bool false, .bool false, .bool false, .bool false, .bool false, .bool false, .bool false, .bool false, .bool false, .bool false, .bool false, .bool false, .bool false, .bool false, .bool false, .bool false, .bool false, .bool false, .bool false, .bool false, .bool false, .bool false, .bool false, .bool false, .bool false, .bool false, .bool false, .bool false, .bool false, .bool false, .bool false, .bool false, .bool false, .bool false, .bool false, .bool false, .bool false, .bool false, .bool false, .bool false, .bool false, .bool false, .bool false, .bool false, .bool false, .bool false, .bool false, .bool false, .bool false, .bool false, .bool false, .bool false, .bool false, .bool false, .bool false, .bool false, .bool false, .bool false, .bool false, .bool false, .bool false, .bool false, .bool false, .bool false, .bool false, .bool false, .bool false, .bool false, .bool false, .bool false, .bool false, .bool false, .bool false, .bool false, .bool false, .bool false, .bool false, .bool false, .bool false, .bool false, .bool false, .bool false, .bool false, .bool false, .bool false, .bool false, .bool false, .bool false, .bool false, .bool false, .bool false, .bool false, .bool false, .bool false, .bool false, .bool false, .bool false, .bool false, .bool false, .bool false, .bool false, .bool false, .bool false, .bool false, .bool false, .bool false, .bool false, .bool false, .bool false, .bool false, .bool false, .bool false, .bool false, .bool false, .bool false, .bool false, .bool false, .bool false, .bool false, .bool false, .bool false, .bool false, .bool false, .bool false, .bool false, .bool false, .bool false, .bool false, .bool false, .bool false, .bool false, .bool false, .bool false, .bool false, .bool false, .bool false, .bool false, .bool false, .bool false, .bool false, .bool false, .bool false, .bool false, .bool false, .bool false, .bool false, .bool false, .bool false, .bool false, .bool false, .bool false, .bool false, .bool false, .bool false, .bool false, .bool false, .bool false, .bool false, .bool false, .bool false, .bool false, .bool false, .bool false, .bool false, .bool false, .bool false, .bool false, .bool false, .bool false, .bool false, .bool false, .bool false, .bool false, .bool false, .bool false, .bool false, .bool false, .bool false, .bool false, .bool false, .bool false, .bool false, .bool false, .bool false, .bool false, .bool false, .bool false, .bool false, .bool false, .bool false, .bool false, .bool false, .bool false, .bool false, .bool false, .bool false, .bool false, .bool false, .bool false, .bool false, .bool false, .bool false, .bool false, .bool false, .bool false, .bool false, .bool false, .bool false, .bool false, .bool false, .bool false, .bool false, .bool false, .bool false, .bool false, .bool false, .bool false, .bool false, .bool false, .bool false, .bool false, .bool false, .bool false, .bool false, .bool false, .bool false, .bool false, .bool false, .bool false, .bool false, .bool false, .bool false, .bool false, .bool false, .bool false, .bool false, .bool false, .bool false, .bool false]), u (.store 256 (t 5) (t 29)), v 6 30])
  (.seq (R [0, 1, 5, 31] [v 31 6])
  (.after (.cond (t 31) (.seq (R [4] [v 32 0, o 33 (.nextStr F), v 4 33])
  (.live [4] (.ret))) (.skip)) [0, 1])))
  (.seq (R [4] [v 34 0, v 35 1, o 36 (.nextStr F), v 4 36])
  (.live [4] (.ret)))))), none⟩
def code140 : AFunc := ⟨false, false, 2, 18, [.tmp 4],
  .seq (R [0, 1] [o 4 (.val F)])
  (.seq (R [4] [v 5 0, o 6 (.len .str (t 5)), v 7 1, o 8 (.len .str (t 7)), o 9 (.bin .geq (t 6) (t 8)), v 10 9, g 11 10 true (.val (t 0)), g 12 10 true (.val (t 1)), g 13 10 true (.len .str (t 12)), g 14 10 true (.slice .str (t 11) none (some (t 13)) none), g 15 10 true (.val (t 1)), g 16 10 true (.bin .eql (t 14) (t 15)), o 17 (.pick (t 10) (t 16) F), v 4 17])
  (.live [4] (.ret))), none⟩
def code141 : AFunc := ⟨false, false, 2, 21, [.tmp 4],
  .seq (R [0, 1] [o 4 (.val F)])
  (.seq (R [4] [v 5 0, o 6 (.len .str (t 5)), v 7 1, o 8 (.len .str (t 7)), o 9 (.bin .geq (t 6) (t 8)), v 10 9, g 11 10 true (.val (t 0)), g 12 10 true (.val (t 0)), g 13 10 true (.len .str (t 12)), g 14 10 true (.val (t 1)), g 15 10 true (.len .str (t 14)), g 16 10 true (.bin .sub (t 13) (t 15)), g 17 10 true (.slice .str (t 11) (some (t 16)) none none), g 18 10 true (.val (t 1)), g 19 10 true (.bin .eql (t 17) (t 18)), o 20 (.pick (t 10) (t 19) F), v 4 20])
  (.live [4] (.ret))), none⟩
def code142L0 : ACode :=
  .live [0, 1, 7, 8] (.seq (R [0, 1, 7, 8, 9] [o 9 (.bin .lss (t 8) (t 7))])
  (.seq (.after (.cond (t 9) (.skip) (.live [] (.exit 0))) [0, 1, 7, 8])
  (.seq (.after (.block 1 (.seq (R [0, 1, 5, 7, 8] [v 10 8, v 5 10])
  (.seq (R [0, 1, 5, 7, 8, 16] [v 11 1, v 12 0, v 13 5, o 14 (.iaddr 1 (t 12) (t 13)), o 15 (.load none (t 14)), o 16 (.call (t 11) [t 15])])
  (.after (.cond (t 16) (.seq (R [4] [v 17 5, v 4 17])
  (.live [4] (.ret))) (.skip)) [0, 1, 7, 8])))) [0, 1, 7, 8])
  (R [0, 1, 7, 8] [o 18 (.bin .add (t 8) (n 1)), v 8 18]))))
def code142 : AFunc := ⟨false, false, 2, 19, [.tmp 4],
  .seq (R [0, 1] [o 4 (.val (n 0))])
  (.seq (.seq (R [0, 1, 7, 8] [v 6 0, o 7 (.len .sl (t 6)), o 8 (.val (n 0))])
  (.after (.block 0 (.loop code142L0)) []))
  (.seq (R [4] [o 4 (.val (.const (.int .i64 (-1))))])
  (.live [4] (.ret)))), none⟩
def code143L0 : ACode :=
  .live [0, 1, 2, 3, 9, 10] (.seq (.seq (R [0, 1, 2, 3, 9, 10, 36] [v 34 10, v 35 3, o 36 (.bin .lss (t 34) (t 35))])
  (.after (.cond (t 36) (.skip) (.live [0, 9, 10] (.exit 0))) [0, 1, 2, 3, 9, 10]))
  (.after (.block 1 (.seq (R [0, 1, 2, 3, 9, 10, 11] [v 37 0, v 38 1, o 39 (.callg 173 [t 37, t 38]), v 11 39])
  (.seq (.seq (R [0, 1, 2, 3, 9, 10, 11, 41] [v 40 11, o 41 (.bin .lss (t 40) (n 0))])
  (.after (.cond (t 41) (.live [0, 9, 10] (.exit 0)) (.skip)) [0, 1, 2, 3, 9, 10, 11]))
  (.seq (R [0, 1, 2, 3, 9, 10, 11] [v 42 9, v 43 10, v 44 0, v 45 11, v 46 2, o 47 (.bin .add (t 45) (t 46)), o 48 (.slice .str (t 44) none (some (t 47)) none), o 49 (.iaddr 1 (t 42) (t 43)), u (.store 1 (t 49) (t 48))])
  (.seq (R [0, 1, 2, 3, 9, 10] [v 50 0, v 51 11, v 52 1, o 53 (.len .str (t 52)), o 54 (.bin .add (t 51) (t 53)), o 55 (.slice .str (t 50) (some (t 54)) none none), v 0 55])
  (R [0, 1, 2, 3, 9, 10] [v 56 10, o 57 (.bin .add (t 56) (n 1)), v 10 57])))))) [0, 1, 2, 3, 9, 10]))
def code143 : AFunc := ⟨false, false, 4, 66, [.tmp 8],
  .seq (R [0, 1, 2, 3] [o 8 (.val (.const (.slice none 0 (some 0))))])
  (.seq (.seq (R [0, 1, 2, 3, 13] [v 12 3, o 13 (.bin .eql (t 12) (n 0))])
  (.after (.cond (t 13) (.seq (R [8] [o 8 (.val (.const (.slice none 0 (some 0))))])
  (.live [8] (.ret))) (.skip)) [0, 1, 2, 3]))
  (.seq (.seq (R [0, 1, 2, 3, 15] [v 14 1, o 15 (.bin .eql (t 14) (.const (.str [])))])
  (.after (.cond (t 15) (.seq (R [8] [v 16 0, v 17 3, o 18 (.nextStr F), v 8 18])
  (.live [8] (.ret))) (.skip)) [0, 1, 2, 3]))
  (.seq (.seq (R [0, 1, 2, 3, 20] [v 19 3, o 20 (.bin .lss (t 19) (n 0))])
  (.after (.cond (t 20) (R [0, 1, 2, 3] [v 21 0, v 22 1, o 23 (.callg 174 [t 21, t 22]), o 24 (.bin .add (t 23) (n 1)), v 3 24]) (.skip)) [0, 1, 2, 3]))
  (.seq (R [0, 1, 2, 3] [v 25 3, v 26 0, o 27 (.len .str (t 26)), o 28 (.bin .add (t 27) (n 1)), o 29 (.minmax false [t 25, t 28]), v 3 29])
  (.seq (R [0, 1, 2, 3, 9] [v 30 3, o 31 (.make 1 16 [.str []] (t 30) (t 30)), v 9 31])
  (.seq (R [0, 1, 2, 3, 9] [v 32 3, o 33 (.bin .sub (t 32) (n 1)), v 3 33])
  (.seq (R [0, 1, 2, 3, 9, 10] [o 10 (.val (n 0))])
  (.seq (.after (.block 0 (.loop code143L0)) [0, 9, 10])
  (.seq (R [9, 10] [v 58 9, v 59 10, v 60 0, o 61 (.iaddr 1 (t 58) (t 59)), u (.store 1 (t 61) (t 60))])
  (.seq (R [8] [v 62 9, v 63 10, o 64 (.bin .add (t 63) (n 1)), o 65 (.slice (.sl 1) (t 62) none (some (t 64)) none), v 8 65])
  (.live [8] (.ret)))))))))))), none⟩
def code144 : AFunc := ⟨false, false, 1, 13, [.tmp 2],
  .seq (R [0] [o 2 (.val F)])
  (.seq (R [0, 3] [o 3 (.val (.const (.func 146 [] [])))])
  (.seq (R [2] [v 4 0, o 5 (.bin .neq (t 4) (.const (.str []))), v 6 5, g 7 6 true (.val (t 0)), g 8 6 true (.conv .bytes (t 7)), g 9 6 true (.val (t 3)), g 10 6 true (.callg 145 [t 8, t 9]), g 11 6 true (.un .not (t 10)), o 12 (.pick (t 6) (t 11) F), v 2 12])
  (.live [2] (.ret)))), none⟩
def code145 : AFunc := ⟨false, false, 2, 9, [.tmp 4],
  .seq (R [0, 1] [o 4 (.val F)])
  (.seq (R [4] [v 5 0, v 6 1, o 7 (.callg 176 [t 5, t 6]), o 8 (.bin .geq (t 7) (n 0)), v 4 8])
  (.live [4] (.ret))), none⟩
def code146 : AFunc := ⟨false, false, 1, 26, [.tmp 2],
  .seq (R [0] [o 2 (.val F)])
  (.seq (.after (.block 0 (.seq (.seq (R [0, 3] [v 4 0, o 5 (.bin .geq (t 4) (.const (.int .u8 97))), v 6 5, g 7 6 true (.val (t 0)), g 8 6 true (.bin .leq (t 7) (.const (.int .u8 122))), o 9 (.pick (t 6) (t 8) F), v 3 9])
  (.after (.cond (t 3) (.skip) (.seq (R [0, 3] [v 10 0, o 11 (.bin .geq (t 10) (.const (.int .u8 65))), v 12 11, g 13 12 true (.val (t 0)), g 14 12 true (.bin .leq (t 13) (.const (.int .u8 90))), o 15 (.pick (t 12) (t 14) F), v 3 15])
  (.after (.cond (t 3) (.skip) (.seq (R [0, 3] [v 16 0, o 17 (.bin .geq (t 16) (.const (.int .u8 48))), v 18 17, g 19 18 true (.val (t 0)), g 20 18 true (.bin .leq (t 19) (.const (.int .u8 57))), o 21 (.pick (t 18) (t 20) F), v 3 21])
  (.after (.cond (t 3) (.skip) (.seq (R [0, 3] [v 22 0, o 23 (.bin .eql (t 22) (.const (.int .u8 95))), v 3 23])
  (.after (.cond (t 3) (.skip) (R [3] [v 24 0, o 25 (.bin .eql (t 24) (.const (.int .u8 36))), v 3 25])) [3]))) [3]))) [3]))) [3]))
  (.after (.cond (t 3) (.seq (R [2] [o 2 (.val F)])
  (.live [2] (.ret))) (.skip)) []))) [])
  (.seq (R [2] [o 2 (.val Y)])
  (.live [2] (.ret)))), none⟩
def code171L0 : ACode :=
  .live [0, 1] (.seq (.seq (R [0, 1, 13] [v 5 0, o 6 (.len .str (t 5)), o 7 (.bin .gtr (t 6) (n 0)), v 8 7, g 9 8 true (.val (t 0)), g 10 8 true (.index (t 9) (n 0)), g 11 8 true (.val (t 1)), g 12 8 true (.bin .eql (t 10) (t 11)), o 13 (.pick (t 8) (t 12) F)])
  (.after (.cond (t 13) (.skip) (.live [0] (.exit 0))) [0, 1]))
  (.after (.block 1 (R [0, 1] [v 14 0, o 15 (.slice .str (t 14) (some (n 1)) none none), v 0 15])) [0, 1]))
def code171 : AFunc := ⟨false, false, 2, 17, [.tmp 4],
  .seq (R [0, 1] [o 4 (.val (.const (.str [])))])
  (.seq (.after (.block 0 (.loop code171L0)) [0])
  (.seq (R [4] [v 16 0, v 4 16])
  (.live [4] (.ret)))), none⟩
def code172 : AFunc := ⟨false, false, 2, 23, [.tmp 4, .tmp 5, .tmp 6],
  .seq (R [0, 1] [o 4 (.val (.const (.str []))), o 5 (.val (.const (.str []))), o 6 (.val F)])
  (.seq (.seq (R [0, 1, 7] [v 8 0, v 9 1, o 10 (.callg 205 [t 8, t 9]), v 7 10])
  (.seq (R [0, 1, 7, 12] [v 11 7, o 12 (.bin .geq (t 11) (n 0))])
  (.after (.cond (t 12) (.seq (.after (.region [⟨true, [], [v 13 0, v 14 7, o 15 (.slice .str (t 13) none (some (t 14)) none), v 16 0, v 17 7, v 18 1, o 19 (.len .str (t 18)), o 20 (.bin .add (t 17) (t 19)), o 21 (.slice .str (t 16) (some (t 20)) none none), v 4 15]⟩, ⟨false, [], [v 5 21, o 6 (.val Y)]⟩]) [4, 5, 6])
  (.live [4, 5, 6] (.ret))) (.skip)) [0])))
  (.seq (R [4, 5, 6] [v 22 0, v 4 22, o 5 (.val (.const (.str []))), o 6 (.val F)])
  (.live [4, 5, 6] (.ret)))), none⟩
def code173 : AFunc := ⟨false, false, 2, 8, [.tmp 4],
  .seq (R [0, 1] [o 4 (.val (n 0))])
  (.seq (R [4] [v 5 0, v 6 1, o 7 (.callg 205 [t 5, t 6]), v 4 7])
  (.live [4] (.ret))), none⟩
def code174L0 : ACode :=
  .live [0, 1, 5] (.after (.block 1 (.seq (R [0, 1, 5, 6] [v 20 0, v 21 1, o 22 (.callg 173 [t 20, t 21]), v 6 22])
  (.seq (.seq (R [0, 1, 5, 6, 24] [v 23 6, o 24 (.bin .eql (t 23) (.const (.int .i64 (-1))))])
  (.after (.cond (t 24) (.seq (R [4] [v 25 5, v 4 25])
  (.live [4] (.ret))) (.skip)) [0, 1, 5, 6]))
  (.seq (R [0, 1, 5, 6] [v 26 5, o 27 (.bin .add (t 26) (n 1)), v 5 27])
  (R [0, 1, 5] [v 28 0, v 29 6, v 30 1, o 31 (.len .str (t 30)), o 32 (.bin .add (t 29) (t 31)), o 33 (.slice .str (t 28) (some (t 32)) none none), v 0 33]))))) [0, 1, 5])
def code174 : AFunc := ⟨false, false, 2, 34, [.tmp 4],
  .seq (R [0, 1] [o 4 (.val (n 0))])
  (.seq (.seq (R [0, 1, 9] [v 7 1, o 8 (.len .str (t 7)), o 9 (.bin .eql (t 8) (n 0))])
  (.after (.cond (t 9) (.seq (R [4] [v 10 0, o 11 (.nextStr F), o 12 (.bin .add (t 11) (n 1)), v 4 12])
  (.live [4] (.ret))) (.skip)) [0, 1]))
  (.seq (.seq (R [0, 1, 15] [v 13 1, o 14 (.len .str (t 13)), o 15 (.bin .eql (t 14) (n 1))])
  (.after (.cond (t 15) (.seq (R [4] [v 16 0, v 17 1, o 18 (.index (t 17) (n 0)), o 19 (.ext (.pure (.prim .countByte)) [t 16, t 18]), v 4 19])
  (.live [4] (.ret))) (.skip)) [0, 1]))
  (.seq (R [0, 1, 5] [o 5 (.val (n 0))])
  (.after (.block 0 (.loop code174L0)) [4])))), none⟩
def code176L0 : ACode :=
  .live [0, 1, 7, 8] (.seq (R [0, 1, 7, 8, 9] [o 9 (.bin .lss (t 8) (t 7))])
  (.seq (.after (.cond (t 9) (.skip) (.live [] (.exit 0))) [0, 1, 7, 8])
  (.seq (.after (.block 1 (.seq (R [0, 1, 5, 7, 8] [v 10 8, v 5 10])
  (.seq (R [0, 1, 5, 7, 8, 16] [v 11 1, v 12 0, v 13 5, o 14 (.iaddr 1 (t 12) (t 13)), o 15 (.load none (t 14)), o 16 (.call (t 11) [t 15])])
  (.after (.cond (t 16) (.seq (R [4] [v 17 5, v 4 17])
  (.live [4] (.ret))) (.skip)) [0, 1, 7, 8])))) [0, 1, 7, 8])
  (R [0, 1, 7, 8] [o 18 (.bin .add (t 8) (n 1)), v 8 18]))))
def code176 : AFunc := ⟨false, false, 2, 19, [.tmp 4],
  .seq (R [0, 1] [o 4 (.val (n 0))])
  (.seq (.seq (R [0, 1, 7, 8] [v 6 0, o 7 (.len .sl (t 6)), o 8 (.val (n 0))])
  (.after (.block 0 (.loop code176L0)) []))
  (.seq (R [4] [o 4 (.val (.const (.int .i64 (-1))))])
  (.live [4] (.ret)))), none⟩
def code180 : AFunc := ⟨false, false, 2, 9, [.tmp 4],
  .seq (R [0, 1] [o 4 (.val F)])
  (.seq (R [4] [v 5 0, v 6 1, o 7 (.callg 173 [t 5, t 6]), o 8 (.bin .geq (t 7) (n 0)), v 4 8])
  (.live [4] (.ret))), none⟩
def code205L0 : ACode :=
  .live [0, 1, 5, 6, 7, 8, 9, 10] (.seq (.seq (R [0, 1, 5, 6, 7, 8, 9, 10, 59] [v 57 8, v 58 9, o 59 (.bin .lss (t 57) (t 58))])
  (.after (.cond (t 59) (.skip) (.live [] (.exit 1))) [0, 1, 5, 6, 7, 8, 9, 10]))
  (.after (.block 2 (.seq (.seq (R [0, 1, 5, 6, 7, 8, 9, 10, 64] [v 60 0, v 61 8, o 62 (.index (t 60) (t 61)), v 63 6, o 64 (.bin .neq (t 62) (t 63))])
  (.after (.cond (t 64) (.seq (R [0, 1, 5, 6, 7, 8, 9, 10, 11] [v 65 0, v 66 8, o 67 (.bin .add (t 66) (n 1)), v 68 9, o 69 (.slice .str (t 65) (some (t 67)) (some (t 68)) none), v 70 6, o 71 (.callg 226 [t 69, t 70]), v 11 71])
  (.seq (.seq (R [0, 1, 5, 6, 7, 8, 9, 10, 11, 73] [v 72 11, o 73 (.bin .lss (t 72) (n 0))])
  (.after (.cond (t 73) (.seq (R [4] [o 4 (.val (.const (.int .i64 (-1))))])
  (.live [4] (.ret))) (.skip)) [0, 1, 5, 6, 7, 8, 9, 10, 11]))
  (R [0, 1, 5, 6, 7, 8, 9, 10] [v 74 8, v 75 11, o 76 (.bin .add (t 75) (n 1)), o 77 (.bin .add (t 74) (t 76)), v 8 77]))) (.skip)) [0, 1, 5, 6, 7, 8, 9, 10]))
  (.seq (.seq (R [0, 1, 5, 6, 7, 8, 9, 10, 93] [v 78 0, v 79 8, o 80 (.bin .add (t 79) (n 1)), o 81 (.index (t 78) (t 80)), v 82 7, o 83 (.bin .eql (t 81) (t 82)), v 84 83, g 85 84 true (.val (t 0)), g 86 84 true (.val (t 8)), g 87 84 true (.val (t 8)), g 88 84 true (.val (t 5)), g 89 84 true (.bin .add (t 87) (t 88)), g 90 84 true (.slice .str (t 85) (some (t 86)) (some (t 89)) none), g 91 84 true (.val (t 1)), g 92 84 true (.bin .eql (t 90) (t 91)), o 93 (.pick (t 84) (t 92) F)])
  (.after (.cond (t 93) (.seq (R [4] [v 94 8, v 4 94])
  (.live [4] (.ret))) (.skip)) [0, 1, 5, 6, 7, 8, 9, 10]))
  (.seq (R [0, 1, 5, 6, 7, 8, 9, 10] [v 95 8, o 96 (.bin .add (t 95) (n 1)), v 8 96])
  (.seq (R [0, 1, 5, 6, 7, 8, 9, 10] [v 97 10, o 98 (.bin .add (t 97) (n 1)), v 10 98])
  (.seq (R [0, 1, 5, 6, 7, 8, 9, 10, 107] [v 99 5, o 100 (.nextStr F), o 101 (.bin .leq (t 99) (t 100)), v 102 101, g 103 102 true (.val (t 10)), g 104 102 true (.val (t 8)), g 105 102 true (.nextStr F), g 106 102 true (.bin .gtr (t 103) (t 105)), o 107 (.pick (t 102) (t 106) F)])
  (.after (.cond (t 107) (.seq (R [8, 12] [v 108 0, v 109 8, o 110 (.slice .str (t 108) (some (t 109)) none none), v 111 1, o 112 (.nextStr F), v 12 112])
  (.seq (.seq (R [8, 12, 114] [v 113 12, o 114 (.bin .geq (t 113) (n 0))])
  (.after (.cond (t 114) (.seq (R [4] [v 115 12, v 116 8, o 117 (.bin .add (t 115) (t 116)), v 4 117])
  (.live [4] (.ret))) (.skip)) []))
  (.seq (R [4] [o 4 (.val (.const (.int .i64 (-1))))])
  (.live [4] (.ret))))) (.seq (R [0, 1, 5, 6, 7, 8, 9, 10, 132] [v 118 5, o 119 (.nextStr F), o 120 (.bin .gtr (t 118) (t 119)), v 121 120, g 122 121 true (.val (t 10)), g 123 121 true (.val (t 8)), g 124 121 true (.bin .shr (t 123) (.const (.int .u64 4))), g 125 121 true (.bin .add (n 4) (t 124)), g 126 121 true (.bin .geq (t 122) (t 125)), o 127 (.pick (t 121) (t 126) F), v 128 127, g 129 128 true (.val (t 8)), g 130 128 true (.val (t 9)), g 131 128 true (.bin .lss (t 129) (t 130)), o 132 (.pick (t 128) (t 131) F)])
  (.after (.cond (t 132) (.seq (R [8, 13] [v 133 0, v 134 8, o 135 (.slice .str (t 133) (some (t 134)) none none), v 136 1, o 137 (.nextStr F), v 13 137])
  (.seq (.seq (R [8, 13, 139] [v 138 13, o 139 (.bin .lss (t 138) (n 0))])
  (.after (.cond (t 139) (.seq (R [4] [o 4 (.val (.const (.int .i64 (-1))))])
  (.live [4] (.ret))) (.skip)) [8, 13]))
  (.seq (R [4] [v 140 8, v 141 13, o 142 (.bin .add (t 140) (t 141)), v 4 142])
  (.live [4] (.ret))))) (.skip)) [0, 1, 5, 6, 7, 8, 9, 10]))) [0, 1, 5, 6, 7, 8, 9, 10]))))))) [0, 1, 5, 6, 7, 8, 9, 10]))
def code205 : AFunc := ⟨false, false, 2, 143, [.tmp 4],
  .seq (R [0, 1] [o 4 (.val (n 0))])
  (.seq (R [0, 1, 5] [v 14 1, o 15 (.len .str (t 14)), v 5 15])
  (.seq (.after (.block 0 (.seq (R [0, 1, 5, 16] [v 17 5, o 18 (.bin .eql (t 17) (n 0)), v 19 18, g 20 19 false (.val (t 1)), g 21 19 false (.val (t 0)), g 22 19 false (.bin .eql (t 20) (t 21)), o 23 (.pick (t 19) Y (t 22)), v 16 23])
  (.after (.cond (t 16) (.seq (R [4] [o 4 (.val (n 0))])
  (.live [4] (.ret))) (.seq (R [0, 1, 5, 24] [v 25 5, o 26 (.bin .eql (t 25) (n 1)), v 24 26])
  (.after (.cond (t 24) (.seq (R [4] [v 27 0, v 28 1, o 29 (.index (t 28) (n 0)), o 30 (.callg 226 [t 27, t 29]), v 4 30])
  (.live [4] (.ret))) (.seq (R [0, 1, 5, 31] [v 32 5, v 33 0, o 34 (.len .str (t 33)), o 35 (.bin .geq (t 32) (t 34)), v 31 35])
  (.after (.cond (t 31) (.seq (R [4] [o 4 (.val (.const (.int .i64 (-1))))])
  (.live [4] (.ret))) (.seq (R [0, 1, 5, 36] [v 37 5, o 38 (.nextStr F), o 39 (.bin .leq (t 37) (t 38)), v 40 39, g 41 40 true (.val (t 0)), g 42 40 true (.len .str (t 41)), g 43 40 true (.bin .leq (t 42) (n 64)), o 44 (.pick (t 40) (t 43) F), v 36 44])
  (.after (.cond (t 36) (.seq (R [4] [v 45 0, v 46 1, o 47 (.nextStr F), v 4 47])
  (.live [4] (.ret))) (.skip)) [0, 1, 5]))) [0, 1, 5]))) [0, 1, 5]))) [0, 1, 5]))) [0, 1, 5])
  (.seq (R [0, 1, 5, 6] [v 48 1, o 49 (.index (t 48) (n 0)), v 6 49])
  (.seq (R [0, 1, 5, 6, 7] [v 50 1, o 51 (.index (t 50) (n 1)), v 7 51])
  (.seq (R [0, 1, 5, 6, 7, 8] [o 8 (.val (n 0))])
  (.seq (R [0, 1, 5, 6, 7, 8, 9] [v 52 0, o 53 (.len .str (t 52)), v 54 5, o 55 (.bin .sub (t 53) (t 54)), o 56 (.bin .add (t 55) (n 1)), v 9 56])
  (.seq (R [0, 1, 5, 6, 7, 8, 9, 10] [o 10 (.val (n 0))])
  (.seq (.after (.block 1 (.loop code205L0)) [])
  (.seq (R [4] [o 4 (.val (.const (.int .i64 (-1))))])
  (.live [4] (.ret))))))))))), none⟩
def code226 : AFunc := ⟨false, false, 2, 8, [.tmp 4],
  .seq (R [0, 1] [o 4 (.val (n 0))])
  (.seq (R [4] [v 5 0, v 6 1, o 7 (.ext (.pure (.prim .indexByte)) [t 5, t 6]), v 4 7])
  (.live [4] (.ret))), none⟩
def T : Nat → Option AFunc := fun g => List.lookup g [(25, code25), (27, code27), (30, code30), (34, code34), (36, code36), (38, code38), (85, code85), (86, code86), (88, code88), (89, code89), (90, code90), (91, code91), (92, code92), (137, code137), (138, code138), (139, code139), (140, code140), (141, code141), (142, code142), (143, code143), (144, code144), (145, code145), (146, code146), (171, code171), (172, code172), (173, code173), (174, code174), (176, code176), (180, code180), (205, code205), (226, code226)]
theorem t25 : T 25 = some code25 := rfl
theorem t27 : T 27 = some code27 := rfl
theorem t30 : T 30 = some code30 := rfl
theorem t34 : T 34 = some code34 := rfl
theorem t36 : T 36 = some code36 := rfl
theorem t38 : T 38 = some code38 := rfl
theorem t85 : T 85 = some code85 := rfl
theorem t86 : T 86 = some code86 := rfl
theorem t88 : T 88 = some code88 := rfl
theorem t89 : T 89 = some code89 := rfl
theorem t90 : T 90 = some code90 := rfl
theorem t91 : T 91 = some code91 := rfl
theorem t92 : T 92 = some code92 := rfl
theorem t137 : T 137 = some code137 := rfl
theorem t138 : T 138 = some code138 := rfl
theorem t139 : T 139 = some code139 := rfl
theorem t140 : T 140 = some code140 := rfl
theorem t141 : T 141 = some code141 := rfl
theorem t142 : T 142 = some code142 := rfl
theorem t143 : T 143 = some code143 := rfl
theorem t144 : T 144 = some code144 := rfl
theorem t145 : T 145 = some code145 := rfl
theorem t146 : T 146 = some code146 := rfl
theorem t171 : T 171 = some code171 := rfl
theorem t172 : T 172 = some code172 := rfl
theorem t173 : T 173 = some code173 := rfl
theorem t174 : T 174 = some code174 := rfl
theorem t176 : T 176 = some code176 := rfl
theorem t180 : T 180 = some code180 := rfl
theorem t205 : T 205 = some code205 := rfl
theorem t226 : T 226 = some code226 := rfl
end Go.Abs.AbsDesc

/-
  The code of the functions, for the abstract machine: printed by a program.
-/
namespace Go.Abs.AbsHier
set_option linter.unusedVariables false
set_option linter.unusedSimpArgs false
set_option maxRecDepth 100000
open Go.Abs.Short
-- base: AbsDesc
def code47 : AFunc := ⟨false, false, 3, 92, [.tmp 6],
  .seq (R [0, 1, 2] [o 6 (.val F)])
  (.seq (.seq (R [0, 1, 2, 28] [v 15 0, o 16 (.eqnil .ptr false (t 15) (.const (.ptr none))), v 17 16, g 18 17 false (.val (t 0)), g 19 17 false (.val (t 1)), g 20 17 false (.callg 103 [t 18, t 19]), g 21 17 false (.un .not (t 20)), o 22 (.pick (t 17) Y (t 21)), v 23 22, g 24 23 false (.val (t 0)), g 25 23 false (.val (t 2)), g 26 23 false (.callg 103 [t 24, t 25]), g 27 23 false (.un .not (t 26)), o 28 (.pick (t 23) Y (t 27))])
  (.after (.cond (t 28) (.seq (R [6] [o 6 (.val F)])
  (.live [6] (.ret))) (.skip)) [0, 1, 2]))
  (.seq (R [0, 1, 2, 7, 8] [v 30 1, o 31 (.callg 34 [t 30]), v 29 31, o 32 (.extract (t 29) 0), o 33 (.extract (t 29) 1), v 7 32, v 8 33])
  (.seq (R [0, 1, 2, 7, 8, 9, 10] [v 35 2, o 36 (.callg 34 [t 35]), v 34 36, o 37 (.extract (t 34) 0), o 38 (.extract (t 34) 1), v 9 37, v 10 38])
  (.seq (R [0, 1, 2, 7, 8, 9, 10, 11, 12] [v 40 1, o 41 (.callg 36 [t 40]), v 39 41, o 42 (.extract (t 39) 0), o 43 (.extract (t 39) 1), v 11 42, v 12 43])
  (.seq (R [0, 1, 2, 7, 8, 9, 10, 11, 12, 13, 14] [v 45 2, o 46 (.callg 36 [t 45]), v 44 46, o 47 (.extract (t 44) 0), o 48 (.extract (t 44) 1), v 13 47, v 14 48])
  (.seq (.after (.block 0 (.seq (R [0, 1, 2, 7, 8, 9, 10, 11, 12, 13, 14, 49] [v 50 1, v 51 2, o 52 (.bin .eql (t 50) (t 51)), v 49 52])
  (.after (.cond (t 49) (.seq (R [6] [o 6 (.val Y)])
  (.live [6] (.ret))) (.seq (R [0, 2, 7, 8, 9, 10, 11, 12, 13, 14, 53] [v 54 1, o 55 (.bin .eql (t 54) (.const (.str [78]))), v 53 55])
  (.after (.cond (t 53) (.seq (R [6] [v 56 2, o 57 (.callg 30 [t 56]), v 6 57])
  (.live [6] (.ret))) (.seq (R [0, 7, 9, 10, 11, 12, 13, 14, 58] [v 59 8, v 60 59, g 61 60 true (.val (t 10)), o 62 (.pick (t 60) (t 61) F), v 58 62])
  (.after (.cond (t 58) (.seq (R [6] [v 63 0, v 64 7, v 65 9, o 66 (.callg 52 [t 63, t 64, t 65]), v 6 66])
  (.live [6] (.ret))) (.seq (R [0, 9, 11, 12, 13, 14, 67] [v 68 12, v 69 68, g 70 69 true (.val (t 10)), o 71 (.pick (t 69) (t 70) F), v 67 71])
  (.after (.cond (t 67) (.seq (R [6] [v 72 9, o 73 (.bin .eql (t 72) (.const (.str [79, 98, 106, 101, 99, 116]))), v 6 73])
  (.live [6] (.ret))) (.skip)) [0, 11, 12, 13, 14]))) [0, 11, 12, 13, 14]))) [0, 11, 12, 13, 14]))) [0, 11, 12, 13, 14]))) [0, 11, 12, 13, 14])
  (.seq (R [6] [v 74 12, v 75 74, g 76 75 true (.val (t 14)), o 77 (.pick (t 75) (t 76) F), v 78 77, g 79 78 true (.val (t 11)), g 80 78 true (.callg 30 [t 79]), o 81 (.pick (t 78) (t 80) F), v 82 81, g 83 82 true (.val (t 13)), g 84 82 true (.callg 30 [t 83]), o 85 (.pick (t 82) (t 84) F), v 86 85, g 87 86 true (.val (t 0)), g 88 86 true (.val (t 11)), g 89 86 true (.val (t 13)), g 90 86 true (.callg 47 [t 87, t 88, t 89]), o 91 (.pick (t 86) (t 90) F), v 6 91])
  (.live [6] (.ret))))))))), none⟩
def code49L0 : ACode :=
  .live [4, 69, 70, 71] (.seq (R [4, 69, 70, 71, 72] [o 72 (.bin .lss (t 71) (t 70))])
  (.seq (.after (.cond (t 72) (.skip) (.live [4] (.exit 4))) [4, 69, 70, 71])
  (.seq (.after (.block 5 (.seq (R [4, 10, 69, 70, 71] [o 73 (.iaddr 4 (t 69) (t 71)), o 74 (.load (some 4) (t 73)), o 10 (.lalloc [.str [], .str [], .slice none 0 (some 0), .slice none 0 (some 0)]), u (.store 4 (t 10) (t 74))])
  (.seq (R [4, 69, 70, 71, 78] [v 75 4, o 76 (.load (some 4) (t 10)), o 77 (.callg 97 [t 75, t 76]), o 78 (.un .not (t 77))])
  (.after (.cond (t 78) (.seq (R [2, 3] [o 2 (.val (.const (.ptr none))), o 3 (.val (n 15))])
  (.live [2, 3] (.ret))) (.skip)) [4, 69, 70, 71])))) [4, 69, 70, 71])
  (R [4, 69, 70, 71] [o 79 (.bin .add (t 71) (n 1)), v 71 79]))))
def code49L1 : ACode :=
  .live [0, 4, 45, 46, 47] (.seq (R [0, 4, 45, 46, 47, 48] [o 48 (.bin .lss (t 47) (t 46))])
  (.seq (.after (.cond (t 48) (.skip) (.live [0, 4] (.exit 2))) [0, 4, 45, 46, 47])
  (.seq (.after (.block 3 (.seq (R [0, 4, 8, 45, 46, 47] [o 49 (.iaddr 4 (t 45) (t 47)), o 50 (.load (some 4) (t 49)), o 8 (.lalloc [.str [], .str [], .slice none 0 (some 0), .slice none 0 (some 0)]), u (.store 4 (t 8) (t 50))])
  (.seq (R [0, 4, 45, 46, 47, 67] [v 51 4, o 52 (.faddr (t 8) 0), o 53 (.load none (t 52)), o 54 (.callg 98 [t 51, t 53]), o 55 (.un .not (t 54)), v 56 55, g 57 56 false (.val (t 4)), g 58 56 false (.load (some 4) (t 8)), g 59 56 false (.callg 99 [t 57, t 58]), g 60 56 false (.un .not (t 59)), o 61 (.pick (t 56) Y (t 60)), v 62 61, g 63 62 false (.val (t 4)), g 64 62 false (.load (some 4) (t 8)), g 65 62 false (.callg 100 [t 63, t 64]), g 66 62 false (.un .not (t 65)), o 67 (.pick (t 62) Y (t 66))])
  (.after (.cond (t 67) (.seq (R [2, 3] [o 2 (.val (.const (.ptr none))), o 3 (.val (n 15))])
  (.live [2, 3] (.ret))) (.skip)) [0, 4, 45, 46, 47])))) [0, 4, 45, 46, 47])
  (R [0, 4, 45, 46, 47] [o 68 (.bin .add (t 47) (n 1)), v 47 68]))))
def code49L2 : ACode :=
  .live [0, 4, 15, 16, 17] (.seq (R [0, 4, 15, 16, 17, 18] [o 18 (.bin .lss (t 17) (t 16))])
  (.seq (.after (.cond (t 18) (.skip) (.live [0, 4] (.exit 0))) [0, 4, 15, 16, 17])
  (.seq (.after (.block 1 (.seq (R [0, 4, 6, 15, 16, 17] [o 19 (.iaddr 4 (t 15) (t 17)), o 20 (.load (some 4) (t 19)), o 6 (.lalloc [.str [], .str [], .slice none 0 (some 0), .slice none 0 (some 0)]), u (.store 4 (t 6) (t 20))])
  (.seq (.seq (R [0, 4, 6, 15, 16, 17, 35] [v 21 4, o 22 (.faddr (t 6) 0), o 23 (.load none (t 22)), o 24 (.callg 54 [t 21, t 23]), v 25 24, g 26 25 false (.faddr (t 6) 0), g 27 25 false (.load none (t 26)), g 28 25 false (.callg 25 [t 27]), g 29 25 false (.un .not (t 28)), o 30 (.pick (t 25) Y (t 29)), v 31 30, g 32 31 false (.faddr (t 6) 1), g 33 31 false (.load none (t 32)), g 34 31 false (.bin .eql (t 33) (.const (.str [115, 121, 115]))), o 35 (.pick (t 31) Y (t 34))])
  (.after (.cond (t 35) (.seq (R [2, 3] [o 2 (.val (.const (.ptr none))), o 3 (.val (n 15))])
  (.live [2, 3] (.ret))) (.skip)) [0, 4, 6, 15, 16, 17]))
  (.after (.region [⟨true, [], [v 36 4, o 37 (.nilcheck (t 36)), o 38 (.faddr (t 37) 0), o 39 (.load none (t 38)), o 40 (.faddr (t 6) 0), o 41 (.load none (t 40)), o 42 (.faddr (t 6) 1), o 43 (.load none (t 42))]⟩, ⟨false, [], [u (.ext (.mapupd (.one .s)) [t 39, t 41, t 43])]⟩]) [0, 4, 15, 16, 17])))) [0, 4, 15, 16, 17])
  (R [0, 4, 15, 16, 17] [o 44 (.bin .add (t 17) (n 1)), v 17 44]))))
def code49 : AFunc := ⟨false, false, 1, 81, [.tmp 2, .tmp 3],
  .seq (R [0] [o 2 (.val (.const (.ptr none))), o 3 (.val (n 0))])
  (.seq (R [0, 4] [o 11 (.callg 284 []), v 4 11])
  (.seq (.seq (R [0, 4, 14] [v 12 0, o 13 (.len .sl (t 12)), o 14 (.bin .gtr (t 13) (n 32))])
  (.after (.cond (t 14) (.seq (R [2, 3] [o 2 (.val (.const (.ptr none))), o 3 (.val (n 15))])
  (.live [2, 3] (.ret))) (.skip)) [0, 4]))
  (.seq (.seq (R [0, 4, 15, 16, 17] [v 15 0, o 16 (.len .sl (t 15)), o 17 (.val (n 0))])
  (.after (.block 0 (.loop code49L2)) [0, 4]))
  (.seq (.seq (R [0, 4, 45, 46, 47] [v 45 0, o 46 (.len .sl (t 45)), o 47 (.val (n 0))])
  (.after (.block 2 (.loop code49L1)) [0, 4]))
  (.seq (.seq (R [4, 69, 70, 71] [v 69 0, o 70 (.len .sl (t 69)), o 71 (.val (n 0))])
  (.after (.block 4 (.loop code49L0)) [4]))
  (.seq (R [2, 3] [v 80 4, v 2 80, o 3 (.val (n 0))])
  (.live [2, 3] (.ret)))))))), none⟩
def code50 : AFunc := ⟨true, false, 0, 52, [.tmp 0],
  .seq (R [] [o 0 (.val F)])
  (.seq (R [1, 2] [o 8 (.callg 49 [.const (.slice none 0 (some 0))]), v 7 8, o 9 (.extract (t 7) 0), o 10 (.extract (t 7) 1), v 1 9, v 2 10])
  (.seq (R [1, 2, 4] [o 12 (.build [.str [], .str [], .slice none 0 (some 0), .slice none 0 (some 0)] [(0, 1, .const (.str [79, 98, 106, 101, 99, 116])), (1, 1, .const (.str [79, 98, 106, 101, 99, 116]))]), o 13 (.mkslice 4 1 [.str [], .str [], .slice none 0 (some 0), .slice none 0 (some 0)] [(0, 4, t 12)]), o 14 (.callg 49 [t 13]), v 11 14, o 15 (.extract (t 11) 0), o 16 (.extract (t 11) 1), v 3 15, v 4 16])
  (.seq (R [1, 2, 4, 5, 6] [v 18 1, o 19 (.callg 96 [t 18, .const (.str [84, 104, 114, 111, 119, 97, 98, 108, 101])]), v 17 19, o 20 (.extract (t 17) 0), o 21 (.extract (t 17) 1), v 5 20, v 6 21])
  (.seq (R [0] [v 22 2, o 23 (.bin .eql (t 22) (n 0)), v 24 23, g 25 24 true (.val (t 4)), g 26 24 true (.bin .eql (t 25) (n 15)), o 27 (.pick (t 24) (t 26) F), v 28 27, g 29 28 true (.val (t 5)), g 30 28 true (.bin .eql (t 29) (.const (.str [79, 98, 106, 101, 99, 116]))), o 31 (.pick (t 28) (t 30) F), v 32 31, g 33 32 true (.val (t 6)), o 34 (.pick (t 32) (t 33) F), v 35 34, g 36 35 true (.val (t 1)), g 37 35 true (.callg 52 [t 36, .const (.str [84, 104, 114, 111, 119, 97, 98, 108, 101]), .const (.str [79, 98, 106, 101, 99, 116])]), o 38 (.pick (t 35) (t 37) F), v 39 38, g 40 39 true (.val (t 1)), g 41 39 true (.callg 47 [t 40, .const (.str [78]), .const (.str [91, 73])]), o 42 (.pick (t 39) (t 41) F), v 43 42, g 44 43 true (.val (t 1)), g 45 43 true (.callg 47 [t 44, .const (.str [91, 73]), .const (.str [91, 66])]), g 46 43 true (.un .not (t 45)), o 47 (.pick (t 43) (t 46) F), v 48 47, g 49 48 true (.val (t 1)), g 50 48 true (.callg 95 [t 49, .const (.str [115, 121, 115]), .const (.str [112, 114, 105, 110, 116]), .const (.str [40, 73, 41, 86])]), o 51 (.pick (t 48) (t 50) F), v 0 51])
  (.live [0] (.ret)))))), none⟩
def rcode320a : ACode :=
  R [5, 6, 7] [v 7 13]
def rcode320b : ACode :=
  .after (.block 1 (.seq (R [6, 16] [v 14 7, o 15 (.load none (t 5)), o 16 (.bin .eql (t 14) (t 15))])
  (.after (.cond (t 16) (.seq (R [] [u (.store 1 (t 6) Y)])
  (.live [] (.ret))) (.skip)) []))) []
def round320 : ARound := ⟨[13], rcode320a, rcode320b⟩
def code320 : AFunc := ⟨false, false, 0, 0, [], .skip, some (.round round320)⟩
def code52 : AFunc := ⟨false, false, 3, 17, [.cell 6 none],
  .seq (R [0, 1, 5, 6] [o 5 (.box (t 2)), o 6 (.alloc 1 [.bool false])])
  (.seq (.seq (R [0, 1, 5, 6, 9] [v 8 0, o 9 (.eqnil .ptr false (t 8) (.const (.ptr none)))])
  (.after (.cond (t 9) (.seq (R [6] [u (.store 1 (t 6) F)])
  (.live [6] (.ret))) (.skip)) [0, 1, 5, 6]))
  (.seq (.seq (R [5, 6, 12] [v 10 0, v 11 1, o 12 (.callg 156 [t 10, t 11])])
  (.after (.block 0 (.after (.rangeFunc (t 12) 320 [5, 6] [13] rcode320a rcode320b) [6])) [6]))
  (.seq (R [6] [u (.store 1 (t 6) F)])
  (.live [6] (.ret))))), none⟩
def code54 : AFunc := ⟨false, false, 2, 14, [.tmp 4],
  .seq (R [0, 1] [o 4 (.val F)])
  (.seq (R [6] [v 8 0, v 9 1, o 10 (.callg 96 [t 8, t 9]), v 7 10, o 11 (.extract (t 7) 0), o 12 (.extract (t 7) 1), v 5 11, v 6 12])
  (.seq (R [4] [v 13 6, v 4 13])
  (.live [4] (.ret)))), none⟩
def code95 : AFunc := ⟨false, false, 4, 22, [.tmp 8],
  .seq (R [0, 1, 2, 3] [o 8 (.val F)])
  (.seq (R [8] [v 9 0, o 10 (.eqnil .ptr true (t 9) (.const (.ptr none))), v 11 10, g 12 11 true (.val (t 0)), g 13 11 true (.nilcheck (t 12)), g 14 11 true (.faddr (t 13) 3), g 15 11 true (.load none (t 14)), g 16 11 true (.val (t 1)), g 17 11 true (.val (t 2)), g 18 11 true (.val (t 3)), g 19 11 true (.build [.str [], .str [], .str []] [(0, 1, t 16), (1, 1, t 17), (2, 1, t 18)]), g 20 11 true (.ext (.lookup (.agg [.s, .s, .s]) (.bool false) false) [t 15, t 19]), o 21 (.pick (t 11) (t 20) F), v 8 21])
  (.live [8] (.ret))), none⟩
def code96 : AFunc := ⟨false, false, 2, 21, [.tmp 4, .tmp 5],
  .seq (R [0, 1] [o 4 (.val (.const (.str []))), o 5 (.val F)])
  (.seq (.seq (R [0, 1, 9] [v 8 0, o 9 (.eqnil .ptr false (t 8) (.const (.ptr none)))])
  (.after (.cond (t 9) (.seq (R [4, 5] [o 4 (.val (.const (.str []))), o 5 (.val F)])
  (.live [4, 5] (.ret))) (.skip)) [0, 1]))
  (.seq (R [6, 7] [v 11 0, o 12 (.nilcheck (t 11)), o 13 (.faddr (t 12) 0), o 14 (.load none (t 13)), v 15 1, o 16 (.ext (.lookup (.one .s) (.str []) true) [t 14, t 15]), v 10 16, o 17 (.extract (t 10) 0), o 18 (.extract (t 10) 1), v 6 17, v 7 18])
  (.seq (R [4, 5] [v 19 6, v 20 7, v 4 19, v 5 20])
  (.live [4, 5] (.ret))))), none⟩
def rcode322a : ACode :=
  R [2, 4, 6, 7] [v 7 21]
def rcode322b : ACode :=
  .after (.block 3 (.seq (.after (.region [⟨true, [], [o 23 (.load none (t 2)), o 24 (.nilcheck (t 23)), o 25 (.faddr (t 24) 2), o 26 (.load none (t 25)), v 27 7, o 28 (.faddr (t 6) 1), o 29 (.load none (t 28)), o 30 (.faddr (t 6) 2), o 31 (.load none (t 30)), o 32 (.build [.str [], .str [], .str []] [(0, 1, t 27), (1, 1, t 29), (2, 1, t 31)]), o 33 (.ext (.lookup (.agg [.s, .s, .s]) (.agg [.str [], .bool false]) true) [t 26, t 32]), v 22 33, o 34 (.extract (t 22) 0), o 35 (.extract (t 22) 1), o 8 (.lalloc [.str [], .bool false]), u (.store 2 (t 8) (t 34))]⟩, ⟨false, [], [v 9 35]⟩]) [4, 6, 8, 9])
  (.seq (R [4, 43] [v 36 9, v 37 36, g 38 37 true (.faddr (t 8) 1), g 39 37 true (.load none (t 38)), g 40 37 true (.faddr (t 6) 0), g 41 37 true (.load none (t 40)), g 42 37 true (.beq true (t 39) (t 41)), o 43 (.pick (t 37) (t 42) F)])
  (.after (.cond (t 43) (.seq (R [] [u (.store 1 (t 4) F)])
  (.live [] (.ret))) (.skip)) [])))) []
def round322 : ARound := ⟨[21], rcode322a, rcode322b⟩
def code322 : AFunc := ⟨false, false, 0, 0, [], .skip, some (.round round322)⟩
def code97L1 : ACode :=
  .live [2, 3, 4, 11, 12, 13] (.seq (R [2, 3, 4, 11, 12, 13, 14] [o 14 (.bin .lss (t 13) (t 12))])
  (.seq (.after (.cond (t 14) (.skip) (.live [4] (.exit 0))) [2, 3, 4, 11, 12, 13])
  (.seq (.after (.block 1 (.seq (R [2, 3, 4, 6, 11, 12, 13] [o 15 (.iaddr 8 (t 11) (t 13)), o 16 (.load (some 8) (t 15)), o 6 (.alloc 8 [.bool false, .str [], .str [], .int .i64 0, .int .i64 0, .slice none 0 (some 0), .slice none 0 (some 0), .slice none 0 (some 0)]), u (.store 8 (t 6) (t 16))])
  (.seq (R [2, 3, 4, 6, 11, 12, 13, 20] [o 17 (.load none (t 2)), o 18 (.faddr (t 3) 0), o 19 (.load none (t 18)), o 20 (.callg 156 [t 17, t 19])])
  (.after (.block 2 (.after (.rangeFunc (t 20) 322 [2, 4, 6] [21] rcode322a rcode322b) [2, 3, 4, 11, 12, 13])) [2, 3, 4, 11, 12, 13])))) [2, 3, 4, 11, 12, 13])
  (R [2, 3, 4, 11, 12, 13] [o 44 (.bin .add (t 13) (n 1)), v 13 44]))))
def code97 : AFunc := ⟨false, false, 2, 45, [.cell 4 none],
  .seq (R [2, 3, 4] [o 2 (.box (t 0)), o 3 (.lbox (t 1)), o 4 (.alloc 1 [.bool false])])
  (.seq (.seq (R [2, 3, 4, 11, 12, 13] [o 10 (.faddr (t 3) 3), o 11 (.load none (t 10)), o 12 (.len .sl (t 11)), o 13 (.val (n 0))])
  (.after (.block 0 (.loop code97L1)) [4]))
  (.seq (R [4] [u (.store 1 (t 4) Y)])
  (.live [4] (.ret)))), none⟩
def rcode321a : ACode :=
  R [5, 6, 7] [v 7 11]
def rcode321b : ACode :=
  .after (.block 1 (.after (.region [⟨true, [0, 0, 2, 1], [v 12 7, o 13 (.load none (t 6)), o 14 (.bin .add (t 13) (n 1)), u (.ext (.hstore 1) [t 5, t 12])]⟩, ⟨false, [], [u (.store 1 (t 6) (t 14))]⟩]) [])) []
def round321 : ARound := ⟨[11], rcode321a, rcode321b⟩
def code321 : AFunc := ⟨false, false, 0, 0, [], .skip, some (.round round321)⟩
def code98 : AFunc := ⟨false, false, 2, 21, [.tmp 4],
  .seq (R [0, 1] [o 4 (.val F)])
  (.seq (R [0, 1, 5, 6] [o 5 (.alloc 1 [.str []]), o 6 (.alloc 1 [.int .i64 0]), u (.store 1 (t 5) (.const (.str []))), u (.store 1 (t 6) (n 0))])
  (.seq (.seq (R [5, 6, 10] [v 8 0, v 9 1, o 10 (.callg 156 [t 8, t 9])])
  (.after (.block 0 (.after (.rangeFunc (t 10) 321 [5, 6] [11] rcode321a rcode321b) [5, 6])) [5, 6]))
  (.seq (R [4] [o 15 (.load none (t 5)), o 16 (.bin .eql (t 15) (.const (.str [79, 98, 106, 101, 99, 116]))), v 17 16, g 18 17 true (.load none (t 6)), g 19 17 true (.bin .gtr (t 18) (n 1)), o 20 (.pick (t 17) (t 19) F), v 4 20])
  (.live [4] (.ret))))), none⟩
def code99L0 : ACode :=
  .live [0, 3, 5, 10, 11, 12] (.seq (R [0, 3, 5, 10, 11, 12, 13] [o 13 (.bin .lss (t 12) (t 11))])
  (.seq (.after (.cond (t 13) (.skip) (.live [] (.exit 0))) [0, 3, 5, 10, 11, 12])
  (.seq (.after (.block 1 (.seq (R [0, 3, 5, 7, 10, 11, 12] [o 14 (.iaddr 3 (t 10) (t 12)), o 15 (.load (some 3) (t 14)), o 7 (.lalloc [.bool false, .str [], .str []]), u (.store 3 (t 7) (t 15))])
  (.seq (.seq (R [0, 3, 5, 7, 10, 11, 12, 38] [o 16 (.faddr (t 7) 1), o 17 (.load none (t 16)), o 18 (.callg 181 [t 17]), o 19 (.un .not (t 18)), v 20 19, g 21 20 false (.faddr (t 7) 2), g 22 20 false (.load none (t 21)), g 23 20 false (.callg 27 [t 22]), g 24 20 false (.un .not (t 23)), o 25 (.pick (t 20) Y (t 24)), v 26 25, g 27 26 false (.val (t 0)), g 28 26 false (.faddr (t 7) 2), g 29 26 false (.load none (t 28)), g 30 26 false (.callg 103 [t 27, t 29]), g 31 26 false (.un .not (t 30)), o 32 (.pick (t 26) Y (t 31)), v 33 32, g 34 33 false (.val (t 5)), g 35 33 false (.faddr (t 7) 1), g 36 33 false (.load none (t 35)), g 37 33 false (.ext (.lookup (.one .s) (.bool false) false) [t 34, t 36]), o 38 (.pick (t 33) Y (t 37))])
  (.after (.cond (t 38) (.seq (R [4] [o 4 (.val F)])
  (.live [4] (.ret))) (.skip)) [0, 3, 5, 7, 10, 11, 12]))
  (.seq (R [0, 3, 5, 7, 10, 11, 12] [v 39 5, o 40 (.faddr (t 7) 1), o 41 (.load none (t 40)), u (.ext (.mapupd (.one .s)) [t 39, t 41, .const (.bool true)])])
  (.after (.region [⟨true, [], [v 42 0, o 43 (.nilcheck (t 42)), o 44 (.faddr (t 43) 1), o 45 (.load none (t 44)), o 46 (.faddr (t 3) 0), o 47 (.load none (t 46)), o 48 (.faddr (t 7) 1), o 49 (.load none (t 48)), o 50 (.faddr (t 7) 2), o 51 (.load none (t 50)), o 52 (.build [.str [], .str [], .str []] [(0, 1, t 47), (1, 1, t 49), (2, 1, t 51)]), o 53 (.faddr (t 3) 0), o 54 (.load none (t 53)), o 55 (.faddr (t 7) 0), o 56 (.load none (t 55)), o 57 (.build [.str [], .bool false] [(0, 1, t 54), (1, 1, t 56)])]⟩, ⟨false, [], [u (.ext (.mapupd (.agg [.s, .s, .s])) [t 45, t 52, t 57])]⟩]) [0, 3, 5, 10, 11, 12]))))) [0, 3, 5, 10, 11, 12])
  (R [0, 3, 5, 10, 11, 12] [o 58 (.bin .add (t 12) (n 1)), v 12 58]))))
def code99 : AFunc := ⟨false, false, 2, 59, [.tmp 4],
  .seq (R [0, 3] [o 3 (.lbox (t 1)), o 4 (.val F)])
  (.seq (R [0, 3, 5] [o 8 (.ext .mkmap []), v 5 8])
  (.seq (.seq (R [0, 3, 5, 10, 11, 12] [o 9 (.faddr (t 3) 2), o 10 (.load none (t 9)), o 11 (.len .sl (t 10)), o 12 (.val (n 0))])
  (.after (.block 0 (.loop code99L0)) []))
  (.seq (R [4] [o 4 (.val Y)])
  (.live [4] (.ret))))), none⟩
def code100L0 : ACode :=
  .live [0, 3, 11, 12, 13] (.seq (R [0, 3, 11, 12, 13, 14] [o 14 (.bin .lss (t 13) (t 12))])
  (.seq (.after (.cond (t 14) (.skip) (.live [] (.exit 0))) [0, 3, 11, 12, 13])
  (.seq (.after (.block 1 (.seq (R [0, 3, 6, 11, 12, 13] [o 15 (.iaddr 8 (t 11) (t 13)), o 16 (.load (some 8) (t 15)), o 6 (.lalloc [.bool false, .str [], .str [], .int .i64 0, .int .i64 0, .slice none 0 (some 0), .slice none 0 (some 0), .slice none 0 (some 0)]), u (.store 8 (t 6) (t 16))])
  (.seq (R [0, 3, 6, 7, 11, 12, 13] [o 17 (.faddr (t 3) 0), o 18 (.load none (t 17)), o 19 (.faddr (t 6) 1), o 20 (.load none (t 19)), o 21 (.faddr (t 6) 2), o 22 (.load none (t 21)), o 23 (.build [.str [], .str [], .str []] [(0, 1, t 18), (1, 1, t 20), (2, 1, t 22)]), o 7 (.lalloc [.str [], .str [], .str []]), u (.store 3 (t 7) (t 23))])
  (.seq (.seq (.after (.region [⟨true, [], [v 25 0, o 26 (.nilcheck (t 25)), o 27 (.faddr (t 26) 2), o 28 (.load none (t 27)), o 29 (.load (some 3) (t 7)), o 30 (.ext (.lookup (.agg [.s, .s, .s]) (.agg [.str [], .bool false]) true) [t 28, t 29]), v 24 30, o 31 (.extract (t 24) 0), o 32 (.extract (t 24) 1), o 8 (.lalloc [.str [], .bool false]), u (.store 2 (t 8) (t 31))]⟩, ⟨false, [], [v 9 32]⟩]) [0, 3, 6, 7, 9, 11, 12, 13])
  (.seq (R [0, 3, 6, 7, 11, 12, 13, 39] [v 33 9, v 34 33, g 35 34 false (.val (t 0)), g 36 34 false (.load (some 8) (t 6)), g 37 34 false (.callg 182 [t 35, t 36]), g 38 34 false (.un .not (t 37)), o 39 (.pick (t 34) Y (t 38))])
  (.after (.cond (t 39) (.seq (R [4] [o 4 (.val F)])
  (.live [4] (.ret))) (.skip)) [0, 3, 6, 7, 11, 12, 13])))
  (.after (.region [⟨true, [], [v 40 0, o 41 (.nilcheck (t 40)), o 42 (.faddr (t 41) 2), o 43 (.load none (t 42)), o 44 (.load (some 3) (t 7)), o 45 (.faddr (t 3) 0), o 46 (.load none (t 45)), o 47 (.faddr (t 6) 0), o 48 (.load none (t 47)), o 49 (.build [.str [], .bool false] [(0, 1, t 46), (1, 1, t 48)])]⟩, ⟨false, [], [u (.ext (.mapupd (.agg [.s, .s, .s])) [t 43, t 44, t 49])]⟩]) [0, 3, 11, 12, 13]))))) [0, 3, 11, 12, 13])
  (R [0, 3, 11, 12, 13] [o 50 (.bin .add (t 13) (n 1)), v 13 50]))))
def code100 : AFunc := ⟨false, false, 2, 51, [.tmp 4],
  .seq (R [0, 3] [o 3 (.lbox (t 1)), o 4 (.val F)])
  (.seq (.seq (R [0, 3, 11, 12, 13] [o 10 (.faddr (t 3) 3), o 11 (.load none (t 10)), o 12 (.len .sl (t 11)), o 13 (.val (n 0))])
  (.after (.block 0 (.loop code100L0)) []))
  (.seq (R [4] [o 4 (.val Y)])
  (.live [4] (.ret)))), none⟩
def code103 : AFunc := ⟨false, false, 2, 20, [.tmp 4],
  .seq (R [0, 1] [o 4 (.val F)])
  (.seq (R [0, 5, 6] [v 8 1, o 9 (.callg 139 [t 8, .const (.str [91])]), o 10 (.callg 34 [t 9]), v 7 10, o 11 (.extract (t 7) 0), o 12 (.extract (t 7) 1), v 5 11, v 6 12])
  (.seq (R [4] [v 13 6, o 14 (.un .not (t 13)), v 15 14, g 16 15 false (.val (t 0)), g 17 15 false (.val (t 5)), g 18 15 false (.callg 54 [t 16, t 17]), o 19 (.pick (t 15) Y (t 18)), v 4 19])
  (.live [4] (.ret)))), none⟩
def code155L0 : ACode :=
  .live [0, 1, 2, 10, 11] (.seq (R [0, 1, 2, 10, 11, 12] [o 12 (.bin .lss (t 11) (t 10))])
  (.seq (.after (.cond (t 12) (.skip) (.live [] (.exit 0))) [0, 1, 2, 10, 11])
  (.seq (.after (.block 1 (.seq (.after (.region [⟨true, [], [o 14 (.load none (t 1)), o 15 (.nilcheck (t 14)), o 16 (.faddr (t 15) 0), o 17 (.load none (t 16)), o 18 (.load none (t 2))]⟩, ⟨false, [], [o 19 (.ext (.lookup (.one .s) (.str []) true) [t 17, t 18]), v 13 19]⟩, ⟨true, [], [o 20 (.extract (t 13) 0), o 21 (.extract (t 13) 1), v 4 20]⟩, ⟨false, [], [v 5 21]⟩]) [0, 1, 2, 4, 5, 10, 11])
  (.seq (.seq (R [0, 1, 2, 4, 10, 11, 29] [v 22 5, o 23 (.un .not (t 22)), v 24 23, g 25 24 false (.val (t 0)), g 26 24 false (.load none (t 2)), g 27 24 false (.call (t 25) [t 26]), g 28 24 false (.un .not (t 27)), o 29 (.pick (t 24) Y (t 28))])
  (.after (.cond (t 29) (.live [] (.ret)) (.skip)) [0, 1, 2, 4, 10, 11]))
  (R [0, 1, 2, 10, 11] [v 30 4, u (.store 1 (t 2) (t 30))])))) [0, 1, 2, 10, 11])
  (R [0, 1, 2, 10, 11] [o 31 (.bin .add (t 11) (n 1)), v 11 31]))))
def code155 : AFunc := ⟨false, false, 3, 32, [],
  .seq (R [0, 1, 2, 10, 11] [o 6 (.load none (t 1)), o 7 (.nilcheck (t 6)), o 8 (.faddr (t 7) 0), o 9 (.load none (t 8)), o 10 (.len .map (t 9)), o 11 (.val (n 0))])
  (.after (.block 0 (.loop code155L0)) []), none⟩
def code156 : AFunc := ⟨false, false, 2, 6, [.tmp 4],
  .seq (R [2, 3] [o 2 (.box (t 0)), o 3 (.box (t 1)), o 4 (.val (.const (.nilFunc)))])
  (.seq (R [4] [o 5 (.mkfunc 155 [] [t 2, t 3]), v 4 5])
  (.live [4] (.ret))), none⟩
def code179 : AFunc := ⟨false, false, 0, 10, [.cell 0 (some 16)],
  .seq (R [0] [o 0 (.lalloc [.str [], .str [], .str [], .str [], .str [], .str [], .str [], .str [], .str [], .str [], .str [], .str [], .str [], .str [], .str [], .str []])])
  (.seq (R [0] [o 1 (.build [.str [], .str []] [(0, 1, .const (.str [112, 114, 105, 110, 116])), (1, 1, .const (.str [40, 73, 41, 86]))]), o 2 (.build [.str [], .str []] [(0, 1, .const (.str [112, 114, 105, 110, 116, 76, 111, 110, 103])), (1, 1, .const (.str [40, 74, 41, 86]))]), o 3 (.build [.str [], .str []] [(0, 1, .const (.str [112, 114, 105, 110, 116, 84, 101, 120, 116])), (1, 1, .const (.str [40, 91, 66, 41, 86]))]), o 4 (.build [.str [], .str []] [(0, 1, .const (.str [97, 100, 100])), (1, 1, .const (.str [40, 91, 66, 41, 73]))]), o 5 (.build [.str [], .str []] [(0, 1, .const (.str [103, 101, 116])), (1, 1, .const (.str [40, 73, 41, 91, 66]))]), o 6 (.build [.str [], .str []] [(0, 1, .const (.str [115, 101, 116])), (1, 1, .const (.str [40, 73, 91, 66, 41, 86]))]), o 7 (.build [.str [], .str []] [(0, 1, .const (.str [100, 101, 108])), (1, 1, .const (.str [40, 73, 41, 86]))]), o 8 (.build [.str [], .str []] [(0, 1, .const (.str [99, 111, 117, 110, 116])), (1, 1, .const (.str [40, 41, 73]))]), o 9 (.build [.str [], .str [], .str [], .str [], .str [], .str [], .str [], .str [], .str [], .str [], .str [], .str [], .str [], .str [], .str [], .str []] [(0, 2, t 1), (2, 2, t 2), (4, 2, t 3), (6, 2, t 4), (8, 2, t 5), (10, 2, t 6), (12, 2, t 7), (14, 2, t 8)]), u (.store 16 (t 0) (t 9))])
  (.live [0] (.ret))), none⟩
def code181 : AFunc := ⟨false, false, 1, 10, [.tmp 2],
  .seq (R [0] [o 2 (.val F)])
  (.seq (R [2] [v 3 0, o 4 (.callg 180 [t 3, .const (.str [47])]), o 5 (.un .not (t 4)), v 6 5, g 7 6 true (.val (t 0)), g 8 6 true (.callg 25 [t 7]), o 9 (.pick (t 6) (t 8) F), v 2 9])
  (.live [2] (.ret))), none⟩
def code182L0 : ACode :=
  .live [0, 42, 43, 44] (.seq (R [0, 42, 43, 44, 45] [o 45 (.bin .lss (t 44) (t 43))])
  (.seq (.after (.cond (t 45) (.skip) (.live [] (.exit 2))) [0, 42, 43, 44])
  (.seq (.after (.block 3 (.seq (R [0, 11, 42, 43, 44] [o 46 (.iaddr 4 (t 42) (t 44)), o 47 (.load (some 4) (t 46)), o 11 (.lalloc [.int .i64 0, .int .i64 0, .int .i64 0, .str []]), u (.store 4 (t 11) (t 47))])
  (.seq (R [0, 42, 43, 44, 57] [o 48 (.faddr (t 11) 3), o 49 (.load none (t 48)), o 50 (.bin .neq (t 49) (.const (.str []))), v 51 50, g 52 51 true (.val (t 0)), g 53 51 true (.faddr (t 11) 3), g 54 51 true (.load none (t 53)), g 55 51 true (.callg 54 [t 52, t 54]), g 56 51 true (.un .not (t 55)), o 57 (.pick (t 51) (t 56) F)])
  (.after (.cond (t 57) (.seq (R [4] [o 4 (.val F)])
  (.live [4] (.ret))) (.skip)) [0, 42, 43, 44])))) [0, 42, 43, 44])
  (R [0, 42, 43, 44] [o 58 (.bin .add (t 44) (n 1)), v 44 58]))))
def code182L1 : ACode :=
  .live [0, 3, 30, 31, 32] (.seq (R [0, 3, 30, 31, 32, 33] [o 33 (.bin .lss (t 32) (t 31))])
  (.seq (.after (.cond (t 33) (.skip) (.live [0, 3] (.exit 0))) [0, 3, 30, 31, 32])
  (.seq (.after (.block 1 (.seq (R [0, 3, 9, 30, 31, 32] [o 34 (.iaddr 1 (t 30) (t 32)), o 35 (.load none (t 34)), v 9 35])
  (.seq (R [0, 3, 30, 31, 32, 39] [v 36 0, v 37 9, o 38 (.callg 103 [t 36, t 37]), o 39 (.un .not (t 38))])
  (.after (.cond (t 39) (.seq (R [4] [o 4 (.val F)])
  (.live [4] (.ret))) (.skip)) [0, 3, 30, 31, 32])))) [0, 3, 30, 31, 32])
  (R [0, 3, 30, 31, 32] [o 40 (.bin .add (t 32) (n 1)), v 32 40]))))
def code182 : AFunc := ⟨false, false, 2, 59, [.tmp 4],
  .seq (R [0, 3] [o 3 (.lbox (t 1)), o 4 (.val F)])
  (.seq (R [0, 3, 5, 6, 7] [o 13 (.faddr (t 3) 2), o 14 (.load none (t 13)), o 15 (.callg 38 [t 14]), v 12 15, o 16 (.extract (t 12) 0), o 17 (.extract (t 12) 1), o 18 (.extract (t 12) 2), v 5 16, v 6 17, v 7 18])
  (.seq (.seq (R [0, 3, 5, 6, 26] [v 19 7, o 20 (.bin .neq (t 19) (n 0)), v 21 20, g 22 21 false (.faddr (t 3) 1), g 23 21 false (.load none (t 22)), g 24 21 false (.callg 181 [t 23]), g 25 21 false (.un .not (t 24)), o 26 (.pick (t 21) Y (t 25))])
  (.after (.cond (t 26) (.seq (R [4] [o 4 (.val F)])
  (.live [4] (.ret))) (.skip)) [0, 3, 5, 6]))
  (.seq (.seq (R [0, 3, 30, 31, 32] [v 27 5, v 28 6, o 29 (.mkslice 1 1 [.str []] [(0, 1, t 28)]), o 30 (.append 1 16 (t 27) (t 29)), o 31 (.len .sl (t 30)), o 32 (.val (n 0))])
  (.after (.block 0 (.loop code182L1)) [0, 3]))
  (.seq (.seq (R [0, 42, 43, 44] [o 41 (.faddr (t 3) 6), o 42 (.load none (t 41)), o 43 (.len .sl (t 42)), o 44 (.val (n 0))])
  (.after (.block 2 (.loop code182L0)) []))
  (.seq (R [4] [o 4 (.val Y)])
  (.live [4] (.ret))))))), none⟩
def code284L0 : ACode :=
  .live [1, 24, 25] (.seq (R [1, 24, 25, 26] [o 26 (.bin .lss (t 25) (n 8))])
  (.seq (.after (.cond (t 26) (.skip) (.live [1] (.exit 2))) [1, 24, 25])
  (.seq (.after (.block 3 (.seq (R [1, 5, 24, 25] [o 27 (.aindex 8 2 (some 2) (t 24) (t 25)), o 5 (.lalloc [.str [], .str []]), u (.store 2 (t 5) (t 27))])
  (.seq (R [1, 6, 24, 25] [o 28 (.aaddr 2 1 (t 5) (n 0)), o 29 (.load none (t 28)), o 30 (.aaddr 2 1 (t 5) (n 1)), o 31 (.load none (t 30)), o 32 (.build [.str [], .str [], .str []] [(0, 1, .const (.str [115, 121, 115])), (1, 1, t 29), (2, 1, t 31)]), o 6 (.lalloc [.str [], .str [], .str []]), u (.store 3 (t 6) (t 32))])
  (.seq (.after (.region [⟨true, [], [v 33 1, o 34 (.nilcheck (t 33)), o 35 (.faddr (t 34) 2), o 36 (.load none (t 35)), o 37 (.load (some 3) (t 6)), o 38 (.build [.str [], .bool false] [(0, 1, .const (.str [115, 121, 115])), (1, 1, .const (.bool true))])]⟩, ⟨false, [], [u (.ext (.mapupd (.agg [.s, .s, .s])) [t 36, t 37, t 38])]⟩]) [1, 6, 24, 25])
  (.after (.region [⟨true, [], [v 39 1, o 40 (.nilcheck (t 39)), o 41 (.faddr (t 40) 3), o 42 (.load none (t 41)), o 43 (.load (some 3) (t 6))]⟩, ⟨false, [], [u (.ext (.mapupd (.agg [.s, .s, .s])) [t 42, t 43, .const (.bool true)])]⟩]) [1, 24, 25]))))) [1, 24, 25])
  (R [1, 24, 25] [o 44 (.bin .add (t 25) (n 1)), v 25 44]))))
def code284L1 : ACode :=
  .live [1, 14, 15] (.seq (R [1, 14, 15, 16] [o 16 (.bin .lss (t 15) (n 6))])
  (.seq (.after (.cond (t 16) (.skip) (.live [1] (.exit 0))) [1, 14, 15])
  (.seq (.after (.block 1 (.seq (R [1, 3, 14, 15] [o 17 (.aindex 6 1 none (t 14) (t 15)), v 3 17])
  (R [1, 14, 15] [v 18 1, o 19 (.nilcheck (t 18)), o 20 (.faddr (t 19) 0), o 21 (.load none (t 20)), v 22 3, u (.ext (.mapupd (.one .s)) [t 21, t 22, .const (.str [84, 104, 114, 111, 119, 97, 98, 108, 101])])]))) [1, 14, 15])
  (R [1, 14, 15] [o 23 (.bin .add (t 15) (n 1)), v 15 23]))))
def code284 : AFunc := ⟨false, false, 0, 46, [.tmp 0],
  .seq (R [] [o 0 (.val (.const (.ptr none)))])
  (.seq (R [1] [o 7 (.ext .mkmap []), u (.ext (.mapupd (.one .s)) [t 7, .const (.str [79, 98, 106, 101, 99, 116]), .const (.str [])]), u (.ext (.mapupd (.one .s)) [t 7, .const (.str [84, 104, 114, 111, 119, 97, 98, 108, 101]), .const (.str [79, 98, 106, 101, 99, 116])]), u (.ext (.mapupd (.one .s)) [t 7, .const (.str [115, 121, 115]), .const (.str [79, 98, 106, 101, 99, 116])]), v 8 7, o 9 (.ext .mkmap []), o 10 (.ext .mkmap []), o 11 (.ext .mkmap []), o 12 (.build [.map none, .map none, .map none, .map none] [(0, 1, t 8), (1, 1, t 9), (2, 1, t 10), (3, 1, t 11)]), o 13 (.box (t 12)), v 1 13])
  (.seq (.seq (R [1, 14, 15] [o 14 (.build [.str [], .str [], .str [], .str [], .str [], .str []] [(0, 1, .const (.str [78, 117, 108, 108, 70, 97, 117, 108, 116])), (1, 1, .const (.str [66, 111, 117, 110, 100, 115, 70, 97, 117, 108, 116])), (2, 1, .const (.str [77, 97, 116, 104, 70, 97, 117, 108, 116])), (3, 1, .const (.str [67, 97, 115, 116, 70, 97, 117, 108, 116])), (4, 1, .const (.str [83, 105, 122, 101, 70, 97, 117, 108, 116])), (5, 1, .const (.str [83, 116, 111, 114, 101, 70, 97, 117, 108, 116]))]), o 15 (.val (n 0))])
  (.after (.block 0 (.loop code284L1)) [1]))
  (.seq (.seq (R [1, 24, 25] [o 24 (.callg 179 []), o 25 (.val (n 0))])
  (.after (.block 2 (.loop code284L0)) [1]))
  (.seq (R [0] [v 45 1, v 0 45])
  (.live [0] (.ret)))))), none⟩
def T : Nat → Option AFunc := fun g => match AbsDesc.T g with
  | some f => some f
  | none => List.lookup g [(47, code47), (49, code49), (50, code50), (320, code320), (52, code52), (54, code54), (95, code95), (96, code96), (322, code322), (97, code97), (321, code321), (98, code98), (99, code99), (100, code100), (103, code103), (155, code155), (156, code156), (179, code179), (181, code181), (182, code182), (284, code284)]
theorem sub : ∀ g f, AbsDesc.T g = some f → T g = some f := fun g f h => by unfold T; rw [h]
theorem t47 : T 47 = some code47 := rfl
theorem t49 : T 49 = some code49 := rfl
theorem t50 : T 50 = some code50 := rfl
theorem t320 : T 320 = some code320 := rfl
theorem t52 : T 52 = some code52 := rfl
theorem t54 : T 54 = some code54 := rfl
theorem t95 : T 95 = some code95 := rfl
theorem t96 : T 96 = some code96 := rfl
theorem t322 : T 322 = some code322 := rfl
theorem t97 : T 97 = some code97 := rfl
theorem t321 : T 321 = some code321 := rfl
theorem t98 : T 98 = some code98 := rfl
theorem t99 : T 99 = some code99 := rfl
theorem t100 : T 100 = some code100 := rfl
theorem t103 : T 103 = some code103 := rfl
theorem t155 : T 155 = some code155 := rfl
theorem t156 : T 156 = some code156 := rfl
theorem t179 : T 179 = some code179 := rfl
theorem t181 : T 181 = some code181 := rfl
theorem t182 : T 182 = some code182 := rfl
theorem t284 : T 284 = some code284 := rfl
end Go.Abs.AbsHier

/-
  The code of the functions, for the abstract machine: printed by a program.
-/
namespace Go.Abs.AbsMake
set_option linter.unusedVariables false
set_option linter.unusedSimpArgs false
set_option maxRecDepth 100000
open Go.Abs.Short
-- base: AbsHier
def code48T0 : ACode :=
  .seq (R [2] [o 47 (.load (some 4) (t 3)), o 48 (.load (some 4) (t 4)), o 49 (.load (some 4) (t 5)), o 50 (.build [.str [], .str [], .slice none 0 (some 0), .slice none 0 (some 0)] [(0, 1, .const (.str [79, 111, 112, 115])), (1, 1, .const (.str [84, 104, 114, 111, 119, 97, 98, 108, 101]))]), o 51 (.mkslice 4 4 [.str [], .str [], .slice none 0 (some 0), .slice none 0 (some 0), .str [], .str [], .slice none 0 (some 0), .slice none 0 (some 0), .str [], .str [], .slice none 0 (some 0), .slice none 0 (some 0), .str [], .str [], .slice none 0 (some 0), .slice none 0 (some 0)] [(0, 4, t 47), (4, 4, t 48), (8, 4, t 49), (12, 4, t 50)]), v 2 51])
  (.live [2] (.ret))
def code48T1 : ACode :=
  .seq (.seq (R [0, 3, 4, 5, 42] [v 40 0, o 41 (.callg 102 [t 40, n 3]), o 42 (.bin .gtr (t 41) (n 0))])
  (.after (.cond (t 42) (R [3, 4, 5] [v 43 0, o 44 (.callg 101 [t 43, .const (.bool false), .const (.str [118]), n 0]), o 45 (.mkslice 8 1 [.bool false, .str [], .str [], .int .i64 0, .int .i64 0, .slice none 0 (some 0), .slice none 0 (some 0), .slice none 0 (some 0)] [(0, 8, t 44)]), o 46 (.faddr (t 5) 3), u (.store 1 (t 46) (t 45))]) (.skip)) [3, 4, 5]))
  (code48T0)
def code48T2 : ACode :=
  .seq (R [0, 3, 4, 5] [o 37 (.build [.bool false, .str [], .str []] [(1, 1, .const (.str [103])), (2, 1, .const (.str [73]))]), o 38 (.mkslice 3 1 [.bool false, .str [], .str []] [(0, 3, t 37)]), o 39 (.build [.str [], .str [], .slice none 0 (some 0), .slice none 0 (some 0)] [(0, 1, .const (.str [66])), (1, 1, .const (.str [65])), (2, 1, t 38)]), o 5 (.lalloc [.str [], .str [], .slice none 0 (some 0), .slice none 0 (some 0)]), u (.store 4 (t 5) (t 39))])
  (code48T1)
def code48T3 : ACode :=
  .seq (R [0, 3, 4] [o 29 (.build [.bool false, .str [], .str []] [(1, 1, .const (.str [102])), (2, 1, .const (.str [73]))]), o 30 (.build [.bool false, .str [], .str []] [(1, 1, .const (.str [108])), (2, 1, .const (.str [74]))]), o 31 (.build [.bool false, .str [], .str []] [(1, 1, .const (.str [110, 101, 120, 116])), (2, 1, .const (.str [76, 65, 59]))]), o 32 (.mkslice 3 3 [.bool false, .str [], .str [], .bool false, .str [], .str [], .bool false, .str [], .str []] [(0, 3, t 29), (3, 3, t 30), (6, 3, t 31)]), v 33 0, o 34 (.callg 101 [t 33, .const (.bool false), .const (.str [118]), n 0]), o 35 (.mkslice 8 1 [.bool false, .str [], .str [], .int .i64 0, .int .i64 0, .slice none 0 (some 0), .slice none 0 (some 0), .slice none 0 (some 0)] [(0, 8, t 34)]), o 36 (.build [.str [], .str [], .slice none 0 (some 0), .slice none 0 (some 0)] [(0, 1, .const (.str [65])), (1, 1, .const (.str [79, 98, 106, 101, 99, 116])), (2, 1, t 32), (3, 1, t 35)]), o 4 (.lalloc [.str [], .str [], .slice none 0 (some 0), .slice none 0 (some 0)]), u (.store 4 (t 4) (t 36))])
  (code48T2)
def code48T4 : ACode :=
  .seq (R [0, 3] [v 10 0, o 11 (.callg 101 [t 10, .const (.bool true), .const (.str [109, 97, 105, 110]), n 6]), o 12 (.build [.int .u8 0, .int .i64 0, .int .i64 0, .str [], .str [], .str [], .str []] [(0, 1, .const (.int .u8 21))]), v 13 0, o 14 (.callg 102 [t 13, n 7]), o 15 (.bin .add (n 2) (t 14)), o 16 (.conv (.int .u8) (t 15)), o 17 (.build [.int .u8 0, .int .i64 0, .int .i64 0, .str [], .str [], .str [], .str []] [(0, 1, t 16)]), o 18 (.mkslice 1 3 [.int .u8 0, .int .u8 0, .int .u8 0] [(0, 1, .const (.int .u8 100)), (1, 1, .const (.int .u8 108)), (2, 1, .const (.int .u8 112))]), v 19 0, o 20 (.callg 102 [t 19, n 3]), o 21 (.iaddr 1 (t 18) (t 20)), o 22 (.load none (t 21)), o 23 (.build [.int .u8 0, .int .i64 0, .int .i64 0, .str [], .str [], .str [], .str []] [(0, 1, t 22)]), o 24 (.build [.int .u8 0, .int .i64 0, .int .i64 0, .str [], .str [], .str [], .str []] [(0, 1, .const (.int .u8 172))]), o 25 (.mkslice 7 4 [.int .u8 0, .int .i64 0, .int .i64 0, .str [], .str [], .str [], .str [], .int .u8 0, .int .i64 0, .int .i64 0, .str [], .str [], .str [], .str [], .int .u8 0, .int .i64 0, .int .i64 0, .str [], .str [], .str [], .str [], .int .u8 0, .int .i64 0, .int .i64 0, .str [], .str [], .str [], .str []] [(0, 7, t 12), (7, 7, t 17), (14, 7, t 23), (21, 7, t 24)]), o 26 (.build [.bool false, .str [], .str [], .int .i64 0, .int .i64 0, .slice none 0 (some 0), .slice none 0 (some 0), .slice none 0 (some 0)] [(0, 1, .const (.bool true)), (1, 1, .const (.str [104, 101, 108, 112])), (2, 1, .const (.str [40, 73, 41, 73])), (3, 1, n 4), (4, 1, n 1), (5, 1, t 25)]), o 27 (.mkslice 8 2 [.bool false, .str [], .str [], .int .i64 0, .int .i64 0, .slice none 0 (some 0), .slice none 0 (some 0), .slice none 0 (some 0), .bool false, .str [], .str [], .int .i64 0, .int .i64 0, .slice none 0 (some 0), .slice none 0 (some 0), .slice none 0 (some 0)] [(0, 8, t 11), (8, 8, t 26)]), o 28 (.faddr (t 3) 3), u (.store 1 (t 28) (t 27))])
  (code48T3)
def code48 : AFunc := ⟨false, false, 1, 52, [.tmp 2],
  .seq (R [0] [o 2 (.val (.const (.slice none 0 (some 0))))])
  (.seq (R [0, 3] [o 6 (.build [.bool false, .str [], .str []] [(0, 1, .const (.bool true)), (1, 1, .const (.str [115])), (2, 1, .const (.str [73]))]), o 7 (.build [.bool false, .str [], .str []] [(0, 1, .const (.bool true)), (1, 1, .const (.str [111])), (2, 1, .const (.str [76, 65, 59]))]), o 8 (.mkslice 3 2 [.bool false, .str [], .str [], .bool false, .str [], .str []] [(0, 3, t 6), (3, 3, t 7)]), o 9 (.build [.str [], .str [], .slice none 0 (some 0), .slice none 0 (some 0)] [(0, 1, .const (.str [77, 97, 105, 110])), (1, 1, .const (.str [79, 98, 106, 101, 99, 116])), (2, 1, t 8)]), o 3 (.lalloc [.str [], .str [], .slice none 0 (some 0), .slice none 0 (some 0)]), u (.store 4 (t 3) (t 9))])
  (code48T4)), none⟩
def code101L0 : ACode :=
  .live [2, 8, 9, 12] (.seq (.seq (R [2, 8, 9, 12, 90] [v 89 12, o 90 (.bin .gtr (t 89) (n 0))])
  (.after (.cond (t 90) (.skip) (.live [2, 8, 9] (.exit 2))) [2, 8, 9, 12]))
  (.seq (.after (.block 3 (R [2, 8, 9, 12] [v 93 9, o 94 (.callg 152 [t 93])])) [2, 8, 9, 12])
  (R [2, 8, 9, 12] [v 91 12, o 92 (.bin .sub (t 91) (n 1)), v 12 92])))
def code101L1 : ACode :=
  .live [0, 2, 3, 8, 9, 43, 44, 45] (.seq (R [0, 2, 3, 8, 9, 43, 44, 45, 46] [o 46 (.bin .lss (t 45) (t 44))])
  (.seq (.after (.cond (t 46) (.skip) (.live [0, 2, 3, 8, 9] (.exit 0))) [0, 2, 3, 8, 9, 43, 44, 45])
  (.seq (.after (.block 1 (.seq (R [0, 2, 3, 8, 9, 11, 43, 44, 45] [o 47 (.iaddr 1 (t 43) (t 45)), o 48 (.load none (t 47)), v 11 48])
  (.seq (R [0, 2, 3, 8, 9, 11, 43, 44, 45] [v 49 9, v 50 0, o 51 (.callg 102 [t 50, n 4]), o 52 (.callg 153 [t 49, t 51])])
  (R [0, 2, 3, 8, 9, 43, 44, 45] [v 53 9, v 54 11, o 55 (.callg 150 [t 53, .const (.int .u8 54), t 54])])))) [0, 2, 3, 8, 9, 43, 44, 45])
  (R [0, 2, 3, 8, 9, 43, 44, 45] [o 56 (.bin .add (t 45) (n 1)), v 45 56]))))
def code101R0 : ACode :=
  .after (.region [⟨true, [], [v 99 2, v 100 9, o 101 (.nilcheck (t 100)), o 102 (.faddr (t 101) 1), o 103 (.load none (t 102)), v 104 9, o 105 (.nilcheck (t 104)), o 106 (.faddr (t 105) 2), o 107 (.load none (t 106)), v 108 9, o 109 (.nilcheck (t 108)), o 110 (.faddr (t 109) 3), o 111 (.load none (t 110))]⟩, ⟨false, [], [o 112 (.build [.bool false, .str [], .str [], .int .i64 0, .int .i64 0, .slice none 0 (some 0), .slice none 0 (some 0), .slice none 0 (some 0)] [(0, 1, .const (.bool true)), (1, 1, t 99), (2, 1, .const (.str [40, 73, 41, 73])), (3, 1, n 40), (4, 1, n 8), (5, 1, t 103), (6, 1, t 107), (7, 1, t 111)]), u (.store 8 (t 8) (t 112))]⟩]) [8]
def code101T0 : ACode :=
  .seq (.seq (R [2, 8, 9, 12] [v 85 0, v 86 3, o 87 (.callg 102 [t 85, t 86]), o 88 (.bin .add (n 1) (t 87)), v 12 88])
  (.after (.block 2 (.loop code101L0)) [2, 8, 9]))
  (.seq (R [2, 8, 9] [v 95 9, o 96 (.callg 151 [t 95, n 1])])
  (.seq (R [2, 8, 9] [v 97 9, o 98 (.callg 150 [t 97, .const (.int .u8 172), n 0])])
  (.seq (code101R0)
  (.live [8] (.ret)))))
def code101T1 : ACode :=
  .seq (R [0, 2, 3, 8, 9] [v 57 9, o 58 (.callg 150 [t 57, .const (.int .u8 10), n 0])])
  (.seq (R [0, 2, 3, 8, 9] [v 59 9, o 60 (.callg 150 [t 59, .const (.int .u8 55), n 3])])
  (.seq (R [0, 2, 3, 8, 9] [v 61 9, v 62 9, o 63 (.nilcheck (t 62)), o 64 (.faddr (t 63) 1), o 65 (.load none (t 64)), o 66 (.build [.int .u8 0, .int .i64 0, .int .i64 0, .str [], .str [], .str [], .str []] [(0, 1, .const (.int .u8 187)), (3, 1, .const (.str [65]))]), o 67 (.mkslice 7 1 [.int .u8 0, .int .i64 0, .int .i64 0, .str [], .str [], .str [], .str []] [(0, 7, t 66)]), o 68 (.append 7 88 (t 65) (t 67)), o 69 (.nilcheck (t 61)), o 70 (.faddr (t 69) 1), u (.store 1 (t 70) (t 68))])
  (.seq (R [0, 2, 3, 8, 9] [v 71 9, o 72 (.callg 150 [t 71, .const (.int .u8 58), n 5])])
  (.seq (R [0, 2, 3, 8, 9] [v 73 9, v 74 0, o 75 (.callg 102 [t 74, n 5]), o 76 (.callg 153 [t 73, t 75])])
  (.seq (R [0, 2, 3, 8, 9] [v 77 9, o 78 (.callg 150 [t 77, .const (.int .u8 188), n 10])])
  (.seq (R [0, 2, 3, 8, 9] [v 79 9, o 80 (.callg 150 [t 79, .const (.int .u8 58), n 6])])
  (.seq (R [0, 2, 3, 8, 9] [v 81 9, o 82 (.callg 150 [t 81, .const (.int .u8 1), n 0])])
  (.seq (R [0, 2, 3, 8, 9] [v 83 9, o 84 (.callg 150 [t 83, .const (.int .u8 58), n 7])])
  (code101T0)))))))))
def code101 : AFunc := ⟨false, false, 4, 113, [.cell 8 (some 8)],
  .seq (R [0, 1, 2, 3, 8] [o 8 (.lalloc [.bool false, .str [], .str [], .int .i64 0, .int .i64 0, .slice none 0 (some 0), .slice none 0 (some 0), .slice none 0 (some 0)])])
  (.seq (R [0, 1, 2, 3, 8, 9] [v 13 0, o 14 (.build [.ptr none, .slice none 0 (some 0), .slice none 0 (some 0), .slice none 0 (some 0), .int .i64 0, .int .i64 0] [(0, 1, t 13), (5, 1, n 60)]), o 15 (.box (t 14)), v 9 15])
  (.seq (.seq (R [0, 2, 3, 8, 9, 17] [v 16 1, o 17 (.un .not (t 16))])
  (.after (.cond (t 17) (.seq (R [0, 2, 8, 9] [v 18 9, o 19 (.callg 150 [t 18, .const (.int .u8 21), n 1])])
  (.seq (R [0, 2, 8, 9] [v 20 9, o 21 (.callg 153 [t 20, n 3])])
  (.seq (R [0, 2, 8, 9] [v 22 9, o 23 (.callg 150 [t 22, .const (.int .u8 96), n 0])])
  (.seq (R [0, 2, 8, 9] [v 24 9, o 25 (.callg 150 [t 24, .const (.int .u8 25), n 0])])
  (.seq (R [0, 2, 8, 9] [v 26 9, o 27 (.callg 154 [t 26, .const (.int .u8 180), .const (.str [65]), .const (.str [102]), .const (.str [73])])])
  (.seq (R [2, 8, 9] [v 28 9, o 29 (.mkslice 1 3 [.int .u8 0, .int .u8 0, .int .u8 0] [(0, 1, .const (.int .u8 96)), (1, 1, .const (.int .u8 104)), (2, 1, .const (.int .u8 130))]), v 30 0, o 31 (.callg 102 [t 30, n 3]), o 32 (.iaddr 1 (t 29) (t 31)), o 33 (.load none (t 32)), o 34 (.callg 150 [t 28, t 33, n 0])])
  (.seq (R [2, 8, 9] [v 35 9, o 36 (.callg 150 [t 35, .const (.int .u8 172), n 0])])
  (.seq (R [8] [v 37 2, v 38 9, o 39 (.nilcheck (t 38)), o 40 (.faddr (t 39) 1), o 41 (.load none (t 40)), o 42 (.build [.bool false, .str [], .str [], .int .i64 0, .int .i64 0, .slice none 0 (some 0), .slice none 0 (some 0), .slice none 0 (some 0)] [(1, 1, t 37), (2, 1, .const (.str [40, 73, 41, 73])), (3, 1, n 8), (4, 1, n 2), (5, 1, t 41)]), u (.store 8 (t 8) (t 42))])
  (.live [8] (.ret)))))))))) (.skip)) [0, 2, 3, 8, 9]))
  (.seq (.seq (R [0, 2, 3, 8, 9, 43, 44, 45] [o 43 (.mkslice 1 2 [.int .i64 0, .int .i64 0] [(0, 1, n 1), (1, 1, n 2)]), o 44 (.len .sl (t 43)), o 45 (.val (n 0))])
  (.after (.block 0 (.loop code101L1)) [0, 2, 3, 8, 9]))
  (code101T1)))), none⟩
def code102 : AFunc := ⟨false, false, 2, 41, [.tmp 4],
  .seq (R [0, 1] [o 4 (.val (n 0))])
  (.seq (.seq (.after (.region [⟨false, [], [v 5 1, o 6 (.bin .lss (t 5) (n 2)), v 7 6]⟩, ⟨true, [], [g 8 7 false (.val (t 0)), g 9 7 false (.nilcheck (t 8)), g 10 7 false (.faddr (t 9) 1), g 11 7 false (.load none (t 10)), g 12 7 false (.val (t 0)), g 13 7 false (.nilcheck (t 12)), g 14 7 false (.faddr (t 13) 0), g 15 7 false (.load none (t 14)), g 16 7 false (.len .sl (t 15))]⟩, ⟨false, [], [g 17 7 false (.bin .geq (t 11) (t 16)), o 18 (.pick (t 7) Y (t 17))]⟩]) [0, 1, 18])
  (.after (.cond (t 18) (.seq (R [4] [o 4 (.val (n 0))])
  (.live [4] (.ret))) (.skip)) [0, 1]))
  (.seq (R [0, 1] [v 19 0, v 20 0, o 21 (.nilcheck (t 20)), o 22 (.faddr (t 21) 1), o 23 (.load none (t 22)), o 24 (.bin .add (t 23) (n 1)), o 25 (.nilcheck (t 19)), o 26 (.faddr (t 25) 1), u (.store 1 (t 26) (t 24))])
  (.seq (.after (.region [⟨true, [], [v 27 0, o 28 (.nilcheck (t 27)), o 29 (.faddr (t 28) 0), o 30 (.load none (t 29)), v 31 0, o 32 (.nilcheck (t 31)), o 33 (.faddr (t 32) 1), o 34 (.load none (t 33)), o 35 (.bin .sub (t 34) (n 1)), o 36 (.iaddr 1 (t 30) (t 35)), o 37 (.load none (t 36)), o 38 (.conv (.int .i64) (t 37)), v 39 1]⟩, ⟨false, [], [o 40 (.bin .rem (t 38) (t 39)), v 4 40]⟩]) [4])
  (.live [4] (.ret))))), none⟩
def code150 : AFunc := ⟨false, false, 3, 18, [],
  R [] [v 6 0, v 7 0, o 8 (.nilcheck (t 7)), o 9 (.faddr (t 8) 1), o 10 (.load none (t 9)), v 11 1, v 12 2, o 13 (.build [.int .u8 0, .int .i64 0, .int .i64 0, .str [], .str [], .str [], .str []] [(0, 1, t 11), (1, 1, t 12)]), o 14 (.mkslice 7 1 [.int .u8 0, .int .i64 0, .int .i64 0, .str [], .str [], .str [], .str []] [(0, 7, t 13)]), o 15 (.append 7 88 (t 10) (t 14)), o 16 (.nilcheck (t 6)), o 17 (.faddr (t 16) 1), u (.store 1 (t 17) (t 15))], none⟩
def code151B0 : ACode :=
  .seq (.seq (R [0, 1, 29, 40] [o 41 (.bin .eql (t 29) (n 0)), v 40 41])
  (.after (.cond (t 40) (.skip) (R [0, 1, 29, 40] [o 42 (.bin .eql (t 29) (n 1)), v 40 42])) [0, 1, 29, 40]))
  (.after (.cond (t 40) (R [] [v 43 0, v 44 0, o 45 (.nilcheck (t 44)), o 46 (.faddr (t 45) 0), o 47 (.load none (t 46)), o 48 (.callg 102 [t 47, n 3]), o 49 (.callg 150 [t 43, .const (.int .u8 21), t 48])]) (.seq (R [0, 1, 29, 50] [o 51 (.bin .eql (t 29) (n 2)), v 50 51])
  (.after (.cond (t 50) (R [] [v 52 0, v 53 0, o 54 (.nilcheck (t 53)), o 55 (.faddr (t 54) 0), o 56 (.load none (t 55)), o 57 (.callg 102 [t 56, n 256]), o 58 (.bin .sub (t 57) (n 100)), o 59 (.callg 153 [t 52, t 58])]) (.seq (R [0, 1, 29, 60] [o 61 (.bin .eql (t 29) (n 3)), v 60 61])
  (.after (.cond (t 60) (R [] [v 62 0, o 63 (.callg 154 [t 62, .const (.int .u8 178), .const (.str [77, 97, 105, 110]), .const (.str [115]), .const (.str [73])])]) (.seq (.seq (R [0, 1, 29, 64] [o 65 (.bin .eql (t 29) (n 4)), v 64 65])
  (.after (.cond (t 64) (.skip) (.seq (R [0, 1, 29, 64] [o 66 (.bin .eql (t 29) (n 5)), v 64 66])
  (.after (.cond (t 64) (.skip) (.seq (R [0, 1, 29, 64] [o 67 (.bin .eql (t 29) (n 6)), v 64 67])
  (.after (.cond (t 64) (.skip) (R [0, 1, 29, 64] [o 68 (.bin .eql (t 29) (n 7)), v 64 68])) [0, 1, 29, 64]))) [0, 1, 29, 64]))) [0, 1, 29, 64]))
  (.after (.cond (t 64) (.seq (R [0, 1] [v 69 0, v 70 1, o 71 (.bin .sub (t 70) (n 1)), o 72 (.callg 151 [t 69, t 71])])
  (.seq (R [0] [v 73 0, v 74 1, o 75 (.bin .sub (t 74) (n 1)), o 76 (.callg 151 [t 73, t 75])])
  (R [] [v 77 0, o 78 (.mkslice 1 10 [.int .u8 0, .int .u8 0, .int .u8 0, .int .u8 0, .int .u8 0, .int .u8 0, .int .u8 0, .int .u8 0, .int .u8 0, .int .u8 0] [(0, 1, .const (.int .u8 96)), (1, 1, .const (.int .u8 100)), (2, 1, .const (.int .u8 104)), (3, 1, .const (.int .u8 108)), (4, 1, .const (.int .u8 126)), (5, 1, .const (.int .u8 130)), (6, 1, .const (.int .u8 120)), (7, 1, .const (.int .u8 112)), (8, 1, .const (.int .u8 128)), (9, 1, .const (.int .u8 124))]), v 79 0, o 80 (.nilcheck (t 79)), o 81 (.faddr (t 80) 0), o 82 (.load none (t 81)), o 83 (.callg 102 [t 82, n 10]), o 84 (.iaddr 1 (t 78) (t 83)), o 85 (.load none (t 84)), o 86 (.callg 150 [t 77, t 85, n 0])]))) (.seq (R [0, 1, 29, 87] [o 88 (.bin .eql (t 29) (n 8)), v 87 88])
  (.after (.cond (t 87) (.seq (R [0] [v 89 0, v 90 1, o 91 (.bin .sub (t 90) (n 1)), o 92 (.callg 183 [t 89, t 91])])
  (R [] [v 93 0, o 94 (.callg 150 [t 93, .const (.int .u8 136), n 0])])) (.seq (R [0, 1, 29, 95] [o 96 (.bin .eql (t 29) (n 9)), v 95 96])
  (.after (.cond (t 95) (.seq (R [0, 1] [v 97 0, o 98 (.callg 150 [t 97, .const (.int .u8 25), n 6])])
  (.seq (R [0] [v 99 0, v 100 1, o 101 (.bin .sub (t 100) (n 1)), o 102 (.callg 151 [t 99, t 101])])
  (R [] [v 103 0, o 104 (.callg 150 [t 103, .const (.int .u8 46), n 0])]))) (.seq (R [0, 1, 29, 105] [o 106 (.bin .eql (t 29) (n 10)), v 105 106])
  (.after (.cond (t 105) (.seq (R [0] [v 107 0, o 108 (.callg 150 [t 107, .const (.int .u8 25), n 5])])
  (R [] [v 109 0, o 110 (.callg 154 [t 109, .const (.int .u8 180), .const (.str [65]), .const (.str [102]), .const (.str [73])])])) (.seq (R [0, 1, 29, 111] [o 112 (.bin .eql (t 29) (n 11)), v 111 112])
  (.after (.cond (t 111) (.seq (R [0, 1] [v 113 0, o 114 (.callg 150 [t 113, .const (.int .u8 25), n 5])])
  (.seq (R [0] [v 115 0, v 116 1, o 117 (.bin .sub (t 116) (n 1)), o 118 (.callg 151 [t 115, t 117])])
  (R [] [v 119 0, o 120 (.callg 154 [t 119, .const (.int .u8 182), .const (.str [65]), .const (.str [118]), .const (.str [40, 73, 41, 73])])]))) (.seq (R [0, 1, 29, 121] [o 122 (.bin .eql (t 29) (n 12)), v 121 122])
  (.after (.cond (t 121) (.seq (R [0] [v 123 0, v 124 1, o 125 (.bin .sub (t 124) (n 1)), o 126 (.callg 151 [t 123, t 125])])
  (R [] [v 127 0, o 128 (.callg 154 [t 127, .const (.int .u8 184), .const (.str [77, 97, 105, 110]), .const (.str [104, 101, 108, 112]), .const (.str [40, 73, 41, 73])])])) (.seq (R [0, 1, 29, 129] [o 130 (.bin .eql (t 29) (n 13)), v 129 130])
  (.after (.cond (t 129) (.seq (R [0] [v 131 0, v 132 0, o 133 (.nilcheck (t 132)), o 134 (.faddr (t 133) 0), o 135 (.load none (t 134)), o 136 (.callg 102 [t 135, n 2]), o 137 (.bin .add (n 6) (t 136)), o 138 (.callg 150 [t 131, .const (.int .u8 25), t 137])])
  (R [] [v 139 0, o 140 (.callg 150 [t 139, .const (.int .u8 190), n 0])])) (.seq (R [0, 1, 141] [o 142 (.bin .eql (t 29) (n 14)), v 141 142])
  (.after (.cond (t 141) (.seq (R [0] [v 143 0, o 144 (.callg 150 [t 143, .const (.int .u8 25), n 5])])
  (R [] [v 145 0, v 146 0, o 147 (.nilcheck (t 146)), o 148 (.faddr (t 147) 1), o 149 (.load none (t 148)), o 150 (.build [.int .u8 0, .int .i64 0, .int .i64 0, .str [], .str [], .str [], .str []] [(0, 1, .const (.int .u8 193)), (3, 1, .const (.str [66]))]), o 151 (.mkslice 7 1 [.int .u8 0, .int .i64 0, .int .i64 0, .str [], .str [], .str [], .str []] [(0, 7, t 150)]), o 152 (.append 7 88 (t 149) (t 151)), o 153 (.nilcheck (t 145)), o 154 (.faddr (t 153) 1), u (.store 1 (t 154) (t 152))])) (.seq (R [0, 1] [v 30 0, v 31 1, o 32 (.bin .sub (t 31) (n 1)), o 33 (.callg 183 [t 30, t 32])])
  (.seq (R [0] [v 34 0, v 35 1, o 36 (.bin .sub (t 35) (n 1)), o 37 (.callg 183 [t 34, t 36])])
  (R [] [v 38 0, o 39 (.callg 150 [t 38, .const (.int .u8 148), n 0])])))) []))) []))) []))) []))) []))) []))) []))) []))) []))) []))) [])
def code151 : AFunc := ⟨false, false, 2, 155, [],
  .seq (R [0, 1] [v 5 0, v 6 0, o 7 (.nilcheck (t 6)), o 8 (.faddr (t 7) 5), o 9 (.load none (t 8)), o 10 (.bin .sub (t 9) (n 1)), o 11 (.nilcheck (t 5)), o 12 (.faddr (t 11) 5), u (.store 1 (t 12) (t 10))])
  (.seq (R [0, 1, 4] [v 13 0, o 14 (.nilcheck (t 13)), o 15 (.faddr (t 14) 0), o 16 (.load none (t 15)), o 17 (.callg 102 [t 16, n 16]), v 4 17])
  (.seq (.seq (R [0, 1, 4, 26] [v 18 1, o 19 (.bin .leq (t 18) (n 0)), v 20 19, g 21 20 false (.val (t 0)), g 22 20 false (.nilcheck (t 21)), g 23 20 false (.faddr (t 22) 5), g 24 20 false (.load none (t 23)), g 25 20 false (.bin .leq (t 24) (n 0)), o 26 (.pick (t 20) Y (t 25))])
  (.after (.cond (t 26) (R [0, 1, 4] [v 27 4, o 28 (.bin .rem (t 27) (n 4)), v 4 28]) (.skip)) [0, 1, 4]))
  (.seq (R [0, 1, 29] [v 29 4])
  (.after (.block 0 code151B0) [])))), none⟩
def code152R0 : ACode :=
  .after (.region [⟨true, [0, 0, 2, 6, 14, 0, 32, 96, 224, 480, 0, 1024, 3072, 7168, 16352, 32736, 65504, 131040, 262142], [v 17 0, v 18 0, o 19 (.nilcheck (t 18)), o 20 (.faddr (t 19) 1), o 21 (.load none (t 20)), v 22 0, o 23 (.nilcheck (t 22)), o 24 (.faddr (t 23) 0), o 25 (.load none (t 24)), o 26 (.callg 102 [t 25, n 3]), v 27 0, o 28 (.nilcheck (t 27)), o 29 (.faddr (t 28) 0), o 30 (.load none (t 29)), o 31 (.callg 102 [t 30, n 9]), o 32 (.bin .sub (t 31) (n 4)), o 33 (.build [.int .u8 0, .int .i64 0, .int .i64 0, .str [], .str [], .str [], .str []] [(0, 1, .const (.int .u8 132)), (1, 1, t 26), (2, 1, t 32)]), o 34 (.mkslice 7 1 [.int .u8 0, .int .i64 0, .int .i64 0, .str [], .str [], .str [], .str []] [(0, 7, t 33)]), o 35 (.append 7 88 (t 21) (t 34))]⟩, ⟨false, [], [o 36 (.nilcheck (t 17)), o 37 (.faddr (t 36) 1), u (.store 1 (t 37) (t 35))]⟩]) []
def code152B0 : ACode :=
  .seq (R [0, 2, 38] [v 39 0, o 40 (.nilcheck (t 39)), o 41 (.faddr (t 40) 5), o 42 (.load none (t 41)), o 43 (.bin .leq (t 42) (n 0)), v 44 43, g 45 44 false (.val (t 2)), g 46 44 false (.bin .lss (t 45) (n 2)), o 47 (.pick (t 44) Y (t 46)), v 38 47])
  (.after (.cond (t 38) (.seq (R [0] [v 48 0, o 49 (.callg 151 [t 48, n 2])])
  (R [] [v 50 0, v 51 0, o 52 (.nilcheck (t 51)), o 53 (.faddr (t 52) 0), o 54 (.load none (t 53)), o 55 (.callg 102 [t 54, n 2]), o 56 (.bin .add (n 1) (t 55)), o 57 (.callg 150 [t 50, .const (.int .u8 54), t 56])])) (.seq (R [0, 2, 58] [v 59 2, o 60 (.bin .eql (t 59) (n 2)), v 58 60])
  (.after (.cond (t 58) (.seq (R [0] [v 61 0, o 62 (.callg 151 [t 61, n 2])])
  (R [] [v 63 0, o 64 (.callg 154 [t 63, .const (.int .u8 184), .const (.str [115, 121, 115]), .const (.str [112, 114, 105, 110, 116]), .const (.str [40, 73, 41, 86])])])) (.seq (R [0, 2, 65] [v 66 2, o 67 (.bin .eql (t 66) (n 3)), v 65 67])
  (.after (.cond (t 65) (.seq (R [0] [v 68 0, o 69 (.callg 183 [t 68, n 2])])
  (R [] [v 70 0, o 71 (.callg 150 [t 70, .const (.int .u8 55), n 3])])) (.seq (R [0, 2, 72] [v 73 2, o 74 (.bin .eql (t 73) (n 4)), v 72 74])
  (.after (.cond (t 72) (.seq (R [0] [v 75 0, o 76 (.callg 184 [t 75])])
  (R [] [v 77 0, o 78 (.callg 150 [t 77, .const (.int .u8 58), n 5])])) (.seq (R [0, 2, 79] [v 80 2, o 81 (.bin .eql (t 80) (n 5)), v 79 81])
  (.after (.cond (t 79) (.seq (R [0] [v 82 0, o 83 (.callg 150 [t 82, .const (.int .u8 25), n 5])])
  (.seq (R [0] [v 84 0, o 85 (.callg 151 [t 84, n 1])])
  (R [] [v 86 0, o 87 (.callg 154 [t 86, .const (.int .u8 181), .const (.str [65]), .const (.str [102]), .const (.str [73])])]))) (.seq (R [0, 2, 88] [v 89 2, o 90 (.bin .eql (t 89) (n 6)), v 88 90])
  (.after (.cond (t 88) (.seq (R [0] [v 91 0, o 92 (.callg 151 [t 91, n 1])])
  (R [] [v 93 0, o 94 (.callg 154 [t 93, .const (.int .u8 179), .const (.str [77, 97, 105, 110]), .const (.str [115]), .const (.str [73])])])) (.seq (R [0, 2, 95] [v 96 2, o 97 (.bin .eql (t 96) (n 7)), v 95 97])
  (.after (.cond (t 95) (.seq (R [0] [v 98 0, o 99 (.callg 151 [t 98, n 1])])
  (.seq (R [0, 3] [v 100 0, o 101 (.nilcheck (t 100)), o 102 (.faddr (t 101) 0), o 103 (.load none (t 102)), o 104 (.callg 102 [t 103, n 2]), v 3 104])
  (.seq (R [0, 3] [v 105 0, v 106 3, o 107 (.bin .mul (n 2) (t 106)), o 108 (.bin .sub (n 10) (t 107)), o 109 (.callg 150 [t 105, .const (.int .u8 188), t 108])])
  (R [] [v 110 0, v 111 3, o 112 (.bin .add (n 6) (t 111)), o 113 (.callg 150 [t 110, .const (.int .u8 58), t 112])])))) (.seq (R [0, 2, 114] [v 115 2, o 116 (.bin .eql (t 115) (n 8)), v 114 116])
  (.after (.cond (t 114) (.seq (R [0] [v 117 0, o 118 (.callg 150 [t 117, .const (.int .u8 25), n 6])])
  (.seq (R [0] [v 119 0, o 120 (.callg 151 [t 119, n 1])])
  (.seq (R [0] [v 121 0, o 122 (.callg 151 [t 121, n 1])])
  (R [] [v 123 0, o 124 (.callg 150 [t 123, .const (.int .u8 79), n 0])])))) (.seq (R [0, 2, 125] [v 126 2, o 127 (.bin .eql (t 126) (n 9)), v 128 127, g 129 128 true (.val (t 0)), g 130 128 true (.nilcheck (t 129)), g 131 128 true (.faddr (t 130) 4), g 132 128 true (.load none (t 131)), g 133 128 true (.bin .lss (t 132) (n 3)), o 134 (.pick (t 128) (t 133) F), v 125 134])
  (.after (.cond (t 125) (R [] [v 135 0, o 136 (.callg 185 [t 135])]) (.seq (R [0, 2, 137] [v 138 2, o 139 (.bin .eql (t 138) (n 10)), v 140 139, g 141 140 true (.val (t 0)), g 142 140 true (.nilcheck (t 141)), g 143 140 true (.faddr (t 142) 4), g 144 140 true (.load none (t 143)), g 145 140 true (.bin .lss (t 144) (n 3)), o 146 (.pick (t 140) (t 145) F), v 137 146])
  (.after (.cond (t 137) (R [] [v 147 0, o 148 (.callg 186 [t 147])]) (.seq (R [0, 2, 149] [v 150 2, o 151 (.bin .eql (t 150) (n 11)), v 152 151, g 153 152 true (.val (t 0)), g 154 152 true (.nilcheck (t 153)), g 155 152 true (.faddr (t 154) 4), g 156 152 true (.load none (t 155)), g 157 152 true (.bin .lss (t 156) (n 3)), o 158 (.pick (t 152) (t 157) F), v 149 158])
  (.after (.cond (t 149) (R [] [v 159 0, o 160 (.callg 187 [t 159])]) (.seq (R [0, 2, 161] [v 162 2, o 163 (.bin .eql (t 162) (n 12)), v 161 163])
  (.after (.cond (t 161) (R [] [v 164 0, o 165 (.callg 188 [t 164])]) (.seq (R [0, 2, 166] [v 167 2, o 168 (.bin .eql (t 167) (n 13)), v 166 168])
  (.after (.cond (t 166) (.seq (R [0] [v 169 0, v 170 0, o 171 (.nilcheck (t 170)), o 172 (.faddr (t 171) 1), o 173 (.load none (t 172)), o 174 (.build [.int .u8 0, .int .i64 0, .int .i64 0, .str [], .str [], .str [], .str []] [(0, 1, .const (.int .u8 18)), (5, 1, .const (.str [83])), (6, 1, .const (.str [104, 105]))]), o 175 (.mkslice 7 1 [.int .u8 0, .int .i64 0, .int .i64 0, .str [], .str [], .str [], .str []] [(0, 7, t 174)]), o 176 (.append 7 88 (t 173) (t 175)), o 177 (.nilcheck (t 169)), o 178 (.faddr (t 177) 1), u (.store 1 (t 178) (t 176))])
  (R [] [v 179 0, o 180 (.callg 150 [t 179, .const (.int .u8 58), n 7])])) (.seq (R [0, 181] [v 182 2, o 183 (.bin .eql (t 182) (n 14)), v 181 183])
  (.after (.cond (t 181) (.seq (R [0] [v 184 0, o 185 (.callg 150 [t 184, .const (.int .u8 25), n 7])])
  (R [] [v 186 0, o 187 (.callg 154 [t 186, .const (.int .u8 184), .const (.str [115, 121, 115]), .const (.str [112, 114, 105, 110, 116, 84, 101, 120, 116]), .const (.str [40, 91, 66, 41, 86])])])) (code152R0)) []))) []))) []))) []))) []))) []))) []))) []))) []))) []))) []))) []))) []))) [])
def code152 : AFunc := ⟨false, false, 1, 188, [],
  .seq (R [0] [v 4 0, v 5 0, o 6 (.nilcheck (t 5)), o 7 (.faddr (t 6) 5), o 8 (.load none (t 7)), o 9 (.bin .sub (t 8) (n 1)), o 10 (.nilcheck (t 4)), o 11 (.faddr (t 10) 5), u (.store 1 (t 11) (t 9))])
  (.seq (R [0, 2] [v 12 0, o 13 (.nilcheck (t 12)), o 14 (.faddr (t 13) 0), o 15 (.load none (t 14)), o 16 (.callg 102 [t 15, n 16]), v 2 16])
  (.after (.block 0 code152B0) [])), none⟩
def code153 : AFunc := ⟨false, false, 2, 47, [],
  .after (.block 0 (.seq (R [0, 1, 15] [v 16 1, o 17 (.bin .geq (t 16) (.const (.int .i64 (-1)))), v 18 17, g 19 18 true (.val (t 1)), g 20 18 true (.bin .leq (t 19) (n 5)), o 21 (.pick (t 18) (t 20) F), v 15 21])
  (.after (.cond (t 15) (R [] [v 22 0, v 23 1, o 24 (.bin .add (n 3) (t 23)), o 25 (.conv (.int .u8) (t 24)), o 26 (.callg 150 [t 22, t 25, n 0])]) (.seq (R [0, 1, 27] [v 28 1, o 29 (.bin .geq (t 28) (.const (.int .i64 (-128)))), v 30 29, g 31 30 true (.val (t 1)), g 32 30 true (.bin .lss (t 31) (n 128)), o 33 (.pick (t 30) (t 32) F), v 27 33])
  (.after (.cond (t 27) (R [] [v 34 0, v 35 1, o 36 (.callg 150 [t 34, .const (.int .u8 16), t 35])]) (.seq (R [0, 1, 37] [v 38 1, o 39 (.bin .geq (t 38) (.const (.int .i64 (-32768)))), v 40 39, g 41 40 true (.val (t 1)), g 42 40 true (.bin .lss (t 41) (n 32768)), o 43 (.pick (t 40) (t 42) F), v 37 43])
  (.after (.cond (t 37) (R [] [v 44 0, v 45 1, o 46 (.callg 150 [t 44, .const (.int .u8 17), t 45])]) (R [] [v 4 0, v 5 0, o 6 (.nilcheck (t 5)), o 7 (.faddr (t 6) 1), o 8 (.load none (t 7)), v 9 1, o 10 (.build [.int .u8 0, .int .i64 0, .int .i64 0, .str [], .str [], .str [], .str []] [(0, 1, .const (.int .u8 18)), (5, 1, .const (.str [73])), (1, 1, t 9)]), o 11 (.mkslice 7 1 [.int .u8 0, .int .i64 0, .int .i64 0, .str [], .str [], .str [], .str []] [(0, 7, t 10)]), o 12 (.append 7 88 (t 8) (t 11)), o 13 (.nilcheck (t 4)), o 14 (.faddr (t 13) 1), u (.store 1 (t 14) (t 12))])) []))) []))) []))) [], none⟩
def code154 : AFunc := ⟨false, false, 5, 24, [],
  R [] [v 10 0, v 11 0, o 12 (.nilcheck (t 11)), o 13 (.faddr (t 12) 1), o 14 (.load none (t 13)), v 15 1, v 16 2, v 17 3, v 18 4, o 19 (.build [.int .u8 0, .int .i64 0, .int .i64 0, .str [], .str [], .str [], .str []] [(0, 1, t 15), (3, 1, t 16), (4, 1, t 17), (5, 1, t 18)]), o 20 (.mkslice 7 1 [.int .u8 0, .int .i64 0, .int .i64 0, .str [], .str [], .str [], .str []] [(0, 7, t 19)]), o 21 (.append 7 88 (t 14) (t 20)), o 22 (.nilcheck (t 10)), o 23 (.faddr (t 22) 1), u (.store 1 (t 23) (t 21))], none⟩
def code183B0 : ACode :=
  .seq (R [0, 1, 4, 16] [v 17 1, o 18 (.bin .gtr (t 17) (n 0)), v 19 18, g 20 19 true (.val (t 4)), g 21 19 true (.bin .lss (t 20) (n 2)), o 22 (.pick (t 19) (t 21) F), v 16 22])
  (.after (.cond (t 16) (.seq (R [0, 1] [v 23 0, v 24 1, o 25 (.bin .sub (t 24) (n 1)), o 26 (.callg 183 [t 23, t 25])])
  (.seq (R [0] [v 27 0, v 28 1, o 29 (.bin .sub (t 28) (n 1)), o 30 (.callg 183 [t 27, t 29])])
  (R [] [v 31 0, o 32 (.mkslice 1 8 [.int .u8 0, .int .u8 0, .int .u8 0, .int .u8 0, .int .u8 0, .int .u8 0, .int .u8 0, .int .u8 0] [(0, 1, .const (.int .u8 97)), (1, 1, .const (.int .u8 101)), (2, 1, .const (.int .u8 105)), (3, 1, .const (.int .u8 109)), (4, 1, .const (.int .u8 127)), (5, 1, .const (.int .u8 131)), (6, 1, .const (.int .u8 113)), (7, 1, .const (.int .u8 129))]), v 33 0, o 34 (.nilcheck (t 33)), o 35 (.faddr (t 34) 0), o 36 (.load none (t 35)), o 37 (.callg 102 [t 36, n 8]), o 38 (.iaddr 1 (t 32) (t 37)), o 39 (.load none (t 38)), o 40 (.callg 150 [t 31, t 39, n 0])]))) (.seq (R [0, 1, 4, 41] [v 42 1, o 43 (.bin .gtr (t 42) (n 0)), v 44 43, g 45 44 true (.val (t 4)), g 46 44 true (.bin .eql (t 45) (n 2)), o 47 (.pick (t 44) (t 46) F), v 41 47])
  (.after (.cond (t 41) (.seq (R [0, 1] [v 48 0, v 49 1, o 50 (.bin .sub (t 49) (n 1)), o 51 (.callg 183 [t 48, t 50])])
  (.seq (R [0] [v 52 0, v 53 1, o 54 (.bin .sub (t 53) (n 1)), o 55 (.callg 151 [t 52, t 54])])
  (R [] [v 56 0, o 57 (.mkslice 1 3 [.int .u8 0, .int .u8 0, .int .u8 0] [(0, 1, .const (.int .u8 121)), (1, 1, .const (.int .u8 123)), (2, 1, .const (.int .u8 125))]), v 58 0, o 59 (.nilcheck (t 58)), o 60 (.faddr (t 59) 0), o 61 (.load none (t 60)), o 62 (.callg 102 [t 61, n 3]), o 63 (.iaddr 1 (t 57) (t 62)), o 64 (.load none (t 63)), o 65 (.callg 150 [t 56, t 64, n 0])]))) (.seq (R [0, 1, 4, 66] [v 67 4, o 68 (.bin .eql (t 67) (n 3)), v 66 68])
  (.after (.cond (t 66) (R [] [v 69 0, o 70 (.callg 150 [t 69, .const (.int .u8 22), n 3])]) (.seq (R [0, 1, 71] [v 72 4, o 73 (.bin .eql (t 72) (n 4)), v 71 73])
  (.after (.cond (t 71) (.after (.region [⟨true, [0, 0, 2, 6, 14, 0, 32, 96, 224, 480, 992, 2016, 4064, 8160, 16382], [v 74 0, v 75 0, o 76 (.nilcheck (t 75)), o 77 (.faddr (t 76) 1), o 78 (.load none (t 77)), v 79 0, o 80 (.nilcheck (t 79)), o 81 (.faddr (t 80) 0), o 82 (.load none (t 81)), o 83 (.callg 102 [t 82, n 256]), o 84 (.bin .shl (t 83) (.const (.int .u64 40))), o 85 (.bin .sub (t 84) (n 5)), o 86 (.build [.int .u8 0, .int .i64 0, .int .i64 0, .str [], .str [], .str [], .str []] [(0, 1, .const (.int .u8 20)), (5, 1, .const (.str [74])), (1, 1, t 85)]), o 87 (.mkslice 7 1 [.int .u8 0, .int .i64 0, .int .i64 0, .str [], .str [], .str [], .str []] [(0, 7, t 86)]), o 88 (.append 7 88 (t 78) (t 87))]⟩, ⟨false, [], [o 89 (.nilcheck (t 74)), o 90 (.faddr (t 89) 1), u (.store 1 (t 90) (t 88))]⟩]) []) (.seq (R [0] [v 10 0, v 11 1, o 12 (.bin .sub (t 11) (n 1)), o 13 (.callg 151 [t 10, t 12])])
  (R [] [v 14 0, o 15 (.callg 150 [t 14, .const (.int .u8 133), n 0])]))) []))) []))) []))) [])
def code183 : AFunc := ⟨false, false, 2, 91, [],
  .seq (R [0, 1, 4] [v 5 0, o 6 (.nilcheck (t 5)), o 7 (.faddr (t 6) 0), o 8 (.load none (t 7)), o 9 (.callg 102 [t 8, n 6]), v 4 9])
  (.after (.block 0 code183B0) []), none⟩
def code184B0 : ACode :=
  .seq (R [0, 6, 17] [o 18 (.bin .eql (t 6) (n 0)), v 17 18])
  (.after (.cond (t 17) (R [] [v 19 0, o 20 (.callg 150 [t 19, .const (.int .u8 1), n 0])]) (.seq (R [0, 6, 21] [o 22 (.bin .eql (t 6) (n 1)), v 21 22])
  (.after (.cond (t 21) (R [] [v 23 0, v 24 0, o 25 (.nilcheck (t 24)), o 26 (.faddr (t 25) 1), o 27 (.load none (t 26)), o 28 (.build [.int .u8 0, .int .i64 0, .int .i64 0, .str [], .str [], .str [], .str []] [(0, 1, .const (.int .u8 187)), (3, 1, .const (.str [66]))]), o 29 (.mkslice 7 1 [.int .u8 0, .int .i64 0, .int .i64 0, .str [], .str [], .str [], .str []] [(0, 7, t 28)]), o 30 (.append 7 88 (t 27) (t 29)), o 31 (.nilcheck (t 23)), o 32 (.faddr (t 31) 1), u (.store 1 (t 32) (t 30))]) (.seq (R [0, 33] [o 34 (.bin .eql (t 6) (n 2)), v 33 34])
  (.after (.cond (t 33) (.seq (R [0] [v 35 0, o 36 (.callg 150 [t 35, .const (.int .u8 25), n 5])])
  (R [] [v 37 0, v 38 0, o 39 (.nilcheck (t 38)), o 40 (.faddr (t 39) 1), o 41 (.load none (t 40)), o 42 (.build [.int .u8 0, .int .i64 0, .int .i64 0, .str [], .str [], .str [], .str []] [(0, 1, .const (.int .u8 192)), (3, 1, .const (.str [66]))]), o 43 (.mkslice 7 1 [.int .u8 0, .int .i64 0, .int .i64 0, .str [], .str [], .str [], .str []] [(0, 7, t 42)]), o 44 (.append 7 88 (t 41) (t 43)), o 45 (.nilcheck (t 37)), o 46 (.faddr (t 45) 1), u (.store 1 (t 46) (t 44))])) (R [] [v 7 0, v 8 0, o 9 (.nilcheck (t 8)), o 10 (.faddr (t 9) 1), o 11 (.load none (t 10)), o 12 (.build [.int .u8 0, .int .i64 0, .int .i64 0, .str [], .str [], .str [], .str []] [(0, 1, .const (.int .u8 187)), (3, 1, .const (.str [65]))]), o 13 (.mkslice 7 1 [.int .u8 0, .int .i64 0, .int .i64 0, .str [], .str [], .str [], .str []] [(0, 7, t 12)]), o 14 (.append 7 88 (t 11) (t 13)), o 15 (.nilcheck (t 7)), o 16 (.faddr (t 15) 1), u (.store 1 (t 16) (t 14))])) []))) []))) [])
def code184 : AFunc := ⟨false, false, 1, 47, [],
  .seq (R [0, 6] [v 2 0, o 3 (.nilcheck (t 2)), o 4 (.faddr (t 3) 0), o 5 (.load none (t 4)), o 6 (.callg 102 [t 5, n 5])])
  (.after (.block 0 code184B0) []), none⟩
def code185R0 : ACode :=
  .after (.region [⟨true, [0, 1, 3, 7, 0, 0, 32], [v 20 0, o 21 (.nilcheck (t 20)), o 22 (.faddr (t 21) 1), o 23 (.load none (t 22)), v 24 2, v 25 0, o 26 (.callg 100208 [t 25, .const (.slice none 0 (some 0))])]⟩, ⟨false, [], [o 27 (.iaddr 7 (t 23) (t 24)), o 28 (.faddr (t 27) 1), u (.store 1 (t 28) (t 26))]⟩]) [0, 3]
def code185R1 : ACode :=
  .after (.region [⟨true, [0, 1, 3, 7, 0, 0, 32], [v 31 0, o 32 (.nilcheck (t 31)), o 33 (.faddr (t 32) 1), o 34 (.load none (t 33)), v 35 3, v 36 0, o 37 (.callg 100208 [t 36, .const (.slice none 0 (some 0))])]⟩, ⟨false, [], [o 38 (.iaddr 7 (t 34) (t 35)), o 39 (.faddr (t 38) 1), u (.store 1 (t 39) (t 37))]⟩]) []
def code185 : AFunc := ⟨false, false, 1, 40, [],
  .seq (R [0] [v 4 0, o 5 (.callg 151 [t 4, n 1])])
  (.seq (R [0, 2] [v 6 0, o 7 (.mkslice 1 6 [.int .u8 0, .int .u8 0, .int .u8 0, .int .u8 0, .int .u8 0, .int .u8 0] [(0, 1, .const (.int .u8 153)), (1, 1, .const (.int .u8 154)), (2, 1, .const (.int .u8 155)), (3, 1, .const (.int .u8 156)), (4, 1, .const (.int .u8 157)), (5, 1, .const (.int .u8 158))]), v 8 0, o 9 (.nilcheck (t 8)), o 10 (.faddr (t 9) 0), o 11 (.load none (t 10)), o 12 (.callg 102 [t 11, n 6]), o 13 (.iaddr 1 (t 7) (t 12)), o 14 (.load none (t 13)), o 15 (.callg 210 [t 6, t 14]), v 2 15])
  (.seq (R [0, 2] [v 16 0, o 17 (.callg 209 [t 16])])
  (.seq (R [0, 2, 3] [v 18 0, o 19 (.callg 210 [t 18, .const (.int .u8 167)]), v 3 19])
  (.seq (code185R0)
  (.seq (R [0, 3] [v 29 0, o 30 (.callg 209 [t 29])])
  (code185R1)))))), none⟩
def code186R0 : ACode :=
  .after (.region [⟨true, [0, 1, 3, 7, 0, 0, 32], [v 34 0, o 35 (.nilcheck (t 34)), o 36 (.faddr (t 35) 1), o 37 (.load none (t 36)), v 38 3, v 39 0, o 40 (.callg 100208 [t 39, .const (.slice none 0 (some 0))])]⟩, ⟨false, [], [o 41 (.iaddr 7 (t 37) (t 38)), o 42 (.faddr (t 41) 1), u (.store 1 (t 42) (t 40))]⟩]) []
def code186 : AFunc := ⟨false, false, 1, 43, [],
  .seq (R [0] [v 4 0, v 5 0, o 6 (.nilcheck (t 5)), o 7 (.faddr (t 6) 0), o 8 (.load none (t 7)), o 9 (.callg 102 [t 8, n 5]), o 10 (.callg 153 [t 4, t 9])])
  (.seq (R [0] [v 11 0, o 12 (.callg 150 [t 11, .const (.int .u8 54), n 2])])
  (.seq (R [0, 2] [v 13 0, o 14 (.callg 100208 [t 13, .const (.slice none 0 (some 0))]), v 2 14])
  (.seq (R [0, 2] [v 15 0, o 16 (.callg 150 [t 15, .const (.int .u8 21), n 2])])
  (.seq (R [0, 2, 3] [v 17 0, o 18 (.callg 210 [t 17, .const (.int .u8 158)]), v 3 18])
  (.seq (R [0, 2, 3] [v 19 0, o 20 (.callg 209 [t 19])])
  (.seq (R [0, 2, 3] [v 21 0, v 22 0, o 23 (.nilcheck (t 22)), o 24 (.faddr (t 23) 1), o 25 (.load none (t 24)), o 26 (.build [.int .u8 0, .int .i64 0, .int .i64 0, .str [], .str [], .str [], .str []] [(0, 1, .const (.int .u8 132)), (1, 1, n 2), (2, 1, .const (.int .i64 (-1)))]), o 27 (.mkslice 7 1 [.int .u8 0, .int .i64 0, .int .i64 0, .str [], .str [], .str [], .str []] [(0, 7, t 26)]), o 28 (.append 7 88 (t 25) (t 27)), o 29 (.nilcheck (t 21)), o 30 (.faddr (t 29) 1), u (.store 1 (t 30) (t 28))])
  (.seq (R [0, 3] [v 31 0, v 32 2, o 33 (.callg 150 [t 31, .const (.int .u8 167), t 32])])
  (code186R0)))))))), none⟩
def code187T0 : ACode :=
  .seq (.seq (R [0, 2, 3, 4, 5, 7, 8, 77] [v 76 3, o 77 (.bin .geq (t 76) (n 0))])
  (.after (.cond (t 77) (R [0, 2, 4, 5, 7] [v 78 0, o 79 (.nilcheck (t 78)), o 80 (.faddr (t 79) 1), o 81 (.load none (t 80)), v 82 3, v 83 8, o 84 (.iaddr 7 (t 81) (t 82)), o 85 (.faddr (t 84) 1), u (.store 1 (t 85) (t 83))]) (.skip)) [0, 2, 4, 5, 7]))
  (R [] [v 86 0, v 87 0, o 88 (.nilcheck (t 87)), o 89 (.faddr (t 88) 2), o 90 (.load none (t 89)), v 91 2, v 92 4, v 93 7, v 94 5, o 95 (.build [.int .i64 0, .int .i64 0, .int .i64 0, .str []] [(0, 1, t 91), (1, 1, t 92), (2, 1, t 93), (3, 1, t 94)]), o 96 (.mkslice 4 1 [.int .i64 0, .int .i64 0, .int .i64 0, .str []] [(0, 4, t 95)]), o 97 (.append 4 40 (t 90) (t 96)), o 98 (.nilcheck (t 86)), o 99 (.faddr (t 98) 2), u (.store 1 (t 99) (t 97))])
def code187T1 : ACode :=
  .seq (R [0, 2, 3, 4, 5] [o 53 (.mkslice 1 5 [.str [], .str [], .str [], .str [], .str []] [(0, 1, .const (.str [])), (1, 1, .const (.str [84, 104, 114, 111, 119, 97, 98, 108, 101])), (2, 1, .const (.str [77, 97, 116, 104, 70, 97, 117, 108, 116])), (3, 1, .const (.str [79, 111, 112, 115])), (4, 1, .const (.str [78, 117, 108, 108, 70, 97, 117, 108, 116]))]), v 54 0, o 55 (.nilcheck (t 54)), o 56 (.faddr (t 55) 0), o 57 (.load none (t 56)), o 58 (.callg 102 [t 57, n 5]), o 59 (.iaddr 1 (t 53) (t 58)), o 60 (.load none (t 59)), v 5 60])
  (.seq (R [0, 2, 3, 4, 5, 6] [v 61 5, v 6 61])
  (.seq (.seq (R [0, 2, 3, 4, 5, 6, 63] [v 62 6, o 63 (.bin .eql (t 62) (.const (.str [])))])
  (.after (.cond (t 63) (R [0, 2, 3, 4, 5, 6] [o 6 (.val (.const (.str [84, 104, 114, 111, 119, 97, 98, 108, 101])))]) (.skip)) [0, 2, 3, 4, 5, 6]))
  (.seq (R [0, 2, 3, 4, 5, 7] [v 64 0, v 65 6, o 66 (.bin .add (.const (.str [76])) (t 65)), o 67 (.bin .add (t 66) (.const (.str [59]))), o 68 (.mkslice 1 1 [.str []] [(0, 1, t 67)]), o 69 (.callg 100208 [t 64, t 68]), v 7 69])
  (.seq (R [0, 2, 3, 4, 5, 7] [v 70 0, o 71 (.callg 150 [t 70, .const (.int .u8 87), n 0])])
  (.seq (R [0, 2, 3, 4, 5, 7] [v 72 0, o 73 (.callg 209 [t 72])])
  (.seq (R [0, 2, 3, 4, 5, 7, 8] [v 74 0, o 75 (.callg 100208 [t 74, .const (.slice none 0 (some 0))]), v 8 75])
  (code187T0)))))))
def code187T2 : ACode :=
  .seq (R [0, 2, 3, 4] [v 36 0, o 37 (.nilcheck (t 36)), o 38 (.faddr (t 37) 1), o 39 (.load none (t 38)), o 40 (.len .sl (t 39)), v 4 40])
  (.seq (.seq (R [0, 2, 3, 4, 50] [v 41 0, o 42 (.nilcheck (t 41)), o 43 (.faddr (t 42) 1), o 44 (.load none (t 43)), v 45 4, o 46 (.bin .sub (t 45) (n 1)), o 47 (.iaddr 7 (t 44) (t 46)), o 48 (.faddr (t 47) 0), o 49 (.load none (t 48)), o 50 (.bin .eql (t 49) (.const (.int .u8 0)))])
  (.after (.cond (t 50) (R [0, 2, 3, 4] [v 51 0, o 52 (.callg 210 [t 51, .const (.int .u8 167)]), v 3 52]) (.skip)) [0, 2, 3, 4]))
  (code187T1))
def code187 : AFunc := ⟨false, false, 1, 100, [],
  .seq (R [0, 2] [v 9 0, o 10 (.nilcheck (t 9)), o 11 (.faddr (t 10) 1), o 12 (.load none (t 11)), o 13 (.len .sl (t 12)), v 2 13])
  (.seq (R [0, 2] [v 14 0, o 15 (.callg 209 [t 14])])
  (.seq (R [0, 2, 3] [o 3 (.val (.const (.int .i64 (-1))))])
  (.seq (.seq (R [0, 2, 3, 21] [v 16 0, o 17 (.nilcheck (t 16)), o 18 (.faddr (t 17) 0), o 19 (.load none (t 18)), o 20 (.callg 102 [t 19, n 3]), o 21 (.bin .eql (t 20) (n 1))])
  (.after (.cond (t 21) (.seq (R [0, 2, 3] [v 22 0, v 23 0, o 24 (.nilcheck (t 23)), o 25 (.faddr (t 24) 1), o 26 (.load none (t 25)), o 27 (.build [.int .u8 0, .int .i64 0, .int .i64 0, .str [], .str [], .str [], .str []] [(0, 1, .const (.int .u8 187)), (3, 1, .const (.str [79, 111, 112, 115]))]), o 28 (.mkslice 7 1 [.int .u8 0, .int .i64 0, .int .i64 0, .str [], .str [], .str [], .str []] [(0, 7, t 27)]), o 29 (.append 7 88 (t 26) (t 28)), o 30 (.nilcheck (t 22)), o 31 (.faddr (t 30) 1), u (.store 1 (t 31) (t 29))])
  (R [0, 2, 3] [v 32 0, o 33 (.callg 150 [t 32, .const (.int .u8 191), n 0])])) (R [0, 2, 3] [v 34 0, o 35 (.callg 150 [t 34, .const (.int .u8 0), n 0])])) [0, 2, 3]))
  (code187T2)))), none⟩
def code188B0 : ACode :=
  .seq (R [0, 6, 11] [o 12 (.bin .eql (t 6) (n 0)), v 11 12])
  (.after (.cond (t 11) (.seq (R [0] [v 13 0, o 14 (.callg 150 [t 13, .const (.int .u8 25), n 7])])
  (.seq (R [0] [v 15 0, o 16 (.callg 154 [t 15, .const (.int .u8 184), .const (.str [115, 121, 115]), .const (.str [97, 100, 100]), .const (.str [40, 91, 66, 41, 73])])])
  (R [] [v 17 0, o 18 (.callg 150 [t 17, .const (.int .u8 54), n 1])]))) (.seq (R [0, 6, 19] [o 20 (.bin .eql (t 6) (n 1)), v 19 20])
  (.after (.cond (t 19) (.seq (R [0] [v 21 0, o 22 (.callg 151 [t 21, n 1])])
  (.seq (R [0] [v 23 0, o 24 (.callg 154 [t 23, .const (.int .u8 184), .const (.str [115, 121, 115]), .const (.str [103, 101, 116]), .const (.str [40, 73, 41, 91, 66])])])
  (R [] [v 25 0, o 26 (.callg 150 [t 25, .const (.int .u8 58), n 7])]))) (.seq (R [0, 27] [o 28 (.bin .eql (t 6) (n 2)), v 27 28])
  (.after (.cond (t 27) (.seq (R [0] [v 29 0, o 30 (.callg 151 [t 29, n 1])])
  (.seq (R [0] [v 31 0, o 32 (.callg 150 [t 31, .const (.int .u8 25), n 7])])
  (R [] [v 33 0, o 34 (.callg 154 [t 33, .const (.int .u8 184), .const (.str [115, 121, 115]), .const (.str [115, 101, 116]), .const (.str [40, 73, 91, 66, 41, 86])])]))) (.seq (R [0] [v 7 0, o 8 (.callg 154 [t 7, .const (.int .u8 184), .const (.str [115, 121, 115]), .const (.str [99, 111, 117, 110, 116]), .const (.str [40, 41, 73])])])
  (R [] [v 9 0, o 10 (.callg 150 [t 9, .const (.int .u8 54), n 1])]))) []))) []))) [])
def code188 : AFunc := ⟨false, false, 1, 35, [],
  .seq (R [0, 6] [v 2 0, o 3 (.nilcheck (t 2)), o 4 (.faddr (t 3) 0), o 5 (.load none (t 4)), o 6 (.callg 102 [t 5, n 4])])
  (.after (.block 0 code188B0) []), none⟩
def code209L0 : ACode :=
  .live [0, 2] (.seq (.seq (R [0, 2, 18] [v 17 2, o 18 (.bin .gtr (t 17) (n 0))])
  (.after (.cond (t 18) (.skip) (.live [0] (.exit 0))) [0, 2]))
  (.seq (.after (.block 1 (R [0, 2] [v 21 0, o 22 (.callg 152 [t 21])])) [0, 2])
  (R [0, 2] [v 19 2, o 20 (.bin .sub (t 19) (n 1)), v 2 20])))
def code209 : AFunc := ⟨false, false, 1, 31, [],
  .seq (R [0] [v 3 0, v 4 0, o 5 (.nilcheck (t 4)), o 6 (.faddr (t 5) 4), o 7 (.load none (t 6)), o 8 (.bin .add (t 7) (n 1)), o 9 (.nilcheck (t 3)), o 10 (.faddr (t 9) 4), u (.store 1 (t 10) (t 8))])
  (.seq (.seq (R [0, 2] [v 11 0, o 12 (.nilcheck (t 11)), o 13 (.faddr (t 12) 0), o 14 (.load none (t 13)), o 15 (.callg 102 [t 14, n 3]), o 16 (.bin .add (n 1) (t 15)), v 2 16])
  (.after (.block 0 (.loop code209L0)) [0]))
  (R [] [v 23 0, v 24 0, o 25 (.nilcheck (t 24)), o 26 (.faddr (t 25) 4), o 27 (.load none (t 26)), o 28 (.bin .sub (t 27) (n 1)), o 29 (.nilcheck (t 23)), o 30 (.faddr (t 29) 4), u (.store 1 (t 30) (t 28))])), none⟩
def code210 : AFunc := ⟨false, false, 2, 14, [.tmp 4],
  .seq (R [0, 1] [o 4 (.val (n 0))])
  (.seq (R [0] [v 5 0, v 6 1, o 7 (.callg 150 [t 5, t 6, n 0])])
  (.seq (R [4] [v 8 0, o 9 (.nilcheck (t 8)), o 10 (.faddr (t 9) 1), o 11 (.load none (t 10)), o 12 (.len .sl (t 11)), o 13 (.bin .sub (t 12) (n 1)), v 4 13])
  (.live [4] (.ret)))), none⟩
def code222 : AFunc := ⟨false, false, 0, 2, [.tmp 0],
  .seq (R [] [o 0 (.val (.const (.slice none 0 (some 0))))])
  (.seq (R [0] [o 1 (.mkslice 1 7 [.str [], .str [], .str [], .str [], .str [], .str [], .str []] [(0, 1, .const (.str [73])), (1, 1, .const (.str [73])), (2, 1, .const (.str [73])), (3, 1, .const (.str [74])), (4, 1, .const (.str [76, 65, 59])), (5, 1, .const (.str [91, 73])), (6, 1, .const (.str [91, 66]))]), v 0 1])
  (.live [0] (.ret))), none⟩
def code100208 : AFunc := ⟨false, false, 2, 47, [.tmp 4],
  .seq (R [0, 1] [o 4 (.val (n 0))])
  (.seq (R [0, 1, 5] [v 7 0, o 8 (.nilcheck (t 7)), o 9 (.faddr (t 8) 1), o 10 (.load none (t 9)), o 11 (.len .sl (t 10)), v 5 11])
  (.seq (.seq (R [0, 1, 5, 6] [v 12 0, o 13 (.nilcheck (t 12)), o 14 (.faddr (t 13) 3), o 15 (.load none (t 14)), o 16 (.len .sl (t 15)), v 6 16])
  (.seq (R [0, 1, 5, 31] [v 17 6, o 18 (.bin .gtr (t 17) (n 0)), v 19 18, g 20 19 true (.val (t 0)), g 21 19 true (.nilcheck (t 20)), g 22 19 true (.faddr (t 21) 3), g 23 19 true (.load none (t 22)), g 24 19 true (.val (t 6)), g 25 19 true (.bin .sub (t 24) (n 1)), g 26 19 true (.iaddr 3 (t 23) (t 25)), g 27 19 true (.faddr (t 26) 0), g 28 19 true (.load none (t 27)), g 29 19 true (.val (t 5)), g 30 19 true (.bin .eql (t 28) (t 29)), o 31 (.pick (t 19) (t 30) F)])
  (.after (.cond (t 31) (.seq (R [4] [v 32 5, v 4 32])
  (.live [4] (.ret))) (.skip)) [0, 1, 5])))
  (.seq (.after (.region [⟨true, [0, 0, 2, 6, 14, 0, 0, 0, 224, 480, 1022], [v 33 0, v 34 0, o 35 (.nilcheck (t 34)), o 36 (.faddr (t 35) 3), o 37 (.load none (t 36)), v 38 5, o 39 (.callg 222 []), v 40 1, o 41 (.build [.int .i64 0, .slice none 0 (some 0), .slice none 0 (some 0)] [(0, 1, t 38), (1, 1, t 39), (2, 1, t 40)]), o 42 (.mkslice 3 1 [.int .i64 0, .slice none 0 (some 0), .slice none 0 (some 0)] [(0, 3, t 41)]), o 43 (.append 3 56 (t 37) (t 42))]⟩, ⟨false, [], [o 44 (.nilcheck (t 33)), o 45 (.faddr (t 44) 3), u (.store 1 (t 45) (t 43))]⟩]) [5])
  (.seq (R [4] [v 46 5, v 4 46])
  (.live [4] (.ret)))))), none⟩
def T : Nat → Option AFunc := fun g => match AbsHier.T g with
  | some f => some f
  | none => List.lookup g [(48, code48), (101, code101), (102, code102), (150, code150), (151, code151), (152, code152), (153, code153), (154, code154), (183, code183), (184, code184), (185, code185), (186, code186), (187, code187), (188, code188), (209, code209), (210, code210), (222, code222), (100208, code100208)]
theorem sub : ∀ g f, AbsHier.T g = some f → T g = some f := fun g f h => by unfold T; rw [h]
theorem t48 : T 48 = some code48 := rfl
theorem t101 : T 101 = some code101 := rfl
theorem t102 : T 102 = some code102 := rfl
theorem t150 : T 150 = some code150 := rfl
theorem t151 : T 151 = some code151 := rfl
theorem t152 : T 152 = some code152 := rfl
theorem t153 : T 153 = some code153 := rfl
theorem t154 : T 154 = some code154 := rfl
theorem t183 : T 183 = some code183 := rfl
theorem t184 : T 184 = some code184 := rfl
theorem t185 : T 185 = some code185 := rfl
theorem t186 : T 186 = some code186 := rfl
theorem t187 : T 187 = some code187 := rfl
theorem t188 : T 188 = some code188 := rfl
theorem t209 : T 209 = some code209 := rfl
theorem t210 : T 210 = some code210 := rfl
theorem t222 : T 222 = some code222 := rfl
theorem t100208 : T 100208 = some code100208 := rfl
end Go.Abs.AbsMake

/-
  The code of the functions, for the abstract machine: printed by a program.
-/
namespace Go.Abs.AbsOrd
set_option linter.unusedVariables false
set_option linter.unusedSimpArgs false
set_option maxRecDepth 100000
open Go.Abs.Short
-- base: AbsMake
def rcode319a : ACode :=
  R [3, 5, 6, 7] [v 7 13]
def rcode319b : ACode :=
  .after (.block 1 (.seq (R [6, 7, 17] [o 14 (.load none (t 3)), o 15 (.load none (t 5)), v 16 7, o 17 (.callg 52 [t 14, t 15, t 16])])
  (.after (.cond (t 17) (.seq (R [] [v 18 7, u (.store 1 (t 6) (t 18))])
  (.live [] (.ret))) (.skip)) []))) []
def round319 : ARound := ⟨[13], rcode319a, rcode319b⟩
def code319 : AFunc := ⟨false, false, 0, 0, [], .skip, some (.round round319)⟩
def code53 : AFunc := ⟨false, false, 3, 19, [.cell 6 none],
  .seq (R [1, 3, 5, 6] [o 3 (.box (t 0)), o 5 (.box (t 2)), o 6 (.alloc 1 [.str []])])
  (.seq (.seq (R [1, 3, 5, 6, 9] [o 8 (.load none (t 3)), o 9 (.eqnil .ptr false (t 8) (.const (.ptr none)))])
  (.after (.cond (t 9) (.seq (R [6] [u (.store 1 (t 6) (.const (.str [])))])
  (.live [6] (.ret))) (.skip)) [1, 3, 5, 6]))
  (.seq (.seq (R [3, 5, 6, 12] [o 10 (.load none (t 3)), v 11 1, o 12 (.callg 156 [t 10, t 11])])
  (.after (.block 0 (.after (.rangeFunc (t 12) 319 [3, 5, 6] [13] rcode319a rcode319b) [6])) [6]))
  (.seq (R [6] [u (.store 1 (t 6) (.const (.str [])))])
  (.live [6] (.ret))))), none⟩
def code55 : AFunc := ⟨false, false, 4, 97, [.tmp 8],
  .seq (R [0, 1, 2, 3] [o 8 (.val F)])
  (.seq (.seq (R [0, 1, 2, 3, 13] [o 12 (.callg 50 []), o 13 (.un .not (t 12))])
  (.after (.cond (t 13) (.seq (R [8] [o 8 (.val F)])
  (.live [8] (.ret))) (.skip)) [0, 1, 2, 3]))
  (.seq (.seq (R [0, 1, 2, 3, 27] [v 14 0, o 15 (.len .sl (t 14)), o 16 (.bin .gtr (t 15) (n 200)), v 17 16, g 18 17 false (.val (t 1)), g 19 17 false (.len .str (t 18)), g 20 17 false (.val (t 2)), g 21 17 false (.len .str (t 20)), g 22 17 false (.bin .add (t 19) (t 21)), g 23 17 false (.val (t 3)), g 24 17 false (.len .str (t 23)), g 25 17 false (.bin .add (t 22) (t 24)), g 26 17 false (.bin .gtr (t 25) (n 300)), o 27 (.pick (t 17) Y (t 26))])
  (.after (.cond (t 27) (.seq (R [8] [o 8 (.val Y)])
  (.live [8] (.ret))) (.skip)) [0, 1, 2, 3]))
  (.seq (R [1, 2, 3, 9, 10] [v 29 0, o 30 (.build [.slice none 0 (some 0), .int .i64 0] [(0, 1, t 29)]), o 31 (.box (t 30)), o 32 (.callg 48 [t 31]), o 33 (.callg 49 [t 32]), v 28 33, o 34 (.extract (t 28) 0), o 35 (.extract (t 28) 1), v 9 34, v 10 35])
  (.seq (R [1, 2, 3, 9, 10, 11] [v 36 9, v 37 1, v 38 2, o 39 (.callg 53 [t 36, t 37, t 38]), v 11 39])
  (.seq (.seq (R [1, 2, 3, 9, 11, 56] [v 40 10, o 41 (.bin .neq (t 40) (n 0)), v 42 41, g 43 42 false (.val (t 11)), g 44 42 false (.bin .eql (t 43) (.const (.str []))), g 45 42 false (.val (t 9)), g 46 42 false (.val (t 1)), g 47 42 false (.callg 54 [t 45, t 46]), g 48 42 false (.un .not (t 47)), g 49 42 false (.val (t 48)), g 50 49 false (.val (t 9)), g 51 49 false (.val (t 2)), g 52 49 false (.callg 54 [t 50, t 51]), g 53 49 false (.un .not (t 52)), g 54 42 false (.pick (t 49) Y (t 53)), g 55 42 false (.beq true (t 44) (t 54)), o 56 (.pick (t 42) Y (t 55))])
  (.after (.cond (t 56) (.seq (R [8] [o 8 (.val F)])
  (.live [8] (.ret))) (.skip)) [1, 2, 3, 9, 11]))
  (.seq (.seq (R [1, 2, 3, 9, 11, 58] [v 57 11, o 58 (.bin .eql (t 57) (.const (.str [])))])
  (.after (.cond (t 58) (.seq (R [8] [o 8 (.val Y)])
  (.live [8] (.ret))) (.skip)) [1, 2, 3, 9, 11]))
  (.seq (R [8] [v 59 9, v 60 1, v 61 11, o 62 (.callg 52 [t 59, t 60, t 61]), v 63 62, g 64 63 true (.val (t 9)), g 65 63 true (.val (t 2)), g 66 63 true (.val (t 11)), g 67 63 true (.callg 52 [t 64, t 65, t 66]), o 68 (.pick (t 63) (t 67) F), v 69 68, g 70 69 true (.val (t 9)), g 71 69 true (.val (t 2)), g 72 69 true (.val (t 1)), g 73 69 true (.callg 53 [t 70, t 71, t 72]), g 74 69 true (.val (t 11)), g 75 69 true (.bin .eql (t 73) (t 74)), o 76 (.pick (t 69) (t 75) F), v 77 76, g 78 77 true (.val (t 9)), g 79 77 true (.val (t 1)), g 80 77 true (.val (t 3)), g 81 77 true (.callg 52 [t 78, t 79, t 80]), g 82 77 true (.un .not (t 81)), g 83 77 true (.val (t 82)), g 84 83 false (.val (t 9)), g 85 83 false (.val (t 2)), g 86 83 false (.val (t 3)), g 87 83 false (.callg 52 [t 84, t 85, t 86]), g 88 83 false (.un .not (t 87)), g 89 77 true (.pick (t 83) Y (t 88)), g 90 77 true (.val (t 89)), g 91 90 false (.val (t 9)), g 92 90 false (.val (t 11)), g 93 90 false (.val (t 3)), g 94 90 false (.callg 52 [t 91, t 92, t 93]), g 95 77 true (.pick (t 90) Y (t 94)), o 96 (.pick (t 77) (t 95) F), v 8 96])
  (.live [8] (.ret))))))))), none⟩
def T : Nat → Option AFunc := fun g => match AbsMake.T g with
  | some f => some f
  | none => List.lookup g [(319, code319), (53, code53), (55, code55)]
theorem sub : ∀ g f, AbsMake.T g = some f → T g = some f := fun g f h => by unfold T; rw [h]
theorem t319 : T 319 = some code319 := rfl
theorem t53 : T 53 = some code53 := rfl
theorem t55 : T 55 = some code55 := rfl
end Go.Abs.AbsOrd

/-
  Layer 12: what its functions compute: bytes of names; one byte sought.
-/
namespace Go.Abs.AbsDesc
set_option linter.unusedVariables false
set_option linter.unusedSimpArgs false
set_option maxRecDepth 100000
variable {os : List AObj} {b w : Nat}
def wordN (n : Nat) : Bool := (decide (97 ≤ n) && decide (n ≤ 122)) || (decide (65 ≤ n) && decide (n ≤ 90)) || (decide (48 ≤ n) && decide (n ≤ 57)) || decide (n = 95) || decide (n = 36)
theorem s226 {s : List UInt8} {c : Int} {h : Heap} : xCall T 226 [.str s, .int .u8 c] h = some (.int .i64 (Lib.indexByte s c.toNat.toUInt8), h) := by
  obtain ⟨os, b, w⟩ := h
  simp [xCall_eq T t226, code226, evPrim]
theorem s205 {s : List UInt8} {c : UInt8} {h : Heap} : xCall T 205 [.str s, .str [c]] h = some (.int .i64 (Lib.indexByte s c), h) := by
  obtain ⟨os, b, w⟩ := h
  by_cases e : [c] = s
  · subst e
    simp [xCall_eq T t205, code205, s226, inBounds, Lib.indexByte]
  · simp [xCall_eq T t205, code205, s226, inBounds, e]
theorem s173 {s : List UInt8} {c : UInt8} {h : Heap} : xCall T 173 [.str s, .str [c]] h = some (.int .i64 (Lib.indexByte s c), h) := by
  obtain ⟨os, b, w⟩ := h
  simp [xCall_eq T t173, code173, s205]
theorem s174 {s : List UInt8} {c : UInt8} {h : Heap} : xCall T 174 [.str s, .str [c]] h = some (.int .i64 (Lib.countByte s c), h) := by
  obtain ⟨os, b, w⟩ := h
  simp [xCall_eq T t174, code174, evPrim, inBounds]
theorem s146 {n : Nat} {h : Heap} : xCall T 146 [.int .u8 n] h = some (.bool (!wordN n), h) := by
  obtain ⟨os, b, w⟩ := h
  by_cases c1 : 97 ≤ n <;> by_cases c2 : n ≤ 122
  · have d1 : (97 : Int) ≤ n := by omega
    have d2 : (n : Int) ≤ 122 := by omega
    simp [xCall_eq T t146, code146, wordN, c1, c2, d1, d2]
  all_goals
    by_cases c3 : 65 ≤ n <;> by_cases c4 : n ≤ 90 <;> by_cases c5 : 48 ≤ n <;> by_cases c6 : n ≤ 57 <;> (try (exfalso; omega)) <;> by_cases c7 : n = 95 <;> (try (exfalso; omega)) <;> by_cases c8 : n = 36 <;> (try (exfalso; omega))
    all_goals
      have e1 : ((97 : Int) ≤ n) = (97 ≤ n) := by apply propext; omega
      have e2 : ((n : Int) ≤ 122) = (n ≤ 122) := by apply propext; omega
      have e3 : ((65 : Int) ≤ n) = (65 ≤ n) := by apply propext; omega
      have e4 : ((n : Int) ≤ 90) = (n ≤ 90) := by apply propext; omega
      have e5 : ((48 : Int) ≤ n) = (48 ≤ n) := by apply propext; omega
      have e6 : ((n : Int) ≤ 57) = (n ≤ 57) := by apply propext; omega
      have e7 : ((n : Int) = 95) = (n = 95) := by apply propext; omega
      have e8 : ((n : Int) = 36) = (n = 36) := by apply propext; omega
      simp [xCall_eq T t146, code146, wordN, e1, e2, e3, e4, e5, e6, e7, e8, c1, c2, c3, c4, c5, c6, c7, c8]
end Go.Abs.AbsDesc

/-
  Layer 12: what its functions compute: parts of names.
-/
namespace Go.Abs.AbsDesc
set_option linter.unusedVariables false
set_option linter.unusedSimpArgs false
set_option maxRecDepth 100000
variable {os : List AObj} {b w : Nat}
def firstIx {α : Type} (p : α → Bool) : List α → Nat → Int
  | [], _ => -1
  | x :: l, i => if p x then i else firstIx p l (i + 1)
theorem firstIx_ge {α : Type} (p : α → Bool) : ∀ (l : List α) (i : Nat), (decide (0 ≤ firstIx p l i)) = l.any p
  | [], i => by simp [firstIx]
  | x :: l, i => by
    simp only [firstIx, List.any_cons]
    by_cases h : p x = true
    · simp [h]
    · simp only [Bool.not_eq_true] at h
      simp [h, firstIx_ge p l (i + 1)]
theorem firstIx_none {α : Type} (p : α → Bool) : ∀ (l : List α) (i : Nat), (∀ x ∈ l, p x = false) → firstIx p l i = -1
  | [], _, _ => rfl
  | x :: l, i, h => by
    simp only [firstIx, h x (List.mem_cons_self ..), Bool.false_eq_true, if_false]
    exact firstIx_none p l (i + 1) fun y hy => h y (List.mem_cons_of_mem _ hy)
theorem firstIx_at {α : Type} (p : α → Bool) : ∀ (l : List α) (i j : Nat) (x : α), l[j]? = some x → p x = true → (∀ k, k < j → ∀ y, l[k]? = some y → p y = false) → firstIx p l i = (i + j : Nat)
  | [], i, j, x, h, _, _ => by simp at h
  | y :: l, i, 0, x, h, hp, _ => by
    simp at h; subst h
    simp [firstIx, hp]
  | y :: l, i, j + 1, x, h, hp, hb => by
    have h0 := hb 0 (by omega) y rfl
    simp only [firstIx, h0, Bool.false_eq_true, if_false]
    rw [firstIx_at p l (i + 1) j x (by simpa using h) hp (fun k hk z hz => hb (k + 1) (by omega) z (by simpa using hz))]
    congr 1; omega
theorem loop_find {T : Nat → Option AFunc} {α : Type} {c : ACode} (p : α → Bool) (L : List α) (st : Nat → St) (out : Nat → St) (e1 e2 : AExit) (fin : St)
    (hs : ∀ (i : Nat) x, L[i]? = some x → xCode T c (st i) = some (if p x then (e1, out i) else (.normal, st (i + 1)))) (h1 : e1 ≠ .normal) (h2 : e2 ≠ .normal) (hx : xCode T c (st L.length) = some (e2, fin)) :
    (L.any p = false ∧ xCode T (.loop c) (st 0) = some (e2, fin)) ∨ ∃ (j : Nat) (x : α), L[j]? = some x ∧ p x = true ∧ (∀ k, k < j → ∀ y, L[k]? = some y → p y = false) ∧ xCode T (.loop c) (st 0) = some (e1, out j) := by
  rcases first_bad (fun x => p x = false) L with h | ⟨j, x, h3, h4, h5⟩
  · left
    refine ⟨by rw [List.any_eq_false]; exact fun x hx => by simp [h x hx], ?_⟩
    refine loop_all st L.length (fun i hi => ?_) h2 hx
    obtain ⟨x, hx⟩ : ∃ x, L[i]? = some x := ⟨_, List.getElem?_eq_getElem hi⟩
    rw [hs i x hx, h x (List.mem_of_getElem? hx)]
    rfl
  · right
    simp only [Bool.not_eq_false] at h4
    refine ⟨j, x, h3, h4, h5, ?_⟩
    refine loop_all st j (fun i hi => ?_) h1 (by rw [hs j x h3, h4]; rfl)
    obtain ⟨y, hy⟩ : ∃ y, L[i]? = some y := ⟨_, List.getElem?_eq_getElem (Nat.lt_trans hi (get_lt h3))⟩
    rw [hs i y hy, h5 i hi y hy]
    rfl
def byteCell (c : UInt8) : List AVal := [.int .u8 c.toNat]
def strCell (s : List UInt8) : List AVal := [.str s]
theorem s176 {L : List UInt8} {a : Option (Nat × Nat)} {c : Option Nat} {g : Nat} {p : UInt8 → Bool} (hR : Row os 1 byteCell L a) (hn : L.length ≤ 9223372036854775807)
    (hg : ∀ (x : UInt8) (w : Nat), xCall T g [.int .u8 x.toNat] ⟨os, b, w⟩ = some (.bool (p x), ⟨os, b, w⟩)) :
    xCall T 176 [.slice a L.length c, .func g [] []] ⟨os, b, w⟩ = some (.int .i64 (firstIx p L 0), ⟨os, b, w⟩) := by
  have hl := loop_find (T := T) (c := code176L0) p L (fun i => ⟨[(0, .val (.slice a L.length c)), (1, .val (.func g [] [])), (7, .val (.int .i64 L.length)), (8, .val (.int .i64 i))], ⟨os, b, os.length⟩⟩)
    (fun i => ⟨[(4, .val (.int .i64 i))], ⟨os, b, os.length⟩⟩) .ret (.exit 0) ⟨[], ⟨os, b, os.length⟩⟩ ?_ (by simp) (by simp) (by simp [code176L0])
  · rcases hl with ⟨h1, h2⟩ | ⟨j, x, h1, h2, h3, h4⟩
    · rw [List.any_eq_false] at h1
      rw [firstIx_none p L 0 fun x hx => by simpa using h1 x hx]
      simp only [Int.cast_ofNat_Int] at h2
      simp [xCall_eq T t176, code176, h2]
    · rw [firstIx_at p L 0 j x h1 h2 h3]
      simp only [Int.cast_ofNat_Int] at h4
      simp [xCall_eq T t176, code176, h4]
  · intro i x hx
    obtain ⟨bb, o, cs, rfl, hrow, hpart⟩ := hR.at' (ne_of_get hx)
    obtain ⟨p1, p2⟩ := hpart i x hx
    have hw := wrap_next (get_lt hx) hn
    have hi' : (i : Int) < (L.length : Int) := by have := get_lt hx; omega
    have hge : (0 : Int) ≤ i := by omega
    have q3 : (List.take 1 (List.drop (o + i * 1) cs))[0]? = some (.int .u8 x.toNat) := by rw [p2]; rfl
    have q4 : cs[o + i]? = some (.int .u8 x.toNat) := by simpa using q3
    by_cases hp : p x = true
    · simp [code176L0, hi', hge, hrow, q4, hg, hp]
    · simp [code176L0, hi', hge, hrow, q4, hg, hp, hw]
theorem s142 {L : List (List UInt8)} {a : Option (Nat × Nat)} {c : Option Nat} {g : Nat} {p : List UInt8 → Bool} (hR : Row os 1 strCell L a) (hn : L.length ≤ 9223372036854775807)
    (hg : ∀ x ∈ L, ∀ (w : Nat), xCall T g [.str x] ⟨os, b, w⟩ = some (.bool (p x), ⟨os, b, w⟩)) :
    xCall T 142 [.slice a L.length c, .func g [] []] ⟨os, b, w⟩ = some (.int .i64 (firstIx p L 0), ⟨os, b, w⟩) := by
  have hl := loop_find (T := T) (c := code142L0) p L (fun i => ⟨[(0, .val (.slice a L.length c)), (1, .val (.func g [] [])), (7, .val (.int .i64 L.length)), (8, .val (.int .i64 i))], ⟨os, b, os.length⟩⟩)
    (fun i => ⟨[(4, .val (.int .i64 i))], ⟨os, b, os.length⟩⟩) .ret (.exit 0) ⟨[], ⟨os, b, os.length⟩⟩ ?_ (by simp) (by simp) (by simp [code142L0])
  · rcases hl with ⟨h1, h2⟩ | ⟨j, x, h1, h2, h3, h4⟩
    · rw [List.any_eq_false] at h1
      rw [firstIx_none p L 0 fun x hx => by simpa using h1 x hx]
      simp only [Int.cast_ofNat_Int] at h2
      simp [xCall_eq T t142, code142, h2]
    · rw [firstIx_at p L 0 j x h1 h2 h3]
      simp only [Int.cast_ofNat_Int] at h4
      simp [xCall_eq T t142, code142, h4]
  · intro i x hx
    obtain ⟨bb, o, cs, rfl, hrow, hpart⟩ := hR.at' (ne_of_get hx)
    obtain ⟨p1, p2⟩ := hpart i x hx
    have hw := wrap_next (get_lt hx) hn
    have hi' : (i : Int) < (L.length : Int) := by have := get_lt hx; omega
    have hge : (0 : Int) ≤ i := by omega
    have q3 : (List.take 1 (List.drop (o + i * 1) cs))[0]? = some (.str x) := by rw [p2]; rfl
    have q4 : cs[o + i]? = some (.str x) := by simpa using q3
    have hgx := hg x (List.mem_of_getElem? hx)
    by_cases hp : p x = true
    · simp [code142L0, hi', hge, hrow, q4, hgx, hp]
    · simp [code142L0, hi', hge, hrow, q4, hgx, hp, hw]
theorem s145 {L : List UInt8} {a : Option (Nat × Nat)} {c : Option Nat} {g : Nat} {p : UInt8 → Bool} (hR : Row os 1 byteCell L a) (hn : L.length ≤ 9223372036854775807)
    (hg : ∀ (x : UInt8) (w : Nat), xCall T g [.int .u8 x.toNat] ⟨os, b, w⟩ = some (.bool (p x), ⟨os, b, w⟩)) :
    xCall T 145 [.slice a L.length c, .func g [] []] ⟨os, b, w⟩ = some (.bool (L.any p), ⟨os, b, w⟩) := by
  have h := s176 (w := os.length) (c := c) hR hn hg
  have h2 := firstIx_ge p L 0
  simp [xCall_eq T t145, code145, h, h2]
theorem s91 {L : List (List UInt8)} {a : Option (Nat × Nat)} {c : Option Nat} {g : Nat} {p : List UInt8 → Bool} (hR : Row os 1 strCell L a) (hn : L.length ≤ 9223372036854775807)
    (hg : ∀ x ∈ L, ∀ (w : Nat), xCall T g [.str x] ⟨os, b, w⟩ = some (.bool (p x), ⟨os, b, w⟩)) :
    xCall T 91 [.slice a L.length c, .func g [] []] ⟨os, b, w⟩ = some (.bool (L.any p), ⟨os, b, w⟩) := by
  have h := s142 (w := os.length) (c := c) hR hn hg
  have h2 := firstIx_ge p L 0
  simp [xCall_eq T t91, code91, h, h2]
theorem flat_bytes : ∀ s : List UInt8, (s.map fun c => AVal.int .u8 c.toNat) = s.flatMap byteCell
  | [] => rfl
  | c :: s => by
    rw [List.map_cons, List.flatMap_cons, flat_bytes s]
    rfl
def wordL (s : List UInt8) : Bool := !s.isEmpty && s.all fun c => wordN c.toNat
theorem any_not {α : Type} (p : α → Bool) : ∀ l : List α, (l.any fun x => !p x) = !l.all p
  | [] => rfl
  | x :: l => by rw [List.any_cons, List.all_cons, any_not p l, Bool.not_and]
theorem s144 {s : List UInt8} (hn : s.length ≤ 9223372036854775807) : xCall T 144 [.str s] ⟨os, b, w⟩ = some (.bool (wordL s), ⟨os, b, w⟩) := by
  have h := fun w => s145 (os := os ++ [.cells 1 (s.map fun c => AVal.int .u8 c.toNat)]) (b := b) (w := w) (L := s) (a := some (os.length, 0)) (c := none) (g := 146) (p := fun x => !wordN x.toNat)
    (Row.mk0 (fun _ => rfl) (by rw [← flat_bytes]; simp)) hn (fun x w => s146)
  by_cases e : s = []
  · subst e
    simp [xCall_eq T t144, code144, wordL]
  · have he : s.isEmpty = false := by cases s <;> simp_all
    simp [xCall_eq T t144, code144, wordL, h, e, he, any_not]
theorem s92 {s : List UInt8} (hn : s.length ≤ 9223372036854775807) : xCall T 92 [.str s] ⟨os, b, w⟩ = some (.bool (!wordL s), ⟨os, b, w⟩) := by
  have h := fun w => s144 (os := os) (b := b) (w := w) hn
  simp [xCall_eq T t92, code92, h]
end Go.Abs.AbsDesc
