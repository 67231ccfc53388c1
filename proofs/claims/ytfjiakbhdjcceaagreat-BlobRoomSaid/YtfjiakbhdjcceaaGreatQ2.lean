/-
  Texts joined.
-/
import Derived.Test.YtfjiakbhdjcceaaGreatQ0
import Derived.Test.YtfjiakbhdjcceaaGreatQ1
import Derived.Calls
import Derived.Laws.Sem
import Derived.Laws.Cells
import Derived.Laws.Strings
import Derived.Laws.Entries
import Derived.Deep.AppendSrc
import Derived.WalkSpells
import Derived.Laws.IdiomStrings
import Derived.Laws.BytesArg
import Derived.Lib.AppendZerosOnto
set_option linter.unusedVariables false
set_option linter.unusedSimpArgs false
set_option maxRecDepth 100000
namespace Go.Abs
theorem qZ {α:Type _} {a:α} {l:List α}:(a :: l)[0]? = some a:=List.getElem?_cons_zero
theorem qS {α:Type _} {a:α} {l:List α} {i:Nat}:(a :: l)[i+1]? = l[i]?:=List.getElem?_cons_succ
def Le {α:Type} (a b:Option α):Prop:=∀ r,a=some r→b=some r
theorem Le.refl {α:Type} (a:Option α):Le a a:=fun _ h=>h
def CallLe (c d:CallSem):Prop:=∀ g args h,Le (c g args h) (d g args h)
theorem CallLe.refl (c:CallSem):CallLe c c:=fun _ _ _=>Le.refl _
theorem CallLe.trans {a b c:CallSem} (h:CallLe a b) (k:CallLe b c):CallLe a c:=fun g aZ e r hr=>k g aZ e r (h g aZ e r hr)
theorem Le.map {α β:Type} {a b:Option α} (f:α→β) (h:Le a b):Le (a.map f) (b.map f):=by
 intro r hr;cases a with
 | none=>simp at hr
 | some x=>rw [h x rfl]; exact hr
theorem evOp_mono {c d:CallSem} (e:CallLe c d) (dst:Nat) (o:AOp) (s:Slots) (h:Heap):Le (c7 c dst o s h) (c7 d dst o s h):=by
 cases o with
 | call f args =>
  intro r hr;simp only [c7] at hr ⊢;split at hr
  ·exact Le.map _ (e _ _ _) r hr
  ·split at hr
   ·exact Le.map _ (e _ _ _) r hr
   ·exact hr
  ·exact hr
 | callg g args =>
  intro r hr;simp only [c7] at hr ⊢;split at hr
  ·exact Le.map _ (e _ _ _) r hr
  ·exact hr
 | _=>exact fun r hr=>hr
theorem za8 {c d:CallSem} (e:CallLe c d) (o:AOper) (s:Slots) (h:Heap):Le (evRun c o s h) (evRun d o s h):=by
 intro r hr;unfold evRun at hr ⊢;split at hr
 ·rename_i x p h' j;rw [evOp_mono e _ _ _ _ _ j]; exact hr
 ·simp at hr
theorem kv {c d:CallSem} (e:CallLe c d) (o:AOper) (s:Slots) (h:Heap):Le (dy c o s h) (dy d o s h):=by
 intro r hr;unfold dy at hr ⊢;split at hr
 ·exact za8 e _ _ _ r hr
 ·split at hr
  ·split at hr
   ·rename_i h1; simp only [if_pos h1]; exact za8 e _ _ _ r hr
   ·rename_i h1; simp only [if_neg h1]; exact hr
  ·exact hr
  ·simp at hr
theorem rv {c d:CallSem} (e:CallLe c d):∀ (l:List AOper) (s:Slots) (h:Heap),Le (evOps c l s h) (evOps d l s h)
 | [],_,_=>Le.refl _
 | o :: l,s,h=>by
  intro r hr;simp only [evOps] at hr ⊢;split at hr
  ·rename_i p h' j;rw [kv e _ _ _ _ j]; exact rv e l _ _ r hr
  ·simp at hr
theorem ry {c d:CallSem} (e:CallLe c d):∀ (l:List AOper) (s:Slots) (h:Heap),Le (evQuiet c l s h) (evQuiet d l s h)
 | [],_,_=>Le.refl _
 | o :: l,s,h=>by
  intro r hr;simp only [evQuiet] at hr ⊢;split at hr
  ·rename_i p h' j;rw [kv e _ _ _ _ j];simp only;split at hr
   ·rename_i h1; rw [if_pos h1]; exact ry e l _ _ r hr
   ·simp at hr
  ·simp at hr
theorem qo {c d:CallSem} (e:CallLe c d):∀ (V:List Nat) (l:List AOper) (s:Slots) (h:Heap),Le (evQuietV c V l s h) (evQuietV d V l s h)
 | _,[],_,_=>Le.refl _
 | V,o :: l,s,h=>by
  intro r hr;simp only [evQuietV] at hr ⊢;split at hr
  ·rename_i p h' j;rw [kv e _ _ _ _ j];simp only;split at hr
   ·rename_i h1; rw [if_pos h1]; exact qo e V l _ _ r hr
   ·simp at hr
  ·simp at hr
theorem evQ_mono {c d:CallSem} (e:CallLe c d) (l:List AOper) (s:Slots) (h:Heap):Le (evQ c l s h) (evQ d l s h):=by
 unfold evQ;split
 ·exact ry e _ _ _
 ·split
  ·exact qo e _ _ _ _
  ·exact Le.refl _
theorem wp {c d:CallSem} (e:CallLe c d) (n0 m:Nat) (ds:List Did) (o:AOper) (s:Slots) (h:Heap):Le (lj c n0 m ds o s h) (lj d n0 m ds o s h):=by
 intro r hr;unfold lj at hr ⊢;split at hr
 ·cases hr
 ·rename_i h1;rw [if_neg h1];split at hr
  ·rename_i h2;rw [if_pos h2];split at hr
   ·cases hr
   ·rename_i p h' j;rw [kv e _ _ _ _ j];exact hr
  ·rename_i h2;rw [if_neg h2];exact hr
theorem rz {c d:CallSem} (e:CallLe c d) (n0:Nat):∀ (ops:List AOper) (ms:List Nat) (ds:List Did) (s:Slots) (h:Heap),Le (ik c n0 ms ops ds s h) (ik d n0 ms ops ds s h)
 | [],_,_,_,_=>fun r hr=>by simp only [ik] at hr ⊢; exact hr
 | o :: l,ms,ds,s,h=>by
  intro r hr;simp only [ik] at hr ⊢;split at hr
  ·rename_i y h' x j;rw [wp e _ _ _ _ _ _ _ j];simp only;split at hr
   ·rename_i h1; rw [if_pos h1]; exact rz e n0 l _ _ _ _ r hr
   ·cases hr
  ·cases hr
theorem yx {c d:CallSem} (e:CallLe c d) (ms:List Nat) (ops:List AOper) (s:Slots) (h:Heap):Le (uq c ms ops s h) (uq d ms ops s h):=rz e _ _ _ _ _ _
theorem qk {c d:CallSem} (e:CallLe c d):∀ (l:List Seg) (s:Slots) (h:Heap),Le (jh c l s h) (jh d l s h)
 | [],_,_=>Le.refl _
 | g :: l,s,h=>by
  intro r hr;simp only [jh] at hr ⊢;split at hr
  ·rename_i y h' p
   have:(if g.quiet=true then (if g.soft=[] then evQ d g.ops s h else uq d g.soft g.ops s h) else evOps d g.ops s h)=some (y,h'):=by
    split at p
    ·rename_i q;rw [if_pos q];split at p
     ·rename_i j; rw [if_pos j]; exact evQ_mono e _ _ _ _ p
     ·rename_i j; rw [if_neg j]; exact yx e _ _ _ _ _ p
    ·rename_i q; rw [if_neg q]; exact rv e _ _ _ _ p
   rw [this]; exact qk e l _ _ r hr
  ·simp at hr
theorem r0 {f g:St→Option (AExit × St)} (e:∀ st,Le (f st) (g st)):∀ (n m:Nat) (st:St),n≤m→Le (loopN f n st) (loopN g m st)
 | 0,_,_,_=>by intro r hr; simp [loopN] at hr
 | n+1,0,_,h=>absurd h (by omega)
 | n+1,m+1,st,h=>by
  intro r hr;simp only [loopN] at hr ⊢;split at hr
  ·rename_i st' j;rw [e _ _ j]; exact r0 e n m st' (by omega) r hr
  ·rename_i p;rw [e _ _ hr];split
   ·rename_i st' j; cases j; exact absurd hr (p _)
   ·rfl
theorem jn {c d:CallSem} (y:CallLe c d) {n m:Nat} (A:n≤m):∀ (x:ACode) (st:St),Le (da c n x st) (da d m x st):=by
 intro x;induction x with
 | skip=>exact fun _=>Le.refl _
 | region gs=>exact fun st=>Le.map _ (qk y _ _ _)
 | seq a b iha ihb =>
  intro st r hr;simp only [da] at hr ⊢;split at hr
  ·rename_i st' p; rw [iha _ _ p]; exact ihb _ _ hr
  ·rename_i q;rw [iha _ _ hr];split
   ·rename_i st' p; cases p; exact absurd hr (q _)
   ·rfl
 | cond c t e iht ihe =>
  intro st r hr;simp only [da] at hr ⊢;split at hr
  ·exact iht _ _ hr
  ·exact ihe _ _ hr
  ·simp at hr
 | block id a ih =>
  intro st r hr;simp only [da] at hr ⊢;split at hr
  ·rename_i j st' p; rw [ih _ _ p]; exact hr
  ·rename_i q;rw [ih _ _ hr];split
   ·rename_i j st' p; cases p; exact absurd hr (q _ _)
   ·rfl
 | loop a ih=>exact fun st=>r0 ih n m st A
 | exit id=>exact fun _=>Le.refl _
 | ret=>exact fun _=>Le.refl _
 | live l a ih=>exact fun st=>ih _
 | after a l ih =>
  intro st r hr;simp only [da] at hr ⊢;split at hr
  ·rename_i st' p; rw [ih _ _ p]; exact hr
  ·rename_i q;rw [ih _ _ hr];split
   ·rename_i st' p; cases p; exact absurd hr (q _)
   ·rfl
 | rangeFunc f g caps ps a b _ _ =>
  intro st r hr;simp only [da] at hr ⊢;split at hr
  ·rename_i B sl _ _;split at hr
   ·rename_i x h' p
    have:callVal d B [.yield st.h.size] (st.h.push (.loop g .ready none sl))=some (x,h'):=by
     unfold callVal at p ⊢;split at p
     ·exact y _ _ _ _ p
     ·cases p
    rw [this]; exact hr
   ·cases hr
  ·cases hr
 | next d x=>intro st; exact Le.refl _
theorem sd {g i:Nat} {a b:Option (AExit × St)} (e:Le a b):Le (mg g i a) (mg g i b):=by
 intro r hr;cases a with
 | none=>simp [mg] at hr
 | some x=>rw [e x rfl]; exact hr
theorem qp {h:Heap} {g i:Nat} {a b:Option (AExit × St)} (e:Le a b):Le (roundOut h g i a) (roundOut h g i b):=by
 intro r hr;cases a with
 | none=>simp [roundOut] at hr
 | some x=>rw [e x rfl]; exact hr
theorem wq {c d:CallSem} (e:CallLe c d) {n m:Nat} (j:n≤m) (g:Nat) (r:ARound) (args:List AVal) (h:Heap):Le (evRound c n g r args h) (evRound d m g r args h):=by
 intro x hx;unfold evRound at hx ⊢;split at hx
 ·split at hx
  ·rename_i h1;rw [if_pos h1];split at hx
   ·split at hx
    ·rename_i st p;rw [sd (jn e j _ _) _ p];exact qp (jn e j _ _) _ hx
    ·cases hx
   ·cases hx
  ·cases hx
 ·cases hx
theorem og {α β:Type} {f g:α→Option (List β)} (e:∀ x,Le (f x) (g x)):∀ l:List α,Le (flatL f l) (flatL g l)
 | []=>Le.refl _
 | x :: l=>by
  intro r hr;simp only [flatL] at hr ⊢;split at hr;case h_2=>cases hr
  rename_i a b h1 h2;rw [e x a h1,og e l b h2];exact hr
theorem v5 {f g:St→Option (List (AExit × St))} (e:∀ st,Le (f st) (g st)):∀ (n m:Nat) (st:St),n≤m→Le (loopO f n st) (loopO g m st)
 | 0,m,st,_=>by intro r hr; simp [loopO] at hr
 | n+1,0,st,h=>by omega
 | n+1,m+1,st,h=>by
  intro r hr;simp only [loopO] at hr ⊢;split at hr;case h_2=>cases hr
  rename_i l h1;rw [e st l h1];refine og (fun x=>?_) l r hr;split
  ·exact v5 e n m _ (by omega)
  ·exact Le.refl _
theorem x7 {c d:CallSem} (p:CallLe c d) {n m:Nat} (j:n≤m):∀ (x:ACode) (st:St),Le (eg c n x st) (eg d m x st):=by
 have base:∀ (x:ACode) (st:St),Le ((da c n x st).map fun x=>[x]) ((da d m x st).map fun x=>[x]):=fun x st=>Le.map _ (jn p j x st)
 intro x;induction x with
 | skip=>exact base _
 | region gs=>exact base _
 | exit id=>exact base _
 | ret=>exact base _
 | rangeFunc f g caps ps a b _ _=>exact base _
 | seq a b iha ihb =>
  intro st r hr;simp only [eg] at hr ⊢;split at hr;case h_2=>cases hr
  rename_i l h1;rw [iha st l h1];refine og (fun x=>?_) l r hr;split
  ·exact ihb _
  ·exact Le.refl _
 | cond c t e iht ihe =>
  intro st r hr;simp only [eg] at hr ⊢;split at hr
  ·exact iht _ _ hr
  ·exact ihe _ _ hr
  ·cases hr
 | block id a ih=>intro st; simp only [eg]; exact Le.map _ (ih st)
 | loop a ih=>intro st; exact v5 ih n m st j
 | live l a ih=>intro st; simp only [eg]; exact ih _
 | after a l ih=>intro st; simp only [eg]; exact Le.map _ (ih st)
 | next d x=>intro st; exact Le.refl _
def outcome (f:AFunc) (h:Heap):Option (AExit × St)→Option (AVal × Heap)
 | some (.normal,st) | some (.ret,st)=>(resultsL st.s st.h f.results).map fun vs=>dj h (tupled vs) st.h
 | _=>none
theorem outcome_some (f:AFunc) (h:Heap) (x:AExit × St):outcome f h (some x)=funcEnd f h x:=by obtain ⟨e,st⟩:=x;cases e <;> rfl
theorem evFunc_eq (c:CallSem) (n:Nat) (f:AFunc) (args:List AVal) (h:Heap) (hw:f.wild=false) :
  evFunc c n f args h=if args.length=f.nargs then outcome f h (da c n f.body ⟨enter 0 args,{ h with wmin:=h.size }⟩) else none:=by
 unfold evFunc;split
 ·rw [hw];simp only [cg,if_false];split
  ·rename_i x hx;rw [hx,outcome_some]
  ·rename_i hx;rw [hx]; rfl
 ·rfl
theorem outcome_mono (f:AFunc) (h:Heap) {a b:Option (AExit × St)} (e:Le a b):Le (outcome f h a) (outcome f h b):=by
 intro r hr;cases a with
 | none=>simp [outcome] at hr
 | some x=>rw [e x rfl]; exact hr
theorem yy {c d:CallSem} (e:CallLe c d) {n m:Nat} (j:n≤m) (f:AFunc) (args:List AVal) (h:Heap):Le (evFunc c n f args h) (evFunc d m f args h):=by
 intro r hr;unfold evFunc at hr ⊢;split at hr;case isFalse=>cases hr
 rename_i p;rw [if_pos p];split at hr
 ·rename_i hw;rw [if_pos hw];split at hr;case h_2=>cases hr
  rename_i l h1;rw [x7 e j _ _ l h1];exact hr
 ·rename_i hw;rw [if_neg hw];split at hr;case h_2=>cases hr
  rename_i x h1;rw [jn e j _ _ x h1];exact hr
theorem v6 {r e:List AVal→Heap→Option (AVal × Heap)} (hr:∀ args h,Le (r args h) (e args h)) (c:Bool) (args:List AVal) (h:Heap):Le (wrapC c r args h) (wrapC c e args h):=by
 cases c with
 | false=>exact hr args h
 | true =>
  intro x hx;simp only [wrapC,evClosed,if_true] at hx ⊢;split at hx
  ·rename_i j;rw [if_pos j];split at hx
   ·rename_i v h' p;rw [hr _ _ _ p]; exact hx
   ·cases hx
  ·cases hx
theorem se (T:Nat→Option AFunc):∀ n,CallLe (du T n) (du T (n+1))
 | 0=>by intro g args h r hr; simp [du] at hr
 | n+1=>by
  intro g args h;simp only [du];split
  ·split
   ·exact wq (se T n) (by omega) _ _ _ _
   ·exact Le.refl _
   ·exact v6 (fun args h=>yy (se T n) (by omega) _ _ _) _ _ _
  ·exact Le.refl _
theorem gg (T:Nat→Option AFunc) {n m:Nat} (h:n≤m):CallLe (du T n) (du T m):=by
 induction h with
 | refl=>exact CallLe.refl _
 | step _ ih=>exact ih.trans (se T _)
open Classical in
noncomputable def Lim {α:Type} (F:Nat→Option α):Option α:=if h:∃ r n,F n=some r then some h.choose else none
theorem Lim_iff {α:Type} {F:Nat→Option α} (e:∀ n m,n≤m→Le (F n) (F m)) (r:α):Lim F=some r ↔ ∃ n,F n=some r:=by
 unfold Lim;constructor
 ·intro h;split at h
  ·rename_i hx;cases h;exact hx.choose_spec
  ·simp at h
 ·rintro ⟨n,j⟩;have hx:∃ r n,F n=some r:=⟨r,n,j⟩;rw [dif_pos hx];obtain ⟨m,hm⟩:=hx.choose_spec;have h1:=e n (n+m) (by omega) _ j;have h2:=e m (n+m) (by omega) _ hm;rw [h1] at h2;exact h2.symm
noncomputable def xCall (T:Nat→Option AFunc):CallSem:=fun g args h=>Lim fun n=>du T n g args h
noncomputable def im (T:Nat→Option AFunc) (c:ACode) (st:St):Option (AExit × St):=Lim fun n=>da (du T n) n c st
section
variable (T:Nat→Option AFunc)
theorem jx (g:Nat) (args:List AVal) (h:Heap) (r:AVal × Heap):xCall T g args h=some r ↔ ∃ n,du T n g args h=some r :=
 Lim_iff (fun _ _ e=>gg T e g args h) r
theorem dh (c:ACode) (st:St) (r:AExit × St):im T c st=some r ↔ ∃ n,da (du T n) n c st=some r :=
 Lim_iff (fun _ _ e=>jn (gg T e) e c st) r
theorem yz (n:Nat):CallLe (du T n) (xCall T):=fun g args h r hr=>(jx T g args h r).2 ⟨n,hr⟩
theorem evOp_lim {dst:Nat} {o:AOp} {s:Slots} {h:Heap} {r} (hr:c7 (xCall T) dst o s h=some r):∃ n,c7 (du T n) dst o s h=some r:=by
 cases o with
 | call f args =>
  simp only [c7] at hr ⊢;split at hr
  ·rename_i g first caps aZ j ha
   rw [ae] at hr;obtain ⟨x,hx,rfl⟩:=hr;obtain ⟨n,e⟩:=(jx T _ _ _ _).1 hx;exact ⟨n,by rw [e]; rfl⟩
  ·split at hr
   ·rw [ae] at hr;obtain ⟨x,hx,rfl⟩:=hr;obtain ⟨n,e⟩:=(jx T _ _ _ _).1 hx;exact ⟨n,by rw [e]; rfl⟩
   ·cases hr
  ·simp at hr
 | callg g args =>
  simp only [c7] at hr ⊢;split at hr
  ·rename_i aZ ha;rw [ae] at hr;obtain ⟨x,hx,rfl⟩:=hr;obtain ⟨n,e⟩:=(jx T _ _ _ _).1 hx;exact ⟨n,by rw [e]; rfl⟩
  ·simp at hr
 | _=>exact ⟨0,hr⟩
theorem evRun_lim {o:AOper} {s:Slots} {h:Heap} {r} (hr:evRun (xCall T) o s h=some r):∃ n,evRun (du T n) o s h=some r:=by
 unfold evRun at hr ⊢;split at hr
 ·rename_i x p h' e;obtain ⟨n,j⟩:=evOp_lim T e;exact ⟨n,by rw [j]; exact hr⟩
 ·simp at hr
theorem pt {o:AOper} {s:Slots} {h:Heap} {r} (hr:dy (xCall T) o s h=some r):∃ n,dy (du T n) o s h=some r:=by
 unfold dy at hr ⊢;split at hr
 ·exact evRun_lim T hr
 ·split at hr
  ·split at hr
   ·rename_i h1;simp only [if_pos h1];exact evRun_lim T hr
   ·rename_i h1;simp only [if_neg h1];exact ⟨0,hr⟩
  ·exact ⟨0,hr⟩
  ·simp at hr
theorem evOps_lim:∀ {l:List AOper} {s:Slots} {h:Heap} {r},evOps (xCall T) l s h=some r→∃ n,evOps (du T n) l s h=some r
 | [],_,_,_,hr=>⟨0,hr⟩
 | o :: l,s,h,r,hr=>by
  simp only [evOps] at hr ⊢;split at hr
  ·rename_i p h' e;obtain ⟨n,j⟩:=pt T e;obtain ⟨m,hm⟩:=evOps_lim hr;exact ⟨n+m,by rw [kv (gg T (by omega)) _ _ _ _ j]; exact rv (gg T (by omega)) _ _ _ _ hm⟩
  ·simp at hr
theorem y5:∀ {l:List AOper} {s:Slots} {h:Heap} {r},evQuiet (xCall T) l s h=some r→∃ n,evQuiet (du T n) l s h=some r
 | [],_,_,_,hr=>⟨0,hr⟩
 | o :: l,s,h,r,hr=>by
  simp only [evQuiet] at hr ⊢;split at hr
  ·rename_i p h' e;split at hr
   ·rename_i h1;obtain ⟨n,j⟩:=pt T e;obtain ⟨m,hm⟩:=y5 hr;exact ⟨n+m,by rw [kv (gg T (by omega)) _ _ _ _ j]; simp only; rw [if_pos h1]; exact ry (gg T (by omega)) _ _ _ _ hm⟩
   ·simp at hr
  ·simp at hr
theorem ws:∀ {V:List Nat} {l:List AOper} {s:Slots} {h:Heap} {r},evQuietV (xCall T) V l s h=some r→∃ n,evQuietV (du T n) V l s h=some r
 | _,[],_,_,_,hr=>⟨0,hr⟩
 | V,o :: l,s,h,r,hr=>by
  simp only [evQuietV] at hr ⊢;split at hr
  ·rename_i p h' e;split at hr
   ·rename_i h1;obtain ⟨n,j⟩:=pt T e;obtain ⟨m,hm⟩:=ws hr;exact ⟨n+m,by rw [kv (gg T (by omega)) _ _ _ _ j]; simp only; rw [if_pos h1]; exact qo (gg T (by omega)) _ _ _ _ _ hm⟩
   ·simp at hr
  ·simp at hr
theorem evQ_lim {l:List AOper} {s:Slots} {h:Heap} {r} (hr:evQ (xCall T) l s h=some r):∃ n,evQ (du T n) l s h=some r:=by
 unfold evQ at hr ⊢;split at hr
 ·rename_i e; simp only [if_pos e]; exact y5 T hr
 ·rename_i e; simp only [if_neg e];split at hr
  ·rename_i j; simp only [if_pos j]; exact ws T hr
  ·cases hr
theorem openOne_lim {n0 m:Nat} {ds:List Did} {o:AOper} {s:Slots} {h:Heap} {r} (hr:lj (xCall T) n0 m ds o s h=some r):∃ n,lj (du T n) n0 m ds o s h=some r:=by
 unfold lj at hr ⊢;split at hr
 ·cases hr
 ·rename_i h1;simp only [if_neg h1];split at hr
  ·rename_i h2;simp only [if_pos h2];split at hr
   ·cases hr
   ·rename_i p h' e;obtain ⟨n,j⟩:=pt T e;exact ⟨n,by rw [j]; exact hr⟩
  ·rename_i h2;simp only [if_neg h2];exact ⟨0,hr⟩
theorem y6 {n0:Nat}:∀ {ops:List AOper} {ms:List Nat} {ds:List Did} {s:Slots} {h:Heap} {r},ik (xCall T) n0 ms ops ds s h=some r→∃ n,ik (du T n) n0 ms ops ds s h=some r
 | [],_,_,_,_,_,hr=>⟨0,by simp only [ik] at hr ⊢; exact hr⟩
 | o :: l,ms,ds,s,h,r,hr=>by
  simp only [ik] at hr ⊢;split at hr
  ·rename_i y h' x e;split at hr
   ·rename_i h1;obtain ⟨n,j⟩:=openOne_lim T e;obtain ⟨m,hm⟩:=y6 hr;exact ⟨n+m,by rw [wp (gg T (by omega)) _ _ _ _ _ _ _ j]; simp only; rw [if_pos h1]; exact rz (gg T (by omega)) _ _ _ _ _ _ _ hm⟩
   ·cases hr
  ·cases hr
def evSeg (call:CallSem) (g:Seg) (s:Slots) (h:Heap):Option (Slots × Heap) :=
 if g.quiet then (if g.soft=[] then evQ call g.ops s h else uq call g.soft g.ops s h) else evOps call g.ops s h
theorem evSeg_mono {c d:CallSem} (e:CallLe c d) (g:Seg) (s:Slots) (h:Heap):Le (evSeg c g s h) (evSeg d g s h):=by
 unfold evSeg;split
 ·split
  ·exact evQ_mono e _ _ _
  ·exact yx e _ _ _ _
 ·exact rv e _ _ _
theorem za9:∀ {l:List Seg} {s:Slots} {h:Heap} {r},jh (xCall T) l s h=some r→∃ n,jh (du T n) l s h=some r
 | [],_,_,_,hr=>⟨0,hr⟩
 | g :: l,s,h,r,hr=>by
  simp only [jh] at hr ⊢;split at hr
  ·rename_i q h' j
   have hx:∃ n,evSeg (du T n) g s h=some (q,h'):=by
    unfold evSeg;split at j
    ·rename_i p;simp only [if_pos p];split at j
     ·rename_i e; simp only [if_pos e]; exact evQ_lim T j
     ·rename_i e; simp only [if_neg e]; exact y6 T j
    ·rename_i p; simp only [if_neg p]; exact evOps_lim T j
   obtain ⟨n,y⟩:=hx;obtain ⟨m,hm⟩:=za9 hr;refine ⟨n+m,?_⟩;have:evSeg (du T (n+m)) g s h=some (q,h'):=evSeg_mono (gg T (by omega)) _ _ _ _ y;unfold evSeg at this;rw [this]; exact qk (gg T (by omega)) _ _ _ _ hm
  ·simp at hr
theorem lift {c:ACode} {st:St} {r} {n m:Nat} (h:da (du T n) n c st=some r) (e:n≤m):da (du T m) m c st=some r :=
 jn (gg T e) e c st r h
theorem xCode_skip (st:St):im T .skip st=some (.normal,st):=(dh T _ _ _).2 ⟨0,rfl⟩
theorem xCode_exit (id:Nat) (st:St):im T (.exit id) st=some (.exit id,st):=(dh T _ _ _).2 ⟨0,rfl⟩
theorem xCode_ret (st:St):im T .ret st=some (.ret,st):=(dh T _ _ _).2 ⟨0,rfl⟩
theorem wt (j:List Seg) (st:St):im T (.region j) st=(jh (xCall T) j st.s st.h).map fun (s,h)=>(.normal,⟨s,h⟩):=by
 apply xk;intro r;rw [dh];constructor
 ·rintro ⟨n,e⟩; exact Le.map _ (qk (yz T n) _ _ _) r e
 ·intro h;rw [ae] at h;obtain ⟨x,hx,rfl⟩:=h;obtain ⟨n,e⟩:=za9 T hx;exact ⟨n,by simp only [da]; rw [e]; rfl⟩
theorem xCode_seq (a b:ACode) (st:St):im T (.seq a b) st=match im T a st with
  | some (.normal,st')=>im T b st'
  | r=>r:=by
 apply xk;intro r;rw [dh];constructor
 ·rintro ⟨n,e⟩;simp only [da] at e;split at e
  ·rename_i st' j;rw [(dh T _ _ _).2 ⟨n,j⟩]; exact (dh T _ _ _).2 ⟨n,e⟩
  ·rename_i p;rw [(dh T _ _ _).2 ⟨n,e⟩];split
   ·rename_i st' j; cases j; exact absurd e (p _)
   ·rfl
 ·intro h;split at h
  ·rename_i st' j;obtain ⟨n,e⟩:=(dh T _ _ _).1 j;obtain ⟨m,hm⟩:=(dh T _ _ _).1 h;refine ⟨n+m,?_⟩;simp only [da];rw [lift T e (by omega)]; exact lift T hm (by omega)
  ·rename_i p;obtain ⟨n,e⟩:=(dh T _ _ _).1 h;refine ⟨n,?_⟩;simp only [da];rw [e];split
   ·rename_i st' j; cases j; exact absurd h (p _)
   ·rfl
theorem zba (c:Opd) (t e:ACode) (st:St):im T (.cond c t e) st=match c.ev st.s with
  | some (.bool true)=>im T t st
  | some (.bool false)=>im T e st
  | _=>none:=by
 apply xk;intro r;rw [dh];simp only [da];split
 ·rename_i j; rw [j]; exact (dh T _ _ _).symm
 ·rename_i j; rw [j]; exact (dh T _ _ _).symm
 ·rename_i h1 h2;split
  ·rename_i j; exact absurd j h1
  ·rename_i j; exact absurd j h2
  ·simp
theorem y7 (id:Nat) (c:ACode) (st:St):im T (.block id c) st=match im T c st with
  | some (.exit j,st')=>if j=id then some (.normal,st') else some (.exit j,st')
  | r=>r:=by
 apply xk;intro r;rw [dh];constructor
 ·rintro ⟨n,e⟩;simp only [da] at e;split at e
  ·rename_i j st' p;rw [(dh T _ _ _).2 ⟨n,p⟩]; exact e
  ·rename_i q;rw [(dh T _ _ _).2 ⟨n,e⟩];split
   ·rename_i st' p; cases p; exact absurd e (q _ _)
   ·rfl
 ·intro h;split at h
  ·rename_i j st' p;obtain ⟨n,e⟩:=(dh T _ _ _).1 p;refine ⟨n,?_⟩;simp only [da];rw [e]; exact h
  ·rename_i q;obtain ⟨n,e⟩:=(dh T _ _ _).1 h;refine ⟨n,?_⟩;simp only [da];rw [e];split
   ·rename_i st' p; cases p; exact absurd h (q _ _)
   ·rfl
theorem zbb (l:List Nat) (c:ACode) (st:St):im T (.live l c) st=im T c ⟨keep l st.s,st.h⟩:=rfl
theorem za (c:ACode) (l:List Nat) (st:St):im T (.after c l) st=match im T c st with
  | some (.normal,st')=>some (.normal,⟨keep l st'.s,st'.h⟩)
  | r=>r:=by
 apply xk;intro r;rw [dh];constructor
 ·rintro ⟨n,e⟩;simp only [da] at e;split at e
  ·rename_i st' j;rw [(dh T _ _ _).2 ⟨n,j⟩]; exact e
  ·rename_i p;rw [(dh T _ _ _).2 ⟨n,e⟩];split
   ·rename_i st' j; cases j; exact absurd e (p _)
   ·rfl
 ·intro h;split at h
  ·rename_i st' j;obtain ⟨n,e⟩:=(dh T _ _ _).1 j;refine ⟨n,?_⟩;simp only [da];rw [e]; exact h
  ·rename_i p;obtain ⟨n,e⟩:=(dh T _ _ _).1 h;refine ⟨n,?_⟩;simp only [da];rw [e];split
   ·rename_i st' j; cases j; exact absurd h (p _)
   ·rfl
theorem xCode_loop (c:ACode) (st:St):im T (.loop c) st=match im T c st with
  | some (.normal,st')=>im T (.loop c) st'
  | r=>r:=by
 apply xk;intro r;rw [dh];constructor
 ·rintro ⟨n,e⟩;cases n with
  | zero=>simp [da,loopN] at e
  | succ n =>
   simp only [da,loopN] at e;split at e
   ·rename_i st' j;rw [(dh T _ _ _).2 ⟨n+1,j⟩];refine (dh T _ _ _).2 ⟨n+1,?_⟩;exact r0 (fun _=>Le.refl _) n (n+1) st' (by omega) r e
   ·rename_i p;rw [(dh T _ _ _).2 ⟨n+1,e⟩];split
    ·rename_i st' j; cases j; exact absurd e (p _)
    ·rfl
 ·intro h;split at h
  ·rename_i st' j;obtain ⟨n,e⟩:=(dh T _ _ _).1 j;obtain ⟨m,hm⟩:=(dh T _ _ _).1 h;refine ⟨n+m+1,?_⟩;simp only [da,loopN];rw [lift T e (by omega)];exact r0 (fun st=>jn (gg T (by omega)) (by omega) c st) m (n+m) st' (by omega) r hm
  ·rename_i p;obtain ⟨n,e⟩:=(dh T _ _ _).1 h;refine ⟨n+1,?_⟩;simp only [da,loopN];rw [lift T e (by omega)];split
   ·rename_i st' j; cases j; exact absurd h (p _)
   ·rfl
theorem zw (f:Opd) (g:Nat) (caps ps:List Nat) (a b:ACode) (st:St):im T (.rangeFunc f g caps ps a b) st=match f.ev st.s,capsOf st.s caps with
  | some p,some sl=>match callVal (xCall T) p [.yield st.h.size] (st.h.push (.loop g .ready none sl)) with
   | some (_,h')=>loopEnd st.s h' st.h.size
   | none=>none
  | _,_=>none:=by
 apply xk;intro r;rw [dh]
 have le:∀ {c d:CallSem},CallLe c d→∀ f aZ h,Le (callVal c f aZ h) (callVal d f aZ h):=by
  intro c d q f aZ h x hx;unfold callVal at hx ⊢;split at hx
  ·exact q _ _ _ _ hx
  ·cases hx
 constructor
 ·rintro ⟨n,e⟩;simp only [da] at e;split at e
  ·rename_i p sl h1 h2;rw [h1,h2];simp only;split at e
   ·rename_i x h' j;rw [le (yz T n) _ _ _ _ j]; exact e
   ·cases e
  ·cases e
 ·intro h;split at h
  ·rename_i p sl h1 h2;split at h
   ·rename_i x h' j
    have:∃ n,callVal (du T n) p [.yield st.h.size] (st.h.push (.loop g .ready none sl))=some (x,h'):=by
     unfold callVal at j ⊢;split at j
     ·exact (jx T _ _ _ _).1 j
     ·cases j
    obtain ⟨n,e⟩:=this;exact ⟨n,by simp only [da,h1,h2,e]; exact h⟩
   ·cases h
  ·cases h
noncomputable def xFunc (f:AFunc) (args:List AVal) (h:Heap):Option (AVal × Heap) :=
 if args.length=f.nargs then outcome f h (im T f.body ⟨enter 0 args,{ h with wmin:=h.size }⟩) else none
theorem yd (f:AFunc) (args:List AVal) (h:Heap) (r:AVal × Heap) (hw:f.wild=false):xFunc T f args h=some r ↔ ∃ n,evFunc (du T n) n f args h=some r:=by
 unfold xFunc;constructor
 ·intro h1;split at h1
  ·rename_i j;cases hx:im T f.body ⟨enter 0 args,{ h with wmin:=h.size }⟩ with
   | none=>rw [hx] at h1; simp [outcome] at h1
   | some x =>
    obtain ⟨n,e⟩:=(dh T _ _ _).1 hx;refine ⟨n,?_⟩;rw [evFunc_eq _ _ _ _ _ hw,if_pos j,e,← hx]; exact h1
  ·simp at h1
 ·rintro ⟨n,e⟩;rw [evFunc_eq _ _ _ _ _ hw] at e;split at e
  ·rename_i j;rw [if_pos j];exact outcome_mono _ _ (fun r hr=>(dh T _ _ _).2 ⟨n,hr⟩) r e
  ·simp at e
theorem o9 {g:Nat} {f:AFunc} (j:T g=some f) (args:List AVal) (h:Heap) (hr:f.round=none:=by rfl) (hw:f.wild=false:=by rfl):xCall T g args h=wrapC f.closed (xFunc T f) args h:=by
 apply xk;intro r;rw [jx];constructor
 ·rintro ⟨n,e⟩;cases n with
  | zero=>simp [du] at e
  | succ n =>
   simp only [du,j,hr] at e;exact v6 (fun args h r hr=>(yd T f args h r hw).2 ⟨n,hr⟩) _ _ _ _ e
 ·intro h1
  have key:∃ n,wrapC f.closed (evFunc (du T n) n f) args h=some r:=by
   cases hc:f.closed with
   | false =>
    rw [hc] at h1;exact (yd T f args h r hw).1 h1
   | true =>
    rw [hc] at h1;simp only [wrapC,evClosed,if_true] at h1 ⊢;split at h1
    ·rename_i p;split at h1
     ·rename_i v h' q;obtain ⟨n,e⟩:=(yd T f args _ _ hw).1 q;refine ⟨n,?_⟩;rw [if_pos p,e]; exact h1
     ·cases h1
    ·cases h1
  obtain ⟨n,e⟩:=key;refine ⟨n+1,?_⟩;simp only [du,j,hr]; exact e
noncomputable def xRound (g:Nat) (r:ARound) (args:List AVal) (h:Heap):Option (AVal × Heap) :=
 match args with
 | .ptr (some (i,_)) :: aZ =>
  if aZ.length=r.params.length∧h.base≤i then match nd i r.params aZ h with
   | some s=>match mg g i (im T r.assign ⟨s,{ h with wmin:=h.size }⟩) with
    | some st=>roundOut h g i (im T r.body st)
    | none=>none
   | none=>none
  else none
 | _=>none
theorem xRound_eq {g:Nat} {f:AFunc} {rd:ARound} (p:T g=some f) (hr:f.round=some (.round rd)) (args:List AVal) (h:Heap):xCall T g args h=xRound T g rd args h:=by
 apply xk;intro r;rw [jx];constructor
 ·rintro ⟨n,e⟩;cases n with
  | zero=>simp [du] at e
  | succ n =>
   simp only [du,p,hr] at e;unfold evRound at e;unfold xRound;split at e
   ·simp only;split at e
    ·rename_i h1;rw [if_pos h1];split at e
     ·rename_i hs;rw [hs];simp only;split at e
      ·rename_i st j;rw [sd (fun x hx=>(dh T _ _ _).2 ⟨n,hx⟩) _ j];exact qp (fun x hx=>(dh T _ _ _).2 ⟨n,hx⟩) _ e
      ·cases e
     ·cases e
    ·cases e
   ·cases e
 ·intro h1;unfold xRound at h1;split at h1
  ·rename_i i k aZ;split at h1
   ·rename_i q;split at h1
    ·rename_i s hs;split at h1
     ·rename_i st j
      have y:∃ n,mg g i (da (du T n) n rd.assign ⟨s,{ h with wmin:=h.size }⟩)=some st:=by
       cases hx:im T rd.assign ⟨s,{ h with wmin:=h.size }⟩ with
       | none=>rw [hx] at j; simp [mg] at j
       | some x =>
        obtain ⟨n,e⟩:=(dh T _ _ _).1 hx;exact ⟨n,by rw [e,← hx]; exact j⟩
      have A:∃ n,roundOut h g i (da (du T n) n rd.body st)=some r:=by
       cases hx:im T rd.body st with
       | none=>rw [hx] at h1; simp [roundOut] at h1
       | some x =>
        obtain ⟨n,e⟩:=(dh T _ _ _).1 hx;exact ⟨n,by rw [e,← hx]; exact h1⟩
      obtain ⟨n,e⟩:=y;obtain ⟨m,hm⟩:=A;refine ⟨n+m+1,?_⟩;simp only [du,p,hr,evRound,if_pos q,hs];rw [sd (jn (gg T (show n≤n+m by omega)) (show n≤n+m by omega) _ _) _ e];exact qp (jn (gg T (show m≤n+m by omega)) (show m≤n+m by omega) _ _) _ hm
     ·cases h1
    ·cases h1
   ·cases h1
  ·cases h1
theorem xLib_eq' {g:Nat} {f:AFunc} {F:List AVal→Heap→Option (AVal × List (Nat × AObj) × List AObj)} (j:T g=some f) (args:List AVal) (h:Heap) (hr:f.round=some (.lib F):=by rfl):xCall T g args h=(F args h).map fun r=>(r.1,h.puts r.2.1 r.2.2):=by
 apply xk;intro r;rw [jx];constructor
 ·rintro ⟨n,e⟩;cases n with
  | zero=>simp [du] at e
  | succ n =>
   simp only [du,j,hr] at e;exact e
 ·intro h1;refine ⟨1,?_⟩;simp only [du,j,hr];exact h1
theorem AVal.eqb_refl:(∀ a:AVal,a.eqb a=true)∧∀ l:List AVal,AVal.eqbL l l=true:=by
 have h:∀ n,(∀ a:AVal,SizeOf.sizeOf a < n→a.eqb a=true)∧∀ l:List AVal,SizeOf.sizeOf l < n→AVal.eqbL l l=true:=by
  intro n;induction n with
  | zero=>exact ⟨fun a h=>absurd h (Nat.not_lt_zero _),fun l h=>absurd h (Nat.not_lt_zero _)⟩
  | succ n ih =>
   constructor
   ·intro a h;cases a <;> simp only [AVal.eqb,decide_true,Bool.and_self,beq_self_eq_true,wc]
    ·rename_i g f c;simp at h;rw [ih.2 f (by omega),ih.2 c (by omega)]; rfl
    ·rename_i t v;simp at h;exact ih.1 v (by omega)
    ·rename_i l;simp at h;exact ih.2 l (by omega)
    ·rename_i l;simp at h;exact ih.2 l (by omega)
   ·intro l h;cases l with
    | nil=>rfl
    | cons a l =>
     simp at h;simp only [AVal.eqbL,ih.1 a (by omega),ih.2 l (by omega),Bool.and_self]
 exact ⟨fun a=>(h (SizeOf.sizeOf a+1)).1 a (ur _),fun l=>(h (SizeOf.sizeOf l+1)).2 l (ur _)⟩
theorem eqbE_refl:∀ l:List (AVal × AVal × Nat),eqbE l l=true
 | []=>rfl
 | (k,v,b) :: r=>by simp [eqbE,AVal.eqb_refl.1,eqbE_refl r]
theorem eqbS_refl:∀ l:List (Nat × AVal),eqbS l l=true
 | []=>rfl
 | (k,v) :: r=>by simp [eqbS,AVal.eqb_refl.1,eqbS_refl r]
theorem AObj.eqb_refl (o:AObj):o.eqb o=true:=by cases o <;> simp [AObj.eqb,AVal.eqb_refl.2,eqbE_refl,eqbS_refl]
theorem eqbO_refl:∀ l:List AObj,eqbO l l=true
 | []=>rfl
 | o :: r=>by simp [eqbO,AObj.eqb_refl,eqbO_refl r]
theorem eqbR_refl (x:AVal × Heap):eqbR x x=true:=by simp [eqbR,AVal.eqb_refl.1,eqbO_refl]
theorem allSame_of {l:List (Option (AVal × Heap))} {r:AVal × Heap} (e:l≠[]) (h:∀ x ∈ l,x=some r):allSame l=some r:=by
 cases l with
 | nil=>exact absurd rfl e
 | cons x l =>
  rw [h x (a8 ..)];simp only [allSame];rw [if_pos];rw [ap];intro y j;rw [h y (bd _ j)];exact eqbR_refl r
theorem xCall_wild {g:Nat} {f:AFunc} (q:T g=some f) {args:List AVal} {h:Heap} (hr:f.round=none) (hc:f.closed=false) (hw:f.wild=true) (A:args.length=f.nargs) {n:Nat} {l:List (AExit × St)}
  (e:eg (du T n) n f.body ⟨enter 0 args,{ h with wmin:=h.size }⟩=some l) (p:l≠[]) {r:AVal × Heap} (j:∀ x ∈ l,funcEnd f h x=some r):xCall T g args h=some r:=by
 rw [jx];refine ⟨n+1,?_⟩;simp only [du,q,hr,hc,wrapC,cg,if_false,evFunc,if_pos A,hw,if_true,e];refine allSame_of (by simpa using p) fun x hx=>?_
 rw [bt] at hx;obtain ⟨y,B,rfl⟩:=hx;exact j y B
end
end Go.Abs

namespace Go.Abs
theorem AVal.eqb_eq:∀ n,(∀ a b:AVal,SizeOf.sizeOf a < n→a.eqb b=true→a=b)∧∀ l m:List AVal,SizeOf.sizeOf l < n→AVal.eqbL l m=true→l=m:=by
 intro n;induction n with
 | zero=>exact ⟨fun a _ h=>absurd h (Nat.not_lt_zero _),fun l _ h=>absurd h (Nat.not_lt_zero _)⟩
 | succ n ih =>
  constructor
  ·intro a b h e;cases a <;> cases b <;> simp only [AVal.eqb,bc,decide_eq_true_eq,beq_iff_eq,cg] at e
   ·rw [e]
   ·rw [e.1,e.2]
   ·rw [e]
   ·rw [e]
   ·rw [e.1.1,e.1.2,e.2]
   ·rw [e]
   ·simp at h;rw [e.1.1,ih.2 _ _ (by omega) e.1.2,ih.2 _ _ (by omega) e.2]
   ·rfl
   ·simp at h;rw [e.1,ih.1 _ _ (by omega) e.2]
   ·rfl
   ·simp at h;rw [ih.2 _ _ (by omega) e]
   ·simp at h;rw [ih.2 _ _ (by omega) e]
   ·rw [e]
  ·intro l m h e;cases l <;> cases m <;> simp only [AVal.eqbL,bc,cg] at e
   ·rfl
   ·simp at h;rw [ih.1 _ _ (by omega) e.1,ih.2 _ _ (by omega) e.2]
theorem AVal.eq_of {a b:AVal} (h:a.eqb b=true):a=b:=(AVal.eqb_eq (SizeOf.sizeOf a+1)).1 a b (ur _) h
theorem AVal.eqL_of {a b:List AVal} (h:AVal.eqbL a b=true):a=b:=(AVal.eqb_eq (SizeOf.sizeOf a+1)).2 a b (ur _) h
theorem cellEq_of {a b:AObj} (h:cellEqb a b=true):a=b:=by
 cases a <;> cases b <;> simp only [cellEqb,cg,bc,decide_eq_true_eq] at h
 rw [h.1,AVal.eqL_of h.2]
theorem sameAt_eq {A B:List AObj} {i:Nat} (h:sameAt A B i=true):B[i]? = A[i]?:=by
 unfold sameAt at h;split at h
 ·rename_i a b h1 h2;rw [h1,h2,cellEq_of h]
 ·cases h
end Go.Abs

namespace Go.Abs
structure M where
 blk:Nat
 base:Nat
 size:Nat
 esz:Nat
abbrev MM:=List (Option M)
def ARel (μ:MM) (i o:Nat) (a:Addr):Prop:=∃ x,μ[i]? = some x∧∀ m,x=some m→a=⟨m.blk,m.base+o,none⟩
mutual
def VRel (E:Env) (μ:MM):AVal→Value→Prop
 | .bool b,v=>v = .bool b
 | .int k n,v=>v = .int k n
 | .str s,v=>v = .string ⟨s.toArray⟩
 | .ptr none,v=>v = .pointer none
 | .ptr (some (i,o)),v=>∃ a,v = .pointer (some a)∧ARel μ i o a
 | .slice none n c,v=>n=0∧c=some 0∧v = .slice none 0 0
 | .slice (some (i,o)) n c,v=>∃ a cap,v = .slice (some a) n cap∧(i < μ.length∧cap≤9223372036854775807)∧(0 < cap→ARel μ i o a)∧(∀ k,c=some k→cap=k)∧n≤cap ∧
   (∀ m,μ[i]? = some (some m)→m.base+o+cap*m.esz≤m.size)
 | .map none,v=>v = .map none
 | .map (some i),v=>∃ b x,v = .map (some b)∧μ[i]? = some x∧∀ m,x=some m→b=m.blk
 | .func g f c,v=>∃ fid f' c',v = .func (.func fid) f' c'∧E.gid fid=some g∧VRels E μ f f'.toList∧VRels E μ c c'.toList
 | .nilFunc,v=>v = .nilFunc
 | .iface _ _,_=>False
 | .nilIface,v=>v = .nilIface
 | .agg cs,v=>∃ cs',v = .agg cs'∧VRels E μ cs cs'.toList∧∀ x ∈ cs,x.isOne=true
 | .tuple vs,v=>∃ vs',v = .tuple vs'∧VRels E μ vs vs'.toList
 | .yield i,v=>∃ l x,v = .func (.yield l) #[] #[]∧μ[i]? = some x∧∀ m,x=some m→l=m.blk
def VRels (E:Env) (μ:MM):List AVal→List Value→Prop
 | [],l=>l=[]
 | a :: aZ,l=>∃ v r,l=v :: r∧VRel E μ a v∧VRels E μ aZ r
end
section
variable {E:Env} {μ μ':MM}
theorem VRels.length:∀ {aZ:List AVal} {l:List Value},VRels E μ aZ l→aZ.length=l.length
 | [],l,h=>by simp only [VRels] at h; subst h; rfl
 | a :: aZ,l,h=>by simp only [VRels] at h;obtain ⟨v,r,rfl,_,h2⟩:=h;simp [VRels.length h2]
theorem VRels.get:∀ {aZ:List AVal} {l:List Value},VRels E μ aZ l→∀ {k:Nat} {a:AVal},aZ[k]? = some a→∃ v,l[k]? = some v∧VRel E μ a v
 | [],l,_,k,a,e=>by simp at e
 | x :: aZ,l,h,0,a,e=>by simp only [VRels] at h;obtain ⟨v,r,rfl,h1,_⟩:=h;simp at e; subst e;exact ⟨v,rfl,h1⟩
 | x :: aZ,l,h,k+1,a,e=>by simp only [VRels] at h;obtain ⟨v,r,rfl,_,h2⟩:=h;simp at e;obtain ⟨u,j,hr⟩:=VRels.get h2 e;exact ⟨u,by simpa using j,hr⟩
theorem VRels.of:∀ {aZ:List AVal} {l:List Value},aZ.length=l.length→(∀ (k:Nat) (a:AVal),aZ[k]? = some a→∃ v:Value,l[k]? = some v∧VRel E μ a v)→VRels E μ aZ l
 | [],l,h,_=>by simp only [VRels];exact bn (by simpa using h.symm)
 | a :: aZ,[],h,_=>by simp at h
 | a :: aZ,v :: l,h,p=>by
  simp only [VRels];refine ⟨v,l,rfl,?_,VRels.of (by simpa using h) fun k q j=>?_⟩
  ·obtain ⟨u,e,hr⟩:=p 0 a rfl;simp at e; subst e; exact hr
  ·obtain ⟨u,e,hr⟩:=p (k+1) q (by simpa using j);exact ⟨u,by simpa using e,hr⟩
theorem VRels.append {aZ bs:List AVal} {l r:List Value} (h1:VRels E μ aZ l) (h2:VRels E μ bs r):VRels E μ (aZ++bs) (l++r):=by
 induction aZ generalizing l with
 | nil=>simp only [VRels] at h1; subst h1; simpa using h2
 | cons a aZ ih =>
  simp only [VRels] at h1;obtain ⟨v,t,rfl,e,j⟩:=h1;simp only [fh,VRels];exact ⟨v,t++r,rfl,e,ih j⟩
structure Later (μ μ':MM):Prop where
 len:μ.length≤μ'.length
 old:∀ i,i < μ.length→μ'[i]? = μ[i]?∨μ'[i]? = some none
theorem Later.refl (μ:MM):Later μ μ:=⟨aj _,fun _ _=>.inl rfl⟩
theorem ah {α:Type} {l:List α} {i:Nat} {x:α} (h:l[i]? = some x):i < l.length:=by
 rcases bh i l.length with h1 | h1
 ·exact h1
 ·rw [bw h1] at h; cases h
theorem Later.get (h:Later μ μ') {i:Nat} {x:Option M} (hi:μ[i]? = some x):μ'[i]? = some x∨μ'[i]? = some none:=by
 rcases h.old i (ah hi) with h1 | h1
 ·exact .inl (h1.trans hi)
 ·exact .inr h1
theorem Later.back (h:Later μ μ') {i:Nat} {m:M} (e:i < μ.length) (hi:μ'[i]? = some (some m)):μ[i]? = some (some m):=by
 rcases h.old i e with h1 | h1
 ·exact h1.symm.trans hi
 ·rw [hi] at h1; cases h1
theorem ARel.later (h:Later μ μ') {i o:Nat} {a:Addr} (ha:ARel μ i o a):ARel μ' i o a:=by
 obtain ⟨x,hx,hm⟩:=ha;rcases h.get hx with h1 | h1
 ·exact ⟨x,h1,hm⟩
 ·exact ⟨none,h1,fun m hm=>by cases hm⟩
mutual
theorem VRel.later (h:Later μ μ'):∀ {a:AVal} {v:Value},VRel E μ a v→VRel E μ' a v
 | .bool b,v,hv=>by simpa only [VRel] using hv
 | .int k n,v,hv=>by simpa only [VRel] using hv
 | .str s,v,hv=>by simpa only [VRel] using hv
 | .ptr none,v,hv=>by simpa only [VRel] using hv
 | .ptr (some (i,o)),v,hv=>by simp only [VRel] at hv ⊢;obtain ⟨a,ha,hr⟩:=hv;exact ⟨a,ha,hr.later h⟩
 | .slice none n c,v,hv=>by simpa only [VRel] using hv
 | .slice (some (i,o)) n c,v,hv=>by simp only [VRel] at hv ⊢;obtain ⟨a,cap,ha,hi,hr,h1,h2,h3⟩:=hv;exact ⟨a,cap,ha,⟨fg hi.1 h.len,hi.2⟩,fun hc=>(hr hc).later h,h1,h2,fun m hm=>h3 m (h.back hi.1 hm)⟩
 | .map none,v,hv=>by simpa only [VRel] using hv
 | .map (some i),v,hv=>by
  simp only [VRel] at hv ⊢;obtain ⟨b,x,ha,hx,hm⟩:=hv;rcases h.get hx with h1 | h1
  ·exact ⟨b,x,ha,h1,hm⟩
  ·exact ⟨b,none,ha,h1,fun m hm=>by cases hm⟩
 | .func g f c,v,hv=>by simp only [VRel] at hv ⊢;obtain ⟨fid,f',c',e,hg,h1,h2⟩:=hv;exact ⟨fid,f',c',e,hg,VRels.later h h1,VRels.later h h2⟩
 | .nilFunc,v,hv=>by simpa only [VRel] using hv
 | .iface _ _,v,hv=>by simp only [VRel] at hv
 | .nilIface,v,hv=>by simpa only [VRel] using hv
 | .agg cs,v,hv=>by simp only [VRel] at hv ⊢;obtain ⟨cs',e,h1,h2⟩:=hv;exact ⟨cs',e,VRels.later h h1,h2⟩
 | .tuple vs,v,hv=>by simp only [VRel] at hv ⊢;obtain ⟨cs',e,h1⟩:=hv;exact ⟨cs',e,VRels.later h h1⟩
 | .yield i,v,hv=>by
  simp only [VRel] at hv ⊢;obtain ⟨b,x,ha,hx,hm⟩:=hv;rcases h.get hx with h1 | h1
  ·exact ⟨b,x,ha,h1,hm⟩
  ·exact ⟨b,none,ha,h1,fun m hm=>by cases hm⟩
theorem VRels.later (h:Later μ μ'):∀ {aZ:List AVal} {l:List Value},VRels E μ aZ l→VRels E μ' aZ l
 | [],l,hl=>by simpa only [VRels] using hl
 | a :: aZ,l,hl=>by simp only [VRels] at hl ⊢;obtain ⟨v,r,e,h1,h2⟩:=hl;exact ⟨v,r,e,VRel.later h h1,VRels.later h h2⟩
end
theorem toA1_rel {v:Value} {a:AVal} (h:toA1 v=some a) (μ:MM):VRel E μ a v∧a.isOne=true:=by unfold toA1 at h;split at h <;> cases h <;> simp [VRel,AVal.isOne]
theorem ug:∀ {l:List Value} {aZ:List AVal},toAs l=some aZ→∀ μ:MM,VRels E μ aZ l∧∀ x ∈ aZ,x.isOne=true
 | [],aZ,h,μ=>by simp only [toAs] at h; cases h; simp [VRels]
 | v :: r,aZ,h,μ=>by
  simp only [toAs] at h;split at h
  ·rename_i a aZ' h1 h2;cases h;obtain ⟨e,j⟩:=toA1_rel (E:=E) h1 μ;obtain ⟨p,q⟩:=ug h2 μ;refine ⟨?_,?_⟩
   ·simp only [VRels]; exact ⟨v,r,rfl,e,p⟩
   ·intro x hx;rcases cj.1 hx with rfl | hx
    ·exact j
    ·exact q x hx
  ·simp at h
theorem toA_rel {v:Value} {a:AVal} (h:toA v=some a) (μ:MM):VRel E μ a v:=by
 unfold toA at h;split at h
 ·rename_i cs;rw [ae] at h;obtain ⟨aZ,h1,rfl⟩:=h;obtain ⟨e,j⟩:=ug (E:=E) h1 μ;simp only [VRel];exact ⟨cs,rfl,e,j⟩
 ·exact (toA1_rel h μ).1
theorem rj {a:AVal} {v:Value} {aZ:List AVal} (h:VRel E μ a v) (hc:a.cells? = some aZ) :
  VRels E μ aZ v.cells.toList∧∀ x ∈ aZ,x.isOne=true:=by
 have one:∀ {a:AVal} {v:Value},a.isOne=true→v.cells = #[v]→VRel E μ a v→VRels E μ [a] v.cells.toList∧∀ x ∈ [a],x.isOne=true:=by
  intro a v h1 h2 e;rw [h2];refine ⟨?_,?_⟩
  ·simp only [VRels]; exact ⟨v,[],rfl,e,rfl⟩
  ·intro x hx; rw [bk] at hx; subst hx; exact h1
 cases a with
 | agg cs =>
  simp only [AVal.cells?] at hc; cases hc;simp only [VRel] at h;obtain ⟨cs',rfl,h1,h2⟩:=h;exact ⟨h1,h2⟩
 | tuple vs=>simp [AVal.cells?] at hc
 | iface t x=>simp only [VRel] at h
 | bool b=>simp only [AVal.cells?] at hc; cases hc; exact one rfl (by simp only [VRel] at h; subst h; rfl) h
 | int k n=>simp only [AVal.cells?] at hc; cases hc; exact one rfl (by simp only [VRel] at h; subst h; rfl) h
 | str s=>simp only [AVal.cells?] at hc; cases hc; exact one rfl (by simp only [VRel] at h; subst h; rfl) h
 | yield i=>simp only [AVal.cells?] at hc; cases hc; exact one rfl (by simp only [VRel] at h; obtain ⟨_,_,rfl,_⟩:=h; rfl) h
 | nilFunc=>simp only [AVal.cells?] at hc; cases hc; exact one rfl (by simp only [VRel] at h; subst h; rfl) h
 | nilIface=>simp only [AVal.cells?] at hc; cases hc; exact one rfl (by simp only [VRel] at h; subst h; rfl) h
 | ptr a =>
  simp only [AVal.cells?] at hc; cases hc;refine one rfl ?_ h;cases a with
  | none=>simp only [VRel] at h; subst h; rfl
  | some p=>simp only [VRel] at h; obtain ⟨_,rfl,_⟩:=h; rfl
 | slice a n c =>
  simp only [AVal.cells?] at hc; cases hc;refine one rfl ?_ h;cases a with
  | none=>simp only [VRel] at h; obtain ⟨_,_,rfl⟩:=h; rfl
  | some p=>simp only [VRel] at h; obtain ⟨_,_,rfl,_⟩:=h; rfl
 | map a =>
  simp only [AVal.cells?] at hc; cases hc;refine one rfl ?_ h;cases a with
  | none=>simp only [VRel] at h; subst h; rfl
  | some p=>simp only [VRel] at h; obtain ⟨_,_,rfl,_⟩:=h; rfl
 | func g f c =>
  simp only [AVal.cells?] at hc; cases hc;refine one rfl ?_ h;simp only [VRel] at h; obtain ⟨_,_,_,rfl,_⟩:=h; rfl
theorem one_rel {a:AVal} {v:Value} (h:VRel E μ a v) (hc:a.isOne=true):¬ (∃ x,v = .agg x)∧¬ (∃ x,v = .tuple x):=by
 cases a with
 | agg cs=>simp [AVal.isOne] at hc
 | tuple vs=>simp [AVal.isOne] at hc
 | iface t x=>simp only [VRel] at h
 | ptr a=>cases a <;> simp only [VRel] at h <;> (first | (subst h; simp) | (obtain ⟨_,rfl,_⟩:=h; simp))
 | slice a n c=>cases a <;> simp only [VRel] at h <;> (first | (obtain ⟨_,_,rfl⟩:=h; simp) | (obtain ⟨_,_,rfl,_⟩:=h; simp))
 | map a=>cases a <;> simp only [VRel] at h <;> (first | (subst h; simp) | (obtain ⟨_,_,rfl,_⟩:=h; simp))
 | func g f c=>simp only [VRel] at h; obtain ⟨_,_,_,rfl,_⟩:=h; simp
 | yield i=>simp only [VRel] at h; obtain ⟨_,_,rfl,_⟩:=h; simp
 | _=>simp only [VRel] at h; subst h; simp
end
def CRel (E:Env) (μ:MM) (cs:List AVal) (c:Array Value) (base:Nat):Prop :=
 ∀ (k:Nat) (v:AVal),cs[k]? = some v→v.isOne=true∧∃ v':Value,c[base+k]? = some v'∧VRel E μ v v'
def Free (k:Nat) (fr:Nat × Nat) (n:Nat):Prop:=fr.1≤fr.2∧∀ off,off < n+k→¬ (fr.1≤off∧off < fr.2)
theorem Free.lt {k:Nat} {fr:Nat × Nat} {n:Nat} (h:Free k fr n):∀ off,off < n→¬ (fr.1≤off∧off < fr.2):=fun off ho=>h.2 off (by omega)
def LoopSt.is:LoopSt→LoopState→Prop
 | .ready,s=>s = .ready
 | .busy,s=>s = .busy
 | .done,s=>s = .done
def AExit.code:AExit→Code
 | .normal=>.skip
 | .exit id=>.exit id
 | .ret=>.ret
structure LoopRel (E:Env) (μ:MM) (g:Nat) (st:LoopSt) (p:Option AExit) (sl:List (Nat × AVal)) (r:Loop):Prop where
 code:∃ (ar:ARound) (ha hb:Hint),E.rnd g=some ar∧r.params.toList=ar.params∧(∀ t ∈ ar.params,t < r.tmps.size)∧co E r.tmps.size true ha r.assign=some ar.assign∧co E r.tmps.size true hb r.body=some ar.body
 st:st.is r.state
 pend:r.pending=p.map AExit.code
 slots:∀ (k:Nat) (x:Nat × AVal),sl[k]? = some x→∃ v',r.tmps[x.1]? = some v'∧VRel E μ x.2 v'
theorem LoopRel.later {E:Env} {μ μ':MM} {g:Nat} {st:LoopSt} {p:Option AExit} {sl:List (Nat × AVal)} {r:Loop} (e:Later μ μ') (h:LoopRel E μ g st p sl r):LoopRel E μ' g st p sl r :=
 ⟨h.code,h.st,h.pend,fun k x j=>by obtain ⟨v',h1,h2⟩:=h.slots k x j; exact ⟨v',h1,h2.later e⟩⟩
def ORel (E:Env) (μ:MM) (b:Nat) (i:Nat) (w:World):AObj→Prop
 | .dead=>μ[i]? = some none
 | .cells esz cs=>∃ (m:M) (c:Array Value) (e:TypeId) (fr:Nat × Nat),μ[i]? = some (some m)∧m.esz=esz∧w.heap[m.blk]? = some (.cells c e fr)∧c.size=m.size∧m.base+cs.length≤m.size ∧
   CRel E μ cs c m.base∧(b≤i→Free E.room fr m.size)
 | .map es clock=>∃ (m:M) (es':Array MapEntry),μ[i]? = some (some m)∧w.heap[m.blk]? = some (.map es' clock)∧es'.size=es.length ∧
   ∀ (k:Nat) (x:AVal × AVal × Nat),es[k]? = some x→∃ y:MapEntry,es'[k]? = some y∧VRel E μ x.1 y.key∧VRel E μ x.2.1 y.val∧y.born=x.2.2
 | .iter s pos=>∃ m:M,μ[i]? = some (some m)∧w.heap[m.blk]? = some (.stringIter ⟨s.toArray⟩ pos)
 | .mapIter r since seen last=>∃ (m:M) (r':Option Nat),(μ[i]? = some (some m)∧m.base=0)∧w.heap[m.blk]? = some (.mapIter r' since seen.toArray last)∧VRel E μ (.map r) (.map r')
 | .loop g st p sl=>∃ (m:M) (r:Loop),μ[i]? = some (some m)∧w.heap[m.blk]? = some (.loop r)∧LoopRel E μ g st p sl r
def Tabs (E:Env) (μ:MM) (b:Nat) (w:World):Prop:=E.glob≤w.heap.size∧∀ p ∈ E.tabs,p.1 < E.glob∧(∃ o,w.heap[p.1]? = some o∧p.2 o)∧∀ (i:Nat) (m:M),b≤i→μ[i]? = some (some m)→m.blk≠p.1
theorem Tabs.of {E:Env} {μ μ':MM} {b q:Nat} {w w':World} (h:Tabs E μ b w) (hs:w.heap.size≤w'.heap.size) (hb:∀ k,k < E.glob→k < w.heap.size→(∀ (i:Nat) (m:M),b≤i→μ[i]? = some (some m)→m.blk≠k)→w'.heap[k]? = w.heap[k]?)
  (hm:∀ (i:Nat) (m:M),q≤i→μ'[i]? = some (some m)→w.heap.size≤m.blk∨∃ (j:Nat) (m0:M),b≤j∧μ[j]? = some (some m0)∧m0.blk=m.blk):Tabs E μ' q w':=by
 refine ⟨de h.1 hs,fun p B=>?_⟩;obtain ⟨h1,⟨o,h2,C⟩,y⟩:=h.2 p B;have H:=h.1;refine ⟨h1,⟨o,by rw [hb p.1 h1 (by omega) y]; exact h2,C⟩,fun i m hi e=>?_⟩;rcases hm i m hi e with A | ⟨j,m0,A,D,G⟩
 ·omega
 ·rw [← G]; exact y j m0 A D
theorem Tabs.less {E:Env} {μ μ':MM} {b e:Nat} {w:World} (h:Tabs E μ b w) (hm:∀ (i:Nat) (m:M),e≤i→μ'[i]? = some (some m)→∃ (j:Nat) (m0:M),b≤j∧μ[j]? = some (some m0)∧m0.blk=m.blk):Tabs E μ' e w :=
 h.of (aj _) (fun _ _ _ _=>rfl) fun i m hi h1=>.inr (hm i m hi h1)
structure Rel (E:Env) (μ:MM) (h:Heap) (w:World):Prop where
 len:μ.length=h.objs.length
 bs:h.base≤h.objs.length
 obj:∀ (i:Nat) (o:AObj),h.objs[i]? = some o→ORel E μ h.base i w o
 sep:∀ (i j:Nat) (mi mj:M),i≠j→h.base≤i→μ[i]? = some (some mi)→μ[j]? = some (some mj)→mi.blk≠mj.blk
 lt:∀ (i:Nat) (m:M),μ[i]? = some (some m)→m.blk < w.heap.size
 tab:Tabs E μ h.base w
structure Step (X:Nat→Prop) (wm:Nat) (μ:MM) (w:World) (μ':MM) (w':World):Prop where
 os:w'.os=w.os
 tape:w'.tape=w.tape
 output:w'.output=w.output
 size:w.heap.size≤w'.heap.size
 block:∀ k,k < w.heap.size→¬ X k→(∀ i m,wm≤i→μ[i]? = some (some m)→m.blk≠k)→w'.heap[k]? = w.heap[k]?
 len:μ.length≤μ'.length
 old:∀ i,i < μ.length→μ'[i]? = μ[i]?∨(wm≤i∧μ'[i]? = some none)
 new:∀ i m,μ.length≤i→μ'[i]? = some (some m)→w.heap.size≤m.blk∨∃ r m0,wm≤r∧μ[r]? = some (some m0)∧m0.blk=m.blk
section
variable {E:Env} {X Y:Nat→Prop} {wm wm':Nat} {μ μ' μ'':MM} {w w' w'':World}
theorem Step.refl (X:Nat→Prop) (wm:Nat) (μ:MM) (w:World):Step X wm μ w μ w :=
 ⟨rfl,rfl,rfl,aj _,fun _ _ _ _=>rfl,aj _,fun _ _=>.inl rfl,fun i m h hm=>absurd (ah hm) (by omega)⟩
theorem Step.later (h:Step X wm μ w μ' w'):Later μ μ':=⟨h.len,fun i hi=>(h.old i hi).imp id And.right⟩
theorem Step.trans (h:Step X wm μ w μ' w') (k:Step X wm' μ' w' μ'' w'') (hw:wm'≤wm):Step X wm' μ w μ'' w'' where
 os:=k.os.trans h.os
 tape:=k.tape.trans h.tape
 output:=k.output.trans h.output
 size:=de h.size k.size
 block:=fun b hb hx A=>by
  have h1:w'.heap[b]? = w.heap[b]?:=h.block b hb hx fun i m hi hm=>A i m (de hw hi) hm
  rw [← h1];refine k.block b (fg hb h.size) hx fun i m hi hm=>?_
  rcases bh i μ.length with q | q
  ·exact A i m hi (h.later.back q hm)
  ·rcases h.new i m q hm with h2 | ⟨r,m0,hr,j,e⟩
   ·omega
   ·rw [← e]; exact A r m0 (de hw hr) j
 len:=de h.len k.len
 old:=fun i hi=>by
  rcases k.old i (fg hi h.len) with h1 | ⟨h1,h2⟩
  ·rcases h.old i hi with p | ⟨p,y⟩
   ·exact .inl (h1.trans p)
   ·exact .inr ⟨de hw p,h1.trans y⟩
  ·exact .inr ⟨h1,h2⟩
 new:=fun i m q hm=>by
  rcases bh i μ'.length with h1 | h1
  ·have h2:μ'[i]? = some (some m):=k.later.back h1 hm;rcases h.new i m q h2 with p | ⟨r,m0,hr,j,e⟩
   ·exact .inl p
   ·exact .inr ⟨r,m0,de hw hr,j,e⟩
  ·rcases k.new i m h1 hm with p | ⟨r,m0,hr,j,e⟩
   ·exact .inl (de h.size p)
   ·rcases bh r μ.length with y | y
    ·exact .inr ⟨r,m0,hr,h.later.back y j,e⟩
    ·rcases h.new r m0 y j with D | ⟨G,H,B,C,I⟩
     ·exact .inl (by rw [← e]; exact D)
     ·exact .inr ⟨G,H,de hw B,C,I.trans e⟩
theorem Step.weaken (h:Step X wm μ w μ' w') (hw:wm'≤wm) (j:∀ b,X b→b < w.heap.size→Y b):Step Y wm' μ w μ' w' where
 os:=h.os
 tape:=h.tape
 output:=h.output
 size:=h.size
 block:=fun b hb hx p=>h.block b hb (fun e=>hx (j b e hb)) fun i m hi hm=>p i m (de hw hi) hm
 len:=h.len
 old:=fun i hi=>(h.old i hi).imp id fun ⟨a,b⟩=>⟨de hw a,b⟩
 new:=fun i m q hm=>(h.new i m q hm).imp id fun ⟨r,m0,hr,x⟩=>⟨r,m0,de hw hr,x⟩
theorem Step.fresh (h:Step X μ.length μ w μ' w') (wm':Nat):Step X wm' μ w μ' w' where
 os:=h.os
 tape:=h.tape
 output:=h.output
 size:=h.size
 block:=fun b hb hx _=>h.block b hb hx fun i m hi hm=>absurd (ah hm) (by omega)
 len:=h.len
 old:=fun i hi=>.inl ((h.old i hi).resolve_right fun ⟨a,_⟩=>by omega)
 new:=fun i m j hm=>(h.new i m j hm).imp id fun ⟨r,m0,hr,e,_⟩=>absurd (ah e) (by omega)
theorem CRel.later {cs:List AVal} {c:Array Value} {b:Nat} (e:Later μ μ') (h:CRel E μ cs c b):CRel E μ' cs c b:=fun k v j=>by obtain ⟨h1,v',h2,p⟩:=h k v j;exact ⟨h1,v',h2,p.later e⟩
theorem ORel.keep {b i:Nat} {o:AObj} (B:Later μ μ') (h:ORel E μ b i w o) (hm:∀ m,μ[i]? = some (some m)→μ'[i]? = some (some m)∧w'.heap[m.blk]? = w.heap[m.blk]?) :
  ORel E μ' b i w' o:=by
 cases o with
 | dead =>
  rcases B.get h with h1 | h1 <;> exact h1
 | cells esz cs =>
  obtain ⟨m,c,e,fr,h1,h2,A,C,D,G,H⟩:=h;obtain ⟨j,q⟩:=hm m h1;exact ⟨m,c,e,fr,j,h2,q.trans A,C,D,G.later B,H⟩
 | map es clock =>
  obtain ⟨m,es',h1,h2,A,C⟩:=h;obtain ⟨j,q⟩:=hm m h1;refine ⟨m,es',j,q.trans h2,A,fun k x I=>?_⟩;obtain ⟨y,y1,J,K,L⟩:=C k x I;exact ⟨y,y1,J.later B,K.later B,L⟩
 | iter s pos =>
  obtain ⟨m,h1,h2⟩:=h;obtain ⟨j,q⟩:=hm m h1;exact ⟨m,j,q.trans h2⟩
 | mapIter r a b c =>
  obtain ⟨m,N,⟨h1,h0⟩,h2,A⟩:=h;obtain ⟨j,q⟩:=hm m h1;exact ⟨m,N,⟨j,h0⟩,q.trans h2,A.later B⟩
 | loop g st p sl =>
  obtain ⟨m,r,h1,h2,A⟩:=h;obtain ⟨j,q⟩:=hm m h1;exact ⟨m,r,j,q.trans h2,A.later B⟩
end
abbrev SlotFn:=Nat→Option Slot
structure Fr where
 v:Nat→Nat
 ds:List Nat
instance:CoeFun Fr (fun _=>Nat→Nat):=⟨Fr.v⟩
structure FRel (E:Env) (lo:Nat) (ν:Fr) (μ:MM) (g:SlotFn) (tmps:Array Value) (w:World):Prop where
 val:∀ (t:Nat) (v:AVal),g t=some (.val v)→∃ v':Value,tmps[t]? = some v'∧VRel E μ v v'
 undef:∀ t:Nat,g t=some .undef→tmps[t]? = some Go.undef
 var:∀ (t:Nat) (cs:List AVal),g t=some (.var cs)→tmps[t]? = some (.pointer (some ⟨ν t,0,none⟩))∧lo≤ν t ∧
  ∃ (c:Array Value) (e:TypeId) (fr:Nat × Nat),w.heap[ν t]? = some (.cells c e fr)∧c.size=cs.length∧CRel E μ cs c 0∧Free 0 fr c.size
 loc:∀ (t t' o:Nat) (cs:List AVal),g t=some (.loc t' o)→g t'=some (.var cs)→tmps[t]? = some (.pointer (some ⟨ν t',o,none⟩))
 sepv:∀ (t t':Nat) (cs cs':List AVal),t≠t'→g t=some (.var cs)→g t'=some (.var cs')→ν t≠ν t'
 sepm:∀ (t:Nat) (cs:List AVal) (i:Nat) (m:M),g t=some (.var cs)→μ[i]? = some (some m)→m.blk≠ν t
 ds:∀ r ∈ ν.ds,lo≤r∧w.heap[r]? = some (.deferred (some []))
 sepd:∀ r ∈ ν.ds,(∀ (i:Nat) (m:M),μ[i]? = some (some m)→m.blk≠r)∧∀ (t:Nat) (cs:List AVal),g t=some (.var cs)→ν t≠r
 nodup:ν.ds.Nodup∧E.glob≤lo
theorem FRel.congr {E:Env} {lo:Nat} {ν:Fr} {μ:MM} {g g':SlotFn} {tmps:Array Value} {w:World} (h:FRel E lo ν μ g tmps w) (e:∀ t,g' t=g t):FRel E lo ν μ g' tmps w:=by have:g'=g:=funext e;rw [this]; exact h
theorem FRel.less {E:Env} {lo:Nat} {ν:Fr} {μ:MM} {g g':SlotFn} {tmps:Array Value} {w:World} (h:FRel E lo ν μ g tmps w) (j:∀ t x,g' t=some x→g t=some x):FRel E lo ν μ g' tmps w where
 val:=fun t v e=>h.val t v (j _ _ e)
 undef:=fun t e=>h.undef t (j _ _ e)
 var:=fun t cs e=>h.var t cs (j _ _ e)
 loc:=fun t t' o cs e p=>h.loc t t' o cs (j _ _ e) (j _ _ p)
 sepv:=fun t t' cs cs' q e p=>h.sepv t t' cs cs' q (j _ _ e) (j _ _ p)
 sepm:=fun t cs i m e hm=>h.sepm t cs i m (j _ _ e) hm
 ds:=h.ds
 sepd:=fun r hr=>⟨(h.sepd r hr).1,fun t cs e=>(h.sepd r hr).2 t cs (j _ _ e)⟩
 nodup:=h.nodup
section
variable {E:Env} {lo:Nat} {ν:Fr} {μ μ':MM} {g:SlotFn} {tmps:Array Value} {w w':World}
theorem FRel.keep (h:FRel E lo ν μ g tmps w) (q:Later μ μ') (hb:∀ t cs,g t=some (.var cs)→w'.heap[ν t]? = w.heap[ν t]?)
  (hm:∀ (t:Nat) (cs:List AVal) (i:Nat) (m:M),g t=some (.var cs)→μ.length≤i→μ'[i]? = some (some m)→m.blk≠ν t)
  (hd:∀ r ∈ ν.ds,w'.heap[r]? = w.heap[r]?∧∀ (i:Nat) (m:M),μ.length≤i→μ'[i]? = some (some m)→m.blk≠r):FRel E lo ν μ' g tmps w' where
 val:=fun t v p=>by obtain ⟨v',h1,h2⟩:=h.val t v p;exact ⟨v',h1,h2.later q⟩
 undef:=h.undef
 var:=fun t cs p=>by obtain ⟨h1,h2,c,e,fr,y,A,B,C⟩:=h.var t cs p;exact ⟨h1,h2,c,e,fr,(hb t cs p).trans y,A,B.later q,C⟩
 loc:=h.loc
 sepv:=h.sepv
 sepm:=fun t cs i m p j=>by
  rcases bh i μ.length with h1 | h1
  ·exact h.sepm t cs i m p (q.back h1 j)
  ·exact hm t cs i m p h1 j
 ds:=fun r hr=>⟨(h.ds r hr).1,(hd r hr).1.trans (h.ds r hr).2⟩
 sepd:=fun r hr=>⟨fun i m j=>by
  rcases bh i μ.length with h1 | h1
  ·exact (h.sepd r hr).1 i m (q.back h1 j)
  ·exact (hd r hr).2 i m h1 j,(h.sepd r hr).2⟩
 nodup:=h.nodup
theorem FRel.lt_ds (h:FRel E lo ν μ g tmps w) {r:Nat} (hr:r ∈ ν.ds):r < w.heap.size:=ah (l:=w.heap.toList) (by simpa using (h.ds r hr).2)
theorem FRel.lt (h:FRel E lo ν μ g tmps w) {t:Nat} {cs:List AVal} (j:g t=some (.var cs)):ν t < w.heap.size:=by obtain ⟨_,_,c,e,fr,p,_⟩:=h.var t cs j;exact ah (l:=w.heap.toList) (by simpa using p)
theorem FRel.step {X:Nat→Prop} {wm:Nat} (h:FRel E lo ν μ g tmps w) (hs:Step X wm μ w μ' w') (q:∀ b,b < w.heap.size→¬ X b):FRel E lo ν μ' g tmps w':=by
 refine h.keep hs.later (fun t cs p=>hs.block _ (h.lt p) (q _ (h.lt p)) fun i m _ hm=>h.sepm t cs i m p hm) (fun t cs i m p hi hm=>?_) fun r hr=>?_
 ·rcases hs.new i m hi hm with h1 | ⟨r,m0,_,j,e⟩
  ·have:=h.lt p; omega
  ·rw [← e]; exact h.sepm t cs r m0 p j
 ·refine ⟨hs.block r (h.lt_ds hr) (q r (h.lt_ds hr)) fun i m _ hm=>(h.sepd r hr).1 i m hm,fun i m hi hm=>?_⟩;rcases hs.new i m hi hm with h1 | ⟨y,m0,_,j,e⟩
  ·have:=h.lt_ds hr; omega
  ·rw [← e]; exact (h.sepd r hr).1 y m0 j
def putT (tmps:Array Value) (d:Option Nat) (v:Value):Array Value :=
 match d with
 | some x=>tmps.setIfInBounds x v
 | none=>tmps
def ia (g:SlotFn) (d:Option Nat) (x:Slot):SlotFn:=fun t=>if d=some t then some x else g t
theorem ir (d:Option Nat) (x:Slot) (s:Slots) (t:Nat):sget (a9 d x s) t=ia (sget s) d x t:=by
 cases d with
 | none=>simp [a9,ia]
 | some d=>simp [a9,ia,sget]
theorem FRel.setVal (h:FRel E lo ν μ g tmps w) {d:Option Nat} {v:AVal} {v':Value} (hd:∀ x,d=some x→x < tmps.size) (y:VRel E μ v v') :
  FRel E lo ν μ (ia g d (.val v)) (putT tmps d v') w:=by
 cases d with
 | none=>exact h.congr fun t=>by simp [ia]
 | some d =>
  have hd:=hd d rfl;show FRel E lo ν μ _ (tmps.setIfInBounds d _) w;have key:∀ t,d≠t→(tmps.setIfInBounds d v')[t]? = tmps[t]?:=fun t A=>dm A
  refine ⟨fun t u j=>?_,fun t j=>?_,fun t cs j=>?_,fun t t' o cs j p=>?_,fun t t' cs cs' B j p=>?_,fun t cs i m j hm=>?_,h.ds,fun r hr=>⟨(h.sepd r hr).1,fun t cs j=>?_⟩,h.nodup⟩
  ·by_cases e:d=t
   ·subst e;simp [ia] at j; subst j;exact ⟨v',by simp [hd],y⟩
   ·simp [ia,e] at j; rw [key t e]; exact h.val t u j
  ·by_cases e:d=t
   ·subst e; simp [ia] at j
   ·simp [ia,e] at j; rw [key t e]; exact h.undef t j
  ·by_cases e:d=t
   ·subst e; simp [ia] at j
   ·simp [ia,e] at j; rw [key t e]; exact h.var t cs j
  ·by_cases e:d=t
   ·subst e; simp [ia] at j
   ·by_cases q:d=t'
    ·subst q; simp [ia] at p
    ·simp [ia,e] at j; simp [ia,q] at p; rw [key t e]; exact h.loc t t' o cs j p
  ·by_cases e:d=t
   ·subst e; simp [ia] at j
   ·by_cases q:d=t'
    ·subst q; simp [ia] at p
    ·simp [ia,e] at j; simp [ia,q] at p; exact h.sepv t t' cs cs' B j p
  ·by_cases e:d=t
   ·subst e; simp [ia] at j
   ·simp [ia,e] at j; exact h.sepm t cs i m j hm
  ·by_cases e:d=t
   ·subst e; simp [ia] at j
   ·simp [ia,e] at j; exact (h.sepd r hr).2 t cs j
theorem FRel.setUndef (h:FRel E lo ν μ g tmps w) {d:Option Nat} (hd:∀ x,d=some x→x < tmps.size) :
  FRel E lo ν μ (ia g d .undef) (putT tmps d Go.undef) w:=by
 cases d with
 | none=>exact h.congr fun t=>by simp [ia]
 | some d =>
  have hd:=hd d rfl;show FRel E lo ν μ _ (tmps.setIfInBounds d _) w;have key:∀ t,d≠t→(tmps.setIfInBounds d Go.undef)[t]? = tmps[t]?:=fun t y=>dm y
  refine ⟨fun t u j=>?_,fun t j=>?_,fun t cs j=>?_,fun t t' o cs j p=>?_,fun t t' cs cs' A j p=>?_,fun t cs i m j hm=>?_,h.ds,fun r hr=>⟨(h.sepd r hr).1,fun t cs j=>?_⟩,h.nodup⟩
  ·by_cases e:d=t
   ·subst e; simp [ia] at j
   ·simp [ia,e] at j; rw [key t e]; exact h.val t u j
  ·by_cases e:d=t
   ·subst e; simp [hd]
   ·simp [ia,e] at j; rw [key t e]; exact h.undef t j
  ·by_cases e:d=t
   ·subst e; simp [ia] at j
   ·simp [ia,e] at j; rw [key t e]; exact h.var t cs j
  ·by_cases e:d=t
   ·subst e; simp [ia] at j
   ·by_cases q:d=t'
    ·subst q; simp [ia] at p
    ·simp [ia,e] at j; simp [ia,q] at p; rw [key t e]; exact h.loc t t' o cs j p
  ·by_cases e:d=t
   ·subst e; simp [ia] at j
   ·by_cases q:d=t'
    ·subst q; simp [ia] at p
    ·simp [ia,e] at j; simp [ia,q] at p; exact h.sepv t t' cs cs' A j p
  ·by_cases e:d=t
   ·subst e; simp [ia] at j
   ·simp [ia,e] at j; exact h.sepm t cs i m j hm
  ·by_cases e:d=t
   ·subst e; simp [ia] at j
   ·simp [ia,e] at j; exact (h.sepd r hr).2 t cs j
theorem FRel.setLoc (h:FRel E lo ν μ g tmps w) {d u o:Nat} (hd:d < tmps.size) :
  FRel E lo ν μ (ia g (some d) (.loc u o)) (tmps.setIfInBounds d (.pointer (some ⟨ν u,o,none⟩))) w:=by
 have key:∀ t,d≠t→(tmps.setIfInBounds d (.pointer (some ⟨ν u,o,none⟩)))[t]? = tmps[t]?:=fun t q=>dm q
 refine ⟨fun t x hx=>?_,fun t hx=>?_,fun t cs hx=>?_,fun t t' y cs hx j=>?_,fun t t' cs cs' A hx j=>?_,fun t cs i m hx hm=>?_,h.ds,fun r hr=>⟨(h.sepd r hr).1,fun t cs hx=>?_⟩,h.nodup⟩
 ·by_cases e:d=t
  ·subst e; simp [ia] at hx
  ·simp [ia,e] at hx; rw [key t e]; exact h.val t x hx
 ·by_cases e:d=t
  ·subst e; simp [ia] at hx
  ·simp [ia,e] at hx; rw [key t e]; exact h.undef t hx
 ·by_cases e:d=t
  ·subst e; simp [ia] at hx
  ·simp [ia,e] at hx; rw [key t e]; exact h.var t cs hx
 ·by_cases e:d=t
  ·subst e; simp [ia] at hx; obtain ⟨rfl,rfl⟩:=hx; simp [hd]
  ·by_cases p:d=t'
   ·subst p; simp [ia] at j
   ·simp [ia,e] at hx; simp [ia,p] at j; rw [key t e]; exact h.loc t t' y cs hx j
 ·by_cases e:d=t
  ·subst e; simp [ia] at hx
  ·by_cases p:d=t'
   ·subst p; simp [ia] at j
   ·simp [ia,e] at hx; simp [ia,p] at j; exact h.sepv t t' cs cs' A hx j
 ·by_cases e:d=t
  ·subst e; simp [ia] at hx
  ·simp [ia,e] at hx; exact h.sepm t cs i m hx hm
 ·by_cases e:d=t
  ·subst e; simp [ia] at hx
  ·simp [ia,e] at hx; exact (h.sepd r hr).2 t cs hx
end
end Go.Abs

namespace Go.Abs
section
variable {E:Env} {μ:MM} {h:Heap} {w:World}
def cz (w:World) (b:Nat) (o:Obj):World:={ w with heap:=w.heap.setIfInBounds b o }
theorem gp {w:World} {b:Nat} {o:Obj} (hb:b < w.heap.size):(cz w b o).heap[b]? = some o:=by simp [cz,hb]
theorem bo {w:World} {b k:Nat} {o:Obj} (hb:b≠k):(cz w b o).heap[k]? = w.heap[k]?:=by simp [cz,dm hb]
theorem sk {w:World} {b:Nat} {o:Obj} (h:w.heap[b]? = some o):b < w.heap.size:=ah (l:=w.heap.toList) (by simpa using h)
theorem Rel.same (hr:Rel E μ h w) {h':Heap} {w':World} (ho:h'.objs=h.objs) (hb:h'.base=h.base) (hw:w'.heap=w.heap):Rel E μ h' w':=by
 refine ⟨by rw [ho]; exact hr.len,by rw [ho,hb]; exact hr.bs,fun i o hi=>?_,fun i j mi mj e hi=>?_,fun i m hm=>by rw [hw]; exact hr.lt i m hm,hr.tab.of (by rw [hw]; exact aj _) (fun k _ _ _=>by rw [hw]) fun i m hi hm=>.inr ⟨i,m,by rw [← hb]; exact hi,hm,rfl⟩⟩
 ·rw [hb]; rw [ho] at hi;exact (hr.obj i o hi).keep (Later.refl _) fun m hm=>⟨hm,by rw [hw]⟩
 ·rw [hb] at hi; exact hr.sep i j mi mj e hi
theorem Rel.keep (hr:Rel E μ h w) {w':World} (hs:w.heap.size≤w'.heap.size) (e:∀ (i:Nat) (m:M),μ[i]? = some (some m)→w'.heap[m.blk]? = w.heap[m.blk]?) (j:∀ k,k < E.glob→k < w.heap.size→w'.heap[k]? = w.heap[k]?):Rel E μ h w' :=
 ⟨hr.len,hr.bs,fun i o hi=>(hr.obj i o hi).keep (Later.refl _) fun m hm=>⟨hm,e i m hm⟩,hr.sep,fun i m hm=>fg (hr.lt i m hm) hs,hr.tab.of hs (fun k h1 h2 _=>j k h1 h2) fun i m hi hm=>.inr ⟨i,m,hi,hm,rfl⟩⟩
theorem g9 (μ:MM) (x:Option M):Later μ (μ++[x]) :=
 ⟨by simp,fun i hi=>.inl (by rw [ag hi])⟩
theorem iq {μ:MM} {x:Option M} {i:Nat} {m:Option M} (hm:(μ++[x])[i]? = some m):μ[i]? = some m∨(i=μ.length∧x=m):=by
 rcases bh i μ.length with h1 | h1
 ·rw [ag h1] at hm; exact .inl hm
 ·rw [aw h1] at hm
  have:i - μ.length=0:=by
   rcases Nat.eq_zero_or_pos (i - μ.length) with h2 | h2
   ·exact h2
   ·rw [bw (by simp; omega)] at hm; cases hm
  rw [this] at hm; simp at hm;exact .inr ⟨by omega,hm⟩
theorem Rel.push (hr:Rel E μ h w) (o:AObj) (B:Obj) (m:M) (hm:m.blk=w.heap.size)
  (ho:ORel E (μ++[some m]) h.base μ.length { w with heap:=w.heap.push B } o) :
  Rel E (μ++[some m]) (h.push o) { w with heap:=w.heap.push B }:=by
 have p:∀ k,k < w.heap.size→(w.heap.push B)[k]? = w.heap[k]?:=fun k A=>by rw [c8,if_neg (by omega)]
 refine ⟨by simp [Heap.push,hr.len],by have:=hr.bs; simp [Heap.push]; omega,fun i y hi=>?_,fun i j mi mj q hi h1 h2=>?_,fun i m' e=>?_,hr.tab.of (by simp) (fun k _ h2 _=>p k h2) fun i m' hi e=>(iq e).elim (fun a=>.inr ⟨i,m',hi,a,rfl⟩) fun ⟨_,a⟩=>.inl (by cases a; omega)⟩
 ·simp only [Heap.push] at hi ⊢;rcases bh i h.objs.length with h1 | h1
  ·rw [ag h1] at hi;exact (hr.obj i y hi).keep (g9 μ _) fun m' e=>⟨by rw [ag (ah e)]; exact e,p _ (hr.lt i m' e)⟩
  ·rw [aw h1] at hi
   have h2:i - h.objs.length=0:=by
    rcases Nat.eq_zero_or_pos (i - h.objs.length) with h2 | h2
    ·exact h2
    ·rw [bw (by simp; omega)] at hi; cases hi
   rw [h2] at hi; simp at hi; subst hi;have:i=μ.length:=by rw [hr.len]; omega
   subst this; exact ho
 ·rcases iq h1 with a | ⟨rfl,a⟩ <;> rcases iq h2 with b | ⟨rfl,b⟩
  ·exact hr.sep i j mi mj q hi a b
  ·cases b; have:=hr.lt i mi a; omega
  ·cases a; have:=hr.lt j mj b; omega
  ·exact absurd rfl q
 ·rcases iq e with a | ⟨rfl,a⟩
  ·have:=hr.lt i m' a; simp; omega
  ·cases a; simp [hm]
theorem Step.push {X:Nat→Prop} (wm:Nat) (μ:MM) (w:World) (B:Obj) (m:M) (hm:w.heap.size≤m.blk):Step X wm μ w (μ++[some m]) { w with heap:=w.heap.push B } where
 os:=rfl
 tape:=rfl
 output:=rfl
 size:=by simp
 block:=fun k j _ _=>by
  show (w.heap.push B)[k]? = _
  rw [c8,if_neg (by omega)]
 len:=by simp
 old:=fun i hi=>.inl (by rw [ag hi])
 new:=fun i m' hi e=>by
  rcases iq e with a | ⟨_,a⟩
  ·exact absurd (ah a) (by omega)
  ·cases a; exact .inl hm
theorem Step.heap {X:Nat→Prop} {wm:Nat} {μ μ':MM} {w w' w1:World} (h:Step X wm μ w μ' w') (e:w1.heap=w'.heap) (j:w1.os=w'.os) (p:w1.tape=w'.tape) (q:w1.output=w'.output):Step X wm μ w μ' w1 :=
 ⟨j.trans h.os,p.trans h.tape,q.trans h.output,by rw [e]; exact h.size,fun k y hx A=>by rw [e]; exact h.block k y hx A,h.len,h.old,h.new⟩
theorem n5 {μ:MM} {i j:Nat} {x:Option M}:(μ.set i x)[j]? = if i=j then (if j < μ.length then some x else none) else μ[j]?:=by
 by_cases e:i=j
 ·subst e; simp [List.getElem?_set_self']; split <;> simp_all
 ·simp [e]
theorem Rel.put (hr:Rel E μ h w) {i:Nat} {m:M} {o:AObj} {B:Obj} (hi:h.base≤i) (hm:μ[i]? = some (some m))
  (ho:ORel E μ h.base i (cz w m.blk B) o):Rel E μ (h.put i o) (cz w m.blk B):=by
 have y:=hr.lt i m hm;refine ⟨by simp [Heap.put,hr.len],by simpa [Heap.put] using hr.bs,fun j A q=>?_,hr.sep,fun j m' p=>by simp [cz]; exact hr.lt j m' p,hr.tab.of (by simp [cz]) (fun k _ _ C=>bo (C i m hi hm)) fun j m' q p=>.inr ⟨j,m',q,p,rfl⟩⟩;simp only [Heap.put] at q ⊢;by_cases e:i=j
 ·subst e;have:i < h.objs.length:=by rw [← hr.len]; exact ah hm
  simp [this] at q; subst q; exact ho
 ·rw [aq e] at q;exact (hr.obj j A q).keep (Later.refl _) fun m' p=>⟨p,bo (hr.sep i j m m' e hi hm p)⟩
theorem Step.put {X:Nat→Prop} {wm:Nat} {i:Nat} {m:M} (hm:μ[i]? = some (some m)) (hw:wm≤i) (B:Obj):Step X wm μ w μ (cz w m.blk B) where
 os:=rfl
 tape:=rfl
 output:=rfl
 size:=by simp [cz]
 block:=fun k _ _ p=>bo (p i m hw hm)
 len:=aj _
 old:=fun _ _=>.inl rfl
 new:=fun j m' q e=>absurd (ah e) (by omega)
theorem ni (μ:MM) (i:Nat):Later μ (μ.set i none) :=
 ⟨by simp,fun j p=>by
  rw [n5];by_cases e:i=j
  ·right; subst e; simp [p]
  ·left; simp [e]⟩
theorem Rel.kill (hr:Rel E μ h w) (i:Nat):Rel E (μ.set i none) (h.put i .dead) w:=by
 refine ⟨by simp [Heap.put,hr.len],by simpa [Heap.put] using hr.bs,fun j o p=>?_,fun j k mj mk q p h1 h2=>?_,fun j m hm=>?_,hr.tab.less fun j m p hm=>⟨j,m,p,by rw [n5] at hm; split at hm; (· split at hm <;> cases hm); exact hm,rfl⟩⟩
 ·simp only [Heap.put] at p ⊢;by_cases e:i=j
  ·subst e;rw [List.getElem?_set_self'] at p;cases hx:h.objs[i]? with
   | none=>rw [hx] at p; simp at p
   | some y =>
    rw [hx] at p; simp at p; subst p;simp only [ORel];rw [n5,if_pos rfl,if_pos (by rw [hr.len]; exact ah hx)]
  ·rw [aq e] at p;exact (hr.obj j o p).keep (ni μ i) fun m hm=>⟨by rw [n5,if_neg e]; exact hm,rfl⟩
 ·rw [n5] at h1 h2;simp only [Heap.put] at p
  have A:i≠j:=by intro e; rw [if_pos e] at h1;split at h1 <;> cases h1
  have B:i≠k:=by intro e; rw [if_pos e] at h2;split at h2 <;> cases h2
  rw [if_neg A] at h1; rw [if_neg B] at h2;exact hr.sep j k mj mk q p h1 h2
 ·rw [n5] at hm;split at hm
  ·split at hm <;> cases hm
  ·exact hr.lt j m hm
theorem Step.kill {X:Nat→Prop} {wm:Nat} (μ:MM) (w:World) {i:Nat} (hw:wm≤i):Step X wm μ w (μ.set i none) w where
 os:=rfl
 tape:=rfl
 output:=rfl
 size:=aj _
 block:=fun _ _ _ _=>rfl
 len:=by simp
 old:=fun j p=>by
  rw [n5];by_cases e:i=j
  ·right; subst e; simp [p,hw]
  ·left; simp [e]
 new:=fun j m p hm=>absurd (ah hm) (by simp; omega)
theorem Rel.take (hr:Rel E μ h w) {i:Nat} {m m':M} {o:AObj} {B:Obj} (hi:h.base≤i) (hm:μ[i]? = some (some m)) (hb:m'.blk=m.blk)
  (ho:ORel E (μ.set i none++[some m']) h.base μ.length (cz w m.blk B) o) :
  Rel E (μ.set i none++[some m']) ((h.put i .dead).push o) (cz w m.blk B):=by
 have A:=hr.kill i;have C:(μ.set i none).length=μ.length:=by simp
 have y:∀ (j:Nat) (mj:M),(μ.set i none)[j]? = some (some mj)→mj.blk≠m.blk:=by
  intro j mj p;rw [n5] at p;by_cases e:i=j
  ·rw [if_pos e] at p; split at p <;> cases p
  ·rw [if_neg e] at p; exact fun G=>hr.sep i j m mj e hi hm p G.symm
 refine ⟨by simp [Heap.push,Heap.put,hr.len],by have:=hr.bs; simp [Heap.push,Heap.put]; omega,fun j H p=>?_,fun j k mj mk D p h1 h2=>?_,fun j mj q=>?_,hr.tab.of (by simp [cz]) (fun k _ _ I=>bo (I i m hi hm)) fun j mj p q=>?_⟩
 ·simp only [Heap.push] at p;rcases bh j (h.put i .dead).objs.length with h1 | h1
  ·rw [ag h1] at p;exact (A.obj j H p).keep (g9 _ _) fun mj q=>⟨by rw [ag (ah q)]; exact q,bo (y j mj q).symm⟩
  ·rw [aw h1] at p
   have h2:j - (h.put i .dead).objs.length=0:=by
    rcases Nat.eq_zero_or_pos (j - (h.put i .dead).objs.length) with h2 | h2
    ·exact h2
    ·rw [bw (by simp; omega)] at p; cases p
   rw [h2] at p; simp at p; subst p;have:j=μ.length:=by rw [hr.len]; simp [Heap.put] at h1 h2; omega
   subst this; exact ho
 ·rcases iq h1 with a | ⟨J,a⟩ <;> rcases iq h2 with b | ⟨K,b⟩
  ·exact A.sep j k mj mk D p a b
  ·cases b; rw [hb]; exact y j mj a
  ·cases a; rw [hb]; exact fun e=>y k mk b e.symm
  ·exact absurd (J.trans K.symm) D
 ·rcases iq q with a | ⟨e,a⟩
  ·have:=A.lt j mj a; simpa [cz] using this
  ·cases a; rw [hb]; simpa [cz] using hr.lt i m hm
 ·rcases iq q with a | ⟨_,a⟩
  ·rw [n5] at a;split at a
   ·split at a <;> cases a
   ·exact .inr ⟨j,mj,p,a,rfl⟩
  ·cases a; exact .inr ⟨i,m,hi,hm,hb.symm⟩
theorem Step.take {X:Nat→Prop} {wm:Nat} {i:Nat} {m m':M} (B:Obj) (hm:μ[i]? = some (some m)) (hb:m'.blk=m.blk) (hw:wm≤i) :
  Step X wm μ w (μ.set i none++[some m']) (cz w m.blk B) where
 os:=rfl
 tape:=rfl
 output:=rfl
 size:=by simp [cz]
 block:=fun k _ _ q=>bo (q i m hw hm)
 len:=by simp
 old:=fun j e=>by rw [ag (by simpa using e)];exact (Step.kill (X:=X) μ w hw).old j e
 new:=fun j mj e p=>by
  rcases iq p with a | ⟨_,a⟩
  ·exact absurd (ah a) (by simp; omega)
  ·cases a; exact .inr ⟨i,m,hw,hm,hb.symm⟩
end
def one?:Value→Bool
 | .agg _ | .tuple _=>false
 | _=>true
section
variable {P:Program} {w:World}
theorem mh {w:World} {b o:Nat} {c:Array Value} {e:TypeId} {fr:Nat × Nat} (hb:w.heap[b]? = some (.cells c e fr)):w.cell? ⟨b,o,none⟩=c[o]?:=by simp [World.cell?,hb]
theorem z5 {w:World} {b o:Nat} {c:Array Value} {e:TypeId} {fr:Nat × Nat} (hb:w.heap[b]? = some (.cells c e fr)):w.frozen? ⟨b,o,none⟩=decide (fr.1≤o∧o < fr.2):=by obtain ⟨lo,hi⟩:=fr;simp [World.frozen?,hb]
theorem setCell_block {w:World} {b o:Nat} {c:Array Value} {j:TypeId} {fr:Nat × Nat} (v:Value) (hb:w.heap[b]? = some (.cells c j fr)) :
  w.setCell ⟨b,o,none⟩ v=cz w b (.cells (c.setIfInBounds o v) j fr):=by
 have q:=sk hb;simp only [World.setCell,cz];congr 1;apply Array.ext_getElem?;intro k;rw [Array.getElem?_modify,Array.getElem?_setIfInBounds];by_cases e:b=k
 ·subst e;have p:w.heap[b] = .cells c j fr:=by rw [lf q] at hb; exact ce hb
  simp [q,p]
 ·simp [e]
theorem z6 (w:World) (b:Nat) (o e:Obj):cz (cz w b o) b e=cz w b e:=by simp [cz]
def jm (c:Array Value) (off:Nat) (vs:List Value):Array Value :=
 match vs with
 | []=>c
 | v :: r=>jm (c.setIfInBounds off v) (off+1) r
theorem jl:∀ (vs:List Value) (c:Array Value) (off:Nat),(jm c off vs).size=c.size
 | [],_,_=>rfl
 | v :: r,c,off=>by simp [jm,jl r]
theorem uf:∀ (vs:List Value) (c:Array Value) (off k:Nat),off+vs.length≤c.size →
  (jm c off vs)[k]? = if off≤k∧k < off+vs.length then vs[k - off]? else c[k]?
 | [],c,off,k,_=>by simp only [jm,eq,qg];rw [if_neg (by omega)]
 | v :: r,c,off,k,h=>by
  simp only [cq] at h;simp only [jm];rw [uf r _ (off+1) k (by simp; omega)];by_cases h1:off=k
  ·subst h1;have e:off < c.size:=by omega
   rw [if_neg (by omega),if_pos (by simp)];simp [e]
  ·by_cases h2:off≤k∧k < off+(v :: r).length
   ·rw [if_pos h2,if_pos (by simp at h2; omega)];have:k - off=(k - (off+1))+1:=by omega
    rw [this]; simp
   ·rw [if_neg h2,if_neg (by simp at h2; omega),dm h1]
theorem ju {b:Nat} {e:TypeId} {fr:Nat × Nat} {a:Addr} (ha:a.block=b) (hs:a.spot=none):∀ (vs:List Value) (i:Nat) (c:Array Value) (w:World),
  w.heap[b]? = some (.cells c e fr)→a.off+i+vs.length≤c.size→(∀ off,off < c.size→¬ (fr.1≤off∧off < fr.2))→(∀ v ∈ vs,one? v=true) →
  (storeCells a vs i).run P w = .ok () (cz w b (.cells (jm c (a.off+i) vs) e fr))
 | [],i,c,w,hb,_,_,_=>by
  simp only [storeCells,jm];show Result.ok () w=_;congr 1;simp only [cz];have q:=sk hb
  have:w.heap.setIfInBounds b (.cells c e fr)=w.heap:=by
   apply Array.ext_getElem?;intro k;by_cases e:b=k
   ·subst e; simp [q];simpa [q] using hb.symm
   ·simp [dm e]
  rw [this]
 | v :: r,i,c,w,hb,q,B,h1=>by
  have j:a.add i=⟨b,a.off+i,none⟩:=by
   unfold Addr.add;split
   ·rename_i h0; subst h0; cases a; simp at ha hs; subst ha; subst hs; simp
   ·cases a; simp at ha; subst ha; rfl
  have C:one? v=true:=h1 v (a8 ..);have hi:a.off+i < c.size:=by simp at q; omega
  have p:w.cell? (a.add i)=some c[a.off+i]:=by rw [j,mh hb]; simp [hi]
  have y:w.frozen? (a.add i)=false:=by rw [j,z5 hb]; simpa using B _ hi
  have hstore:(store (a.add i) v).run P w = .ok () (w.setCell (a.add i) v):=by cases v <;> simp only [one?,cg] at C <;> simp [store,Sem.run,p,y]
  simp only [storeCells,Sem.run_bind,hstore,Result.andThen_ok];rw [j,setCell_block v hb];have A:(cz w b (.cells (c.setIfInBounds (a.off+i) v) e fr)).heap[b]? = some (.cells (c.setIfInBounds (a.off+i) v) e fr):=gp (sk hb);rw [ju ha hs r (i+1) _ _ A (by simp at q ⊢; omega) (by simpa using B) (fun x hx=>h1 x (bd _ hx)),z6];rfl
theorem oneCell_of {E:Env} {μ:MM} {a:AVal} {v:Value} (h:VRel E μ a v) (hc:a.isOne=true):one? v=true:=by obtain ⟨h1,h2⟩:=one_rel h hc;cases v <;> first | rfl | (exact absurd ⟨_,rfl⟩ h1) | (exact absurd ⟨_,rfl⟩ h2)
theorem nj {E:Env} {μ:MM} {aZ:List AVal} {l:List Value} (h:VRels E μ aZ l) (hc:∀ x ∈ aZ,x.isOne=true):∀ v ∈ l,one? v=true:=by
 induction aZ generalizing l with
 | nil=>simp only [VRels] at h; subst h; simp
 | cons a aZ ih =>
  simp only [VRels] at h;obtain ⟨v,r,rfl,h1,h2⟩:=h;intro x hx;rcases cj.1 hx with rfl | hx
  ·exact oneCell_of h1 (hc a (a8 ..))
  ·exact ih h2 (fun y e=>hc y (bd _ e)) x hx
theorem CRel.splice {E:Env} {μ:MM} {cs xs:List AVal} {c:Array Value} {l:List Value} {b o:Nat} (h:CRel E μ cs c b) (hx:VRels E μ xs l) (h1:∀ x ∈ xs,x.isOne=true)
  (ho:o+xs.length≤cs.length) (hs:b+cs.length≤c.size):CRel E μ (Abs.splice cs o xs) (jm c (b+o) l) b:=by
 have p:=hx.length;intro k v e;rw [uf l c (b+o) (b+k) (by omega)];simp only [Abs.splice] at e;by_cases h2:k < o
 ·rw [ba,ag (by simp; omega),fp h2] at e;rw [if_neg (by omega)];exact h k v e
 ·by_cases q:k < o+xs.length
  ·rw [ba,aw (by simp; omega),ag (by simp; omega)] at e;have:k - (List.take o cs).length=k - o:=by simp; omega
   rw [this] at e;obtain ⟨v',j,hr⟩:=hx.get e;rw [if_pos (by omega)];refine ⟨h1 v (br e),v',?_,hr⟩;rw [← j]; congr 1; omega
  ·rw [aw (by simp; omega)] at e;rw [dt] at e;have:o+xs.length+(k - (List.take o cs++xs).length)=k:=by simp; omega
   rw [this] at e;rw [if_neg (by omega)];exact h k v e
theorem ly (cs:List AVal) (o:Nat) (xs:List AVal) (h:o+xs.length≤cs.length):(splice cs o xs).length=cs.length:=by simp [splice]; omega
end
end Go.Abs

namespace Go.Abs
section
variable {E:Env} {lo:Nat} {ν:Fr} {μ:MM} {s:Slots} {a:Act} {w:World}
theorem wa (d:Nat):∀ (s:Slots) (t:Nat),sget (qf d s) t=match sget s t with
  | some (.loc t' o)=>if t'=d then some .gone else some (.loc t' o)
  | x=>x
 | [],t=>rfl
 | (u,x) :: r,t=>by
  have j:=wa d r t;cases x with
  | loc t' o =>
   simp only [qf,sget];by_cases e:u=t
   ·simp [e]; split <;> rfl
   ·simp [e,j]
  | _ =>
   simp only [qf,sget];by_cases e:u=t
   ·simp [e]
   ·simp [e,j]
theorem sget_keep (l:List Nat) (s:Slots) (t:Nat) (x:Slot) (h:sget (keep l s) t=some x):sget s t=some x:=by
 unfold keep at h;induction l with
 | nil=>simp [sget] at h
 | cons u r ih =>
  simp only [List.filterMap_cons] at h;split at h
  ·exact ih h
  ·rename_i y j
   have:y.1=u∧sget s u=some y.2:=by
    cases hs:sget s u with
    | none=>rw [hs] at j; simp at j
    | some z=>rw [hs] at j; cases z <;> simp at j <;> subst j <;> simp
   obtain ⟨p,q⟩:=this;obtain ⟨y1,A⟩:=y;simp only at p q;subst p;simp only [sget] at h;split at h
   ·rename_i e; subst e; cases h; exact q
   ·exact ih h
theorem w9 {t:Nat} {v:Value} (h:a.tmps[t]? = some v):a.eval (.tmp t)=v:=by simp [Act.eval,h]
theorem cd (j:FRel E lo ν μ (sget s) a.tmps w) {x:Operand} {y:Opd} {v:AVal} (hc:gq E x=some y) (e:y.ev s=some v):VRel E μ v (a.eval x):=by
 cases x with
 | tmp t =>
  simp only [gq] at hc; cases hc;simp only [Opd.ev] at e;split at e
  ·rename_i v' hs;cases e;obtain ⟨u,p,hr⟩:=j.val t _ hs;rw [w9 p]; exact hr
  ·simp at e
 | const c =>
  simp only [gq] at hc;rw [ae] at hc;obtain ⟨b,hb,rfl⟩:=hc;simp only [Opd.ev] at e; cases e;exact toA_rel hb μ
 | func f =>
  simp only [gq] at hc;rw [ae] at hc;obtain ⟨g,q,rfl⟩:=hc;simp only [Opd.ev] at e; cases e;simp only [VRel,Act.eval];exact ⟨f,#[],#[],rfl,q,by simp [VRels],by simp [VRels]⟩
 | global g=>simp [gq] at hc
theorem jr (p:FRel E lo ν μ (sget s) a.tmps w):∀ {xs:List Operand} {j:List Opd} {vs:List AVal},cOpds E xs=some j→evs s j=some vs→VRels E μ vs (xs.map a.eval)
 | [],j,vs,hc,e=>by simp only [cOpds] at hc; cases hc;simp only [evs] at e; cases e;simp [VRels]
 | x :: xs,j,vs,hc,e=>by
  simp only [cOpds] at hc;split at hc
  ·rename_i y q h1 h2;cases hc;simp only [evs] at e;split at e
   ·rename_i v A B C;cases e;simp only [VRels,bi];exact ⟨_,_,rfl,cd p h1 B,jr p h2 C⟩
   ·simp at e
  ·simp at hc
theorem ue (p:FRel E lo ν μ (sget s) a.tmps w) {x:Operand} {y:Opd} {i o:Nat} (hc:gq E x=some y) (e:y.adr s=some (.glob i o)) :
  ∃ j,a.eval x = .pointer (some j)∧ARel μ i o j:=by
 cases x with
 | tmp t =>
  simp only [gq] at hc; cases hc;simp only [Opd.adr] at e;split at e
  ·rename_i A B hs;cases e;obtain ⟨u,q,hr⟩:=p.val t _ hs;simp only [VRel] at hr;obtain ⟨j,rfl,hr⟩:=hr;exact ⟨j,w9 q,hr⟩
  ·cases e
  ·cases e
  ·simp at e
 | const c=>simp only [gq] at hc; rw [ae] at hc; obtain ⟨b,_,rfl⟩:=hc; simp [Opd.adr] at e
 | func f=>simp only [gq] at hc; rw [ae] at hc; obtain ⟨b,_,rfl⟩:=hc; simp [Opd.adr] at e
 | global g=>simp [gq] at hc
theorem xb (j:FRel E lo ν μ (sget s) a.tmps w) {x:Operand} {y:Opd} {t o:Nat} {cs:List AVal} (hc:gq E x=some y) (e:y.adr s=some (.loc t o)) (p:sget s t=some (.var cs)) :
  a.eval x = .pointer (some ⟨ν t,o,none⟩):=by
 cases x with
 | tmp u =>
  simp only [gq] at hc; cases hc;simp only [Opd.adr] at e;split at e
  ·cases e
  ·rename_i cs' hs;cases e;exact w9 (j.var _ _ hs).1
  ·rename_i t' q hs;cases e;exact w9 (j.loc _ _ _ _ hs p)
  ·simp at e
 | const c=>simp only [gq] at hc; rw [ae] at hc; obtain ⟨b,_,rfl⟩:=hc; simp [Opd.adr] at e
 | func f=>simp only [gq] at hc; rw [ae] at hc; obtain ⟨b,_,rfl⟩:=hc; simp [Opd.adr] at e
 | global g=>simp [gq] at hc
theorem FRel.setVar {d:Nat} {tmps:Array Value} (y:FRel E lo ν μ (sget s) tmps w) (hm:∀ (i:Nat) (m:M),μ[i]? = some (some m)→m.blk < w.heap.size) (L:lo≤w.heap.size) (hd:d < tmps.size)
  {cs:List AVal} {c:Array Value} (e:TypeId) (hc:VRels E μ cs c.toList) (h1:∀ x ∈ cs,x.isOne=true) :
  FRel E lo ⟨fun t=>if t=d then w.heap.size else ν t,ν.ds⟩ μ (ia (sget (qf d s)) (some d) (.var cs)) (tmps.setIfInBounds d (.pointer (some ⟨w.heap.size,0,none⟩)))
   { w with heap:=w.heap.push (.cells c e (0,0)) }:=by
 have key:∀ t,d≠t→(tmps.setIfInBounds d (.pointer (some ⟨w.heap.size,0,none⟩)))[t]? = tmps[t]?:=fun t j=>dm j
 have old:∀ {t:Nat} {x:Slot},d≠t→ia (sget (qf d s)) (some d) (.var cs) t=some x→x ≠ .gone→sget s t=some x∧∀ t' o,x = .loc t' o→t'≠d:=by
  intro t x j hx hg;have p:¬ (d=t):=j;simp only [ia,fq,p,if_false] at hx;rw [wa] at hx;split at hx
  ·rename_i t' o hs;split at hx
   ·cases hx; exact absurd rfl hg
   ·rename_i G; cases hx; exact ⟨hs,fun a0 o' e=>by cases e; exact G⟩
  ·rename_i G;exact ⟨hx,fun t' o e=>by subst e; exact absurd hx (G t' o)⟩
 have blk:∀ k,k < w.heap.size→(w.heap.push (.cells c e (0,0)))[k]? = w.heap[k]?:=fun k N=>by rw [c8,if_neg (by omega)]
 refine ⟨fun t u q=>?_,fun t q=>?_,fun t cs' q=>?_,fun t t' o cs' q C=>?_,fun t t' O Q U q C=>?_,fun t cs' i m q D=>?_,fun r hr=>?_,fun r hr=>⟨fun i m D=>(y.sepd r hr).1 i m D,fun t cs' q=>?_⟩,y.nodup⟩
 ·by_cases j:d=t
  ·subst j; simp [ia] at q
  ·rw [key t j]; exact y.val t u (old j q (by simp)).1
 ·by_cases j:d=t
  ·subst j; simp [ia] at q
  ·rw [key t j]; exact y.undef t (old j q (by simp)).1
 ·by_cases j:d=t
  ·subst j;simp [ia] at q; subst q;refine ⟨by simp [hd],by simp [L],c,e,(0,0),by simp,by rw [hc.length]; simp,fun k v N=>?_,⟨aj _,fun off _=>by simp⟩⟩;obtain ⟨v',V,hr⟩:=hc.get N;exact ⟨h1 v (br N),v',by simpa using V,hr⟩
  ·obtain ⟨A,B,c',e',fr,K,k4,k5,k6⟩:=y.var t cs' (old j q (by simp)).1;have p:¬ (t=d):=fun e=>j e.symm
   simp only [p,if_false];exact ⟨by rw [key t j]; exact A,B,c',e',fr,by rw [blk _ (sk K)]; exact K,k4,k5,k6⟩
 ·by_cases j:d=t
  ·subst j; simp [ia] at q
  ·obtain ⟨A,B⟩:=old j q (by simp);have p:t'≠d:=B t' o rfl;have I:d≠t':=fun e=>p e.symm
   obtain ⟨K,_⟩:=old I C (by simp);rw [key t j];simp only [p,if_false];exact y.loc t t' o cs' A K
 ·by_cases j:d=t
  ·subst j;have B:=(old U C (by simp)).1;have W:¬ (t'=d):=fun e=>U e.symm
   simp only [if_true,W,if_false];have:=y.lt B;omega
  ·have A:=(old j q (by simp)).1;have p:¬ (t=d):=fun e=>j e.symm
   by_cases H:d=t'
   ·subst H;simp only [if_true,p,if_false];have:=y.lt A;omega
   ·have B:=(old H C (by simp)).1;have J:¬ (t'=d):=fun e=>H e.symm
    simp only [p,J,if_false];exact y.sepv t t' O Q U A B
 ·by_cases j:d=t
  ·subst j;simp only [if_true];have:=hm i m D;omega
  ·have A:=(old j q (by simp)).1;have p:¬ (t=d):=fun e=>j e.symm
   simp only [p,if_false];exact y.sepm t cs' i m A D
 ·obtain ⟨A,B⟩:=y.ds r hr;exact ⟨A,by rw [blk _ (sk B)]; exact B⟩
 ·by_cases j:d=t
  ·subst j;have:=sk (y.ds r hr).2;simp only [if_true];omega
  ·have A:=(old j q (by simp)).1;have p:¬ (t=d):=fun e=>j e.symm
   simp only [p,if_false];exact (y.sepd r hr).2 t cs' A
theorem FRel.putVar {t:Nat} {tmps:Array Value} (y:FRel E lo ν μ (sget s) tmps w) {cs cs':List AVal} {c':Array Value} {e:TypeId} {fr:Nat × Nat}
  (C:sget s t=some (.var cs)) (hs:c'.size=cs'.length) (hc:CRel E μ cs' c' 0) (H:Free 0 fr c'.size) :
  FRel E lo ν μ (sget ((t,.var cs') :: s)) tmps (cz w (ν t) (.cells c' e fr)):=by
 have I:=y.lt C
 have old:∀ {u:Nat} {x:Slot},t≠u→sget ((t,.var cs') :: s) u=some x→sget s u=some x:=by intro u x p hx;have A:¬ (t=u):=p;simpa [sget,A] using hx
 have j:∀ {u:Nat} {q:List AVal},sget ((t,.var cs') :: s) u=some (.var q)→∃ B,sget s u=some (.var B):=by
  intro u q p;by_cases e:t=u
  ·subst e; exact ⟨cs,C⟩
  ·exact ⟨q,old e p⟩
 refine ⟨fun u v p=>?_,fun u p=>?_,fun u q p=>?_,fun u J o q p A=>?_,fun u J q B O p A=>?_,fun u q i m p K=>?_,fun r hr=>?_,fun r hr=>⟨(y.sepd r hr).1,fun u q p=>?_⟩,y.nodup⟩
 ·by_cases e:t=u
  ·subst e; simp [sget] at p
  ·exact y.val u v (old e p)
 ·by_cases e:t=u
  ·subst e; simp [sget] at p
  ·exact y.undef u (old e p)
 ·by_cases L:t=u
  ·subst L;simp [sget] at p; subst p;obtain ⟨D,G,_⟩:=y.var t cs C;exact ⟨D,G,c',e,fr,gp I,hs,hc,H⟩
  ·have ho:=old L p;obtain ⟨D,G,c1,Q,N,U,V,W,k6⟩:=y.var u q ho;exact ⟨D,G,c1,Q,N,by rw [bo (y.sepv t u cs q L C ho)]; exact U,V,W,k6⟩
 ·by_cases e:t=u
  ·subst e; simp [sget] at p
  ·obtain ⟨B,h2⟩:=j A;exact y.loc u J o B (old e p) h2
 ·obtain ⟨a1,h1⟩:=j p;obtain ⟨a2,h2⟩:=j A;exact y.sepv u J a1 a2 O h1 h2
 ·obtain ⟨a1,h1⟩:=j p;exact y.sepm u a1 i m h1 K
 ·obtain ⟨D,G⟩:=y.ds r hr;exact ⟨D,by rw [bo ((y.sepd r hr).2 t cs C)]; exact G⟩
 ·obtain ⟨a1,h1⟩:=j p;exact (y.sepd r hr).2 u a1 h1
end
end Go.Abs

namespace Go.Abs
section
variable {E:Env} {lo:Nat} {ν:Fr} {μ:MM} {s:Slots} {h:Heap} {a:Act} {w:World} {call:CallSem} {d:Nat}
theorem fo {v:Option AVal} {x:Slot} {j:Slots} {h':Heap} (e:ok1 s h v=some (x,j,h')):∃ u,v=some u∧x = .val u∧j=s∧h'=h:=by unfold ok1 at e;rw [ae] at e;obtain ⟨u,p,e⟩:=e;cases e;exact ⟨u,p,rfl,rfl,rfl⟩
theorem ny:∀ (a b:List UInt8),aBytesLess a b=Op.bytesLess a b
 | [],[]=>rfl
 | [],_ :: _=>rfl
 | _ :: _,[]=>rfl
 | x :: a,y :: b=>by simp [aBytesLess,Op.bytesLess,ny a b]
theorem mz {α:Type} [BEq α] [LawfulBEq α] [DecidableEq α] (a b:α):(a == b)=decide (a=b):=by rw [wd]; simp
theorem mk_append (a b:List UInt8):(⟨a.toArray⟩:ByteArray)++⟨b.toArray⟩=⟨(a++b).toArray⟩:=by apply ByteArray.ext;simp
theorem pk (a:List UInt8):(⟨a.toArray⟩:ByteArray).size=a.length:=by simp [ByteArray.size]
theorem run_bin_int {P:Program} {op:BinOp} {t:TypeId} {k k':IntKind} {x y:Int} {r:AVal} (w:World) (h:aBin op (.int k x) (.int k' y)=some r) :
  ∃ v,(binOp op t (.int k x) (.int k' y)).run P w = .ok v w∧VRel E μ r v:=by
 cases op
 case shl =>
  simp only [aBin] at h;split at h
  ·cases h
  ·rename_i e;cases h;exact ⟨_,by simp [binOp,Op.shift,e]; rfl,by simp [VRel]⟩
 case shr =>
  simp only [aBin] at h;split at h
  ·cases h
  ·rename_i e;cases h;exact ⟨_,by simp [binOp,Op.shift,e]; rfl,by simp [VRel]⟩
 all_goals
  simp only [aBin] at h;split at h;case isFalse=>cases h
  rename_i j;subst j
 case quo =>
  split at h
  ·cases h
  ·rename_i e;cases h;exact ⟨_,by simp [binOp,Op.intDiv,e]; rfl,by simp [VRel]⟩
 case rem =>
  split at h
  ·cases h
  ·rename_i e;cases h;exact ⟨_,by simp [binOp,Op.intDiv,e]; rfl,by simp [VRel]⟩
 case add=>cases h; exact ⟨_,by simp [binOp,Op.intArith]; rfl,by simp [VRel]⟩
 case sub=>cases h; exact ⟨_,by simp [binOp,Op.intArith]; rfl,by simp [VRel]⟩
 case mul=>cases h; exact ⟨_,by simp [binOp,Op.intArith]; rfl,by simp [VRel]⟩
 case and=>simp only [aBits] at h; cases h; exact ⟨_,by simp [binOp,Op.intBits]; rfl,by simp [VRel]⟩
 case or=>simp only [aBits] at h; cases h; exact ⟨_,by simp [binOp,Op.intBits]; rfl,by simp [VRel]⟩
 case xor=>simp only [aBits] at h; cases h; exact ⟨_,by simp [binOp,Op.intBits]; rfl,by simp [VRel]⟩
 case andNot=>simp only [aBits] at h; cases h; exact ⟨_,by simp [binOp,Op.intBits]; rfl,by simp [VRel]⟩
 case eql=>cases h; exact ⟨.bool (x == y),by simp [binOp,Op.intCmp],by simp [VRel,mz]⟩
 case neq=>cases h; exact ⟨.bool (x != y),by simp [binOp,Op.intCmp],by simp [VRel,bne,mz]⟩
 case lss=>cases h; exact ⟨_,by simp [binOp,Op.intCmp]; rfl,by simp [VRel]⟩
 case leq=>cases h; exact ⟨_,by simp [binOp,Op.intCmp]; rfl,by simp [VRel]⟩
 case gtr=>cases h; exact ⟨_,by simp [binOp,Op.intCmp]; rfl,by simp [VRel]⟩
 case geq=>cases h; exact ⟨_,by simp [binOp,Op.intCmp]; rfl,by simp [VRel]⟩
theorem run_bin_str {P:Program} {op:BinOp} {t:TypeId} {x y:List UInt8} {r:AVal} (w:World) (h:aBin op (.str x) (.str y)=some r) :
  ∃ v,(binOp op t (.string ⟨x.toArray⟩) (.string ⟨y.toArray⟩)).run P w = .ok v w∧VRel E μ r v:=by
 cases op <;> simp only [aBin] at h
 case add =>
  split at h
  ·rename_i j;cases h;have e:¬ (((x.length+y.length:Nat):Int) > IntKind.i64.max):=by simp [IntKind.max,IntKind.signed,IntKind.bits]; omega
   refine ⟨.string ⟨(x++y).toArray⟩,?_,by simp [VRel]⟩;simp only [binOp,Op.stringOp,pk];rw [if_neg e,mk_append]; rfl
  ·cases h
 case eql=>cases h; exact ⟨_,by simp [binOp,Op.stringOp]; rfl,by simp [VRel,mz]⟩
 case neq=>cases h; exact ⟨_,by simp [binOp,Op.stringOp]; rfl,by simp [VRel,mz]⟩
 case lss=>cases h; exact ⟨_,by simp [binOp,Op.stringOp]; rfl,by simp [VRel,ny]⟩
 case leq=>cases h; exact ⟨_,by simp [binOp,Op.stringOp]; rfl,by simp [VRel,ny,mz]⟩
 case gtr=>cases h; exact ⟨_,by simp [binOp,Op.stringOp]; rfl,by simp [VRel,ny,mz]⟩
 case geq=>cases h; exact ⟨_,by simp [binOp,Op.stringOp]; rfl,by simp [VRel,ny]⟩
 all_goals cases h
theorem ub {P:Program} (op:BinOp) (t:TypeId) (x y:Operand) (u v:Value) (w:World) (h1:∀ c,u ≠ .agg c) (h2:u ≠ .nilIface):(eqGuard op t x y u v).run P w = .ok () w:=by unfold eqGuard;cases op <;> (try rfl) <;> (cases u <;> first | rfl | (exact absurd rfl h2) | (exact absurd rfl (h1 _)) | (cases v <;> rfl))
theorem un_rel {P:Program} {op:UnOp} {x r:AVal} {u:Value} (w:World) (hx:VRel E μ x u) (h:aUn op x=some r):∃ v,(Op.unary op u).run P w = .ok v w∧VRel E μ r v:=by
 cases x <;> simp only [aUn] at h <;> (try cases h)
 case int k n =>
  simp only [VRel] at hx; subst hx;cases op <;> simp only [aBits] at h <;> cases h
  ·exact ⟨_,by simp [Op.unary,Op.intArith]; rfl,by simp [VRel]⟩
  ·exact ⟨_,by simp [Op.unary,Op.intBits]; rfl,by simp [VRel]⟩
 case bool b =>
  simp only [VRel] at hx; subst hx;cases op <;> simp at h
  subst h;exact ⟨_,by simp [Op.unary]; rfl,by simp [VRel]⟩
theorem min2_rel {P:Program} {j:Bool} {x y r:AVal} {u v:Value} (w:World) (hx:VRel E μ x u) (p:VRel E μ y v) (h:aMin2 j x y=some r) :
  ∃ z,(if j then Builtin.max2 u v else Builtin.min2 u v).run P w = .ok z w∧VRel E μ r z:=by
 cases x <;> cases y <;> simp only [aMin2] at h <;> (try cases h)
 case int.int k n k' m =>
  simp only [VRel] at hx p; subst hx; subst p;split at h
  ·rename_i e; subst e; cases h;cases j
   ·exact ⟨_,by simp [Builtin.min2]; rfl,by simp [VRel]⟩
   ·exact ⟨_,by simp [Builtin.max2]; rfl,by simp [VRel]⟩
  ·cases h
theorem zbv {P:Program} {j:Bool} (w:World):∀ {l:List AVal} {x r:AVal} {u:Value} {vs:List Value},VRel E μ x u→VRels E μ l vs→aMins j x l=some r →
  ∃ z,(vs.foldlM (fun a b=>if j then Builtin.max2 a b else Builtin.min2 a b) u:Sem Value).run P w = .ok z w∧VRel E μ r z
 | [],x,r,u,vs,hx,e,h=>by simp only [VRels] at e; subst e;simp only [aMins] at h; cases h;exact ⟨u,rfl,hx⟩
 | y :: l,x,r,u,vs,hx,e,h=>by
  simp only [VRels] at e;obtain ⟨v,t,rfl,p,q⟩:=e;simp only [aMins] at h;split at h
  ·rename_i z A;obtain ⟨G,h1,h2⟩:=min2_rel (P:=P) w hx p A;obtain ⟨B,C,D⟩:=zbv (P:=P) w h2 q h;refine ⟨B,?_,D⟩;simp only [List.foldlM_cons,Sem.run_bind,h1,Result.andThen_ok,C]
  ·cases h
theorem run_isAgg {P:Program} {t:TypeId} {n:Option Nat} (h:partT P t=some n) (w:World):(isAgg t).run P w = .ok n.isSome w∧∀ k,n=some k→(sizeOf t).run P w = .ok k w:=by
 unfold partT at h;cases p:P.underlying t with
 | none=>rw [p] at h; simp at h
 | some d =>
  rw [p] at h
  have hs:∀ k,sizeT P t=some k→(sizeOf t).run P w = .ok k w:=by
   intro k e;unfold sizeT at e;cases hi:P.info? t with
   | none=>rw [hi] at e; simp at e
   | some i=>rw [hi] at e; simp at e; subst e; simp [sizeOf,typeInfo,hi]
  cases d <;> simp only [fq] at h <;> (first | (subst h; exact ⟨by simp [isAgg,run_underlying p],fun k e=>by cases e⟩) | skip)
  ·cases j:sizeT P t with
   | none=>rw [j] at h; simp at h
   | some k=>rw [j] at h; simp at h; subst h; exact ⟨by simp [isAgg,run_underlying p],fun k' e=>by cases e; exact hs k j⟩
  ·cases j:sizeT P t with
   | none=>rw [j] at h; simp at h
   | some k=>rw [j] at h; simp at h; subst h; exact ⟨by simp [isAgg,run_underlying p],fun k' e=>by cases e; exact hs k j⟩
theorem ip {P:Program} {t:TypeId} {k:Nat} (h:sizeT P t=some k) (w:World):(sizeOf t).run P w = .ok k w:=by
 unfold sizeT at h;cases hi:P.info? t with
 | none=>rw [hi] at h; simp at h
 | some i=>rw [hi] at h; simp at h; subst h; simp [sizeOf,typeInfo,hi]
theorem qb {P:Program} {t:TypeId} {n:Option Nat} {cs:List AVal} {c:Array Value} {o:Nat} {r:AVal} (w:World) (B:partT P t=some n) (hc:VRels E μ cs c.toList) (h1:∀ x ∈ cs,x.isOne=true) (h:Abs.part cs o n=some r) :
  ∃ v,(Go.part t c o).run P w = .ok v w∧VRel E μ r v:=by
 obtain ⟨ha,hs⟩:=run_isAgg B w;cases n with
 | none =>
  simp only [Abs.part] at h;obtain ⟨v,q,hr⟩:=hc.get h;refine ⟨v,?_,hr⟩;have y:c[o]? = some v:=by simpa using q
  simp [Go.part,ha,y]
 | some k =>
  simp only [Abs.part] at h;split at h
  ·rename_i C;cases h;have e:=hc.length;refine ⟨.agg (c.extract o (o+k)),?_,?_⟩
   ·simp [Go.part,ha,hs k rfl]
   ·simp only [VRel];refine ⟨_,rfl,?_,fun x hx=>h1 x (List.mem_of_mem_drop (List.mem_of_mem_take hx))⟩;apply VRels.of
    ·simp at e ⊢; omega
    ·intro j x p
     have A:j < k:=by
      rcases bh j k with h2 | h2
      ·exact h2
      ·rw [bw (by simp; omega)] at p; cases p
     rw [fp A,dt] at p;obtain ⟨v,q,hr⟩:=hc.get p;refine ⟨v,?_,hr⟩;rw [← q,lm,lm,Array.getElem?_extract,if_pos];simp at e;omega
  ·cases h
theorem zj (B:FRel E lo ν μ (sget s) a.tmps w) (hr:Rel E μ h w) {x:Operand} {y:Opd} {q:AAddr} {cs:List AVal} {o:Nat} (hc:gq E x=some y) (D:y.adr s=some q) (j:cellsAt s h q=some (cs,o)) :
  ∃ b p c e fr,a.eval x = .pointer (some ⟨b,p+o,none⟩)∧w.heap[b]? = some (.cells c e fr)∧p+cs.length≤c.size∧CRel E μ cs c p:=by
 cases q with
 | glob i J =>
  simp only [cellsAt] at j;split at j
  ·rename_i esz cs' A;cases j;obtain ⟨m,c,e,fr,h1,_,h2,G,K,C,_⟩:=hr.obj i _ A;obtain ⟨q,H,N,I,L⟩:=ue B hc D;rw [h1] at I; cases I;have:=L m rfl; subst this;exact ⟨m.blk,m.base,c,e,fr,H,h2,by omega,C⟩
  ·cases j
 | loc t J =>
  simp only [cellsAt] at j;split at j
  ·rename_i cs' A;cases j;obtain ⟨h1,h2,c,e,fr,G,K,C,H⟩:=B.var t _ A;exact ⟨ν t,0,c,e,fr,by rw [dq]; exact xb B hc D A,G,by omega,C⟩
  ·cases j
theorem om (b o n:Nat):(⟨b,o,none⟩:Addr).add n=⟨b,o+n,none⟩:=by
 unfold Addr.add;split
 ·rename_i h; subst h; rfl
 ·rfl
theorem ud {P:Program} {w:World} {b o n:Nat} {l:List Value} (e:l.length=n) (h:∀ j v,l[j]? = some v→w.cell? ⟨b,o+j,none⟩=some v):(loadCells ⟨b,o,none⟩ n).run P w = .ok l.toArray w:=by subst e;exact run_loadCells_list (P:=P) (w:=w) ⟨b,o,none⟩ l fun j v p=>by rw [om]; exact h j v p
theorem load_rel {P:Program} {t:TypeId} {n:Option Nat} {cs:List AVal} {o b p:Nat} {c:Array Value} {e:TypeId} {fr:Nat × Nat} {r:AVal}
  (D:partT P t=some n) (hb:w.heap[b]? = some (.cells c e fr)) (G:p+cs.length≤c.size) (hc:CRel E μ cs c p) (h:Abs.part cs o n=some r) :
  ∃ v,(loadVar t ⟨b,p+o,none⟩).run P w = .ok v w∧VRel E μ r v:=by
 obtain ⟨ha,hs⟩:=run_isAgg D w;cases n with
 | none =>
  simp only [Abs.part] at h;obtain ⟨_,v,B,hr⟩:=hc o r h;refine ⟨v,?_,hr⟩;simp [loadVar,ha,mh hb,B]
 | some k =>
  simp only [Abs.part] at h;split at h
  ·rename_i H;cases h
   have A:(loadCells ⟨b,p+o,none⟩ k).run P w = .ok ((c.toList.drop (p+o)).take k).toArray w:=by
    refine ud (by simp; omega) fun j v q=>?_
    rw [mh hb,← q]
    have y:j < k:=by
     rcases bh j k with h2 | h2
     ·exact h2
     ·rw [bw (by simp; omega)] at q; cases q
    rw [fp y,dt]; simp
   refine ⟨.agg ((c.toList.drop (p+o)).take k).toArray,by simp [loadVar,ha,hs k rfl,A],?_⟩;simp only [VRel];refine ⟨_,rfl,?_,fun x hx=>?_⟩
   ·apply VRels.of
    ·simp; omega
    ·intro j x q
     have y:j < k:=by
      rcases bh j k with h2 | h2
      ·exact h2
      ·rw [bw (by simp; omega)] at q; cases q
     rw [fp y,dt] at q;obtain ⟨_,v,B,hr⟩:=hc _ x q;refine ⟨v,?_,hr⟩;rw [← B];simp only;rw [fp y,dt];simp [lz]
   ·have C:=List.mem_of_mem_drop (List.mem_of_mem_take hx);obtain ⟨j,q⟩:=gu C;exact (hc j x q).1
  ·cases h
theorem ri (hr:Rel E μ h w) {esz:Nat} {x:AVal} {v:Value} {cs:List AVal} (hx:VRel E μ x v) (hc:il esz h x=some cs) :
  ∃ l n,VRels E μ cs l∧(∀ y ∈ cs,y.isOne=true)∧(∀ P w',(Builtin.lenOf v).run P w' = .ok n w')∧l.length=n*esz ∧
   n=alen x ∧
   ∀ (P:Program) (w':World),w'.heap=w.heap→(Builtin.firstCells esz n v).run P w' = .ok l.toArray w':=by
 cases x <;> simp only [il] at hc <;> (try cases hc)
 case str t =>
  simp only [VRel] at hx; subst hx;split at hc;case isFalse=>cases hc
  rename_i B;subst B;cases hc;refine ⟨t.map fun b=>.int .u8 b.toNat,t.length,?_,?_,?_,by simp,rfl,?_⟩
  ·apply VRels.of
   ·simp
   ·intro k x H;simp only [bp,ae] at H ⊢;obtain ⟨b,hb,rfl⟩:=H;exact ⟨_,⟨b,hb,rfl⟩,by simp [VRel]⟩
  ·intro y C;obtain ⟨b,_,rfl⟩:=bt.1 C;rfl
  ·intro P w';simp [Builtin.lenOf,pk]
  ·intro P w' _;have:=firstCells_string (P:=P) (⟨t.toArray⟩:ByteArray) w';rw [pk] at this;rw [this]; simp [byteCells]
 case slice I n c =>
  cases I with
  | none =>
   simp only at hc; cases hc;simp only [VRel] at hx;obtain ⟨rfl,rfl,rfl⟩:=hx;exact ⟨[],0,by simp [VRels],by simp,fun P w'=>rfl,by simp,rfl,fun P w' _=>by simp [Builtin.firstCells]⟩
  | some io =>
   obtain ⟨i,o⟩:=io;simp only at hc;simp only [VRel] at hx;obtain ⟨I,cap,rfl,_,D,_,J,_⟩:=hx;split at hc
   ·rename_i h0;subst h0; cases hc;exact ⟨[],0,by simp [VRels],by simp,fun P w'=>rfl,by simp,rfl,fun P w' _=>by simp [Builtin.firstCells,loadCells,loadCellsFrom]⟩
   ·rename_i h0;split at hc
    ·rename_i q cs' O;split at hc
     ·rename_i Q;cases hc;obtain ⟨rfl,K⟩:=Q;obtain ⟨m,c',te,fr,h1,h2,U,h4,h5,L,_⟩:=hr.obj i _ O;obtain ⟨x',N,V⟩:=D (by omega);rw [h1] at N; cases N;have:=V m rfl; subst this;refine ⟨(c'.toList.drop (m.base+o)).take (n*q),n,?_,?_,fun P w'=>rfl,by simp; omega,rfl,?_⟩
      ·apply VRels.of
       ·simp; omega
       ·intro j x e
        have p:j < n*q:=by
         rcases bh j (n*q) with A | A
         ·exact A
         ·rw [bw (by simp; omega)] at e; cases e
        rw [fp p,dt] at e;obtain ⟨_,v,W,G⟩:=L _ x e;refine ⟨v,?_,G⟩;rw [fp p,dt,← W];simp [lz]
      ·intro y C;obtain ⟨j,e⟩:=gu (List.mem_of_mem_drop (List.mem_of_mem_take C));exact (L j y e).1
      ·intro P w' hw;simp only [Builtin.firstCells];refine ud (by simp; omega) fun j v e=>?_
       have p:j < n*q:=by
        rcases bh j (n*q) with A | A
        ·exact A
        ·rw [bw (by simp; omega)] at e; cases e
       rw [mh (by rw [hw]; exact U),← e,fp p,dt];simp
     ·cases hc
    ·cases hc
end
end Go.Abs

namespace Go.Abs
section
variable {E:Env} {lo:Nat} {ν:Fr} {μ:MM} {s:Slots} {h:Heap} {a:Act} {w:World} {d:Nat}
theorem nw {n k:Nat} {v:AVal} {u:Value} (j:VRel E μ v u) (h:inBounds n v=some k):∃ e i,u = .int e i∧0≤i∧i < n∧k=i.toNat:=by
 cases v <;> simp only [inBounds] at h <;> (try cases h)
 case int e i =>
  split at h
  ·rename_i p; cases h;simp only [VRel] at j;exact ⟨e,i,j,p.1,p.2,rfl⟩
  ·cases h
theorem w8 {P:Program} {n y k:Nat} {v:AVal} {u:Value} (e:VRel E μ v u) (h:upTo n v=some k) (p:n≤y) (code:BoundsCode) (w:World) :
  (Instr.sliceBound u y code).run P w = .ok k w∧k≤n:=by
 cases v <;> simp only [upTo] at h <;> (try cases h)
 case int kd i =>
  split at h
  ·rename_i j; cases h;simp only [VRel] at e; subst e;refine ⟨?_,by omega⟩;have:0≤i∧i≤y:=⟨j.1,by omega⟩;simp [Instr.sliceBound,asIntOf,this]
  ·cases h
def OptRel (E:Env) (μ:MM):Option AVal→Option Value→Prop
 | none,u=>u=none
 | some v,u=>∃ x,u=some x∧VRel E μ v x
theorem pj (j:FRel E lo ν μ (sget s) a.tmps w) {x:Option Operand} {y:Option Opd} {v:Option AVal} (hc:cOpt E x=some y) (e:optEv s y=some v):OptRel E μ v (x.map a.eval):=by
 cases x with
 | none =>
  simp only [cOpt] at hc; cases hc;simp only [optEv] at e; cases e;simp [OptRel]
 | some x =>
  simp only [cOpt] at hc;rw [ae] at hc;obtain ⟨A,p,rfl⟩:=hc;simp only [optEv] at e;rw [ae] at e;obtain ⟨v',q,rfl⟩:=e;exact ⟨_,rfl,cd j p q⟩
theorem low_rel {P:Program} {b j:Nat} {p:Option AVal} {q:Option Value} (e:OptRel E μ p q) (h:lowB b p=some j) (code:BoundsCode) (w:World) :
  j≤b∧∀ (β:Type) (f:Nat→Sem β),(match q with
   | some v=>Instr.sliceBound v b code >>= f
   | none=>pure 0 >>= f).run P w=(f j).run P w:=by
 cases p with
 | none =>
  simp only [OptRel] at e; subst e;simp only [lowB] at h; cases h;exact ⟨fk _,fun β f=>rfl⟩
 | some l =>
  simp only [OptRel] at e;obtain ⟨x,rfl,hx⟩:=e;simp only [lowB] at h;obtain ⟨y,A⟩:=w8 (P:=P) hx h (aj _) code w;exact ⟨A,fun β f=>by simp only [Sem.run_bind,y,Result.andThen_ok]⟩
theorem sj {P:Program} {n cap H b:Nat} {c m:Option Nat} {O h1 I:Option AVal} {Q h2 U:Option Value} (q:Bool) (J:OptRel E μ O Q) (B:OptRel E μ h1 h2) (hm:OptRel E μ I U)
  (hb:bounds n c O h1 I=some (H,b,m)) (V:n≤cap) (hc:∀ k,c=some k→cap=k) (w:World) :
  (Instr.sliceBounds q n cap Q h2 U).run P w = .ok (H,b,m.getD cap) w∧H≤b∧b≤m.getD cap∧m.getD cap≤cap:=by
 have C:c.getD n≤cap:=by
  cases c with
  | none=>exact V
  | some k=>have:=hc k rfl; simp; omega
 have j:c.getD cap=cap:=by
  cases c with
  | none=>rfl
  | some k=>have:=hc k rfl; simpa using this.symm
 unfold bounds at hb;cases I with
 | some mv =>
  simp only [OptRel] at hm;obtain ⟨mx,rfl,K⟩:=hm;simp only at hb;split at hb
  ·rename_i m' L;obtain ⟨k1,k2⟩:=w8 (P:=P) K L C (if q then .slice3Acap else .slice3Alen) w;cases h1 with
   | none=>cases hb
   | some hv =>
    simp only [OptRel] at B;obtain ⟨hx,rfl,y⟩:=B;simp only at hb;split at hb
    ·rename_i b' A;obtain ⟨N,W⟩:=w8 (P:=P) y A (aj _) .slice3B w;rw [ae] at hb;obtain ⟨a1,p,e⟩:=hb;cases e;obtain ⟨D,G⟩:=low_rel (P:=P) J p .slice3C w;refine ⟨?_,D,by simpa using W,by simp; omega⟩;simp only [Instr.sliceBounds,Sem.run_bind,k1,Result.andThen_ok,N,Option.isSome_some,if_true,ed];exact G _ fun l=>pure (l,b,m')
    ·cases hb
  ·cases hb
 | none =>
  simp only [OptRel] at hm; subst hm;simp only at hb;cases h1 with
  | none =>
   simp only [OptRel] at B; subst B;simp only at hb;rw [ae] at hb;obtain ⟨a1,p,e⟩:=hb;cases e;obtain ⟨D,G⟩:=low_rel (P:=P) J p .sliceB w;refine ⟨?_,D,by rw [j]; exact V,by rw [j]; exact aj _⟩;rw [j];simp only [Instr.sliceBounds,Sem.run_bind,Sem.run_pure,Result.andThen_ok,Option.isSome_none,cg,if_false];exact G _ fun l=>pure (l,n,cap)
  | some hv =>
   simp only [OptRel] at B;obtain ⟨hx,rfl,y⟩:=B;simp only at hb;split at hb
   ·rename_i b' A;obtain ⟨N,W⟩:=w8 (P:=P) y A C (if q then .sliceAcap else .sliceAlen) w;rw [ae] at hb;obtain ⟨a1,p,e⟩:=hb;cases e;obtain ⟨D,G⟩:=low_rel (P:=P) J p .sliceB w;refine ⟨?_,D,by rw [j]; omega,by rw [j]; exact aj _⟩;rw [j];simp only [Instr.sliceBounds,Sem.run_bind,Sem.run_pure,Result.andThen_ok,N,Option.isSome_none,cg,if_false];exact G _ fun l=>pure (l,b,cap)
   ·cases hb
theorem extract_mk (t:List UInt8) (a b:Nat):(⟨t.toArray⟩:ByteArray).extract a b=⟨((t.drop a).take (b - a)).toArray⟩:=by apply ByteArray.ext;apply Array.ext';simp [ByteArray.data_extract]
theorem row_slice {i o e cap j b:Nat} {m:Option Nat} {B:Addr} (hr:Rel E μ h w) (hi:i < μ.length∧cap≤9223372036854775807) (K:0 < cap→ARel μ i o B) (hs:∀ m:M,μ[i]? = some (some m)→m.base+o+cap*m.esz≤m.size)
  (D:eszIs h i e=true) (h1:j≤b) (h2:b≤m.getD cap) (L:m.getD cap≤cap) :
  VRel E μ (.slice (some (i,if m=some j then o else o+j*e)) (b - j) (m.map (· - j))) (.slice (if m.getD cap=j then some B else (some B).map (·.add (j*e))) (b - j) (m.getD cap - j)):=by
 have q:∀ m:M,μ[i]? = some (some m)→m.esz=e:=by
  intro m hm;unfold eszIs at D;split at D
  ·rename_i I cs G;obtain ⟨m',c,N,fr,A,C,_⟩:=hr.obj i _ G;rw [hm] at A; cases A;rw [C]; simpa using D
  ·rename_i G;have:=hr.obj i _ G;simp only [ORel] at this;rw [hm] at this; cases this
  ·cases D
 have y:∀ k,m.map (· - j)=some k→m.getD cap - j=k:=by intro k J;rw [ae] at J;obtain ⟨x,rfl,rfl⟩:=J;rfl
 simp only [VRel];by_cases hc:m.getD cap=j
 ·-- nothing is left: where it stands does not matter
  rw [if_pos hc];refine ⟨B,m.getD cap - j,rfl,⟨hi.1,by omega⟩,fun h0=>absurd h0 (by omega),y,by omega,fun m' p=>?_⟩;have A:=hs m' p;have C:=q m' p;have:m.getD cap - j=0:=by omega
  rw [this,Nat.zero_mul,qg];split
  ·have:=fk (cap*m'.esz); omega
  ·rw [C] at A;have:j*e≤cap*e:=ge _ (by omega);omega
 ·rw [if_neg hc];have H:¬ (m=some j):=by intro I; rw [I] at hc; simp at hc
  rw [if_neg H];refine ⟨B.add (j*e),m.getD cap - j,rfl,⟨hi.1,by omega⟩,fun h0=>?_,y,by omega,fun m' p=>?_⟩
  ·obtain ⟨x,hx,hm⟩:=K (by omega);refine ⟨x,hx,fun m' p=>?_⟩;rw [hm m' p,om];congr 1;omega
  ·have A:=hs m' p;have C:=q m' p;rw [C] at A ⊢;have:j*e+(m.getD cap - j)*e≤cap*e:=by rw [← fm]; exact ge _ (by omega)
   omega
theorem slice_rel (A:FRel E lo ν μ (sget s) a.tmps w) (hr:Rel E μ h w) {t:TypeId} {x:Operand} {K L N:Option Operand} {ao:AOp} {k:SliceKind} {y:Opd} {l1 h1 m1:Option Opd} {lv hv mv:Option AVal} {r:AVal}
  (j:cOp E false (.slice t x K L N)=some ao) (a0:ao = .slice k y l1 h1 m1) (hl:optEv s l1=some lv) (hh:optEv s h1=some hv) (hm:optEv s m1=some mv) (p:aSlice k s h y lv hv mv=some r) :
  ∃ v,(Instr.sliceAt t (a.eval x) (K.map a.eval) (L.map a.eval) (N.map a.eval)).run E.P w = .ok v w∧VRel E μ r v:=by
 subst a0;simp only [cOp] at j;split at j;case h_2=>cases j
 rename_i y' ax ay b5 cx cl ch cm;split at j
 ·rename_i G;cases j;have H:=pj A cl hl;have I:=pj A ch hh;simp only [aSlice] at p;split at p
  ·rename_i t' hx;have q:=cd A cx hx;simp only [VRel] at q;split at p
   ·have B:=pj A cm hm;simp only [OptRel] at B;rw [ae] at p;obtain ⟨⟨J,b,m⟩,hb,rfl⟩:=p;obtain ⟨C,O,Q,U⟩:=sj (P:=E.P) false H I (by simp only [OptRel]:OptRel E μ none none) hb (aj _) (fun k D=>by cases D; rfl) w;refine ⟨.string ⟨((t'.drop J).take (b - J)).toArray⟩,?_,by simp [VRel]⟩;simp only [Instr.sliceAt,Sem.run_bind,run_underlying G,Result.andThen_ok,Instr.slice,q,B,Option.isSome_none,cg,if_false,pk,C,extract_mk];rfl
   ·cases p
  ·cases p
 ·rename_i e G;rw [ae] at j;obtain ⟨n,hn,j⟩:=j;cases j;have H:=pj A cl hl;have I:=pj A ch hh;have B:=pj A cm hm;have hz:=ip (P:=E.P) hn w;simp only [aSlice] at p;split at p
  ·rename_i n' c' hx;have q:=cd A cx hx;simp only [VRel] at q;obtain ⟨e1,e2,q⟩:=q;rw [ae] at p;obtain ⟨⟨J,b,m⟩,hb,rfl⟩:=p;obtain ⟨C,O,Q,U⟩:=sj (P:=E.P) true H I B hb (aj _) (fun k D=>by cases D; rfl) w;have h0:m.getD 0=0:=by omega
   have a6:b=0:=by omega
   have aa:J=0:=by omega
   refine ⟨.slice none 0 0,?_,by simp [VRel]⟩;simp only [Instr.sliceAt,Sem.run_bind,run_underlying G,Result.andThen_ok,Instr.slice,q,C,hz,h0,a6,aa];rfl
  ·rename_i i o n' c' hx;have q:=cd A cx hx;simp only [VRel] at q;obtain ⟨ad,cap,q,r1,r2,r3,r4,r5⟩:=q;split at p
   ·rename_i ac;rw [ae] at p;obtain ⟨⟨J,b,m⟩,hb,rfl⟩:=p;obtain ⟨C,O,Q,U⟩:=sj (P:=E.P) true H I B hb r4 r3 w;refine ⟨_,?_,row_slice hr r1 r2 r5 ac O Q U⟩;simp only [Instr.sliceAt,Sem.run_bind,run_underlying G,Result.andThen_ok,Instr.slice,q,C,hz];rfl
   ·cases p
  ·cases p
 ·rename_i n e G;rw [ae] at j;obtain ⟨k,D,j⟩:=j;cases j;have H:=pj A cl hl;have I:=pj A ch hh;have B:=pj A cm hm;have hz:=ip (P:=E.P) D w;simp only [aSlice] at p;split at p
  ·rename_i i o hx;obtain ⟨ad,q,rA⟩:=ue A cx hx;split at p
   ·rename_i e' cs hg;split at p
    ·rename_i al;obtain ⟨rfl,an,V⟩:=al;rw [ae] at p;obtain ⟨⟨J,b,m⟩,hb,rfl⟩:=p;obtain ⟨C,O,Q,U⟩:=sj (P:=E.P) false H I B hb (aj _) (fun k D=>by cases D; rfl) w;obtain ⟨m0,c,te,fr,j1,j2,j3,j4,j5,j6,_⟩:=hr.obj i _ hg;have:=row_slice (e:=e') (m:=m) (cap:=n) hr ⟨ah j1,V⟩ (fun _=>rA) (fun m' W=>by rw [j1] at W; cases W; rw [j2]; omega) (by simp [eszIs,hg]) O Q U;refine ⟨_,?_,this⟩;simp only [Instr.sliceAt,Sem.run_bind,run_underlying G,Result.andThen_ok,q,Instr.sureAddr,Sem.run_pure,C,hz];congr 1;split <;> rfl
    ·cases p
   ·cases p
  ·cases p
 ·cases j
theorem string_get (t:List UInt8) (j:Nat):(⟨t.toArray⟩:ByteArray)[j]? = t[j]?:=by
 by_cases h:j < t.length
 ·have h':j < (⟨t.toArray⟩:ByteArray).size:=by rw [pk]; exact h
  rw [getElem?_pos (⟨t.toArray⟩:ByteArray) j h',ai h]; rfl
 ·have h':¬ j < (⟨t.toArray⟩:ByteArray).size:=by rw [pk]; exact h
  rw [getElem?_neg (⟨t.toArray⟩:ByteArray) j h',bw (by omega)]
end
end Go.Abs

namespace Go.Abs
def OpDone (E:Env) (lo:Nat) (D:List Nat) (μ:MM) (w:World) (a:Act) (dst:Option Tmp) (r:Result Next) (x:Slot) (s':Slots) (h':Heap):Prop :=
 ∃ v w' μ' ν',ν'.ds=D∧(r = .ok (.value v) w'∨(v=Go.undef∧r = .ok .skip w'))∧Step (fun k=>lo≤k) h'.wmin μ w μ' w'∧Rel E μ' h' w' ∧
  FRel E lo ν' μ' (ia (sget s') dst x) (a.put dst v).tmps w'
section
variable {E:Env} {lo:Nat} {ν:Fr} {μ:MM} {s:Slots} {h:Heap} {a:Act} {w:World} {dst:Option Tmp} {r:Result Next}
theorem ig (a:Act) (dst:Option Tmp) (v:Value):(a.put dst v).tmps=putT a.tmps dst v:=by cases dst <;> rfl
theorem FRel.heap {g:SlotFn} {tmps:Array Value} {w':World} (e:FRel E lo ν μ g tmps w) (hw:w'.heap=w.heap):FRel E lo ν μ g tmps w' :=
 e.keep (Later.refl _) (fun _ _ _=>by rw [hw]) (fun _ _ i m _ hi hm=>absurd (ah hm) (by omega)) fun _ _=>⟨by rw [hw],fun i m hi hm=>absurd (ah hm) (by omega)⟩
theorem dv (j:FRel E lo ν μ (sget s) a.tmps w) (hr:Rel E μ h w) (hd:∀ x,dst=some x→x < a.tmps.size) {v:Value} {u:AVal} (e:r = .ok (.value v) w) (p:VRel E μ u v) :
  OpDone E lo ν.ds μ w a dst r (.val u) s h:=by
 refine ⟨v,w,μ,ν,rfl,.inl e,Step.refl _ _ _ _,hr,?_⟩;rw [ig];exact j.setVal hd p
theorem zbt (j:FRel E lo ν μ (sget s) a.tmps w) (hr:Rel E μ h w) (hd:∀ x,dst=some x→x < a.tmps.size) {t o:Nat} (e:r = .ok (.value (.pointer (some ⟨ν t,o,none⟩))) w) :
  OpDone E lo ν.ds μ w a dst r (.loc t o) s h:=by
 refine ⟨_,w,μ,ν,rfl,.inl e,Step.refl _ _ _ _,hr,?_⟩;rw [ig];cases dst with
 | none=>exact j.congr fun t=>by simp [ia]
 | some d=>exact j.setLoc (hd d rfl)
theorem lw (j:FRel E lo ν μ (sget s) a.tmps w) (hr:Rel E μ h w) (hd:∀ x,dst=some x→x < a.tmps.size) (o:AObj) (B:Obj) (m:M) (hm:m.blk=w.heap.size) {w1:World} {v:Value} {u:AVal}
  (p:r = .ok (.value v) w1) (h1:w1.heap=w.heap.push B) (h2:w1.os=w.os) (A:w1.tape=w.tape) (C:w1.output=w.output)
  (ho:ORel E (μ++[some m]) h.base μ.length { w with heap:=w.heap.push B } o) (q:VRel E (μ++[some m]) u v) :
  OpDone E lo ν.ds μ w a dst r (.val u) s (h.push o):=by
 have D:=hr.push o B m hm ho;have hs:Step (fun k=>lo≤k) (h.push o).wmin μ w (μ++[some m]) { w with heap:=w.heap.push B }:=Step.push _ μ w B m (by omega);refine ⟨v,w1,μ++[some m],ν,rfl,.inl p,hs.heap h1 h2 A C,D.same rfl rfl h1,?_⟩
 have y:FRel E lo ν (μ++[some m]) (sget s) a.tmps { w with heap:=w.heap.push B }:=by
  refine j.keep (g9 μ _) (fun t cs q=>?_) (fun t cs i m' q hi e=>?_) fun r hr=>⟨?_,fun i m' hi e=>?_⟩
  ·have:=j.lt q;show (w.heap.push B)[ν t]? = _;rw [c8,if_neg (by omega)]
  ·rcases iq e with b | ⟨_,b⟩
   ·exact absurd (ah b) (by omega)
   ·cases b; have:=j.lt q; omega
  ·have:=j.lt_ds hr;show (w.heap.push B)[r]? = _;rw [c8,if_neg (by omega)]
  ·rcases iq e with b | ⟨_,b⟩
   ·exact absurd (ah b) (by omega)
   ·cases b; have:=j.lt_ds hr; omega
 rw [ig];exact (y.setVal hd q).heap h1
theorem done_var (q:FRel E lo ν μ (sget s) a.tmps w) (hr:Rel E μ h w) (p:lo≤w.heap.size) {d:Nat} (hd:d < a.tmps.size) {cs:List AVal} {c:Array Value} (e:TypeId)
  (hc:VRels E μ cs c.toList) (h1:∀ x ∈ cs,x.isOne=true) (j:r = .ok (.value (.pointer (some ⟨w.heap.size,0,none⟩))) { w with heap:=w.heap.push (.cells c e (0,0)) }) :
  OpDone E lo ν.ds μ w a (some d) r (.var cs) (qf d s) h:=by
 refine ⟨_,_,μ,⟨fun t=>if t=d then w.heap.size else ν t,ν.ds⟩,rfl,.inl j,?_,hr.keep (by simp) (fun i m hm=>?_) (fun k _ y=>?_),?_⟩
 ·exact ⟨rfl,rfl,rfl,by simp,fun k y _ _=>by
   show (w.heap.push _)[k]? = _
   rw [c8,if_neg (by omega)],aj _,fun _ _=>.inl rfl,fun i m hi hm=>absurd (ah hm) (by omega)⟩
 ·have:=hr.lt i m hm;show (w.heap.push _)[m.blk]? = _;rw [c8,if_neg (by omega)]
 ·show (w.heap.push _)[k]? = _
  rw [c8,if_neg (by omega)]
 ·rw [ig];exact q.setVar hr.lt p hd e hc h1
theorem t9 {P:Program} {t:TypeId} {z:List AVal} (e:zeroOf P t=some z) (μ:MM) (w:World):∃ v,(zeroValue t).run P w = .ok v w∧VRels E μ z v.cells.toList∧∀ x ∈ z,x.isOne=true:=by
 unfold zeroOf at e;split at e
 ·rename_i i hi;split at e
  ·rename_i v j;obtain ⟨p,q⟩:=ug (E:=E) e μ;exact ⟨v,by simp [zeroValue,typeInfo,hi,j],p,q⟩
  ·cases e
 ·cases e
theorem info_zero {P:Program} {t:TypeId} {z:List AVal} (e:zeroOf P t=some z):∃ i v,P.info? t=some i∧i.zero=some v∧toAs v.cells.toList=some z:=by
 unfold zeroOf at e;split at e
 ·rename_i i hi;split at e
  ·rename_i v j;exact ⟨i,v,hi,j,e⟩
  ·cases e
 ·cases e
theorem rg {cs:List AVal} {c:Array Value} {e:TypeId} {esz b:Nat} {m:M} (hc:VRels E μ cs c.toList) (h1:∀ x ∈ cs,x.isOne=true) (hm:m=⟨w.heap.size,0,c.size,esz⟩) :
  ORel E (μ++[some m]) b μ.length { w with heap:=w.heap.push (.cells c e (0,0)) } (.cells esz cs):=by
 subst hm;have q:=hc.length;refine ⟨⟨w.heap.size,0,c.size,esz⟩,c,e,(0,0),by simp,rfl,by simp,rfl,by simp at q ⊢; omega,fun k v p=>?_,fun _=>⟨aj _,fun off _=>by simp⟩⟩;obtain ⟨v',j,hr⟩:=hc.get p;exact ⟨h1 v (br p),v',by simpa using j,hr.later (g9 μ _)⟩
theorem ptr_new {m:M} (hm:m.base=0):VRel E (μ++[some m]) (.ptr (some (μ.length,0))) (.pointer (some ⟨m.blk,0,none⟩)):=by simp only [VRel];exact ⟨_,rfl,some m,by simp,fun m' h=>by cases h; rw [hm]⟩
theorem ol {m:M} {n cap:Nat} {c:Option Nat} (hm:m.base=0) (e:n≤cap) (hc:∀ k,c=some k→cap=k) (hs:cap*m.esz≤m.size) (hx:cap≤9223372036854775807) :
  VRel E (μ++[some m]) (.slice (some (μ.length,0)) n c) (.slice (some ⟨m.blk,0,none⟩) n cap):=by
 simp only [VRel];refine ⟨_,cap,rfl,⟨by simp,hx⟩,fun _=>⟨some m,by simp,fun m' h=>by cases h; rw [hm]⟩,hc,e,fun m' h=>?_⟩;simp at h; subst h; omega
theorem zi:∀ (xs:List Value) (cs:Array Value) (off j:Nat),(xs.zipIdx j).foldl (fun (cs:Array Value) (x:Value × Nat)=>cs.setIfInBounds (off+x.2) x.1) cs=jm cs (off+j) xs
 | [],_,_,_=>rfl
 | x :: xs,cs,off,j=>by simp only [List.zipIdx_cons,jw,jm];exact zi xs _ off (j+1)
theorem ua (W:FRel E lo ν μ (sget s) a.tmps w) {e:Nat→Option (Nat × Nat)}:∀ {ps:List (Nat × Operand)} {J:List (Nat × Nat × Opd)} {cs cs':List AVal} {c:Array Value},
  cParts E e ps=some J→Abs.fill s cs J=some cs'→VRels E μ cs c.toList→(∀ x ∈ cs,x.isOne=true) →
  ∃ c':Array Value,Instr.fill e c (ps.map fun p=>(p.1,a.eval p.2))=some c'∧VRels E μ cs' c'.toList∧(∀ x ∈ cs',x.isOne=true)∧c'.size=c.size
 | [],J,cs,cs',c,A,q,hc,h1=>by simp only [cParts] at A; cases A;simp only [Abs.fill] at q; cases q;exact ⟨c,rfl,hc,h1,rfl⟩
 | (i,x) :: ps,J,cs,cs',c,A,q,hc,h1=>by
  simp only [cParts] at A;split at A
  ·rename_i o n y a6 hp hx K;cases A;simp only [Abs.fill] at q;split at q
   ·rename_i xs j;split at q
    ·rename_i hh;obtain ⟨hn,a0⟩:=hh;cases B:y.ev s with
     | none=>rw [B] at j; simp at j
     | some v =>
      rw [B] at j;simp only [Option.bind_some] at j;have hv:=cd W hx B;obtain ⟨k1,k2⟩:=rj hv j;have k3:=k1.length;have C:=hc.length
      have L:CRel E μ cs c 0:=fun k v' D=>by obtain ⟨u,N,hr⟩:=hc.get D;exact ⟨h1 v' (br D),u,by simpa using N,hr⟩
      have G:=L.splice k1 k2 (o:=o) (by omega) (by simp at C; omega);have O:=ly cs o xs (by omega);have Q:=jl (a.eval x).cells.toList c (0+o)
      have H:VRels E μ (Abs.splice cs o xs) (jm c (0+o) (a.eval x).cells.toList).toList:=by
       apply VRels.of
       ·simp [O,jl]; simpa using C
       ·intro k v' D;obtain ⟨_,u,N,hr⟩:=G k v' D;exact ⟨u,by simpa using N,hr⟩
      have I:∀ U ∈ Abs.splice cs o xs,U.isOne=true:=fun U V=>by obtain ⟨k,D⟩:=gu V;exact (G k U D).1
      obtain ⟨c',j1,j2,j3,j4⟩:=ua W K q H I;refine ⟨c',?_,j2,j3,by rw [j4,Q]⟩;simp only [bi,Instr.fill,hp]
      have e1:((a.eval x).cells.size≠n || o+(a.eval x).cells.size > c.size)=false:=by simp at k3 C;simp; omega
      rw [if_neg (by simp only [e1]; exact Bool.false_ne_true)]
      have e2:((a.eval x).cells.zipIdx.foldl (fun (cs:Array Value) (x:Value × Nat)=>cs.setIfInBounds (o+x.2) x.1) c)=jm c (0+o) (a.eval x).cells.toList:=by have:=zi (a.eval x).cells.toList c o 0;rw [← Array.foldl_toList,Array.toList_zipIdx,this];congr 1; omega
      rw [e2]; exact j1
    ·cases q
   ·cases q
  ·cases A
theorem zbu {P:Program} (w:World):∀ {fs:List Field} {e:List (Nat × Nat)},fieldPlaces P fs=some e→(fs.mapM fun f=>(Functor.map (Prod.mk f.offset) (sizeOf f.type):Sem (Nat × Nat))).run P w = .ok e w
 | [],e,h=>by simp only [fieldPlaces] at h; cases h; rfl
 | f :: fs,e,h=>by
  simp only [fieldPlaces] at h;split at h
  ·rename_i n l j p;cases h;have q:=zbu w p;simp only [List.mapM_cons,Sem.run_bind,Sem.run_map,ip j,Result.andThen_ok,Sem.run_pure,q]
  ·cases h
end
end Go.Abs

namespace Go.Abs
section
variable {E:Env} {lo:Nat} {ν:Fr} {μ:MM} {s:Slots} {h:Heap} {a:Act} {w:World}
theorem rep_get {α:Type} (l:List α) (k:Nat) (e:l.length=k) (h0:0 < k):∀ (n i:Nat),i < n*k→((List.replicate n l).flatten)[i]? = l[i % k]?
 | 0,i,h=>by omega
 | n+1,i,h=>by
  rw [vi,ou];by_cases hi:i < k
  ·rw [ag (by omega),Nat.mod_eq_of_lt hi]
  ·rw [aw (by omega),e,rep_get l k e h0 n (i - k) (by rw [fm] at h; omega)];congr 1;rw [Nat.mod_eq_sub_mod (a:=i) (by omega)]
theorem qa {α:Type} (l:List α) (k:Nat) (e:l.length=k):∀ n,((List.replicate n l).flatten).length=n*k
 | 0=>by simp
 | n+1=>by rw [vi,ou,au,e,qa l k e n,fm]; omega
theorem zad {z:List AVal} {zero:Array Value} {k n:Nat} (A:VRels E μ z zero.toList) (h1:∀ x ∈ z,x.isOne=true) (q:z.length=k) (h0:0 < k) :
  VRels E μ (rep n z) ((Array.range (n*k)).map fun i=>zero[i % zero.size]!).toList∧(∀ x ∈ rep n z,x.isOne=true):=by
 have B:=A.length;simp at B;constructor
 ·apply VRels.of
  ·rw [rep,qa z k q]; simp
  ·intro i x hx
   have hi:i < n*k:=by have:=ah hx;rw [rep,qa z k q] at this; exact this
   rw [rep,rep_get z k q h0 n i hi] at hx;obtain ⟨v,y,hr⟩:=A.get hx;refine ⟨v,?_,hr⟩;have hm:i % zero.size < zero.size:=Nat.mod_lt _ (by omega);have e:zero.size=k:=by omega
   simp [hi];rw [e] at hm ⊢;rw [lm] at y;rw [getElem!_pos zero _ (by omega)];rw [lf (by omega)] at y;simpa using y
 ·intro x hx;unfold rep at hx;rw [List.mem_flatten] at hx;obtain ⟨l,j,p⟩:=hx;rw [List.mem_replicate] at j;rw [j.2] at p;exact h1 x p
theorem zh:∀ {cs:List AVal} {t:List UInt8} {l:List Value},bytesOf cs=some t→VRels E μ cs l→∃ ns:List Int,l=ns.map (Value.int .u8)∧t=ns.map fun n=>UInt8.ofNat n.toNat
 | [],t,l,h,e=>by simp only [bytesOf] at h; cases h;simp only [VRels] at e; subst e;exact ⟨[],rfl,rfl⟩
 | c :: cs,t,l,h,e=>by
  simp only [VRels] at e;obtain ⟨v,r,rfl,j,hr⟩:=e;unfold bytesOf at h;split at h
  ·rename_i h0; cases h0
  ·rename_i n A h0;cases h0;rw [ae] at h;obtain ⟨t',p,rfl⟩:=h;simp only [VRel] at j; subst j;obtain ⟨ns,q,y⟩:=zh p hr;exact ⟨n :: ns,by simp [q],by simp [y]⟩
  ·cases h
theorem zbs:∀ (ns:List Int) (r:ByteArray),ns.foldl (fun r n=>r.push (UInt8.ofNat n.toNat)) r=⟨(r.data.toList++ns.map fun n=>UInt8.ofNat n.toNat).toArray⟩
 | [],r=>by simp
 | n :: ns,r=>by rw [jw,zbs ns];simp
theorem done_store (A:FRel E lo ν μ (sget s) a.tmps w) (hr:Rel E μ h w) {dst:Option Tmp} {r:Result Next} (hd:∀ x,dst=some x→x < a.tmps.size) {x:Operand} {y:Opd} {Q:AAddr} {xs:List AVal} {l:List Value} {s':Slots} {h':Heap}
  (hc:gq E x=some y) (hy:y.adr s=some Q) (B:VRels E μ xs l) (h1:∀ v ∈ xs,v.isOne=true) (p:storeAt s h Q xs=some (s',h'))
  (D:∀ adr,a.eval x = .pointer (some adr)→r=((storeCells adr l).run E.P w).andThen fun _ w'=>.ok .skip w') :
  OpDone E lo ν.ds μ w a dst r .undef s' h':=by
 have a6:=B.length;have G:=nj B h1;cases Q with
 | glob i o =>
  simp only [storeAt] at p;split at p
  ·rename_i esz cs K;split at p
   ·rename_i hh;cases p;obtain ⟨hb,L⟩:=hh;obtain ⟨m,c,e,fr,H,U,V,N,W,O,k7⟩:=hr.obj i _ K;obtain ⟨adr,k8,x',k9,a0⟩:=ue A hc hy;rw [H] at k9; cases k9;have:=a0 m rfl; subst this;have I:=ju (P:=E.P) (b:=m.blk) (e:=e) (fr:=fr) (a:=⟨m.blk,m.base+o,none⟩) rfl rfl l 0 c w V (by simp; omega) (by rw [N]; exact (k7 hb).lt) G;have C:=O.splice B h1 L (by omega);refine ⟨Go.undef,_,μ,ν,rfl,.inr ⟨rfl,by rw [D _ k8,I]; rfl⟩,Step.put H (fj _ _) _,hr.put hb H ?_,?_⟩
    ·exact ⟨m,_,e,fr,H,U,gp (hr.lt i m H),by rw [jl]; exact N,by rw [ly _ _ _ L]; exact W,C,k7⟩
    ·rw [ig];refine FRel.setUndef ?_ hd;exact A.keep (Later.refl _) (fun t cs' hv=>bo (A.sepm t cs' i m hv H)) (fun t cs' j m' _ hj hm=>absurd (ah hm) (by omega)) fun q hq=>⟨bo ((A.sepd q hq).1 i m H),fun j m' hj hm=>absurd (ah hm) (by omega)⟩
   ·cases p
  ·cases p
 | loc t o =>
  simp only [storeAt] at p;split at p
  ·rename_i cs K;split at p
   ·rename_i L;cases p;obtain ⟨_,U,c,e,fr,V,N,W,O⟩:=A.var t _ K;have k8:=xb A hc hy K;have I:=ju (P:=E.P) (b:=ν t) (e:=e) (fr:=fr) (a:=⟨ν t,o,none⟩) rfl rfl l 0 c w V (by simp; omega) O.lt G;have C:=W.splice B h1 L (by omega);have J:=jl l c (0+o);simp only [dq] at C J;refine ⟨Go.undef,_,μ,ν,rfl,.inr ⟨rfl,by rw [D _ k8,I]; rfl⟩,?_,hr.keep (by simp [cz]) (fun i m hm=>bo (fun e=>A.sepm t _ i m K hm e.symm)) (fun k hk _=>bo (by have:=A.nodup.2; omega)),?_⟩
    ·exact ⟨rfl,rfl,rfl,by simp [cz],fun k hk hx _=>bo (fun e=>hx (by rw [← e]; exact U)),aj _,fun _ _=>.inl rfl,fun i m hi hm=>absurd (ah hm) (by omega)⟩
    ·rw [ig];refine FRel.setUndef ?_ hd;simp only [qg];exact A.putVar K (by rw [J,ly _ _ _ L]; exact N) C (by rw [J]; exact O)
   ·cases p
  ·cases p
theorem done_hstore (C:FRel E lo ν μ (sget s) a.tmps w) (hr:Rel E μ h w) {dst:Option Tmp} {r:Result Next} (hd:∀ x,dst=some x→x < a.tmps.size) {i o esz:Nat} {xs cs:List AVal} {l:List Value} {u:Value}
  (I:VRel E μ (.ptr (some (i,o))) u) (p:VRels E μ xs l) (h1:∀ v ∈ xs,v.isOne=true) (Q:h.get i=some (.cells esz cs)) (hb:h.base≤i) (J:o+xs.length≤cs.length)
  (A:∀ adr,u = .pointer (some adr)→r=((storeCells adr l).run E.P w).andThen fun _ w'=>.ok .skip w') :
  OpDone E lo ν.ds μ w a dst r (.val (.tuple [])) s (h.put i (.cells esz (splice cs o xs))):=by
 have K:=p.length;have B:=nj p h1;obtain ⟨m,c,e,fr,y,U,V,L,W,k6,N⟩:=hr.obj i _ Q;simp only [VRel] at I;obtain ⟨adr,k8,x',O,D⟩:=I;rw [y] at O; cases O;have:=D m rfl; subst this;have G:=ju (P:=E.P) (b:=m.blk) (e:=e) (fr:=fr) (a:=⟨m.blk,m.base+o,none⟩) rfl rfl l 0 c w V (by simp; omega) (by rw [L]; exact (N hb).lt) B;have H:=k6.splice p h1 J (by omega);refine ⟨Go.undef,_,μ,ν,rfl,.inr ⟨rfl,by rw [A _ k8,G]; rfl⟩,Step.put y (fj _ _) _,hr.put hb y ?_,?_⟩
 ·exact ⟨m,_,e,fr,y,U,gp (hr.lt i m y),by rw [jl]; exact L,by rw [ly _ _ _ J]; exact W,H,N⟩
 ·rw [ig];refine FRel.setVal ?_ hd (by simp only [VRel]; exact ⟨#[],rfl,by simp [VRels]⟩);exact C.keep (Later.refl _) (fun t cs' hv=>bo (C.sepm t cs' i m hv y)) (fun t cs' j m' _ hj hm=>absurd (ah hm) (by omega)) fun q hq=>⟨bo ((C.sepd q hq).1 i m y),fun j m' hj hm=>absurd (ah hm) (by omega)⟩
theorem copy_done (hf:FRel E lo ν μ (sget s) a.tmps w) (hr:Rel E μ h w) {dst:Option Tmp} {r:Result Next} (hd:∀ x,dst=some x→x < a.tmps.size)
  {t u ty e:TypeId} {ez:Nat} {x y v:AVal} {vx Q:Value} {h':Heap} (ht:E.P.underlying t=some (.slice e)) (hn:sizeT E.P e=some ez)
  (hx:VRel E μ x vx) (hy:VRel E μ y Q) (A:ct (.copy ez) [x,y] h=some (v,h'))
  (G:r=((Builtin.copy_ #[t,u] ty #[vx,Q]).run E.P w).andThen fun v w'=>.ok (.value v) w') :
  OpDone E lo ν.ds μ w a dst r (.val v) s h':=by
 cases x with
 | slice ao n c=>?_
 | _=>simp [ct] at A
 simp only [ct] at A;generalize J:min n (alen y)=k at A;split at A;case h_2=>cases A
 rename_i a0 B;cases y with
 | slice ya H yc=>?_
 | _=>cases B
 have J:min n H=k:=J;have hk:k≤H:=by omega
 have B:il ez h (.slice ya k yc)=some a0:=by rw [← B];exact (if_pos hk).symm
 obtain ⟨yb,D,U,a6⟩:∃ yb D,Q = .slice yb H D∧VRel E μ (.slice ya k yc) (.slice yb k D):=by
  cases ya with
  | none=>simp only [VRel] at hy ⊢; obtain ⟨rfl,h2,h3⟩:=hy; exact ⟨none,0,h3,by omega,h2,by rw [show k=0 by omega]⟩
  | some p =>
   obtain ⟨i,o⟩:=p;simp only [VRel] at hy ⊢;obtain ⟨O,cap,h1,h2,h3,h4,h5,h6⟩:=hy;exact ⟨some O,cap,h1,O,cap,rfl,h2,h3,h4,by omega,h6⟩
 obtain ⟨l,k',q1,q2,q3,q4,q5,q6⟩:=ri hr a6 B;have q5:k'=k:=q5;subst q5;have V:=q6 E.P w rfl
 have C:(Builtin.firstCells ez k' Q).run E.P w = .ok l.toArray w:=by
  rw [U];cases yb with
  | none=>exact V
  | some O=>exact V
 have I:(Builtin.lenOf Q).run E.P w = .ok H w:=by rw [U]; rfl
 split at A
 ·rename_i h0;cases A;have aa:l=[]:=bn (by rw [q4,h0]; simp);subst aa;refine dv hf hr hd (v:=.int .i64 0) ?_ (by simp [VRel]);rw [G]
  obtain ⟨b,cap,K⟩:∃ b cap,vx = .slice b n cap:=by
   cases ao with
   | none=>simp only [VRel] at hx; exact ⟨none,0,by rw [hx.2.2,hx.1]⟩
   | some p=>obtain ⟨i,o⟩:=p; simp only [VRel] at hx; obtain ⟨O,cap,h1,_⟩:=hx; exact ⟨some O,cap,h1⟩
  have ac:Nat.min H n=0:=by rw [show Nat.min H n=min n H from Nat.min_comm _ _]; omega
  rw [h0] at C;rw [K];cases b <;> simp [Builtin.copy_,run_underlying ht,ip hn,I,C,storeCells,goInt,ac]
 ·rename_i h0;split at A;case h_2=>cases A
  rename_i i o;split at A;case h_2=>cases A
  rename_i e1 cs hg;split at A;case isFalse=>cases A
  rename_i hh;obtain ⟨rfl,hb,hl⟩:=hh;cases A;simp only [VRel] at hx;obtain ⟨O,cap,K,hi,hA,ay,ax,b5⟩:=hx;obtain ⟨m,cc,te,fr,L,k2,k3,k4,k5,k6,k7⟩:=hr.obj i _ hg;obtain ⟨x',k8,k9⟩:=hA (by omega);rw [L] at k8; cases k8;have:=k9 m rfl; subst this;have W:=nj q1 q2;have b6:=q1.length;have al:=ju (P:=E.P) (b:=m.blk) (e:=te) (fr:=fr) (a:=⟨m.blk,m.base+o,none⟩) rfl rfl l 0 cc w k3 (by simp; omega) (by rw [k4]; exact (k7 hb).lt) W;have an:=k6.splice q1 q2 hl (by omega);have N:k'=Nat.min H n:=J.symm.trans (Nat.min_comm _ _);rw [N] at C;refine ⟨.int .i64 ((k':Nat):Int),cz w m.blk (.cells (jm cc (m.base+o+0) l) te fr),μ,ν,rfl,.inl ?_,Step.put L (fj _ _) _,hr.put hb L ?_,?_⟩
  ·rw [G,K];simp [Builtin.copy_,run_underlying ht,ip hn,I,C,al,goInt];first | exact N.symm | exact N | omega
  ·exact ⟨m,_,te,fr,L,k2,gp (hr.lt i m L),by rw [jl]; exact k4,by rw [ly _ _ _ hl]; exact k5,an,k7⟩
  ·rw [ig];refine FRel.setVal ?_ hd (by simp only [VRel]);exact hf.keep (Later.refl _) (fun t cs' hv=>bo (hf.sepm t cs' i m hv L)) (fun t cs' j m' _ hj hm=>absurd (ah hm) (by omega)) fun q hq=>⟨bo ((hf.sepd q hq).1 i m L),fun j m' hj hm=>absurd (ah hm) (by omega)⟩
theorem appz_done (hf:FRel E lo ν μ (sget s) a.tmps w) (hr:Rel E μ h w) {dst:Option Tmp} {r:Result Next} (hd:∀ x,dst=some x→x < a.tmps.size)
  {t u ty e:TypeId} {kq:IntKind} {i:TypeInfo} {z:List AVal} {x y v:AVal} {vx vy:Value} {h':Heap} (ht:E.P.underlying t=some (.slice e)) (hu:E.P.underlying u=some (.int kq)) (hi:E.P.info? e=some i) (hz:zeroOf E.P e=some z) (O:z.length=i.size) (h0:0 < i.size)
  (hx:VRel E μ x vx) (hy:VRel E μ y vy) (H:ct (.appz i.size i.bytes z) [x,y] h=some (v,h'))
  (A:r=((Builtin.append_ #[t,u] ty #[vx,vy]).run E.P w).andThen fun v w'=>.ok (.value v) w') :
  OpDone E lo ν.ds μ w a dst r (.val v) s h':=by
 cases x with
 | slice ao n c=>?_
 | _=>simp [ct] at H
 cases y with
 | int kd m=>?_
 | _=>simp [ct] at H
 cases kd <;> simp only [ct,reduceCtorEq] at H
 obtain ⟨i',J,Q,ac,al⟩:=info_zero hz;rw [hi] at Q; cases Q;simp only [VRel] at hy;subst hy
 have B:∃ b cap,vx = .slice b n cap∧n≤cap∧∀ k,c=some k→cap=k:=by
  cases ao with
  | none=>simp only [VRel] at hx; obtain ⟨e1,e2,e3⟩:=hx; exact ⟨none,0,by rw [e3,e1],by omega,fun k D=>by rw [e2] at D; cases D; rfl⟩
  | some p=>obtain ⟨j,o⟩:=p; simp only [VRel] at hx; obtain ⟨ad,cap,h1,_,_,h4,h5,_⟩:=hx; exact ⟨some ad,cap,h1,h5,h4⟩
 obtain ⟨b,cap,B,U,an⟩:=B;split at H
 ·rename_i hm;subst hm;cases H;refine dv hf hr hd ?_ hx;rw [A,B];have hw:IntKind.i64.wrap 0=0:=by decide
  cases b <;> simp [Builtin.append_,run_underlying ht,run_underlying hu,sizeOf,typeInfo,hi,asInt,asIntOf,hw,U,storeCells]
 ·rename_i hm;split at H;case h_2=>cases H
  rename_i old k hold;split at H;case isFalse=>cases H
  rename_i hh;obtain ⟨bb,D,hb,V⟩:=hh;cases H;obtain ⟨q,rfl⟩:=Int.eq_ofNat_of_zero_le (show 0≤m by omega);simp only [Int.toNat_natCast] at D hb V ⊢;have K:=an k rfl;subst K;obtain ⟨lo1,I,o1,o2,o3,o4,o5,o6⟩:=ri hr hx hold;simp only [alen] at o5;subst o5;have W:=growslice_fits (need:=I+q) (old:=cap) (bytes:=i.bytes) D hb
  have hq:q*i.bytes≤281474976710656:=by have:q*i.bytes≤(I+q)*i.bytes:=ge _ (by omega);omega
  have ax:=Go.Lib.run_append_grow_zeros (P:=E.P) w t u ty e i J .i64 kq ht hu hi ac b I cap lo1 (by rw [← B]; exact o6 E.P w.drew rfl) q (by omega) h0 D (by omega) hq W;rw [B,ax] at A;obtain ⟨k2,k3⟩:=ug (E:=E) al μ;obtain ⟨r1,r2⟩:=zad (n:=q) k2 k3 O h0;have hg:I+q≤grownCap w (I+q) cap e:=by simp [grownCap,Question.cut]
  have L:J.cells.size=i.size:=by have:=k2.length; simp at this; omega
  have ay:(Builtin.zeroCells J.cells q).toList=((Array.range (q*i.size)).map fun j=>J.cells[j % J.cells.size]!).toList:=by unfold Builtin.zeroCells; rw [L]
  rw [← ay] at r1;generalize hZ:Builtin.zeroCells J.cells q=Z at r1 A;have b5:Z.size=q*i.size:=by rw [← hZ]; simp [Builtin.zeroCells,L]
  generalize G:lo1.toArray++Z++Builtin.zeroCells J.cells (grownCap w (I+q) cap e - (I+q))=C at A
  have hC:C.size=grownCap w (I+q) cap e*i.size:=by rw [← G];simp [Builtin.zeroCells,o4,b5,L];rw [← fm,← fm]; congr 1; omega
  have a0:=o1.append r1;have a6:h.size=μ.length:=hr.len.symm;rw [a6];refine lw hf hr hd (.cells i.size (old++rep q z)) (.cells C e) ⟨w.heap.size,0,C.size,i.size⟩ rfl (w1:=w.drew.alloc (.cells C e)) A rfl rfl rfl rfl ?_ ?_
  ·refine ⟨⟨w.heap.size,0,C.size,i.size⟩,C,e,(0,0),by simp,rfl,by simp,rfl,?_,fun k v' D=>⟨?_,?_⟩,fun _=>⟨aj _,fun off _=>by simp⟩⟩
   ·have e1:=o1.length;have e2:(rep q z).length=q*i.size:=by rw [rep,qa z _ O]
    simp only [au,dq,e1,e2,o4,hC,← fm];exact ge _ hg
   ·rcases bz.1 (br D) with N | N
    ·exact o2 _ N
    ·exact r2 _ N
   ·obtain ⟨u',aa,b6⟩:=a0.get D;refine ⟨u',?_,b6.later (g9 μ _)⟩;have b7:=ah aa;rw [dq,← G,s9 (by simpa using b7),← lm,Array.toList_append];exact aa
  ·exact ol rfl hg (fun k D=>by cases D) (by simp [hC]) (grownCap_le_maxLen w (I+q) cap e V)
theorem clear_done (L:FRel E lo ν μ (sget s) a.tmps w) (hr:Rel E μ h w) {dst:Option Tmp} {r:Result Next} (hd:∀ x,dst=some x→x < a.tmps.size)
  {t ty e:TypeId} {Q:Nat} {z:List AVal} {x v:AVal} {U:Value} {h':Heap} (ht:E.P.underlying t=some (.slice e)) (hz:zeroOf E.P e=some z) (B:z.length=Q) (h0:0 < Q)
  (hx:VRel E μ x U) (y:ct (.clear Q z) [x] h=some (v,h'))
  (A:r=((Builtin.clear_ #[t] ty #[U]).run E.P w).andThen fun v w'=>.ok (.value v) w') :
  OpDone E lo ν.ds μ w a dst r (.val v) s h':=by
 cases x with
 | slice ao n c=>?_
 | _=>simp [ct] at y
 simp only [ct] at y;split at y
 ·rename_i H;subst H;cases y;refine dv L hr hd (v:=.tuple #[]) ?_ (by simp only [VRel]; exact ⟨#[],rfl,by simp [VRels]⟩);rw [A]
  obtain ⟨b,cap,C⟩:∃ b cap,U = .slice b 0 cap:=by
   cases ao with
   | none=>simp only [VRel] at hx; exact ⟨none,0,hx.2.2⟩
   | some p=>obtain ⟨i,o⟩:=p; simp only [VRel] at hx; obtain ⟨ad,cap,h1,_⟩:=hx; exact ⟨some ad,cap,h1⟩
  rw [C];cases b <;> simp [Builtin.clear_,run_underlying ht]
 ·rename_i H;split at y;case h_2=>cases y
  rename_i i o;split at y;case h_2=>cases y
  rename_i N cs hg;split at y;case isFalse=>cases y
  rename_i hh;obtain ⟨rfl,hb,hl⟩:=hh;cases y;simp only [VRel] at hx;obtain ⟨ad,cap,C,hi,hA,ac,aa,al⟩:=hx;obtain ⟨m,cc,V,fr,D,k2,k3,k4,k5,k6,k7⟩:=hr.obj i _ hg;obtain ⟨x',k8,k9⟩:=hA (by omega);rw [D] at k8; cases k8;have:=k9 m rfl; subst this;obtain ⟨G,z1,z2,z3⟩:=t9 (E:=E) hz μ w;obtain ⟨O,q2⟩:=zad (n:=n) z2 z3 B h0;have I:(rep n z).length=n*N:=by rw [rep,qa z N B]
  have W:(Builtin.zeroCells G.cells n)=(Array.range (n*N)).map fun i=>G.cells[i % G.cells.size]! := by have:=z2.length;simp at this;unfold Builtin.zeroCells;rw [← this,B]
  generalize hL:((Array.range (n*N)).map fun i=>G.cells[i % G.cells.size]!).toList=l at O;have J:(Builtin.zeroCells G.cells n).toList=l:=by rw [W,hL]
  have K:=nj O q2;have an:=O.length;have a0:=ju (P:=E.P) (b:=m.blk) (e:=V) (fr:=fr) (a:=⟨m.blk,m.base+o,none⟩) rfl rfl l 0 cc w k3 (by simp; omega) (by rw [k4]; exact (k7 hb).lt) K;have a6:=k6.splice O q2 (by rw [I]; exact hl) (by omega);refine ⟨.tuple #[],cz w m.blk (.cells (jm cc (m.base+o+0) l) V fr),μ,ν,rfl,.inl ?_,Step.put D (fj _ _) _,hr.put hb D ?_,?_⟩
  ·rw [A,C];obtain ⟨n',rfl⟩:∃ n',n=n'+1:=⟨n - 1,by omega⟩;simp only [Builtin.clear_];simp [run_underlying ht,z1,J,a0]
  ·exact ⟨m,_,V,fr,D,k2,gp (hr.lt i m D),by rw [jl]; exact k4,by rw [ly _ _ _ (by rw [I]; exact hl)]; exact k5,a6,k7⟩
  ·rw [ig];refine FRel.setVal ?_ hd (by simp only [VRel]; exact ⟨#[],rfl,by simp [VRels]⟩);exact L.keep (Later.refl _) (fun t cs' hv=>bo (L.sepm t cs' i m hv D)) (fun t cs' j m' _ hj hm=>absurd (ah hm) (by omega)) fun q hq=>⟨bo ((L.sepd q hq).1 i m D),fun j m' hj hm=>absurd (ah hm) (by omega)⟩
theorem mark_done (N:FRel E lo ν μ (sget s) a.tmps w) (hr:Rel E μ h w) {dst:Option Tmp} {r:Result Next} (hd:∀ x,dst=some x→x < a.tmps.size)
  {t e:TypeId} {i o n e1:Nat} {c:Option Nat} {cs:List AVal} {O:Value} (hs:E.P.underlying t=some (.slice e)) (he:E.P.underlying e=some (.int .u8)) (y:E.room=0)
  (hx:VRel E μ (.slice (some (i,o)) n c) O) (hg:h.get i=some (.cells e1 cs)) (hn:0 < n) (hb:h.base≤i)
  (C:r=((convert t t O).run E.P w).andThen fun v w'=>.ok (.value v) w') :
  OpDone E lo ν.ds μ w a dst r (.val (.slice (some (i,o)) n c)) s (h.put i (.cells e1 cs)):=by
 have D:=hx;simp only [VRel] at D;obtain ⟨ad,cap,Q,hi,hA,aa,a6,ac⟩:=D;obtain ⟨m,cc,G,fr,A,k2,U,k4,k5,k6,k7⟩:=hr.obj i _ hg;obtain ⟨x',k8,k9⟩:=hA (by omega);rw [A] at k8; cases k8;have V:=k9 m rfl;have H:=hr.lt i m A;have B:=k7 hb;have W:w.shape? m.blk=some (G,cc.size):=by unfold World.shape?; rw [U]
 let p:Nat × Nat:=if fr.1 == fr.2 then (cc.size,cc.size+1) else (min fr.1 cc.size,max fr.2 (cc.size+1))
 have a0:w.freeze ⟨m.blk,cc.size,none⟩ 1=cz w m.blk (.cells cc G p):=by
  unfold World.freeze cz;rw [if_neg (by decide)];congr 1;apply Array.ext
  ·simp
  ·intro j h1 h2;rw [Array.getElem_modify,Array.getElem_setIfInBounds (by simpa using h1)];by_cases K:m.blk=j
   ·subst K;simp only [if_true]
    have:w.heap[m.blk] = .cells cc G fr:=by rw [lf H] at U;exact ce U
    rw [this]
   ·simp [K]
 have I:Free E.room p m.size:=by
  obtain ⟨f1,f2⟩:=B;have al:cc.size=m.size:=k4;by_cases L:fr.1=fr.2
  ·have e':p=(cc.size,cc.size+1):=by simp only [p,beq_iff_eq,L,if_true]
   rw [e',y];exact ⟨Nat.le_succ _,fun off ho=>by simp only; omega⟩
  ·have e':p=(min fr.1 cc.size,max fr.2 (cc.size+1)):=by simp only [p,beq_iff_eq,L,if_false]
   rw [e',y];have h3:¬ fr.1 < m.size:=fun h=>f2 fr.1 (by omega) ⟨aj _,by omega⟩
   exact ⟨by simp only; omega,fun off ho=>by simp only; omega⟩
 refine ⟨O,cz w m.blk (.cells cc G p),μ,ν,rfl,.inl ?_,Step.put A (fj _ _) _,hr.put hb A ⟨m,cc,G,p,A,k2,gp H,k4,k5,k6,fun _=>I⟩,?_⟩
 ·rw [C,Q];have J:ad.block=m.blk:=by rw [V]
  simp [convert,run_underlying hs,run_underlying he,markStringish,J,W,a0]
 ·rw [ig];refine FRel.setVal ?_ hd hx;exact N.keep (Later.refl _) (fun t cs' hv=>bo (N.sepm t cs' i m hv A)) (fun t cs' j m' _ K hm=>absurd (ah hm) (by omega)) fun q L=>⟨bo ((N.sepd q L).1 i m A),fun j m' K hm=>absurd (ah hm) (by omega)⟩
theorem le_grown (w:World) (need old:Nat) (e:TypeId):need≤grownCap w need old e:=by simp [grownCap,Question.cut]
theorem append_done (hf:FRel E lo ν μ (sget s) a.tmps w) (hr:Rel E μ h w) {dst:Option Tmp} {r:Result Next} (hd:∀ x,dst=some x→x < a.tmps.size)
  {t u ty e:TypeId} {i:TypeInfo} {z:Value} {x y v:AVal} {vx vy:Value} {h':Heap} (ht:E.P.underlying t=some (.slice e)) (hu:(∃ e',E.P.underlying u=some (.slice e'))∨E.P.underlying u=some .string) (hi:E.P.info? e=some i) (hz:i.zero=some z) (c5:z.cells.size=i.size)
  (hx:VRel E μ x vx) (hy:VRel E μ y vy) (D:d7 i.size i.bytes h x y=some (v,h'))
  (H:r=((Builtin.append_ #[t,u] ty #[vx,vy]).run E.P w).andThen fun v w'=>.ok (.value v) w') :
  OpDone E lo ν.ds μ w a dst r (.val v) s h':=by
 unfold d7 at D;cases x with
 | slice ao n0 c=>?_
 | _=>cases D
 simp only at D;split at D;case h_2=>cases D
 rename_i old new ho hn;unfold aApp at D;have G:=hu;obtain ⟨lo1,A,o1,o2,o3,o4,o5,o6⟩:=ri hr hx ho;obtain ⟨ln,N,p1,p2,p3,p4,p5,p6⟩:=ri hr hy hn;simp only [alen] at o5;subst o5;rw [← p5] at D
 have al:Src E.P i.size u vy N ln w:=⟨G,fun w'=>p3 E.P w',p6 E.P w rfl,p6 E.P w.drew rfl,p4,fun v hv=>by have:=nj p1 p2 v hv;cases v <;> simp_all [one?,Value.oneCell']⟩
 split at D
 ·-- nothing is appended
  rename_i h0;cases D;subst h0;have ci:ln=[]:=bn (by simpa using p4);subst ci
  have:∃ b cap,vx = .slice b A cap∧A≤cap:=by
   cases ao with
   | none=>simp only [VRel] at hx; obtain ⟨e1,_,e2⟩:=hx; exact ⟨none,0,by rw [e2,e1],by omega⟩
   | some io=>simp only [VRel] at hx; obtain ⟨ad,cap,e1,_,_,_,e2,_⟩:=hx; exact ⟨some ad,cap,e1,e2⟩
  obtain ⟨b,cap,rfl,I⟩:=this;refine dv hf hr hd ?_ hx;rw [H];rcases G with ⟨e',G⟩ | G <;> (cases b <;> simp [Builtin.append_,run_underlying ht,run_underlying G,sizeOf,typeInfo,hi,p3,I,p6,storeCells])
 ·rename_i h0;split at D
  ·rename_i hh;obtain ⟨hb,cp⟩:=hh;have an:=o1.append p1
   have ax:∀ (k:Nat) (v':AVal),(old++new)[k]? = some v'→v'.isOne=true:=by
    intro k v' G;rcases bz.1 (br G) with p | p
    ·exact o2 _ p
    ·exact p2 _ p
   have U:∀ (b:Option Addr) (cap:Nat) (h1:Heap) (μ1:MM),vx = .slice b A cap→cap < A+N→Later μ μ1→Rel E μ1 h1 w→FRel E lo ν μ1 (sget s) a.tmps w →
     OpDone E lo ν.ds μ1 w a dst r (.val (.slice (some (h1.size,0)) (A+N) none)) s (h1.push (.cells i.size (old++new))):=by
    intro b cap h1 μ1 O I cv ay cx;have b5:=growslice_fits (need:=A+N) (old:=cap) (bytes:=i.bytes) I hb;have cy:=run_append_grow_src (P:=E.P) w t u ty e i z ht hi hz b A cap lo1 (by rw [← O]; exact o6 E.P w.drew rfl) vy N ln al I (by omega) b5;rw [O,cy] at H;have hg:=le_grown w (A+N) cap e;generalize V:(lo1++ln).toArray++Builtin.zeroCells z.cells (grownCap w (A+N) cap e - (A+N))=C at H
    have hC:C.size=grownCap w (A+N) cap e*i.size:=by rw [← V];simp [Builtin.zeroCells,o4,p4,c5];rw [← fm,← fm]; congr 1; omega
    have W:h1.size=μ1.length:=ay.len.symm;rw [W];refine lw cx ay hd (.cells i.size (old++new)) (.cells C e) ⟨w.heap.size,0,C.size,i.size⟩ rfl (w1:=w.drew.alloc (.cells C e)) H rfl rfl rfl rfl ?_ ?_
    ·refine ⟨⟨w.heap.size,0,C.size,i.size⟩,C,e,(0,0),by simp,rfl,by simp,rfl,?_,fun k v' G=>?_,fun _=>⟨aj _,fun off _=>by simp⟩⟩
     ·have e1:=o1.length;have e2:=p1.length;simp only [au,dq,e1,e2,o4,p4,hC,← fm];exact ge _ hg
     ·obtain ⟨u,b6,a6⟩:=an.get G;refine ⟨ax k v' G,u,?_,(a6.later cv).later (g9 μ1 _)⟩;rw [dq,← V,s9 (by simpa using ah b6)];simpa using b6
    ·exact ol rfl hg (fun k G=>by cases G) (by simp [hC]) (grownCap_le_maxLen w (A+N) cap e cp)
   split at D
   ·-- nil
    cases D;simp only [VRel] at hx;obtain ⟨e1,_,e2⟩:=hx;exact U none 0 h μ (by rw [e2,e1]) (by omega) (Later.refl _) hr hf
   ·rename_i j o;simp only [VRel] at hx;obtain ⟨ad,cap,O,hj,hA,d1,I,d2⟩:=hx;split at D
    ·-- full
     rename_i hc;cases D;exact U (some ad) cap h μ O (by have:=d1 _ hc; omega) (Later.refl _) hr hf
    ·split at D
     ·rename_i d3;cases D;obtain ⟨J,L⟩:=d3;unfold rowIs at L;split at L;case h_2=>cases L
      rename_i e' cs hg;have d4:e'=i.size:=by simpa using L
      subst d4;obtain ⟨m,cc,te,fr,k1,k2,k3,k4,k5,k6,k7⟩:=hr.obj j _ hg;by_cases K:A+N≤cap
      ·-- there is room: in its place
       obtain ⟨x',k8,k9⟩:=hA (by omega);rw [k1] at k8; cases k8;have:=k9 m rfl; subst this;have hs:=d2 m k1;rw [k2] at hs
       have aa:m.base+o+A*i.size+ln.length≤cc.size:=by rw [p4,k4,lz,← fm];exact de (Nat.add_le_add_left (ge _ K) _) hs
       have b7:=nj p1 p2;have d5:=ju (P:=E.P) (b:=m.blk) (e:=te) (fr:=fr) (a:=⟨m.blk,m.base+o+A*i.size,none⟩) rfl rfl ln 0 cc w k3 (by simpa using aa) (by rw [k4]; exact (k7 J).lt) b7
       have ac:r = .ok (.value (.slice (some ⟨m.blk,m.base+o,none⟩) (A+N) cap)) (cz w m.blk (.cells (jm cc (m.base+o+A*i.size) ln) te fr)):=by rw [H,O];have e1:(⟨m.blk,m.base+o,none⟩:Addr).add (A*i.size)=⟨m.blk,m.base+o+A*i.size,none⟩:=om _ _ _;rcases G with ⟨e5,G⟩ | G <;> (simp [Builtin.append_,run_underlying ht,run_underlying G,sizeOf,typeInfo,hi,p3,K,p6,e1,d5])
       have bb:ORel E (μ.set j none++[some ⟨m.blk,m.base+o,m.size,m.esz⟩]) h.base μ.length (cz w m.blk (.cells (jm cc (m.base+o+A*i.size) ln) te fr)) (.cells i.size (old++new)):=by
        have hold:∀ (k:Nat) (v':AVal),old[k]? = some v'→∃ u,cc[m.base+o+k]? = some u∧VRel E μ v' u:=by
         intro k v' B
         have d6:A≠0:=by intro d8; subst d8;have:=ah B;rw [o1.length,o4] at this; omega
         simp only [il] at ho;rw [if_neg d6,hg] at ho;simp only at ho;split at ho
         ·cases ho
          have d9:k < A*i.size:=by have:=ah B;simp at this; omega
          rw [fp d9,dt] at B;obtain ⟨_,u,Q,a0⟩:=k6 _ v' B;exact ⟨u,by rw [← Q]; congr 1; omega,a0⟩
         ·cases ho
        have bm:old.length=A*i.size:=by rw [o1.length,o4]
        have dd:new.length=N*i.size:=by rw [p1.length,p4]
        refine ⟨⟨m.blk,m.base+o,m.size,m.esz⟩,_,te,fr,?_,k2,gp (hr.lt j m k1),by rw [jl]; exact k4,?_,fun k v' B=>⟨ax k v' B,?_⟩,fun _=>k7 J⟩
        ·rw [aw (by simp)]; simp
        ·simp only [au,bm,dd];rw [p4,k4] at aa; omega
        ·rw [uf ln cc _ _ aa];by_cases e6:k < A*i.size
         ·rw [ag (by omega)] at B;obtain ⟨u,Q,a0⟩:=hold k v' B;rw [if_neg (by simp only; omega)];exact ⟨u,Q,(a0.later (ni μ j)).later (g9 _ _)⟩
         ·rw [aw (by omega),bm] at B;obtain ⟨u,Q,a0⟩:=p1.get B;have:=ah Q;rw [if_pos (by simp only; omega)];refine ⟨u,?_,(a0.later (ni μ j)).later (g9 _ _)⟩;rw [← Q]; congr 1; simp only; omega
       have dl:=hr.take (m':=⟨m.blk,m.base+o,m.size,m.esz⟩) J k1 rfl bb;have e0:((h.put j .dead).push (.cells i.size (old++new))).wmin≤j:=fj _ _
       have bx:Step (fun k=>lo≤k) _ μ w _ (cz w m.blk (.cells (jm cc (m.base+o+A*i.size) ln) te fr)) :=
        Step.take (X:=fun k=>lo≤k) (m':=⟨m.blk,m.base+o,m.size,m.esz⟩) (.cells (jm cc (m.base+o+A*i.size) ln) te fr) k1 rfl e0
       refine ⟨_,_,_,ν,rfl,.inl ac,bx,dl,?_⟩;rw [ig];refine FRel.setVal ?_ hd ?_
       ·refine hf.keep bx.later (fun t cs' hv=>bo (hf.sepm t cs' j m hv k1)) (fun t cs' q m' hv hq p=>?_) fun r' a6=>⟨bo ((hf.sepd r' a6).1 j m k1),fun q m' hq p=>?_⟩
        ·rcases iq p with b | ⟨_,b⟩
         ·exact absurd (ah b) (by simp; omega)
         ·cases b; exact hf.sepm t cs' j m hv k1
        ·rcases iq p with b | ⟨_,b⟩
         ·exact absurd (ah b) (by simp; omega)
         ·cases b; exact (hf.sepd r' a6).1 j m k1
       ·have W:h.size=μ.length:=hr.len.symm;rw [W];simp only [VRel];refine ⟨_,cap,rfl,⟨by simp,hj.2⟩,fun _=>⟨some ⟨m.blk,m.base+o,m.size,m.esz⟩,by rw [aw (by simp)]; simp,fun m' p=>by cases p; rfl⟩,(fun k G=>by cases G),K,fun m' p=>?_⟩;rw [aw (by simp)] at p;simp at p; subst p;simp only [k2,qg];exact hs
      ·-- there is none
       have e3:=hr.kill j;have e4:FRel E lo ν (μ.set j none) (sget s) a.tmps w:=hf.keep (ni μ j) (fun _ _ _=>rfl) (fun t cs' q m' _ hq p=>absurd (ah p) (by simp; omega)) fun _ _=>⟨rfl,fun q m' hq p=>absurd (ah p) (by simp; omega)⟩
       obtain ⟨v',w',μ',ν',q0,q1,q2,q3,q4⟩:=U (some ad) cap (h.put j .dead) (μ.set j none) O (by omega) (ni μ j) e3 e4;have c4:(h.put j .dead).size=h.size:=by simp [Heap.put,Heap.size]
       rw [c4] at q4;refine ⟨v',w',μ',ν',q0,q1,?_,q3,q4⟩;exact (Step.kill (X:=fun k=>lo≤k) (wm:=j) μ w (aj _)).trans q2 (fj _ _)
     ·cases D
  ·cases D
end
end Go.Abs
