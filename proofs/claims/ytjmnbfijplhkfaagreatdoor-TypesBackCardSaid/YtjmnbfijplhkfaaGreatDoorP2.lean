/-
  Texts joined.
-/
import Derived.Test.YtjmnbfijplhkfaaGreatDoorP0
import Derived.Test.YtjmnbfijplhkfaaGreatDoorP1
import Derived.Calls
import Derived.Laws.Sem
import Derived.Laws.Cells
import Derived.Laws.Strings
import Derived.Laws.Entries
import Derived.Deep.AppendSrc
import Derived.WalkSpells
import Derived.Laws.IdiomStrings
import Derived.Laws.BytesArg
import Derived.Lib.AppendZerosOnto
import Derived.MapKept
import Derived.DeepKeys
import Derived.OrdersIn
import Derived.LoopNIn
import Derived.RangeFuncRecord
set_option linter.unusedVariables false
set_option linter.unusedSimpArgs false
set_option maxRecDepth 100000
namespace Go.Abs
theorem gz {α:Type _} {a:α} {l:List α}:(a :: l)[0]? = some a:=bg
theorem gs {α:Type _} {a:α} {l:List α} {i:Nat}:(a :: l)[i+1]? = l[i]?:=jq
def Le {α:Type} (a b:Option α):Prop:=∀ r,a=some r→b=some r
theorem Le.refl {α:Type} (a:Option α):Le a a:=fun _ h=>h
def CallLe (c d:CallSem):Prop:=∀ g args h,Le (c g args h) (d g args h)
theorem CallLe.refl (c:CallSem):CallLe c c:=fun _ _ _=>Le.refl _
theorem CallLe.trans {a b c:CallSem} (h:CallLe a b) (k:CallLe b c):CallLe a c:=fun g as hp r hr=>k g as hp r (h g as hp r hr)
theorem Le.map {α β:Type} {a b:Option α} (f:α→β) (h:Le a b):Le (a.map f) (b.map f):=by
 intro r hr;cases a with
 | none=>simp at hr
 | some x=>rw [h x rfl]; exact hr
theorem evOp_mono {c d:CallSem} (hcd:CallLe c d) (dst:Nat) (o:AOp) (s:Slots) (h:Heap):Le (dm c dst o s h) (dm d dst o s h):=by
 cases o with
 | call f args =>
  intro r hr;simp only [dm] at hr ⊢;split at hr
  ·exact Le.map _ (hcd _ _ _) r hr
  ·split at hr
   ·exact Le.map _ (hcd _ _ _) r hr
   ·exact hr
  ·exact hr
 | callg g args =>
  intro r hr;simp only [dm] at hr ⊢;split at hr
  ·exact Le.map _ (hcd _ _ _) r hr
  ·exact hr
 | _=>exact fun r hr=>hr
theorem zal {c d:CallSem} (hcd:CallLe c d) (o:AOper) (s:Slots) (h:Heap):Le (evRun c o s h) (evRun d o s h):=by
 intro r hr;unfold evRun at hr ⊢;split at hr
 ·rename_i x s' h' he;rw [evOp_mono hcd _ _ _ _ _ he]; exact hr
 ·simp at hr
theorem ll {c d:CallSem} (hcd:CallLe c d) (o:AOper) (s:Slots) (h:Heap):Le (ew c o s h) (ew d o s h):=by
 intro r hr;unfold ew at hr ⊢;split at hr
 ·exact zal hcd _ _ _ r hr
 ·split at hr
  ·split at hr
   ·rename_i h1; simp only [if_pos h1]; exact zal hcd _ _ _ r hr
   ·rename_i h1; simp only [if_neg h1]; exact hr
  ·exact hr
  ·simp at hr
theorem rj {c d:CallSem} (hcd:CallLe c d):∀ (l:List AOper) (s:Slots) (h:Heap),Le (evOps c l s h) (evOps d l s h)
 | [],_,_=>Le.refl _
 | o :: l,s,h=>by
  intro r hr;simp only [evOps] at hr ⊢;split at hr
  ·rename_i s' h' he;rw [ll hcd _ _ _ _ he]; exact rj hcd l _ _ r hr
  ·simp at hr
theorem rk {c d:CallSem} (hcd:CallLe c d):∀ (l:List AOper) (s:Slots) (h:Heap),Le (evQuiet c l s h) (evQuiet d l s h)
 | [],_,_=>Le.refl _
 | o :: l,s,h=>by
  intro r hr;simp only [evQuiet] at hr ⊢;split at hr
  ·rename_i s' h' he;rw [ll hcd _ _ _ _ he];simp only;split at hr
   ·rename_i h1; rw [if_pos h1]; exact rk hcd l _ _ r hr
   ·simp at hr
  ·simp at hr
theorem qe {c d:CallSem} (hcd:CallLe c d):∀ (V:List Nat) (l:List AOper) (s:Slots) (h:Heap),Le (evQuietV c V l s h) (evQuietV d V l s h)
 | _,[],_,_=>Le.refl _
 | V,o :: l,s,h=>by
  intro r hr;simp only [evQuietV] at hr ⊢;split at hr
  ·rename_i s' h' he;rw [ll hcd _ _ _ _ he];simp only;split at hr
   ·rename_i h1; rw [if_pos h1]; exact qe hcd V l _ _ r hr
   ·simp at hr
  ·simp at hr
theorem evQ_mono {c d:CallSem} (hcd:CallLe c d) (l:List AOper) (s:Slots) (h:Heap):Le (evQ c l s h) (evQ d l s h):=by
 unfold evQ;split
 ·exact rk hcd _ _ _
 ·split
  ·exact qe hcd _ _ _ _
  ·exact Le.refl _
theorem wj {c d:CallSem} (hcd:CallLe c d) (n0 m:Nat) (ds:List Did) (o:AOper) (s:Slots) (h:Heap):Le (lg c n0 m ds o s h) (lg d n0 m ds o s h):=by
 intro r hr;unfold lg at hr ⊢;split at hr
 ·cases hr
 ·rename_i h1;rw [if_neg h1];split at hr
  ·rename_i h2;rw [if_pos h2];split at hr
   ·cases hr
   ·rename_i s' h' he;rw [ll hcd _ _ _ _ he];exact hr
  ·rename_i h2;rw [if_neg h2];exact hr
theorem rn {c d:CallSem} (hcd:CallLe c d) (n0:Nat):∀ (ops:List AOper) (ms:List Nat) (ds:List Did) (s:Slots) (h:Heap),Le (jb c n0 ms ops ds s h) (jb d n0 ms ops ds s h)
 | [],_,_,_,_=>fun r hr=>by simp only [jb] at hr ⊢; exact hr
 | o :: l,ms,ds,s,h=>by
  intro r hr;simp only [jb] at hr ⊢;split at hr
  ·rename_i y h' x he;rw [wj hcd _ _ _ _ _ _ _ he];simp only;split at hr
   ·rename_i h1; rw [if_pos h1]; exact rn hcd n0 l _ _ _ _ r hr
   ·cases hr
  ·cases hr
theorem yw {c d:CallSem} (hcd:CallLe c d) (ms:List Nat) (ops:List AOper) (s:Slots) (h:Heap):Le (um c ms ops s h) (um d ms ops s h):=rn hcd _ _ _ _ _ _
theorem qa {c d:CallSem} (hcd:CallLe c d):∀ (l:List Seg) (s:Slots) (h:Heap),Le (j8 c l s h) (j8 d l s h)
 | [],_,_=>Le.refl _
 | g :: l,s,h=>by
  intro r hr;simp only [j8] at hr ⊢;split at hr
  ·rename_i s' h' he
   have:(if g.quiet=true then (if g.soft=[] then evQ d g.ops s h else um d g.soft g.ops s h) else evOps d g.ops s h)=some (s',h'):=by
    split at he
    ·rename_i hq;rw [if_pos hq];split at he
     ·rename_i hq2; rw [if_pos hq2]; exact evQ_mono hcd _ _ _ _ he
     ·rename_i hq2; rw [if_neg hq2]; exact yw hcd _ _ _ _ _ he
    ·rename_i hq; rw [if_neg hq]; exact rj hcd _ _ _ _ he
   rw [this]; exact qa hcd l _ _ r hr
  ·simp at hr
theorem rp {f g:St→Option (AExit × St)} (hfg:∀ st,Le (f st) (g st)):∀ (n m:Nat) (st:St),n≤m→Le (loopN f n st) (loopN g m st)
 | 0,_,_,_=>by intro r hr; simp [loopN] at hr
 | n+1,0,_,h=>absurd h (by omega)
 | n+1,m+1,st,h=>by
  intro r hr;simp only [loopN] at hr ⊢;split at hr
  ·rename_i st' he;rw [hfg _ _ he]; exact rp hfg n m st' (by omega) r hr
  ·rename_i hne;rw [hfg _ _ hr];split
   ·rename_i st' he; cases he; exact absurd hr (hne _)
   ·rfl
theorem ko {c d:CallSem} (hcd:CallLe c d) {n m:Nat} (hnm:n≤m):∀ (x:ACode) (st:St),Le (dz c n x st) (dz d m x st):=by
 intro x;induction x with
 | skip=>exact fun _=>Le.refl _
 | region gs=>exact fun st=>Le.map _ (qa hcd _ _ _)
 | seq a b iha ihb =>
  intro st r hr;simp only [dz] at hr ⊢;split at hr
  ·rename_i st' he; rw [iha _ _ he]; exact ihb _ _ hr
  ·rename_i hne;rw [iha _ _ hr];split
   ·rename_i st' he; cases he; exact absurd hr (hne _)
   ·rfl
 | cond c t e iht ihe =>
  intro st r hr;simp only [dz] at hr ⊢;split at hr
  ·exact iht _ _ hr
  ·exact ihe _ _ hr
  ·simp at hr
 | block id a ih =>
  intro st r hr;simp only [dz] at hr ⊢;split at hr
  ·rename_i j st' he; rw [ih _ _ he]; exact hr
  ·rename_i hne;rw [ih _ _ hr];split
   ·rename_i j st' he; cases he; exact absurd hr (hne _ _)
   ·rfl
 | loop a ih=>exact fun st=>rp ih n m st hnm
 | exit id=>exact fun _=>Le.refl _
 | ret=>exact fun _=>Le.refl _
 | live l a ih=>exact fun st=>ih _
 | after a l ih =>
  intro st r hr;simp only [dz] at hr ⊢;split at hr
  ·rename_i st' he; rw [ih _ _ he]; exact hr
  ·rename_i hne;rw [ih _ _ hr];split
   ·rename_i st' he; cases he; exact absurd hr (hne _)
   ·rfl
 | rangeFunc f g caps ps a b _ _ =>
  intro st r hr;simp only [dz] at hr ⊢;split at hr
  ·rename_i fv sl _ _;split at hr
   ·rename_i x h' he
    have:callVal d fv [.yield st.h.size] (st.h.push (.loop g .ready none sl))=some (x,h'):=by
     unfold callVal at he ⊢;split at he
     ·exact hcd _ _ _ _ he
     ·cases he
    rw [this]; exact hr
   ·cases hr
  ·cases hr
 | next d x=>intro st; exact Le.refl _
theorem rq {g i:Nat} {a b:Option (AExit × St)} (hab:Le a b):Le (ku g i a) (ku g i b):=by
 intro r hr;cases a with
 | none=>simp [ku] at hr
 | some x=>rw [hab x rfl]; exact hr
theorem qf {h:Heap} {g i:Nat} {a b:Option (AExit × St)} (hab:Le a b):Le (roundOut h g i a) (roundOut h g i b):=by
 intro r hr;cases a with
 | none=>simp [roundOut] at hr
 | some x=>rw [hab x rfl]; exact hr
theorem wk {c d:CallSem} (hcd:CallLe c d) {n m:Nat} (hnm:n≤m) (g:Nat) (r:ARound) (args:List AVal) (h:Heap):Le (evRound c n g r args h) (evRound d m g r args h):=by
 intro x hx;unfold evRound at hx ⊢;split at hx
 ·split at hx
  ·rename_i h1;rw [if_pos h1];split at hx
   ·split at hx
    ·rename_i st he;rw [rq (ko hcd hnm _ _) _ he];exact qf (ko hcd hnm _ _) _ hx
    ·cases hx
   ·cases hx
  ·cases hx
 ·cases hx
theorem vj {α β:Type} {f g:α→Option (List β)} (hfg:∀ x,Le (f x) (g x)):∀ l:List α,Le (flatL f l) (flatL g l)
 | []=>Le.refl _
 | x :: l=>by
  intro r hr;simp only [flatL] at hr ⊢;split at hr;case h_2=>cases hr
  rename_i a b h1 h2;rw [hfg x a h1,vj hfg l b h2];exact hr
theorem zam {f g:St→Option (List (AExit × St))} (hfg:∀ st,Le (f st) (g st)):∀ (n m:Nat) (st:St),n≤m→Le (loopO f n st) (loopO g m st)
 | 0,m,st,_=>by intro r hr; simp [loopO] at hr
 | n+1,0,st,h=>by omega
 | n+1,m+1,st,h=>by
  intro r hr;simp only [loopO] at hr ⊢;split at hr;case h_2=>cases hr
  rename_i l h1;rw [hfg st l h1];refine vj (fun x=>?_) l r hr;split
  ·exact zam hfg n m _ (by omega)
  ·exact Le.refl _
theorem outs_mono {c d:CallSem} (hcd:CallLe c d) {n m:Nat} (hnm:n≤m):∀ (x:ACode) (st:St),Le (ja c n x st) (ja d m x st):=by
 have base:∀ (x:ACode) (st:St),Le ((dz c n x st).map fun x=>[x]) ((dz d m x st).map fun x=>[x]):=fun x st=>Le.map _ (ko hcd hnm x st)
 intro x;induction x with
 | skip=>exact base _
 | region gs=>exact base _
 | exit id=>exact base _
 | ret=>exact base _
 | rangeFunc f g caps ps a b _ _=>exact base _
 | seq a b iha ihb =>
  intro st r hr;simp only [ja] at hr ⊢;split at hr;case h_2=>cases hr
  rename_i l h1;rw [iha st l h1];refine vj (fun x=>?_) l r hr;split
  ·exact ihb _
  ·exact Le.refl _
 | cond c t e iht ihe =>
  intro st r hr;simp only [ja] at hr ⊢;split at hr
  ·exact iht _ _ hr
  ·exact ihe _ _ hr
  ·cases hr
 | block id a ih=>intro st; simp only [ja]; exact Le.map _ (ih st)
 | loop a ih=>intro st; exact zam ih n m st hnm
 | live l a ih=>intro st; simp only [ja]; exact ih _
 | after a l ih=>intro st; simp only [ja]; exact Le.map _ (ih st)
 | next d x=>intro st; exact Le.refl _
def outcome (f:AFunc) (h:Heap):Option (AExit × St)→Option (AVal × Heap)
 | some (.normal,st) | some (.ret,st)=>(resultsL st.s st.h f.results).map fun vs=>dy h (tupled vs) st.h
 | _=>none
theorem outcome_some (f:AFunc) (h:Heap) (x:AExit × St):outcome f h (some x)=funcEnd f h x:=by obtain ⟨e,st⟩:=x;cases e <;> rfl
theorem evFunc_eq (c:CallSem) (n:Nat) (f:AFunc) (args:List AVal) (h:Heap) (hw:f.wild=false) :
  evFunc c n f args h=if args.length=f.nargs then outcome f h (dz c n f.body ⟨enter 0 args,{ h with wmin:=h.size }⟩) else none:=by
 unfold evFunc;split
 ·rw [hw];simp only [am,if_false];split
  ·rename_i x hx;rw [hx,outcome_some]
  ·rename_i hx;rw [hx]; rfl
 ·rfl
theorem outcome_mono (f:AFunc) (h:Heap) {a b:Option (AExit × St)} (hab:Le a b):Le (outcome f h a) (outcome f h b):=by
 intro r hr;cases a with
 | none=>simp [outcome] at hr
 | some x=>rw [hab x rfl]; exact hr
theorem yx {c d:CallSem} (hcd:CallLe c d) {n m:Nat} (hnm:n≤m) (f:AFunc) (args:List AVal) (h:Heap):Le (evFunc c n f args h) (evFunc d m f args h):=by
 intro r hr;unfold evFunc at hr ⊢;split at hr;case isFalse=>cases hr
 rename_i hl;rw [if_pos hl];split at hr
 ·rename_i hw;rw [if_pos hw];split at hr;case h_2=>cases hr
  rename_i l h1;rw [outs_mono hcd hnm _ _ l h1];exact hr
 ·rename_i hw;rw [if_neg hw];split at hr;case h_2=>cases hr
  rename_i x h1;rw [ko hcd hnm _ _ x h1];exact hr
theorem vk {r r':List AVal→Heap→Option (AVal × Heap)} (hr:∀ args h,Le (r args h) (r' args h)) (c:Bool) (args:List AVal) (h:Heap):Le (wrapC c r args h) (wrapC c r' args h):=by
 cases c with
 | false=>exact hr args h
 | true =>
  intro x hx;simp only [wrapC,evClosed,if_true] at hx ⊢;split at hx
  ·rename_i hu;rw [if_pos hu];split at hx
   ·rename_i v h' he;rw [hr _ _ _ he]; exact hx
   ·cases hx
  ·cases hx
theorem rt (T:Nat→Option AFunc):∀ n,CallLe (fj T n) (fj T (n+1))
 | 0=>by intro g args h r hr; simp [fj] at hr
 | n+1=>by
  intro g args h;simp only [fj];split
  ·split
   ·exact wk (rt T n) (by omega) _ _ _ _
   ·exact Le.refl _
   ·exact vk (fun args h=>yx (rt T n) (by omega) _ _ _) _ _ _
  ·exact Le.refl _
theorem ic (T:Nat→Option AFunc) {n m:Nat} (h:n≤m):CallLe (fj T n) (fj T m):=by
 induction h with
 | refl=>exact CallLe.refl _
 | step _ ih=>exact ih.trans (rt T _)
open Classical in
noncomputable def Lim {α:Type} (F:Nat→Option α):Option α:=if h:∃ r n,F n=some r then some h.choose else none
theorem Lim_iff {α:Type} {F:Nat→Option α} (hF:∀ n m,n≤m→Le (F n) (F m)) (r:α):Lim F=some r ↔ ∃ n,F n=some r:=by
 unfold Lim;constructor
 ·intro h;split at h
  ·rename_i hx;cases h;exact hx.choose_spec
  ·simp at h
 ·rintro ⟨n,hn⟩;have hx:∃ r n,F n=some r:=⟨r,n,hn⟩;rw [dif_pos hx];obtain ⟨m,hm⟩:=hx.choose_spec;have h1:=hF n (n+m) (by omega) _ hn;have h2:=hF m (n+m) (by omega) _ hm;rw [h1] at h2;exact h2.symm
noncomputable def xCall (T:Nat→Option AFunc):CallSem:=fun g args h=>Lim fun n=>fj T n g args h
noncomputable def ir (T:Nat→Option AFunc) (c:ACode) (st:St):Option (AExit × St):=Lim fun n=>dz (fj T n) n c st
section
variable (T:Nat→Option AFunc)
theorem li (g:Nat) (args:List AVal) (h:Heap) (r:AVal × Heap):xCall T g args h=some r ↔ ∃ n,fj T n g args h=some r :=
 Lim_iff (fun _ _ hnm=>ic T hnm g args h) r
theorem el (c:ACode) (st:St) (r:AExit × St):ir T c st=some r ↔ ∃ n,dz (fj T n) n c st=some r :=
 Lim_iff (fun _ _ hnm=>ko (ic T hnm) hnm c st) r
theorem yy (n:Nat):CallLe (fj T n) (xCall T):=fun g args h r hr=>(li T g args h r).2 ⟨n,hr⟩
theorem evOp_lim {dst:Nat} {o:AOp} {s:Slots} {h:Heap} {r} (hr:dm (xCall T) dst o s h=some r):∃ n,dm (fj T n) dst o s h=some r:=by
 cases o with
 | call f args =>
  simp only [dm] at hr ⊢;split at hr
  ·rename_i g first caps as hf ha
   rw [ae] at hr;obtain ⟨x,hx,rfl⟩:=hr;obtain ⟨n,hn⟩:=(li T _ _ _ _).1 hx;exact ⟨n,by rw [hn]; rfl⟩
  ·split at hr
   ·rw [ae] at hr;obtain ⟨x,hx,rfl⟩:=hr;obtain ⟨n,hn⟩:=(li T _ _ _ _).1 hx;exact ⟨n,by rw [hn]; rfl⟩
   ·cases hr
  ·simp at hr
 | callg g args =>
  simp only [dm] at hr ⊢;split at hr
  ·rename_i as ha;rw [ae] at hr;obtain ⟨x,hx,rfl⟩:=hr;obtain ⟨n,hn⟩:=(li T _ _ _ _).1 hx;exact ⟨n,by rw [hn]; rfl⟩
  ·simp at hr
 | _=>exact ⟨0,hr⟩
theorem evRun_lim {o:AOper} {s:Slots} {h:Heap} {r} (hr:evRun (xCall T) o s h=some r):∃ n,evRun (fj T n) o s h=some r:=by
 unfold evRun at hr ⊢;split at hr
 ·rename_i x s' h' he;obtain ⟨n,hn⟩:=evOp_lim T he;exact ⟨n,by rw [hn]; exact hr⟩
 ·simp at hr
theorem ru {o:AOper} {s:Slots} {h:Heap} {r} (hr:ew (xCall T) o s h=some r):∃ n,ew (fj T n) o s h=some r:=by
 unfold ew at hr ⊢;split at hr
 ·exact evRun_lim T hr
 ·split at hr
  ·split at hr
   ·rename_i h1;simp only [if_pos h1];exact evRun_lim T hr
   ·rename_i h1;simp only [if_neg h1];exact ⟨0,hr⟩
  ·exact ⟨0,hr⟩
  ·simp at hr
theorem evOps_lim:∀ {l:List AOper} {s:Slots} {h:Heap} {r},evOps (xCall T) l s h=some r→∃ n,evOps (fj T n) l s h=some r
 | [],_,_,_,hr=>⟨0,hr⟩
 | o :: l,s,h,r,hr=>by
  simp only [evOps] at hr ⊢;split at hr
  ·rename_i s' h' he;obtain ⟨n,hn⟩:=ru T he;obtain ⟨m,hm⟩:=evOps_lim hr;exact ⟨n+m,by rw [ll (ic T (by omega)) _ _ _ _ hn]; exact rj (ic T (by omega)) _ _ _ _ hm⟩
  ·simp at hr
theorem yz:∀ {l:List AOper} {s:Slots} {h:Heap} {r},evQuiet (xCall T) l s h=some r→∃ n,evQuiet (fj T n) l s h=some r
 | [],_,_,_,hr=>⟨0,hr⟩
 | o :: l,s,h,r,hr=>by
  simp only [evQuiet] at hr ⊢;split at hr
  ·rename_i s' h' he;split at hr
   ·rename_i h1;obtain ⟨n,hn⟩:=ru T he;obtain ⟨m,hm⟩:=yz hr;exact ⟨n+m,by rw [ll (ic T (by omega)) _ _ _ _ hn]; simp only; rw [if_pos h1]; exact rk (ic T (by omega)) _ _ _ _ hm⟩
   ·simp at hr
  ·simp at hr
theorem wl:∀ {V:List Nat} {l:List AOper} {s:Slots} {h:Heap} {r},evQuietV (xCall T) V l s h=some r→∃ n,evQuietV (fj T n) V l s h=some r
 | _,[],_,_,_,hr=>⟨0,hr⟩
 | V,o :: l,s,h,r,hr=>by
  simp only [evQuietV] at hr ⊢;split at hr
  ·rename_i s' h' he;split at hr
   ·rename_i h1;obtain ⟨n,hn⟩:=ru T he;obtain ⟨m,hm⟩:=wl hr;exact ⟨n+m,by rw [ll (ic T (by omega)) _ _ _ _ hn]; simp only; rw [if_pos h1]; exact qe (ic T (by omega)) _ _ _ _ _ hm⟩
   ·simp at hr
  ·simp at hr
theorem evQ_lim {l:List AOper} {s:Slots} {h:Heap} {r} (hr:evQ (xCall T) l s h=some r):∃ n,evQ (fj T n) l s h=some r:=by
 unfold evQ at hr ⊢;split at hr
 ·rename_i hq; simp only [if_pos hq]; exact yz T hr
 ·rename_i hq; simp only [if_neg hq];split at hr
  ·rename_i hl; simp only [if_pos hl]; exact wl T hr
  ·cases hr
theorem openOne_lim {n0 m:Nat} {ds:List Did} {o:AOper} {s:Slots} {h:Heap} {r} (hr:lg (xCall T) n0 m ds o s h=some r):∃ n,lg (fj T n) n0 m ds o s h=some r:=by
 unfold lg at hr ⊢;split at hr
 ·cases hr
 ·rename_i h1;simp only [if_neg h1];split at hr
  ·rename_i h2;simp only [if_pos h2];split at hr
   ·cases hr
   ·rename_i s' h' he;obtain ⟨n,hn⟩:=ru T he;exact ⟨n,by rw [hn]; exact hr⟩
  ·rename_i h2;simp only [if_neg h2];exact ⟨0,hr⟩
theorem y6 {n0:Nat}:∀ {ops:List AOper} {ms:List Nat} {ds:List Did} {s:Slots} {h:Heap} {r},jb (xCall T) n0 ms ops ds s h=some r→∃ n,jb (fj T n) n0 ms ops ds s h=some r
 | [],_,_,_,_,_,hr=>⟨0,by simp only [jb] at hr ⊢; exact hr⟩
 | o :: l,ms,ds,s,h,r,hr=>by
  simp only [jb] at hr ⊢;split at hr
  ·rename_i y h' x he;split at hr
   ·rename_i h1;obtain ⟨n,hn⟩:=openOne_lim T he;obtain ⟨m,hm⟩:=y6 hr;exact ⟨n+m,by rw [wj (ic T (by omega)) _ _ _ _ _ _ _ hn]; simp only; rw [if_pos h1]; exact rn (ic T (by omega)) _ _ _ _ _ _ _ hm⟩
   ·cases hr
  ·cases hr
def evSeg (call:CallSem) (g:Seg) (s:Slots) (h:Heap):Option (Slots × Heap) :=
 if g.quiet then (if g.soft=[] then evQ call g.ops s h else um call g.soft g.ops s h) else evOps call g.ops s h
theorem evSeg_mono {c d:CallSem} (hcd:CallLe c d) (g:Seg) (s:Slots) (h:Heap):Le (evSeg c g s h) (evSeg d g s h):=by
 unfold evSeg;split
 ·split
  ·exact evQ_mono hcd _ _ _
  ·exact yw hcd _ _ _ _
 ·exact rj hcd _ _ _
theorem zan:∀ {l:List Seg} {s:Slots} {h:Heap} {r},j8 (xCall T) l s h=some r→∃ n,j8 (fj T n) l s h=some r
 | [],_,_,_,hr=>⟨0,hr⟩
 | g :: l,s,h,r,hr=>by
  simp only [j8] at hr ⊢;split at hr
  ·rename_i s' h' he
   have hx:∃ n,evSeg (fj T n) g s h=some (s',h'):=by
    unfold evSeg;split at he
    ·rename_i hq;simp only [if_pos hq];split at he
     ·rename_i hq2; simp only [if_pos hq2]; exact evQ_lim T he
     ·rename_i hq2; simp only [if_neg hq2]; exact y6 T he
    ·rename_i hq; simp only [if_neg hq]; exact evOps_lim T he
   obtain ⟨n,hn⟩:=hx;obtain ⟨m,hm⟩:=zan hr;refine ⟨n+m,?_⟩;have:evSeg (fj T (n+m)) g s h=some (s',h'):=evSeg_mono (ic T (by omega)) _ _ _ _ hn;unfold evSeg at this;rw [this]; exact qa (ic T (by omega)) _ _ _ _ hm
  ·simp at hr
theorem lift {c:ACode} {st:St} {r} {n m:Nat} (h:dz (fj T n) n c st=some r) (hnm:n≤m):dz (fj T m) m c st=some r :=
 ko (ic T hnm) hnm c st r h
theorem xCode_skip (st:St):ir T .skip st=some (.normal,st):=(el T _ _ _).2 ⟨0,rfl⟩
theorem xCode_exit (id:Nat) (st:St):ir T (.exit id) st=some (.exit id,st):=(el T _ _ _).2 ⟨0,rfl⟩
theorem xCode_ret (st:St):ir T .ret st=some (.ret,st):=(el T _ _ _).2 ⟨0,rfl⟩
theorem wn (gs:List Seg) (st:St):ir T (.region gs) st=(j8 (xCall T) gs st.s st.h).map fun (s,h)=>(.normal,⟨s,h⟩):=by
 apply Option.ext;intro r;rw [el];constructor
 ·rintro ⟨n,hn⟩; exact Le.map _ (qa (yy T n) _ _ _) r hn
 ·intro h;rw [ae] at h;obtain ⟨x,hx,rfl⟩:=h;obtain ⟨n,hn⟩:=zan T hx;exact ⟨n,by simp only [dz]; rw [hn]; rfl⟩
theorem xCode_seq (a b:ACode) (st:St):ir T (.seq a b) st=match ir T a st with
  | some (.normal,st')=>ir T b st'
  | r=>r:=by
 apply Option.ext;intro r;rw [el];constructor
 ·rintro ⟨n,hn⟩;simp only [dz] at hn;split at hn
  ·rename_i st' he;rw [(el T _ _ _).2 ⟨n,he⟩]; exact (el T _ _ _).2 ⟨n,hn⟩
  ·rename_i hne;rw [(el T _ _ _).2 ⟨n,hn⟩];split
   ·rename_i st' he; cases he; exact absurd hn (hne _)
   ·rfl
 ·intro h;split at h
  ·rename_i st' he;obtain ⟨n,hn⟩:=(el T _ _ _).1 he;obtain ⟨m,hm⟩:=(el T _ _ _).1 h;refine ⟨n+m,?_⟩;simp only [dz];rw [lift T hn (by omega)]; exact lift T hm (by omega)
  ·rename_i hne;obtain ⟨n,hn⟩:=(el T _ _ _).1 h;refine ⟨n,?_⟩;simp only [dz];rw [hn];split
   ·rename_i st' he; cases he; exact absurd h (hne _)
   ·rfl
theorem zao (c:Opd) (t e:ACode) (st:St):ir T (.cond c t e) st=match c.ev st.s with
  | some (.bool true)=>ir T t st
  | some (.bool false)=>ir T e st
  | _=>none:=by
 apply Option.ext;intro r;rw [el];simp only [dz];split
 ·rename_i he; rw [he]; exact (el T _ _ _).symm
 ·rename_i he; rw [he]; exact (el T _ _ _).symm
 ·rename_i h1 h2;split
  ·rename_i he; exact absurd he h1
  ·rename_i he; exact absurd he h2
  ·simp
theorem y7 (id:Nat) (c:ACode) (st:St):ir T (.block id c) st=match ir T c st with
  | some (.exit j,st')=>if j=id then some (.normal,st') else some (.exit j,st')
  | r=>r:=by
 apply Option.ext;intro r;rw [el];constructor
 ·rintro ⟨n,hn⟩;simp only [dz] at hn;split at hn
  ·rename_i j st' he;rw [(el T _ _ _).2 ⟨n,he⟩]; exact hn
  ·rename_i hne;rw [(el T _ _ _).2 ⟨n,hn⟩];split
   ·rename_i st' he; cases he; exact absurd hn (hne _ _)
   ·rfl
 ·intro h;split at h
  ·rename_i j st' he;obtain ⟨n,hn⟩:=(el T _ _ _).1 he;refine ⟨n,?_⟩;simp only [dz];rw [hn]; exact h
  ·rename_i hne;obtain ⟨n,hn⟩:=(el T _ _ _).1 h;refine ⟨n,?_⟩;simp only [dz];rw [hn];split
   ·rename_i st' he; cases he; exact absurd h (hne _ _)
   ·rfl
theorem zap (l:List Nat) (c:ACode) (st:St):ir T (.live l c) st=ir T c ⟨keep l st.s,st.h⟩:=rfl
theorem y8 (c:ACode) (l:List Nat) (st:St):ir T (.after c l) st=match ir T c st with
  | some (.normal,st')=>some (.normal,⟨keep l st'.s,st'.h⟩)
  | r=>r:=by
 apply Option.ext;intro r;rw [el];constructor
 ·rintro ⟨n,hn⟩;simp only [dz] at hn;split at hn
  ·rename_i st' he;rw [(el T _ _ _).2 ⟨n,he⟩]; exact hn
  ·rename_i hne;rw [(el T _ _ _).2 ⟨n,hn⟩];split
   ·rename_i st' he; cases he; exact absurd hn (hne _)
   ·rfl
 ·intro h;split at h
  ·rename_i st' he;obtain ⟨n,hn⟩:=(el T _ _ _).1 he;refine ⟨n,?_⟩;simp only [dz];rw [hn]; exact h
  ·rename_i hne;obtain ⟨n,hn⟩:=(el T _ _ _).1 h;refine ⟨n,?_⟩;simp only [dz];rw [hn];split
   ·rename_i st' he; cases he; exact absurd h (hne _)
   ·rfl
theorem vl (c:ACode) (st:St):ir T (.loop c) st=match ir T c st with
  | some (.normal,st')=>ir T (.loop c) st'
  | r=>r:=by
 apply Option.ext;intro r;rw [el];constructor
 ·rintro ⟨n,hn⟩;cases n with
  | zero=>simp [dz,loopN] at hn
  | succ n =>
   simp only [dz,loopN] at hn;split at hn
   ·rename_i st' he;rw [(el T _ _ _).2 ⟨n+1,he⟩];refine (el T _ _ _).2 ⟨n+1,?_⟩;exact rp (fun _=>Le.refl _) n (n+1) st' (by omega) r hn
   ·rename_i hne;rw [(el T _ _ _).2 ⟨n+1,hn⟩];split
    ·rename_i st' he; cases he; exact absurd hn (hne _)
    ·rfl
 ·intro h;split at h
  ·rename_i st' he;obtain ⟨n,hn⟩:=(el T _ _ _).1 he;obtain ⟨m,hm⟩:=(el T _ _ _).1 h;refine ⟨n+m+1,?_⟩;simp only [dz,loopN];rw [lift T hn (by omega)];exact rp (fun st=>ko (ic T (by omega)) (by omega) c st) m (n+m) st' (by omega) r hm
  ·rename_i hne;obtain ⟨n,hn⟩:=(el T _ _ _).1 h;refine ⟨n+1,?_⟩;simp only [dz,loopN];rw [lift T hn (by omega)];split
   ·rename_i st' he; cases he; exact absurd h (hne _)
   ·rfl
theorem zu (f:Opd) (g:Nat) (caps ps:List Nat) (a b:ACode) (st:St):ir T (.rangeFunc f g caps ps a b) st=match f.ev st.s,capsOf st.s caps with
  | some fv,some sl=>match callVal (xCall T) fv [.yield st.h.size] (st.h.push (.loop g .ready none sl)) with
   | some (_,h')=>loopEnd st.s h' st.h.size
   | none=>none
  | _,_=>none:=by
 apply Option.ext;intro r;rw [el]
 have le:∀ {c d:CallSem},CallLe c d→∀ f as h,Le (callVal c f as h) (callVal d f as h):=by
  intro c d hcd f as h x hx;unfold callVal at hx ⊢;split at hx
  ·exact hcd _ _ _ _ hx
  ·cases hx
 constructor
 ·rintro ⟨n,hn⟩;simp only [dz] at hn;split at hn
  ·rename_i fv sl h1 h2;rw [h1,h2];simp only;split at hn
   ·rename_i x h' he;rw [le (yy T n) _ _ _ _ he]; exact hn
   ·cases hn
  ·cases hn
 ·intro h;split at h
  ·rename_i fv sl h1 h2;split at h
   ·rename_i x h' he
    have:∃ n,callVal (fj T n) fv [.yield st.h.size] (st.h.push (.loop g .ready none sl))=some (x,h'):=by
     unfold callVal at he ⊢;split at he
     ·exact (li T _ _ _ _).1 he
     ·cases he
    obtain ⟨n,hn⟩:=this;exact ⟨n,by simp only [dz,h1,h2,hn]; exact h⟩
   ·cases h
  ·cases h
noncomputable def xFunc (f:AFunc) (args:List AVal) (h:Heap):Option (AVal × Heap) :=
 if args.length=f.nargs then outcome f h (ir T f.body ⟨enter 0 args,{ h with wmin:=h.size }⟩) else none
theorem uq (f:AFunc) (args:List AVal) (h:Heap) (r:AVal × Heap) (hw:f.wild=false):xFunc T f args h=some r ↔ ∃ n,evFunc (fj T n) n f args h=some r:=by
 unfold xFunc;constructor
 ·intro h1;split at h1
  ·rename_i hl;cases hx:ir T f.body ⟨enter 0 args,{ h with wmin:=h.size }⟩ with
   | none=>rw [hx] at h1; simp [outcome] at h1
   | some x =>
    obtain ⟨n,hn⟩:=(el T _ _ _).1 hx;refine ⟨n,?_⟩;rw [evFunc_eq _ _ _ _ _ hw,if_pos hl,hn,← hx]; exact h1
  ·simp at h1
 ·rintro ⟨n,hn⟩;rw [evFunc_eq _ _ _ _ _ hw] at hn;split at hn
  ·rename_i hl;rw [if_pos hl];exact outcome_mono _ _ (fun r hr=>(el T _ _ _).2 ⟨n,hr⟩) r hn
  ·simp at hn
theorem ea {g:Nat} {f:AFunc} (hT:T g=some f) (args:List AVal) (h:Heap) (hr:f.round=none:=by rfl) (hw:f.wild=false:=by rfl):xCall T g args h=wrapC f.closed (xFunc T f) args h:=by
 apply Option.ext;intro r;rw [li];constructor
 ·rintro ⟨n,hn⟩;cases n with
  | zero=>simp [fj] at hn
  | succ n =>
   simp only [fj,hT,hr] at hn;exact vk (fun args h r hr=>(uq T f args h r hw).2 ⟨n,hr⟩) _ _ _ _ hn
 ·intro h1
  have key:∃ n,wrapC f.closed (evFunc (fj T n) n f) args h=some r:=by
   cases hc:f.closed with
   | false =>
    rw [hc] at h1;exact (uq T f args h r hw).1 h1
   | true =>
    rw [hc] at h1;simp only [wrapC,evClosed,if_true] at h1 ⊢;split at h1
    ·rename_i hu;split at h1
     ·rename_i v h' he;obtain ⟨n,hn⟩:=(uq T f args _ _ hw).1 he;refine ⟨n,?_⟩;rw [if_pos hu,hn]; exact h1
     ·cases h1
    ·cases h1
  obtain ⟨n,hn⟩:=key;refine ⟨n+1,?_⟩;simp only [fj,hT,hr]; exact hn
noncomputable def xRound (g:Nat) (r:ARound) (args:List AVal) (h:Heap):Option (AVal × Heap) :=
 match args with
 | .ptr (some (i,_)) :: as =>
  if as.length=r.params.length∧h.base≤i then match kk i r.params as h with
   | some s=>match ku g i (ir T r.assign ⟨s,{ h with wmin:=h.size }⟩) with
    | some st=>roundOut h g i (ir T r.body st)
    | none=>none
   | none=>none
  else none
 | _=>none
theorem xRound_eq {g:Nat} {f:AFunc} {rd:ARound} (hT:T g=some f) (hr:f.round=some (.round rd)) (args:List AVal) (h:Heap):xCall T g args h=xRound T g rd args h:=by
 apply Option.ext;intro r;rw [li];constructor
 ·rintro ⟨n,hn⟩;cases n with
  | zero=>simp [fj] at hn
  | succ n =>
   simp only [fj,hT,hr] at hn;unfold evRound at hn;unfold xRound;split at hn
   ·simp only;split at hn
    ·rename_i h1;rw [if_pos h1];split at hn
     ·rename_i hs;rw [hs];simp only;split at hn
      ·rename_i st he;rw [rq (fun x hx=>(el T _ _ _).2 ⟨n,hx⟩) _ he];exact qf (fun x hx=>(el T _ _ _).2 ⟨n,hx⟩) _ hn
      ·cases hn
     ·cases hn
    ·cases hn
   ·cases hn
 ·intro h1;unfold xRound at h1;split at h1
  ·rename_i i k as;split at h1
   ·rename_i hl;split at h1
    ·rename_i s hs;split at h1
     ·rename_i st he
      have e1:∃ n,ku g i (dz (fj T n) n rd.assign ⟨s,{ h with wmin:=h.size }⟩)=some st:=by
       cases hx:ir T rd.assign ⟨s,{ h with wmin:=h.size }⟩ with
       | none=>rw [hx] at he; simp [ku] at he
       | some x =>
        obtain ⟨n,hn⟩:=(el T _ _ _).1 hx;exact ⟨n,by rw [hn,← hx]; exact he⟩
      have e2:∃ n,roundOut h g i (dz (fj T n) n rd.body st)=some r:=by
       cases hx:ir T rd.body st with
       | none=>rw [hx] at h1; simp [roundOut] at h1
       | some x =>
        obtain ⟨n,hn⟩:=(el T _ _ _).1 hx;exact ⟨n,by rw [hn,← hx]; exact h1⟩
      obtain ⟨n,hn⟩:=e1;obtain ⟨m,hm⟩:=e2;refine ⟨n+m+1,?_⟩;simp only [fj,hT,hr,evRound,if_pos hl,hs];rw [rq (ko (ic T (show n≤n+m by omega)) (show n≤n+m by omega) _ _) _ hn];exact qf (ko (ic T (show m≤n+m by omega)) (show m≤n+m by omega) _ _) _ hm
     ·cases h1
    ·cases h1
   ·cases h1
  ·cases h1
end
end Go.Abs

namespace Go.Abs
theorem AVal.eqb_eq:∀ n,(∀ a b:AVal,SizeOf.sizeOf a < n→a.eqb b=true→a=b)∧∀ l m:List AVal,SizeOf.sizeOf l < n→AVal.eqbL l m=true→l=m:=by
 intro n;induction n with
 | zero=>exact ⟨fun a _ h=>absurd h (Nat.not_lt_zero _),fun l _ h=>absurd h (Nat.not_lt_zero _)⟩
 | succ n ih =>
  constructor
  ·intro a b h e;cases a <;> cases b <;> simp only [AVal.eqb,av,decide_eq_true_eq,beq_iff_eq,am] at e
   ·rw [e]
   ·rw [e.1,e.2]
   ·rw [e]
   ·rw [e]
   ·rw [e.1.1,e.1.2,e.2]
   ·rw [e]
   ·simp at h;rw [e.1.1,ih.2 _ _ (by omega) e.1.2,ih.2 _ _ (by omega) e.2]
   ·rfl
   ·simp at h;rw [e.1,ih.1 _ _ (by omega) e.2]
   ·rfl
   ·simp at h;rw [ih.2 _ _ (by omega) e]
   ·simp at h;rw [ih.2 _ _ (by omega) e]
   ·rw [e]
  ·intro l m h e;cases l <;> cases m <;> simp only [AVal.eqbL,av,am] at e
   ·rfl
   ·simp at h;rw [ih.1 _ _ (by omega) e.1,ih.2 _ _ (by omega) e.2]
theorem AVal.eq_of {a b:AVal} (h:a.eqb b=true):a=b:=(AVal.eqb_eq (SizeOf.sizeOf a+1)).1 a b (Nat.lt_succ_self _) h
theorem AVal.eqL_of {a b:List AVal} (h:AVal.eqbL a b=true):a=b:=(AVal.eqb_eq (SizeOf.sizeOf a+1)).2 a b (Nat.lt_succ_self _) h
theorem cellEq_of {a b:AObj} (h:cellEqb a b=true):a=b:=by
 cases a <;> cases b <;> simp only [cellEqb,am,av,decide_eq_true_eq] at h
 rw [h.1,AVal.eqL_of h.2]
theorem sameAt_eq {A B:List AObj} {i:Nat} (h:sameAt A B i=true):B[i]? = A[i]?:=by
 unfold sameAt at h;split at h
 ·rename_i a b h1 h2;rw [h1,h2,cellEq_of h]
 ·cases h
end Go.Abs

namespace Go.Abs
structure M where
 blk:Nat
 base:Nat
 size:Nat
 esz:Nat
abbrev MM:=List (Option M)
def ARel (μ:MM) (i o:Nat) (a:Addr):Prop:=∃ x,μ[i]? = some x∧∀ m,x=some m→a=⟨m.blk,m.base+o,none⟩
mutual
def VRel (E:Env) (μ:MM):AVal→Value→Prop
 | .bool b,v=>v = .bool b
 | .int k n,v=>v = .int k n
 | .str s,v=>v = .string ⟨s.toArray⟩
 | .ptr none,v=>v = .pointer none
 | .ptr (some (i,o)),v=>∃ a,v = .pointer (some a)∧ARel μ i o a
 | .slice none n c,v=>n=0∧c=some 0∧v = .slice none 0 0
 | .slice (some (i,o)) n c,v=>∃ a cap,v = .slice (some a) n cap∧(i < μ.length∧cap≤9223372036854775807)∧(0 < cap→ARel μ i o a)∧(∀ k,c=some k→cap=k)∧n≤cap ∧
   (∀ m,μ[i]? = some (some m)→m.base+o+cap*m.esz≤m.size)
 | .map none,v=>v = .map none
 | .map (some i),v=>∃ b x,v = .map (some b)∧μ[i]? = some x∧∀ m,x=some m→b=m.blk
 | .func g f c,v=>∃ fid f' c',v = .func (.func fid) f' c'∧E.gid fid=some g∧VRels E μ f f'.toList∧VRels E μ c c'.toList
 | .nilFunc,v=>v = .nilFunc
 | .iface _ _,_=>False
 | .nilIface,v=>v = .nilIface
 | .agg cs,v=>∃ cs',v = .agg cs'∧VRels E μ cs cs'.toList∧∀ x ∈ cs,x.isOne=true
 | .tuple vs,v=>∃ vs',v = .tuple vs'∧VRels E μ vs vs'.toList
 | .yield i,v=>∃ l x,v = .func (.yield l) #[] #[]∧μ[i]? = some x∧∀ m,x=some m→l=m.blk
def VRels (E:Env) (μ:MM):List AVal→List Value→Prop
 | [],l=>l=[]
 | a :: as,l=>∃ v r,l=v :: r∧VRel E μ a v∧VRels E μ as r
end
section
variable {E:Env} {μ μ':MM}
theorem VRels.length:∀ {as:List AVal} {l:List Value},VRels E μ as l→as.length=l.length
 | [],l,h=>by simp only [VRels] at h; subst h; rfl
 | a :: as,l,h=>by simp only [VRels] at h;obtain ⟨v,r,rfl,_,h2⟩:=h;simp [VRels.length h2]
theorem VRels.get:∀ {as:List AVal} {l:List Value},VRels E μ as l→∀ {k:Nat} {a:AVal},as[k]? = some a→∃ v,l[k]? = some v∧VRel E μ a v
 | [],l,_,k,a,hk=>by simp at hk
 | x :: as,l,h,0,a,hk=>by simp only [VRels] at h;obtain ⟨v,r,rfl,h1,_⟩:=h;simp at hk; subst hk;exact ⟨v,rfl,h1⟩
 | x :: as,l,h,k+1,a,hk=>by simp only [VRels] at h;obtain ⟨v,r,rfl,_,h2⟩:=h;simp at hk;obtain ⟨u,hu,hr⟩:=VRels.get h2 hk;exact ⟨u,by simpa using hu,hr⟩
theorem VRels.of:∀ {as:List AVal} {l:List Value},as.length=l.length→(∀ (k:Nat) (a:AVal),as[k]? = some a→∃ v:Value,l[k]? = some v∧VRel E μ a v)→VRels E μ as l
 | [],l,h,_=>by simp only [VRels];exact bq (by simpa using h.symm)
 | a :: as,[],h,_=>by simp at h
 | a :: as,v :: l,h,hk=>by
  simp only [VRels];refine ⟨v,l,rfl,?_,VRels.of (by simpa using h) fun k a' hka=>?_⟩
  ·obtain ⟨u,hu,hr⟩:=hk 0 a rfl;simp at hu; subst hu; exact hr
  ·obtain ⟨u,hu,hr⟩:=hk (k+1) a' (by simpa using hka);exact ⟨u,by simpa using hu,hr⟩
theorem VRels.append {as bs:List AVal} {l r:List Value} (h1:VRels E μ as l) (h2:VRels E μ bs r):VRels E μ (as++bs) (l++r):=by
 induction as generalizing l with
 | nil=>simp only [VRels] at h1; subst h1; simpa using h2
 | cons a as ih =>
  simp only [VRels] at h1;obtain ⟨v,t,rfl,hv,ht⟩:=h1;simp only [bl,VRels];exact ⟨v,t++r,rfl,hv,ih ht⟩
structure Later (μ μ':MM):Prop where
 len:μ.length≤μ'.length
 old:∀ i,i < μ.length→μ'[i]? = μ[i]?∨μ'[i]? = some none
theorem Later.refl (μ:MM):Later μ μ:=⟨ai _,fun _ _=>.inl rfl⟩
theorem aj {α:Type} {l:List α} {i:Nat} {x:α} (h:l[i]? = some x):i < l.length:=by
 rcases bi i l.length with h1 | h1
 ·exact h1
 ·rw [dc h1] at h; cases h
theorem Later.get (h:Later μ μ') {i:Nat} {x:Option M} (hi:μ[i]? = some x):μ'[i]? = some x∨μ'[i]? = some none:=by
 rcases h.old i (aj hi) with h1 | h1
 ·exact .inl (h1.trans hi)
 ·exact .inr h1
theorem Later.back (h:Later μ μ') {i:Nat} {m:M} (hl:i < μ.length) (hi:μ'[i]? = some (some m)):μ[i]? = some (some m):=by
 rcases h.old i hl with h1 | h1
 ·exact h1.symm.trans hi
 ·rw [hi] at h1; cases h1
theorem ARel.later (h:Later μ μ') {i o:Nat} {a:Addr} (ha:ARel μ i o a):ARel μ' i o a:=by
 obtain ⟨x,hx,hm⟩:=ha;rcases h.get hx with h1 | h1
 ·exact ⟨x,h1,hm⟩
 ·exact ⟨none,h1,fun m hm=>by cases hm⟩
mutual
theorem VRel.later (h:Later μ μ'):∀ {a:AVal} {v:Value},VRel E μ a v→VRel E μ' a v
 | .bool b,v,hv=>by simpa only [VRel] using hv
 | .int k n,v,hv=>by simpa only [VRel] using hv
 | .str s,v,hv=>by simpa only [VRel] using hv
 | .ptr none,v,hv=>by simpa only [VRel] using hv
 | .ptr (some (i,o)),v,hv=>by simp only [VRel] at hv ⊢;obtain ⟨a,ha,hr⟩:=hv;exact ⟨a,ha,hr.later h⟩
 | .slice none n c,v,hv=>by simpa only [VRel] using hv
 | .slice (some (i,o)) n c,v,hv=>by simp only [VRel] at hv ⊢;obtain ⟨a,cap,ha,hi,hr,h1,h2,h3⟩:=hv;exact ⟨a,cap,ha,⟨gl hi.1 h.len,hi.2⟩,fun hc=>(hr hc).later h,h1,h2,fun m hm=>h3 m (h.back hi.1 hm)⟩
 | .map none,v,hv=>by simpa only [VRel] using hv
 | .map (some i),v,hv=>by
  simp only [VRel] at hv ⊢;obtain ⟨b,x,ha,hx,hm⟩:=hv;rcases h.get hx with h1 | h1
  ·exact ⟨b,x,ha,h1,hm⟩
  ·exact ⟨b,none,ha,h1,fun m hm=>by cases hm⟩
 | .func g f c,v,hv=>by simp only [VRel] at hv ⊢;obtain ⟨fid,f',c',e,hg,h1,h2⟩:=hv;exact ⟨fid,f',c',e,hg,VRels.later h h1,VRels.later h h2⟩
 | .nilFunc,v,hv=>by simpa only [VRel] using hv
 | .iface _ _,v,hv=>by simp only [VRel] at hv
 | .nilIface,v,hv=>by simpa only [VRel] using hv
 | .agg cs,v,hv=>by simp only [VRel] at hv ⊢;obtain ⟨cs',e,h1,h2⟩:=hv;exact ⟨cs',e,VRels.later h h1,h2⟩
 | .tuple vs,v,hv=>by simp only [VRel] at hv ⊢;obtain ⟨cs',e,h1⟩:=hv;exact ⟨cs',e,VRels.later h h1⟩
 | .yield i,v,hv=>by
  simp only [VRel] at hv ⊢;obtain ⟨b,x,ha,hx,hm⟩:=hv;rcases h.get hx with h1 | h1
  ·exact ⟨b,x,ha,h1,hm⟩
  ·exact ⟨b,none,ha,h1,fun m hm=>by cases hm⟩
theorem VRels.later (h:Later μ μ'):∀ {as:List AVal} {l:List Value},VRels E μ as l→VRels E μ' as l
 | [],l,hl=>by simpa only [VRels] using hl
 | a :: as,l,hl=>by simp only [VRels] at hl ⊢;obtain ⟨v,r,e,h1,h2⟩:=hl;exact ⟨v,r,e,VRel.later h h1,VRels.later h h2⟩
end
theorem toA1_rel {v:Value} {a:AVal} (h:toA1 v=some a) (μ:MM):VRel E μ a v∧a.isOne=true:=by unfold toA1 at h;split at h <;> cases h <;> simp [VRel,AVal.isOne]
theorem t8:∀ {l:List Value} {as:List AVal},toAs l=some as→∀ μ:MM,VRels E μ as l∧∀ x ∈ as,x.isOne=true
 | [],as,h,μ=>by simp only [toAs] at h; cases h; simp [VRels]
 | v :: r,as,h,μ=>by
  simp only [toAs] at h;split at h
  ·rename_i a as' h1 h2;cases h;obtain ⟨k1,k2⟩:=toA1_rel (E:=E) h1 μ;obtain ⟨k3,k4⟩:=t8 h2 μ;refine ⟨?_,?_⟩
   ·simp only [VRels]; exact ⟨v,r,rfl,k1,k3⟩
   ·intro x hx;rcases br.1 hx with rfl | hx
    ·exact k2
    ·exact k4 x hx
  ·simp at h
theorem toA_rel {v:Value} {a:AVal} (h:toA v=some a) (μ:MM):VRel E μ a v:=by
 unfold toA at h;split at h
 ·rename_i cs;rw [ae] at h;obtain ⟨as,h1,rfl⟩:=h;obtain ⟨k1,k2⟩:=t8 (E:=E) h1 μ;simp only [VRel];exact ⟨cs,rfl,k1,k2⟩
 ·exact (toA1_rel h μ).1
theorem qw {a:AVal} {v:Value} {as:List AVal} (h:VRel E μ a v) (hc:a.cells? = some as) :
  VRels E μ as v.cells.toList∧∀ x ∈ as,x.isOne=true:=by
 have one:∀ {a:AVal} {v:Value},a.isOne=true→v.cells = #[v]→VRel E μ a v→VRels E μ [a] v.cells.toList∧∀ x ∈ [a],x.isOne=true:=by
  intro a v h1 h2 h3;rw [h2];refine ⟨?_,?_⟩
  ·simp only [VRels]; exact ⟨v,[],rfl,h3,rfl⟩
  ·intro x hx; rw [d9] at hx; subst hx; exact h1
 cases a with
 | agg cs =>
  simp only [AVal.cells?] at hc; cases hc;simp only [VRel] at h;obtain ⟨cs',rfl,h1,h2⟩:=h;exact ⟨h1,h2⟩
 | tuple vs=>simp [AVal.cells?] at hc
 | iface t x=>simp only [VRel] at h
 | bool b=>simp only [AVal.cells?] at hc; cases hc; exact one rfl (by simp only [VRel] at h; subst h; rfl) h
 | int k n=>simp only [AVal.cells?] at hc; cases hc; exact one rfl (by simp only [VRel] at h; subst h; rfl) h
 | str s=>simp only [AVal.cells?] at hc; cases hc; exact one rfl (by simp only [VRel] at h; subst h; rfl) h
 | yield i=>simp only [AVal.cells?] at hc; cases hc; exact one rfl (by simp only [VRel] at h; obtain ⟨_,_,rfl,_⟩:=h; rfl) h
 | nilFunc=>simp only [AVal.cells?] at hc; cases hc; exact one rfl (by simp only [VRel] at h; subst h; rfl) h
 | nilIface=>simp only [AVal.cells?] at hc; cases hc; exact one rfl (by simp only [VRel] at h; subst h; rfl) h
 | ptr a =>
  simp only [AVal.cells?] at hc; cases hc;refine one rfl ?_ h;cases a with
  | none=>simp only [VRel] at h; subst h; rfl
  | some p=>simp only [VRel] at h; obtain ⟨_,rfl,_⟩:=h; rfl
 | slice a n c =>
  simp only [AVal.cells?] at hc; cases hc;refine one rfl ?_ h;cases a with
  | none=>simp only [VRel] at h; obtain ⟨_,_,rfl⟩:=h; rfl
  | some p=>simp only [VRel] at h; obtain ⟨_,_,rfl,_⟩:=h; rfl
 | map a =>
  simp only [AVal.cells?] at hc; cases hc;refine one rfl ?_ h;cases a with
  | none=>simp only [VRel] at h; subst h; rfl
  | some p=>simp only [VRel] at h; obtain ⟨_,_,rfl,_⟩:=h; rfl
 | func g f c =>
  simp only [AVal.cells?] at hc; cases hc;refine one rfl ?_ h;simp only [VRel] at h; obtain ⟨_,_,_,rfl,_⟩:=h; rfl
theorem one_rel {a:AVal} {v:Value} (h:VRel E μ a v) (hc:a.isOne=true):¬ (∃ x,v = .agg x)∧¬ (∃ x,v = .tuple x):=by
 cases a with
 | agg cs=>simp [AVal.isOne] at hc
 | tuple vs=>simp [AVal.isOne] at hc
 | iface t x=>simp only [VRel] at h
 | ptr a=>cases a <;> simp only [VRel] at h <;> (first | (subst h; simp) | (obtain ⟨_,rfl,_⟩:=h; simp))
 | slice a n c=>cases a <;> simp only [VRel] at h <;> (first | (obtain ⟨_,_,rfl⟩:=h; simp) | (obtain ⟨_,_,rfl,_⟩:=h; simp))
 | map a=>cases a <;> simp only [VRel] at h <;> (first | (subst h; simp) | (obtain ⟨_,_,rfl,_⟩:=h; simp))
 | func g f c=>simp only [VRel] at h; obtain ⟨_,_,_,rfl,_⟩:=h; simp
 | yield i=>simp only [VRel] at h; obtain ⟨_,_,rfl,_⟩:=h; simp
 | _=>simp only [VRel] at h; subst h; simp
end
def CRel (E:Env) (μ:MM) (cs:List AVal) (c:Array Value) (base:Nat):Prop :=
 ∀ (k:Nat) (v:AVal),cs[k]? = some v→v.isOne=true∧∃ v':Value,c[base+k]? = some v'∧VRel E μ v v'
def Free (k:Nat) (fr:Nat × Nat) (n:Nat):Prop:=∀ off,off < n+k→¬ (fr.1≤off∧off < fr.2)
theorem Free.lt {k:Nat} {fr:Nat × Nat} {n:Nat} (h:Free k fr n):∀ off,off < n→¬ (fr.1≤off∧off < fr.2):=fun off ho=>h off (by omega)
def LoopSt.is:LoopSt→LoopState→Prop
 | .ready,s=>s = .ready
 | .busy,s=>s = .busy
 | .done,s=>s = .done
def AExit.code:AExit→Code
 | .normal=>.skip
 | .exit id=>.exit id
 | .ret=>.ret
structure LoopRel (E:Env) (μ:MM) (g:Nat) (st:LoopSt) (p:Option AExit) (sl:List (Nat × AVal)) (r:Loop):Prop where
 code:∃ (ar:ARound) (ha hb:Hint),E.rnd g=some ar∧r.params.toList=ar.params∧(∀ t ∈ ar.params,t < r.tmps.size)∧jf E r.tmps.size true ha r.assign=some ar.assign∧jf E r.tmps.size true hb r.body=some ar.body
 st:st.is r.state
 pend:r.pending=p.map AExit.code
 slots:∀ (k:Nat) (x:Nat × AVal),sl[k]? = some x→∃ v',r.tmps[x.1]? = some v'∧VRel E μ x.2 v'
theorem LoopRel.later {E:Env} {μ μ':MM} {g:Nat} {st:LoopSt} {p:Option AExit} {sl:List (Nat × AVal)} {r:Loop} (hl:Later μ μ') (h:LoopRel E μ g st p sl r):LoopRel E μ' g st p sl r :=
 ⟨h.code,h.st,h.pend,fun k x hk=>by obtain ⟨v',h1,h2⟩:=h.slots k x hk; exact ⟨v',h1,h2.later hl⟩⟩
def ORel (E:Env) (μ:MM) (b:Nat) (i:Nat) (w:World):AObj→Prop
 | .dead=>μ[i]? = some none
 | .cells esz cs=>∃ (m:M) (c:Array Value) (e:TypeId) (fr:Nat × Nat),μ[i]? = some (some m)∧m.esz=esz∧w.heap[m.blk]? = some (.cells c e fr)∧c.size=m.size∧m.base+cs.length≤m.size ∧
   CRel E μ cs c m.base∧(b≤i→Free E.room fr m.size)
 | .map es clock=>∃ (m:M) (es':Array MapEntry),μ[i]? = some (some m)∧w.heap[m.blk]? = some (.map es' clock)∧es'.size=es.length ∧
   ∀ (k:Nat) (x:AVal × AVal × Nat),es[k]? = some x→∃ y:MapEntry,es'[k]? = some y∧VRel E μ x.1 y.key∧VRel E μ x.2.1 y.val∧y.born=x.2.2
 | .iter s pos=>∃ m:M,μ[i]? = some (some m)∧w.heap[m.blk]? = some (.stringIter ⟨s.toArray⟩ pos)
 | .mapIter r since seen last=>∃ (m:M) (r':Option Nat),(μ[i]? = some (some m)∧m.base=0)∧w.heap[m.blk]? = some (.mapIter r' since seen.toArray last)∧VRel E μ (.map r) (.map r')
 | .loop g st p sl=>∃ (m:M) (r:Loop),μ[i]? = some (some m)∧w.heap[m.blk]? = some (.loop r)∧LoopRel E μ g st p sl r
structure Rel (E:Env) (μ:MM) (h:Heap) (w:World):Prop where
 len:μ.length=h.objs.length
 bs:h.base≤h.objs.length
 obj:∀ (i:Nat) (o:AObj),h.objs[i]? = some o→ORel E μ h.base i w o
 sep:∀ (i j:Nat) (mi mj:M),i≠j→h.base≤i→μ[i]? = some (some mi)→μ[j]? = some (some mj)→mi.blk≠mj.blk
 lt:∀ (i:Nat) (m:M),μ[i]? = some (some m)→m.blk < w.heap.size
structure Step (X:Nat→Prop) (wm:Nat) (μ:MM) (w:World) (μ':MM) (w':World):Prop where
 os:w'.os=w.os
 tape:w'.tape=w.tape
 output:w'.output=w.output
 size:w.heap.size≤w'.heap.size
 block:∀ k,k < w.heap.size→¬ X k→(∀ i m,wm≤i→μ[i]? = some (some m)→m.blk≠k)→w'.heap[k]? = w.heap[k]?
 len:μ.length≤μ'.length
 old:∀ i,i < μ.length→μ'[i]? = μ[i]?∨(wm≤i∧μ'[i]? = some none)
 new:∀ i m,μ.length≤i→μ'[i]? = some (some m)→w.heap.size≤m.blk∨∃ r m0,wm≤r∧μ[r]? = some (some m0)∧m0.blk=m.blk
section
variable {E:Env} {X Y:Nat→Prop} {wm wm':Nat} {μ μ' μ'':MM} {w w' w'':World}
theorem Step.refl (X:Nat→Prop) (wm:Nat) (μ:MM) (w:World):Step X wm μ w μ w :=
 ⟨rfl,rfl,rfl,ai _,fun _ _ _ _=>rfl,ai _,fun _ _=>.inl rfl,fun i m h hm=>absurd (aj hm) (by omega)⟩
theorem Step.later (h:Step X wm μ w μ' w'):Later μ μ':=⟨h.len,fun i hi=>(h.old i hi).imp id And.right⟩
theorem Step.trans (h:Step X wm μ w μ' w') (k:Step X wm' μ' w' μ'' w'') (hw:wm'≤wm):Step X wm' μ w μ'' w'' where
 os:=k.os.trans h.os
 tape:=k.tape.trans h.tape
 output:=k.output.trans h.output
 size:=dq h.size k.size
 block:=fun b hb hx hn=>by
  have h1:w'.heap[b]? = w.heap[b]?:=h.block b hb hx fun i m hi hm=>hn i m (dq hw hi) hm
  rw [← h1];refine k.block b (gl hb h.size) hx fun i m hi hm=>?_
  rcases bi i μ.length with hl | hl
  ·exact hn i m hi (h.later.back hl hm)
  ·rcases h.new i m hl hm with h2 | ⟨r,m0,hr,hm0,e⟩
   ·omega
   ·rw [← e]; exact hn r m0 (dq hw hr) hm0
 len:=dq h.len k.len
 old:=fun i hi=>by
  rcases k.old i (gl hi h.len) with h1 | ⟨h1,h2⟩
  ·rcases h.old i hi with h3 | ⟨h3,h4⟩
   ·exact .inl (h1.trans h3)
   ·exact .inr ⟨dq hw h3,h1.trans h4⟩
  ·exact .inr ⟨h1,h2⟩
 new:=fun i m hl hm=>by
  rcases bi i μ'.length with h1 | h1
  ·have h2:μ'[i]? = some (some m):=k.later.back h1 hm;rcases h.new i m hl h2 with h3 | ⟨r,m0,hr,hm0,e⟩
   ·exact .inl h3
   ·exact .inr ⟨r,m0,dq hw hr,hm0,e⟩
  ·rcases k.new i m h1 hm with h3 | ⟨r,m0,hr,hm0,e⟩
   ·exact .inl (dq h.size h3)
   ·rcases bi r μ.length with h4 | h4
    ·exact .inr ⟨r,m0,hr,h.later.back h4 hm0,e⟩
    ·rcases h.new r m0 h4 hm0 with h5 | ⟨r',m1,hr',hm1,e'⟩
     ·exact .inl (by rw [← e]; exact h5)
     ·exact .inr ⟨r',m1,dq hw hr',hm1,e'.trans e⟩
theorem Step.weaken (h:Step X wm μ w μ' w') (hw:wm'≤wm) (hX:∀ b,X b→b < w.heap.size→Y b):Step Y wm' μ w μ' w' where
 os:=h.os
 tape:=h.tape
 output:=h.output
 size:=h.size
 block:=fun b hb hx hn=>h.block b hb (fun hxb=>hx (hX b hxb hb)) fun i m hi hm=>hn i m (dq hw hi) hm
 len:=h.len
 old:=fun i hi=>(h.old i hi).imp id fun ⟨a,b⟩=>⟨dq hw a,b⟩
 new:=fun i m hl hm=>(h.new i m hl hm).imp id fun ⟨r,m0,hr,x⟩=>⟨r,m0,dq hw hr,x⟩
theorem Step.fresh (h:Step X μ.length μ w μ' w') (wm':Nat):Step X wm' μ w μ' w' where
 os:=h.os
 tape:=h.tape
 output:=h.output
 size:=h.size
 block:=fun b hb hx _=>h.block b hb hx fun i m hi hm=>absurd (aj hm) (by omega)
 len:=h.len
 old:=fun i hi=>.inl ((h.old i hi).resolve_right fun ⟨a,_⟩=>by omega)
 new:=fun i m hl hm=>(h.new i m hl hm).imp id fun ⟨r,m0,hr,hm0,_⟩=>absurd (aj hm0) (by omega)
theorem CRel.later {cs:List AVal} {c:Array Value} {b:Nat} (hl:Later μ μ') (h:CRel E μ cs c b):CRel E μ' cs c b:=fun k v hk=>by obtain ⟨h1,v',h2,h3⟩:=h k v hk;exact ⟨h1,v',h2,h3.later hl⟩
theorem ORel.keep {b i:Nat} {o:AObj} (hl:Later μ μ') (h:ORel E μ b i w o) (hm:∀ m,μ[i]? = some (some m)→μ'[i]? = some (some m)∧w'.heap[m.blk]? = w.heap[m.blk]?) :
  ORel E μ' b i w' o:=by
 cases o with
 | dead =>
  rcases hl.get h with h1 | h1 <;> exact h1
 | cells esz cs =>
  obtain ⟨m,c,e,fr,h1,h2,h3,h4,h5,h6,h7⟩:=h;obtain ⟨k1,k2⟩:=hm m h1;exact ⟨m,c,e,fr,k1,h2,k2.trans h3,h4,h5,h6.later hl,h7⟩
 | map es clock =>
  obtain ⟨m,es',h1,h2,h3,h4⟩:=h;obtain ⟨k1,k2⟩:=hm m h1;refine ⟨m,es',k1,k2.trans h2,h3,fun k x hk=>?_⟩;obtain ⟨y,y1,y2,y3,y4⟩:=h4 k x hk;exact ⟨y,y1,y2.later hl,y3.later hl,y4⟩
 | iter s pos =>
  obtain ⟨m,h1,h2⟩:=h;obtain ⟨k1,k2⟩:=hm m h1;exact ⟨m,k1,k2.trans h2⟩
 | mapIter r a b c =>
  obtain ⟨m,r',⟨h1,h0⟩,h2,h3⟩:=h;obtain ⟨k1,k2⟩:=hm m h1;exact ⟨m,r',⟨k1,h0⟩,k2.trans h2,h3.later hl⟩
 | loop g st p sl =>
  obtain ⟨m,r,h1,h2,h3⟩:=h;obtain ⟨k1,k2⟩:=hm m h1;exact ⟨m,r,k1,k2.trans h2,h3.later hl⟩
end
abbrev SlotFn:=Nat→Option Slot
structure Fr where
 v:Nat→Nat
 ds:List Nat
instance:CoeFun Fr (fun _=>Nat→Nat):=⟨Fr.v⟩
structure FRel (E:Env) (lo:Nat) (ν:Fr) (μ:MM) (g:SlotFn) (tmps:Array Value) (w:World):Prop where
 val:∀ (t:Nat) (v:AVal),g t=some (.val v)→∃ v':Value,tmps[t]? = some v'∧VRel E μ v v'
 undef:∀ t:Nat,g t=some .undef→tmps[t]? = some Go.undef
 var:∀ (t:Nat) (cs:List AVal),g t=some (.var cs)→tmps[t]? = some (.pointer (some ⟨ν t,0,none⟩))∧lo≤ν t ∧
  ∃ (c:Array Value) (e:TypeId) (fr:Nat × Nat),w.heap[ν t]? = some (.cells c e fr)∧c.size=cs.length∧CRel E μ cs c 0∧Free 0 fr c.size
 loc:∀ (t t' o:Nat) (cs:List AVal),g t=some (.loc t' o)→g t'=some (.var cs)→tmps[t]? = some (.pointer (some ⟨ν t',o,none⟩))
 sepv:∀ (t t':Nat) (cs cs':List AVal),t≠t'→g t=some (.var cs)→g t'=some (.var cs')→ν t≠ν t'
 sepm:∀ (t:Nat) (cs:List AVal) (i:Nat) (m:M),g t=some (.var cs)→μ[i]? = some (some m)→m.blk≠ν t
 ds:∀ r ∈ ν.ds,lo≤r∧w.heap[r]? = some (.deferred (some []))
 sepd:∀ r ∈ ν.ds,(∀ (i:Nat) (m:M),μ[i]? = some (some m)→m.blk≠r)∧∀ (t:Nat) (cs:List AVal),g t=some (.var cs)→ν t≠r
 nodup:ν.ds.Nodup
theorem FRel.congr {E:Env} {lo:Nat} {ν:Fr} {μ:MM} {g g':SlotFn} {tmps:Array Value} {w:World} (h:FRel E lo ν μ g tmps w) (hg:∀ t,g' t=g t):FRel E lo ν μ g' tmps w:=by have:g'=g:=funext hg;rw [this]; exact h
theorem FRel.less {E:Env} {lo:Nat} {ν:Fr} {μ:MM} {g g':SlotFn} {tmps:Array Value} {w:World} (h:FRel E lo ν μ g tmps w) (hg:∀ t x,g' t=some x→g t=some x):FRel E lo ν μ g' tmps w where
 val:=fun t v hv=>h.val t v (hg _ _ hv)
 undef:=fun t hv=>h.undef t (hg _ _ hv)
 var:=fun t cs hv=>h.var t cs (hg _ _ hv)
 loc:=fun t t' o cs hv hv'=>h.loc t t' o cs (hg _ _ hv) (hg _ _ hv')
 sepv:=fun t t' cs cs' hn hv hv'=>h.sepv t t' cs cs' hn (hg _ _ hv) (hg _ _ hv')
 sepm:=fun t cs i m hv hm=>h.sepm t cs i m (hg _ _ hv) hm
 ds:=h.ds
 sepd:=fun r hr=>⟨(h.sepd r hr).1,fun t cs hv=>(h.sepd r hr).2 t cs (hg _ _ hv)⟩
 nodup:=h.nodup
section
variable {E:Env} {lo:Nat} {ν:Fr} {μ μ':MM} {g:SlotFn} {tmps:Array Value} {w w':World}
theorem FRel.keep (h:FRel E lo ν μ g tmps w) (hl:Later μ μ') (hb:∀ t cs,g t=some (.var cs)→w'.heap[ν t]? = w.heap[ν t]?)
  (hm:∀ (t:Nat) (cs:List AVal) (i:Nat) (m:M),g t=some (.var cs)→μ.length≤i→μ'[i]? = some (some m)→m.blk≠ν t)
  (hd:∀ r ∈ ν.ds,w'.heap[r]? = w.heap[r]?∧∀ (i:Nat) (m:M),μ.length≤i→μ'[i]? = some (some m)→m.blk≠r):FRel E lo ν μ' g tmps w' where
 val:=fun t v hv=>by obtain ⟨v',h1,h2⟩:=h.val t v hv;exact ⟨v',h1,h2.later hl⟩
 undef:=h.undef
 var:=fun t cs hv=>by obtain ⟨h1,h2,c,e,fr,h3,h4,h5,h6⟩:=h.var t cs hv;exact ⟨h1,h2,c,e,fr,(hb t cs hv).trans h3,h4,h5.later hl,h6⟩
 loc:=h.loc
 sepv:=h.sepv
 sepm:=fun t cs i m hv him=>by
  rcases bi i μ.length with h1 | h1
  ·exact h.sepm t cs i m hv (hl.back h1 him)
  ·exact hm t cs i m hv h1 him
 ds:=fun r hr=>⟨(h.ds r hr).1,(hd r hr).1.trans (h.ds r hr).2⟩
 sepd:=fun r hr=>⟨fun i m him=>by
  rcases bi i μ.length with h1 | h1
  ·exact (h.sepd r hr).1 i m (hl.back h1 him)
  ·exact (hd r hr).2 i m h1 him,(h.sepd r hr).2⟩
 nodup:=h.nodup
theorem FRel.lt_ds (h:FRel E lo ν μ g tmps w) {r:Nat} (hr:r ∈ ν.ds):r < w.heap.size:=aj (l:=w.heap.toList) (by simpa using (h.ds r hr).2)
theorem FRel.lt (h:FRel E lo ν μ g tmps w) {t:Nat} {cs:List AVal} (hv:g t=some (.var cs)):ν t < w.heap.size:=by obtain ⟨_,_,c,e,fr,h3,_⟩:=h.var t cs hv;exact aj (l:=w.heap.toList) (by simpa using h3)
theorem FRel.step {X:Nat→Prop} {wm:Nat} (h:FRel E lo ν μ g tmps w) (hs:Step X wm μ w μ' w') (hX:∀ b,b < w.heap.size→¬ X b):FRel E lo ν μ' g tmps w':=by
 refine h.keep hs.later (fun t cs hv=>hs.block _ (h.lt hv) (hX _ (h.lt hv)) fun i m _ hm=>h.sepm t cs i m hv hm) (fun t cs i m hv hi hm=>?_) fun r hr=>?_
 ·rcases hs.new i m hi hm with h1 | ⟨r,m0,_,hm0,e⟩
  ·have:=h.lt hv; omega
  ·rw [← e]; exact h.sepm t cs r m0 hv hm0
 ·refine ⟨hs.block r (h.lt_ds hr) (hX r (h.lt_ds hr)) fun i m _ hm=>(h.sepd r hr).1 i m hm,fun i m hi hm=>?_⟩;rcases hs.new i m hi hm with h1 | ⟨r',m0,_,hm0,e⟩
  ·have:=h.lt_ds hr; omega
  ·rw [← e]; exact (h.sepd r hr).1 r' m0 hm0
def putT (tmps:Array Value) (d:Option Nat) (v:Value):Array Value :=
 match d with
 | some x=>tmps.setIfInBounds x v
 | none=>tmps
def iu (g:SlotFn) (d:Option Nat) (x:Slot):SlotFn:=fun t=>if d=some t then some x else g t
theorem kr (d:Option Nat) (x:Slot) (s:Slots) (t:Nat):sget (a8 d x s) t=iu (sget s) d x t:=by
 cases d with
 | none=>simp [a8,iu]
 | some d=>simp [a8,iu,sget]
theorem FRel.setVal (h:FRel E lo ν μ g tmps w) {d:Option Nat} {v:AVal} {v':Value} (hd:∀ x,d=some x→x < tmps.size) (hv:VRel E μ v v') :
  FRel E lo ν μ (iu g d (.val v)) (putT tmps d v') w:=by
 cases d with
 | none=>exact h.congr fun t=>by simp [iu]
 | some d =>
  have hd:=hd d rfl;show FRel E lo ν μ _ (tmps.setIfInBounds d _) w;have key:∀ t,d≠t→(tmps.setIfInBounds d v')[t]? = tmps[t]?:=fun t ht=>dx ht
  refine ⟨fun t u hu=>?_,fun t hu=>?_,fun t cs hu=>?_,fun t t' o cs hu hu'=>?_,fun t t' cs cs' hn hu hu'=>?_,fun t cs i m hu hm=>?_,h.ds,fun r hr=>⟨(h.sepd r hr).1,fun t cs hu=>?_⟩,h.nodup⟩
  ·by_cases e:d=t
   ·subst e;simp [iu] at hu; subst hu;exact ⟨v',by simp [hd],hv⟩
   ·simp [iu,e] at hu; rw [key t e]; exact h.val t u hu
  ·by_cases e:d=t
   ·subst e; simp [iu] at hu
   ·simp [iu,e] at hu; rw [key t e]; exact h.undef t hu
  ·by_cases e:d=t
   ·subst e; simp [iu] at hu
   ·simp [iu,e] at hu; rw [key t e]; exact h.var t cs hu
  ·by_cases e:d=t
   ·subst e; simp [iu] at hu
   ·by_cases e':d=t'
    ·subst e'; simp [iu] at hu'
    ·simp [iu,e] at hu; simp [iu,e'] at hu'; rw [key t e]; exact h.loc t t' o cs hu hu'
  ·by_cases e:d=t
   ·subst e; simp [iu] at hu
   ·by_cases e':d=t'
    ·subst e'; simp [iu] at hu'
    ·simp [iu,e] at hu; simp [iu,e'] at hu'; exact h.sepv t t' cs cs' hn hu hu'
  ·by_cases e:d=t
   ·subst e; simp [iu] at hu
   ·simp [iu,e] at hu; exact h.sepm t cs i m hu hm
  ·by_cases e:d=t
   ·subst e; simp [iu] at hu
   ·simp [iu,e] at hu; exact (h.sepd r hr).2 t cs hu
theorem FRel.setUndef (h:FRel E lo ν μ g tmps w) {d:Option Nat} (hd:∀ x,d=some x→x < tmps.size) :
  FRel E lo ν μ (iu g d .undef) (putT tmps d Go.undef) w:=by
 cases d with
 | none=>exact h.congr fun t=>by simp [iu]
 | some d =>
  have hd:=hd d rfl;show FRel E lo ν μ _ (tmps.setIfInBounds d _) w;have key:∀ t,d≠t→(tmps.setIfInBounds d Go.undef)[t]? = tmps[t]?:=fun t ht=>dx ht
  refine ⟨fun t u hu=>?_,fun t hu=>?_,fun t cs hu=>?_,fun t t' o cs hu hu'=>?_,fun t t' cs cs' hn hu hu'=>?_,fun t cs i m hu hm=>?_,h.ds,fun r hr=>⟨(h.sepd r hr).1,fun t cs hu=>?_⟩,h.nodup⟩
  ·by_cases e:d=t
   ·subst e; simp [iu] at hu
   ·simp [iu,e] at hu; rw [key t e]; exact h.val t u hu
  ·by_cases e:d=t
   ·subst e; simp [hd]
   ·simp [iu,e] at hu; rw [key t e]; exact h.undef t hu
  ·by_cases e:d=t
   ·subst e; simp [iu] at hu
   ·simp [iu,e] at hu; rw [key t e]; exact h.var t cs hu
  ·by_cases e:d=t
   ·subst e; simp [iu] at hu
   ·by_cases e':d=t'
    ·subst e'; simp [iu] at hu'
    ·simp [iu,e] at hu; simp [iu,e'] at hu'; rw [key t e]; exact h.loc t t' o cs hu hu'
  ·by_cases e:d=t
   ·subst e; simp [iu] at hu
   ·by_cases e':d=t'
    ·subst e'; simp [iu] at hu'
    ·simp [iu,e] at hu; simp [iu,e'] at hu'; exact h.sepv t t' cs cs' hn hu hu'
  ·by_cases e:d=t
   ·subst e; simp [iu] at hu
   ·simp [iu,e] at hu; exact h.sepm t cs i m hu hm
  ·by_cases e:d=t
   ·subst e; simp [iu] at hu
   ·simp [iu,e] at hu; exact (h.sepd r hr).2 t cs hu
theorem FRel.setLoc (h:FRel E lo ν μ g tmps w) {d u o:Nat} (hd:d < tmps.size) :
  FRel E lo ν μ (iu g (some d) (.loc u o)) (tmps.setIfInBounds d (.pointer (some ⟨ν u,o,none⟩))) w:=by
 have key:∀ t,d≠t→(tmps.setIfInBounds d (.pointer (some ⟨ν u,o,none⟩)))[t]? = tmps[t]?:=fun t ht=>dx ht
 refine ⟨fun t x hx=>?_,fun t hx=>?_,fun t cs hx=>?_,fun t t' o' cs hx hx'=>?_,fun t t' cs cs' hn hx hx'=>?_,fun t cs i m hx hm=>?_,h.ds,fun r hr=>⟨(h.sepd r hr).1,fun t cs hx=>?_⟩,h.nodup⟩
 ·by_cases e:d=t
  ·subst e; simp [iu] at hx
  ·simp [iu,e] at hx; rw [key t e]; exact h.val t x hx
 ·by_cases e:d=t
  ·subst e; simp [iu] at hx
  ·simp [iu,e] at hx; rw [key t e]; exact h.undef t hx
 ·by_cases e:d=t
  ·subst e; simp [iu] at hx
  ·simp [iu,e] at hx; rw [key t e]; exact h.var t cs hx
 ·by_cases e:d=t
  ·subst e; simp [iu] at hx; obtain ⟨rfl,rfl⟩:=hx; simp [hd]
  ·by_cases e':d=t'
   ·subst e'; simp [iu] at hx'
   ·simp [iu,e] at hx; simp [iu,e'] at hx'; rw [key t e]; exact h.loc t t' o' cs hx hx'
 ·by_cases e:d=t
  ·subst e; simp [iu] at hx
  ·by_cases e':d=t'
   ·subst e'; simp [iu] at hx'
   ·simp [iu,e] at hx; simp [iu,e'] at hx'; exact h.sepv t t' cs cs' hn hx hx'
 ·by_cases e:d=t
  ·subst e; simp [iu] at hx
  ·simp [iu,e] at hx; exact h.sepm t cs i m hx hm
 ·by_cases e:d=t
  ·subst e; simp [iu] at hx
  ·simp [iu,e] at hx; exact (h.sepd r hr).2 t cs hx
end
end Go.Abs

namespace Go.Abs
section
variable {E:Env} {μ:MM} {h:Heap} {w:World}
def di (w:World) (b:Nat) (o:Obj):World:={ w with heap:=w.heap.setIfInBounds b o }
theorem ga {w:World} {b:Nat} {o:Obj} (hb:b < w.heap.size):(di w b o).heap[b]? = some o:=by simp [di,hb]
theorem da {w:World} {b k:Nat} {o:Obj} (hb:b≠k):(di w b o).heap[k]? = w.heap[k]?:=by simp [di,dx hb]
theorem sf {w:World} {b:Nat} {o:Obj} (h:w.heap[b]? = some o):b < w.heap.size:=aj (l:=w.heap.toList) (by simpa using h)
theorem Rel.same (hr:Rel E μ h w) {h':Heap} {w':World} (ho:h'.objs=h.objs) (hb:h'.base=h.base) (hw:w'.heap=w.heap):Rel E μ h' w':=by
 refine ⟨by rw [ho]; exact hr.len,by rw [ho,hb]; exact hr.bs,fun i o hi=>?_,fun i j mi mj hn hi=>?_,fun i m hm=>by rw [hw]; exact hr.lt i m hm⟩
 ·rw [hb]; rw [ho] at hi;exact (hr.obj i o hi).keep (Later.refl _) fun m hm=>⟨hm,by rw [hw]⟩
 ·rw [hb] at hi; exact hr.sep i j mi mj hn hi
theorem Rel.keep (hr:Rel E μ h w) {w':World} (hs:w.heap.size≤w'.heap.size) (hk:∀ (i:Nat) (m:M),μ[i]? = some (some m)→w'.heap[m.blk]? = w.heap[m.blk]?):Rel E μ h w' :=
 ⟨hr.len,hr.bs,fun i o hi=>(hr.obj i o hi).keep (Later.refl _) fun m hm=>⟨hm,hk i m hm⟩,hr.sep,fun i m hm=>gl (hr.lt i m hm) hs⟩
theorem ix (μ:MM) (x:Option M):Later μ (μ++[x]) :=
 ⟨by simp,fun i hi=>.inl (by rw [ag hi])⟩
theorem kh {μ:MM} {x:Option M} {i:Nat} {m:Option M} (hm:(μ++[x])[i]? = some m):μ[i]? = some m∨(i=μ.length∧x=m):=by
 rcases bi i μ.length with h1 | h1
 ·rw [ag h1] at hm; exact .inl hm
 ·rw [ak h1] at hm
  have:i - μ.length=0:=by
   rcases xt (i - μ.length) with h2 | h2
   ·exact h2
   ·rw [dc (by simp; omega)] at hm; cases hm
  rw [this] at hm; simp at hm;exact .inr ⟨by omega,hm⟩
theorem Rel.push (hr:Rel E μ h w) (o:AObj) (B:Obj) (m:M) (hm:m.blk=w.heap.size)
  (ho:ORel E (μ++[some m]) h.base μ.length { w with heap:=w.heap.push B } o) :
  Rel E (μ++[some m]) (h.push o) { w with heap:=w.heap.push B }:=by
 have hblk:∀ k,k < w.heap.size→(w.heap.push B)[k]? = w.heap[k]?:=fun k hk=>by rw [fe,if_neg (by omega)]
 refine ⟨by simp [Heap.push,hr.len],by have:=hr.bs; simp [Heap.push]; omega,fun i o' hi=>?_,fun i j mi mj hn hi h1 h2=>?_,fun i m' hm'=>?_⟩
 ·simp only [Heap.push] at hi ⊢;rcases bi i h.objs.length with h1 | h1
  ·rw [ag h1] at hi;exact (hr.obj i o' hi).keep (ix μ _) fun m' hm'=>⟨by rw [ag (aj hm')]; exact hm',hblk _ (hr.lt i m' hm')⟩
  ·rw [ak h1] at hi
   have h2:i - h.objs.length=0:=by
    rcases xt (i - h.objs.length) with h2 | h2
    ·exact h2
    ·rw [dc (by simp; omega)] at hi; cases hi
   rw [h2] at hi; simp at hi; subst hi;have:i=μ.length:=by rw [hr.len]; omega
   subst this; exact ho
 ·rcases kh h1 with a | ⟨rfl,a⟩ <;> rcases kh h2 with b | ⟨rfl,b⟩
  ·exact hr.sep i j mi mj hn hi a b
  ·cases b; have:=hr.lt i mi a; omega
  ·cases a; have:=hr.lt j mj b; omega
  ·exact absurd rfl hn
 ·rcases kh hm' with a | ⟨rfl,a⟩
  ·have:=hr.lt i m' a; simp; omega
  ·cases a; simp [hm]
theorem Step.push {X:Nat→Prop} (wm:Nat) (μ:MM) (w:World) (B:Obj) (m:M) (hm:w.heap.size≤m.blk):Step X wm μ w (μ++[some m]) { w with heap:=w.heap.push B } where
 os:=rfl
 tape:=rfl
 output:=rfl
 size:=by simp
 block:=fun k hk _ _=>by
  show (w.heap.push B)[k]? = _
  rw [fe,if_neg (by omega)]
 len:=by simp
 old:=fun i hi=>.inl (by rw [ag hi])
 new:=fun i m' hi hm'=>by
  rcases kh hm' with a | ⟨_,a⟩
  ·exact absurd (aj a) (by omega)
  ·cases a; exact .inl hm
theorem Step.heap {X:Nat→Prop} {wm:Nat} {μ μ':MM} {w w' w1:World} (h:Step X wm μ w μ' w') (e1:w1.heap=w'.heap) (e2:w1.os=w'.os) (e3:w1.tape=w'.tape) (e4:w1.output=w'.output):Step X wm μ w μ' w1 :=
 ⟨e2.trans h.os,e3.trans h.tape,e4.trans h.output,by rw [e1]; exact h.size,fun k hk hx hn=>by rw [e1]; exact h.block k hk hx hn,h.len,h.old,h.new⟩
theorem qb {μ:MM} {i j:Nat} {x:Option M}:(μ.set i x)[j]? = if i=j then (if j < μ.length then some x else none) else μ[j]?:=by
 by_cases e:i=j
 ·subst e; simp [List.getElem?_set_self']; split <;> simp_all
 ·simp [e]
theorem Rel.put (hr:Rel E μ h w) {i:Nat} {m:M} {o:AObj} {B:Obj} (hi:h.base≤i) (hm:μ[i]? = some (some m))
  (ho:ORel E μ h.base i (di w m.blk B) o):Rel E μ (h.put i o) (di w m.blk B):=by
 have hlt:=hr.lt i m hm;refine ⟨by simp [Heap.put,hr.len],by simpa [Heap.put] using hr.bs,fun j o' hj=>?_,hr.sep,fun j m' hm'=>by simp [di]; exact hr.lt j m' hm'⟩;simp only [Heap.put] at hj ⊢;by_cases e:i=j
 ·subst e;have:i < h.objs.length:=by rw [← hr.len]; exact aj hm
  simp [this] at hj; subst hj; exact ho
 ·rw [ap e] at hj;exact (hr.obj j o' hj).keep (Later.refl _) fun m' hm'=>⟨hm',da (hr.sep i j m m' e hi hm hm')⟩
theorem Step.put {X:Nat→Prop} {wm:Nat} {i:Nat} {m:M} (hm:μ[i]? = some (some m)) (hw:wm≤i) (B:Obj):Step X wm μ w μ (di w m.blk B) where
 os:=rfl
 tape:=rfl
 output:=rfl
 size:=by simp [di]
 block:=fun k _ _ hn=>da (hn i m hw hm)
 len:=ai _
 old:=fun _ _=>.inl rfl
 new:=fun j m' hj hm'=>absurd (aj hm') (by omega)
theorem l0 (μ:MM) (i:Nat):Later μ (μ.set i none) :=
 ⟨by simp,fun j hj=>by
  rw [qb];by_cases e:i=j
  ·right; subst e; simp [hj]
  ·left; simp [e]⟩
theorem Rel.kill (hr:Rel E μ h w) (i:Nat):Rel E (μ.set i none) (h.put i .dead) w:=by
 refine ⟨by simp [Heap.put,hr.len],by simpa [Heap.put] using hr.bs,fun j o hj=>?_,fun j k mj mk hn hj h1 h2=>?_,fun j m hm=>?_⟩
 ·simp only [Heap.put] at hj ⊢;by_cases e:i=j
  ·subst e;rw [List.getElem?_set_self'] at hj;cases hx:h.objs[i]? with
   | none=>rw [hx] at hj; simp at hj
   | some y =>
    rw [hx] at hj; simp at hj; subst hj;simp only [ORel];rw [qb,if_pos rfl,if_pos (by rw [hr.len]; exact aj hx)]
  ·rw [ap e] at hj;exact (hr.obj j o hj).keep (l0 μ i) fun m hm=>⟨by rw [qb,if_neg e]; exact hm,rfl⟩
 ·rw [qb] at h1 h2;simp only [Heap.put] at hj
  have e1:i≠j:=by intro e; rw [if_pos e] at h1;split at h1 <;> cases h1
  have e2:i≠k:=by intro e; rw [if_pos e] at h2;split at h2 <;> cases h2
  rw [if_neg e1] at h1; rw [if_neg e2] at h2;exact hr.sep j k mj mk hn hj h1 h2
 ·rw [qb] at hm;split at hm
  ·split at hm <;> cases hm
  ·exact hr.lt j m hm
theorem Step.kill {X:Nat→Prop} {wm:Nat} (μ:MM) (w:World) {i:Nat} (hw:wm≤i):Step X wm μ w (μ.set i none) w where
 os:=rfl
 tape:=rfl
 output:=rfl
 size:=ai _
 block:=fun _ _ _ _=>rfl
 len:=by simp
 old:=fun j hj=>by
  rw [qb];by_cases e:i=j
  ·right; subst e; simp [hj,hw]
  ·left; simp [e]
 new:=fun j m hj hm=>absurd (aj hm) (by simp; omega)
theorem Rel.take (hr:Rel E μ h w) {i:Nat} {m m':M} {o:AObj} {B:Obj} (hi:h.base≤i) (hm:μ[i]? = some (some m)) (hb:m'.blk=m.blk)
  (ho:ORel E (μ.set i none++[some m']) h.base μ.length (di w m.blk B) o) :
  Rel E (μ.set i none++[some m']) ((h.put i .dead).push o) (di w m.blk B):=by
 have hk:=hr.kill i;have hlen:(μ.set i none).length=μ.length:=by simp
 have hne:∀ (j:Nat) (mj:M),(μ.set i none)[j]? = some (some mj)→mj.blk≠m.blk:=by
  intro j mj hj;rw [qb] at hj;by_cases e:i=j
  ·rw [if_pos e] at hj; split at hj <;> cases hj
  ·rw [if_neg e] at hj; exact fun e'=>hr.sep i j m mj e hi hm hj e'.symm
 refine ⟨by simp [Heap.push,Heap.put,hr.len],by have:=hr.bs; simp [Heap.push,Heap.put]; omega,fun j o' hj=>?_,fun j k mj mk hn hj h1 h2=>?_,fun j mj hmj=>?_⟩
 ·simp only [Heap.push] at hj;rcases bi j (h.put i .dead).objs.length with h1 | h1
  ·rw [ag h1] at hj;exact (hk.obj j o' hj).keep (ix _ _) fun mj hmj=>⟨by rw [ag (aj hmj)]; exact hmj,da (hne j mj hmj).symm⟩
  ·rw [ak h1] at hj
   have h2:j - (h.put i .dead).objs.length=0:=by
    rcases xt (j - (h.put i .dead).objs.length) with h2 | h2
    ·exact h2
    ·rw [dc (by simp; omega)] at hj; cases hj
   rw [h2] at hj; simp at hj; subst hj;have:j=μ.length:=by rw [hr.len]; simp [Heap.put] at h1 h2; omega
   subst this; exact ho
 ·rcases kh h1 with a | ⟨e1,a⟩ <;> rcases kh h2 with b | ⟨e2,b⟩
  ·exact hk.sep j k mj mk hn hj a b
  ·cases b; rw [hb]; exact hne j mj a
  ·cases a; rw [hb]; exact fun e=>hne k mk b e.symm
  ·exact absurd (e1.trans e2.symm) hn
 ·rcases kh hmj with a | ⟨e,a⟩
  ·have:=hk.lt j mj a; simpa [di] using this
  ·cases a; rw [hb]; simpa [di] using hr.lt i m hm
theorem Step.take {X:Nat→Prop} {wm:Nat} {i:Nat} {m m':M} (B:Obj) (hm:μ[i]? = some (some m)) (hb:m'.blk=m.blk) (hw:wm≤i) :
  Step X wm μ w (μ.set i none++[some m']) (di w m.blk B) where
 os:=rfl
 tape:=rfl
 output:=rfl
 size:=by simp [di]
 block:=fun k _ _ hn=>da (hn i m hw hm)
 len:=by simp
 old:=fun j hj=>by rw [ag (by simpa using hj)];exact (Step.kill (X:=X) μ w hw).old j hj
 new:=fun j mj hj hmj=>by
  rcases kh hmj with a | ⟨_,a⟩
  ·exact absurd (aj a) (by simp; omega)
  ·cases a; exact .inr ⟨i,m,hw,hm,hb.symm⟩
end
def one?:Value→Bool
 | .agg _ | .tuple _=>false
 | _=>true
section
variable {P:Program} {w:World}
theorem ji {w:World} {b o:Nat} {c:Array Value} {e:TypeId} {fr:Nat × Nat} (hb:w.heap[b]? = some (.cells c e fr)):w.cell? ⟨b,o,none⟩=c[o]?:=by simp [World.cell?,hb]
theorem zy {w:World} {b o:Nat} {c:Array Value} {e:TypeId} {fr:Nat × Nat} (hb:w.heap[b]? = some (.cells c e fr)):w.frozen? ⟨b,o,none⟩=decide (fr.1≤o∧o < fr.2):=by obtain ⟨lo,hi⟩:=fr;simp [World.frozen?,hb]
theorem vd {w:World} {b o:Nat} {c:Array Value} {e0:TypeId} {fr:Nat × Nat} (v:Value) (hb:w.heap[b]? = some (.cells c e0 fr)) :
  w.setCell ⟨b,o,none⟩ v=di w b (.cells (c.setIfInBounds o v) e0 fr):=by
 have hl:=sf hb;simp only [World.setCell,di];congr 1;apply Array.ext_getElem?;intro k;rw [Array.getElem?_modify,Array.getElem?_setIfInBounds];by_cases e:b=k
 ·subst e;have hb':w.heap[b] = .cells c e0 fr:=by rw [j9 hl] at hb; exact dg hb
  simp [hl,hb']
 ·simp [e]
theorem ox (w:World) (b:Nat) (o o':Obj):di (di w b o) b o'=di w b o':=by simp [di]
def ik (c:Array Value) (off:Nat) (vs:List Value):Array Value :=
 match vs with
 | []=>c
 | v :: r=>ik (c.setIfInBounds off v) (off+1) r
theorem gn:∀ (vs:List Value) (c:Array Value) (off:Nat),(ik c off vs).size=c.size
 | [],_,_=>rfl
 | v :: r,c,off=>by simp [ik,gn r]
theorem lq:∀ (vs:List Value) (c:Array Value) (off k:Nat),off+vs.length≤c.size →
  (ik c off vs)[k]? = if off≤k∧k < off+vs.length then vs[k - off]? else c[k]?
 | [],c,off,k,_=>by simp only [ik,bf,iz];rw [if_neg (by omega)]
 | v :: r,c,off,k,h=>by
  simp only [az] at h;simp only [ik];rw [lq r _ (off+1) k (by simp; omega)];by_cases h1:off=k
  ·subst h1;have h3:off < c.size:=by omega
   rw [if_neg (by omega),if_pos (by simp)];simp [h3]
  ·by_cases h2:off≤k∧k < off+(v :: r).length
   ·rw [if_pos h2,if_pos (by simp at h2; omega)];have:k - off=(k - (off+1))+1:=by omega
    rw [this]; simp
   ·rw [if_neg h2,if_neg (by simp at h2; omega),dx h1]
theorem ki {b:Nat} {e:TypeId} {fr:Nat × Nat} {a:Addr} (ha:a.block=b) (hs:a.spot=none):∀ (vs:List Value) (i:Nat) (c:Array Value) (w:World),
  w.heap[b]? = some (.cells c e fr)→a.off+i+vs.length≤c.size→(∀ off,off < c.size→¬ (fr.1≤off∧off < fr.2))→(∀ v ∈ vs,one? v=true) →
  (storeCells a vs i).run P w = .ok () (di w b (.cells (ik c (a.off+i) vs) e fr))
 | [],i,c,w,hb,_,_,_=>by
  simp only [storeCells,ik];show Result.ok () w=_;congr 1;simp only [di];have hl:=sf hb
  have:w.heap.setIfInBounds b (.cells c e fr)=w.heap:=by
   apply Array.ext_getElem?;intro k;by_cases e:b=k
   ·subst e; simp [hl];simpa [hl] using hb.symm
   ·simp [dx e]
  rw [this]
 | v :: r,i,c,w,hb,hl,hf,h1=>by
  have hadd:a.add i=⟨b,a.off+i,none⟩:=by
   unfold Addr.add;split
   ·rename_i h0; subst h0; cases a; simp at ha hs; subst ha; subst hs; simp
   ·cases a; simp at ha; subst ha; rfl
  have hv:one? v=true:=h1 v (bh ..);have hi:a.off+i < c.size:=by simp at hl; omega
  have hcell:w.cell? (a.add i)=some c[a.off+i]:=by rw [hadd,ji hb]; simp [hi]
  have hfz:w.frozen? (a.add i)=false:=by rw [hadd,zy hb]; simpa using hf _ hi
  have hstore:(store (a.add i) v).run P w = .ok () (w.setCell (a.add i) v):=by cases v <;> simp only [one?,am] at hv <;> simp [store,Sem.run,hcell,hfz]
  simp only [storeCells,Sem.run_bind,hstore,Result.andThen_ok];rw [hadd,vd v hb];have hb':(di w b (.cells (c.setIfInBounds (a.off+i) v) e fr)).heap[b]? = some (.cells (c.setIfInBounds (a.off+i) v) e fr):=ga (sf hb);rw [ki ha hs r (i+1) _ _ hb' (by simp at hl ⊢; omega) (by simpa using hf) (fun x hx=>h1 x (bu _ hx)),ox];rfl
theorem oneCell_of {E:Env} {μ:MM} {a:AVal} {v:Value} (h:VRel E μ a v) (hc:a.isOne=true):one? v=true:=by obtain ⟨h1,h2⟩:=one_rel h hc;cases v <;> first | rfl | (exact absurd ⟨_,rfl⟩ h1) | (exact absurd ⟨_,rfl⟩ h2)
theorem nc {E:Env} {μ:MM} {as:List AVal} {l:List Value} (h:VRels E μ as l) (hc:∀ x ∈ as,x.isOne=true):∀ v ∈ l,one? v=true:=by
 induction as generalizing l with
 | nil=>simp only [VRels] at h; subst h; simp
 | cons a as ih =>
  simp only [VRels] at h;obtain ⟨v,r,rfl,h1,h2⟩:=h;intro x hx;rcases br.1 hx with rfl | hx
  ·exact oneCell_of h1 (hc a (bh ..))
  ·exact ih h2 (fun y hy=>hc y (bu _ hy)) x hx
theorem CRel.splice {E:Env} {μ:MM} {cs xs:List AVal} {c:Array Value} {l:List Value} {b o:Nat} (h:CRel E μ cs c b) (hx:VRels E μ xs l) (h1:∀ x ∈ xs,x.isOne=true)
  (ho:o+xs.length≤cs.length) (hs:b+cs.length≤c.size):CRel E μ (Abs.splice cs o xs) (ik c (b+o) l) b:=by
 have hl:=hx.length;intro k v hk;rw [lq l c (b+o) (b+k) (by omega)];simp only [Abs.splice] at hk;by_cases h2:k < o
 ·rw [ba,ag (by simp; omega),et h2] at hk;rw [if_neg (by omega)];exact h k v hk
 ·by_cases h3:k < o+xs.length
  ·rw [ba,ak (by simp; omega),ag (by simp; omega)] at hk;have:k - (List.take o cs).length=k - o:=by simp; omega
   rw [this] at hk;obtain ⟨v',hv',hr⟩:=hx.get hk;rw [if_pos (by omega)];refine ⟨h1 v (bz hk),v',?_,hr⟩;rw [← hv']; congr 1; omega
  ·rw [ak (by simp; omega)] at hk;rw [dw] at hk;have:o+xs.length+(k - (List.take o cs++xs).length)=k:=by simp; omega
   rw [this] at hk;rw [if_neg (by omega)];exact h k v hk
theorem lj (cs:List AVal) (o:Nat) (xs:List AVal) (h:o+xs.length≤cs.length):(splice cs o xs).length=cs.length:=by simp [splice]; omega
end
end Go.Abs

namespace Go.Abs
section
variable {E:Env} {lo:Nat} {ν:Fr} {μ:MM} {s:Slots} {a:Act} {w:World}
theorem vq (d:Nat):∀ (s:Slots) (t:Nat),sget (py d s) t=match sget s t with
  | some (.loc t' o)=>if t'=d then some .gone else some (.loc t' o)
  | x=>x
 | [],t=>rfl
 | (u,x) :: r,t=>by
  have ih:=vq d r t;cases x with
  | loc t' o =>
   simp only [py,sget];by_cases e:u=t
   ·simp [e]; split <;> rfl
   ·simp [e,ih]
  | _ =>
   simp only [py,sget];by_cases e:u=t
   ·simp [e]
   ·simp [e,ih]
theorem sget_keep (l:List Nat) (s:Slots) (t:Nat) (x:Slot) (h:sget (keep l s) t=some x):sget s t=some x:=by
 unfold keep at h;induction l with
 | nil=>simp [sget] at h
 | cons u r ih =>
  simp only [List.filterMap_cons] at h;split at h
  ·exact ih h
  ·rename_i y hy
   have:y.1=u∧sget s u=some y.2:=by
    cases hs:sget s u with
    | none=>rw [hs] at hy; simp at hy
    | some z=>rw [hs] at hy; cases z <;> simp at hy <;> subst hy <;> simp
   obtain ⟨e1,e2⟩:=this;obtain ⟨y1,y2⟩:=y;simp only at e1 e2;subst e1;simp only [sget] at h;split at h
   ·rename_i e; subst e; cases h; exact e2
   ·exact ih h
theorem wy {t:Nat} {v:Value} (h:a.tmps[t]? = some v):a.eval (.tmp t)=v:=by simp [Act.eval,h]
theorem df (hf:FRel E lo ν μ (sget s) a.tmps w) {x:Operand} {y:Opd} {v:AVal} (hc:ii E x=some y) (he:y.ev s=some v):VRel E μ v (a.eval x):=by
 cases x with
 | tmp t =>
  simp only [ii] at hc; cases hc;simp only [Opd.ev] at he;split at he
  ·rename_i v' hs;cases he;obtain ⟨u,hu,hr⟩:=hf.val t _ hs;rw [wy hu]; exact hr
  ·simp at he
 | const c =>
  simp only [ii] at hc;rw [ae] at hc;obtain ⟨b,hb,rfl⟩:=hc;simp only [Opd.ev] at he; cases he;exact toA_rel hb μ
 | func f =>
  simp only [ii] at hc;rw [ae] at hc;obtain ⟨g,hg,rfl⟩:=hc;simp only [Opd.ev] at he; cases he;simp only [VRel,Act.eval];exact ⟨f,#[],#[],rfl,hg,by simp [VRels],by simp [VRels]⟩
 | global g=>simp [ii] at hc
theorem lh (hf:FRel E lo ν μ (sget s) a.tmps w):∀ {xs:List Operand} {ys:List Opd} {vs:List AVal},cOpds E xs=some ys→evs s ys=some vs→VRels E μ vs (xs.map a.eval)
 | [],ys,vs,hc,he=>by simp only [cOpds] at hc; cases hc;simp only [evs] at he; cases he;simp [VRels]
 | x :: xs,ys,vs,hc,he=>by
  simp only [cOpds] at hc;split at hc
  ·rename_i y ys' h1 h2;cases hc;simp only [evs] at he;split at he
   ·rename_i v vs' h3 h4;cases he;simp only [VRels,cf];exact ⟨_,_,rfl,df hf h1 h3,lh hf h2 h4⟩
   ·simp at he
  ·simp at hc
theorem tz (hf:FRel E lo ν μ (sget s) a.tmps w) {x:Operand} {y:Opd} {i o:Nat} (hc:ii E x=some y) (he:y.adr s=some (.glob i o)) :
  ∃ ad,a.eval x = .pointer (some ad)∧ARel μ i o ad:=by
 cases x with
 | tmp t =>
  simp only [ii] at hc; cases hc;simp only [Opd.adr] at he;split at he
  ·rename_i i' o' hs;cases he;obtain ⟨u,hu,hr⟩:=hf.val t _ hs;simp only [VRel] at hr;obtain ⟨ad,rfl,hr⟩:=hr;exact ⟨ad,wy hu,hr⟩
  ·cases he
  ·cases he
  ·simp at he
 | const c=>simp only [ii] at hc; rw [ae] at hc; obtain ⟨b,_,rfl⟩:=hc; simp [Opd.adr] at he
 | func f=>simp only [ii] at hc; rw [ae] at hc; obtain ⟨b,_,rfl⟩:=hc; simp [Opd.adr] at he
 | global g=>simp [ii] at hc
theorem wz (hf:FRel E lo ν μ (sget s) a.tmps w) {x:Operand} {y:Opd} {t o:Nat} {cs:List AVal} (hc:ii E x=some y) (he:y.adr s=some (.loc t o)) (hv:sget s t=some (.var cs)) :
  a.eval x = .pointer (some ⟨ν t,o,none⟩):=by
 cases x with
 | tmp u =>
  simp only [ii] at hc; cases hc;simp only [Opd.adr] at he;split at he
  ·cases he
  ·rename_i cs' hs;cases he;exact wy (hf.var _ _ hs).1
  ·rename_i t' o' hs;cases he;exact wy (hf.loc _ _ _ _ hs hv)
  ·simp at he
 | const c=>simp only [ii] at hc; rw [ae] at hc; obtain ⟨b,_,rfl⟩:=hc; simp [Opd.adr] at he
 | func f=>simp only [ii] at hc; rw [ae] at hc; obtain ⟨b,_,rfl⟩:=hc; simp [Opd.adr] at he
 | global g=>simp [ii] at hc
theorem FRel.setVar {d:Nat} {tmps:Array Value} (hf:FRel E lo ν μ (sget s) tmps w) (hm:∀ (i:Nat) (m:M),μ[i]? = some (some m)→m.blk < w.heap.size) (hlo:lo≤w.heap.size) (hd:d < tmps.size)
  {cs:List AVal} {c:Array Value} (e:TypeId) (hc:VRels E μ cs c.toList) (h1:∀ x ∈ cs,x.isOne=true) :
  FRel E lo ⟨fun t=>if t=d then w.heap.size else ν t,ν.ds⟩ μ (iu (sget (py d s)) (some d) (.var cs)) (tmps.setIfInBounds d (.pointer (some ⟨w.heap.size,0,none⟩)))
   { w with heap:=w.heap.push (.cells c e (0,0)) }:=by
 have key:∀ t,d≠t→(tmps.setIfInBounds d (.pointer (some ⟨w.heap.size,0,none⟩)))[t]? = tmps[t]?:=fun t ht=>dx ht
 have old:∀ {t:Nat} {x:Slot},d≠t→iu (sget (py d s)) (some d) (.var cs) t=some x→x ≠ .gone→sget s t=some x∧∀ t' o,x = .loc t' o→t'≠d:=by
  intro t x ht hx hg;have ht':¬ (d=t):=ht;simp only [iu,bt,ht',if_false] at hx;rw [vq] at hx;split at hx
  ·rename_i t' o hs;split at hx
   ·cases hx; exact absurd rfl hg
   ·rename_i hne; cases hx; exact ⟨hs,fun t'' o' e=>by cases e; exact hne⟩
  ·rename_i hne;exact ⟨hx,fun t' o e=>by subst e; exact absurd hx (hne t' o)⟩
 have blk:∀ k,k < w.heap.size→(w.heap.push (.cells c e (0,0)))[k]? = w.heap[k]?:=fun k hk=>by rw [fe,if_neg (by omega)]
 refine ⟨fun t u hu=>?_,fun t hu=>?_,fun t cs' hu=>?_,fun t t' o cs' hu hu'=>?_,fun t t' cs1 cs2 hn hu hu'=>?_,fun t cs' i m hu him=>?_,fun r hr=>?_,fun r hr=>⟨fun i m him=>(hf.sepd r hr).1 i m him,fun t cs' hu=>?_⟩,hf.nodup⟩
 ·by_cases ht:d=t
  ·subst ht; simp [iu] at hu
  ·rw [key t ht]; exact hf.val t u (old ht hu (by simp)).1
 ·by_cases ht:d=t
  ·subst ht; simp [iu] at hu
  ·rw [key t ht]; exact hf.undef t (old ht hu (by simp)).1
 ·by_cases ht:d=t
  ·subst ht;simp [iu] at hu; subst hu;refine ⟨by simp [hd],by simp [hlo],c,e,(0,0),by simp,by rw [hc.length]; simp,fun k v hk=>?_,fun off _=>by simp⟩;obtain ⟨v',hv',hr⟩:=hc.get hk;exact ⟨h1 v (bz hk),v',by simpa using hv',hr⟩
  ·obtain ⟨k1,k2,c',e',fr,k3,k4,k5,k6⟩:=hf.var t cs' (old ht hu (by simp)).1;have ht':¬ (t=d):=fun e=>ht e.symm
   simp only [ht',if_false];exact ⟨by rw [key t ht]; exact k1,k2,c',e',fr,by rw [blk _ (sf k3)]; exact k3,k4,k5,k6⟩
 ·by_cases ht:d=t
  ·subst ht; simp [iu] at hu
  ·obtain ⟨k1,k2⟩:=old ht hu (by simp);have ht':t'≠d:=k2 t' o rfl;have ht'':d≠t':=fun e=>ht' e.symm
   obtain ⟨k3,_⟩:=old ht'' hu' (by simp);rw [key t ht];simp only [ht',if_false];exact hf.loc t t' o cs' k1 k3
 ·by_cases ht:d=t
  ·subst ht;have k2:=(old hn hu' (by simp)).1;have hn':¬ (t'=d):=fun e=>hn e.symm
   simp only [if_true,hn',if_false];have:=hf.lt k2;omega
  ·have k1:=(old ht hu (by simp)).1;have ht':¬ (t=d):=fun e=>ht e.symm
   by_cases ht2:d=t'
   ·subst ht2;simp only [if_true,ht',if_false];have:=hf.lt k1;omega
   ·have k2:=(old ht2 hu' (by simp)).1;have ht2':¬ (t'=d):=fun e=>ht2 e.symm
    simp only [ht',ht2',if_false];exact hf.sepv t t' cs1 cs2 hn k1 k2
 ·by_cases ht:d=t
  ·subst ht;simp only [if_true];have:=hm i m him;omega
  ·have k1:=(old ht hu (by simp)).1;have ht':¬ (t=d):=fun e=>ht e.symm
   simp only [ht',if_false];exact hf.sepm t cs' i m k1 him
 ·obtain ⟨k1,k2⟩:=hf.ds r hr;exact ⟨k1,by rw [blk _ (sf k2)]; exact k2⟩
 ·by_cases ht:d=t
  ·subst ht;have:=sf (hf.ds r hr).2;simp only [if_true];omega
  ·have k1:=(old ht hu (by simp)).1;have ht':¬ (t=d):=fun e=>ht e.symm
   simp only [ht',if_false];exact (hf.sepd r hr).2 t cs' k1
theorem FRel.putVar {t:Nat} {tmps:Array Value} (hf:FRel E lo ν μ (sget s) tmps w) {cs cs':List AVal} {c':Array Value} {e:TypeId} {fr:Nat × Nat}
  (ht:sget s t=some (.var cs)) (hs:c'.size=cs'.length) (hc:CRel E μ cs' c' 0) (hfr:Free 0 fr c'.size) :
  FRel E lo ν μ (sget ((t,.var cs') :: s)) tmps (di w (ν t) (.cells c' e fr)):=by
 have hlt:=hf.lt ht
 have old:∀ {u:Nat} {x:Slot},t≠u→sget ((t,.var cs') :: s) u=some x→sget s u=some x:=by intro u x hu hx;have hu':¬ (t=u):=hu;simpa [sget,hu'] using hx
 have isvar:∀ {u:Nat} {cs1:List AVal},sget ((t,.var cs') :: s) u=some (.var cs1)→∃ cs2,sget s u=some (.var cs2):=by
  intro u cs1 hu;by_cases e:t=u
  ·subst e; exact ⟨cs,ht⟩
  ·exact ⟨cs1,old e hu⟩
 refine ⟨fun u v hu=>?_,fun u hu=>?_,fun u cs1 hu=>?_,fun u u' o cs1 hu hu'=>?_,fun u u' cs1 cs2 hn hu hu'=>?_,fun u cs1 i m hu him=>?_,fun r hr=>?_,fun r hr=>⟨(hf.sepd r hr).1,fun u cs1 hu=>?_⟩,hf.nodup⟩
 ·by_cases e:t=u
  ·subst e; simp [sget] at hu
  ·exact hf.val u v (old e hu)
 ·by_cases e:t=u
  ·subst e; simp [sget] at hu
  ·exact hf.undef u (old e hu)
 ·by_cases e':t=u
  ·subst e';simp [sget] at hu; subst hu;obtain ⟨k1,k2,_⟩:=hf.var t cs ht;exact ⟨k1,k2,c',e,fr,ga hlt,hs,hc,hfr⟩
  ·have ho:=old e' hu;obtain ⟨k1,k2,c1,e1,fr1,k3,k4,k5,k6⟩:=hf.var u cs1 ho;exact ⟨k1,k2,c1,e1,fr1,by rw [da (hf.sepv t u cs cs1 e' ht ho)]; exact k3,k4,k5,k6⟩
 ·by_cases e:t=u
  ·subst e; simp [sget] at hu
  ·obtain ⟨cs2,h2⟩:=isvar hu';exact hf.loc u u' o cs2 (old e hu) h2
 ·obtain ⟨a1,h1⟩:=isvar hu;obtain ⟨a2,h2⟩:=isvar hu';exact hf.sepv u u' a1 a2 hn h1 h2
 ·obtain ⟨a1,h1⟩:=isvar hu;exact hf.sepm u a1 i m h1 him
 ·obtain ⟨k1,k2⟩:=hf.ds r hr;exact ⟨k1,by rw [da ((hf.sepd r hr).2 t cs ht)]; exact k2⟩
 ·obtain ⟨a1,h1⟩:=isvar hu;exact (hf.sepd r hr).2 u a1 h1
end
end Go.Abs

namespace Go.Abs
section
variable {E:Env} {lo:Nat} {ν:Fr} {μ:MM} {s:Slots} {h:Heap} {a:Act} {w:World} {call:CallSem} {d:Nat}
theorem f8 {v:Option AVal} {x:Slot} {s':Slots} {h':Heap} (e:ok1 s h v=some (x,s',h')):∃ u,v=some u∧x = .val u∧s'=s∧h'=h:=by unfold ok1 at e;rw [ae] at e;obtain ⟨u,hu,e⟩:=e;cases e;exact ⟨u,hu,rfl,rfl,rfl⟩
theorem nr:∀ (a b:List UInt8),aBytesLess a b=Op.bytesLess a b
 | [],[]=>rfl
 | [],_ :: _=>rfl
 | _ :: _,[]=>rfl
 | x :: a,y :: b=>by simp [aBytesLess,Op.bytesLess,nr a b]
theorem ml {α:Type} [BEq α] [LawfulBEq α] [DecidableEq α] (a b:α):(a == b)=decide (a=b):=by rw [md]; simp
theorem mk_append (a b:List UInt8):(⟨a.toArray⟩:ByteArray)++⟨b.toArray⟩=⟨(a++b).toArray⟩:=by apply ByteArray.ext;simp
theorem pb (a:List UInt8):(⟨a.toArray⟩:ByteArray).size=a.length:=by simp [ByteArray.size]
theorem run_bin_int {P:Program} {op:BinOp} {t:TypeId} {k k':IntKind} {x y:Int} {r:AVal} (w:World) (h:aBin op (.int k x) (.int k' y)=some r) :
  ∃ v,(binOp op t (.int k x) (.int k' y)).run P w = .ok v w∧VRel E μ r v:=by
 cases op
 case shl =>
  simp only [aBin] at h;split at h
  ·cases h
  ·rename_i hn;cases h;exact ⟨_,by simp [binOp,Op.shift,hn]; rfl,by simp [VRel]⟩
 case shr =>
  simp only [aBin] at h;split at h
  ·cases h
  ·rename_i hn;cases h;exact ⟨_,by simp [binOp,Op.shift,hn]; rfl,by simp [VRel]⟩
 all_goals
  simp only [aBin] at h;split at h;case isFalse=>cases h
  rename_i hk;subst hk
 case quo =>
  split at h
  ·cases h
  ·rename_i hn;cases h;exact ⟨_,by simp [binOp,Op.intDiv,hn]; rfl,by simp [VRel]⟩
 case rem =>
  split at h
  ·cases h
  ·rename_i hn;cases h;exact ⟨_,by simp [binOp,Op.intDiv,hn]; rfl,by simp [VRel]⟩
 case add=>cases h; exact ⟨_,by simp [binOp,Op.intArith]; rfl,by simp [VRel]⟩
 case sub=>cases h; exact ⟨_,by simp [binOp,Op.intArith]; rfl,by simp [VRel]⟩
 case mul=>cases h; exact ⟨_,by simp [binOp,Op.intArith]; rfl,by simp [VRel]⟩
 case and=>simp only [aBits] at h; cases h; exact ⟨_,by simp [binOp,Op.intBits]; rfl,by simp [VRel]⟩
 case or=>simp only [aBits] at h; cases h; exact ⟨_,by simp [binOp,Op.intBits]; rfl,by simp [VRel]⟩
 case xor=>simp only [aBits] at h; cases h; exact ⟨_,by simp [binOp,Op.intBits]; rfl,by simp [VRel]⟩
 case andNot=>simp only [aBits] at h; cases h; exact ⟨_,by simp [binOp,Op.intBits]; rfl,by simp [VRel]⟩
 case eql=>cases h; exact ⟨.bool (x == y),by simp [binOp,Op.intCmp],by simp [VRel,ml]⟩
 case neq=>cases h; exact ⟨.bool (x != y),by simp [binOp,Op.intCmp],by simp [VRel,bne,ml]⟩
 case lss=>cases h; exact ⟨_,by simp [binOp,Op.intCmp]; rfl,by simp [VRel]⟩
 case leq=>cases h; exact ⟨_,by simp [binOp,Op.intCmp]; rfl,by simp [VRel]⟩
 case gtr=>cases h; exact ⟨_,by simp [binOp,Op.intCmp]; rfl,by simp [VRel]⟩
 case geq=>cases h; exact ⟨_,by simp [binOp,Op.intCmp]; rfl,by simp [VRel]⟩
theorem run_bin_str {P:Program} {op:BinOp} {t:TypeId} {x y:List UInt8} {r:AVal} (w:World) (h:aBin op (.str x) (.str y)=some r) :
  ∃ v,(binOp op t (.string ⟨x.toArray⟩) (.string ⟨y.toArray⟩)).run P w = .ok v w∧VRel E μ r v:=by
 cases op <;> simp only [aBin] at h
 case add =>
  split at h
  ·rename_i hl;cases h;have hn:¬ (((x.length+y.length:Nat):Int) > IntKind.i64.max):=by simp [IntKind.max,IntKind.signed,IntKind.bits]; omega
   refine ⟨.string ⟨(x++y).toArray⟩,?_,by simp [VRel]⟩;simp only [binOp,Op.stringOp,pb];rw [if_neg hn,mk_append]; rfl
  ·cases h
 case eql=>cases h; exact ⟨_,by simp [binOp,Op.stringOp]; rfl,by simp [VRel,ml]⟩
 case neq=>cases h; exact ⟨_,by simp [binOp,Op.stringOp]; rfl,by simp [VRel,ml]⟩
 case lss=>cases h; exact ⟨_,by simp [binOp,Op.stringOp]; rfl,by simp [VRel,nr]⟩
 case leq=>cases h; exact ⟨_,by simp [binOp,Op.stringOp]; rfl,by simp [VRel,nr,ml]⟩
 case gtr=>cases h; exact ⟨_,by simp [binOp,Op.stringOp]; rfl,by simp [VRel,nr,ml]⟩
 case geq=>cases h; exact ⟨_,by simp [binOp,Op.stringOp]; rfl,by simp [VRel,nr]⟩
 all_goals cases h
theorem tr {P:Program} (op:BinOp) (t:TypeId) (x y:Operand) (u v:Value) (w:World) (h1:∀ c,u ≠ .agg c) (h2:u ≠ .nilIface):(eqGuard op t x y u v).run P w = .ok () w:=by unfold eqGuard;cases op <;> (try rfl) <;> (cases u <;> first | rfl | (exact absurd rfl h2) | (exact absurd rfl (h1 _)) | (cases v <;> rfl))
theorem un_rel {P:Program} {op:UnOp} {x r:AVal} {u:Value} (w:World) (hx:VRel E μ x u) (h:aUn op x=some r):∃ v,(Op.unary op u).run P w = .ok v w∧VRel E μ r v:=by
 cases x <;> simp only [aUn] at h <;> (try cases h)
 case int k n =>
  simp only [VRel] at hx; subst hx;cases op <;> simp only [aBits] at h <;> cases h
  ·exact ⟨_,by simp [Op.unary,Op.intArith]; rfl,by simp [VRel]⟩
  ·exact ⟨_,by simp [Op.unary,Op.intBits]; rfl,by simp [VRel]⟩
 case bool b =>
  simp only [VRel] at hx; subst hx;cases op <;> simp at h
  subst h;exact ⟨_,by simp [Op.unary]; rfl,by simp [VRel]⟩
theorem min2_rel {P:Program} {mx:Bool} {x y r:AVal} {u v:Value} (w:World) (hx:VRel E μ x u) (hy:VRel E μ y v) (h:aMin2 mx x y=some r) :
  ∃ z,(if mx then Builtin.max2 u v else Builtin.min2 u v).run P w = .ok z w∧VRel E μ r z:=by
 cases x <;> cases y <;> simp only [aMin2] at h <;> (try cases h)
 case int.int k n k' m =>
  simp only [VRel] at hx hy; subst hx; subst hy;split at h
  ·rename_i e; subst e; cases h;cases mx
   ·exact ⟨_,by simp [Builtin.min2]; rfl,by simp [VRel]⟩
   ·exact ⟨_,by simp [Builtin.max2]; rfl,by simp [VRel]⟩
  ·cases h
theorem za7 {P:Program} {mx:Bool} (w:World):∀ {l:List AVal} {x r:AVal} {u:Value} {vs:List Value},VRel E μ x u→VRels E μ l vs→aMins mx x l=some r →
  ∃ z,(vs.foldlM (fun a b=>if mx then Builtin.max2 a b else Builtin.min2 a b) u:Sem Value).run P w = .ok z w∧VRel E μ r z
 | [],x,r,u,vs,hx,hl,h=>by simp only [VRels] at hl; subst hl;simp only [aMins] at h; cases h;exact ⟨u,rfl,hx⟩
 | y :: l,x,r,u,vs,hx,hl,h=>by
  simp only [VRels] at hl;obtain ⟨v,t,rfl,hv,ht⟩:=hl;simp only [aMins] at h;split at h
  ·rename_i z hz;obtain ⟨z',h1,h2⟩:=min2_rel (P:=P) w hx hv hz;obtain ⟨r',h3,h4⟩:=za7 (P:=P) w h2 ht h;refine ⟨r',?_,h4⟩;simp only [List.foldlM_cons,Sem.run_bind,h1,Result.andThen_ok,h3]
  ·cases h
theorem run_isAgg {P:Program} {t:TypeId} {n:Option Nat} (h:partT P t=some n) (w:World):(isAgg t).run P w = .ok n.isSome w∧∀ k,n=some k→(sizeOf t).run P w = .ok k w:=by
 unfold partT at h;cases hu:P.underlying t with
 | none=>rw [hu] at h; simp at h
 | some d =>
  rw [hu] at h
  have hs:∀ k,sizeT P t=some k→(sizeOf t).run P w = .ok k w:=by
   intro k hk;unfold sizeT at hk;cases hi:P.info? t with
   | none=>rw [hi] at hk; simp at hk
   | some i=>rw [hi] at hk; simp at hk; subst hk; simp [sizeOf,typeInfo,hi]
  cases d <;> simp only [bt] at h <;> (first | (subst h; exact ⟨by simp [isAgg,run_underlying hu],fun k hk=>by cases hk⟩) | skip)
  ·cases hz:sizeT P t with
   | none=>rw [hz] at h; simp at h
   | some k=>rw [hz] at h; simp at h; subst h; exact ⟨by simp [isAgg,run_underlying hu],fun k' hk=>by cases hk; exact hs k hz⟩
  ·cases hz:sizeT P t with
   | none=>rw [hz] at h; simp at h
   | some k=>rw [hz] at h; simp at h; subst h; exact ⟨by simp [isAgg,run_underlying hu],fun k' hk=>by cases hk; exact hs k hz⟩
theorem jj {P:Program} {t:TypeId} {k:Nat} (h:sizeT P t=some k) (w:World):(sizeOf t).run P w = .ok k w:=by
 unfold sizeT at h;cases hi:P.info? t with
 | none=>rw [hi] at h; simp at h
 | some i=>rw [hi] at h; simp at h; subst h; simp [sizeOf,typeInfo,hi]
theorem po {P:Program} {t:TypeId} {n:Option Nat} {cs:List AVal} {c:Array Value} {o:Nat} {r:AVal} (w:World) (ht:partT P t=some n) (hc:VRels E μ cs c.toList) (h1:∀ x ∈ cs,x.isOne=true) (h:Abs.part cs o n=some r) :
  ∃ v,(Go.part t c o).run P w = .ok v w∧VRel E μ r v:=by
 obtain ⟨ha,hs⟩:=run_isAgg ht w;cases n with
 | none =>
  simp only [Abs.part] at h;obtain ⟨v,hv,hr⟩:=hc.get h;refine ⟨v,?_,hr⟩;have hv':c[o]? = some v:=by simpa using hv
  simp [Go.part,ha,hv']
 | some k =>
  simp only [Abs.part] at h;split at h
  ·rename_i hl;cases h;have hlen:=hc.length;refine ⟨.agg (c.extract o (o+k)),?_,?_⟩
   ·simp [Go.part,ha,hs k rfl]
   ·simp only [VRel];refine ⟨_,rfl,?_,fun x hx=>h1 x (ot (List.mem_of_mem_take hx))⟩;apply VRels.of
    ·simp at hlen ⊢; omega
    ·intro j x hj
     have hjk:j < k:=by
      rcases bi j k with h2 | h2
      ·exact h2
      ·rw [dc (by simp; omega)] at hj; cases hj
     rw [et hjk,dw] at hj;obtain ⟨v,hv,hr⟩:=hc.get hj;refine ⟨v,?_,hr⟩;rw [← hv,nk,nk,Array.getElem?_extract,if_pos];simp at hlen;omega
  ·cases h
theorem zh (hf:FRel E lo ν μ (sget s) a.tmps w) (hr:Rel E μ h w) {x:Operand} {y:Opd} {ad:AAddr} {cs:List AVal} {o:Nat} (hc:ii E x=some y) (hy:y.adr s=some ad) (hcs:cellsAt s h ad=some (cs,o)) :
  ∃ b p c e fr,a.eval x = .pointer (some ⟨b,p+o,none⟩)∧w.heap[b]? = some (.cells c e fr)∧p+cs.length≤c.size∧CRel E μ cs c p:=by
 cases ad with
 | glob i o' =>
  simp only [cellsAt] at hcs;split at hcs
  ·rename_i esz cs' hg;cases hcs;obtain ⟨m,c,e,fr,h1,_,h2,h3,h4,h5,_⟩:=hr.obj i _ hg;obtain ⟨ad,h6,x',h7,h8⟩:=tz hf hc hy;rw [h1] at h7; cases h7;have:=h8 m rfl; subst this;exact ⟨m.blk,m.base,c,e,fr,h6,h2,by omega,h5⟩
  ·cases hcs
 | loc t o' =>
  simp only [cellsAt] at hcs;split at hcs
  ·rename_i cs' hg;cases hcs;obtain ⟨h1,h2,c,e,fr,h3,h4,h5,h6⟩:=hf.var t _ hg;exact ⟨ν t,0,c,e,fr,by rw [dk]; exact wz hf hc hy hg,h3,by omega,h5⟩
  ·cases hcs
theorem nb (b o n:Nat):(⟨b,o,none⟩:Addr).add n=⟨b,o+n,none⟩:=by
 unfold Addr.add;split
 ·rename_i h; subst h; rfl
 ·rfl
theorem tx {P:Program} {w:World} {b o n:Nat} {l:List Value} (hl:l.length=n) (h:∀ j v,l[j]? = some v→w.cell? ⟨b,o+j,none⟩=some v):(loadCells ⟨b,o,none⟩ n).run P w = .ok l.toArray w:=by subst hl;exact run_loadCells_list (P:=P) (w:=w) ⟨b,o,none⟩ l fun j v hj=>by rw [nb]; exact h j v hj
theorem load_rel {P:Program} {t:TypeId} {n:Option Nat} {cs:List AVal} {o b p:Nat} {c:Array Value} {e:TypeId} {fr:Nat × Nat} {r:AVal}
  (ht:partT P t=some n) (hb:w.heap[b]? = some (.cells c e fr)) (hl:p+cs.length≤c.size) (hc:CRel E μ cs c p) (h:Abs.part cs o n=some r) :
  ∃ v,(loadVar t ⟨b,p+o,none⟩).run P w = .ok v w∧VRel E μ r v:=by
 obtain ⟨ha,hs⟩:=run_isAgg ht w;cases n with
 | none =>
  simp only [Abs.part] at h;obtain ⟨_,v,hv,hr⟩:=hc o r h;refine ⟨v,?_,hr⟩;simp [loadVar,ha,ji hb,hv]
 | some k =>
  simp only [Abs.part] at h;split at h
  ·rename_i hk;cases h
   have hrun:(loadCells ⟨b,p+o,none⟩ k).run P w = .ok ((c.toList.drop (p+o)).take k).toArray w:=by
    refine tx (by simp; omega) fun j v hj=>?_
    rw [ji hb,← hj]
    have hjk:j < k:=by
     rcases bi j k with h2 | h2
     ·exact h2
     ·rw [dc (by simp; omega)] at hj; cases hj
    rw [et hjk,dw]; simp
   refine ⟨.agg ((c.toList.drop (p+o)).take k).toArray,by simp [loadVar,ha,hs k rfl,hrun],?_⟩;simp only [VRel];refine ⟨_,rfl,?_,fun x hx=>?_⟩
   ·apply VRels.of
    ·simp; omega
    ·intro j x hj
     have hjk:j < k:=by
      rcases bi j k with h2 | h2
      ·exact h2
      ·rw [dc (by simp; omega)] at hj; cases hj
     rw [et hjk,dw] at hj;obtain ⟨_,v,hv,hr⟩:=hc _ x hj;refine ⟨v,?_,hr⟩;rw [← hv];simp only;rw [et hjk,dw];simp [bo]
   ·have hx':=ot (List.mem_of_mem_take hx);obtain ⟨j,hj⟩:=je hx';exact (hc j x hj).1
  ·cases h
theorem qv (hr:Rel E μ h w) {esz:Nat} {x:AVal} {v:Value} {cs:List AVal} (hx:VRel E μ x v) (hc:il esz h x=some cs) :
  ∃ l n,VRels E μ cs l∧(∀ y ∈ cs,y.isOne=true)∧(∀ P w',(Builtin.lenOf v).run P w' = .ok n w')∧l.length=n*esz ∧
   n=alen x ∧
   ∀ (P:Program) (w':World),w'.heap=w.heap→(Builtin.firstCells esz n v).run P w' = .ok l.toArray w':=by
 cases x <;> simp only [il] at hc <;> (try cases hc)
 case str t =>
  simp only [VRel] at hx; subst hx;split at hc;case isFalse=>cases hc
  rename_i he1;subst he1;cases hc;refine ⟨t.map fun b=>.int .u8 b.toNat,t.length,?_,?_,?_,by simp,rfl,?_⟩
  ·apply VRels.of
   ·simp
   ·intro k x hk;simp only [cz,ae] at hk ⊢;obtain ⟨b,hb,rfl⟩:=hk;exact ⟨_,⟨b,hb,rfl⟩,by simp [VRel]⟩
  ·intro y hy;obtain ⟨b,_,rfl⟩:=ei.1 hy;rfl
  ·intro P w';simp [Builtin.lenOf,pb]
  ·intro P w' _;have:=firstCells_string (P:=P) (⟨t.toArray⟩:ByteArray) w';rw [pb] at this;rw [this]; simp [byteCells]
 case slice ad n c =>
  cases ad with
  | none =>
   simp only at hc; cases hc;simp only [VRel] at hx;obtain ⟨rfl,rfl,rfl⟩:=hx;exact ⟨[],0,by simp [VRels],by simp,fun P w'=>rfl,by simp,rfl,fun P w' _=>by simp [Builtin.firstCells]⟩
  | some io =>
   obtain ⟨i,o⟩:=io;simp only at hc;simp only [VRel] at hx;obtain ⟨ad,cap,rfl,_,hA0,_,hcap,_⟩:=hx;split at hc
   ·rename_i h0;subst h0; cases hc;exact ⟨[],0,by simp [VRels],by simp,fun P w'=>rfl,by simp,rfl,fun P w' _=>by simp [Builtin.firstCells,loadCells,loadCellsFrom]⟩
   ·rename_i h0;split at hc
    ·rename_i e' cs' hg;split at hc
     ·rename_i hh;cases hc;obtain ⟨rfl,hlen⟩:=hh;obtain ⟨m,c',te,fr,h1,h2,h3,h4,h5,h6,_⟩:=hr.obj i _ hg;obtain ⟨x',h7,h8⟩:=hA0 (by omega);rw [h1] at h7; cases h7;have:=h8 m rfl; subst this;refine ⟨(c'.toList.drop (m.base+o)).take (n*e'),n,?_,?_,fun P w'=>rfl,by simp; omega,rfl,?_⟩
      ·apply VRels.of
       ·simp; omega
       ·intro j x hj
        have hjk:j < n*e':=by
         rcases bi j (n*e') with h9 | h9
         ·exact h9
         ·rw [dc (by simp; omega)] at hj; cases hj
        rw [et hjk,dw] at hj;obtain ⟨_,v,hv,hrr⟩:=h6 _ x hj;refine ⟨v,?_,hrr⟩;rw [et hjk,dw,← hv];simp [bo]
      ·intro y hy;obtain ⟨j,hj⟩:=je (ot (List.mem_of_mem_take hy));exact (h6 j y hj).1
      ·intro P w' hw;simp only [Builtin.firstCells];refine tx (by simp; omega) fun j v hj=>?_
       have hjk:j < n*e':=by
        rcases bi j (n*e') with h9 | h9
        ·exact h9
        ·rw [dc (by simp; omega)] at hj; cases hj
       rw [ji (by rw [hw]; exact h3),← hj,et hjk,dw];simp
     ·cases hc
    ·cases hc
end
end Go.Abs

namespace Go.Abs
section
variable {E:Env} {lo:Nat} {ν:Fr} {μ:MM} {s:Slots} {h:Heap} {a:Act} {w:World} {d:Nat}
theorem nq {n k:Nat} {v:AVal} {u:Value} (hv:VRel E μ v u) (h:inBounds n v=some k):∃ kd i,u = .int kd i∧0≤i∧i < n∧k=i.toNat:=by
 cases v <;> simp only [inBounds] at h <;> (try cases h)
 case int kd i =>
  split at h
  ·rename_i hh; cases h;simp only [VRel] at hv;exact ⟨kd,i,hv,hh.1,hh.2,rfl⟩
  ·cases h
theorem wx {P:Program} {n y k:Nat} {v:AVal} {u:Value} (hv:VRel E μ v u) (h:upTo n v=some k) (hn:n≤y) (code:BoundsCode) (w:World) :
  (Instr.sliceBound u y code).run P w = .ok k w∧k≤n:=by
 cases v <;> simp only [upTo] at h <;> (try cases h)
 case int kd i =>
  split at h
  ·rename_i hh; cases h;simp only [VRel] at hv; subst hv;refine ⟨?_,by omega⟩;have:0≤i∧i≤y:=⟨hh.1,by omega⟩;simp [Instr.sliceBound,asIntOf,this]
  ·cases h
def OptRel (E:Env) (μ:MM):Option AVal→Option Value→Prop
 | none,u=>u=none
 | some v,u=>∃ x,u=some x∧VRel E μ v x
theorem pa (hf:FRel E lo ν μ (sget s) a.tmps w) {x:Option Operand} {y:Option Opd} {v:Option AVal} (hc:cOpt E x=some y) (he:optEv s y=some v):OptRel E μ v (x.map a.eval):=by
 cases x with
 | none =>
  simp only [cOpt] at hc; cases hc;simp only [optEv] at he; cases he;simp [OptRel]
 | some x =>
  simp only [cOpt] at hc;rw [ae] at hc;obtain ⟨y',hy,rfl⟩:=hc;simp only [optEv] at he;rw [ae] at he;obtain ⟨v',hv,rfl⟩:=he;exact ⟨_,rfl,df hf hy hv⟩
theorem low_rel {P:Program} {b a':Nat} {l1:Option AVal} {l2:Option Value} (hl:OptRel E μ l1 l2) (h:lowB b l1=some a') (code:BoundsCode) (w:World) :
  a'≤b∧∀ (β:Type) (f:Nat→Sem β),(match l2 with
   | some v=>Instr.sliceBound v b code >>= f
   | none=>pure 0 >>= f).run P w=(f a').run P w:=by
 cases l1 with
 | none =>
  simp only [OptRel] at hl; subst hl;simp only [lowB] at h; cases h;exact ⟨dt _,fun β f=>rfl⟩
 | some l =>
  simp only [OptRel] at hl;obtain ⟨x,rfl,hx⟩:=hl;simp only [lowB] at h;obtain ⟨k1,k2⟩:=wx (P:=P) hx h (ai _) code w;exact ⟨k2,fun β f=>by simp only [Sem.run_bind,k1,Result.andThen_ok]⟩
theorem se {P:Program} {n cap a' b:Nat} {c m:Option Nat} {l1 h1 m1:Option AVal} {l2 h2 m2:Option Value} (isS:Bool) (hl:OptRel E μ l1 l2) (hh:OptRel E μ h1 h2) (hm:OptRel E μ m1 m2)
  (hb:bounds n c l1 h1 m1=some (a',b,m)) (hn:n≤cap) (hc:∀ k,c=some k→cap=k) (w:World) :
  (Instr.sliceBounds isS n cap l2 h2 m2).run P w = .ok (a',b,m.getD cap) w∧a'≤b∧b≤m.getD cap∧m.getD cap≤cap:=by
 have hcn:c.getD n≤cap:=by
  cases c with
  | none=>exact hn
  | some k=>have:=hc k rfl; simp; omega
 have hcc:c.getD cap=cap:=by
  cases c with
  | none=>rfl
  | some k=>have:=hc k rfl; simpa using this.symm
 unfold bounds at hb;cases m1 with
 | some mv =>
  simp only [OptRel] at hm;obtain ⟨mx,rfl,hmx⟩:=hm;simp only at hb;split at hb
  ·rename_i m' hm';obtain ⟨k1,k2⟩:=wx (P:=P) hmx hm' hcn (if isS then .slice3Acap else .slice3Alen) w;cases h1 with
   | none=>cases hb
   | some hv =>
    simp only [OptRel] at hh;obtain ⟨hx,rfl,hhx⟩:=hh;simp only at hb;split at hb
    ·rename_i b' hb';obtain ⟨k3,k4⟩:=wx (P:=P) hhx hb' (ai _) .slice3B w;rw [ae] at hb;obtain ⟨a1,ha1,e⟩:=hb;cases e;obtain ⟨k5,k6⟩:=low_rel (P:=P) hl ha1 .slice3C w;refine ⟨?_,k5,by simpa using k4,by simp; omega⟩;simp only [Instr.sliceBounds,Sem.run_bind,k1,Result.andThen_ok,k3,Option.isSome_some,if_true,cq];exact k6 _ fun l=>pure (l,b,m')
    ·cases hb
  ·cases hb
 | none =>
  simp only [OptRel] at hm; subst hm;simp only at hb;cases h1 with
  | none =>
   simp only [OptRel] at hh; subst hh;simp only at hb;rw [ae] at hb;obtain ⟨a1,ha1,e⟩:=hb;cases e;obtain ⟨k5,k6⟩:=low_rel (P:=P) hl ha1 .sliceB w;refine ⟨?_,k5,by rw [hcc]; exact hn,by rw [hcc]; exact ai _⟩;rw [hcc];simp only [Instr.sliceBounds,Sem.run_bind,Sem.run_pure,Result.andThen_ok,ni,am,if_false];exact k6 _ fun l=>pure (l,n,cap)
  | some hv =>
   simp only [OptRel] at hh;obtain ⟨hx,rfl,hhx⟩:=hh;simp only at hb;split at hb
   ·rename_i b' hb';obtain ⟨k3,k4⟩:=wx (P:=P) hhx hb' hcn (if isS then .sliceAcap else .sliceAlen) w;rw [ae] at hb;obtain ⟨a1,ha1,e⟩:=hb;cases e;obtain ⟨k5,k6⟩:=low_rel (P:=P) hl ha1 .sliceB w;refine ⟨?_,k5,by rw [hcc]; omega,by rw [hcc]; exact ai _⟩;rw [hcc];simp only [Instr.sliceBounds,Sem.run_bind,Sem.run_pure,Result.andThen_ok,k3,ni,am,if_false];exact k6 _ fun l=>pure (l,b,cap)
   ·cases hb
theorem extract_mk (t:List UInt8) (a b:Nat):(⟨t.toArray⟩:ByteArray).extract a b=⟨((t.drop a).take (b - a)).toArray⟩:=by apply ByteArray.ext;apply Array.ext';simp [ByteArray.data_extract]
theorem row_slice {i o e cap a' b:Nat} {m:Option Nat} {ad:Addr} (hr:Rel E μ h w) (hi:i < μ.length∧cap≤9223372036854775807) (hA:0 < cap→ARel μ i o ad) (hs:∀ m:M,μ[i]? = some (some m)→m.base+o+cap*m.esz≤m.size)
  (he:eszIs h i e=true) (h1:a'≤b) (h2:b≤m.getD cap) (h3:m.getD cap≤cap) :
  VRel E μ (.slice (some (i,if m=some a' then o else o+a'*e)) (b - a') (m.map (· - a'))) (.slice (if m.getD cap=a' then some ad else (some ad).map (·.add (a'*e))) (b - a') (m.getD cap - a')):=by
 have hesz:∀ m:M,μ[i]? = some (some m)→m.esz=e:=by
  intro m hm;unfold eszIs at he;split at he
  ·rename_i e' cs hg;obtain ⟨m',c,te,fr,k1,k2,_⟩:=hr.obj i _ hg;rw [hm] at k1; cases k1;rw [k2]; simpa using he
  ·rename_i hg;have:=hr.obj i _ hg;simp only [ORel] at this;rw [hm] at this; cases this
  ·cases he
 have hmap:∀ k,m.map (· - a')=some k→m.getD cap - a'=k:=by intro k hk;rw [ae] at hk;obtain ⟨x,rfl,rfl⟩:=hk;rfl
 simp only [VRel];by_cases hc:m.getD cap=a'
 ·-- nothing is left: where it stands does not matter
  rw [if_pos hc];refine ⟨ad,m.getD cap - a',rfl,⟨hi.1,by omega⟩,fun h0=>absurd h0 (by omega),hmap,by omega,fun m' hm'=>?_⟩;have k1:=hs m' hm';have k2:=hesz m' hm';have:m.getD cap - a'=0:=by omega
  rw [this,Nat.zero_mul,iz];split
  ·have:=dt (cap*m'.esz); omega
  ·rw [k2] at k1;have:a'*e≤cap*e:=im _ (by omega);omega
 ·rw [if_neg hc];have hne:¬ (m=some a'):=by intro e'; rw [e'] at hc; simp at hc
  rw [if_neg hne];refine ⟨ad.add (a'*e),m.getD cap - a',rfl,⟨hi.1,by omega⟩,fun h0=>?_,hmap,by omega,fun m' hm'=>?_⟩
  ·obtain ⟨x,hx,hm⟩:=hA (by omega);refine ⟨x,hx,fun m' hm'=>?_⟩;rw [hm m' hm',nb];congr 1;omega
  ·have k1:=hs m' hm';have k2:=hesz m' hm';rw [k2] at k1 ⊢;have:a'*e+(m.getD cap - a')*e≤cap*e:=by rw [← gg]; exact im _ (by omega)
   omega
theorem slice_rel (hf:FRel E lo ν μ (sget s) a.tmps w) (hr:Rel E μ h w) {t:TypeId} {x:Operand} {lo' hi' mx':Option Operand} {ao:AOp} {k:SliceKind} {y:Opd} {l1 h1 m1:Option Opd} {lv hv mv:Option AVal} {r:AVal}
  (hop:cOp E false (.slice t x lo' hi' mx')=some ao) (hao:ao = .slice k y l1 h1 m1) (hl:optEv s l1=some lv) (hh:optEv s h1=some hv) (hm:optEv s m1=some mv) (he:aSlice k s h y lv hv mv=some r) :
  ∃ v,(Instr.sliceAt t (a.eval x) (lo'.map a.eval) (hi'.map a.eval) (mx'.map a.eval)).run E.P w = .ok v w∧VRel E μ r v:=by
 subst hao;simp only [cOp] at hop;split at hop;case h_2=>cases hop
 rename_i y' l1' h1' m1' cx cl ch cm;split at hop
 ·rename_i hu;cases hop;have rl:=pa hf cl hl;have rh:=pa hf ch hh;simp only [aSlice] at he;split at he
  ·rename_i t' hx;have rx:=df hf cx hx;simp only [VRel] at rx;split at he
   ·have rm:=pa hf cm hm;simp only [OptRel] at rm;rw [ae] at he;obtain ⟨⟨a',b,m⟩,hb,rfl⟩:=he;obtain ⟨k1,k2,k3,k4⟩:=se (P:=E.P) false rl rh (by simp only [OptRel]:OptRel E μ none none) hb (ai _) (fun k hk=>by cases hk; rfl) w;refine ⟨.string ⟨((t'.drop a').take (b - a')).toArray⟩,?_,by simp [VRel]⟩;simp only [Instr.sliceAt,Sem.run_bind,run_underlying hu,Result.andThen_ok,Instr.slice,rx,rm,ni,am,if_false,pb,k1,extract_mk];rfl
   ·cases he
  ·cases he
 ·rename_i e hu;rw [ae] at hop;obtain ⟨n,hn,hop⟩:=hop;cases hop;have rl:=pa hf cl hl;have rh:=pa hf ch hh;have rm:=pa hf cm hm;have hz:=jj (P:=E.P) hn w;simp only [aSlice] at he;split at he
  ·rename_i n' c' hx;have rx:=df hf cx hx;simp only [VRel] at rx;obtain ⟨e1,e2,rx⟩:=rx;rw [ae] at he;obtain ⟨⟨a',b,m⟩,hb,rfl⟩:=he;obtain ⟨k1,k2,k3,k4⟩:=se (P:=E.P) true rl rh rm hb (ai _) (fun k hk=>by cases hk; rfl) w;have h0:m.getD 0=0:=by omega
   have hb0:b=0:=by omega
   have ha0:a'=0:=by omega
   refine ⟨.slice none 0 0,?_,by simp [VRel]⟩;simp only [Instr.sliceAt,Sem.run_bind,run_underlying hu,Result.andThen_ok,Instr.slice,rx,k1,hz,h0,hb0,ha0];rfl
  ·rename_i i o n' c' hx;have rx:=df hf cx hx;simp only [VRel] at rx;obtain ⟨ad,cap,rx,r1,r2,r3,r4,r5⟩:=rx;split at he
   ·rename_i hes;rw [ae] at he;obtain ⟨⟨a',b,m⟩,hb,rfl⟩:=he;obtain ⟨k1,k2,k3,k4⟩:=se (P:=E.P) true rl rh rm hb r4 r3 w;refine ⟨_,?_,row_slice hr r1 r2 r5 hes k2 k3 k4⟩;simp only [Instr.sliceAt,Sem.run_bind,run_underlying hu,Result.andThen_ok,Instr.slice,rx,k1,hz];rfl
   ·cases he
  ·cases he
 ·rename_i n e hu;rw [ae] at hop;obtain ⟨k,hk,hop⟩:=hop;cases hop;have rl:=pa hf cl hl;have rh:=pa hf ch hh;have rm:=pa hf cm hm;have hz:=jj (P:=E.P) hk w;simp only [aSlice] at he;split at he
  ·rename_i i o hx;obtain ⟨ad,rx,rA⟩:=tz hf cx hx;split at he
   ·rename_i e' cs hg;split at he
    ·rename_i hh';obtain ⟨rfl,hlen,hn63⟩:=hh';rw [ae] at he;obtain ⟨⟨a',b,m⟩,hb,rfl⟩:=he;obtain ⟨k1,k2,k3,k4⟩:=se (P:=E.P) false rl rh rm hb (ai _) (fun k hk=>by cases hk; rfl) w;obtain ⟨m0,c,te,fr,j1,j2,j3,j4,j5,j6,_⟩:=hr.obj i _ hg;have:=row_slice (e:=e') (m:=m) (cap:=n) hr ⟨aj j1,hn63⟩ (fun _=>rA) (fun m' hm'=>by rw [j1] at hm'; cases hm'; rw [j2]; omega) (by simp [eszIs,hg]) k2 k3 k4;refine ⟨_,?_,this⟩;simp only [Instr.sliceAt,Sem.run_bind,run_underlying hu,Result.andThen_ok,rx,Instr.sureAddr,Sem.run_pure,k1,hz];congr 1;split <;> rfl
    ·cases he
   ·cases he
  ·cases he
 ·cases hop
theorem string_get (t:List UInt8) (j:Nat):(⟨t.toArray⟩:ByteArray)[j]? = t[j]?:=by
 by_cases h:j < t.length
 ·have h':j < (⟨t.toArray⟩:ByteArray).size:=by rw [pb]; exact h
  rw [getElem?_pos (⟨t.toArray⟩:ByteArray) j h',ah h]; rfl
 ·have h':¬ j < (⟨t.toArray⟩:ByteArray).size:=by rw [pb]; exact h
  rw [getElem?_neg (⟨t.toArray⟩:ByteArray) j h',dc (by omega)]
end
end Go.Abs

namespace Go.Abs
def OpDone (E:Env) (lo:Nat) (D:List Nat) (μ:MM) (w:World) (a:Act) (dst:Option Tmp) (r:Result Next) (x:Slot) (s':Slots) (h':Heap):Prop :=
 ∃ v w' μ' ν',ν'.ds=D∧(r = .ok (.value v) w'∨(v=Go.undef∧r = .ok .skip w'))∧Step (fun k=>lo≤k) h'.wmin μ w μ' w'∧Rel E μ' h' w' ∧
  FRel E lo ν' μ' (iu (sget s') dst x) (a.put dst v).tmps w'
section
variable {E:Env} {lo:Nat} {ν:Fr} {μ:MM} {s:Slots} {h:Heap} {a:Act} {w:World} {dst:Option Tmp} {r:Result Next}
theorem jv (a:Act) (dst:Option Tmp) (v:Value):(a.put dst v).tmps=putT a.tmps dst v:=by cases dst <;> rfl
theorem FRel.heap {g:SlotFn} {tmps:Array Value} {w':World} (hf:FRel E lo ν μ g tmps w) (hw:w'.heap=w.heap):FRel E lo ν μ g tmps w' :=
 hf.keep (Later.refl _) (fun _ _ _=>by rw [hw]) (fun _ _ i m _ hi hm=>absurd (aj hm) (by omega)) fun _ _=>⟨by rw [hw],fun i m hi hm=>absurd (aj hm) (by omega)⟩
theorem eq (hf:FRel E lo ν μ (sget s) a.tmps w) (hr:Rel E μ h w) (hd:∀ x,dst=some x→x < a.tmps.size) {v:Value} {u:AVal} (hrun:r = .ok (.value v) w) (hv:VRel E μ u v) :
  OpDone E lo ν.ds μ w a dst r (.val u) s h:=by
 refine ⟨v,w,μ,ν,rfl,.inl hrun,Step.refl _ _ _ _,hr,?_⟩;rw [jv];exact hf.setVal hd hv
theorem za5 (hf:FRel E lo ν μ (sget s) a.tmps w) (hr:Rel E μ h w) (hd:∀ x,dst=some x→x < a.tmps.size) {t o:Nat} (hrun:r = .ok (.value (.pointer (some ⟨ν t,o,none⟩))) w) :
  OpDone E lo ν.ds μ w a dst r (.loc t o) s h:=by
 refine ⟨_,w,μ,ν,rfl,.inl hrun,Step.refl _ _ _ _,hr,?_⟩;rw [jv];cases dst with
 | none=>exact hf.congr fun t=>by simp [iu]
 | some d=>exact hf.setLoc (hd d rfl)
theorem lp (hf:FRel E lo ν μ (sget s) a.tmps w) (hr:Rel E μ h w) (hd:∀ x,dst=some x→x < a.tmps.size) (o:AObj) (B:Obj) (m:M) (hm:m.blk=w.heap.size) {w1:World} {v:Value} {u:AVal}
  (hrun:r = .ok (.value v) w1) (h1:w1.heap=w.heap.push B) (h2:w1.os=w.os) (h3:w1.tape=w.tape) (h4:w1.output=w.output)
  (ho:ORel E (μ++[some m]) h.base μ.length { w with heap:=w.heap.push B } o) (hv:VRel E (μ++[some m]) u v) :
  OpDone E lo ν.ds μ w a dst r (.val u) s (h.push o):=by
 have hp:=hr.push o B m hm ho;have hs:Step (fun k=>lo≤k) (h.push o).wmin μ w (μ++[some m]) { w with heap:=w.heap.push B }:=Step.push _ μ w B m (by omega);refine ⟨v,w1,μ++[some m],ν,rfl,.inl hrun,hs.heap h1 h2 h3 h4,hp.same rfl rfl h1,?_⟩
 have hf1:FRel E lo ν (μ++[some m]) (sget s) a.tmps { w with heap:=w.heap.push B }:=by
  refine hf.keep (ix μ _) (fun t cs hv=>?_) (fun t cs i m' hv hi hm'=>?_) fun r hr=>⟨?_,fun i m' hi hm'=>?_⟩
  ·have:=hf.lt hv;show (w.heap.push B)[ν t]? = _;rw [fe,if_neg (by omega)]
  ·rcases kh hm' with b | ⟨_,b⟩
   ·exact absurd (aj b) (by omega)
   ·cases b; have:=hf.lt hv; omega
  ·have:=hf.lt_ds hr;show (w.heap.push B)[r]? = _;rw [fe,if_neg (by omega)]
  ·rcases kh hm' with b | ⟨_,b⟩
   ·exact absurd (aj b) (by omega)
   ·cases b; have:=hf.lt_ds hr; omega
 rw [jv];exact (hf1.setVal hd hv).heap h1
theorem done_var (hf:FRel E lo ν μ (sget s) a.tmps w) (hr:Rel E μ h w) (hlo:lo≤w.heap.size) {d:Nat} (hd:d < a.tmps.size) {cs:List AVal} {c:Array Value} (e:TypeId)
  (hc:VRels E μ cs c.toList) (h1:∀ x ∈ cs,x.isOne=true) (hrun:r = .ok (.value (.pointer (some ⟨w.heap.size,0,none⟩))) { w with heap:=w.heap.push (.cells c e (0,0)) }) :
  OpDone E lo ν.ds μ w a (some d) r (.var cs) (py d s) h:=by
 refine ⟨_,_,μ,⟨fun t=>if t=d then w.heap.size else ν t,ν.ds⟩,rfl,.inl hrun,?_,hr.keep (by simp) fun i m hm=>?_,?_⟩
 ·exact ⟨rfl,rfl,rfl,by simp,fun k hk _ _=>by
   show (w.heap.push _)[k]? = _
   rw [fe,if_neg (by omega)],ai _,fun _ _=>.inl rfl,fun i m hi hm=>absurd (aj hm) (by omega)⟩
 ·have:=hr.lt i m hm;show (w.heap.push _)[m.blk]? = _;rw [fe,if_neg (by omega)]
 ·rw [jv];exact hf.setVar hr.lt hlo hd e hc h1
theorem tp {P:Program} {t:TypeId} {z:List AVal} (hz:zeroOf P t=some z) (μ:MM) (w:World):∃ v,(zeroValue t).run P w = .ok v w∧VRels E μ z v.cells.toList∧∀ x ∈ z,x.isOne=true:=by
 unfold zeroOf at hz;split at hz
 ·rename_i i hi;split at hz
  ·rename_i v hv;obtain ⟨k1,k2⟩:=t8 (E:=E) hz μ;exact ⟨v,by simp [zeroValue,typeInfo,hi,hv],k1,k2⟩
  ·cases hz
 ·cases hz
theorem info_zero {P:Program} {t:TypeId} {z:List AVal} (hz:zeroOf P t=some z):∃ i v,P.info? t=some i∧i.zero=some v∧toAs v.cells.toList=some z:=by
 unfold zeroOf at hz;split at hz
 ·rename_i i hi;split at hz
  ·rename_i v hv;exact ⟨i,v,hi,hv,hz⟩
  ·cases hz
 ·cases hz
theorem qu {cs:List AVal} {c:Array Value} {e:TypeId} {esz b:Nat} {m:M} (hc:VRels E μ cs c.toList) (h1:∀ x ∈ cs,x.isOne=true) (hm:m=⟨w.heap.size,0,c.size,esz⟩) :
  ORel E (μ++[some m]) b μ.length { w with heap:=w.heap.push (.cells c e (0,0)) } (.cells esz cs):=by
 subst hm;have hl:=hc.length;refine ⟨⟨w.heap.size,0,c.size,esz⟩,c,e,(0,0),by simp,rfl,by simp,rfl,by simp at hl ⊢; omega,fun k v hk=>?_,fun _ off _=>by simp⟩;obtain ⟨v',hv',hr⟩:=hc.get hk;exact ⟨h1 v (bz hk),v',by simpa using hv',hr.later (ix μ _)⟩
theorem ptr_new {m:M} (hm:m.base=0):VRel E (μ++[some m]) (.ptr (some (μ.length,0))) (.pointer (some ⟨m.blk,0,none⟩)):=by simp only [VRel];exact ⟨_,rfl,some m,by simp,fun m' h=>by cases h; rw [hm]⟩
theorem oc {m:M} {n cap:Nat} {c:Option Nat} (hm:m.base=0) (hn:n≤cap) (hc:∀ k,c=some k→cap=k) (hs:cap*m.esz≤m.size) (hx:cap≤9223372036854775807) :
  VRel E (μ++[some m]) (.slice (some (μ.length,0)) n c) (.slice (some ⟨m.blk,0,none⟩) n cap):=by
 simp only [VRel];refine ⟨_,cap,rfl,⟨by simp,hx⟩,fun _=>⟨some m,by simp,fun m' h=>by cases h; rw [hm]⟩,hc,hn,fun m' h=>?_⟩;simp at h; subst h; omega
theorem zg:∀ (xs:List Value) (cs:Array Value) (off j:Nat),(xs.zipIdx j).foldl (fun (cs:Array Value) (x:Value × Nat)=>cs.setIfInBounds (off+x.2) x.1) cs=ik cs (off+j) xs
 | [],_,_,_=>rfl
 | x :: xs,cs,off,j=>by simp only [List.zipIdx_cons,List.foldl_cons,ik];exact zg xs _ off (j+1)
theorem tq (hf:FRel E lo ν μ (sget s) a.tmps w) {place:Nat→Option (Nat × Nat)}:∀ {ps:List (Nat × Operand)} {qs:List (Nat × Nat × Opd)} {cs cs':List AVal} {c:Array Value},
  cParts E place ps=some qs→Abs.fill s cs qs=some cs'→VRels E μ cs c.toList→(∀ x ∈ cs,x.isOne=true) →
  ∃ c':Array Value,Instr.fill place c (ps.map fun p=>(p.1,a.eval p.2))=some c'∧VRels E μ cs' c'.toList∧(∀ x ∈ cs',x.isOne=true)∧c'.size=c.size
 | [],qs,cs,cs',c,hq,he,hc,h1=>by simp only [cParts] at hq; cases hq;simp only [Abs.fill] at he; cases he;exact ⟨c,rfl,hc,h1,rfl⟩
 | (i,x) :: ps,qs,cs,cs',c,hq,he,hc,h1=>by
  simp only [cParts] at hq;split at hq
  ·rename_i o n y qs' hp hx hps;cases hq;simp only [Abs.fill] at he;split at he
   ·rename_i xs hxs;split at he
    ·rename_i hh;obtain ⟨hn,hlen⟩:=hh;cases hev:y.ev s with
     | none=>rw [hev] at hxs; simp at hxs
     | some v =>
      rw [hev] at hxs;simp only [Option.bind_some] at hxs;have hv:=df hf hx hev;obtain ⟨k1,k2⟩:=qw hv hxs;have k3:=k1.length;have hlc:=hc.length
      have hcr:CRel E μ cs c 0:=fun k v' hk=>by obtain ⟨u,hu,hr⟩:=hc.get hk;exact ⟨h1 v' (bz hk),u,by simpa using hu,hr⟩
      have hsp:=hcr.splice k1 k2 (o:=o) (by omega) (by simp at hlc; omega);have hl2:=lj cs o xs (by omega);have hsz:=gn (a.eval x).cells.toList c (0+o)
      have hrel:VRels E μ (Abs.splice cs o xs) (ik c (0+o) (a.eval x).cells.toList).toList:=by
       apply VRels.of
       ·simp [hl2,gn]; simpa using hlc
       ·intro k v' hk;obtain ⟨_,u,hu,hr⟩:=hsp k v' hk;exact ⟨u,by simpa using hu,hr⟩
      have hone:∀ x' ∈ Abs.splice cs o xs,x'.isOne=true:=fun x' hx'=>by obtain ⟨k,hk⟩:=je hx';exact (hsp k x' hk).1
      obtain ⟨c',j1,j2,j3,j4⟩:=tq hf hps he hrel hone;refine ⟨c',?_,j2,j3,by rw [j4,hsz]⟩;simp only [cf,Instr.fill,hp]
      have e1:((a.eval x).cells.size≠n || o+(a.eval x).cells.size > c.size)=false:=by simp at k3 hlc;simp; omega
      rw [if_neg (by simp only [e1]; exact Bool.false_ne_true)]
      have e2:((a.eval x).cells.zipIdx.foldl (fun (cs:Array Value) (x:Value × Nat)=>cs.setIfInBounds (o+x.2) x.1) c)=ik c (0+o) (a.eval x).cells.toList:=by have:=zg (a.eval x).cells.toList c o 0;rw [← Array.foldl_toList,Array.toList_zipIdx,this];congr 1; omega
      rw [e2]; exact j1
    ·cases he
   ·cases he
  ·cases hq
theorem za6 {P:Program} (w:World):∀ {fs:List Field} {pl:List (Nat × Nat)},fieldPlaces P fs=some pl→(fs.mapM fun f=>(Functor.map (Prod.mk f.offset) (sizeOf f.type):Sem (Nat × Nat))).run P w = .ok pl w
 | [],pl,h=>by simp only [fieldPlaces] at h; cases h; rfl
 | f :: fs,pl,h=>by
  simp only [fieldPlaces] at h;split at h
  ·rename_i n l hn hl;cases h;have ih:=za6 w hl;simp only [List.mapM_cons,Sem.run_bind,Sem.run_map,jj hn,Result.andThen_ok,Sem.run_pure,ih]
  ·cases h
end
end Go.Abs

namespace Go.Abs
section
variable {E:Env} {lo:Nat} {ν:Fr} {μ:MM} {s:Slots} {h:Heap} {a:Act} {w:World}
theorem rep_get {α:Type} (l:List α) (k:Nat) (hk:l.length=k) (h0:0 < k):∀ (n i:Nat),i < n*k→((List.replicate n l).flatten)[i]? = l[i % k]?
 | 0,i,h=>by omega
 | n+1,i,h=>by
  rw [o8,oq];by_cases hi:i < k
  ·rw [ag (by omega),Nat.mod_eq_of_lt hi]
  ·rw [ak (by omega),hk,rep_get l k hk h0 n (i - k) (by rw [gg] at h; omega)];congr 1;rw [Nat.mod_eq_sub_mod (a:=i) (by omega)]
theorem pn {α:Type} (l:List α) (k:Nat) (hk:l.length=k):∀ n,((List.replicate n l).flatten).length=n*k
 | 0=>by simp
 | n+1=>by rw [o8,oq,aq,hk,pn l k hk n,gg]; omega
theorem z8 {z:List AVal} {zero:Array Value} {k n:Nat} (hz:VRels E μ z zero.toList) (h1:∀ x ∈ z,x.isOne=true) (hk:z.length=k) (h0:0 < k) :
  VRels E μ (rep n z) ((Array.range (n*k)).map fun i=>zero[i % zero.size]!).toList∧(∀ x ∈ rep n z,x.isOne=true):=by
 have hl:=hz.length;simp at hl;constructor
 ·apply VRels.of
  ·rw [rep,pn z k hk]; simp
  ·intro i x hx
   have hi:i < n*k:=by have:=aj hx;rw [rep,pn z k hk] at this; exact this
   rw [rep,rep_get z k hk h0 n i hi] at hx;obtain ⟨v,hv,hr⟩:=hz.get hx;refine ⟨v,?_,hr⟩;have hm:i % zero.size < zero.size:=Nat.mod_lt _ (by omega);have e:zero.size=k:=by omega
   simp [hi];rw [e] at hm ⊢;rw [nk] at hv;rw [getElem!_pos zero _ (by omega)];rw [j9 (by omega)] at hv;simpa using hv
 ·intro x hx;unfold rep at hx;rw [List.mem_flatten] at hx;obtain ⟨l,hl1,hl2⟩:=hx;rw [List.mem_replicate] at hl1;rw [hl1.2] at hl2;exact h1 x hl2
theorem zf:∀ {cs:List AVal} {t:List UInt8} {l:List Value},bytesOf cs=some t→VRels E μ cs l→∃ ns:List Int,l=ns.map (Value.int .u8)∧t=ns.map fun n=>UInt8.ofNat n.toNat
 | [],t,l,h,hl=>by simp only [bytesOf] at h; cases h;simp only [VRels] at hl; subst hl;exact ⟨[],rfl,rfl⟩
 | c :: cs,t,l,h,hl=>by
  simp only [VRels] at hl;obtain ⟨v,r,rfl,hv,hr⟩:=hl;unfold bytesOf at h;split at h
  ·rename_i h0; cases h0
  ·rename_i n r' h0;cases h0;rw [ae] at h;obtain ⟨t',ht,rfl⟩:=h;simp only [VRel] at hv; subst hv;obtain ⟨ns,e1,e2⟩:=zf ht hr;exact ⟨n :: ns,by simp [e1],by simp [e2]⟩
  ·cases h
theorem za4:∀ (ns:List Int) (r:ByteArray),ns.foldl (fun r n=>r.push (UInt8.ofNat n.toNat)) r=⟨(r.data.toList++ns.map fun n=>UInt8.ofNat n.toNat).toArray⟩
 | [],r=>by simp
 | n :: ns,r=>by rw [List.foldl_cons,za4 ns];simp
theorem done_store (hf:FRel E lo ν μ (sget s) a.tmps w) (hr:Rel E μ h w) {dst:Option Tmp} {r:Result Next} (hd:∀ x,dst=some x→x < a.tmps.size) {x:Operand} {y:Opd} {ad:AAddr} {xs:List AVal} {l:List Value} {s':Slots} {h':Heap}
  (hc:ii E x=some y) (hy:y.adr s=some ad) (hxs:VRels E μ xs l) (h1:∀ v ∈ xs,v.isOne=true) (hst:storeAt s h ad xs=some (s',h'))
  (hrun:∀ adr,a.eval x = .pointer (some adr)→r=((storeCells adr l).run E.P w).andThen fun _ w'=>.ok .skip w') :
  OpDone E lo ν.ds μ w a dst r .undef s' h':=by
 have hlen:=hxs.length;have hone:=nc hxs h1;cases ad with
 | glob i o =>
  simp only [storeAt] at hst;split at hst
  ·rename_i esz cs hg;split at hst
   ·rename_i hh;cases hst;obtain ⟨hb,hl⟩:=hh;obtain ⟨m,c,e,fr,k1,k2,k3,k4,k5,k6,k7⟩:=hr.obj i _ hg;obtain ⟨adr,k8,x',k9,k10⟩:=tz hf hc hy;rw [k1] at k9; cases k9;have:=k10 m rfl; subst this;have hrs:=ki (P:=E.P) (b:=m.blk) (e:=e) (fr:=fr) (a:=⟨m.blk,m.base+o,none⟩) rfl rfl l 0 c w k3 (by simp; omega) (by rw [k4]; exact (k7 hb).lt) hone;have hsp:=k6.splice hxs h1 hl (by omega);refine ⟨Go.undef,_,μ,ν,rfl,.inr ⟨rfl,by rw [hrun _ k8,hrs]; rfl⟩,Step.put k1 (gc _ _) _,hr.put hb k1 ?_,?_⟩
    ·exact ⟨m,_,e,fr,k1,k2,ga (hr.lt i m k1),by rw [gn]; exact k4,by rw [lj _ _ _ hl]; exact k5,hsp,k7⟩
    ·rw [jv];refine FRel.setUndef ?_ hd;exact hf.keep (Later.refl _) (fun t cs' hv=>da (hf.sepm t cs' i m hv k1)) (fun t cs' j m' _ hj hm=>absurd (aj hm) (by omega)) fun q hq=>⟨da ((hf.sepd q hq).1 i m k1),fun j m' hj hm=>absurd (aj hm) (by omega)⟩
   ·cases hst
  ·cases hst
 | loc t o =>
  simp only [storeAt] at hst;split at hst
  ·rename_i cs hg;split at hst
   ·rename_i hl;cases hst;obtain ⟨_,k2,c,e,fr,k3,k4,k5,k6⟩:=hf.var t _ hg;have k8:=wz hf hc hy hg;have hrs:=ki (P:=E.P) (b:=ν t) (e:=e) (fr:=fr) (a:=⟨ν t,o,none⟩) rfl rfl l 0 c w k3 (by simp; omega) k6 hone;have hsp:=k5.splice hxs h1 hl (by omega);have hsz:=gn l c (0+o);simp only [dk] at hsp hsz;refine ⟨Go.undef,_,μ,ν,rfl,.inr ⟨rfl,by rw [hrun _ k8,hrs]; rfl⟩,?_,hr.keep (by simp [di]) fun i m hm=>da (fun e=>hf.sepm t _ i m hg hm e.symm),?_⟩
    ·exact ⟨rfl,rfl,rfl,by simp [di],fun k hk hx _=>da (fun e=>hx (by rw [← e]; exact k2)),ai _,fun _ _=>.inl rfl,fun i m hi hm=>absurd (aj hm) (by omega)⟩
    ·rw [jv];refine FRel.setUndef ?_ hd;simp only [iz];exact hf.putVar hg (by rw [hsz,lj _ _ _ hl]; exact k4) hsp (by rw [hsz]; exact k6)
   ·cases hst
  ·cases hst
theorem done_hstore (hf:FRel E lo ν μ (sget s) a.tmps w) (hr:Rel E μ h w) {dst:Option Tmp} {r:Result Next} (hd:∀ x,dst=some x→x < a.tmps.size) {i o esz:Nat} {xs cs:List AVal} {l:List Value} {u:Value}
  (hu:VRel E μ (.ptr (some (i,o))) u) (hxs:VRels E μ xs l) (h1:∀ v ∈ xs,v.isOne=true) (hg:h.get i=some (.cells esz cs)) (hb:h.base≤i) (hl:o+xs.length≤cs.length)
  (hrun:∀ adr,u = .pointer (some adr)→r=((storeCells adr l).run E.P w).andThen fun _ w'=>.ok .skip w') :
  OpDone E lo ν.ds μ w a dst r (.val (.tuple [])) s (h.put i (.cells esz (splice cs o xs))):=by
 have hlen:=hxs.length;have hone:=nc hxs h1;obtain ⟨m,c,e,fr,k1,k2,k3,k4,k5,k6,k7⟩:=hr.obj i _ hg;simp only [VRel] at hu;obtain ⟨adr,k8,x',k9,k10⟩:=hu;rw [k1] at k9; cases k9;have:=k10 m rfl; subst this;have hrs:=ki (P:=E.P) (b:=m.blk) (e:=e) (fr:=fr) (a:=⟨m.blk,m.base+o,none⟩) rfl rfl l 0 c w k3 (by simp; omega) (by rw [k4]; exact (k7 hb).lt) hone;have hsp:=k6.splice hxs h1 hl (by omega);refine ⟨Go.undef,_,μ,ν,rfl,.inr ⟨rfl,by rw [hrun _ k8,hrs]; rfl⟩,Step.put k1 (gc _ _) _,hr.put hb k1 ?_,?_⟩
 ·exact ⟨m,_,e,fr,k1,k2,ga (hr.lt i m k1),by rw [gn]; exact k4,by rw [lj _ _ _ hl]; exact k5,hsp,k7⟩
 ·rw [jv];refine FRel.setVal ?_ hd (by simp only [VRel]; exact ⟨#[],rfl,by simp [VRels]⟩);exact hf.keep (Later.refl _) (fun t cs' hv=>da (hf.sepm t cs' i m hv k1)) (fun t cs' j m' _ hj hm=>absurd (aj hm) (by omega)) fun q hq=>⟨da ((hf.sepd q hq).1 i m k1),fun j m' hj hm=>absurd (aj hm) (by omega)⟩
theorem copy_done (hf:FRel E lo ν μ (sget s) a.tmps w) (hr:Rel E μ h w) {dst:Option Tmp} {r:Result Next} (hd:∀ x,dst=some x→x < a.tmps.size)
  {t u ty e:TypeId} {ez:Nat} {x y v:AVal} {vx vy:Value} {h':Heap} (ht:E.P.underlying t=some (.slice e)) (hn:sizeT E.P e=some ez)
  (hx:VRel E μ x vx) (hy:VRel E μ y vy) (he:dl (.copy ez) [x,y] h=some (v,h'))
  (hrun:r=((Builtin.copy_ #[t,u] ty #[vx,vy]).run E.P w).andThen fun v w'=>.ok (.value v) w') :
  OpDone E lo ν.ds μ w a dst r (.val v) s h':=by
 cases x with
 | slice ao n c=>?_
 | _=>simp [dl] at he
 simp only [dl] at he;generalize hkk:min n (alen y)=k at he;split at he;case h_2=>cases he
 rename_i src hsrc;cases y with
 | slice ya yn yc=>?_
 | _=>cases hsrc
 have hkk:min n yn=k:=hkk;have hk:k≤yn:=by omega
 have hsrc:il ez h (.slice ya k yc)=some src:=by rw [← hsrc];exact (if_pos hk).symm
 obtain ⟨yb,ycap,hvy,hyk⟩:∃ yb ycap,vy = .slice yb yn ycap∧VRel E μ (.slice ya k yc) (.slice yb k ycap):=by
  cases ya with
  | none=>simp only [VRel] at hy ⊢; obtain ⟨rfl,h2,h3⟩:=hy; exact ⟨none,0,h3,by omega,h2,by rw [show k=0 by omega]⟩
  | some p =>
   obtain ⟨i,o⟩:=p;simp only [VRel] at hy ⊢;obtain ⟨ad,cap,h1,h2,h3,h4,h5,h6⟩:=hy;exact ⟨some ad,cap,h1,ad,cap,rfl,h2,h3,h4,by omega,h6⟩
 obtain ⟨l,k',q1,q2,q3,q4,q5,q6⟩:=qv hr hyk hsrc;have q5:k'=k:=q5;subst q5;have hfc:=q6 E.P w rfl
 have hfc2:(Builtin.firstCells ez k' vy).run E.P w = .ok l.toArray w:=by
  rw [hvy];cases yb with
  | none=>exact hfc
  | some ad=>exact hfc
 have hlen:(Builtin.lenOf vy).run E.P w = .ok yn w:=by rw [hvy]; rfl
 split at he
 ·rename_i h0;cases he;have hl0:l=[]:=bq (by rw [q4,h0]; simp);subst hl0;refine eq hf hr hd (v:=.int .i64 0) ?_ (by simp [VRel]);rw [hrun]
  obtain ⟨b,cap,hvx⟩:∃ b cap,vx = .slice b n cap:=by
   cases ao with
   | none=>simp only [VRel] at hx; exact ⟨none,0,by rw [hx.2.2,hx.1]⟩
   | some p=>obtain ⟨i,o⟩:=p; simp only [VRel] at hx; obtain ⟨ad,cap,h1,_⟩:=hx; exact ⟨some ad,cap,h1⟩
  have h0':Nat.min yn n=0:=by rw [show Nat.min yn n=min n yn from Nat.min_comm _ _]; omega
  rw [h0] at hfc2;rw [hvx];cases b <;> simp [Builtin.copy_,run_underlying ht,jj hn,hlen,hfc2,storeCells,goInt,h0']
 ·rename_i h0;split at he;case h_2=>cases he
  rename_i i o;split at he;case h_2=>cases he
  rename_i e1 cs hg;split at he;case isFalse=>cases he
  rename_i hh;obtain ⟨rfl,hb,hl⟩:=hh;cases he;simp only [VRel] at hx;obtain ⟨ad,cap,hvx,hi,hA,hck,hcap,hsz⟩:=hx;obtain ⟨m,cc,te,fr,k1,k2,k3,k4,k5,k6,k7⟩:=hr.obj i _ hg;obtain ⟨x',k8,k9⟩:=hA (by omega);rw [k1] at k8; cases k8;have:=k9 m rfl; subst this;have hone:=nc q1 q2;have hll:=q1.length;have hrs:=ki (P:=E.P) (b:=m.blk) (e:=te) (fr:=fr) (a:=⟨m.blk,m.base+o,none⟩) rfl rfl l 0 cc w k3 (by simp; omega) (by rw [k4]; exact (k7 hb).lt) hone;have hsp:=k6.splice q1 q2 hl (by omega);have hkn:k'=Nat.min yn n:=hkk.symm.trans (Nat.min_comm _ _);rw [hkn] at hfc2;refine ⟨.int .i64 ((k':Nat):Int),di w m.blk (.cells (ik cc (m.base+o+0) l) te fr),μ,ν,rfl,.inl ?_,Step.put k1 (gc _ _) _,hr.put hb k1 ?_,?_⟩
  ·rw [hrun,hvx];simp [Builtin.copy_,run_underlying ht,jj hn,hlen,hfc2,hrs,goInt];first | exact hkn.symm | exact hkn | omega
  ·exact ⟨m,_,te,fr,k1,k2,ga (hr.lt i m k1),by rw [gn]; exact k4,by rw [lj _ _ _ hl]; exact k5,hsp,k7⟩
  ·rw [jv];refine FRel.setVal ?_ hd (by simp only [VRel]);exact hf.keep (Later.refl _) (fun t cs' hv=>da (hf.sepm t cs' i m hv k1)) (fun t cs' j m' _ hj hm=>absurd (aj hm) (by omega)) fun q hq=>⟨da ((hf.sepd q hq).1 i m k1),fun j m' hj hm=>absurd (aj hm) (by omega)⟩
theorem appz_done (hf:FRel E lo ν μ (sget s) a.tmps w) (hr:Rel E μ h w) {dst:Option Tmp} {r:Result Next} (hd:∀ x,dst=some x→x < a.tmps.size)
  {t u ty e:TypeId} {kq:IntKind} {i:TypeInfo} {z:List AVal} {x y v:AVal} {vx vy:Value} {h':Heap} (ht:E.P.underlying t=some (.slice e)) (hu:E.P.underlying u=some (.int kq)) (hi:E.P.info? e=some i) (hz:zeroOf E.P e=some z) (hzl:z.length=i.size) (h0:0 < i.size)
  (hx:VRel E μ x vx) (hy:VRel E μ y vy) (he:dl (.appz i.size i.bytes z) [x,y] h=some (v,h'))
  (hrun:r=((Builtin.append_ #[t,u] ty #[vx,vy]).run E.P w).andThen fun v w'=>.ok (.value v) w') :
  OpDone E lo ν.ds μ w a dst r (.val v) s h':=by
 cases x with
 | slice ao n c=>?_
 | _=>simp [dl] at he
 cases y with
 | int kd m=>?_
 | _=>simp [dl] at he
 cases kd <;> simp only [dl,reduceCtorEq] at he
 obtain ⟨i',zv,hi',hzv,hzt⟩:=info_zero hz;rw [hi] at hi'; cases hi';simp only [VRel] at hy;subst hy
 have hvx:∃ b cap,vx = .slice b n cap∧n≤cap∧∀ k,c=some k→cap=k:=by
  cases ao with
  | none=>simp only [VRel] at hx; obtain ⟨e1,e2,e3⟩:=hx; exact ⟨none,0,by rw [e3,e1],by omega,fun k hk=>by rw [e2] at hk; cases hk; rfl⟩
  | some p=>obtain ⟨j,o⟩:=p; simp only [VRel] at hx; obtain ⟨ad,cap,h1,_,_,h4,h5,_⟩:=hx; exact ⟨some ad,cap,h1,h5,h4⟩
 obtain ⟨b,cap,hvx,hcap,hck⟩:=hvx;split at he
 ·rename_i hm;subst hm;cases he;refine eq hf hr hd ?_ hx;rw [hrun,hvx];have hw:IntKind.i64.wrap 0=0:=by decide
  cases b <;> simp [Builtin.append_,run_underlying ht,run_underlying hu,sizeOf,typeInfo,hi,asInt,asIntOf,hw,hcap,storeCells]
 ·rename_i hm;split at he;case h_2=>cases he
  rename_i old k hold;split at he;case isFalse=>cases he
  rename_i hh;obtain ⟨hm0,hk,hb,h63⟩:=hh;cases he;obtain ⟨q,rfl⟩:=fz (show 0≤m by omega);simp only [kb] at hk hb h63 ⊢;have hcapk:=hck k rfl;subst hcapk;obtain ⟨lo1,n1,o1,o2,o3,o4,o5,o6⟩:=qv hr hx hold;simp only [alen] at o5;subst o5;have hfit:=growslice_fits (need:=n1+q) (old:=cap) (bytes:=i.bytes) hk hb
  have hq:q*i.bytes≤281474976710656:=by have:q*i.bytes≤(n1+q)*i.bytes:=im _ (by omega);omega
  have hgr:=Go.Lib.run_append_grow_zeros (P:=E.P) w t u ty e i zv .i64 kq ht hu hi hzv b n1 cap lo1 (by rw [← hvx]; exact o6 E.P w.drew rfl) q (by omega) h0 hk (by omega) hq hfit;rw [hvx,hgr] at hrun;obtain ⟨k2,k3⟩:=t8 (E:=E) hzt μ;obtain ⟨r1,r2⟩:=z8 (n:=q) k2 k3 hzl h0;have hg:n1+q≤grownCap w (n1+q) cap e:=by simp [grownCap,Question.cut]
  have hzc:zv.cells.size=i.size:=by have:=k2.length; simp at this; omega
  have hzz:(Builtin.zeroCells zv.cells q).toList=((Array.range (q*i.size)).map fun j=>zv.cells[j % zv.cells.size]!).toList:=by unfold Builtin.zeroCells; rw [hzc]
  rw [← hzz] at r1;generalize hZ:Builtin.zeroCells zv.cells q=Z at r1 hrun;have hZs:Z.size=q*i.size:=by rw [← hZ]; simp [Builtin.zeroCells,hzc]
  generalize hcell:lo1.toArray++Z++Builtin.zeroCells zv.cells (grownCap w (n1+q) cap e - (n1+q))=C at hrun
  have hC:C.size=grownCap w (n1+q) cap e*i.size:=by rw [← hcell];simp [Builtin.zeroCells,o4,hZs,hzc];rw [← gg,← gg]; congr 1; omega
  have hcat:=o1.append r1;have hlen:h.size=μ.length:=hr.len.symm;rw [hlen];refine lp hf hr hd (.cells i.size (old++rep q z)) (.cells C e) ⟨w.heap.size,0,C.size,i.size⟩ rfl (w1:=w.drew.alloc (.cells C e)) hrun rfl rfl rfl rfl ?_ ?_
  ·refine ⟨⟨w.heap.size,0,C.size,i.size⟩,C,e,(0,0),by simp,rfl,by simp,rfl,?_,fun k v' hk=>⟨?_,?_⟩,fun _ off _=>by simp⟩
   ·have e1:=o1.length;have e2:(rep q z).length=q*i.size:=by rw [rep,pn z _ hzl]
    simp only [aq,dk,e1,e2,o4,hC,← gg];exact im _ hg
   ·rcases bp.1 (bz hk) with hm' | hm'
    ·exact o2 _ hm'
    ·exact r2 _ hm'
   ·obtain ⟨u',hu',hr'⟩:=hcat.get hk;refine ⟨u',?_,hr'.later (ix μ _)⟩;have hl2:=aj hu';rw [dk,← hcell,nh (by simpa using hl2),← nk,Array.toList_append];exact hu'
  ·exact oc rfl hg (fun k hk=>by cases hk) (by simp [hC]) (grownCap_le_maxLen w (n1+q) cap e h63)
theorem clear_done (hf:FRel E lo ν μ (sget s) a.tmps w) (hr:Rel E μ h w) {dst:Option Tmp} {r:Result Next} (hd:∀ x,dst=some x→x < a.tmps.size)
  {t ty e:TypeId} {ez:Nat} {z:List AVal} {x v:AVal} {vx:Value} {h':Heap} (ht:E.P.underlying t=some (.slice e)) (hz:zeroOf E.P e=some z) (hzl:z.length=ez) (h0:0 < ez)
  (hx:VRel E μ x vx) (he:dl (.clear ez z) [x] h=some (v,h'))
  (hrun:r=((Builtin.clear_ #[t] ty #[vx]).run E.P w).andThen fun v w'=>.ok (.value v) w') :
  OpDone E lo ν.ds μ w a dst r (.val v) s h':=by
 cases x with
 | slice ao n c=>?_
 | _=>simp [dl] at he
 simp only [dl] at he;split at he
 ·rename_i hn0;subst hn0;cases he;refine eq hf hr hd (v:=.tuple #[]) ?_ (by simp only [VRel]; exact ⟨#[],rfl,by simp [VRels]⟩);rw [hrun]
  obtain ⟨b,cap,hvx⟩:∃ b cap,vx = .slice b 0 cap:=by
   cases ao with
   | none=>simp only [VRel] at hx; exact ⟨none,0,hx.2.2⟩
   | some p=>obtain ⟨i,o⟩:=p; simp only [VRel] at hx; obtain ⟨ad,cap,h1,_⟩:=hx; exact ⟨some ad,cap,h1⟩
  rw [hvx];cases b <;> simp [Builtin.clear_,run_underlying ht]
 ·rename_i hn0;split at he;case h_2=>cases he
  rename_i i o;split at he;case h_2=>cases he
  rename_i e1 cs hg;split at he;case isFalse=>cases he
  rename_i hh;obtain ⟨rfl,hb,hl⟩:=hh;cases he;simp only [VRel] at hx;obtain ⟨ad,cap,hvx,hi,hA,hck,hcap,hsz⟩:=hx;obtain ⟨m,cc,te,fr,k1,k2,k3,k4,k5,k6,k7⟩:=hr.obj i _ hg;obtain ⟨x',k8,k9⟩:=hA (by omega);rw [k1] at k8; cases k8;have:=k9 m rfl; subst this;obtain ⟨zv,z1,z2,z3⟩:=tp (E:=E) hz μ w;obtain ⟨q1,q2⟩:=z8 (n:=n) z2 z3 hzl h0;have hlz:(rep n z).length=n*e1:=by rw [rep,pn z e1 hzl]
  have hzc:(Builtin.zeroCells zv.cells n)=(Array.range (n*e1)).map fun i=>zv.cells[i % zv.cells.size]! := by have:=z2.length;simp at this;unfold Builtin.zeroCells;rw [← this,hzl]
  generalize hL:((Array.range (n*e1)).map fun i=>zv.cells[i % zv.cells.size]!).toList=l at q1;have hzl2:(Builtin.zeroCells zv.cells n).toList=l:=by rw [hzc,hL]
  have hone:=nc q1 q2;have hll:=q1.length;have hrs:=ki (P:=E.P) (b:=m.blk) (e:=te) (fr:=fr) (a:=⟨m.blk,m.base+o,none⟩) rfl rfl l 0 cc w k3 (by simp; omega) (by rw [k4]; exact (k7 hb).lt) hone;have hsp:=k6.splice q1 q2 (by rw [hlz]; exact hl) (by omega);refine ⟨.tuple #[],di w m.blk (.cells (ik cc (m.base+o+0) l) te fr),μ,ν,rfl,.inl ?_,Step.put k1 (gc _ _) _,hr.put hb k1 ?_,?_⟩
  ·rw [hrun,hvx];obtain ⟨n',rfl⟩:∃ n',n=n'+1:=⟨n - 1,by omega⟩;simp only [Builtin.clear_];simp [run_underlying ht,z1,hzl2,hrs]
  ·exact ⟨m,_,te,fr,k1,k2,ga (hr.lt i m k1),by rw [gn]; exact k4,by rw [lj _ _ _ (by rw [hlz]; exact hl)]; exact k5,hsp,k7⟩
  ·rw [jv];refine FRel.setVal ?_ hd (by simp only [VRel]; exact ⟨#[],rfl,by simp [VRels]⟩);exact hf.keep (Later.refl _) (fun t cs' hv=>da (hf.sepm t cs' i m hv k1)) (fun t cs' j m' _ hj hm=>absurd (aj hm) (by omega)) fun q hq=>⟨da ((hf.sepd q hq).1 i m k1),fun j m' hj hm=>absurd (aj hm) (by omega)⟩
theorem ww (w:World) (need old:Nat) (e:TypeId):need≤grownCap w need old e:=by simp [grownCap,Question.cut]
theorem append_done (hf:FRel E lo ν μ (sget s) a.tmps w) (hr:Rel E μ h w) {dst:Option Tmp} {r:Result Next} (hd:∀ x,dst=some x→x < a.tmps.size)
  {t u ty e:TypeId} {i:TypeInfo} {z:Value} {x y v:AVal} {vx vy:Value} {h':Heap} (ht:E.P.underlying t=some (.slice e)) (hu:(∃ e',E.P.underlying u=some (.slice e'))∨E.P.underlying u=some .string) (hi:E.P.info? e=some i) (hz:i.zero=some z) (hzs:z.cells.size=i.size)
  (hx:VRel E μ x vx) (hy:VRel E μ y vy) (he:eb i.size i.bytes h x y=some (v,h'))
  (hrun:r=((Builtin.append_ #[t,u] ty #[vx,vy]).run E.P w).andThen fun v w'=>.ok (.value v) w') :
  OpDone E lo ν.ds μ w a dst r (.val v) s h':=by
 unfold eb at he;cases x with
 | slice ao n0 c=>?_
 | _=>cases he
 simp only at he;split at he;case h_2=>cases he
 rename_i old new ho hn;unfold aApp at he;have hk:=hu;obtain ⟨lo1,n1,o1,o2,o3,o4,o5,o6⟩:=qv hr hx ho;obtain ⟨ln,n2,p1,p2,p3,p4,p5,p6⟩:=qv hr hy hn;simp only [alen] at o5;subst o5;rw [← p5] at he
 have hsrc:Src E.P i.size u vy n2 ln w:=⟨hk,fun w'=>p3 E.P w',p6 E.P w rfl,p6 E.P w.drew rfl,p4,fun v hv=>by have:=nc p1 p2 v hv;cases v <;> simp_all [one?,Value.oneCell']⟩
 split at he
 ·-- nothing is appended
  rename_i h0;cases he;subst h0;have hl0:ln=[]:=bq (by simpa using p4);subst hl0
  have:∃ b cap,vx = .slice b n1 cap∧n1≤cap:=by
   cases ao with
   | none=>simp only [VRel] at hx; obtain ⟨e1,_,e2⟩:=hx; exact ⟨none,0,by rw [e2,e1],by omega⟩
   | some io=>simp only [VRel] at hx; obtain ⟨ad,cap,e1,_,_,_,e2,_⟩:=hx; exact ⟨some ad,cap,e1,e2⟩
  obtain ⟨b,cap,rfl,hcap⟩:=this;refine eq hf hr hd ?_ hx;rw [hrun];rcases hk with ⟨e',hk⟩ | hk <;> (cases b <;> simp [Builtin.append_,run_underlying ht,run_underlying hk,sizeOf,typeInfo,hi,p3,hcap,p6,storeCells])
 ·rename_i h0;split at he
  ·rename_i hh;obtain ⟨hb,h63⟩:=hh;have hcat:=o1.append p1
   have hcl:∀ (k:Nat) (v':AVal),(old++new)[k]? = some v'→v'.isOne=true:=by
    intro k v' hk;rcases bp.1 (bz hk) with hm' | hm'
    ·exact o2 _ hm'
    ·exact p2 _ hm'
   have grow:∀ (b:Option Addr) (cap:Nat) (h1:Heap) (μ1:MM),vx = .slice b n1 cap→cap < n1+n2→Later μ μ1→Rel E μ1 h1 w→FRel E lo ν μ1 (sget s) a.tmps w →
     OpDone E lo ν.ds μ1 w a dst r (.val (.slice (some (h1.size,0)) (n1+n2) none)) s (h1.push (.cells i.size (old++new))):=by
    intro b cap h1 μ1 hvx hcap hl1 hr1 hf1;have hfit:=growslice_fits (need:=n1+n2) (old:=cap) (bytes:=i.bytes) hcap hb;have hgr:=run_append_grow_src (P:=E.P) w t u ty e i z ht hi hz b n1 cap lo1 (by rw [← hvx]; exact o6 E.P w.drew rfl) vy n2 ln hsrc hcap (by omega) hfit;rw [hvx,hgr] at hrun;have hg:=ww w (n1+n2) cap e;generalize hcell:(lo1++ln).toArray++Builtin.zeroCells z.cells (grownCap w (n1+n2) cap e - (n1+n2))=C at hrun
    have hC:C.size=grownCap w (n1+n2) cap e*i.size:=by rw [← hcell];simp [Builtin.zeroCells,o4,p4,hzs];rw [← gg,← gg]; congr 1; omega
    have hlen:h1.size=μ1.length:=hr1.len.symm;rw [hlen];refine lp hf1 hr1 hd (.cells i.size (old++new)) (.cells C e) ⟨w.heap.size,0,C.size,i.size⟩ rfl (w1:=w.drew.alloc (.cells C e)) hrun rfl rfl rfl rfl ?_ ?_
    ·refine ⟨⟨w.heap.size,0,C.size,i.size⟩,C,e,(0,0),by simp,rfl,by simp,rfl,?_,fun k v' hk=>?_,fun _ off _=>by simp⟩
     ·have e1:=o1.length;have e2:=p1.length;simp only [aq,dk,e1,e2,o4,p4,hC,← gg];exact im _ hg
     ·obtain ⟨u,hu',hr'⟩:=hcat.get hk;refine ⟨hcl k v' hk,u,?_,(hr'.later hl1).later (ix μ1 _)⟩;rw [dk,← hcell,nh (by simpa using aj hu')];simpa using hu'
    ·exact oc rfl hg (fun k hk=>by cases hk) (by simp [hC]) (grownCap_le_maxLen w (n1+n2) cap e h63)
   split at he
   ·-- nil
    cases he;simp only [VRel] at hx;obtain ⟨e1,_,e2⟩:=hx;exact grow none 0 h μ (by rw [e2,e1]) (by omega) (Later.refl _) hr hf
   ·rename_i j o;simp only [VRel] at hx;obtain ⟨ad,cap,hvx,hj,hA,hck,hcap,hsz⟩:=hx;split at he
    ·-- full
     rename_i hc;cases he;exact grow (some ad) cap h μ hvx (by have:=hck _ hc; omega) (Later.refl _) hr hf
    ·split at he
     ·rename_i hbr;cases he;obtain ⟨hbase,hrow⟩:=hbr;unfold rowIs at hrow;split at hrow;case h_2=>cases hrow
      rename_i e' cs hg;have he':e'=i.size:=by simpa using hrow
      subst he';obtain ⟨m,cc,te,fr,k1,k2,k3,k4,k5,k6,k7⟩:=hr.obj j _ hg;by_cases hroom:n1+n2≤cap
      ·-- there is room: in its place
       obtain ⟨x',k8,k9⟩:=hA (by omega);rw [k1] at k8; cases k8;have:=k9 m rfl; subst this;have hs:=hsz m k1;rw [k2] at hs
       have hle:m.base+o+n1*i.size+ln.length≤cc.size:=by rw [p4,k4,bo,← gg];exact dq (Nat.add_le_add_left (im _ hroom) _) hs
       have hone:=nc p1 p2;have hrs:=ki (P:=E.P) (b:=m.blk) (e:=te) (fr:=fr) (a:=⟨m.blk,m.base+o+n1*i.size,none⟩) rfl rfl ln 0 cc w k3 (by simpa using hle) (by rw [k4]; exact (k7 hbase).lt) hone
       have hrun':r = .ok (.value (.slice (some ⟨m.blk,m.base+o,none⟩) (n1+n2) cap)) (di w m.blk (.cells (ik cc (m.base+o+n1*i.size) ln) te fr)):=by rw [hrun,hvx];have e1:(⟨m.blk,m.base+o,none⟩:Addr).add (n1*i.size)=⟨m.blk,m.base+o+n1*i.size,none⟩:=nb _ _ _;rcases hk with ⟨e'',hk⟩ | hk <;> (simp [Builtin.append_,run_underlying ht,run_underlying hk,sizeOf,typeInfo,hi,p3,hroom,p6,e1,hrs])
       have hnew:ORel E (μ.set j none++[some ⟨m.blk,m.base+o,m.size,m.esz⟩]) h.base μ.length (di w m.blk (.cells (ik cc (m.base+o+n1*i.size) ln) te fr)) (.cells i.size (old++new)):=by
        have hold:∀ (k:Nat) (v':AVal),old[k]? = some v'→∃ u,cc[m.base+o+k]? = some u∧VRel E μ v' u:=by
         intro k v' hk'
         have hn0:n1≠0:=by intro h0'; subst h0';have:=aj hk';rw [o1.length,o4] at this; omega
         simp only [il] at ho;rw [if_neg hn0,hg] at ho;simp only at ho;split at ho
         ·cases ho
          have hkk:k < n1*i.size:=by have:=aj hk';simp at this; omega
          rw [et hkk,dw] at hk';obtain ⟨_,u,hu1,hu2⟩:=k6 _ v' hk';exact ⟨u,by rw [← hu1]; congr 1; omega,hu2⟩
         ·cases ho
        have hlo:old.length=n1*i.size:=by rw [o1.length,o4]
        have hln:new.length=n2*i.size:=by rw [p1.length,p4]
        refine ⟨⟨m.blk,m.base+o,m.size,m.esz⟩,_,te,fr,?_,k2,ga (hr.lt j m k1),by rw [gn]; exact k4,?_,fun k v' hk'=>⟨hcl k v' hk',?_⟩,fun _=>k7 hbase⟩
        ·rw [ak (by simp)]; simp
        ·simp only [aq,hlo,hln];rw [p4,k4] at hle; omega
        ·rw [lq ln cc _ _ hle];by_cases hk2:k < n1*i.size
         ·rw [ag (by omega)] at hk';obtain ⟨u,hu1,hu2⟩:=hold k v' hk';rw [if_neg (by simp only; omega)];exact ⟨u,hu1,(hu2.later (l0 μ j)).later (ix _ _)⟩
         ·rw [ak (by omega),hlo] at hk';obtain ⟨u,hu1,hu2⟩:=p1.get hk';have:=aj hu1;rw [if_pos (by simp only; omega)];refine ⟨u,?_,(hu2.later (l0 μ j)).later (ix _ _)⟩;rw [← hu1]; congr 1; simp only; omega
       have ht1:=hr.take (m':=⟨m.blk,m.base+o,m.size,m.esz⟩) hbase k1 rfl hnew;have hwm:((h.put j .dead).push (.cells i.size (old++new))).wmin≤j:=gc _ _
       have hst:Step (fun k=>lo≤k) _ μ w _ (di w m.blk (.cells (ik cc (m.base+o+n1*i.size) ln) te fr)) :=
        Step.take (X:=fun k=>lo≤k) (m':=⟨m.blk,m.base+o,m.size,m.esz⟩) (.cells (ik cc (m.base+o+n1*i.size) ln) te fr) k1 rfl hwm
       refine ⟨_,_,_,ν,rfl,.inl hrun',hst,ht1,?_⟩;rw [jv];refine FRel.setVal ?_ hd ?_
       ·refine hf.keep hst.later (fun t cs' hv=>da (hf.sepm t cs' j m hv k1)) (fun t cs' q m' hv hq hm'=>?_) fun r' hr'=>⟨da ((hf.sepd r' hr').1 j m k1),fun q m' hq hm'=>?_⟩
        ·rcases kh hm' with b | ⟨_,b⟩
         ·exact absurd (aj b) (by simp; omega)
         ·cases b; exact hf.sepm t cs' j m hv k1
        ·rcases kh hm' with b | ⟨_,b⟩
         ·exact absurd (aj b) (by simp; omega)
         ·cases b; exact (hf.sepd r' hr').1 j m k1
       ·have hlen:h.size=μ.length:=hr.len.symm;rw [hlen];simp only [VRel];refine ⟨_,cap,rfl,⟨by simp,hj.2⟩,fun _=>⟨some ⟨m.blk,m.base+o,m.size,m.esz⟩,by rw [ak (by simp)]; simp,fun m' hm'=>by cases hm'; rfl⟩,(fun k hk=>by cases hk),hroom,fun m' hm'=>?_⟩;rw [ak (by simp)] at hm';simp at hm'; subst hm';simp only [k2,iz];exact hs
      ·-- there is none
       have hk1:=hr.kill j;have hfk:FRel E lo ν (μ.set j none) (sget s) a.tmps w:=hf.keep (l0 μ j) (fun _ _ _=>rfl) (fun t cs' q m' _ hq hm'=>absurd (aj hm') (by simp; omega)) fun _ _=>⟨rfl,fun q m' hq hm'=>absurd (aj hm') (by simp; omega)⟩
       obtain ⟨v',w',μ',ν',q0,q1,q2,q3,q4⟩:=grow (some ad) cap (h.put j .dead) (μ.set j none) hvx (by omega) (l0 μ j) hk1 hfk;have hsz':(h.put j .dead).size=h.size:=by simp [Heap.put,Heap.size]
       rw [hsz'] at q4;refine ⟨v',w',μ',ν',q0,q1,?_,q3,q4⟩;exact (Step.kill (X:=fun k=>lo≤k) (wm:=j) μ w (ai _)).trans q2 (gc _ _)
     ·cases he
  ·cases he
end
end Go.Abs

namespace Go.Abs
section
variable {E:Env} {lo:Nat} {ν:Fr} {μ:MM} {s:Slots} {h:Heap} {a:Act} {w:World}
def FitV (n:Option Nat) (x:AVal):Prop:=match n with
 | some _=>∃ cs,x = .agg cs
 | none=>x.isOne=true
theorem ws {cs:List AVal} {o:Nat} {n:Option Nat} {r:AVal} (h1:∀ x ∈ cs,x.isOne=true) (h:Abs.part cs o n=some r):FitV n r:=by
 cases n with
 | none=>simp only [Abs.part] at h; exact h1 _ (bz h)
 | some k =>
  simp only [Abs.part] at h;split at h
  ·cases h; exact ⟨_,rfl⟩
  ·cases h
theorem kw:∀ {ks:List CK} {as:List AVal},areKeys ks as=true→as.length=ks.length
 | [],[],_=>rfl
 | _ :: ks,_ :: as,h=>by simp only [areKeys,av] at h;simp [kw h.2]
 | [],_ :: _,h=>by simp [areKeys] at h
 | _ :: _,[],h=>by simp [areKeys] at h
theorem np:∀ {k1 k2:List CK} {as:List AVal},areKeys (k1++k2) as=true→areKeys k1 (as.take k1.length)=true∧areKeys k2 (as.drop k1.length)=true
 | [],k2,as,h=>by simpa [areKeys] using h
 | c :: k1,k2,[],h=>by simp [areKeys] at h
 | c :: k1,k2,a :: as,h=>by simp only [bl,areKeys,av] at h;obtain ⟨h1,h2⟩:=np h.2;simp only [az,List.take_succ_cons,List.drop_succ_cons,areKeys,av];exact ⟨⟨h.1,h1⟩,h2⟩
theorem tl:∀ (k:Nat) {as bs:List AVal} {r:Bool},k≤as.length→as.length=bs.length→akeyL as bs=some r→∃ r1,akeyL (as.take k) (bs.take k)=some r1∧(r1=true→akeyL (as.drop k) (bs.drop k)=some r)∧(r1=false→r=false)
 | 0,as,bs,r,_,_,h=>⟨true,by simp [akeyL],fun _=>by simpa using h,fun e=>by cases e⟩
 | k+1,[],bs,r,hk,_,_=>by simp at hk
 | k+1,a :: as,[],r,_,hl,_=>by simp at hl
 | k+1,a :: as,b :: bs,r,hk,hl,h=>by
  simp only [akeyL] at h;cases hab:akey1 a b with
  | none=>rw [hab] at h; cases h
  | some q =>
   rw [hab] at h;cases q with
   | false =>
    cases h;exact ⟨false,by simp [akeyL,hab],(fun e=>by cases e),(fun _=>rfl)⟩
   | true =>
    obtain ⟨r1,h1,h2,h3⟩:=tl k (by simpa using hk) (by simpa using hl) h;exact ⟨r1,by simp [akeyL,hab,h1],h2,h3⟩
def EqOK (E:Env) (d:Nat) (t:TypeId) (l:List CK):Prop :=
 ∀ (μ:MM) (w:World) (n:Option Nat) (x y:AVal) (u v:Value) (as bs:List AVal) (r:Bool),partT E.P t=some n→FitV n x→FitV n y→VRel E μ x u→VRel E μ y v→x.cells? = some as→y.cells? = some bs →
  as.length=bs.length→areKeys l as=true→akeyL as bs=some r→(Op.equalIn d t u v).run E.P w = .ok r w
theorem eq_one {d:Nat} {t:TypeId} {c:CK} {l:List CK} (hl:l=[c]) (ht:(c = .b∧E.P.underlying t=some .bool)∨(c = .i∧∃ k,E.P.underlying t=some (.int k))∨(c = .s∧E.P.underlying t=some .string)):EqOK E (d+1) t l:=by
 intro μ w n x y u v as bs r hn fx fy hx hy cx cy hlen hk hr;subst hl
 have hn0:n=none:=by unfold partT at hn;rcases ht with ⟨_,ht⟩ | ⟨_,k,ht⟩ | ⟨_,ht⟩ <;> (rw [ht] at hn; simp at hn; simp [← hn])
 subst hn0
 have one:∀ {z:AVal} {zs:List AVal},FitV none z→z.cells? = some zs→zs=[z]:=by intro z zs hz hc;have hz:z.isOne=true:=hz;cases z <;> simp [AVal.cells?,AVal.isOne] at hc hz <;> exact hc.symm
 have e1:=one fx cx;have e2:=one fy cy;subst e1; subst e2;simp only [areKeys,Bool.and_true] at hk;simp only [akeyL] at hr
 have hr2:akey1 x y=some r:=by
  cases hab:akey1 x y with
  | none=>rw [hab] at hr; cases hr
  | some q =>
   rw [hab] at hr;cases q with
   | false=>exact hr
   | true=>exact hr
 clear hr;rcases ht with ⟨rfl,ht⟩ | ⟨rfl,k,ht⟩ | ⟨rfl,ht⟩
 ·cases x <;> simp only [CK.is,am] at hk
  cases y <;> simp only [akey1,reduceCtorEq] at hr2
  simp only [VRel] at hx hy;subst hx; subst hy;injection hr2 with hr2;rw [run_equalIn_bool' w d t _ _ ht,← hr2];congr 1
 ·cases x <;> simp only [CK.is,am] at hk
  cases y <;> simp only [akey1,reduceCtorEq] at hr2
  simp only [VRel] at hx hy;subst hx; subst hy;split at hr2
  ·rename_i hkk;subst hkk;injection hr2 with hr2;rw [run_equalIn_int w d t _ _ _ _ ht,← hr2];congr 1
  ·cases hr2
 ·cases x <;> simp only [CK.is,am] at hk
  cases y <;> simp only [akey1,reduceCtorEq] at hr2
  simp only [VRel] at hx hy;subst hx; subst hy;injection hr2 with hr2;rw [run_equalIn_string w d t _ _ ht,← hr2];congr 1;rw [md]; simp [ByteArray.toList_eq]
theorem sd {cs:List AVal} {o k:Nat} {n:Option Nat} {r:AVal} (h1:∀ x ∈ cs,x.isOne=true) (hk:n=some k∨(n=none∧k=1)) (h:Abs.part cs o n=some r):r.cells? = some ((cs.drop o).take k):=by
 rcases hk with rfl | ⟨rfl,rfl⟩
 ·simp only [Abs.part] at h;split at h
  ·cases h; rfl
  ·cases h
 ·simp only [Abs.part] at h;have h2:=h1 _ (bz h)
  have h3:(cs.drop o).take 1=[r]:=by have hlt:=aj h;rw [ed hlt,List.take_succ_cons];rw [ah hlt] at h;simp [dg h]
  rw [h3];cases r <;> simp [AVal.cells?,AVal.isOne] at h2 ⊢
theorem wt {cs:List AVal} {o k:Nat} {n:Option Nat} (hk:n=some k∨(n=none∧k=1)) (ho:o+k≤cs.length):∃ r,Abs.part cs o n=some r:=by
 rcases hk with rfl | ⟨rfl,rfl⟩
 ·exact ⟨_,by simp only [Abs.part]; rw [if_pos ho]⟩
 ·exact ⟨_,by simp only [Abs.part]; exact ah (by omega)⟩
theorem x8 {P:Program} {n:Nat} {t:TypeId} {l:List CK} (h:ckOf P n t=some l) (hs:sizeT P t=some l.length):∃ m,partT P t=some m∧(m=some l.length∨(m=none∧l.length=1)):=by
 cases n with
 | zero=>simp [ckOf] at h
 | succ n =>
  unfold partT;simp only [ckOf] at h;split at h <;> (try cases h)
  ·rename_i ht; rw [ht]; exact ⟨none,rfl,.inr ⟨rfl,rfl⟩⟩
  ·rename_i ht; rw [ht]; exact ⟨none,rfl,.inr ⟨rfl,rfl⟩⟩
  ·rename_i ht; rw [ht]; exact ⟨none,rfl,.inr ⟨rfl,rfl⟩⟩
  ·rename_i ht; rw [ht]; exact ⟨some l.length,by simp [hs],.inl rfl⟩
  ·rename_i ht; rw [ht]; exact ⟨some l.length,by simp [hs],.inl rfl⟩
theorem eq_fields {d:Nat} {g:TypeId→Option (List CK)} (hg:∀ t l,g t=some l→EqOK E d t l) (hgp:∀ t l,g t=some l→sizeT E.P t=some l.length→∃ m,partT E.P t=some m∧(m=some l.length∨(m=none∧l.length=1)))
  {A B:List AVal} {xs ys:Array Value} (hA:VRels E μ A xs.toList) (hB:VRels E μ B ys.toList) (hA1:∀ x ∈ A,x.isOne=true) (hB1:∀ x ∈ B,x.isOne=true) (hlen:A.length=B.length) :
  ∀ (fs:List Field) (off:Nat) (l:List CK) (r:Bool),ckFields g E.P off fs=some l→areKeys l (A.drop off)=true→akeyL (A.drop off) (B.drop off)=some r→(Op.eqFields d xs ys fs).run E.P w = .ok r w
 | [],off,l,r,hl,hk,hr=>by
  simp only [ckFields] at hl; cases hl;have h1:=kw hk;have e1:A.drop off=[]:=bq (by simpa using h1);rw [e1] at hr;cases hb:B.drop off with
  | nil=>rw [hb] at hr; simp [akeyL] at hr; subst hr; simp [Op.eqFields]
  | cons b bs=>rw [hb] at hr; simp [akeyL] at hr
 | f :: fs,off,l,r,hl,hk,hr=>by
  simp only [ckFields] at hl;split at hl;case h_2=>cases hl
  rename_i l1 hl1;split at hl;case isFalse=>cases hl
  rename_i hh;obtain ⟨ho,hn,hs,h0⟩:=hh;rw [ae] at hl;obtain ⟨l2,hl2,rfl⟩:=hl;obtain ⟨k1,k2⟩:=np hk;have hkl:=kw hk;simp only [gh,aq] at hkl;obtain ⟨m,hm,hmk⟩:=hgp f.type l1 hl1 hs;have hoff:off+l1.length≤A.length:=by omega
  obtain ⟨x,hx⟩:=wt (cs:=A) (o:=off) hmk hoff;obtain ⟨y,hy⟩:=wt (cs:=B) (o:=off) hmk (by omega);obtain ⟨u,p1,q1⟩:=po w hm hA hA1 hx;obtain ⟨v,p2,q2⟩:=po w hm hB hB1 hy;obtain ⟨r1,s1,s2,s3⟩:=tl l1.length (by simp; omega) (by simp; omega) hr;have he:=hg f.type l1 hl1 μ w m x y u v _ _ r1 hm (ws hA1 hx) (ws hB1 hy) q1 q2 (sd hA1 hmk hx) (sd hB1 hmk hy) (by simp; omega) k1 s1;rw [← ho] at p1 p2;simp only [Op.eqFields,hn,ne_eq,not_false_eq_true,if_true,Sem.run_bind,p1,p2,he,Result.andThen_ok];cases r1 with
  | false=>rw [s3 rfl]; simp
  | true =>
   have:=eq_fields hg hgp hA hB hA1 hB1 hlen fs (off+l1.length) l2 r hl2 (by rw [lk] at k2; exact k2) (by have:=s2 rfl; rwa [lk,lk] at this);simpa using this
theorem eq_items {d:Nat} {e:TypeId} {le:List CK} (he:EqOK E d e le) {m:Option Nat} (hm:partT E.P e=some m) (hmk:m=some le.length∨(m=none∧le.length=1)) (h0:0 < le.length) (hc:E.P.cellsOf e=le.length)
  {A B:List AVal} {xs ys:Array Value} (hA:VRels E μ A xs.toList) (hB:VRels E μ B ys.toList) (hA1:∀ x ∈ A,x.isOne=true) (hB1:∀ x ∈ B,x.isOne=true) (hlen:A.length=B.length) :
  ∀ (k j:Nat) (r:Bool),areKeys (List.replicate k le).flatten (A.drop (j*le.length))=true→akeyL (A.drop (j*le.length)) (B.drop (j*le.length))=some r →
   (Op.eqItems d e (E.P.cellsOf e) xs ys (List.range' j k)).run E.P w = .ok r w
 | 0,j,r,hk,hr=>by
  have h1:=kw hk;have e1:A.drop (j*le.length)=[]:=bq (by simpa using h1);rw [e1] at hr;cases hb:B.drop (j*le.length) with
  | nil=>rw [hb] at hr; simp [akeyL] at hr; subst hr; simp [Op.eqItems]
  | cons b bs=>rw [hb] at hr; simp [akeyL] at hr
 | k+1,j,r,hk,hr=>by
  rw [o8,oq] at hk;obtain ⟨k1,k2⟩:=np hk;have hkl:=kw hk;simp only [gh,aq] at hkl;have hoff:j*le.length+le.length≤A.length:=by omega
  obtain ⟨x,hx⟩:=wt (cs:=A) (o:=j*le.length) hmk hoff;obtain ⟨y,hy⟩:=wt (cs:=B) (o:=j*le.length) hmk (by omega);obtain ⟨u,p1,q1⟩:=po w hm hA hA1 hx;obtain ⟨v,p2,q2⟩:=po w hm hB hB1 hy;obtain ⟨r1,s1,s2,s3⟩:=tl le.length (by simp; omega) (by simp; omega) hr;have hq:=he μ w m x y u v _ _ r1 hm (ws hA1 hx) (ws hB1 hy) q1 q2 (sd hA1 hmk hx) (sd hB1 hmk hy) (by simp; omega) k1 s1;simp only [List.range'_succ,Op.eqItems,hc,Sem.run_bind,p1,p2,hq,Result.andThen_ok];cases r1 with
  | false=>rw [s3 rfl]; simp
  | true =>
   have e1:j*le.length+le.length=(j+1)*le.length:=by rw [gg,Nat.one_mul]
   have:=eq_items he hm hmk h0 hc hA hB hA1 hB1 hlen k (j+1) r (by rw [lk,e1] at k2; exact k2) (by have:=s2 rfl; rwa [lk,lk,e1] at this);rw [hc] at this;simpa using this
theorem eq_ck:∀ (n:Nat) (t:TypeId) (l:List CK),ckOf E.P n t=some l→∀ d,EqOK E (d+n) t l
 | 0,t,l,h,d=>by simp [ckOf] at h
 | n+1,t,l,h,d=>by
  have h0:=h;simp only [ckOf] at h;split at h <;> (try cases h)
  ·rename_i ht; exact eq_one rfl (.inl ⟨rfl,ht⟩)
  ·rename_i ht; exact eq_one rfl (.inr (.inl ⟨rfl,_,ht⟩))
  ·rename_i ht; exact eq_one rfl (.inr (.inr ⟨rfl,ht⟩))
  ·rename_i fs ht;split at h
   ·cases h
   rename_i hst;intro μ w m x y u v as bs r hm fx fy hx hy cx cy hlen hk hr
   have hmm:∃ k,m=some k:=by unfold partT at hm;rw [ht] at hm;simp only [ae] at hm;obtain ⟨k,_,rfl⟩:=hm;exact ⟨k,rfl⟩
   obtain ⟨k,rfl⟩:=hmm;obtain ⟨A,rfl⟩:=fx;obtain ⟨B,rfl⟩:=fy;simp only [AVal.cells?] at cx cy; cases cx; cases cy;simp only [VRel] at hx hy;obtain ⟨xs,rfl,hA,hA1⟩:=hx;obtain ⟨ys,rfl,hB,hB1⟩:=hy;have hfs:E.P.fieldsOf t=fs:=by simp [Program.fieldsOf,ht]
   have:=eq_fields (d:=d+n) (w:=w) (g:=ckOf E.P n) (fun t l h=>eq_ck n t l h d) (fun t l h hs=>x8 h hs) hA hB hA1 hB1 hlen fs.toList 0 l r h (by simpa using hk) (by simpa using hr);rw [show d+(n+1)=(d+n)+1 from rfl,run_equalIn_struct w (d+n) t xs ys (by rw [hfs]; exact ht) (by simpa using hst),hfs];exact this
  ·rename_i k e ht;split at h;case h_2=>cases h
   rename_i le hle;split at h;case isFalse=>cases h
   rename_i hs;cases h;intro μ w m x y u v as bs r hm fx fy hx hy cx cy hlen hk hr
   have hmm:∃ k,m=some k:=by unfold partT at hm;rw [ht] at hm;simp only [ae] at hm;obtain ⟨k,_,rfl⟩:=hm;exact ⟨k,rfl⟩
   obtain ⟨q,rfl⟩:=hmm;obtain ⟨A,rfl⟩:=fx;obtain ⟨B,rfl⟩:=fy;simp only [AVal.cells?] at cx cy; cases cx; cases cy;simp only [VRel] at hx hy;obtain ⟨xs,rfl,hA,hA1⟩:=hx;obtain ⟨ys,rfl,hB,hB1⟩:=hy;obtain ⟨m',hm',hmk⟩:=x8 hle hs.1
   have hinfo:∃ i,E.P.info? e=some i∧i.size=le.length:=by have:=hs.1;unfold sizeT at this;rw [ae] at this;exact this
   obtain ⟨i,hi,hisz⟩:=hinfo;have hc:E.P.cellsOf e=le.length:=by simp [Program.cellsOf,hi,hisz]
   have:=eq_items (w:=w) (eq_ck n e le hle d) hm' hmk hs.2 hc hA hB hA1 hB1 hlen k 0 r (by simpa using hk) (by simpa using hr);rw [show d+(n+1)=(d+n)+1 from rfl,run_equalIn_array w (d+n) xs ys ht hi,List.range_eq_range'];exact this
theorem key_ck {P:Program} {t:TypeId} {kn:KeyT} (h:keyT P t=some kn):(∃ c,kn = .one c∧ckOf P 2 t=some [c]∧partT P t=some none)∨(∃ l m,kn = .agg l∧ckOf P 2 t=some l∧(partT P t=some (some m)∨partT P t=none)):=by
 unfold keyT at h;split at h
 ·cases h
 split at h <;> (try cases h)
 ·rename_i ht; exact .inl ⟨.b,rfl,by simp [ckOf,ht],by simp [partT,ht]⟩
 ·rename_i ht; exact .inl ⟨.i,rfl,by simp [ckOf,ht],by simp [partT,ht]⟩
 ·rename_i ht; exact .inl ⟨.s,rfl,by simp [ckOf,ht],by simp [partT,ht]⟩
 ·rename_i ht;rw [ae] at h;obtain ⟨l,hl,rfl⟩:=h;cases hs:sizeT P t with
  | none=>exact .inr ⟨l,0,rfl,hl,.inr (by simp [partT,ht,hs])⟩
  | some m=>exact .inr ⟨l,m,rfl,hl,.inl (by simp [partT,ht,hs])⟩
theorem key_size {P:Program} {t:TypeId} {kn:KeyT} (h:keyT P t=some kn):sizeT P t≠none:=by
 unfold keyT at h;split at h
 ·cases h
 ·assumption
theorem key_eq {t:TypeId} {kn:KeyT} {x y:AVal} {u v:Value} {r:Bool} (hk:keyT E.P t=some kn) (hx:VRel E μ x u) (hy:VRel E μ y v) (hkx:isKey kn x=true) (hr:akey x y=some r) (w:World) :
  (Op.equal t u v).run E.P w = .ok r w:=by
 rcases key_ck hk with ⟨c,rfl,hc,hp⟩ | ⟨l,m,rfl,hc,hp⟩
 ·have he:=eq_ck 2 t _ hc 9998;have h1:x.isOne=true∧x.cells? = some [x]:=by cases x <;> cases c <;> simp [isKey,CK.is] at hkx <;> simp [AVal.isOne,AVal.cells?]
  have h2:akey1 x y=some r:=by cases x <;> first | exact hr | (simp [AVal.isOne] at h1)
  have h3:y.isOne=true∧y.cells? = some [y]:=by cases x <;> cases y <;> simp [akey1] at h2 <;> simp [AVal.isOne,AVal.cells?]
  refine he μ w none x y u v [x] [y] r hp h1.1 h3.1 hx hy h1.2 h3.2 rfl (by simpa [areKeys,isKey] using hkx) ?_;simp only [akeyL,h2];cases r <;> rfl
 ·have he:=eq_ck 2 t _ hc 9998
  have hp':partT E.P t=some (some m):=by
   rcases hp with hp | hp
   ·exact hp
   ·exfalso
    have:∃ ty,E.P.underlying t=some ty:=by
     cases hu:E.P.underlying t with
     | none=>simp [keyT,hu] at hk
     | some ty=>exact ⟨ty,rfl⟩
    obtain ⟨ty,hty⟩:=this;unfold partT at hp;rw [hty] at hp;split at hp
    ·rw [z5] at hp; exact key_size hk hp
    ·rw [z5] at hp; exact key_size hk hp
    ·cases hp
    ·rename_i e; cases e
  cases x <;> simp only [isKey,am] at hkx
  cases y <;> simp only [akey,akey1,reduceCtorEq] at hr
  split at hr
  ·rename_i hlen;exact he μ w (some m) _ _ u v _ _ r hp' ⟨_,rfl⟩ ⟨_,rfl⟩ hx hy rfl rfl hlen hkx hr
  ·cases hr
theorem qt {t:TypeId} {kn:KeyT} {x:AVal} {u:Value} (hk:keyT E.P t=some kn) (hx:VRel E μ x u) (hkx:isKey kn x=true) (em:Bool) (n:Nat) (w:World):(Instr.checkKey em (n+2) t u).run E.P w = .ok () w:=by
 have basic:∀ (n:Nat) (t:TypeId) (u:Value) (w:World),(E.P.underlying t=some .bool∨(∃ k,E.P.underlying t=some (.int k))∨E.P.underlying t=some .string)→(Instr.checkKey em (n+1) t u).run E.P w = .ok () w:=by intro n t u w ht;rcases ht with ht | ⟨k,ht⟩ | ht <;> (unfold Instr.checkKey; simp [run_underlying ht])
 unfold keyT at hk;split at hk
 ·cases hk
 split at hk <;> (try cases hk)
 ·rename_i ht; exact basic _ _ _ _ (.inl ht)
 ·rename_i k ht; exact basic _ _ _ _ (.inr (.inl ⟨_,ht⟩))
 ·rename_i ht; exact basic _ _ _ _ (.inr (.inr ht))
 ·rename_i fs ht;rw [ae] at hk;obtain ⟨l,hl,rfl⟩:=hk;simp only [ckOf,ht] at hl;split at hl
  ·cases hl
  cases x <;> simp only [isKey,am] at hkx
  rename_i A;simp only [VRel] at hx;obtain ⟨xs,rfl,hA,hA1⟩:=hx;rw [show n+2=(n+1)+1 from rfl,Instr.checkKey];simp only [Sem.run_bind,run_underlying ht,Result.andThen_ok];rw [← Array.forIn_toList]
  have key:∀ (fs:List Field) (off:Nat) (l:List CK),ckFields (ckOf E.P 1) E.P off fs=some l→areKeys l (A.drop off)=true →
    (forIn fs PUnit.unit fun f r=>do
     if f.name ≠ "_" then do
      let a ← Go.part f.type xs f.offset
      Instr.checkKey em (n+1) f.type a
      pure (ForInStep.yield PUnit.unit)
     else pure (ForInStep.yield PUnit.unit):Sem PUnit).run E.P w = .ok () w:=by
   intro fs;induction fs with
   | nil=>intro off l _ _; simp
   | cons f fs ih =>
    intro off l hl hk;simp only [ckFields] at hl;split at hl;case h_2=>cases hl
    rename_i l1 hl1;split at hl;case isFalse=>cases hl
    rename_i hh;obtain ⟨ho,hn,hs,h0⟩:=hh;rw [ae] at hl;obtain ⟨l2,hl2,rfl⟩:=hl;obtain ⟨k1,k2⟩:=np hk;have hkl:=kw hk;simp only [gh,aq] at hkl;obtain ⟨m,hm,hmk⟩:=x8 hl1 hs;obtain ⟨x,hx⟩:=wt (cs:=A) (o:=off) hmk (by omega);obtain ⟨u,p1,_⟩:=po w hm hA hA1 hx;rw [← ho] at p1
    have hb:(Instr.checkKey em (n+1) f.type u).run E.P w = .ok () w:=by
     apply basic;simp only [ckOf] at hl1;split at hl1 <;> (try cases hl1)
     ·exact .inl (by assumption)
     ·exact .inr (.inl ⟨_,by assumption⟩)
     ·exact .inr (.inr (by assumption))
     ·rename_i fs2 hu;split at hl1
      ·cases hl1
      ·cases hfs:fs2.toList with
       | nil=>rw [hfs] at hl1; simp [ckFields] at hl1; subst hl1; simp at h0
       | cons q qs=>rw [hfs] at hl1; simp [ckFields] at hl1
    simp only [List.forIn_cons,Sem.run_bind,hn,ne_eq,not_false_eq_true,if_true,p1,hb,Result.andThen_ok,Sem.run_pure];exact ih (off+l1.length) l2 hl2 (by rw [lk] at k2; exact k2)
  have:=key fs.toList 0 l hl (by simpa using hkx);have h2:∀ (S:Sem PUnit),S.run E.P w = .ok () w→(S.run E.P w).andThen (fun _ w'=>Result.ok () w') = .ok () w:=fun S h=>by rw [h]; rfl
  exact h2 _ (by simpa using this)
def Found (E:Env) (μ:MM) (i:Nat) (res:Option (Nat × AVal)) (r:Option (Nat × Value)):Prop :=
 match res,r with
 | none,none=>True
 | some (j,v),some (j',v')=>j'=i+j∧VRel E μ v v'
 | _,_=>False
def Entries (E:Env) (μ:MM) (es:List (AVal × AVal × Nat)) (l:List MapEntry):Prop :=
 l.length=es.length∧∀ (k:Nat) (x:AVal × AVal × Nat),es[k]? = some x→∃ y:MapEntry,l[k]? = some y∧VRel E μ x.1 y.key∧VRel E μ x.2.1 y.val∧y.born=x.2.2
theorem Entries.cons {x:AVal × AVal × Nat} {es:List (AVal × AVal × Nat)} {l:List MapEntry} (h:Entries E μ (x :: es) l):∃ y l',l=y :: l'∧VRel E μ x.1 y.key∧VRel E μ x.2.1 y.val∧Entries E μ es l':=by
 obtain ⟨h1,h2⟩:=h;cases l with
 | nil=>simp at h1
 | cons y l =>
  obtain ⟨y',e,h3,h4,_⟩:=h2 0 x rfl;simp at e; subst e;exact ⟨y,l,rfl,h3,h4,by simpa using h1,fun k z hz=>by simpa using h2 (k+1) z (by simpa using hz)⟩
theorem key_cases {x y:AVal} {r:Bool} (h:akey x y=some r):(∃ a b,x = .str a∧y = .str b∧r=decide (a=b))∨(∃ k a b,x = .int k a∧y = .int k b∧r=decide (a=b))∨(∃ a b,x = .bool a∧y = .bool b∧r=decide (a=b))∨∃ a b,x = .agg a∧y = .agg b:=by
 unfold akey at h;split at h
 ·exact .inr (.inr (.inr ⟨_,_,rfl,rfl⟩))
 ·unfold akey1 at h;split at h
  ·cases h; exact .inl ⟨_,_,rfl,rfl,rfl⟩
  ·split at h
   ·rename_i e; subst e; cases h; exact .inr (.inl ⟨_,_,_,rfl,rfl,rfl⟩)
   ·cases h
  ·cases h; exact .inr (.inr (.inl ⟨_,_,rfl,rfl,rfl⟩))
  ·cases h
theorem zc {d:TypeDesc} {x y:AVal} {u v:Value} {b r:Bool} (hx:VRel E μ x u) (hy:VRel E μ y v) (hs:Instr.sameNow d u v=some b) (hr:akey x y=some r):b=r:=by
 rcases key_cases hr with ⟨p,q,rfl,rfl,rfl⟩ | ⟨k,p,q,rfl,rfl,rfl⟩ | ⟨p,q,rfl,rfl,rfl⟩ | ⟨p,q,rfl,rfl⟩
 ·simp only [VRel] at hx hy; subst hx; subst hy;cases d <;> simp only [Instr.sameNow,reduceCtorEq] at hs
  injection hs with hs;rw [← hs,md,MapKept.bytes_beq]; simp
 ·simp only [VRel] at hx hy; subst hx; subst hy;cases d <;> simp only [Instr.sameNow,reduceCtorEq] at hs
  simp at hs;rw [← hs,md]; simp
 ·simp only [VRel] at hx hy; subst hx; subst hy;cases d <;> simp only [Instr.sameNow,reduceCtorEq] at hs
  injection hs with hs;rw [← hs,md]; simp
 ·simp only [VRel] at hx hy;obtain ⟨_,rfl,_⟩:=hx;obtain ⟨_,rfl,_⟩:=hy;cases d <;> simp [Instr.sameNow] at hs
theorem zd {d:TypeDesc} {x:AVal} {u:Value} (hx:VRel E μ x u):∀ {es:List (AVal × AVal × Nat)} {l:List MapEntry} {i:Nat} {res:Option (Nat × AVal)} {r:Option (Nat × Value)},Entries E μ es l→findA x es=some res→Instr.findNow d u l i=some r→Found E μ i res r
 | [],l,i,res,r,he,hf,hn=>by have:l=[]:=bq (by simpa using he.1);subst this;simp only [findA] at hf; cases hf;simp only [Instr.findNow] at hn; cases hn;trivial
 | e :: es,l,i,res,r,he,hf,hn=>by
  obtain ⟨y,l',rfl,h1,h2,h3⟩:=he.cons;simp only [findA] at hf;simp only [Instr.findNow] at hn;split at hn
  ·rename_i hs;cases hn;cases hk:akey x e.1 with
   | none=>rw [hk] at hf; cases hf
   | some q =>
    have:=zc hx h1 hs hk;subst this;rw [hk] at hf;simp only at hf; cases hf;exact ⟨rfl,h2⟩
  ·rename_i hs;cases hk:akey x e.1 with
   | none=>rw [hk] at hf; cases hf
   | some q =>
    have:=zc hx h1 hs hk;subst this;rw [hk] at hf;simp only at hf;rw [ae] at hf;obtain ⟨res',hf',rfl⟩:=hf;have ih:=zd hx h3 hf' hn;cases res' with
    | none=>cases r <;> exact ih
    | some p =>
     cases r with
     | none=>exact ih
     | some q=>exact ⟨by have:=ih.1; omega,ih.2⟩
  ·cases hn
theorem tm {t:TypeId} {kn:KeyT} {x:AVal} {u:Value} (hk:keyT E.P t=some kn) (hx:VRel E μ x u) (hkx:isKey kn x=true) (w:World):∀ {es:List (AVal × AVal × Nat)} {l:List MapEntry} {i:Nat} {res:Option (Nat × AVal)},
  Entries E μ es l→findA x es=some res→∃ r,(Instr.findAsking t u l i).run E.P w = .ok r w∧Found E μ i res r
 | [],l,i,res,he,hf=>by have:l=[]:=bq (by simpa using he.1);subst this;simp only [findA] at hf; cases hf;exact ⟨none,by simp [Instr.findAsking],trivial⟩
 | e :: es,l,i,res,he,hf=>by
  obtain ⟨y,l',rfl,h1,h2,h3⟩:=he.cons;simp only [findA] at hf;cases hke:akey x e.1 with
  | none=>rw [hke] at hf; cases hf
  | some q =>
   have heq:=key_eq hk hx h1 hkx hke w;rw [hke] at hf;cases q with
   | true =>
    simp only at hf; cases hf;exact ⟨some (i,y.val),by simp [Instr.findAsking,heq],rfl,h2⟩
   | false =>
    simp only at hf;rw [ae] at hf;obtain ⟨res',hf',rfl⟩:=hf;obtain ⟨r,hr,ih⟩:=tm hk hx hkx w (i:=i+1) h3 hf';refine ⟨r,by simp [Instr.findAsking,heq,hr],?_⟩;cases res' with
    | none=>cases r <;> exact ih
    | some p =>
     cases r with
     | none=>exact ih
     | some q=>exact ⟨by have:=ih.1; omega,ih.2⟩
theorem ky {t:TypeId} {kn:KeyT} {x:AVal} {u:Value} (hk:keyT E.P t=some kn) (hx:VRel E μ x u) (hkx:isKey kn x=true) (w:World) {es:List (AVal × AVal × Nat)} {l:List MapEntry} {res:Option (Nat × AVal)}
  (he:Entries E μ es l) (hf:findA x es=some res):∃ r,(Instr.findKey t u l).run E.P w = .ok r w∧Found E μ 0 res r:=by
 have hu:∃ d,E.P.underlying t=some d:=by
  cases hu:E.P.underlying t with
  | none=>simp [keyT,hu] at hk
  | some ty=>exact ⟨ty,rfl⟩
 obtain ⟨d,hd⟩:=hu;cases hn:Instr.findNow d u l 0 with
 | some r=>exact ⟨r,MapKept.run_findKey hd hn,zd hx he hf hn⟩
 | none =>
  obtain ⟨r,hr,h2⟩:=tm hk hx hkx w (i:=0) he hf;exact ⟨r,by simp [Instr.findKey,run_underlying hd,Result.andThen,hn,hr],h2⟩
theorem za1 {x y:AVal} (h:akey1 x y=some true):x=y∧(∃ c:CK,c.is x=true):=by
 unfold akey1 at h;split at h
 ·simp at h; exact ⟨by rw [h],.s,rfl⟩
 ·split at h
  ·rename_i e; subst e; simp at h; exact ⟨by rw [h],.i,rfl⟩
  ·cases h
 ·simp at h; exact ⟨by rw [h],.b,rfl⟩
 ·cases h
theorem za2:∀ {as bs:List AVal},akeyL as bs=some true→as=bs∧∀ x ∈ as,∃ c:CK,c.is x=true
 | [],[],_=>⟨rfl,by simp⟩
 | a :: as,b :: bs,h=>by
  simp only [akeyL] at h;split at h
  ·rename_i h1;obtain ⟨rfl,h2⟩:=za1 h1;obtain ⟨rfl,h3⟩:=za2 h
   exact ⟨rfl,fun x hx=>by
    rcases br.1 hx with rfl | hx
    ·exact h2
    ·exact h3 x hx⟩
  ·cases h
  ·cases h
 | [],_ :: _,h=>by simp [akeyL] at h
 | _ :: _,[],h=>by simp [akeyL] at h
theorem key_val {x:AVal} {u v:Value} (hc:∃ c:CK,c.is x=true) (hu:VRel E μ x u) (hv:VRel E μ x v):u=v∧∀ n,Instr.sameBits n u u=true:=by obtain ⟨c,hc⟩:=hc;cases x <;> cases c <;> simp only [CK.is,am] at hc <;> (simp only [VRel] at hu hv; subst hu; subst hv; refine ⟨rfl,fun n=>?_⟩; cases n <;> simp [Instr.sameBits,MapKept.bytes_beq])
theorem keys_val:∀ {as:List AVal} {l r:List Value},(∀ x ∈ as,∃ c:CK,c.is x=true)→VRels E μ as l→VRels E μ as r→l=r∧∀ u ∈ l,∀ n,Instr.sameBits n u u=true
 | [],l,r,_,h1,h2=>by simp only [VRels] at h1 h2; subst h1; subst h2;exact ⟨rfl,by simp⟩
 | a :: as,l,r,h,h1,h2=>by
  simp only [VRels] at h1 h2;obtain ⟨u,l,rfl,h3,h4⟩:=h1;obtain ⟨v,r,rfl,h5,h6⟩:=h2;obtain ⟨rfl,h7⟩:=key_val (h a (bh ..)) h3 h5;obtain ⟨rfl,h8⟩:=keys_val (fun x hx=>h x (bu _ hx)) h4 h6
  exact ⟨rfl,fun z hz=>by
   rcases br.1 hz with rfl | hz
   ·exact h7
   ·exact h8 z hz⟩
theorem run_stays {x y:AVal} {u v:Value} (h:akey x y=some true) (hx:VRel E μ x u) (hy:VRel E μ y v) (w:World):(Instr.keyThatStays v u).run E.P w = .ok u w:=by
 have:Instr.sameBits 10000 v u=true:=by
  unfold akey at h;split at h
  ·split at h
   ·obtain ⟨rfl,h1⟩:=za2 h;simp only [VRel] at hx hy;obtain ⟨a,rfl,h2,_⟩:=hx;obtain ⟨b,rfl,h3,_⟩:=hy;obtain ⟨e,h4⟩:=keys_val h1 h2 h3;have e':a=b:=Array.toList_inj.1 e;subst e'
    have hall:(a.toList.zip a.toList).all (fun (x,y)=>Instr.sameBits 9999 x y)=true:=by
     rw [al];rintro ⟨p,q⟩ hpq
     have:p=q∧p ∈ a.toList:=by obtain ⟨k,hk⟩:=je hpq;rw [List.getElem?_zip_eq_some] at hk;obtain ⟨k1,k2⟩:=hk;simp only at k1 k2;rw [k1] at k2;exact ⟨dg k2,bz k1⟩
     obtain ⟨rfl,hp⟩:=this;exact h4 p hp 9999
    show (a.size == a.size && _)=true
    rw [hall]; simp
   ·cases h
  ·obtain ⟨rfl,h1⟩:=za1 h;obtain ⟨rfl,h2⟩:=key_val h1 hx hy;exact h2 10000
 simp [Instr.keyThatStays,this]
theorem ut {x:AVal}:∀ {es:List (AVal × AVal × Nat)} {j:Nat} {v:AVal},findA x es=some (some (j,v))→∃ e,es[j]? = some e∧akey x e.1=some true
 | [],j,v,h=>by simp [findA] at h
 | e :: es,j,v,h=>by
  simp only [findA] at h;split at h
  ·rename_i hk; cases h; exact ⟨e,rfl,hk⟩
  ·rw [ae] at h;obtain ⟨r,h1,h2⟩:=h;cases r with
   | none=>simp at h2
   | some p =>
    obtain ⟨j',v'⟩:=p;simp at h2;obtain ⟨rfl,rfl⟩:=h2;obtain ⟨e',h3,h4⟩:=ut h1;exact ⟨e',by simpa using h3,h4⟩
  ·cases h
theorem run_zeroA {P:Program} {t:TypeId} {z:AVal} (hz:zeroA P t=some z) (μ:MM) (w:World):∃ v,(zeroValue t).run P w = .ok v w∧VRel E μ z v:=by
 unfold zeroA at hz;split at hz;case h_2=>cases hz
 rename_i i hi;split at hz;case h_2=>cases hz
 rename_i v hv;exact ⟨v,by simp [zeroValue,typeInfo,hi,hv],toA_rel hz μ⟩
theorem wu (hr:Rel E μ h w) {r:Nat} {es:List (AVal × AVal × Nat)} {c:Nat} (hg:h.get r=some (.map es c)):∃ (m:M) (es':Array MapEntry),μ[r]? = some (some m)∧w.heap[m.blk]? = some (.map es' c)∧Entries E μ es es'.toList:=by obtain ⟨m,es',h1,h2,h3,h4⟩:=hr.obj r _ hg;exact ⟨m,es',h1,h2,by simpa using h3,fun k x hk=>by obtain ⟨y,y1,y2⟩:=h4 k x hk; exact ⟨y,by simpa using y1,y2⟩⟩
theorem za3 {r:Nat} {u:Value} {m:M} (hx:VRel E μ (.map (some r)) u) (hm:μ[r]? = some (some m)):u = .map (some m.blk):=by simp only [VRel] at hx;obtain ⟨b,x,rfl,h1,h2⟩:=hx;rw [hm] at h1; cases h1;rw [h2 m rfl]
theorem lookup_rel (hr:Rel E μ h w) {t k e:TypeId} {kn:KeyT} {z:AVal} {ok:Bool} {x y v:AVal} {u i:Value} {h':Heap} (ht:E.P.underlying t=some (.map k e)) (hk:keyT E.P k=some kn) (hz:zeroA E.P e=some z) (hx:VRel E μ x u) (hy:VRel E μ y i)
  (he:dl (.lookup kn z ok) [x,y] h=some (v,h')):h'=h∧∃ r,(Instr.lookup t u i ok).run E.P w = .ok r w∧VRel E μ v r:=by
 simp only [dl] at he;split at he;case isFalse=>cases he
 rename_i hkey;split at he;case h_2=>cases he
 rename_i es hes
 have hent:∃ l:Array MapEntry,Entries E μ es l.toList∧((u = .map none∧l = #[])∨∃ b c,u = .map (some b)∧w.heap[b]? = some (.map l c)):=by
  unfold entriesOf at hes;split at hes
  ·cases hes;simp only [VRel] at hx;exact ⟨#[],⟨rfl,by simp⟩,.inl ⟨hx,rfl⟩⟩
  ·rename_i r;split at hes
   ·rename_i es0 c hg;cases hes;obtain ⟨m,es',h1,h2,h3⟩:=wu hr hg;exact ⟨es',h3,.inr ⟨_,_,za3 hx h1,h2⟩⟩
   ·cases hes
  ·cases hes
 obtain ⟨l,hl,hu⟩:=hent;have hchk:=qt hk hy hkey l.isEmpty 9998 w;split at he
 ·rename_i j v0 hf;cases he;refine ⟨rfl,?_⟩;obtain ⟨r,hr1,hr2⟩:=ky hk hy hkey w hl hf;cases r with
  | none=>exact hr2.elim
  | some p =>
   refine ⟨if ok then .tuple #[p.2,.bool true] else p.2,?_,?_⟩
   ·rcases hu with ⟨rfl,rfl⟩ | ⟨b,c,rfl,hb⟩
    ·simp at hchk hr1;simp [Instr.lookup,run_underlying ht,hchk,hr1]
    ·simp at hchk hr1;simp [Instr.lookup,run_underlying ht,MapKept.run_getObj_map hb,hchk,hr1]
   ·cases ok with
    | true=>simp only [if_true,VRel]; exact ⟨_,rfl,by simp [VRels,VRel,hr2.2]⟩
    | false=>simpa using hr2.2
 ·rename_i hf;cases he;refine ⟨rfl,?_⟩;obtain ⟨r,hr1,hr2⟩:=ky hk hy hkey w hl hf;obtain ⟨zv,hz1,hz2⟩:=run_zeroA (E:=E) hz μ w;cases r with
  | some p=>exact hr2.elim
  | none =>
   refine ⟨if ok then .tuple #[zv,.bool false] else zv,?_,?_⟩
   ·rcases hu with ⟨rfl,rfl⟩ | ⟨b,c,rfl,hb⟩
    ·simp at hchk hr1;simp [Instr.lookup,run_underlying ht,hchk,hr1,hz1]
    ·simp at hchk hr1;simp [Instr.lookup,run_underlying ht,MapKept.run_getObj_map hb,hchk,hr1,hz1]
   ·cases ok with
    | true=>simp only [if_true,VRel]; exact ⟨_,rfl,by simp [VRels,VRel,hz2]⟩
    | false=>simpa using hz2
 ·cases he
theorem z7 (hf:FRel E lo ν μ (sget s) a.tmps w) (hr:Rel E μ h w) {dst:Option Tmp} {rr:Result Next} (hd:∀ x,dst=some x→x < a.tmps.size) {r:Nat} {m:M} {es:List (AVal × AVal × Nat)} {es' l:Array MapEntry} {c c0:Nat}
  (hb:h.base≤r) (hm:μ[r]? = some (some m)) (_hblk:w.heap[m.blk]? = some (.map l c0)) (hes:Entries E μ es es'.toList)
  (hrun:rr = .ok .skip (di w m.blk (.map es' c))∨rr = .ok (.value (.tuple #[])) (di w m.blk (.map es' c))) :
  OpDone E lo ν.ds μ w a dst rr (.val (.tuple [])) s (h.put r (.map es c)):=by
 have hlt:=hr.lt r m hm;refine ⟨Go.undef,di w m.blk (.map es' c),μ,ν,rfl,?_,Step.put hm (gc _ _) _,hr.put hb hm ?_,?_⟩
 ·rcases hrun with h1 | h1
  ·exact .inr ⟨rfl,h1⟩
  ·exact .inl h1
 ·exact ⟨m,es',hm,ga hlt,by simpa using hes.1,fun k x hk=>by obtain ⟨y,y1,y2⟩:=hes.2 k x hk; exact ⟨y,by simpa using y1,y2⟩⟩
 ·rw [jv];refine FRel.setVal ?_ hd (by simp only [VRel]; exact ⟨#[],rfl,by simp [VRels]⟩);exact hf.keep (Later.refl _) (fun t cs' hv=>da (hf.sepm t cs' r m hv hm)) (fun t cs' j m' _ hj hm=>absurd (aj hm) (by omega)) fun q hq=>⟨da ((hf.sepd q hq).1 r m hm),fun j m' hj hm=>absurd (aj hm) (by omega)⟩
theorem ze (hf:FRel E lo ν μ (sget s) a.tmps w) (hr:Rel E μ h w) {dst:Option Tmp} {rr:Result Next} (hd:∀ x,dst=some x→x < a.tmps.size) {t k e:TypeId} {kn:KeyT} {x y z v:AVal} {u i p:Value} {h':Heap}
  (ht:E.P.underlying t=some (.map k e)) (hk:keyT E.P k=some kn) (hx:VRel E μ x u) (hy:VRel E μ y i) (hz:VRel E μ z p) (he:dl (.mapupd kn) [x,y,z] h=some (v,h'))
  (hrun:rr=((Instr.mapUpdate t u i p).run E.P w).andThen fun _ w'=>.ok .skip w'):OpDone E lo ν.ds μ w a dst rr (.val v) s h':=by
 cases x <;> simp only [dl,reduceCtorEq] at he
 rename_i q;cases q with
 | none=>cases he
 | some r =>
  simp only at he;split at he;case isFalse=>cases he
  rename_i hh;obtain ⟨hkey,hb⟩:=hh;split at he;case h_2=>cases he
  rename_i es c hg;obtain ⟨m,l,h1,h2,h3⟩:=wu hr hg;have hu:=za3 hx h1;subst hu;have hchk:=qt hk hy hkey false 9998 w;split at he
  ·rename_i j v0 hfd;cases he;obtain ⟨q,hr1,hr2⟩:=ky hk hy hkey w h3 hfd;cases q with
   | none=>exact hr2.elim
   | some q =>
    obtain ⟨j',v'⟩:=q;obtain ⟨rfl,_⟩:=hr2;obtain ⟨e0,g1,g2⟩:=ut hfd;obtain ⟨y0,g3,g4,g5,g6⟩:=h3.2 _ _ g1;have hst:=run_stays g2 hy g4 w;have g3':l[j]? = some y0:=by simpa using g3
    refine z7 (c:=c) (es':=l.modify j fun x=>{ x with key:=i,val:=p }) hf hr hd hb h1 h2 ⟨?_,fun k' x' hk'=>?_⟩ (.inl ?_)
    ·simp [h3.1]
    ·rw [List.getElem?_modify] at hk';by_cases ej:j=k'
     ·subst ej;rw [g1] at hk';simp at hk';subst hk';refine ⟨{ y0 with key:=i,val:=p },?_,hy,hz,g6⟩;simp [g3']
     ·have hk'':es[k']? = some x':=by
       cases hq:es[k']? with
       | none=>rw [hq] at hk'; simp at hk'
       | some z0=>rw [hq] at hk'; simp [ej] at hk'; rw [hk']
      obtain ⟨y1,q1,q2⟩:=h3.2 _ _ hk'';refine ⟨y1,?_,q2⟩;have q1':l[k']? = some y1:=by simpa using q1
      simp [ej,q1']
    ·rw [hrun];simp [Instr.mapUpdate,run_underlying ht,MapKept.run_getObj_map h2,hchk,hr1,g3',hst,MapKept.run_setObj_map _ h2];rfl
  ·rename_i hfd;cases he;obtain ⟨q,hr1,hr2⟩:=ky hk hy hkey w h3 hfd;cases q with
   | some q=>exact hr2.elim
   | none =>
    refine z7 (c:=c+1) (es':=l.push { key:=i,val:=p,born:=c }) hf hr hd hb h1 h2 ⟨?_,fun k' x' hk'=>?_⟩ (.inl ?_)
    ·have:=h3.1; simp at this ⊢; exact this
    ·have hl:=h3.1;simp at hl;rcases bi k' es.length with hlt | hge
     ·rw [ag hlt] at hk';obtain ⟨y1,q1,q2⟩:=h3.2 _ _ hk';refine ⟨y1,?_,q2⟩;have q1':l[k']? = some y1:=by simpa using q1
      rw [nk,fe,if_neg (by omega)];exact q1'
     ·rw [ak hge] at hk'
      have h0:k'=es.length:=by have:=aj hk';simp at this; omega
      subst h0;simp at hk';subst hk';exact ⟨{ key:=i,val:=p,born:=c },by simp [hl],hy,hz,rfl⟩
    ·rw [hrun];simp [Instr.mapUpdate,run_underlying ht,MapKept.run_getObj_map h2,hchk,hr1,MapKept.run_setObj_map _ h2];rfl
  ·cases he
theorem map_putV (hf:FRel E lo ν μ (sget s) a.tmps w) (hr:Rel E μ h w) {dst:Option Tmp} {rr:Result Next} (hd:∀ x,dst=some x→x < a.tmps.size) {r:Nat} {m:M} {es:List (AVal × AVal × Nat)} {es' l:Array MapEntry} {c c0:Nat} {v:AVal} {u:Value}
  (hb:h.base≤r) (hm:μ[r]? = some (some m)) (_hblk:w.heap[m.blk]? = some (.map l c0)) (hes:Entries E μ es es'.toList) (hv:VRel E μ v u)
  (hrun:rr = .ok (.value u) (di w m.blk (.map es' c))) :
  OpDone E lo ν.ds μ w a dst rr (.val v) s (h.put r (.map es c)):=by
 have hlt:=hr.lt r m hm;refine ⟨u,di w m.blk (.map es' c),μ,ν,rfl,.inl hrun,Step.put hm (gc _ _) _,hr.put hb hm ?_,?_⟩
 ·exact ⟨m,es',hm,ga hlt,by simpa using hes.1,fun k x hk=>by obtain ⟨y,y1,y2⟩:=hes.2 k x hk; exact ⟨y,by simpa using y1,y2⟩⟩
 ·rw [jv];refine FRel.setVal ?_ hd hv;exact hf.keep (Later.refl _) (fun t cs' hv=>da (hf.sepm t cs' r m hv hm)) (fun t cs' j m' _ hj hm=>absurd (aj hm) (by omega)) fun q hq=>⟨da ((hf.sepd q hq).1 r m hm),fun j m' hj hm=>absurd (aj hm) (by omega)⟩
theorem mapentry_done (hf:FRel E lo ν μ (sget s) a.tmps w) (hr:Rel E μ h w) {dst:Option Tmp} {rr:Result Next} (hd:∀ x,dst=some x→x < a.tmps.size) {t k e:TypeId} {kn:KeyT} {x y z v:AVal} {u i:Value} {h':Heap}
  (ht:E.P.underlying t=some (.map k e)) (hk:keyT E.P k=some kn) (hz:zeroA E.P e=some z) (hx:VRel E μ x u) (hy:VRel E μ y i) (he:dl (.mapentry kn z) [x,y] h=some (v,h'))
  (hrun:rr=((Instr.mapEntry t u i).run E.P w).andThen fun v w'=>.ok (.value v) w'):OpDone E lo ν.ds μ w a dst rr (.val v) s h':=by
 cases x <;> simp only [dl,reduceCtorEq] at he
 rename_i q;cases q with
 | none=>cases he
 | some r =>
  simp only at he;split at he;case isFalse=>cases he
  rename_i hh;obtain ⟨hkey,hb⟩:=hh;split at he;case h_2=>cases he
  rename_i es c hg;obtain ⟨m,l,h1,h2,h3⟩:=wu hr hg;have hu:=za3 hx h1;subst hu;have hchk:=qt hk hy hkey false 9998 w;split at he
  ·rename_i j v0 hfd;cases he;obtain ⟨q,hr1,hr2⟩:=ky hk hy hkey w h3 hfd;cases q with
   | none=>exact hr2.elim
   | some q =>
    obtain ⟨j',v'⟩:=q;obtain ⟨rfl,hvv⟩:=hr2;obtain ⟨e0,g1,g2⟩:=ut hfd;obtain ⟨y0,g3,g4,g5,g6⟩:=h3.2 _ _ g1;have hst:=run_stays g2 hy g4 w;have g3':l[j]? = some y0:=by simpa using g3
    refine map_putV (c:=c) (es':=l.modify j fun x=>{ x with key:=i }) (u:=.tuple #[v',goInt y0.born]) hf hr hd hb h1 h2 ⟨?_,fun k' x' hk'=>?_⟩ ?_ ?_
    ·simp [h3.1]
    ·rw [List.getElem?_modify] at hk';by_cases ej:j=k'
     ·subst ej;rw [g1] at hk';simp at hk';subst hk';refine ⟨{ y0 with key:=i },?_,hy,g5,g6⟩;simp [g3']
     ·have hk'':es[k']? = some x':=by
       cases hq:es[k']? with
       | none=>rw [hq] at hk'; simp at hk'
       | some z0=>rw [hq] at hk'; simp [ej] at hk'; rw [hk']
      obtain ⟨y1,q1,q2⟩:=h3.2 _ _ hk'';refine ⟨y1,?_,q2⟩;have q1':l[k']? = some y1:=by simpa using q1
      simp [ej,q1']
    ·simp only [VRel];refine ⟨_,rfl,?_⟩;simp [VRels,VRel,hvv,g1,g6,goInt]
    ·rw [hrun];simp [Instr.mapEntry,run_underlying ht,MapKept.run_getObj_map h2,hchk,hr1,g3',hst,MapKept.run_setObj_map _ h2];rfl
  ·rename_i hfd;cases he;obtain ⟨q,hr1,hr2⟩:=ky hk hy hkey w h3 hfd;obtain ⟨zv,hz1,hz2⟩:=run_zeroA (E:=E) hz μ w;cases q with
   | some q=>exact hr2.elim
   | none =>
    refine map_putV (c:=c+1) (es':=l.push { key:=i,val:=zv,born:=c }) (u:=.tuple #[zv,goInt c]) hf hr hd hb h1 h2 ⟨?_,fun k' x' hk'=>?_⟩ ?_ ?_
    ·have:=h3.1; simp at this ⊢; exact this
    ·have hl:=h3.1;simp at hl;rcases bi k' es.length with hlt | hge
     ·rw [ag hlt] at hk';obtain ⟨y1,q1,q2⟩:=h3.2 _ _ hk';refine ⟨y1,?_,q2⟩;have q1':l[k']? = some y1:=by simpa using q1
      rw [nk,fe,if_neg (by omega)];exact q1'
     ·rw [ak hge] at hk'
      have h0:k'=es.length:=by have:=aj hk';simp at this; omega
      subst h0;simp at hk';subst hk';exact ⟨{ key:=i,val:=zv,born:=c },by simp [hl],hy,hz2,rfl⟩
    ·simp only [VRel];refine ⟨_,rfl,?_⟩;simp [VRels,VRel,hz2,goInt]
    ·rw [hrun];simp [Instr.mapEntry,run_underlying ht,MapKept.run_getObj_map h2,hchk,hr1,hz1,MapKept.run_setObj_map _ h2];rfl
  ·cases he
theorem wv {st:Int}:∀ {es:List (AVal × AVal × Nat)} {l:List MapEntry},Entries E μ es l→l.findIdx? (fun e=>((e.born:Nat):Int) == st)=es.findIdx? (fun e=>((e.2.2:Nat):Int) == st)
 | [],l,h=>by have:l=[]:=bq h.1;subst this; rfl
 | x :: es,l,h=>by obtain ⟨_,hh⟩:=h;obtain ⟨y,l',rfl,h1,h2,h3⟩:=Entries.cons ⟨by assumption,hh⟩;obtain ⟨y',e1,_,_,e2⟩:=hh 0 x rfl;simp at e1;subst e1;rw [List.findIdx?_cons,List.findIdx?_cons,e2,wv h3]
theorem zx (hf:FRel E lo ν μ (sget s) a.tmps w) (hr:Rel E μ h w) {dst:Option Tmp} {rr:Result Next} (hd:∀ x,dst=some x→x < a.tmps.size) {t:TypeId} {x y z v:AVal} {u i p:Value} {h':Heap}
  (hx:VRel E μ x u) (hy:VRel E μ y i) (hz:VRel E μ z p) (he:dl .entrystore [x,y,z] h=some (v,h'))
  (hrun:rr=((Instr.entryStore t u i p).run E.P w).andThen fun _ w'=>.ok .skip w'):OpDone E lo ν.ds μ w a dst rr (.val v) s h':=by
 have hsh:∃ r st,x = .map (some r)∧y = .int .i64 st:=by unfold dl at he;split at he <;> simp_all
 obtain ⟨r,st,rfl,rfl⟩:=hsh;simp only [dl] at he;split at he;case isFalse=>cases he
 rename_i hb;split at he;case h_2=>cases he
 rename_i es c hg;obtain ⟨m,l,h1,h2,h3⟩:=wu hr hg;have hu:=za3 hx h1;subst hu;have hi:i = .int .i64 st:=by simpa only [VRel] using hy
 subst hi;split at he;case h_2=>cases he
 rename_i j hj;cases he
 have hj':l.findIdx? (fun e=>((e.born:Nat):Int) == st)=some j:=by have:=wv (st:=st) h3;rw [hj] at this;rw [← this];obtain ⟨l⟩:=l;simp
 have hjl:j < es.length:=by have:=List.findIdx?_eq_some_iff_getElem.1 hj;exact this.1
 obtain ⟨e0,g1⟩:∃ e0,es[j]? = some e0:=⟨_,ah hjl⟩;obtain ⟨y0,g3,g4,g5,g6⟩:=h3.2 _ _ g1;have g3':l[j]? = some y0:=by simpa using g3
 refine z7 (c:=c) (es':=l.modify j fun x=>{ x with val:=p }) hf hr hd hb h1 h2 ⟨?_,fun k' x' hk'=>?_⟩ (.inl ?_)
 ·simp [h3.1]
 ·rw [List.getElem?_modify] at hk';by_cases ej:j=k'
  ·subst ej;rw [g1] at hk';simp at hk';subst hk';refine ⟨{ y0 with val:=p },?_,g4,hz,g6⟩;simp [g3']
  ·have hk'':es[k']? = some x':=by
    cases hq:es[k']? with
    | none=>rw [hq] at hk'; simp at hk'
    | some z0=>rw [hq] at hk'; simp [ej] at hk'; rw [hk']
   obtain ⟨y1,q1,q2⟩:=h3.2 _ _ hk'';refine ⟨y1,?_,q2⟩;have q1':l[k']? = some y1:=by simpa using q1
   simp [ej,q1']
 ·rw [hrun];simp [Instr.entryStore,asInt,asIntOf,MapKept.run_getObj_map h2,hj',MapKept.run_setObj_map _ h2];rfl
theorem delete_done (hf:FRel E lo ν μ (sget s) a.tmps w) (hr:Rel E μ h w) {dst:Option Tmp} {rr:Result Next} (hd:∀ x,dst=some x→x < a.tmps.size) {t k e:TypeId} {ts:Array TypeId} {ty:TypeId} {kn:KeyT} {x y v:AVal} {u i:Value} {h':Heap}
  (hts:ts[0]? = some t) (ht:E.P.underlying t=some (.map k e)) (hk:keyT E.P k=some kn) (hx:VRel E μ x u) (hy:VRel E μ y i) (he:dl (.delete kn) [x,y] h=some (v,h'))
  (hrun:rr=((Builtin.delete_ ts ty #[u,i]).run E.P w).andThen fun v w'=>.ok (.value v) w'):OpDone E lo ν.ds μ w a dst rr (.val v) s h':=by
 cases x <;> simp only [dl,reduceCtorEq] at he
 rename_i q;cases q with
 | none =>
  simp only at he;split at he;case isFalse=>cases he
  rename_i hkey;cases he;simp only [VRel] at hx; subst hx;have hchk:=qt hk hy hkey true 9998 w;refine eq hf hr hd (v:=.tuple #[]) ?_ (by simp only [VRel]; exact ⟨#[],rfl,by simp [VRels]⟩);rw [hrun];simp [Builtin.delete_,hts,run_underlying ht,hchk]
 | some r =>
  simp only at he;split at he;case isFalse=>cases he
  rename_i hh;obtain ⟨hkey,hb⟩:=hh;split at he;case h_2=>cases he
  rename_i es c hg;obtain ⟨m,l,h1,h2,h3⟩:=wu hr hg;have hu:=za3 hx h1;subst hu;have hchk:=qt hk hy hkey l.isEmpty 9998 w;split at he
  ·rename_i j v0 hfd;cases he;obtain ⟨q,hr1,hr2⟩:=ky hk hy hkey w h3 hfd;cases q with
   | none=>exact hr2.elim
   | some q =>
    obtain ⟨j',v'⟩:=q;obtain ⟨rfl,_⟩:=hr2;obtain ⟨e0,g1,_⟩:=ut hfd;have hl:=h3.1;simp at hl;have hj:j < l.size:=by rw [hl]; exact aj g1
    refine z7 (c:=c) (es':=l.eraseIdxIfInBounds j) hf hr hd hb h1 h2 ⟨?_,fun k' x' hk'=>?_⟩ (.inr ?_)
    ·simp [Array.eraseIdxIfInBounds,hj,List.length_eraseIdx,← hl]
    ·rw [List.getElem?_eraseIdx] at hk';simp only [Array.eraseIdxIfInBounds,hj,dif_pos,Array.toList_eraseIdx,List.getElem?_eraseIdx];split at hk'
     ·rename_i hlt; rw [if_pos hlt]; exact h3.2 _ _ hk'
     ·rename_i hlt; rw [if_neg hlt]; exact h3.2 _ _ hk'
    ·rw [hrun];simp [Builtin.delete_,hts,run_underlying ht,MapKept.run_getObj_map h2,hchk,hr1,MapKept.run_setObj_map _ h2];rfl
  ·rename_i hfd;cases he;obtain ⟨q,hr1,hr2⟩:=ky hk hy hkey w h3 hfd;cases q with
   | some q=>exact hr2.elim
   | none =>
    have hsame:({ w with heap:=w.heap.setIfInBounds m.blk (.map l c) }:World)=w:=by
     congr 1;apply Array.ext_getElem?;intro k';by_cases e:m.blk=k'
     ·subst e;rw [h2];have:=hr.lt _ _ h1;simp [this]
     ·rw [dx e]
    refine eq hf hr hd (v:=.tuple #[]) ?_ (by simp only [VRel]; exact ⟨#[],rfl,by simp [VRels]⟩);rw [hrun];simp [Builtin.delete_,hts,run_underlying ht,MapKept.run_getObj_map h2,hchk,hr1,MapKept.run_setObj_map _ h2,hsame]
  ·cases he
end
end Go.Abs

namespace Go.Abs
section
variable {E:Env} {lo:Nat} {ν:Fr} {μ:MM} {s:Slots} {h:Heap} {a:Act} {w:World}
theorem na {P:Program} {S:Sem Value} {v:Value} {w w':World} (hS:S.run P w = .ok v w'):(do pure (Next.value (← S)):Sem Next).run P w = .ok (.value v) w':=by simp [hS]
def plainEq:Value→Bool
 | .bool _ | .pointer _ | .slice _ _ _ | .map _ | .func _ _ _ | .nilFunc=>true
 | _=>false
def kindIs (k:NilKind) (d:TypeDesc):Prop :=
 match k with
 | .ptr=>∃ e,d = .pointer e
 | .slice=>∃ e,d = .slice e
 | .map=>∃ a b,d = .map a b
 | .func=>∃ a b c,d = .func a b c
theorem eqNil_rel {P:Program} {k:NilKind} {x y:AVal} {u v:Value} {d:TypeDesc} {t:TypeId} {b:Bool} (w:World) (hx:VRel E μ x u) (hy:VRel E μ y v) (ht:P.underlying t=some d)
  (hk:kindIs k d) (h:aEqNil k x y=some b):plainEq u=true∧(Op.equal t u v).run P w = .ok b w:=by
 suffices plainEq u=true∧∀ n:Nat,(Op.equalIn (n+1) t u v).run P w = .ok b w from ⟨this.1,this.2 9999⟩
 unfold aEqNil at h;split at h <;> (try cases h)
 ·obtain ⟨e,rfl⟩:=hk;simp only [VRel] at hx; subst hx;refine ⟨rfl,fun n=>?_⟩;rename_i p;cases p with
  | none=>simp only [VRel] at hy; subst hy; simp [Op.equalIn,run_underlying ht]
  | some p=>simp only [VRel] at hy; obtain ⟨_,rfl,_⟩:=hy; simp [Op.equalIn,run_underlying ht]
 ·obtain ⟨e,rfl⟩:=hk;simp only [VRel] at hx hy;obtain ⟨_,rfl,_⟩:=hx; subst hy;exact ⟨rfl,fun n=>by simp [Op.equalIn,run_underlying ht]⟩
 ·obtain ⟨e,rfl⟩:=hk;simp only [VRel] at hx;obtain ⟨_,_,rfl⟩:=hx;refine ⟨rfl,fun n=>?_⟩;rename_i p _ _ _ _;cases p with
  | none=>simp only [VRel] at hy; obtain ⟨_,_,rfl⟩:=hy; simp [Op.equalIn,run_underlying ht]
  | some p=>simp only [VRel] at hy; obtain ⟨_,_,rfl,_⟩:=hy; simp [Op.equalIn,run_underlying ht]
 ·obtain ⟨e,rfl⟩:=hk;simp only [VRel] at hx hy;obtain ⟨_,_,rfl,_⟩:=hx; obtain ⟨_,_,rfl⟩:=hy;exact ⟨rfl,fun n=>by simp [Op.equalIn,run_underlying ht]⟩
 ·obtain ⟨e,e',rfl⟩:=hk;simp only [VRel] at hx; subst hx;refine ⟨rfl,fun n=>?_⟩;rename_i p;cases p with
  | none=>simp only [VRel] at hy; subst hy; simp [Op.equalIn,run_underlying ht]
  | some p=>simp only [VRel] at hy; obtain ⟨_,_,rfl,_⟩:=hy; simp [Op.equalIn,run_underlying ht]
 ·obtain ⟨e,e',rfl⟩:=hk;simp only [VRel] at hx hy;obtain ⟨_,_,rfl,_⟩:=hx; subst hy;exact ⟨rfl,fun n=>by simp [Op.equalIn,run_underlying ht]⟩
 ·obtain ⟨e,e',e'',rfl⟩:=hk;simp only [VRel] at hx hy; subst hx; subst hy;exact ⟨rfl,fun n=>by simp [Op.equalIn,run_underlying ht]⟩
 ·obtain ⟨e,e',e'',rfl⟩:=hk;simp only [VRel] at hx hy; subst hx;obtain ⟨_,_,_,rfl,_⟩:=hy;exact ⟨rfl,fun n=>by simp [Op.equalIn,run_underlying ht]⟩
 ·obtain ⟨e,e',e'',rfl⟩:=hk;simp only [VRel] at hx hy; subst hy;obtain ⟨_,_,_,rfl,_⟩:=hx;exact ⟨rfl,fun n=>by simp [Op.equalIn,run_underlying ht]⟩
theorem run_eq {P:Program} {neg:Bool} {t:TypeId} {u v:Value} {b:Bool} (hu:plainEq u=true) (x y:Operand) (he:(Op.equal t u v).run P w = .ok b w) :
  (do eqGuard (if neg then .neq else .eql) t x y u v; binOp (if neg then .neq else .eql) t u v:Sem Value).run P w = .ok (.bool (if neg then !b else b)) w:=by
 have hg:(eqGuard (if neg then .neq else .eql) t x y u v).run P w = .ok () w:=tr _ t x y u v w (fun c e=>by subst e; cases hu) (fun e=>by subst e; cases hu);rw [Sem.run_bind,hg,Result.andThen_ok]
 have key:∀ op,(op = .eql→(binOp op t u v).run P w = .ok (.bool b) w)∧(op = .neq→(binOp op t u v).run P w = .ok (.bool !b) w):=by intro op;constructor <;> (rintro rfl; unfold binOp; cases u <;> (try cases hu) <;> cases v <;> simp [he])
 cases neg
 ·exact (key .eql).1 rfl
 ·exact (key .neq).2 rfl
theorem beq_rel {P:Program} {t:TypeId} {a b:Bool} (ht:P.underlying t=some .bool) (w:World):(Op.equal t (.bool a) (.bool b)).run P w = .ok (a == b) w:=by
 suffices ∀ n:Nat,(Op.equalIn (n+1) t (.bool a) (.bool b)).run P w = .ok (a == b) w from this 9999
 intro n;simp [Op.equalIn,run_underlying ht]
theorem za0 {P:Program} (t e:TypeId) (i:TypeInfo) (z:Value) (ht:P.underlying t=some (.slice e)) (hi:P.info? e=some i) (hz:i.zero=some z)
  (n c:Nat) (hnc:n≤c) (hbytes:(i.bytes:Int)*(c:Int)≤281474976710656) (h63:c≤9223372036854775807) (w:World) :
  (Instr.makeSlice t (.int .i64 (n:Int)) (.int .i64 (c:Int))).run P w =
   .ok (.slice (some ⟨w.heap.size,0,none⟩) n c) { w with heap:=w.heap.push (.cells ((Array.range (c*i.size)).map fun j=>z.cells[j % z.cells.size]!) e (0,0)) }:=by
 have hw:∀ k:Nat,k≤9223372036854775807→IntKind.i64.wrap (k:Int)=k:=by intro k hk;simp only [IntKind.wrap,IntKind.bits,IntKind.signed];simp;omega
 have h1:¬ (281474976710656 < (i.bytes:Int)*(c:Int)):=by omega
 have h2:¬ ((c:Int) < 0):=by omega
 have h3:¬ ((n:Int) < 0):=by omega
 have h4:¬ (c < n):=by omega
 by_cases h0:c*i.size=0
 ·simp [Instr.makeSlice,run_underlying ht,typeInfo,hi,asInt,asIntOf,hw c h63,hw n (by omega),h1,h2,h3,h4,sizeOf,h0,newRow,show Array.range 0 = #[] from rfl]
 ·simp [Instr.makeSlice,run_underlying ht,typeInfo,hi,asInt,asIntOf,hw c h63,hw n (by omega),h1,h2,h3,h4,sizeOf,h0,newRow,zeroValue,hz]
theorem vp {s:Slots} {t:Nat} (h:isVar s t=true):∃ cs,sget s t=some (.var cs):=by
 unfold isVar at h;split at h
 ·rename_i cs h1; exact ⟨cs,h1⟩
 ·cases h
theorem evs2 {x y:Opd} {vs:List AVal} (h:evs s [x,y]=some vs):∃ u v,vs=[u,v]∧x.ev s=some u∧y.ev s=some v:=by
 cases hx:x.ev s with
 | none=>simp [evs,hx] at h
 | some u =>
  cases hy:y.ev s with
  | none=>simp [evs,hy] at h
  | some v=>simp [evs,hx,hy] at h; exact ⟨u,v,h.symm,rfl,rfl⟩
theorem evs3 {x y z:Opd} {vs:List AVal} (h:evs s [x,y,z]=some vs):∃ u v p,vs=[u,v,p]∧x.ev s=some u∧y.ev s=some v∧z.ev s=some p:=by
 cases hx:x.ev s with
 | none=>simp [evs,hx] at h
 | some u =>
  cases hy:y.ev s with
  | none=>simp [evs,hy] at h
  | some v =>
   cases hz:z.ev s with
   | none=>simp [evs,hz] at h
   | some p=>simp [evs,hx,hy,hz] at h; exact ⟨u,v,p,h.symm,rfl,rfl,rfl⟩
theorem aggs_rel {neg:Bool} {t:TypeId} {ks:List CK} {x y:AVal} {u v:Value} {d:TypeDesc} {r:AVal} {h':Heap} (hd:E.P.underlying t=some d) (hda:(∃ fs,d = .struct fs)∨∃ n e,d = .array n e) (hg:E.P.eqGuardType E.P.depth t=false) (hck:ckOf E.P 20 t=some ks)
  (hx:VRel E μ x u) (hy:VRel E μ y v) (he:dl (.pure (.eqcells neg ks)) [x,y] h=some (r,h')) (p q:Operand) :
  h'=h∧∃ b,r = .bool b∧(do eqGuard (if neg then .neq else .eql) t p q u v; binOp (if neg then .neq else .eql) t u v:Sem Value).run E.P w = .ok (.bool b) w:=by
 simp only [dl,evPure] at he;rw [ae] at he;obtain ⟨r',he,hr'⟩:=he;cases hr';cases x <;> simp only [evEq,reduceCtorEq] at he
 cases y <;> simp only [reduceCtorEq] at he
 rename_i A B;split at he;case isFalse=>cases he
 rename_i hh;obtain ⟨hk,hlen⟩:=hh;rw [ae] at he;obtain ⟨b,hb,he⟩:=he;cases he
 have hp:∃ m,partT E.P t=some (some m):=by obtain ⟨i,hi⟩:=info_of_underlying hd;refine ⟨i.size,?_⟩;rcases hda with ⟨fs,rfl⟩ | ⟨n,e,rfl⟩ <;> simp [partT,hd,sizeT,hi]
 obtain ⟨m,hm⟩:=hp;have heq:=eq_ck 20 t ks hck 9980 μ w (some m) _ _ u v _ _ b hm ⟨_,rfl⟩ ⟨_,rfl⟩ hx hy rfl rfl hlen hk hb;simp only [VRel] at hx hy;obtain ⟨xs,rfl,_⟩:=hx;obtain ⟨ys,rfl,_⟩:=hy;refine ⟨rfl,_,rfl,?_⟩;rw [Sem.run_bind,run_eqGuard_agg w _ t p q xs ys hg,Result.andThen_ok];cases neg
 ·simp only [am,if_false];rw [run_eql_struct w t xs ys,heq]; rfl
 ·simp only [if_true];rw [run_neq_struct w t xs ys,heq]; rfl
theorem ib_find {fn:Func} (h:fn.name = "internal/bytealg.IndexByteString"):Extern.find fn=some Extern.BytealgIndexByte.indexByte:=by
 have h1:Extern.allGenericRows.lookup "internal/bytealg.IndexByteString" = none:=by kernel_rfl
 have h2:Extern.allTypedRows.lookup "internal/bytealg.IndexByteString" = none:=by kernel_rfl
 have h3:Extern.allRows.lookup "internal/bytealg.IndexByteString" = some Extern.BytealgIndexByte.indexByte:=by kernel_rfl
 unfold Extern.find;simp only [h,h1,h2,h3];rfl
theorem cb_find {fn:Func} (h:fn.name = "internal/bytealg.CountString"):Extern.find fn=some Extern.BytealgCount.count:=by
 have h1:Extern.allGenericRows.lookup "internal/bytealg.CountString" = none:=by kernel_rfl
 have h2:Extern.allTypedRows.lookup "internal/bytealg.CountString" = none:=by kernel_rfl
 have h3:Extern.allRows.lookup "internal/bytealg.CountString" = some Extern.BytealgCount.count:=by kernel_rfl
 unfold Extern.find;simp only [h,h1,h2,h3];rfl
theorem next_none {fn:Func} (h:fn.name = "internal/bytealg.IndexByteString" ∨ fn.name = "internal/bytealg.CountString") (ho:fn.origin = ""):Extern.findNext fn=none:=by
 have h1:Extern.allNextRows.lookup "internal/bytealg.IndexByteString" = none:=by kernel_rfl
 have h2:Extern.allNextRows.lookup "internal/bytealg.CountString" = none:=by kernel_rfl
 have h3:Extern.allNextRows.lookup "" = none:=by kernel_rfl
 unfold Extern.findNext;rcases h with h | h
 ·simp only [h,ho,h1,h3]; rfl
 ·simp only [h,ho,h2,h3]; rfl
theorem prim_done {call:CallSem} {d:Nat} {o:Oper} {k:PrimK} {f:FuncId} {c:Call} {as:List Opd} {x:Slot} {s':Slots} {h':Heap} (hf:FRel E lo ν μ (sget s) a.tmps w) (hr:Rel E μ h w) (hd:∀ t,o.dst=some t→t < a.tmps.size)
  (ho:o.op = .call c) (hcal:c.callee = .value (.func f)) (has:cOpds E c.args.toList=some as) (hk:primOf E.P f=some k) (hev:dm call d (.ext (.pure (.prim k)) as) s h=some (x,s',h')) :
  OpDone E lo ν.ds μ w a o.dst ((execOp a.eval o).run E.P w) x s' h':=by
 simp only [dm] at hev;split at hev;case h_2=>cases hev
 rename_i vs hvs;rw [ae] at hev;obtain ⟨⟨u,h1⟩,hap,hev⟩:=hev;cases hev;simp only [dl,evPure] at hap;rw [ae] at hap;obtain ⟨u',hap,e⟩:=hap;cases e;have hrel:=lh hf has hvs;unfold primOf at hk;split at hk;case h_2=>cases hk
 rename_i fn hfn;split at hk;case isFalse=>cases hk
 rename_i hbo
 have hrun:(execOp a.eval o).run E.P w=(callFunc f (c.args.map a.eval)).run E.P w:=by simp [execOp,ho,resolve,hcal,Act.eval,Deferred.ofValue,invoke]
 rw [hrun];have hargs:c.args.map a.eval=(c.args.toList.map a.eval).toArray:=by apply Array.ext'; simp
 rw [hargs];split at hk
 ·rename_i hname;cases hk;have hn:(fn.name == "runtime.NumGoroutine")=false:=by rw [hname]; decide
  unfold evPrim at hap;split at hap
  ·rename_i sb cb he1;cases he1;cases hap;simp only [VRels,VRel] at hrel;obtain ⟨_,_,e1,rfl,_,_,e2,rfl,rfl⟩:=hrel;subst e2;rw [e1];refine eq hf hr hd (v:=.int .i64 (Lib.indexByte sb cb.toNat.toUInt8)) ?_ (by simp only [VRel]);rw [run_callFunc_extern hfn hn hbo.1 (next_none (.inl hname) hbo.2) (ib_find hname),Lib.run_indexByteString];rfl
  ·exact absurd ‹PrimK.indexByte=PrimK.countByte› (by simp)
  ·cases hap
 ·split at hk;case isFalse=>cases hk
  rename_i hname;cases hk;have hn:(fn.name == "runtime.NumGoroutine")=false:=by rw [hname]; decide
  unfold evPrim at hap;split at hap
  ·exact absurd ‹PrimK.countByte=PrimK.indexByte› (by simp)
  ·rename_i sb cb he1;cases he1;cases hap;simp only [VRels,VRel] at hrel;obtain ⟨_,_,e1,rfl,_,_,e2,rfl,rfl⟩:=hrel;subst e2;rw [e1];refine eq hf hr hd (v:=.int .i64 (Lib.countByte sb cb.toNat.toUInt8)) ?_ (by simp only [VRel]);rw [run_callFunc_extern hfn hn hbo.1 (next_none (.inr hname) hbo.2) (cb_find hname),Lib.run_countString];rfl
  ·cases hap
theorem entry_done (hf:FRel E lo ν μ (sget s) a.tmps w) (hr:Rel E μ h w) {dst:Option Tmp} {rr:Result Next} (hd:∀ x,dst=some x→x < a.tmps.size) {x v:AVal} {u:Value} {h':Heap} (hx:VRel E μ x u)
  (he:dl .entry [x] h=some (v,h')) (hrun:rr=((Instr.entry u).run E.P w).andThen fun v w'=>.ok (.value v) w'):OpDone E lo ν.ds μ w a dst rr (.val v) s h':=by
 unfold dl at he;split at he
 case h_8 =>
  rename_i i e1 e2;cases e2;simp only [VRel] at hx;obtain ⟨ad,hit,mo,hmo,had⟩:=hx;split at he;case h_2=>cases he
  rename_i m since seen last hgi;split at he;case h_2=>cases he
  rename_i st es clock hst hgm;split at he;case isFalse=>cases he
  rename_i hcl;subst hcl;rw [ae] at he;obtain ⟨e,hfd,he⟩:=he;cases he;obtain ⟨mi,r',⟨q1,hbase⟩,q2,q3⟩:=hr.obj _ _ hgi;rw [q1] at hmo; cases hmo;have had':=had mi rfl;subst had';rw [hbase] at hit;obtain ⟨mm,es',p1,p2,p3,p4⟩:=hr.obj _ _ hgm;simp only [VRel] at q3;obtain ⟨bm,xo,e1,e2,e3⟩:=q3;rw [p1] at e2; cases e2;have e3:=e3 mm rfl;subst e3;have e1:r'=some mm.blk:=by simpa using e1
  subst e1
  have hfind:∀ (l:List (AVal × AVal × Nat)) (l':List MapEntry),l'.length=l.length→(∀ (k:Nat) (z:AVal × AVal × Nat),l[k]? = some z→∃ y,l'[k]? = some y∧VRel E μ z.1 y.key∧VRel E μ z.2.1 y.val∧y.born=z.2.2) →
    ∀ e,(l.find? fun e=>e.2.2 == st)=some e→∃ y,(l'.find? fun y=>y.born == st)=some y∧VRel E μ e.1 y.key∧VRel E μ e.2.1 y.val:=by
   intro l;induction l with
   | nil=>intro _ _ _ e he; simp at he
   | cons z l ih =>
    intro l' hl hh e he;cases l' with
    | nil=>simp at hl
    | cons y l' =>
     obtain ⟨y0,h1,h2,h3,h4⟩:=hh 0 z rfl;simp at h1;subst h1;rw [List.find?_cons] at he ⊢;rw [h4];cases hz:z.2.2 == st with
     | true =>
      rw [hz] at he;cases he;exact ⟨y,rfl,h2,h3⟩
     | false =>
      rw [hz] at he;exact ih l' (by simpa using hl) (fun k z hk=>hh (k+1) z (by simpa using hk)) e he
  obtain ⟨y,hy1,hy2,hy3⟩:=hfind es es'.toList (by simpa using p3) (fun k z hk=>by obtain ⟨y,y1,y2⟩:=p4 k z hk; exact ⟨y,by simpa using y1,y2⟩) e hfd;have hy1':es'.find? (fun y=>y.born == st)=some y:=by rw [← Array.find?_toList]; exact hy1
  have hback:seen.toArray.back? = some st:=by simpa using hst
  have hir:(Instr.entry u).run E.P w = .ok (.tuple #[y.key,y.val]) w:=by rw [hit];simp [Instr.entry,getObj,Sem.run,q2,p2,Result.andThen,hback,hy1']
  refine eq hf hr hd (v:=.tuple #[y.key,y.val]) (by rw [hrun,hir]; rfl) ?_;simp only [VRel];exact ⟨_,rfl,by simp only [VRels]; exact ⟨_,_,rfl,hy2,_,_,rfl,hy3,rfl⟩⟩
 all_goals simp_all
theorem op_sound {call:CallSem} {loc:Bool} {o:Oper} {ao:AOp} {x:Slot} {s':Slots} {h':Heap} (hop:cOp E loc o.op=some ao) (hc1:∀ f as,ao ≠ .call f as) (hc2:∀ g as,ao ≠ .callg g as)
  (hev:dm call (o.dst.getD 0) ao s h=some (x,s',h')) (hf:FRel E lo ν μ (sget s) a.tmps w) (hr:Rel E μ h w) (hlo:lo≤w.heap.size) (hd:∀ t,o.dst=some t→t < a.tmps.size) (hloc:loc=true→isStore o.op=false→o.dst.isSome=true) :
  OpDone E lo ν.ds μ w a o.dst ((execOp a.eval o).run E.P w) x s' h':=by
 cases ho:o.op with
 | move y =>
  rw [ho] at hop;simp only [cOp] at hop;rw [ae] at hop;obtain ⟨y',hy,rfl⟩:=hop;obtain ⟨u,hu,rfl,rfl,rfl⟩:=f8 (by simpa only [dm] using hev);exact eq hf hr hd (by simp [execOp,ho]) (df hf hy hu)
 | assign y =>
  rw [ho] at hop;simp only [cOp] at hop;rw [ae] at hop;obtain ⟨y',hy,rfl⟩:=hop;obtain ⟨u,hu,rfl,rfl,rfl⟩:=f8 (by simpa only [dm] using hev);exact eq hf hr hd (by simp [execOp,ho]) (df hf hy hu)
 | pick c y z =>
  rw [ho] at hop;simp only [cOp] at hop;split at hop;case h_2=>cases hop
  rename_i c' y' z' hc hy hz;cases hop;simp only [dm] at hev;split at hev
  ·rename_i hcv;obtain ⟨u,hu,rfl,rfl,rfl⟩:=f8 hev;have h1:=df hf hc hcv;simp only [VRel] at h1;exact eq hf hr hd (by simp [execOp,ho,h1,asBool]) (df hf hy hu)
  ·rename_i hcv;obtain ⟨u,hu,rfl,rfl,rfl⟩:=f8 hev;have h1:=df hf hc hcv;simp only [VRel] at h1;exact eq hf hr hd (by simp [execOp,ho,h1,asBool]) (df hf hz hu)
  ·cases hev
 | alloc t =>
  rw [ho] at hop;simp only [cOp] at hop;split at hop;case h_2=>cases hop
  rename_i z e hz he;obtain ⟨v,k1,k2,k3⟩:=tp (E:=E) hz μ w
  have hrun:(execOp a.eval o).run E.P w = .ok (.value (.pointer (some ⟨w.heap.size,0,none⟩))) { w with heap:=w.heap.push (.cells v.cells t (0,0)) }:=by simp [execOp,ho,Instr.alloc,k1,newVar,newRow]
  cases loc with
  | true =>
   cases hop;simp only [dm] at hev; cases hev;obtain ⟨d,hd'⟩:=Option.isSome_iff_exists.1 (hloc rfl (by rw [ho]; rfl));rw [hd'];exact done_var hf hr hlo (hd d hd') t k2 k3 hrun
  | false =>
   cases hop;simp only [dm] at hev; cases hev;have hlen:h.size=μ.length:=hr.len.symm;rw [hlen];exact lp hf hr hd _ _ ⟨w.heap.size,0,v.cells.size,e⟩ rfl hrun rfl rfl rfl rfl (qu k2 k3 rfl) (ptr_new rfl)
 | box t y =>
  rw [ho] at hop;simp only [cOp] at hop;rw [ae] at hop;obtain ⟨y',hy,hop⟩:=hop
  have hrun:(execOp a.eval o).run E.P w = .ok (.value (.pointer (some ⟨w.heap.size,0,none⟩))) { w with heap:=w.heap.push (.cells (a.eval y).cells t (0,0)) }:=by simp [execOp,ho,Instr.box,newVar,newRow]
  cases loc with
  | true =>
   simp only [if_true] at hop;subst hop;simp only [dm] at hev;split at hev;case h_2=>cases hev
   rename_i cs hcs;cases hev;rw [jr] at hcs;obtain ⟨u,hu,hcs⟩:=hcs;obtain ⟨k2,k3⟩:=qw (df hf hy hu) hcs;obtain ⟨d,hd'⟩:=Option.isSome_iff_exists.1 (hloc rfl (by rw [ho]; rfl));rw [hd'];exact done_var hf hr hlo (hd d hd') t k2 k3 hrun
  | false =>
   simp only [am,if_false] at hop;subst hop;simp only [dm] at hev;split at hev;case h_2=>cases hev
   rename_i cs hcs;cases hev;rw [jr] at hcs;obtain ⟨u,hu,hcs⟩:=hcs;obtain ⟨k2,k3⟩:=qw (df hf hy hu) hcs;have hlen:h.size=μ.length:=hr.len.symm;rw [hlen];exact lp hf hr hd _ _ ⟨w.heap.size,0,(a.eval y).cells.size,cs.length⟩ rfl hrun rfl rfl rfl rfl (qu k2 k3 rfl) (ptr_new rfl)
 | build t ps =>
  rw [ho] at hop;simp only [cOp] at hop;split at hop;case h_3=>cases hop
  ·rename_i fs z hu hz;obtain ⟨v,k1,k2,k3⟩:=tp (E:=E) hz μ w;split at hop;case h_2=>cases hop
   rename_i pl hpl;rw [ae] at hop;obtain ⟨qs,hq,rfl⟩:=hop;obtain ⟨u,hu',rfl,rfl,rfl⟩:=f8 (by simpa only [dm] using hev);rw [ae] at hu';obtain ⟨cs,hcs,rfl⟩:=hu';obtain ⟨c',j1,j2,j3,_⟩:=tq hf hq hcs k2 k3;refine eq hf hr hd (v:=.agg c') ?_ (by simp only [VRel]; exact ⟨_,rfl,j2,j3⟩);simp [execOp,ho,Instr.build,k1,run_underlying hu,Array.mapM_eq_mapM_toList,za6 w hpl];rw [j1]; rfl
  ·rename_i n e z hu hz;obtain ⟨v,k1,k2,k3⟩:=tp (E:=E) hz μ w;split at hop;case h_2=>cases hop
   rename_i n hn;rw [ae] at hop;obtain ⟨qs,hq,rfl⟩:=hop;obtain ⟨u,hu',rfl,rfl,rfl⟩:=f8 (by simpa only [dm] using hev);rw [ae] at hu';obtain ⟨cs,hcs,rfl⟩:=hu';obtain ⟨c',j1,j2,j3,_⟩:=tq hf hq hcs k2 k3;refine eq hf hr hd (v:=.agg c') ?_ (by simp only [VRel]; exact ⟨_,rfl,j2,j3⟩);simp [execOp,ho,Instr.build,k1,run_underlying hu,jj hn];rw [j1]; rfl
 | buildSlice t len ps =>
  rw [ho] at hop;simp only [cOp] at hop;split at hop;case h_2=>cases hop
  rename_i e hu;split at hop;case h_2=>cases hop
  rename_i n z hn hz;split at hop;case isFalse=>cases hop
  rename_i hh;obtain ⟨hl,hzl,h0⟩:=hh;rw [ae] at hop;obtain ⟨qs,hq,rfl⟩:=hop;obtain ⟨v,k1,k2,k3⟩:=tp (E:=E) hz μ w;simp only [dm] at hev;split at hev;case h_2=>cases hev
  rename_i cs hcs;cases hev;obtain ⟨r1,r2⟩:=z8 (n:=len) k2 k3 hzl h0;have hlen:h.size=μ.length:=hr.len.symm;rw [hlen];by_cases hz0:len*n=0
  ·-- no elements
   have hl0:len=0:=by
    rcases Nat.mul_eq_zero.1 hz0 with h1 | h1
    ·exact h1
    ·omega
   subst hl0;obtain ⟨c',j1,j2,j3,j4⟩:=tq (c:=#[]) hf hq hcs (by simp [rep,VRels]) (by simp [rep]);have hc'l:=j2.length;refine lp hf hr hd (.cells n cs) (.cells c' e (0,0)) ⟨w.heap.size,0,c'.size,n⟩ rfl (w1:={ w with heap:=w.heap.push (.cells c' e (0,0)) }) ?_ rfl rfl rfl rfl (qu j2 j3 rfl) (oc rfl (ai _) (fun k hk=>by cases hk; rfl) (by simp) (by decide));simp [execOp,ho,Instr.buildSlice,run_underlying hu,jj hn,show Array.range 0 = #[] from rfl];rw [j1];simp [newRow]
  ·obtain ⟨c',j1,j2,j3,j4⟩:=tq hf hq hcs r1 r2;refine lp hf hr hd (.cells n cs) (.cells c' e (0,0)) ⟨w.heap.size,0,c'.size,n⟩ rfl (w1:={ w with heap:=w.heap.push (.cells c' e (0,0)) }) ?_ rfl rfl rfl rfl (qu j2 j3 rfl) (oc rfl (ai _) (fun k hk=>by cases hk; rfl) (by rw [j4]; simp) (by have:=Nat.le_mul_of_pos_right len h0; omega));have hnl:¬ (16777216 < len*n):=by omega
   simp [execOp,ho,Instr.buildSlice,run_underlying hu,jj hn,hnl,hz0,k1];rw [j1];simp [newRow]
 | load t y =>
  rw [ho] at hop;simp only [cOp] at hop;split at hop;case h_2=>cases hop
  rename_i n y' hn hy;cases hop;simp only [dm] at hev;split at hev;case h_2=>cases hev
  rename_i ad had;obtain ⟨u,hu,rfl,rfl,rfl⟩:=f8 hev;unfold loadAt at hu;split at hu;case h_2=>cases hu
  rename_i cs o' hcs;obtain ⟨b,p,c,e,fr,k1,k2,k3,k4⟩:=zh hf hr hy had hcs;obtain ⟨v,k5,k6⟩:=load_rel (P:=E.P) hn k2 k3 k4 hu;exact eq hf hr hd (by simp [execOp,ho,Instr.loadAt,Instr.sureAddr,k1,k5]) k6
 | store t y z =>
  rw [ho] at hop;simp only [cOp] at hop;split at hop;case h_2=>cases hop
  rename_i n y' z' hn hy hz;cases loc with
  | true =>
   simp only [if_true] at hop;cases hop;simp only [dm] at hev;split at hev;case h_2=>cases hev
   rename_i vs hvs;rw [ae] at hev;obtain ⟨⟨v,h1⟩,hap,hev⟩:=hev;cases hev;obtain ⟨u1,u2,rfl,hu1,hu2⟩:=evs2 hvs;cases u1 <;> simp only [dl,reduceCtorEq] at hap
   rename_i q;cases q with
   | none=>cases hap
   | some q =>
    obtain ⟨i,o'⟩:=q;simp only at hap;split at hap;case h_2=>cases hap
    rename_i xs esz cs hxs hg;split at hap;case isFalse=>cases hap
    rename_i hh;cases hap;obtain ⟨k2,k3⟩:=qw (df hf hz hu2) hxs;have hsz:(a.eval z).cells.size=n:=by have:=k2.length; simp at this; omega
    refine done_hstore hf hr hd (df hf hy hu1) k2 k3 hg hh.2.1 hh.2.2 fun adr hadr=>?_
    simp [execOp,ho,Instr.storeAt,Instr.sureAddr,hadr,storeVar,jj hn,hsz]
  | false =>
  simp only [am,if_false] at hop;cases hop;simp only [dm] at hev;split at hev;case h_2=>cases hev
  rename_i ad xs had hxs;split at hev;case isFalse=>cases hev
  rename_i hl;rw [ae] at hev;obtain ⟨⟨s1,h1⟩,hst,hev⟩:=hev;cases hev;rw [jr] at hxs;obtain ⟨u,hu,hxs⟩:=hxs;obtain ⟨k2,k3⟩:=qw (df hf hz hu) hxs;have hsz:(a.eval z).cells.size=n:=by have:=k2.length; simp at this; omega
  refine done_store hf hr hd hy had k2 k3 hst fun adr hadr=>?_
  simp [execOp,ho,Instr.storeAt,Instr.sureAddr,hadr,storeVar,jj hn,hsz]
 | nilCheck y =>
  rw [ho] at hop;simp only [cOp] at hop;rw [ae] at hop;obtain ⟨y',hy,rfl⟩:=hop;simp only [dm] at hev;split at hev
  ·rename_i p hp;obtain ⟨u,hu,rfl,rfl,rfl⟩:=f8 hev;cases hu;have hv:=df hf hy hp;have hv':=hv;obtain ⟨i,o'⟩:=p;simp only [VRel] at hv';obtain ⟨ad,e1,_⟩:=hv';rw [e1] at hv;exact eq hf hr hd (by simp [execOp,ho,e1]) hv
  ·split at hev
   ·rename_i t o' had;split at hev
    ·rename_i hv;cases hev;obtain ⟨cs,hv⟩:=vp hv;have e1:=wz hf hy had hv;exact za5 hf hr hd (by simp [execOp,ho,e1])
    ·cases hev
   ·cases hev
 | binOp op t y z yt =>
  rw [ho] at hop;simp only [cOp,cBin] at hop;split at hop;case h_2=>cases hop
  rename_i y' z' hy hz;have hx:(execOp a.eval o)=(do pure (Next.value (← (do eqGuard op t y z (a.eval y) (a.eval z); binOp op t (a.eval y) (a.eval z):Sem Value))):Sem Next):=by simp [execOp,ho]
  have plain:∀ {r:AVal},ao = .bin op y' z'→OpDone E lo ν.ds μ w a o.dst ((execOp a.eval o).run E.P w) x s' h':=by
   intro r hao;subst hao;simp only [dm] at hev;split at hev;case h_2=>cases hev
   rename_i u1 u2 hu1 hu2;obtain ⟨u,hu,rfl,rfl,rfl⟩:=f8 hev;have r1:=df hf hy hu1;have r2:=df hf hz hu2;cases u1 <;> (try (simp only [aBin] at hu; cases hu))
   case int k n =>
    cases u2 <;> (try (simp only [aBin] at hu; cases hu))
    case int k' n' =>
     simp only [VRel] at r1 r2;obtain ⟨v,j1,j2⟩:=run_bin_int (E:=E) (μ:=μ) (P:=E.P) (t:=t) w hu;refine eq hf hr hd (v:=v) ?_ j2;rw [hx];apply na;rw [r1,r2,Sem.run_bind,tr op t y z _ _ w (fun c=>by simp) (by simp),Result.andThen_ok];exact j1
   case str t1 =>
    cases u2 <;> (try (simp only [aBin] at hu; cases hu))
    case str t2 =>
     simp only [VRel] at r1 r2;obtain ⟨v,j1,j2⟩:=run_bin_str (E:=E) (μ:=μ) (P:=E.P) (t:=t) w hu;refine eq hf hr hd (v:=v) ?_ j2;rw [hx];apply na;rw [r1,r2,Sem.run_bind,tr op t y z _ _ w (fun c=>by simp) (by simp),Result.andThen_ok];exact j1
  have eqs:∀ (d:TypeDesc) (neg:Bool),E.P.underlying t=some d→cEq d neg y' z'=some ao→op=(if neg then .neq else .eql)→OpDone E lo ν.ds μ w a o.dst ((execOp a.eval o).run E.P w) x s' h':=by
   intro d neg hu hao hop';subst hop'
   have nilcase:∀ k,kindIs k d→ao = .eqnil k neg y' z'→OpDone E lo ν.ds μ w a o.dst ((execOp a.eval o).run E.P w) x s' h':=by
    intro k hk hao;subst hao;simp only [dm] at hev;split at hev;case h_2=>cases hev
    rename_i u1 u2 hu1 hu2;obtain ⟨u,hu',rfl,rfl,rfl⟩:=f8 hev;rw [ae] at hu';obtain ⟨b,hb,rfl⟩:=hu';obtain ⟨j1,j2⟩:=eqNil_rel (P:=E.P) w (df hf hy hu1) (df hf hz hu2) hu hk hb;refine eq hf hr hd (v:=.bool (if neg then !b else b)) ?_ (by simp only [VRel]);rw [hx];exact na (run_eq j1 y z j2)
   cases d <;> simp only [cEq] at hao <;> (try cases hao)
   ·-- two bools
    simp only [dm] at hev;split at hev;case h_2=>cases hev
    rename_i b1 b2 hu1 hu2;obtain ⟨u,hu',rfl,rfl,rfl⟩:=f8 hev;cases hu';have r1:=df hf hy hu1;have r2:=df hf hz hu2;simp only [VRel] at r1 r2;refine eq hf hr hd (v:=.bool (if neg then !(b1 == b2) else (b1 == b2))) ?_ (by simp only [VRel,ml]);rw [hx,r1,r2];exact na (run_eq rfl y z (beq_rel hu w))
   ·exact nilcase .ptr ⟨_,rfl⟩ rfl
   ·exact nilcase .slice ⟨_,rfl⟩ rfl
   ·exact nilcase .map ⟨_,_,rfl⟩ rfl
   ·exact nilcase .func ⟨_,_,_,rfl⟩ rfl
  have aggs:∀ (d:TypeDesc),E.P.underlying t=some d→((∃ fs,d = .struct fs)∨∃ n e,d = .array n e) →
    (if E.P.eqGuardType E.P.depth t then none else
     match op,ckOf E.P 20 t with
     | .eql,some ks=>some (.ext (.pure (.eqcells false ks)) [y',z'])
     | .neq,some ks=>some (.ext (.pure (.eqcells true ks)) [y',z'])
     | _,_=>none)=some ao→OpDone E lo ν.ds μ w a o.dst ((execOp a.eval o).run E.P w) x s' h':=by
   intro d hu hda hop2;split at hop2
   ·cases hop2
   rename_i hg;have hg:E.P.eqGuardType E.P.depth t=false:=by simpa using hg
   have fin:∀ (neg:Bool) (ks:List CK),ckOf E.P 20 t=some ks→op=(if neg then .neq else .eql)→ao = .ext (.pure (.eqcells neg ks)) [y',z']→OpDone E lo ν.ds μ w a o.dst ((execOp a.eval o).run E.P w) x s' h':=by
    intro neg ks hks hopn hao;subst hopn; subst hao;simp only [dm] at hev;split at hev;case h_2=>cases hev
    rename_i vs hvs;rw [ae] at hev;obtain ⟨⟨v,h1⟩,hap,hev⟩:=hev;cases hev;obtain ⟨u1,u2,rfl,hu1,hu2⟩:=evs2 hvs;obtain ⟨rfl,b,rfl,hrun⟩:=aggs_rel hu hda hg hks (df hf hy hu1) (df hf hz hu2) hap y z (w:=w);refine eq hf hr hd (v:=.bool b) ?_ (by simp only [VRel]);rw [hx];exact na hrun
   split at hop2
   ·rename_i hks; cases hop2; exact fin false _ hks rfl rfl
   ·rename_i hks; cases hop2; exact fin true _ hks rfl rfl
   ·cases hop2
  split at hop
  ·cases hop; exact plain (r:=.nilFunc) rfl
  ·cases hop; exact plain (r:=.nilFunc) rfl
  ·rename_i fs hu;exact aggs _ hu (.inl ⟨_,rfl⟩) hop
  ·rename_i n e hu;exact aggs _ hu (.inr ⟨_,_,rfl⟩) hop
  ·rename_i d _ _ _ _ hu;split at hop
   ·exact eqs d false hu hop rfl
   ·exact eqs d true hu hop rfl
   ·cases hop
  ·cases hop
 | unOp op t y =>
  rw [ho] at hop;simp only [cOp] at hop;rw [ae] at hop;obtain ⟨y',hy,rfl⟩:=hop;simp only [dm] at hev;split at hev;case h_2=>cases hev
  rename_i u1 hu1;obtain ⟨u,hu,rfl,rfl,rfl⟩:=f8 hev;obtain ⟨v,j1,j2⟩:=un_rel (P:=E.P) w (df hf hy hu1) hu;refine eq hf hr hd (v:=v) ?_ j2;rw [show execOp a.eval o=(do pure (Next.value (← Op.unary op (a.eval y))):Sem Next) by simp [execOp,ho]];exact na j1
 | convert src dst y =>
  rw [ho] at hop;simp only [cOp,cConv] at hop;have hx:(execOp a.eval o)=(do pure (Next.value (← convert src dst (a.eval y))):Sem Next):=by simp [execOp,ho]
  split at hop
  ·rename_i y' k0 k hy hs hdt;cases hop;simp only [dm] at hev;split at hev;case h_2=>cases hev
   rename_i v hv;simp only [om] at hev;split at hev;case h_2=>cases hev
   rename_i k' n;obtain ⟨u,hu,rfl,rfl,rfl⟩:=f8 hev;cases hu;have r1:=df hf hy hv;simp only [VRel] at r1;refine eq hf hr hd (v:=.int k (k.wrap n)) ?_ (by simp only [VRel]);rw [hx,r1];exact na (by simp [convert,run_underlying hs,run_underlying hdt,Conv.intToInt])
  ·rename_i y' hy hs hdt;cases hop;simp only [dm] at hev;split at hev;case h_2=>cases hev
   rename_i v hv;simp only [om] at hev;split at hev;case h_2=>cases hev
   rename_i t;obtain ⟨u,hu,rfl,rfl,rfl⟩:=f8 hev;cases hu;have r1:=df hf hy hv;simp only [VRel] at r1;refine eq hf hr hd (v:=.string ⟨t.toArray⟩) ?_ (by simp only [VRel]);rw [hx,r1];exact na (by simp [convert,run_underlying hs,run_underlying hdt])
  ·rename_i y' e hy hs hdt;split at hop;case isFalse=>cases hop
   rename_i hb;cases hop;rw [av] at hb;have hroom:E.room=0:=by simpa using hb.2
   have hb:=hb.1
   have he:E.P.underlying e=some (.int .u8):=by
    unfold isByte at hb;split at hb
    ·assumption
    ·cases hb
   simp only [dm] at hev;split at hev;case h_2=>cases hev
   rename_i v hv;simp only [om] at hev;split at hev;case h_2=>cases hev
   rename_i t;split at hev;case isFalse=>cases hev
   rename_i ht63;cases hev;have r1:=df hf hy hv;simp only [VRel] at r1;have hrun:=run_bytes_of_string (P:=E.P) w src dst e ⟨t.toArray⟩ hs hdt he;rw [pb] at hrun;have hg:=ww w t.length 0 e;generalize hC:bytesRow ⟨t.toArray⟩ (grownCap w t.length 0 e)=C at hrun
   have hCs:C.size=grownCap w t.length 0 e:=by rw [← hC]; simp [bytesRow,pb]; omega
   have hlen:h.size=μ.length:=hr.len.symm;rw [hlen];refine lp hf hr hd _ (.cells C e (C.size,C.size+1)) ⟨w.heap.size,0,C.size,1⟩ rfl (w1:=w.drew.alloc (.cells C e (C.size,C.size+1))) (by rw [hx,r1]; exact na hrun) rfl rfl rfl rfl ?_ (oc rfl hg (fun k hk=>by cases hk) (by simp [hCs]) (grownCap_le_maxLen w t.length 0 e ht63));refine ⟨⟨w.heap.size,0,C.size,1⟩,C,e,(C.size,C.size+1),by simp,rfl,by simp,rfl,by simp [hCs]; exact hg,fun k v' hk=>?_,fun _ off ho'=>by simp only [hroom] at ho'; simp only; omega⟩;simp only [cz,ae] at hk;obtain ⟨b,hb',rfl⟩:=hk;refine ⟨rfl,.int .u8 b.toNat,?_,by simp only [VRel]⟩;have hkl:=aj hb';rw [← hC];simp only [bytesRow,dk];rw [nh (by simpa using hkl)];simp [hb']
  ·rename_i y' e hy hs hdt;split at hop;case isFalse=>cases hop
   rename_i hb;cases hop
   have he:E.P.underlying e=some (.int .u8):=by
    unfold isByte at hb;split at hb
    ·assumption
    ·cases hb
   simp only [dm] at hev;split at hev;case h_2=>cases hev
   rename_i v hv;simp only [om] at hev;split at hev;case h_2=>cases hev
   rename_i ad n c;split at hev;case h_2=>cases hev
   rename_i t ht;obtain ⟨u,hu,rfl,rfl,rfl⟩:=f8 hev;cases hu;rw [jr] at ht;obtain ⟨cs,hcs,ht⟩:=ht;have r1:=df hf hy hv;obtain ⟨l,n1,o1,o2,o3,o4,o5,o6⟩:=qv hr r1 hcs;obtain ⟨ns,e2,e3⟩:=zf ht o1;simp only [alen] at o5;subst o5;refine eq hf hr hd (v:=.string ⟨t.toArray⟩) ?_ (by simp only [VRel]);rw [hx];apply na;cases ad with
   | none =>
    simp only [VRel] at r1;obtain ⟨r2,_,r3⟩:=r1;subst r2;have hl0:l=[]:=bq (by simpa using o4);rw [hl0] at e2;have hns:ns=[]:=by simpa using e2.symm
    rw [r3,run_convert_bytes_nil (P:=E.P) w src e hs he 0 0 dst hdt,e3,hns];rfl
   | some io =>
    simp only [VRel] at r1;obtain ⟨adr,cap,r2,_⟩:=r1;have hl:=o6 E.P w rfl;rw [r2] at hl;simp only [Builtin.firstCells,xv] at hl;rw [e2] at hl;rw [r2,run_convert_bytes_string w src dst e (some adr) n1 cap hs he hdt,run_bytesToString w adr n1 cap ns hl,za4,e3];rfl
  ·cases hop
 | makeFunc fn fs cs =>
  rw [ho] at hop;cases fn with
  | func f =>
   simp only [cOp] at hop;split at hop;case h_2=>cases hop
   rename_i g f' c' hg hff hcc;cases hop;simp only [dm] at hev;split at hev;case h_2=>cases hev
   rename_i fv cv hfv hcv;obtain ⟨u,hu,rfl,rfl,rfl⟩:=f8 hev;cases hu;refine eq hf hr hd (v:=.func (.func f) (fs.map a.eval) (cs.map a.eval)) (by simp [execOp,ho,Instr.makeFunc]) ?_;simp only [VRel];exact ⟨f,_,_,rfl,hg,by simpa using lh hf hff hfv,by simpa using lh hf hcc hcv⟩
  | _=>simp [cOp] at hop
 | makeSlice t l c =>
  rw [ho] at hop;simp only [cOp] at hop;split at hop;case h_2=>cases hop
  rename_i e hu;split at hop;case h_2=>cases hop
  rename_i i z l' c' hi hz hl hc;split at hop;case isFalse=>cases hop
  rename_i hh;obtain ⟨hzl,h0⟩:=hh;cases hop;simp only [dm] at hev;split at hev;case h_2=>cases hev
  rename_i kl n kc m hlv hcv;split at hev;case isFalse=>cases hev
  rename_i hb;obtain ⟨b1,b2,b3,b4,rfl,rfl⟩:=hb;cases hev;have r1:=df hf hl hlv;have r2:=df hf hc hcv;simp only [VRel] at r1 r2;obtain ⟨i',v,hi',hv,hzt⟩:=info_zero hz;rw [hi] at hi'; cases hi';obtain ⟨k2,k3⟩:=t8 (E:=E) hzt μ;obtain ⟨j1,j2⟩:=z8 (n:=m.toNat) k2 k3 hzl h0;have hlen:h.size=μ.length:=hr.len.symm;rw [hlen];obtain ⟨n0,rfl⟩:=fz b1;obtain ⟨m0,rfl⟩:=fz (show 0≤m by omega);simp only [kb] at j1 j2 ⊢
  have hbb:i.bytes*(m0:Int)≤281474976710656:=by rw [Int.mul_comm]; omega
  have hmk:=za0 (P:=E.P) t e i v hu hi hv n0 m0 (by omega) hbb (by omega) w;generalize hC:((Array.range (m0*i.size)).map fun j=>v.cells[j % v.cells.size]!)=C at j1 hmk;have hCs:C.size=m0*i.size:=by rw [← hC]; simp
  refine lp hf hr hd _ (.cells C e (0,0)) ⟨w.heap.size,0,C.size,i.size⟩ rfl (w1:={ w with heap:=w.heap.push (.cells C e (0,0)) }) ?_ rfl rfl rfl rfl (qu j1 j2 rfl) (oc (n:=n0) (cap:=m0) rfl (by omega) (fun k hk=>by cases hk; rfl) (by simp [hCs]) (by omega));rw [show execOp a.eval o=(do pure (Next.value (← Instr.makeSlice t (a.eval l) (a.eval c))):Sem Next) by simp [execOp,ho],r1,r2];exact na hmk
 | slice t y l1 l2 l3 =>
  rw [ho] at hop;have hop2:=hop
  have hao:∃ k y' m1 m2 m3,ao = .slice k y' m1 m2 m3:=by
   simp only [cOp] at hop2;split at hop2
   ·split at hop2
    ·cases hop2; exact ⟨_,_,_,_,_,rfl⟩
    ·rw [ae] at hop2; obtain ⟨_,_,rfl⟩:=hop2; exact ⟨_,_,_,_,_,rfl⟩
    ·rw [ae] at hop2; obtain ⟨_,_,rfl⟩:=hop2; exact ⟨_,_,_,_,_,rfl⟩
    ·cases hop2
   ·cases hop2
  obtain ⟨k,y',m1,m2,m3,hao⟩:=hao;have hop':cOp E false (.slice t y l1 l2 l3)=some ao:=by rw [← hop]; rfl
  subst hao;simp only [dm] at hev;split at hev;case h_2=>cases hev
  rename_i lv hv mv hlv hhv hmv;obtain ⟨u,hu,rfl,rfl,rfl⟩:=f8 hev;obtain ⟨v,j1,j2⟩:=slice_rel hf hr hop' rfl hlv hhv hmv hu;refine eq hf hr hd (v:=v) ?_ j2;rw [show execOp a.eval o=(do pure (Next.value (← Instr.sliceAt t (a.eval y) (l1.map a.eval) (l2.map a.eval) (l3.map a.eval))):Sem Next) by simp [execOp,ho]];exact na j1
 | fieldAddr t y fi =>
  rw [ho] at hop;simp only [cOp] at hop;split at hop;case h_2=>cases hop
  rename_i fs y' hu hy;split at hop;case h_2=>cases hop
  rename_i fl hfl;split at hop;case h_2=>cases hop
  rename_i k hk;cases hop;have hz:=jj (P:=E.P) hk w
  have hrun:∀ b o',a.eval y = .pointer (some ⟨b,o',none⟩)→(execOp a.eval o).run E.P w = .ok (.value (.pointer (some ⟨b,o'+fl.offset,none⟩))) w:=by intro b o' hy';simp [execOp,ho,Instr.fieldAt,run_underlying hu,hfl,hy',Instr.sureAddr,fieldPlace,hz,nb]
  simp only [dm] at hev;split at hev
  ·rename_i i o' had;obtain ⟨u,hu',rfl,rfl,rfl⟩:=f8 hev;cases hu';obtain ⟨adr,k1,xx,k2,k3⟩:=tz hf hy had;cases xx with
   | none =>
    obtain ⟨b,o2,sp⟩:=adr;cases sp with
    | none =>
     refine eq hf hr hd (hrun b o2 k1) ?_;simp only [VRel];exact ⟨_,rfl,none,k2,fun m hm=>by cases hm⟩
    | some sp =>
     refine eq hf hr hd (v:=.pointer (some ((⟨b,o2,some sp⟩:Addr).add fl.offset))) ?_ ?_
     ·simp [execOp,ho,Instr.fieldAt,run_underlying hu,hfl,k1,Instr.sureAddr,fieldPlace,hz]
     ·simp only [VRel];exact ⟨_,rfl,none,k2,fun m hm=>by cases hm⟩
   | some m =>
    have:=k3 m rfl; subst this;refine eq hf hr hd (hrun _ _ k1) ?_;simp only [VRel];exact ⟨_,rfl,some m,k2,fun m' hm=>by cases hm; rw [bo]⟩
  ·rename_i t' o' had;split at hev
   ·rename_i hv;cases hev;obtain ⟨cs,hv⟩:=vp hv;exact za5 hf hr hd (hrun _ _ (wz hf hy had hv))
   ·cases hev
  ·cases hev
 | field t y fi =>
  rw [ho] at hop;simp only [cOp] at hop;split at hop;case h_2=>cases hop
  rename_i fs y' hu hy;split at hop;case h_2=>cases hop
  rename_i fl hfl;rw [ae] at hop;obtain ⟨n,hn,rfl⟩:=hop;simp only [dm] at hev;split at hev;case h_2=>cases hev
  rename_i cs hcs;obtain ⟨u,hu',rfl,rfl,rfl⟩:=f8 hev;have r1:=df hf hy hcs;simp only [VRel] at r1;obtain ⟨c,r2,r3,r4⟩:=r1;obtain ⟨v,j1,j2⟩:=po (P:=E.P) w hn r3 r4 hu';exact eq hf hr hd (by simp [execOp,ho,Instr.field,run_underlying hu,hfl,r2,asAgg,j1]) j2
 | indexAddr t y z =>
  rw [ho] at hop;simp only [cOp] at hop;split at hop
  ·rename_i e y' z' hu hy hz;rw [ae] at hop;obtain ⟨n,hn,rfl⟩:=hop;simp only [dm] at hev;split at hev;case h_2=>cases hev
   rename_i b o' len cap iv hyv hzv;obtain ⟨u,hu',rfl,rfl,rfl⟩:=f8 hev;rw [ae] at hu';obtain ⟨j,hj,rfl⟩:=hu';obtain ⟨kd,i,r1,r2,r3,r4⟩:=nq (df hf hz hzv) hj;have r5:=df hf hy hyv;simp only [VRel] at r5;obtain ⟨ad,cp,q1,q2,q3,q4,q5,q6⟩:=r5;obtain ⟨xx,q7,q8⟩:=q3 (by omega);refine eq hf hr hd (v:=.pointer (some (ad.add (j*n)))) ?_ ?_
   ·have hlt:i < (len:Int):=r3;simp [execOp,ho,Instr.indexAt,r1,asIntOf,run_underlying hu,q1,r2,hlt,jj hn,r4]
   ·simp only [VRel];exact ⟨_,rfl,xx,q7,fun m hm=>by rw [q8 m hm,nb,bo]⟩
  ·rename_i len e y' z' hu hy hz;rw [ae] at hop;obtain ⟨n,hn,rfl⟩:=hop
   have hrun:∀ ad kd i,a.eval y = .pointer (some ad)→a.eval z = .int kd i→0≤i→i < (len:Int) →
     (execOp a.eval o).run E.P w = .ok (.value (.pointer (some (ad.add (i.toNat*n))))) w:=by
    intro ad kd i h1 h2 h3 h4;simp [execOp,ho,Instr.indexAt,h2,asIntOf,run_underlying hu,h1,Instr.sureAddr,h3,h4,jj hn]
   simp only [dm] at hev;split at hev
   ·rename_i b o' iv had hzv;obtain ⟨u,hu',rfl,rfl,rfl⟩:=f8 hev;rw [ae] at hu';obtain ⟨j,hj,rfl⟩:=hu';obtain ⟨kd,i,r1,r2,r3,r4⟩:=nq (df hf hz hzv) hj;obtain ⟨adr,k1,xx,k2,k3⟩:=tz hf hy had;refine eq hf hr hd (hrun adr kd i k1 r1 r2 r3) ?_;simp only [VRel];exact ⟨_,rfl,xx,k2,fun m hm=>by rw [k3 m hm,nb,bo,r4]⟩
   ·rename_i t' o' iv had hzv;split at hev;case isFalse=>cases hev
    rename_i hv;rw [ae] at hev;obtain ⟨j,hj,hev⟩:=hev;cases hev;obtain ⟨kd,i,r1,r2,r3,r4⟩:=nq (df hf hz hzv) hj;obtain ⟨cs,hv⟩:=vp hv;have k1:=wz hf hy had hv;have:=hrun _ kd i k1 r1 r2 r3;rw [nb,← r4] at this;exact za5 hf hr hd this
   ·cases hev
  ·cases hop
 | index t y z =>
  rw [ho] at hop;simp only [cOp] at hop;split at hop
  ·rename_i y' z' hu hy hz;cases hop;simp only [dm] at hev;split at hev;case h_2=>cases hev
   rename_i t' iv hyv hzv;obtain ⟨u,hu',rfl,rfl,rfl⟩:=f8 hev;rw [jr] at hu';obtain ⟨j,hj,hu'⟩:=hu';rw [ae] at hu';obtain ⟨b,hb,rfl⟩:=hu';obtain ⟨kd,i,r1,r2,r3,r4⟩:=nq (df hf hz hzv) hj;have r5:=df hf hy hyv;simp only [VRel] at r5;refine eq hf hr hd (v:=.int .u8 b.toNat) ?_ (by simp only [VRel]);have hb':(⟨t'.toArray⟩:ByteArray)[i.toNat]? = some b:=by rw [string_get,← r4]; exact hb
   simp [execOp,ho,Instr.index,r1,asIntOf,run_underlying hu,r5,r2,hb']
  ·rename_i len e y' z' hu hy hz;split at hop;case h_2=>cases hop
   rename_i n k hn hk;cases hop;simp only [dm] at hev;split at hev;case h_2=>cases hev
   rename_i cs iv hyv hzv;obtain ⟨u,hu',rfl,rfl,rfl⟩:=f8 hev;rw [jr] at hu';obtain ⟨j,hj,hu'⟩:=hu';obtain ⟨kd,i,r1,r2,r3,r4⟩:=nq (df hf hz hzv) hj;have r5:=df hf hy hyv;simp only [VRel] at r5;obtain ⟨c,r6,r7,r8⟩:=r5;obtain ⟨v,j1,j2⟩:=po (P:=E.P) w hk r7 r8 hu';rw [r4] at j1;have hlt:i < (len:Int):=r3;exact eq hf hr hd (v:=v) (by simp [execOp,ho,Instr.index,r1,asIntOf,run_underlying hu,r6,r2,hlt,jj hn,j1]) j2
  ·cases hop
 | extract y i =>
  rw [ho] at hop;simp only [cOp] at hop;rw [ae] at hop;obtain ⟨y',hy,rfl⟩:=hop;simp only [dm] at hev;split at hev;case h_2=>cases hev
  rename_i vs hvs;obtain ⟨u,hu,rfl,rfl,rfl⟩:=f8 hev;have r1:=df hf hy hvs;simp only [VRel] at r1;obtain ⟨vs',r2,r3⟩:=r1;obtain ⟨v,r4,r5⟩:=r3.get hu;have r4':vs'[i]? = some v:=by simpa using r4
  exact eq hf hr hd (v:=v) (by simp [execOp,ho,Instr.extract,r2,r4']) r5
 | call c =>
  rw [ho] at hop;simp only [cOp,cCall] at hop;split at hop
  ·rename_i f hcal;split at hop
   ·cases hop; exact absurd rfl (hc2 _ _)
   ·rename_i as hg has;rw [ae] at hop;obtain ⟨k,hk,rfl⟩:=hop;exact prim_done hf hr hd ho hcal has hk hev
   ·cases hop
  ·split at hop
   ·cases hop; exact absurd rfl (hc1 _ _)
   ·cases hop
  ·rename_i b hcal
   have hx:∃ bs,∀ (ts:List TypeId) (l:List Operand),c.argTypes.toList=ts→c.args.toList=l→(execOp a.eval o).run E.P w=(builtin b ts.toArray o.type bs (l.map a.eval).toArray).run E.P w:=by
    refine ⟨c.args.map fun | .const _=>true | _=>false,fun ts l hts hl=>?_⟩;have h1:c.args.map a.eval=(l.map a.eval).toArray:=by subst hl; apply Array.ext'; simp
    have h2:c.argTypes=ts.toArray:=by rw [← hts]
    simp only [execOp,ho,resolve,hcal,h1,← h2];rfl
   obtain ⟨bs,hx⟩:=hx;split at hop
   ·-- len
    rename_i t y hat hargs;have hx:=hx _ _ hat hargs
    have fin:∀ {u:AVal} {v:Value},(Builtin.len_ #[t] o.type #[a.eval y]).run E.P w = .ok v w→VRel E μ u v→OpDone E lo ν.ds μ w a o.dst ((execOp a.eval o).run E.P w) (.val u) s h:=by intro u v h1 h2;refine eq hf hr hd (v:=v) ?_ h2;rw [hx];exact na h1
    split at hop
    ·rename_i hu;rw [ae] at hop;obtain ⟨y',hy,rfl⟩:=hop;simp only [dm] at hev;split at hev;case h_2=>cases hev
     rename_i v hv;obtain ⟨u,hu',rfl,rfl,rfl⟩:=f8 hev;simp only [evLen] at hu';split at hu';case h_2=>cases hu'
     cases hu';have r1:=df hf hy hv;simp only [VRel] at r1;exact fin (by simp [Builtin.len_,run_underlying hu,r1,pb]; rfl) (by simp only [VRel,goInt])
    ·rename_i hu;rw [ae] at hop;obtain ⟨y',hy,rfl⟩:=hop;simp only [dm] at hev;split at hev;case h_2=>cases hev
     rename_i v hv;obtain ⟨u,hu',rfl,rfl,rfl⟩:=f8 hev;simp only [evLen] at hu';split at hu';case h_2=>cases hu'
     cases hu';rename_i ad n cp;have r1:=df hf hy hv;cases ad with
     | none =>
      simp only [VRel] at r1;obtain ⟨r2,_,r3⟩:=r1;subst r2;exact fin (v:=goInt 0) (by simp [Builtin.len_,run_underlying hu,r3]) (by simp only [VRel,goInt]; rfl)
     | some p =>
      simp only [VRel] at r1;obtain ⟨adr,cap,r2,_⟩:=r1;exact fin (by simp [Builtin.len_,run_underlying hu,r2]; rfl) (by simp only [VRel,goInt])
    ·rename_i hu;rw [ae] at hop;obtain ⟨y',hy,rfl⟩:=hop;simp only [dm] at hev;split at hev;case h_2=>cases hev
     rename_i v hv;obtain ⟨u,hu',rfl,rfl,rfl⟩:=f8 hev;simp only [evLen] at hu';split at hu'
     ·cases hu';have r1:=df hf hy hv;simp only [VRel] at r1;exact fin (v:=goInt 0) (by simp [Builtin.len_,run_underlying hu,r1]) (by simp only [VRel,goInt])
     ·rename_i i;split at hu'
      ·rename_i es ck hg;cases hu';have r1:=df hf hy hv;simp only [VRel] at r1;obtain ⟨b',xx,r2,r3,r4⟩:=r1;obtain ⟨m,es',q1,q2,q3,_⟩:=hr.obj i _ hg;rw [r3] at q1; cases q1;have:=r4 m rfl; subst this;refine fin (v:=.int .i64 es'.size) ?_ (by simp only [VRel,q3]);have hgo:(getObj m.blk).run E.P w = .ok (.map es' ck) w:=by simp [getObj,Sem.run,q2]
       simp [Builtin.len_,run_underlying hu,r2,hgo,goInt]
      ·cases hu'
     ·cases hu'
    ·cases hop
   ·-- append
    rename_i t u y z hat hargs;have hx:=hx _ _ hat hargs
    have fin:∀ (e:TypeId) (i:TypeInfo) (zv:Value) (y' z':Opd),E.P.underlying t=some (.slice e)→((∃ e',E.P.underlying u=some (.slice e'))∨E.P.underlying u=some .string)→ii E y=some y'→ii E z=some z' →
      E.P.info? e=some i→i.zero=some zv→zv.cells.size=i.size→ao = .append i.size i.bytes y' z'→OpDone E lo ν.ds μ w a o.dst ((execOp a.eval o).run E.P w) x s' h':=by
     intro e i zv y' z' ht hu hy hz hi hzv hzs hao;subst hao;simp only [dm] at hev;split at hev;case h_2=>cases hev
     rename_i u1 u2 hu1 hu2;rw [ae] at hev;obtain ⟨⟨v,h1⟩,hap,hev⟩:=hev;cases hev;have r1:=df hf hy hu1;have r2:=df hf hz hu2;exact append_done (ty:=o.type) hf hr hd ht hu hi hzv hzs r1 r2 hap (by rw [hx]; simp only [builtin]; rw [Sem.run_bind]; rfl)
    split at hop
    ·rename_i e e' y' z' ht hu hy hz;split at hop;case h_2=>cases hop
     rename_i i hi;split at hop;case h_2=>cases hop
     rename_i zv hzv;split at hop;case isFalse=>cases hop
     rename_i hzs;cases hop;exact fin e i zv y' z' ht (.inl ⟨_,hu⟩) hy hz hi hzv hzs rfl
    ·rename_i e y' z' ht hu hy hz;split at hop;case h_2=>cases hop
     rename_i i hi;split at hop;case h_2=>cases hop
     rename_i zv hzv;split at hop;case isFalse=>cases hop
     rename_i hzs;cases hop;exact fin e i zv y' z' ht (.inr hu) hy hz hi hzv hzs rfl
    ·rename_i e kq y' z' ht hu hy hz;split at hop;case h_2=>cases hop
     rename_i i zz hi hzz;split at hop;case isFalse=>cases hop
     rename_i hzl;cases hop;simp only [dm] at hev;split at hev;case h_2=>cases hev
     rename_i vs hvs;rw [ae] at hev;obtain ⟨⟨v,h1⟩,hap,hev⟩:=hev;cases hev;obtain ⟨u1,u2,rfl,hu1,hu2⟩:=evs2 hvs;exact appz_done (ty:=o.type) hf hr hd ht hu hi hzz hzl.1 hzl.2 (df hf hy hu1) (df hf hz hu2) hap (by rw [hx]; simp only [builtin]; rw [Sem.run_bind]; rfl)
    ·cases hop
   ·-- cap
    rename_i t y hat hargs;have hx:=hx _ _ hat hargs;split at hop;case h_2=>cases hop
    rename_i e hu;rw [ae] at hop;obtain ⟨y',hy,rfl⟩:=hop;simp only [dm,evs] at hev;cases hv:y'.ev s with
    | none=>rw [hv] at hev; cases hev
    | some v =>
     rw [hv] at hev;simp only at hev;rw [ae] at hev;obtain ⟨⟨u,h1⟩,hap,hev⟩:=hev;cases hev;have r1:=df hf hy hv;simp only [dl,evPure] at hap;rw [ae] at hap;obtain ⟨u',hap,hu'⟩:=hap;cases hu';cases v <;> simp only [evCap,reduceCtorEq] at hap
     rename_i ad n cp;cases cp with
     | none=>cases hap
     | some k =>
      simp only at hap;cases hap
      have:∃ b n',a.eval y = .slice b n' k:=by
       cases ad with
       | none=>simp only [VRel] at r1; obtain ⟨_,e1,e2⟩:=r1; cases e1; exact ⟨_,_,e2⟩
       | some p=>simp only [VRel] at r1; obtain ⟨b,cap,e1,_,_,e2,_⟩:=r1; rw [e2 k rfl] at e1; exact ⟨_,_,e1⟩
      obtain ⟨b,n',e1⟩:=this;refine eq hf hr hd (v:=.int .i64 k) ?_ (by simp only [VRel]);rw [hx];refine na (S:=Builtin.cap_ #[t] o.type #[a.eval y]) ?_;simp [Builtin.cap_,run_underlying hu,e1,goInt]
   ·-- copy
    rename_i t u y z hat hargs;have hx:=hx _ _ hat hargs;split at hop;case h_2=>cases hop
    rename_i e e' y' z' ht hu hy hz;rw [ae] at hop;obtain ⟨n,hn,rfl⟩:=hop;simp only [dm] at hev;split at hev;case h_2=>cases hev
    rename_i vs hvs;rw [ae] at hev;obtain ⟨⟨v,h1⟩,hap,hev⟩:=hev;cases hev;obtain ⟨u1,u2,rfl,hu1,hu2⟩:=evs2 hvs;exact copy_done (ty:=o.type) hf hr hd ht hn (df hf hy hu1) (df hf hz hu2) hap (by rw [hx]; simp only [builtin]; rw [Sem.run_bind]; rfl)
   ·-- clear
    rename_i t y hat hargs;have hx:=hx _ _ hat hargs;split at hop;case h_2=>cases hop
    rename_i e ht;split at hop;case h_2=>cases hop
    rename_i n z y' hn hz hy;split at hop;case isFalse=>cases hop
    rename_i hzl;cases hop;simp only [dm] at hev;split at hev;case h_2=>cases hev
    rename_i vs hvs;rw [ae] at hev;obtain ⟨⟨v,h1⟩,hap,hev⟩:=hev;cases hev;simp only [evs] at hvs;split at hvs;case h_2=>cases hvs
    rename_i u us hu1 hus;cases hus; cases hvs;exact clear_done (ty:=o.type) hf hr hd ht hz hzl.1 hzl.2 (df hf hy hu1) hap (by rw [hx]; simp only [builtin]; rw [Sem.run_bind]; rfl)
   ·-- delete
    rename_i t ts y z hat hargs;have hx:=hx _ _ hat hargs;split at hop;case h_2=>cases hop
    rename_i k e hu;split at hop;case h_2=>cases hop
    rename_i kn y' z' hk hy hz;cases hop;simp only [dm] at hev;split at hev;case h_2=>cases hev
    rename_i vs hvs;rw [ae] at hev;obtain ⟨⟨v,h1⟩,hap,hev⟩:=hev;cases hev;obtain ⟨u1,u2,rfl,hu1,hu2⟩:=evs2 hvs;exact delete_done hf hr hd (ts:=(t :: ts).toArray) (ty:=o.type) rfl hu hk (df hf hy hu1) (df hf hz hu2) hap (by rw [hx]; simp only [builtin]; rw [Sem.run_bind]; rfl)
   ·-- min
    rename_i ts ys;rw [ae] at hop;obtain ⟨ys',hys,rfl⟩:=hop;have hx:=hx _ _ rfl rfl;simp only [dm] at hev;split at hev;case h_2=>cases hev
    rename_i v0 vs hvs;obtain ⟨u,hu,rfl,rfl,rfl⟩:=f8 hev;have r1:=lh hf hys hvs;simp only [VRels] at r1;obtain ⟨x0,xs,e1,r2,r3⟩:=r1;obtain ⟨v,j1,j2⟩:=za7 (P:=E.P) w r2 r3 hu;refine eq hf hr hd (v:=v) ?_ j2;rw [hx];refine na (S:=Builtin.min_ c.argTypes o.type (c.args.toList.map a.eval).toArray) ?_;simp only [Builtin.min_,e1];simpa using j1
   ·rename_i ts ys;rw [ae] at hop;obtain ⟨ys',hys,rfl⟩:=hop;have hx:=hx _ _ rfl rfl;simp only [dm] at hev;split at hev;case h_2=>cases hev
    rename_i v0 vs hvs;obtain ⟨u,hu,rfl,rfl,rfl⟩:=f8 hev;have r1:=lh hf hys hvs;simp only [VRels] at r1;obtain ⟨x0,xs,e1,r2,r3⟩:=r1;obtain ⟨v,j1,j2⟩:=za7 (P:=E.P) w r2 r3 hu;refine eq hf hr hd (v:=v) ?_ j2;rw [hx];refine na (S:=Builtin.max_ c.argTypes o.type (c.args.toList.map a.eval).toArray) ?_;simp only [Builtin.max_,e1];simpa using j1
   ·cases hop
  ·cases hop
 | makeMap t hint =>
  have fin:ao = .ext .mkmap []→(hint=none∨∃ k n,hint=some (.const (.int k n))∧∃ a b,E.P.underlying t=some (.map a b))→OpDone E lo ν.ds μ w a o.dst ((execOp a.eval o).run E.P w) x s' h':=by
   intro hao hh;subst hao;simp only [dm,evs,dl,bw] at hev;cases hev;have hlen:h.size=μ.length:=hr.len.symm;rw [hlen];refine lp hf hr hd (.map [] 0) (.map #[] 0) ⟨w.heap.size,0,0,0⟩ rfl (w1:={ w with heap:=w.heap.push (.map #[] 0) }) (v:=.map (some w.heap.size)) ?_ rfl rfl rfl rfl ?_ ?_
   ·rcases hh with rfl | ⟨k,n,rfl,p,q,hu⟩
    ·simp [execOp,ho,Instr.makeMap]
    ·simp [execOp,ho,Instr.makeMap,run_underlying hu,asInt,asIntOf,Act.eval]
   ·exact ⟨⟨w.heap.size,0,0,0⟩,#[],by rw [ak (ai _)]; simp,by simp,rfl,by simp⟩
   ·simp only [VRel];exact ⟨w.heap.size,some ⟨w.heap.size,0,0,0⟩,rfl,by rw [ak (ai _)]; simp,fun m hm=>by cases hm; rfl⟩
  rw [ho] at hop;cases hint with
  | none=>simp only [cOp] at hop; cases hop; exact fin rfl (.inl rfl)
  | some y =>
   cases y with
   | const v =>
    cases v with
    | int k n =>
     simp only [cOp] at hop;split at hop
     ·rename_i hu;cases hop;exact fin rfl (.inr ⟨_,_,rfl,_,_,hu⟩)
     ·cases hop
    | _=>simp [cOp] at hop
   | _=>simp [cOp] at hop
 | lookup t y z ok =>
  rw [ho] at hop;simp only [cOp] at hop;split at hop;case h_2=>cases hop
  rename_i k e hu;split at hop;case h_2=>cases hop
  rename_i kn zv y' z' hk hzv hy hz;cases hop;simp only [dm] at hev;split at hev;case h_2=>cases hev
  rename_i vs hvs;rw [ae] at hev;obtain ⟨⟨v,h1⟩,hap,hev⟩:=hev;cases hev;obtain ⟨u1,u2,rfl,hu1,hu2⟩:=evs2 hvs;obtain ⟨rfl,r,j1,j2⟩:=lookup_rel hr hu hk hzv (df hf hy hu1) (df hf hz hu2) hap;refine eq hf hr hd (v:=r) ?_ j2;simp only [execOp,ho];exact na j1
 | mapUpdate t m y z =>
  rw [ho] at hop;simp only [cOp] at hop;split at hop;case h_2=>cases hop
  rename_i k e hu;split at hop;case h_2=>cases hop
  rename_i kn m' y' z' hk hm hy hz;cases hop;simp only [dm] at hev;split at hev;case h_2=>cases hev
  rename_i vs hvs;rw [ae] at hev;obtain ⟨⟨v,h1⟩,hap,hev⟩:=hev;cases hev;obtain ⟨u1,u2,u3,rfl,hu1,hu2,hu3⟩:=evs3 hvs;refine ze hf hr hd hu hk (df hf hm hu1) (df hf hy hu2) (df hf hz hu3) hap ?_;simp only [execOp,ho];rw [Sem.run_bind]; rfl
 | insert t m y z =>
  rw [ho] at hop;simp only [cOp] at hop;split at hop;case h_2=>cases hop
  rename_i k e hu;split at hop;case h_2=>cases hop
  rename_i kn m' y' z' hk hm hy hz;cases hop;simp only [dm] at hev;split at hev;case h_2=>cases hev
  rename_i vs hvs;rw [ae] at hev;obtain ⟨⟨v,h1⟩,hap,hev⟩:=hev;cases hev;obtain ⟨u1,u2,u3,rfl,hu1,hu2,hu3⟩:=evs3 hvs;refine ze hf hr hd hu hk (df hf hm hu1) (df hf hy hu2) (df hf hz hu3) hap ?_;simp only [execOp,ho];rw [Sem.run_bind]; rfl
 | mapEntry t m y =>
  rw [ho] at hop;simp only [cOp] at hop;split at hop;case h_2=>cases hop
  rename_i k e hu;split at hop;case h_2=>cases hop
  rename_i kn zv m' y' hk hzv hm hy;cases hop;simp only [dm] at hev;split at hev;case h_2=>cases hev
  rename_i vs hvs;rw [ae] at hev;obtain ⟨⟨v,h1⟩,hap,hev⟩:=hev;cases hev;obtain ⟨u1,u2,rfl,hu1,hu2⟩:=evs2 hvs;refine mapentry_done hf hr hd hu hk hzv (df hf hm hu1) (df hf hy hu2) hap ?_;simp only [execOp,ho];rw [Sem.run_bind]; rfl
 | entryStore t m y z =>
  rw [ho] at hop;simp only [cOp] at hop;split at hop;case h_2=>cases hop
  rename_i m' y' z' hm hy hz;cases hop;simp only [dm] at hev;split at hev;case h_2=>cases hev
  rename_i vs hvs;rw [ae] at hev;obtain ⟨⟨v,h1⟩,hap,hev⟩:=hev;cases hev;obtain ⟨u1,u2,u3,rfl,hu1,hu2,hu3⟩:=evs3 hvs;refine zx (t:=t) hf hr hd (df hf hm hu1) (df hf hy hu2) (df hf hz hu3) hap ?_;simp only [execOp,ho];rw [Sem.run_bind]; rfl
 | range t y =>
  rw [ho] at hop;simp only [cOp] at hop;split at hop;case h_2=>cases hop
  rename_i k e hu;rw [ae] at hop;obtain ⟨y',hy,rfl⟩:=hop;simp only [dm] at hev;split at hev;case h_2=>cases hev
  rename_i vs hvs;rw [ae] at hev;obtain ⟨⟨v,h1⟩,hap,hev⟩:=hev;cases hev;simp only [evs] at hvs;split at hvs;case h_2=>cases hvs
  rename_i u us hu1 hus;cases hus; cases hvs;have hlen:h.size=μ.length:=hr.len.symm;have hyr:=df hf hy hu1;unfold dl at hap;split at hap;case h_1=>simp_all
  case h_2 =>
   rename_i e1 e2;cases e2;cases hap;simp only [VRel] at hyr;rw [hlen];refine lp hf hr hd (.mapIter none 0 [] 0) (.mapIter none 0 #[] 0) ⟨w.heap.size,0,0,0⟩ rfl (w1:={ w with heap:=w.heap.push (.mapIter none 0 #[] 0) }) (v:=.pointer (some ⟨w.heap.size,0,none⟩)) ?_ rfl rfl rfl rfl ?_ ?_
   ·simp only [execOp,ho];refine na ?_;rw [hyr];simp [Instr.range,run_underlying hu,newObj,Sem.run]
   ·exact ⟨⟨w.heap.size,0,0,0⟩,none,⟨by rw [ak (ai _)]; simp,rfl⟩,by simp,by simp [VRel]⟩
   ·simp only [VRel,ARel];exact ⟨_,rfl,some ⟨w.heap.size,0,0,0⟩,by rw [ak (ai _)]; simp,fun m hm=>by cases hm; rfl⟩
  case h_3 =>
   rename_i r e1 e2;cases e2;split at hap;case h_2=>cases hap
   rename_i es clock hgr;cases hap;obtain ⟨m,es',q1,q2,q3,q4⟩:=hr.obj _ _ hgr;have hyr':=hyr;simp only [VRel] at hyr;obtain ⟨bm,xo,r1,r2,r3⟩:=hyr;rw [q1] at r2; cases r2;have r3:=r3 m rfl;subst r3;rw [r1] at hyr';rw [hlen];refine lp hf hr hd (.mapIter (some r) clock [] clock) (.mapIter (some m.blk) clock #[] clock) ⟨w.heap.size,0,0,0⟩ rfl (w1:={ w with heap:=w.heap.push (.mapIter (some m.blk) clock #[] clock) }) (v:=.pointer (some ⟨w.heap.size,0,none⟩)) ?_ rfl rfl rfl rfl ?_ ?_
   ·simp only [execOp,ho];refine na ?_;rw [r1];simp [Instr.range,run_underlying hu,MapKept.run_getObj_map q2,newObj,Sem.run]
   ·exact ⟨⟨w.heap.size,0,0,0⟩,some m.blk,⟨by rw [ak (ai _)]; simp,rfl⟩,by simp,hyr'.later (ix μ _)⟩
   ·simp only [VRel,ARel];exact ⟨_,rfl,some ⟨w.heap.size,0,0,0⟩,by rw [ak (ai _)]; simp,fun m hm=>by cases hm; rfl⟩
  all_goals simp_all
 | entry y =>
  rw [ho] at hop;simp only [cOp] at hop;rw [ae] at hop;obtain ⟨y',hy,rfl⟩:=hop;simp only [dm] at hev;split at hev;case h_2=>cases hev
  rename_i vs hvs;rw [ae] at hev;obtain ⟨⟨v,h1⟩,hap,hev⟩:=hev;cases hev;simp only [evs] at hvs;split at hvs;case h_2=>cases hvs
  rename_i u us hu1 hus;cases hus; cases hvs;exact entry_done hf hr hd (df hf hy hu1) hap (by simp only [execOp,ho]; rw [Sem.run_bind]; rfl)
 | _=>rw [ho] at hop; simp [cOp] at hop
end
end Go.Abs

namespace Go.Abs
structure Evol (h h':Heap):Prop where
 size:h.size≤h'.size
 base:h'.base=h.base
 wmin:h'.wmin≤h.wmin
 objs:∀ i,i < h.size→i < h'.wmin→h'.objs[i]? = h.objs[i]?
theorem Evol.refl (h:Heap):Evol h h:=⟨ai _,rfl,ai _,fun _ _ _=>rfl⟩
theorem Evol.trans {a b c:Heap} (h:Evol a b) (k:Evol b c):Evol a c :=
 ⟨dq h.size k.size,k.base.trans h.base,dq k.wmin h.wmin,fun i hi hw =>
  (k.objs i (gl hi h.size) hw).trans (h.objs i hi (gl hw k.wmin))⟩
theorem Evol.push (h:Heap) (o:AObj):Evol h (h.push o) :=
 ⟨by simp [Heap.push,Heap.size],rfl,ai _,fun i hi _=>by simp only [Heap.push]; rw [ag hi]⟩
theorem Evol.put (h:Heap) (i:Nat) (o:AObj):Evol h (h.put i o) :=
 ⟨by simp [Heap.put,Heap.size],rfl,km _ _,fun j _ hw=>by simp only [Heap.put] at hw ⊢;rw [ap];omega⟩
theorem Evol.puts (h:Heap):∀ (ps:List (Nat × AObj)) (xs:List AObj),Evol h (h.puts ps xs):=by
 have h1:∀ (xs:List AObj) (g:Heap),Evol g (xs.foldl Heap.push g):=fun xs=>by
  induction xs with
  | nil=>exact fun g=>Evol.refl g
  | cons x xs ih=>exact fun g=>(Evol.push g x).trans (ih _)
 have h2:∀ (ps:List (Nat × AObj)) (g:Heap),Evol g (ps.foldl (fun h p=>h.put p.1 p.2) g):=fun ps=>by
  induction ps with
  | nil=>exact fun g=>Evol.refl g
  | cons x xs ih=>exact fun g=>(Evol.put g x.1 x.2).trans (ih _)
 exact fun ps xs=>(h2 ps h).trans (h1 xs _)
def CallEvol (call:CallSem):Prop:=∀ g args h v h',call g args h=some (v,h')→Evol h h'
theorem ok1_evol {s:Slots} {h:Heap} {v:Option AVal} {x:Slot} {s':Slots} {h':Heap} (e:ok1 s h v=some (x,s',h')):Evol h h':=by unfold ok1 at e;rw [ae] at e;obtain ⟨u,_,e⟩:=e;cases e;exact Evol.refl _
theorem store_evol {s:Slots} {h:Heap} {ad:AAddr} {xs:List AVal} {s':Slots} {h':Heap} (e:storeAt s h ad xs=some (s',h')):Evol h h':=by
 unfold storeAt at e;split at e
 ·split at e
  ·split at e
   ·cases e; exact Evol.put _ _ _
   ·cases e
  ·cases e
 ·split at e
  ·split at e
   ·cases e; exact Evol.refl _
   ·cases e
  ·cases e
theorem append_evol {esz bytes:Nat} {h:Heap} {x y v:AVal} {h':Heap} (e:eb esz bytes h x y=some (v,h')):Evol h h':=by
 unfold eb at e;split at e
 ·split at e
  ·unfold aApp at e;split at e
   ·cases e; exact Evol.refl _
   ·split at e
    ·split at e
     ·cases e; exact Evol.push _ _
     ·split at e
      ·cases e; exact Evol.push _ _
      ·split at e
       ·cases e; exact (Evol.put _ _ _).trans (Evol.push _ _)
       ·cases e
    ·cases e
  ·cases e
 ·cases e
theorem ext_evol {k:ExtOp} {vs:List AVal} {h:Heap} {v:AVal} {h':Heap} (e:dl k vs h=some (v,h')):Evol h h':=by
 unfold dl at e;repeat' split at e
 all_goals first
  | (cases e; done)
  | (cases e; exact Evol.refl _)
  | (cases e; exact Evol.push _ _)
  | (cases e; exact Evol.put _ _ _)
  | (rw [ae] at e; obtain ⟨_,_,e⟩:=e; cases e; exact Evol.refl _)
theorem op_evol {call:CallSem} (hc:CallEvol call) {d:Nat} {o:AOp} {s:Slots} {h:Heap} {x:Slot} {s':Slots} {h':Heap} (e:dm call d o s h=some (x,s',h')):Evol h h':=by
 cases o with
 | call f args =>
  simp only [dm] at e;split at e
  ·rw [ae] at e;obtain ⟨⟨v,h1⟩,h2,e⟩:=e;cases e;exact hc _ _ _ _ _ h2
  ·split at e
   ·rw [ae] at e;obtain ⟨⟨v,h1⟩,h2,e⟩:=e;cases e;exact hc _ _ _ _ _ h2
   ·cases e
  ·cases e
 | ext k xs =>
  simp only [dm] at e;split at e
  ·rw [ae] at e;obtain ⟨⟨v,h1⟩,h2,e⟩:=e;cases e;exact ext_evol h2
  ·cases e
 | callg g args =>
  simp only [dm] at e;split at e
  ·rw [ae] at e;obtain ⟨⟨v,h1⟩,h2,e⟩:=e;cases e;exact hc _ _ _ _ _ h2
  ·cases e
 | append es b y z =>
  simp only [dm] at e;split at e
  ·rw [ae] at e;obtain ⟨⟨v,h1⟩,h2,e⟩:=e;cases e;exact append_evol h2
  ·cases e
 | store n y z =>
  simp only [dm] at e;split at e
  ·split at e
   ·rw [ae] at e;obtain ⟨⟨v,h1⟩,h2,e⟩:=e;cases e;exact store_evol h2
   ·cases e
  ·cases e
 | conv k y =>
  simp only [dm] at e;split at e
  ·unfold om at e;repeat' split at e
   all_goals first
    | (cases e; done)
    | exact ok1_evol e
    | (cases e; exact Evol.push _ _)
  ·cases e
 | _ =>
  simp only [dm] at e;repeat' split at e
  all_goals first
   | (cases e; done)
   | exact ok1_evol e
   | (cases e; exact Evol.push _ _)
   | (cases e; exact Evol.refl _)
   | (rw [ae] at e; obtain ⟨_,_,e⟩:=e; cases e; exact Evol.refl _)
theorem nd {call:CallSem} (hc:CallEvol call) {o:AOper} {s:Slots} {h:Heap} {s':Slots} {h':Heap} (e:ew call o s h=some (s',h')):Evol h h':=by
 have run:evRun call o s h=some (s',h')→Evol h h':=by
  intro e;unfold evRun at e;split at e
  ·rename_i x s1 h1 h2;cases e;exact op_evol hc h2
  ·cases e
 unfold ew at e;split at e
 ·exact run e
 ·split at e
  ·split at e
   ·exact run e
   ·cases e; exact Evol.refl _
  ·cases e; exact Evol.refl _
  ·cases e
theorem ops_evol {call:CallSem} (hc:CallEvol call):∀ {l:List AOper} {s:Slots} {h:Heap} {s':Slots} {h':Heap},evOps call l s h=some (s',h')→Evol h h'
 | [],_,_,_,_,e=>by simp only [evOps] at e; cases e; exact Evol.refl _
 | o :: l,s,h,s',h',e=>by
  simp only [evOps] at e;split at e
  ·rename_i s1 h1 h2;exact (nd hc h2).trans (ops_evol hc e)
  ·cases e
theorem za8 {call:CallSem}:∀ {l:List AOper} {s:Slots} {h:Heap} {s':Slots} {h':Heap},evQuiet call l s h=some (s',h')→h'=h
 | [],_,_,_,_,e=>by simp only [evQuiet] at e; cases e; rfl
 | o :: l,s,h,s',h',e=>by
  simp only [evQuiet] at e;split at e
  ·split at e
   ·exact za8 e
   ·cases e
  ·cases e
theorem zi {call:CallSem} {V:List Nat}:∀ {l:List AOper} {s:Slots} {h:Heap} {s':Slots} {h':Heap},evQuietV call V l s h=some (s',h')→h'=h
 | [],_,_,_,_,e=>by simp only [evQuietV] at e; cases e; rfl
 | o :: l,s,h,s',h',e=>by
  simp only [evQuietV] at e;split at e
  ·split at e
   ·exact zi e
   ·cases e
  ·cases e
theorem evQ_evol {call:CallSem} {l:List AOper} {s:Slots} {h:Heap} {s':Slots} {h':Heap} (e:evQ call l s h=some (s',h')):h'=h:=by
 unfold evQ at e;split at e
 ·exact za8 e
 ·split at e
  ·exact zi e
  ·cases e
theorem yd (lo hi:Nat) (os:List AObj):(killRange lo hi os).length=os.length:=by simp [killRange]
theorem kz (m:Nat):∀ (ds:List Did) (y:Nat) (os:List AObj),(hide m y ds os).length=os.length
 | [],_,_=>rfl
 | d :: r,y,os=>by
  simp only [hide];rw [kz m r];split
  ·rfl
  ·exact yd ..
theorem w5 (m:Nat):∀ (ds:List Did) (y:Nat) (os:List AObj),allSeen m y ds=true→hide m y ds os=os
 | [],_,_,_=>rfl
 | d :: r,y,os,h=>by simp only [allSeen,av] at h;simp only [hide];rw [if_pos h.1];exact w5 m r _ _ h.2
theorem w6 {call:CallSem} (hc:CallEvol call) {n0 m:Nat} {ds:List Did} {o:AOper} {s:Slots} {h:Heap} {y:Slot} {h':Heap} {d:Did} (e:lg call n0 m ds o s h=some (y,h',d)):Evol h h':=by
 have hno:CallEvol noCall:=fun _ _ _ _ _ e=>by simp [noCall] at e
 unfold lg at e;split at e
 ·cases e
 ·split at e
  ·split at e
   ·cases e
   ·rename_i s1 h1 he;have hev:=nd hc he
    have hsz:h.size≤h1.size:=by have:=hev.size;simp only [Heap.size,kz] at this;exact this
    simp only at e;split at e
    ·rename_i hw;split at e
     ·rename_i hall;cases e;refine ⟨hsz,rfl,km _ _,fun i hi hi'=>?_⟩;simp only at hi';have:=hev.objs i (by simp only [Heap.size,kz]; exact hi) (by omega);simp only [w5 m ds 0 h.objs hall] at this;exact this
     ·cases e
    ·rename_i hw;split at e
     ·rename_i hall;cases e;refine ⟨hsz,rfl,ai _,fun i hi hi'=>?_⟩;have:=hev.objs i (by simp only [Heap.size,kz]; exact hi) (by omega);simp only [w5 m ds 0 h.objs hall] at this;exact this
     ·split at e
      ·cases e;refine ⟨by simp [Heap.size],rfl,ai _,fun i hi _=>?_⟩;simp only;rw [ag hi]
      ·cases e
  ·split at e
   ·cases e
   ·rename_i s1 h1 he;have hev:=nd hno he;simp only at e;split at e
    ·rename_i hsz0;split at e
     ·split at e
      ·split at e
       ·cases e;refine ⟨?_,rfl,km _ _,fun i hi hi'=>hev.objs i hi (by simp only at hi'; omega)⟩;show h.size≤h1.size; omega
       ·cases e
      ·cases e
     ·split at e
      ·cases e; exact Evol.refl _
      ·cases e
    ·rename_i hsz1;split at e
     ·rename_i hsz;split at e
      ·split at e
       ·split at e
        ·rename_i hw;cases e;refine ⟨?_,rfl,ai _,fun i hi _=>hev.objs i hi (by rw [hw]; exact hi)⟩;show h.size≤h1.size; omega
        ·cases e;refine ⟨?_,rfl,km _ _,fun i hi hi'=>hev.objs i hi (by simp only at hi'; omega)⟩;show h.size≤h1.size; omega
       ·cases e
      ·cases e
     ·cases e
theorem w7 {call:CallSem} (hc:CallEvol call) {n0:Nat}:∀ {ops:List AOper} {ms:List Nat} {ds:List Did} {s:Slots} {h:Heap} {s':Slots} {h':Heap},jb call n0 ms ops ds s h=some (s',h')→Evol h h'
 | [],_,_,_,_,_,_,e=>by simp only [jb] at e; cases e; exact Evol.refl _
 | o :: l,ms,ds,s,h,s',h',e=>by
  simp only [jb] at e;split at e
  ·rename_i y h1 d he;split at e
   ·exact (w6 hc he).trans (w7 hc e)
   ·cases e
  ·cases e
theorem segs_evol {call:CallSem} (hc:CallEvol call):∀ {l:List Seg} {s:Slots} {h:Heap} {s':Slots} {h':Heap},j8 call l s h=some (s',h')→Evol h h'
 | [],_,_,_,_,e=>by simp only [j8] at e; cases e; exact Evol.refl _
 | g :: l,s,h,s',h',e=>by
  simp only [j8] at e;split at e
  ·rename_i s1 h1 h2;refine Evol.trans ?_ (segs_evol hc e);split at h2
   ·split at h2
    ·rw [evQ_evol h2]; exact Evol.refl _
    ·exact w7 hc h2
   ·exact ops_evol hc h2
  ·cases e
theorem loop_evol {f:St→Option (AExit × St)} (hf:∀ st e st',f st=some (e,st')→Evol st.h st'.h):∀ (n:Nat) (st:St) (e:AExit) (st':St),loopN f n st=some (e,st')→Evol st.h st'.h
 | 0,_,_,_,h=>by simp [loopN] at h
 | n+1,st,e,st',h=>by
  simp only [loopN] at h;split at h
  ·rename_i st1 h1;exact (hf _ _ _ h1).trans (loop_evol hf n _ _ _ h)
  ·exact hf _ _ _ h
theorem od {call:CallSem} (hc:CallEvol call) (n:Nat):∀ (c:ACode) (st:St) (e:AExit) (st':St),dz call n c st=some (e,st')→Evol st.h st'.h:=by
 intro c;induction c with
 | skip=>intro st e st' h; simp only [dz] at h; cases h; exact Evol.refl _
 | region gs =>
  intro st e st' h;simp only [dz] at h;rw [ae] at h;obtain ⟨⟨s1,h1⟩,h2,h⟩:=h;cases h;exact segs_evol hc h2
 | seq a b iha ihb =>
  intro st e st' h;simp only [dz] at h;split at h
  ·rename_i st1 h1;exact (iha _ _ _ h1).trans (ihb _ _ _ h)
  ·exact iha _ _ _ h
 | cond c t e iht ihe =>
  intro st e st' h;simp only [dz] at h;split at h
  ·exact iht _ _ _ h
  ·exact ihe _ _ _ h
  ·cases h
 | block id a ih =>
  intro st e st' h;simp only [dz] at h;split at h
  ·rename_i j st1 h1;split at h <;> cases h <;> exact ih _ _ _ h1
  ·exact ih _ _ _ h
 | loop a ih=>intro st e st' h; exact loop_evol ih n _ _ _ h
 | exit id=>intro st e st' h; simp only [dz] at h; cases h; exact Evol.refl _
 | ret=>intro st e st' h; simp only [dz] at h; cases h; exact Evol.refl _
 | live l a ih=>intro st e st' h; simp only [dz] at h; have h2:=ih _ _ _ h; exact h2
 | after a l ih =>
  intro st e st' h;simp only [dz] at h;split at h
  ·rename_i st1 h1;cases h;have h2:=ih _ _ _ h1;exact h2
  ·exact ih _ _ _ h
 | rangeFunc f g caps ps a b _ _ =>
  intro st e st' h;simp only [dz] at h;split at h
  ·rename_i fv sl _ _;split at h
   ·rename_i x h1 he
    have h2:Evol (st.h.push (.loop g .ready none sl)) h1:=by
     unfold callVal at he;split at he
     ·exact hc _ _ _ _ _ he
     ·cases he
    have h3:Evol h1 st'.h:=by
     unfold loopEnd at h;split at h
     ·split at h
      ·cases h
      ·cases h; exact Evol.put _ _ _
     ·cases h
    exact (Evol.push _ _).trans (h2.trans h3)
   ·cases h
  ·cases h
 | next d x=>intro st e st' h; simp [dz] at h
theorem ye {α β:Type} {f:α→Option (List β)}:∀ {l:List α} {ys:List β},flatL f l=some ys→∀ y ∈ ys,∃ x ∈ l,∃ zs,f x=some zs∧y ∈ zs
 | [],ys,h,y,hy=>by simp only [flatL] at h; cases h; cases hy
 | x :: l,ys,h,y,hy=>by
  simp only [flatL] at h;split at h;case h_2=>cases h
  rename_i a b h1 h2;cases h;rcases bp.1 hy with hy | hy
  ·exact ⟨x,bh ..,a,h1,hy⟩
  ·obtain ⟨x',k1,zs,k2,k3⟩:=ye h2 y hy;exact ⟨x',bu _ k1,zs,k2,k3⟩
theorem nextOuts_evol {d:Option Nat} {x:Opd} {st:St} {l:List (AExit × St)} (e:nextOuts d x st=some l):∀ y ∈ l,Evol st.h y.2.h:=by
 intro y hy;unfold nextOuts at e;split at e;case h_2=>cases e
 split at e;case isFalse=>cases e
 split at e
 ·cases e;rw [d9] at hy; subst hy;exact Evol.put _ _ _
 ·split at e;case h_2=>cases e
  split at e;case isFalse=>cases e
  split at e
  ·cases e;rw [d9] at hy; subst hy;exact Evol.put _ _ _
  ·cases e;rw [ei] at hy;obtain ⟨q,_,rfl⟩:=hy;exact Evol.put _ _ _
 ·cases e
theorem za9 {f:St→Option (List (AExit × St))} (hf:∀ st l,f st=some l→∀ y ∈ l,Evol st.h y.2.h):∀ (n:Nat) (st:St) (l:List (AExit × St)),loopO f n st=some l→∀ y ∈ l,Evol st.h y.2.h
 | 0,st,l,h=>by simp [loopO] at h
 | n+1,st,l,h=>by
  intro y hy;simp only [loopO] at h;split at h;case h_2=>cases h
  rename_i l1 h1;obtain ⟨x,hx,zs,hz,hyz⟩:=ye h y hy;have k:=hf _ _ h1 x hx;split at hz
  ·exact k.trans (za9 hf n _ _ hz y hyz)
  ·cases hz;rw [d9] at hyz; subst hyz;exact k
theorem outs_evol {call:CallSem} (hc:CallEvol call) (n:Nat):∀ (c:ACode) (st:St) (l:List (AExit × St)),ja call n c st=some l→∀ y ∈ l,Evol st.h y.2.h:=by
 have base:∀ (c:ACode) (st:St) (l:List (AExit × St)),(dz call n c st).map (fun x=>[x])=some l→∀ y ∈ l,Evol st.h y.2.h:=by intro c st l e y hy;rw [ae] at e;obtain ⟨x,e,rfl⟩:=e;rw [d9] at hy; subst hy;exact od hc n _ _ _ _ e
 intro c;induction c with
 | skip=>exact base _
 | region gs=>exact base _
 | exit id=>exact base _
 | ret=>exact base _
 | rangeFunc f g caps ps a b _ _=>exact base _
 | seq a b iha ihb =>
  intro st l e y hy;simp only [ja] at e;split at e;case h_2=>cases e
  rename_i l1 h1;obtain ⟨x,hx,zs,hz,hyz⟩:=ye e y hy;have k:=iha _ _ h1 x hx;split at hz
  ·exact k.trans (ihb _ _ hz y hyz)
  ·cases hz;rw [d9] at hyz; subst hyz;exact k
 | cond c t e iht ihe =>
  intro st l h y hy;simp only [ja] at h;split at h
  ·exact iht _ _ h y hy
  ·exact ihe _ _ h y hy
  ·cases h
 | block id a ih =>
  intro st l e y hy;simp only [ja] at e;rw [ae] at e;obtain ⟨l1,h1,rfl⟩:=e;rw [ei] at hy;obtain ⟨x,hx,rfl⟩:=hy;have k:=ih _ _ h1 x hx;split
  ·split <;> exact k
  ·exact k
 | loop a ih=>intro st l e; exact za9 ih n _ _ e
 | live l a ih=>intro st ys e y hy; simp only [ja] at e; have h2:=ih _ _ e y hy; exact h2
 | after a l ih =>
  intro st ys e y hy;simp only [ja] at e;rw [ae] at e;obtain ⟨l1,h1,rfl⟩:=e;rw [ei] at hy;obtain ⟨x,hx,rfl⟩:=hy;have k:=ih _ _ h1 x hx;split
  ·have k2:Evol st.h x.2.h:=k;exact k2
  ·exact k
 | next d x=>intro st l e; exact nextOuts_evol e
theorem zj {h0 h:Heap} {v:AVal} (hb:h.base=h0.base) (hs:h0.size≤h.size) (ho:∀ i,i < h0.size→i < h.wmin→h.objs[i]? = h0.objs[i]?):Evol h0 (dy h0 v h).2:=by
 unfold dy;split
 ·exact ⟨hs,hb,km _ _,fun i hi hw=>ho i hi (by simp only at hw; omega)⟩
 ·rename_i hw;split
  ·exact Evol.refl _
  ·simp only;split
   ·exact ⟨by simp [Heap.size],rfl,ai _,fun i hi _=>by simp only; rw [ag hi]⟩
   ·exact ⟨hs,hb,ai _,fun i hi _=>ho i hi (by omega)⟩
theorem allSame_mem {l:List (Option (AVal × Heap))} {r:AVal × Heap} (e:allSame l=some r):some r ∈ l:=by
 unfold allSame at e;split at e
 ·split at e
  ·cases e; exact bh ..
  ·cases e
 ·cases e
theorem w8 {f:AFunc} {h:Heap} {x:AExit × St} {r:AVal × Heap} (hx:Evol { h with wmin:=h.size } x.2.h) (e:funcEnd f h x=some r):Evol h r.2:=by
 have key:∀ (st:St),Evol { h with wmin:=h.size } st.h→((resultsL st.s st.h f.results).map fun vs=>dy h (tupled vs) st.h)=some r→Evol h r.2:=by intro st h3 h2;rw [ae] at h2;obtain ⟨vs,_,h2⟩:=h2;have h4:=zj (h0:=h) (h:=st.h) (v:=tupled vs) h3.base h3.size (fun i hi hw=>h3.objs i hi hw);rw [h2] at h4;exact h4
 obtain ⟨x,st⟩:=x;cases x with
 | normal=>exact key st hx e
 | ret=>exact key st hx e
 | exit id=>simp [funcEnd] at e
theorem func_evol {call:CallSem} (hc:CallEvol call) {n:Nat} {f:AFunc} {args:List AVal} {h:Heap} {v:AVal} {h':Heap} (e:evFunc call n f args h=some (v,h')):Evol h h':=by
 unfold evFunc at e;split at e;case isFalse=>cases e
 split at e
 ·split at e;case h_2=>cases e
  rename_i l hl;have:=allSame_mem e;rw [ei] at this;obtain ⟨x,hx,he⟩:=this;exact w8 (outs_evol hc n _ _ _ hl x hx) he
 ·split at e;case h_2=>cases e
  rename_i x hx;exact w8 (od hc n _ _ _ _ hx) e
theorem round_evol {call:CallSem} (hc:CallEvol call) {n g:Nat} {r:ARound} {args:List AVal} {h:Heap} {v:AVal} {h':Heap} (e:evRound call n g r args h=some (v,h')):Evol h h':=by
 unfold evRound at e;split at e
 ·split at e
  ·split at e
   ·split at e
    ·rename_i i _ as _ _ s _ _ st he
     have h1:Evol { h with wmin:=h.size } st.h:=by
      unfold ku at he;split at he
      ·rename_i st0 h0;split at he
       ·split at he
        ·cases he; exact (od hc n _ _ _ _ h0).trans (Evol.put _ _ _)
        ·cases he
       ·cases he
      ·cases he
     unfold roundOut at e;split at e
     ·rename_i x st1 h2;have h3:=h1.trans (od hc n _ _ _ _ h2);split at e
      ·rename_i sl2 _;split at e
       ·injection e with e;have h4:=h3.trans (Evol.put st1.h i (.loop g (if x = .normal then .ready else .done) (if x = .normal then none else some x) sl2));have h5:=zj (h0:=h) (v:=.bool (decide (x = .normal))) h4.base h4.size fun i hi hw=>h4.objs i hi hw
        rw [e] at h5;exact h5
       ·cases e
      ·cases e
     ·cases e
    ·cases e
   ·cases e
  ·cases e
 ·cases e
theorem wrapC_evol {r:List AVal→Heap→Option (AVal × Heap)} (hr:∀ args h v h',r args h=some (v,h')→Evol h h') {c:Bool} {args:List AVal} {h:Heap} {v:AVal} {h':Heap} (e:wrapC c r args h=some (v,h')):Evol h h':=by
 cases c with
 | false=>exact hr _ _ _ _ e
 | true =>
  simp only [wrapC,evClosed,if_true] at e;split at e
  ·split at e
   ·split at e
    ·cases e; exact Evol.refl _
    ·cases e
   ·cases e
  ·cases e
theorem uu (T:Nat→Option AFunc):∀ n,CallEvol (fj T n)
 | 0=>by intro g args h v h' e; simp [fj] at e
 | n+1=>by
  intro g args h v h' e;simp only [fj] at e;split at e
  ·split at e
   ·exact round_evol (uu T n) e
   ·rw [ae] at e;obtain ⟨_,_,e⟩:=e;cases e;exact Evol.puts _ _ _
   ·exact wrapC_evol (fun _ _ _ _ e=>func_evol (uu T n) e) e
  ·cases e
end Go.Abs

namespace Go.Abs
def F0 (ro:Option Nat):Fence:={ Fence.wide with round:=ro }
def Ends (E:Env) (μ:MM) (w:World) (v:AVal) (h':Heap) (e:Ending) (w':World):Prop :=
  ∃ v' μ',e = .returned v'∧Step (fun _=>False) h'.wmin μ w μ' w'∧VRel E μ' v v'∧Rel E μ' h' w'
structure CallOK (E:Env) (call:CallSem):Prop where
  fn:∀ (g:Nat) (args:List AVal) (h:Heap) (v:AVal) (h':Heap),call g args h=some (v,h')→∀ (f:FuncId),E.gid f=some g→∀ (μ:MM) (w:World) (args':Array Value),VRels E μ args args'.toList→Rel E μ h w →
    CallsIn (F0 none) 0 E.P f args' w (Ends E μ w v h')
  round:∀ (g i k:Nat) (args:List AVal) (h:Heap) (v:AVal) (h':Heap) (st:LoopSt) (p:Option AExit) (sl:List (Nat × AVal)),call g (.ptr (some (i,k)) :: args) h=some (v,h')→h.get i=some (.loop g st p sl) →
    ∀ (μ:MM) (w:World) (args':Array Value),VRels E μ args args'.toList→Rel E μ h w →
    ∃ (m:M) (r:Loop),μ[i]? = some (some m)∧w.heap[m.blk]? = some (.loop r)∧args'.size=r.params.size ∧
      RoundIn (F0 none) 0 E.P m.blk r.fn ((r.params.zip args').foldl (fun tmps (t,a)=>tmps.setIfInBounds t a) r.tmps) r.assign r.body w (Ends E μ w v h')
def GidOK (E:Env):Prop:=∀ f g,E.gid f=some g→∃ fn,E.P.funcs[f]? = some fn∧fn.name ≠ "runtime.NumGoroutine" ∧ fn.body.isSome=true
def markOf (r:Nat):Deferred:={ target:=.collected r,args:=#[] }
def At (E:Env) (lo nt:Nat) (μ0:MM) (w0:World) (ds:List Deferred) (s:Slots) (h:Heap) (a:Act) (w:World):Prop :=
  ∃ μ ν,Step (fun k=>lo≤k) h.wmin μ0 w0 μ w∧Rel E μ h w∧FRel E lo ν μ (sget s) a.tmps w∧a.tmps.size=nt∧a.defers=ν.ds.map markOf++ds∧lo≤w.heap.size
section
variable {E:Env} {lo nt:Nat} {μ0:MM} {w0:World} {ds:List Deferred} {s:Slots} {h:Heap} {a:Act} {w:World} {call:CallSem} {ro:Option Nat}
theorem qr (a:Act) (dst:Option Tmp) (v:Value):(a.put dst v).tmps.size=a.tmps.size:=by cases dst <;> simp [Act.put]
theorem oa (a:Act) (dst:Option Tmp) (v:Value):(a.put dst v).defers=a.defers:=by cases dst <;> rfl
theorem At.undef (hat:At E lo nt μ0 w0 ds s h a w) {dst:Option Nat} (hd:∀ t,dst=some t→t < nt):At E lo nt μ0 w0 ds (a8 dst .undef s) h (a.put dst Go.undef) w:=by obtain ⟨μ,ν,k1,k2,k3,k4,k5,k6⟩:=hat;refine ⟨μ,ν,k1,k2,?_,by rw [qr]; exact k4,by rw [oa]; exact k5,k6⟩;rw [jv];exact (k3.setUndef (fun x hx=>by rw [k4]; exact hd x hx)).congr fun t=>kr _ _ _ _
theorem lm (hg:GidOK E) {f g:Nat} (hf:E.gid f=some g) (args:Array Value) (w:World):(callFunc f args).run E.P w = .ok (.enter f args) w:=by obtain ⟨fn,h1,h2,h3⟩:=hg f g hf;obtain ⟨c,hb⟩:=Option.isSome_iff_exists.1 h3;simp [callFunc,h1,h2,hb]
theorem run_sound (hc:CallOK E call) (hev0:CallEvol call) (hg:GidOK E) {ops:Array Oper} {loc:Bool} {o:Oper} {o':AOper} {s':Slots} {h':Heap} (hop:ng E nt ops loc o=some o') (hev:evRun call o' s h=some (s',h'))
    (hat:At E lo nt μ0 w0 ds s h a w) {next:Act→World→Prop} {Q:Exit→Act→World→Prop} (hn:∀ a' w',At E lo nt μ0 w0 ds s' h' a' w'→next a' w'):o.wpIn (F0 ro) 0 E.P a w next Q:=by
  unfold ng at hop;split at hop;case isFalse=>cases hop
  rename_i hh;simp only [av,ep,gb] at hh;obtain ⟨hh1,hh2⟩:=hh;have hd:∀ t,o.dst=some t→t < nt:=fun t ht=>by rw [ht] at hh1; simpa using hh1
  have hloc:loc=true→isStore o.op=false→o.dst.isSome=true:=fun hl hst=>(hh2.resolve_right (by rw [hst]; simp)).resolve_left (by rw [hl]; simp)
  have ho1:o'.dst=o.dst∧o'.op=cOpS E loc o.op:=by
    split at hop
    · cases hop; exact ⟨rfl,rfl⟩
    · split at hop
      · cases hop; exact ⟨rfl,rfl⟩
      · cases hop
  have ho2:∃ ao,cOp E loc o.op=some ao∧o'.op=ao:=by
    cases hco:cOp E loc o.op with
    | some ao=>exact ⟨ao,rfl,by rw [ho1.2,cOpS,hco]⟩
    | none =>
      exfalso;unfold evRun at hev;rw [ho1.2,cOpS,hco] at hev;simp [dm] at hev
  obtain ⟨ao,hao,e2⟩:=ho2;have e1:=ho1.1;unfold evRun at hev;rw [e1,e2] at hev;split at hev;case h_2=>cases hev
  rename_i x s1 h1 hop1;cases hev;have hat0:=hat;obtain ⟨μ,ν,k1,k2,k3,k4,k5,k6⟩:=hat;have hevol:=op_evol hev0 hop1;have hnd:∀ c,o.op ≠ .defer c:=fun c hc'=>by rw [hc'] at hao; simp [cOp] at hao
  refine ⟨fun _ _=>trivial,?_⟩;rw [Oper.semAt_eq _ _ _ hnd]
  have ends:∀ (v:AVal) (e:Ending) (w':World),Ends E μ w v h' e w'→x = .val v→s1=s→(match e with | .returned v=>next (a.put o.dst v) w' | .panicked chain=>Q (.panic chain) a w' | .outgrown=>LetsOut Q):=by
    rintro v e w' ⟨v',μ',rfl,j1,j2,j3⟩ hx hs;subst hx; subst hs;refine hn _ _ ⟨μ',ν,?_,j3,?_,by rw [qr]; exact k4,by rw [oa]; exact k5,dq k6 j1.size⟩
    · exact k1.trans (j1.weaken (ai _) fun b hb _=>hb.elim) hevol.wmin
    · rw [jv]
      exact ((k3.step j1 fun b _ hb=>hb).setVal (fun y hy=>by rw [k4]; exact hd y hy) j2).congr fun t=>kr _ _ _ _
  have callcase:∀ (g:Nat) (f:FuncId) (as:List AVal) (args':Array Value) (v:AVal),call g as h=some (v,h')→E.gid f=some g→VRels E μ as args'.toList →
      (execOp a.eval o).run E.P w = .ok (.enter f args') w→x = .val v→s1=s→o.uponIn (F0 ro) 0 E.P a next Q ((execOp a.eval o).run E.P w):=by
    intro g f as args' v hcall hgf hargs hrun hx hs;rw [hrun,Oper.uponIn_enter];refine ⟨fun hh=>by simp [F0,Fence.wide] at hh,?_⟩
    exact CallsIn.mono (F:=F0 ro) (n:=0) (hc.fn g as h v h' hcall f hgf μ w args' hargs k2) fun e w' he=>by have:=ends v e w' he hx hs;cases e <;> exact this
  have roundcase:∀ (g i:Nat) (as:List AVal) (args':Array Value) (v:AVal) (st:LoopSt) (p:Option AExit) (sl:List (Nat × AVal)),call g (.ptr (some (i,0)) :: as) h=some (v,h')→h.get i=some (.loop g st p sl)→VRels E μ as args'.toList →
      (∀ (m:M),μ[i]? = some (some m)→(execOp a.eval o).run E.P w=(Instr.yield m.blk args').run E.P w)→x = .val v→s1=s→o.uponIn (F0 ro) 0 E.P a next Q ((execOp a.eval o).run E.P w):=by
    intro g i as args' v st p sl hcall hg hargs hrun hx hs;obtain ⟨m,r,q1,q2,q3,q4⟩:=hc.round g i 0 as h v h' st p sl hcall hg μ w args' hargs k2;rw [hrun m q1,run_yield q2 q3,Oper.uponIn_round];refine ⟨fun hh=>by simp [F0,Fence.wide] at hh,?_⟩
    exact RoundIn.mono (F:=F0 ro) (n:=0) q4 fun e w' he=>by have:=ends v e w' he hx hs;cases e <;> exact this
  by_cases hcl:(∃ f as,ao = .call f as)∨(∃ g as,ao = .callg g as)
  · have hcop:∃ c,o.op = .call c∧cCall E c=some ao:=by
      cases ho:o.op with
      | call c=>exact ⟨c,rfl,by rw [ho] at hao; simpa only [cOp] using hao⟩
      | makeFunc fn x1 x2 =>
        rw [ho] at hao;exfalso;cases fn <;> simp only [cOp] at hao <;> (try (cases hao; done))
        rcases hcl with ⟨f,as,rfl⟩ | ⟨g,as,rfl⟩ <;> (split at hao <;> cases hao)
      | makeMap t hint =>
        rw [ho] at hao;exfalso
        rcases hcl with ⟨f,as,rfl⟩ | ⟨g,as,rfl⟩ <;>
          (cases hint with
           | none=>simp [cOp] at hao
           | some y =>
             cases y with
             | const v=>cases v <;> simp only [cOp] at hao <;> first | (cases hao; done) | (split at hao <;> cases hao)
             | _=>simp [cOp] at hao)
      | _ =>
        rw [ho] at hao;exfalso
        rcases hcl with ⟨f,as,rfl⟩ | ⟨g,as,rfl⟩ <;>
          (simp only [cOp,cBin,cConv,cEq] at hao
           repeat' split at hao
           all_goals first
             | (cases hao; done)
             | (rw [ae] at hao; obtain ⟨_,_,hao⟩:=hao; first | (cases hao; done) | (split at hao <;> cases hao)))
    obtain ⟨c,hcop,hcc⟩:=hcop;unfold cCall at hcc;split at hcc
    · rename_i f hcal
      split at hcc
      case h_2 =>
        exfalso;rw [ae] at hcc;obtain ⟨_,_,hcc⟩:=hcc;rcases hcl with ⟨f,as,rfl⟩ | ⟨g,as,rfl⟩ <;> cases hcc
      case h_3=>cases hcc
      rename_i g as hgf has;cases hcc;simp only [dm] at hop1;split at hop1;case h_2=>cases hop1
      rename_i vs hvs;rw [ae] at hop1;obtain ⟨⟨v,h2⟩,hcall,hop1⟩:=hop1;cases hop1;have hargs:=lh k3 has hvs;refine callcase g f vs (c.args.map a.eval) v hcall hgf (by simpa using hargs) ?_ rfl rfl;have:=lm hg hgf (c.args.map a.eval) w;simp [execOp,hcop,resolve,hcal,Act.eval,Deferred.ofValue,invoke,this]
    · rename_i y hne hcal
      split at hcc;case h_2=>cases hcc
      rename_i y' as hy has;cases hcc;simp only [dm] at hop1;split at hop1
      · rename_i g first caps vs hyv hvs
        rw [ae] at hop1;obtain ⟨⟨v,h2⟩,hcall,hop1⟩:=hop1;cases hop1;have hargs:=lh k3 has hvs;have hfv:=df k3 hy hyv;simp only [VRel] at hfv;obtain ⟨fid,f',c',q1,q2,q3,q4⟩:=hfv;refine callcase g fid (first++vs++caps) (f'++c.args.map a.eval++c') v hcall q2 ?_ ?_ rfl rfl
        · simpa using (q3.append hargs).append q4
        · have:=lm hg q2 (f'++(c.args.map a.eval++c')) w
          simp [execOp,hcop,resolve,hcal,q1,Deferred.ofValue,invoke,this]
      · rename_i i vs hyv hvs
        split at hop1;case h_2=>cases hop1
        rename_i g st p sl hgi;rw [ae] at hop1;obtain ⟨⟨v,h2⟩,hcall,hop1⟩:=hop1;cases hop1;have hargs:=lh k3 has hvs;have hfv:=df k3 hy hyv;simp only [VRel] at hfv;obtain ⟨l,xx,q1,q2,q3⟩:=hfv;refine roundcase g i vs (c.args.map a.eval) v st p sl hcall hgi (by simpa using hargs) (fun m hm=>?_) rfl rfl;rw [hm] at q2; cases q2;have:=q3 m rfl; subst this;simp [execOp,hcop,resolve,hcal,q1,Deferred.ofValue,invoke]
      · cases hop1
    · -- a built-in is no call
      exfalso
      rcases hcl with ⟨f,as,rfl⟩ | ⟨g,as,rfl⟩ <;>
        (repeat' split at hcc
         all_goals first
           | (cases hcc; done)
           | (rw [ae] at hcc; obtain ⟨_,_,hcc⟩:=hcc; cases hcc))
    · cases hcc
  · obtain ⟨v,w',μ',ν',j0,j1,j2,j3,j4⟩:=op_sound hao (fun f as e=>hcl (.inl ⟨f,as,e⟩)) (fun g as e=>hcl (.inr ⟨g,as,e⟩)) hop1 k3 k2 k6 (fun t ht=>by rw [k4]; exact hd t ht) hloc
    have hat':At E lo nt μ0 w0 ds (a8 o.dst x s1) h' (a.put o.dst v) w':=by refine ⟨μ',ν',k1.trans j2 hevol.wmin,j3,?_,by rw [qr]; exact k4,by rw [oa,j0]; exact k5,dq k6 j2.size⟩;exact j4.congr fun t=>kr _ _ _ _
    rcases j1 with j1 | ⟨rfl,j1⟩
    · rw [j1]; exact hn _ _ hat'
    · rw [j1]; exact hn _ _ hat'
theorem r9 (hc:CallOK E call) (hev0:CallEvol call) (hg:GidOK E) {ops:Array Oper} {loc:Bool} {o:Oper} {o':AOper} {s':Slots} {h':Heap} (hop:ng E nt ops loc o=some o') (hev:ew call o' s h=some (s',h'))
    (hat:At E lo nt μ0 w0 ds s h a w) {next:Act→World→Prop} {Q:Exit→Act→World→Prop} (hn:∀ a' w',At E lo nt μ0 w0 ds s' h' a' w'→next a' w') :
    if Region.wanted o (yielded ops a.tmps) then o.wpIn (F0 ro) 0 E.P a w next Q else next (a.put o.dst Go.undef) w:=by
  have hop0:=hop;unfold ng at hop;split at hop;case isFalse=>cases hop
  rename_i hh;simp only [av,ep,gb] at hh;have hd:∀ t,o.dst=some t→t < nt:=fun t ht=>by have:=hh.1; rw [ht] at this; simpa using this
  unfold ew at hev;split at hop
  · rename_i hg0
    cases hop;simp only at hev;have:Region.wanted o (yielded ops a.tmps)=true:=by simp [Region.wanted,hg0]
    rw [if_pos this];exact run_sound hc hev0 hg hop0 hev hat hn
  · rename_i j want hg0
    split at hop;case h_2=>cases hop
    rename_i d hdj;cases hop;simp only at hev;obtain ⟨μ,ν,k1,k2,k3,k4,k5,k6⟩:=hat;split at hev
    · rename_i b hb
      obtain ⟨v',hv,hr⟩:=k3.val d _ hb;simp only [VRel] at hr; subst hr;have hy:yielded ops a.tmps j=some b:=by simp [yielded,hdj,hv]
      have hw:Region.wanted o (yielded ops a.tmps)=(b == want):=by simp [Region.wanted,hg0,hy]
      split at hev
      · rename_i hbw
        rw [if_pos (by rw [hw]; simpa using hbw)];exact run_sound hc hev0 hg hop0 hev ⟨μ,ν,k1,k2,k3,k4,k5,k6⟩ hn
      · rename_i hbw
        cases hev;rw [if_neg (by rw [hw]; simpa using hbw)];exact hn _ _ (At.undef ⟨μ,ν,k1,k2,k3,k4,k5,k6⟩ hd)
    · rename_i hb
      cases hev;have hv:=k3.undef d hb;have hy:yielded ops a.tmps j=none:=by simp [yielded,hdj,hv,Go.undef]
      have hw:Region.wanted o (yielded ops a.tmps)=false:=by simp [Region.wanted,hg0,hy]
      rw [if_neg (by simp [hw])];exact hn _ _ (At.undef ⟨μ,ν,k1,k2,k3,k4,k5,k6⟩ hd)
    · cases hev
theorem x7 (hc:CallOK E call) (hev0:CallEvol call) (hg:GidOK E) {ops:Array Oper} {locs:List Nat} {Q:Exit→Act→World→Prop}:∀ (l:List Oper) (i:Nat) (as:List AOper) (s:Slots) (h:Heap) (s':Slots) (h':Heap) (a:Act) (w:World),
    ops.toList.drop i=l→mr E nt ops locs i l=some as→evOps call as s h=some (s',h')→At E lo nt μ0 w0 ds s h a w→(∀ a' w',At E lo nt μ0 w0 ds s' h' a' w'→Q .normal a' w') →
    wpOpsIn (F0 ro) 0 E.P ops Q (List.range' i l.length) a w
  | [],i,as,s,h,s',h',a,w,_,hcs,hev,hat,hn=>by simp only [mr] at hcs; cases hcs;simp only [evOps] at hev; cases hev;exact hn _ _ hat
  | o :: l,i,as,s,h,s',h',a,w,hd,hcs,hev,hat,hn=>by
    simp only [mr] at hcs;split at hcs;case h_2=>cases hcs
    rename_i o' as' ho has;cases hcs;simp only [evOps] at hev;split at hev;case h_2=>cases hev
    rename_i s1 h1 he
    have hi:ops[i]? = some o:=by have:=congrArg (fun l=>l[0]?) hd;simpa using this
    have hd':ops.toList.drop (i+1)=l:=by have:=congrArg List.tail hd;simpa using this
    have ih:=fun a' w' hat'=>x7 hc hev0 hg l (i+1) as' s1 h1 s' h' a' w' hd' has hev hat' hn
    simp only [az,List.range'_succ,wpOpsIn,hi];have:=r9 (ro:=ro) (Q:=Q) hc hev0 hg ho he hat ih;split
    · rename_i hw; rw [if_pos hw] at this; exact this
    · rename_i hw; rw [if_neg hw] at this; exact ⟨fun _ _=>trivial,this⟩
end
end Go.Abs

namespace Go.Abs
structure AgreeV (V:Nat→Prop) (S S2:Slots) (ts:List Nat):Prop where
 at_:∀ t ∈ ts,sget S t=sget S2 t
 var:∀ t cs,¬ V t→(sget S t=some (.var cs) ↔ sget S2 t=some (.var cs))
 no:∀ t ∈ ts,¬ V t∧∀ t' o,sget S t=some (.loc t' o)→¬ V t'
abbrev Agree (S S2:Slots) (ts:List Nat):Prop:=AgreeV (fun _=>False) S S2 ts
theorem Agree.of {S S2:Slots} {ts:List Nat} (h1:∀ t ∈ ts,sget S t=sget S2 t) (h2:∀ t cs,sget S t=some (.var cs) ↔ sget S2 t=some (.var cs)):Agree S S2 ts :=
 ⟨h1,fun t cs _=>h2 t cs,fun _ _=>⟨id,fun _ _ _=>id⟩⟩
section
variable {V:Nat→Prop} {S S2:Slots} {ts us:List Nat} {h:Heap}
theorem AgreeV.left (ha:AgreeV V S S2 (ts++us)):AgreeV V S S2 ts:=⟨fun t ht=>ha.at_ t (fw _ ht),ha.var,fun t ht=>ha.no t (fw _ ht)⟩
theorem AgreeV.right (ha:AgreeV V S S2 (ts++us)):AgreeV V S S2 us:=⟨fun t ht=>ha.at_ t (gx _ ht),ha.var,fun t ht=>ha.no t (gx _ ht)⟩
theorem AgreeV.sub (ha:AgreeV V S S2 ts) (h:∀ t ∈ us,t ∈ ts):AgreeV V S S2 us:=⟨fun t ht=>ha.at_ t (h t ht),ha.var,fun t ht=>ha.no t (h t ht)⟩
theorem fp {x:Opd} (ha:AgreeV V S S2 x.reads):x.ev S2=x.ev S:=by
 cases x with
 | const v=>rfl
 | tmp t=>simp only [Opd.ev,← ha.at_ t (by simp [Opd.reads])]
theorem n9:∀ {xs:List Opd},AgreeV V S S2 (readsL xs)→evs S2 xs=evs S xs
 | [],_=>rfl
 | x :: xs,ha=>by simp only [readsL] at ha;simp only [evs,fp ha.left,n9 ha.right]
theorem ti {x:Option Opd} (ha:AgreeV V S S2 (readsO x)):optEv S2 x=optEv S x:=by
 cases x with
 | none=>rfl
 | some x=>simp only [readsO] at ha; simp only [optEv,fp ha]
theorem qo {x:Opd} (ha:AgreeV V S S2 x.reads):x.adr S2=x.adr S:=by
 cases x with
 | const v=>rfl
 | tmp t=>simp only [Opd.adr,← ha.at_ t (by simp [Opd.reads])]
theorem adr_no {x:Opd} (ha:AgreeV V S S2 x.reads) {t o:Nat} (h:x.adr S=some (.loc t o)):¬ V t:=by
 cases x with
 | const v=>cases h
 | tmp u =>
  obtain ⟨h1,h2⟩:=ha.no u (by simp [Opd.reads]);simp only [Opd.adr] at h;split at h
  ·cases h
  ·cases h; exact h1
  ·rename_i t' o' hs; cases h; exact h2 _ _ hs
  ·cases h
theorem tj (ha:AgreeV V S S2 ts) (t:Nat) (hv:¬ V t):isVar S2 t=isVar S t:=by
 have key:∀ (A B:Slots),(∀ cs,sget A t=some (.var cs)→sget B t=some (.var cs))→isVar A t=true→isVar B t=true:=by
  intro A B hab h1;unfold isVar at h1;split at h1
  ·rename_i cs h2; unfold isVar; rw [hab cs h2]
  ·cases h1
 rw [md];exact ⟨key S2 S fun cs=>(ha.var t cs hv).2,key S S2 fun cs=>(ha.var t cs hv).1⟩
theorem cellsAt_congr (ha:AgreeV V S S2 ts) (ad:AAddr) (hn:∀ t o,ad = .loc t o→¬ V t):cellsAt S2 h ad=cellsAt S h ad:=by
 cases ad with
 | glob i o=>rfl
 | loc t o =>
  have hv:=hn t o rfl;simp only [cellsAt];cases h1:sget S t with
  | none =>
   cases h2:sget S2 t with
   | none=>rfl
   | some y=>cases y <;> first | rfl | (rename_i cs; have:=(ha.var t cs hv).2 h2; rw [h1] at this; cases this)
  | some x =>
   cases x with
   | var cs=>rw [(ha.var t cs hv).1 h1]
   | _ =>
    cases h2:sget S2 t with
    | none=>rfl
    | some y=>cases y <;> first | rfl | (rename_i cs; have:=(ha.var t cs hv).2 h2; rw [h1] at this; cases this)
theorem loadAt_congr (ha:AgreeV V S S2 ts) (ad:AAddr) (n:Option Nat) (hn:∀ t o,ad = .loc t o→¬ V t):loadAt S2 h ad n=loadAt S h ad n:=by simp only [loadAt,cellsAt_congr ha ad hn]
theorem vn:∀ {ps:List (Nat × Nat × Opd)} {cs:List AVal},AgreeV V S S2 (readsP ps)→fill S2 cs ps=fill S cs ps
 | [],_,_=>rfl
 | (o,n,x) :: ps,cs,ha=>by
  simp only [readsP] at ha;simp only [fill,fp ha.left];split
  ·split
   ·exact vn ha.right
   ·rfl
  ·rfl
theorem aSlice_congr {k:SliceKind} {x:Opd} {lo hi mx:Option AVal} (ha:AgreeV V S S2 x.reads):aSlice k S2 h x lo hi mx=aSlice k S h x lo hi mx:=by cases k <;> simp only [aSlice,fp ha,qo ha]
def Same (S S2:Slots) (r r2:Option (Slot × Slots × Heap)):Prop :=
 ∀ x s' h',r=some (x,s',h')→s'=S∧r2=some (x,S2,h')∧∀ cs,x ≠ .var cs
theorem ij (v:Option AVal):Same S S2 (ok1 S h v) (ok1 S2 h v):=by intro x s' h' e;obtain ⟨u,rfl,rfl,rfl,rfl⟩:=f8 e;exact ⟨rfl,rfl,fun cs e=>by cases e⟩
theorem ef (r2:Option (Slot × Slots × Heap)):Same S S2 none r2:=by intro x s' h' e; cases e
theorem qp (v:AVal) (h':Heap):Same S S2 (some (.val v,S,h')) (some (.val v,S2,h')):=by intro x s' h1 e; cases e; exact ⟨rfl,rfl,fun cs e=>by cases e⟩
theorem zaz (t o:Nat):Same S S2 (some (.loc t o,S,h)) (some (.loc t o,S2,h)):=by intro x s' h1 e; cases e; exact ⟨rfl,rfl,fun cs e=>by cases e⟩
theorem tk {α:Type} (r:Option α) (f:α→AVal) (g:α→Heap):Same S S2 (r.map fun y=>(.val (f y),S,g y)) (r.map fun y=>(.val (f y),S2,g y)):=by
 cases r with
 | none=>exact ef _
 | some y=>exact qp _ _
theorem conv_same (k:ConvKind) (v:AVal):Same S S2 (om k v S h) (om k v S2 h):=by
 unfold om;cases k <;> simp only
 ·split
  ·exact ij _
  ·exact ef _
 ·split
  ·exact ij _
  ·exact ef _
 ·split
  ·split
   ·exact qp _ _
   ·exact ef _
  ·exact ef _
 ·split
  ·split
   ·exact ij _
   ·exact ef _
  ·exact ef _
theorem op_congr {call:CallSem} {d:Nat} {o:AOp} (hc:calm o=true) (ha:AgreeV V S S2 o.reads):Same S S2 (dm call d o S h) (dm call d o S2 h):=by
 cases o with
 | lalloc z=>cases hc
 | lbox x=>cases hc
 | store n a x=>cases hc
 | copy e d s=>cases hc
 | val x=>simp only [dm,fp ha]; exact ij _
 | pick c a b =>
  simp only [dm,fp ha.left.left,fp ha.left.right,fp ha.right];split
  ·exact ij _
  ·exact ij _
  ·exact ef _
 | alloc e z=>exact qp _ _
 | box x =>
  simp only [dm,fp ha];split
  ·exact qp _ _
  ·exact ef _
 | build z ps=>simp only [dm,vn ha]; exact ij _
 | mkslice e n z ps =>
  simp only [dm,vn ha];split
  ·exact qp _ _
  ·exact ef _
 | load n a =>
  simp only [dm,qo ha];split
  ·rename_i ad had;rw [loadAt_congr ha ad n fun t o e=>adr_no ha (by rw [had,e])]; exact ij _
  ·exact ef _
 | bin op x y =>
  simp only [dm,fp ha.left,fp ha.right];split
  ·exact ij _
  ·exact ef _
 | un op x =>
  simp only [dm,fp ha];split
  ·exact ij _
  ·exact ef _
 | conv k x =>
  simp only [dm,fp ha];split
  ·exact conv_same _ _
  ·exact ef _
 | mkfunc g f c =>
  simp only [dm,n9 ha.left,n9 ha.right];split
  ·exact ij _
  ·exact ef _
 | make e b z l c =>
  simp only [dm,fp ha.left,fp ha.right];split
  ·split
   ·exact qp _ _
   ·exact ef _
  ·exact ef _
 | slice k x lo hi mx =>
  simp only [dm,ti ha.right,ti ha.left.right,ti ha.left.left.right];split
  ·rw [aSlice_congr ha.left.left.left]; exact ij _
  ·exact ef _
 | faddr x off =>
  simp only [dm,qo ha];split
  ·exact ij _
  ·rename_i had;rw [tj ha _ (adr_no ha had)];split
   ·exact zaz _ _
   ·exact ef _
  ·exact ef _
 | field x off n =>
  simp only [dm,fp ha];split
  ·exact ij _
  ·exact ef _
 | iaddr e x i =>
  simp only [dm,fp ha.left,fp ha.right];split
  ·exact ij _
  ·exact ef _
 | aaddr n e x i =>
  simp only [dm,qo ha.left,fp ha.right];split
  ·exact ij _
  ·rename_i had _;rw [tj ha.left _ (adr_no ha.left had)];split
   ·generalize inBounds n _=ib;cases ib with
    | none=>exact ef _
    | some j=>exact zaz _ _
   ·exact ef _
  ·exact ef _
 | index x i =>
  simp only [dm,fp ha.left,fp ha.right];split
  ·exact ij _
  ·exact ef _
 | aindex n e k x i =>
  simp only [dm,fp ha.left,fp ha.right];split
  ·exact ij _
  ·exact ef _
 | extract x i =>
  simp only [dm,fp ha];split
  ·exact ij _
  ·exact ef _
 | call f args =>
  simp only [dm,fp ha.left,n9 ha.right];split
  ·exact tk _ _ _
  ·split
   ·exact tk _ _ _
   ·exact ef _
  ·exact ef _
 | ext k xs =>
  simp only [dm,n9 ha];split
  ·exact tk _ _ _
  ·exact ef _
 | callg g args =>
  simp only [dm,n9 ha];split
  ·exact tk _ _ _
  ·exact ef _
 | len k x =>
  simp only [dm,fp ha];split
  ·exact ij _
  ·exact ef _
 | append e b x y =>
  simp only [dm,fp ha.left,fp ha.right];split
  ·exact tk _ _ _
  ·exact ef _
 | minmax m xs =>
  simp only [dm,n9 ha];split
  ·exact ij _
  ·exact ef _
 | nilcheck x =>
  simp only [dm,fp ha,qo ha];split
  ·exact ij _
  ·split
   ·rename_i had;rw [tj ha _ (adr_no ha had)];split
    ·exact zaz _ _
    ·exact ef _
   ·exact ef _
 | eqnil k neg x y =>
  simp only [dm,fp ha.left,fp ha.right];split
  ·exact ij _
  ·exact ef _
 | beq neg x y =>
  simp only [dm,fp ha.left,fp ha.right];split
  ·exact ij _
  ·exact ef _
 | nextStr x=>exact ef _
theorem js {call:CallSem} {o:AOper} (hc:calm o.op=true) (ha:AgreeV V S S2 o.reads) {s':Slots} {h':Heap} (e:ew call o S h=some (s',h')) :
  ∃ x,s'=a8 o.dst x S∧ew call o S2 h=some (a8 o.dst x S2,h')∧∀ cs,x ≠ .var cs:=by
 have run:evRun call o S h=some (s',h')→∃ x,s'=a8 o.dst x S∧evRun call o S2 h=some (a8 o.dst x S2,h')∧∀ cs,x ≠ .var cs:=by
  intro e;unfold evRun at e;split at e
  ·rename_i x s1 h1 h2;cases e;obtain ⟨e1,e2,e3⟩:=op_congr hc ha.left _ _ _ h2;subst e1;exact ⟨x,rfl,by unfold evRun; rw [e2],e3⟩
  ·cases e
 unfold ew at e ⊢;cases hg:o.guard with
 | none =>
  rw [hg] at e;exact run e
 | some tw =>
  obtain ⟨t,want⟩:=tw;rw [hg] at e;have ht:sget S2 t=sget S t:=(ha.at_ t (by simp [AOper.reads,hg])).symm;simp only at e ⊢;rw [ht];split at e
  ·split at e
   ·rename_i hb;obtain ⟨x,e1,e2,e3⟩:=run e;exact ⟨x,e1,by rw [if_pos hb]; exact e2,e3⟩
   ·rename_i hb;cases e;exact ⟨.undef,rfl,by rw [if_neg hb],fun cs e=>by cases e⟩
  ·cases e; exact ⟨.undef,rfl,rfl,fun cs e=>by cases e⟩
  ·cases e
end
end Go.Abs
