/-
  Texts joined.
-/
import Derived.Test.YtkdkjjokckokfaaGreatQ0
import Derived.Test.YtkdkjjokckokfaaGreatQ1
import Derived.Calls
import Derived.Laws.Sem
import Derived.Laws.Cells
import Derived.Laws.Strings
import Derived.Laws.Entries
import Derived.Deep.AppendSrc
import Derived.WalkSpells
import Derived.Laws.IdiomStrings
import Derived.Laws.BytesArg
import Derived.Lib.AppendZerosOnto
set_option linter.unusedVariables false
set_option linter.unusedSimpArgs false
set_option maxRecDepth 100000
namespace Go.Abs
theorem qZ {α:Type _} {a:α} {l:List α}:(a :: l)[0]? = some a:=List.getElem?_cons_zero
theorem qS {α:Type _} {a:α} {l:List α} {i:Nat}:(a :: l)[i+1]? = l[i]?:=List.getElem?_cons_succ
def Le {α:Type} (a b:Option α):Prop:=∀ r,a=some r→b=some r
theorem Le.refl {α:Type} (a:Option α):Le a a:=fun _ h=>h
def CallLe (c d:CallSem):Prop:=∀ g args h,Le (c g args h) (d g args h)
theorem CallLe.refl (c:CallSem):CallLe c c:=fun _ _ _=>Le.refl _
theorem CallLe.trans {a b c:CallSem} (h:CallLe a b) (k:CallLe b c):CallLe a c:=fun g aZ hp r hr=>k g aZ hp r (h g aZ hp r hr)
theorem Le.map {α β:Type} {a b:Option α} (f:α→β) (h:Le a b):Le (a.map f) (b.map f):=by
 intro r hr;cases a with
 | none=>simp at hr
 | some x=>rw [h x rfl]; exact hr
theorem evOp_mono {c d:CallSem} (hcd:CallLe c d) (dst:Nat) (o:AOp) (s:Slots) (h:Heap):Le (df c dst o s h) (df d dst o s h):=by
 cases o with
 | call f args =>
  intro r hr;simp only [df] at hr ⊢;split at hr
  ·exact Le.map _ (hcd _ _ _) r hr
  ·split at hr
   ·exact Le.map _ (hcd _ _ _) r hr
   ·exact hr
  ·exact hr
 | callg g args =>
  intro r hr;simp only [df] at hr ⊢;split at hr
  ·exact Le.map _ (hcd _ _ _) r hr
  ·exact hr
 | _=>exact fun r hr=>hr
theorem zr {c d:CallSem} (hcd:CallLe c d) (o:AOper) (s:Slots) (h:Heap):Le (evRun c o s h) (evRun d o s h):=by
 intro r hr;unfold evRun at hr ⊢;split at hr
 ·rename_i x s' h' he;rw [evOp_mono hcd _ _ _ _ _ he]; exact hr
 ·simp at hr
theorem lf {c d:CallSem} (hcd:CallLe c d) (o:AOper) (s:Slots) (h:Heap):Le (fe c o s h) (fe d o s h):=by
 intro r hr;unfold fe at hr ⊢;split at hr
 ·exact zr hcd _ _ _ r hr
 ·split at hr
  ·split at hr
   ·rename_i h1; simp only [if_pos h1]; exact zr hcd _ _ _ r hr
   ·rename_i h1; simp only [if_neg h1]; exact hr
  ·exact hr
  ·simp at hr
theorem qz {c d:CallSem} (hcd:CallLe c d):∀ (l:List AOper) (s:Slots) (h:Heap),Le (evOps c l s h) (evOps d l s h)
 | [],_,_=>Le.refl _
 | o :: l,s,h=>by
  intro r hr;simp only [evOps] at hr ⊢;split at hr
  ·rename_i s' h' he;rw [lf hcd _ _ _ _ he]; exact qz hcd l _ _ r hr
  ·simp at hr
theorem q9 {c d:CallSem} (hcd:CallLe c d):∀ (l:List AOper) (s:Slots) (h:Heap),Le (evQuiet c l s h) (evQuiet d l s h)
 | [],_,_=>Le.refl _
 | o :: l,s,h=>by
  intro r hr;simp only [evQuiet] at hr ⊢;split at hr
  ·rename_i s' h' he;rw [lf hcd _ _ _ _ he];simp only;split at hr
   ·rename_i h1; rw [if_pos h1]; exact q9 hcd l _ _ r hr
   ·simp at hr
  ·simp at hr
theorem p9 {c d:CallSem} (hcd:CallLe c d):∀ (V:List Nat) (l:List AOper) (s:Slots) (h:Heap),Le (evQuietV c V l s h) (evQuietV d V l s h)
 | _,[],_,_=>Le.refl _
 | V,o :: l,s,h=>by
  intro r hr;simp only [evQuietV] at hr ⊢;split at hr
  ·rename_i s' h' he;rw [lf hcd _ _ _ _ he];simp only;split at hr
   ·rename_i h1; rw [if_pos h1]; exact p9 hcd V l _ _ r hr
   ·simp at hr
  ·simp at hr
theorem evQ_mono {c d:CallSem} (hcd:CallLe c d) (l:List AOper) (s:Slots) (h:Heap):Le (evQ c l s h) (evQ d l s h):=by
 unfold evQ;split
 ·exact q9 hcd _ _ _
 ·split
  ·exact p9 hcd _ _ _ _
  ·exact Le.refl _
theorem uz {c d:CallSem} (hcd:CallLe c d) (n0 m:Nat) (ds:List Did) (o:AOper) (s:Slots) (h:Heap):Le (lm c n0 m ds o s h) (lm d n0 m ds o s h):=by
 intro r hr;unfold lm at hr ⊢;split at hr
 ·cases hr
 ·rename_i h1;rw [if_neg h1];split at hr
  ·rename_i h2;rw [if_pos h2];split at hr
   ·cases hr
   ·rename_i s' h' he;rw [lf hcd _ _ _ _ he];exact hr
  ·rename_i h2;rw [if_neg h2];exact hr
theorem ra {c d:CallSem} (hcd:CallLe c d) (n0:Nat):∀ (ops:List AOper) (ms:List Nat) (ds:List Did) (s:Slots) (h:Heap),Le (i8 c n0 ms ops ds s h) (i8 d n0 ms ops ds s h)
 | [],_,_,_,_=>fun r hr=>by simp only [i8] at hr ⊢; exact hr
 | o :: l,ms,ds,s,h=>by
  intro r hr;simp only [i8] at hr ⊢;split at hr
  ·rename_i y h' x he;rw [uz hcd _ _ _ _ _ _ _ he];simp only;split at hr
   ·rename_i h1; rw [if_pos h1]; exact ra hcd n0 l _ _ _ _ r hr
   ·cases hr
  ·cases hr
theorem xl {c d:CallSem} (hcd:CallLe c d) (ms:List Nat) (ops:List AOper) (s:Slots) (h:Heap):Le (tr c ms ops s h) (tr d ms ops s h):=ra hcd _ _ _ _ _ _
theorem py {c d:CallSem} (hcd:CallLe c d):∀ (l:List Seg) (s:Slots) (h:Heap),Le (jq c l s h) (jq d l s h)
 | [],_,_=>Le.refl _
 | g :: l,s,h=>by
  intro r hr;simp only [jq] at hr ⊢;split at hr
  ·rename_i s' h' he
   have:(if g.quiet=true then (if g.soft=[] then evQ d g.ops s h else tr d g.soft g.ops s h) else evOps d g.ops s h)=some (s',h'):=by
    split at he
    ·rename_i hq;rw [if_pos hq];split at he
     ·rename_i hq2; rw [if_pos hq2]; exact evQ_mono hcd _ _ _ _ he
     ·rename_i hq2; rw [if_neg hq2]; exact xl hcd _ _ _ _ _ he
    ·rename_i hq; rw [if_neg hq]; exact qz hcd _ _ _ _ he
   rw [this]; exact py hcd l _ _ r hr
  ·simp at hr
theorem rb {f g:St→Option (AExit × St)} (hfg:∀ st,Le (f st) (g st)):∀ (n m:Nat) (st:St),n≤m→Le (loopN f n st) (loopN g m st)
 | 0,_,_,_=>by intro r hr; simp [loopN] at hr
 | n+1,0,_,h=>absurd h (by omega)
 | n+1,m+1,st,h=>by
  intro r hr;simp only [loopN] at hr ⊢;split at hr
  ·rename_i st' he;rw [hfg _ _ he]; exact rb hfg n m st' (by omega) r hr
  ·rename_i hne;rw [hfg _ _ hr];split
   ·rename_i st' he; cases he; exact absurd hr (hne _)
   ·rfl
theorem j7 {c d:CallSem} (hcd:CallLe c d) {n m:Nat} (hnm:n≤m):∀ (x:ACode) (st:St),Le (dm c n x st) (dm d m x st):=by
 intro x;induction x with
 | skip=>exact fun _=>Le.refl _
 | region gs=>exact fun st=>Le.map _ (py hcd _ _ _)
 | seq a b iha ihb =>
  intro st r hr;simp only [dm] at hr ⊢;split at hr
  ·rename_i st' he; rw [iha _ _ he]; exact ihb _ _ hr
  ·rename_i hne;rw [iha _ _ hr];split
   ·rename_i st' he; cases he; exact absurd hr (hne _)
   ·rfl
 | cond c t e iht ihe =>
  intro st r hr;simp only [dm] at hr ⊢;split at hr
  ·exact iht _ _ hr
  ·exact ihe _ _ hr
  ·simp at hr
 | block id a ih =>
  intro st r hr;simp only [dm] at hr ⊢;split at hr
  ·rename_i j st' he; rw [ih _ _ he]; exact hr
  ·rename_i hne;rw [ih _ _ hr];split
   ·rename_i j st' he; cases he; exact absurd hr (hne _ _)
   ·rfl
 | loop a ih=>exact fun st=>rb ih n m st hnm
 | exit id=>exact fun _=>Le.refl _
 | ret=>exact fun _=>Le.refl _
 | live l a ih=>exact fun st=>ih _
 | after a l ih =>
  intro st r hr;simp only [dm] at hr ⊢;split at hr
  ·rename_i st' he; rw [ih _ _ he]; exact hr
  ·rename_i hne;rw [ih _ _ hr];split
   ·rename_i st' he; cases he; exact absurd hr (hne _)
   ·rfl
 | rangeFunc f g caps ps a b _ _ =>
  intro st r hr;simp only [dm] at hr ⊢;split at hr
  ·rename_i fv sl _ _;split at hr
   ·rename_i x h' he
    have:callVal d fv [.yield st.h.size] (st.h.push (.loop g .ready none sl))=some (x,h'):=by
     unfold callVal at he ⊢;split at he
     ·exact hcd _ _ _ _ he
     ·cases he
    rw [this]; exact hr
   ·cases hr
  ·cases hr
 | next d x=>intro st; exact Le.refl _
theorem rc {g i:Nat} {a b:Option (AExit × St)} (hab:Le a b):Le (my g i a) (my g i b):=by
 intro r hr;cases a with
 | none=>simp [my] at hr
 | some x=>rw [hab x rfl]; exact hr
theorem qa {h:Heap} {g i:Nat} {a b:Option (AExit × St)} (hab:Le a b):Le (roundOut h g i a) (roundOut h g i b):=by
 intro r hr;cases a with
 | none=>simp [roundOut] at hr
 | some x=>rw [hab x rfl]; exact hr
theorem u0 {c d:CallSem} (hcd:CallLe c d) {n m:Nat} (hnm:n≤m) (g:Nat) (r:ARound) (args:List AVal) (h:Heap):Le (evRound c n g r args h) (evRound d m g r args h):=by
 intro x hx;unfold evRound at hx ⊢;split at hx
 ·split at hx
  ·rename_i h1;rw [if_pos h1];split at hx
   ·split at hx
    ·rename_i st he;rw [rc (j7 hcd hnm _ _) _ he];exact qa (j7 hcd hnm _ _) _ hx
    ·cases hx
   ·cases hx
  ·cases hx
 ·cases hx
theorem n9 {α β:Type} {f g:α→Option (List β)} (hfg:∀ x,Le (f x) (g x)):∀ l:List α,Le (flatL f l) (flatL g l)
 | []=>Le.refl _
 | x :: l=>by
  intro r hr;simp only [flatL] at hr ⊢;split at hr;case h_2=>cases hr
  rename_i a b h1 h2;rw [hfg x a h1,n9 hfg l b h2];exact hr
theorem uh {f g:St→Option (List (AExit × St))} (hfg:∀ st,Le (f st) (g st)):∀ (n m:Nat) (st:St),n≤m→Le (loopO f n st) (loopO g m st)
 | 0,m,st,_=>by intro r hr; simp [loopO] at hr
 | n+1,0,st,h=>by omega
 | n+1,m+1,st,h=>by
  intro r hr;simp only [loopO] at hr ⊢;split at hr;case h_2=>cases hr
  rename_i l h1;rw [hfg st l h1];refine n9 (fun x=>?_) l r hr;split
  ·exact uh hfg n m _ (by omega)
  ·exact Le.refl _
theorem wt {c d:CallSem} (hcd:CallLe c d) {n m:Nat} (hnm:n≤m):∀ (x:ACode) (st:St),Le (fm c n x st) (fm d m x st):=by
 have base:∀ (x:ACode) (st:St),Le ((dm c n x st).map fun x=>[x]) ((dm d m x st).map fun x=>[x]):=fun x st=>Le.map _ (j7 hcd hnm x st)
 intro x;induction x with
 | skip=>exact base _
 | region gs=>exact base _
 | exit id=>exact base _
 | ret=>exact base _
 | rangeFunc f g caps ps a b _ _=>exact base _
 | seq a b iha ihb =>
  intro st r hr;simp only [fm] at hr ⊢;split at hr;case h_2=>cases hr
  rename_i l h1;rw [iha st l h1];refine n9 (fun x=>?_) l r hr;split
  ·exact ihb _
  ·exact Le.refl _
 | cond c t e iht ihe =>
  intro st r hr;simp only [fm] at hr ⊢;split at hr
  ·exact iht _ _ hr
  ·exact ihe _ _ hr
  ·cases hr
 | block id a ih=>intro st; simp only [fm]; exact Le.map _ (ih st)
 | loop a ih=>intro st; exact uh ih n m st hnm
 | live l a ih=>intro st; simp only [fm]; exact ih _
 | after a l ih=>intro st; simp only [fm]; exact Le.map _ (ih st)
 | next d x=>intro st; exact Le.refl _
def outcome (f:AFunc) (h:Heap):Option (AExit × St)→Option (AVal × Heap)
 | some (.normal,st) | some (.ret,st)=>(resultsL st.s st.h f.results).map fun vs=>dk h (tupled vs) st.h
 | _=>none
theorem outcome_some (f:AFunc) (h:Heap) (x:AExit × St):outcome f h (some x)=funcEnd f h x:=by obtain ⟨e,st⟩:=x;cases e <;> rfl
theorem evFunc_eq (c:CallSem) (n:Nat) (f:AFunc) (args:List AVal) (h:Heap) (hw:f.wild=false) :
  evFunc c n f args h=if args.length=f.nargs then outcome f h (dm c n f.body ⟨enter 0 args,{ h with wmin:=h.size }⟩) else none:=by
 unfold evFunc;split
 ·rw [hw];simp only [de,if_false];split
  ·rename_i x hx;rw [hx,outcome_some]
  ·rename_i hx;rw [hx]; rfl
 ·rfl
theorem outcome_mono (f:AFunc) (h:Heap) {a b:Option (AExit × St)} (hab:Le a b):Le (outcome f h a) (outcome f h b):=by
 intro r hr;cases a with
 | none=>simp [outcome] at hr
 | some x=>rw [hab x rfl]; exact hr
theorem xm {c d:CallSem} (hcd:CallLe c d) {n m:Nat} (hnm:n≤m) (f:AFunc) (args:List AVal) (h:Heap):Le (evFunc c n f args h) (evFunc d m f args h):=by
 intro r hr;unfold evFunc at hr ⊢;split at hr;case isFalse=>cases hr
 rename_i hl;rw [if_pos hl];split at hr
 ·rename_i hw;rw [if_pos hw];split at hr;case h_2=>cases hr
  rename_i l h1;rw [wt hcd hnm _ _ l h1];exact hr
 ·rename_i hw;rw [if_neg hw];split at hr;case h_2=>cases hr
  rename_i x h1;rw [j7 hcd hnm _ _ x h1];exact hr
theorem ui {r r':List AVal→Heap→Option (AVal × Heap)} (hr:∀ args h,Le (r args h) (r' args h)) (c:Bool) (args:List AVal) (h:Heap):Le (wrapC c r args h) (wrapC c r' args h):=by
 cases c with
 | false=>exact hr args h
 | true =>
  intro x hx;simp only [wrapC,evClosed,if_true] at hx ⊢;split at hx
  ·rename_i hu;rw [if_pos hu];split at hx
   ·rename_i v h' he;rw [hr _ _ _ he]; exact hx
   ·cases hx
  ·cases hx
theorem re (T:Nat→Option AFunc):∀ n,CallLe (e7 T n) (e7 T (n+1))
 | 0=>by intro g args h r hr; simp [e7] at hr
 | n+1=>by
  intro g args h;simp only [e7];split
  ·split
   ·exact u0 (re T n) (by omega) _ _ _ _
   ·exact Le.refl _
   ·exact ui (fun args h=>xm (re T n) (by omega) _ _ _) _ _ _
  ·exact Le.refl _
theorem gt (T:Nat→Option AFunc) {n m:Nat} (h:n≤m):CallLe (e7 T n) (e7 T m):=by
 induction h with
 | refl=>exact CallLe.refl _
 | step _ ih=>exact ih.trans (re T _)
open Classical in
noncomputable def Lim {α:Type} (F:Nat→Option α):Option α:=if h:∃ r n,F n=some r then some h.choose else none
theorem Lim_iff {α:Type} {F:Nat→Option α} (hF:∀ n m,n≤m→Le (F n) (F m)) (r:α):Lim F=some r ↔ ∃ n,F n=some r:=by
 unfold Lim;constructor
 ·intro h;split at h
  ·rename_i hx;cases h;exact hx.choose_spec
  ·simp at h
 ·rintro ⟨n,hn⟩;have hx:∃ r n,F n=some r:=⟨r,n,hn⟩;rw [dif_pos hx];obtain ⟨m,hm⟩:=hx.choose_spec;have h1:=hF n (n+m) (by omega) _ hn;have h2:=hF m (n+m) (by omega) _ hm;rw [h1] at h2;exact h2.symm
noncomputable def xCall (T:Nat→Option AFunc):CallSem:=fun g args h=>Lim fun n=>e7 T n g args h
noncomputable def jb (T:Nat→Option AFunc) (c:ACode) (st:St):Option (AExit × St):=Lim fun n=>dm (e7 T n) n c st
section
variable (T:Nat→Option AFunc)
theorem kh (g:Nat) (args:List AVal) (h:Heap) (r:AVal × Heap):xCall T g args h=some r ↔ ∃ n,e7 T n g args h=some r :=
 Lim_iff (fun _ _ hnm=>gt T hnm g args h) r
theorem d0 (c:ACode) (st:St) (r:AExit × St):jb T c st=some r ↔ ∃ n,dm (e7 T n) n c st=some r :=
 Lim_iff (fun _ _ hnm=>j7 (gt T hnm) hnm c st) r
theorem xq (n:Nat):CallLe (e7 T n) (xCall T):=fun g args h r hr=>(kh T g args h r).2 ⟨n,hr⟩
theorem evOp_lim {dst:Nat} {o:AOp} {s:Slots} {h:Heap} {r} (hr:df (xCall T) dst o s h=some r):∃ n,df (e7 T n) dst o s h=some r:=by
 cases o with
 | call f args =>
  simp only [df] at hr ⊢;split at hr
  ·rename_i g first caps aZ hf ha
   rw [ae] at hr;obtain ⟨x,hx,rfl⟩:=hr;obtain ⟨n,hn⟩:=(kh T _ _ _ _).1 hx;exact ⟨n,by rw [hn]; rfl⟩
  ·split at hr
   ·rw [ae] at hr;obtain ⟨x,hx,rfl⟩:=hr;obtain ⟨n,hn⟩:=(kh T _ _ _ _).1 hx;exact ⟨n,by rw [hn]; rfl⟩
   ·cases hr
  ·simp at hr
 | callg g args =>
  simp only [df] at hr ⊢;split at hr
  ·rename_i aZ ha;rw [ae] at hr;obtain ⟨x,hx,rfl⟩:=hr;obtain ⟨n,hn⟩:=(kh T _ _ _ _).1 hx;exact ⟨n,by rw [hn]; rfl⟩
  ·simp at hr
 | _=>exact ⟨0,hr⟩
theorem evRun_lim {o:AOper} {s:Slots} {h:Heap} {r} (hr:evRun (xCall T) o s h=some r):∃ n,evRun (e7 T n) o s h=some r:=by
 unfold evRun at hr ⊢;split at hr
 ·rename_i x s' h' he;obtain ⟨n,hn⟩:=evOp_lim T he;exact ⟨n,by rw [hn]; exact hr⟩
 ·simp at hr
theorem pi {o:AOper} {s:Slots} {h:Heap} {r} (hr:fe (xCall T) o s h=some r):∃ n,fe (e7 T n) o s h=some r:=by
 unfold fe at hr ⊢;split at hr
 ·exact evRun_lim T hr
 ·split at hr
  ·split at hr
   ·rename_i h1;simp only [if_pos h1];exact evRun_lim T hr
   ·rename_i h1;simp only [if_neg h1];exact ⟨0,hr⟩
  ·exact ⟨0,hr⟩
  ·simp at hr
theorem evOps_lim:∀ {l:List AOper} {s:Slots} {h:Heap} {r},evOps (xCall T) l s h=some r→∃ n,evOps (e7 T n) l s h=some r
 | [],_,_,_,hr=>⟨0,hr⟩
 | o :: l,s,h,r,hr=>by
  simp only [evOps] at hr ⊢;split at hr
  ·rename_i s' h' he;obtain ⟨n,hn⟩:=pi T he;obtain ⟨m,hm⟩:=evOps_lim hr;exact ⟨n+m,by rw [lf (gt T (by omega)) _ _ _ _ hn]; exact qz (gt T (by omega)) _ _ _ _ hm⟩
  ·simp at hr
theorem xr:∀ {l:List AOper} {s:Slots} {h:Heap} {r},evQuiet (xCall T) l s h=some r→∃ n,evQuiet (e7 T n) l s h=some r
 | [],_,_,_,hr=>⟨0,hr⟩
 | o :: l,s,h,r,hr=>by
  simp only [evQuiet] at hr ⊢;split at hr
  ·rename_i s' h' he;split at hr
   ·rename_i h1;obtain ⟨n,hn⟩:=pi T he;obtain ⟨m,hm⟩:=xr hr;exact ⟨n+m,by rw [lf (gt T (by omega)) _ _ _ _ hn]; simp only; rw [if_pos h1]; exact q9 (gt T (by omega)) _ _ _ _ hm⟩
   ·simp at hr
  ·simp at hr
theorem u5:∀ {V:List Nat} {l:List AOper} {s:Slots} {h:Heap} {r},evQuietV (xCall T) V l s h=some r→∃ n,evQuietV (e7 T n) V l s h=some r
 | _,[],_,_,_,hr=>⟨0,hr⟩
 | V,o :: l,s,h,r,hr=>by
  simp only [evQuietV] at hr ⊢;split at hr
  ·rename_i s' h' he;split at hr
   ·rename_i h1;obtain ⟨n,hn⟩:=pi T he;obtain ⟨m,hm⟩:=u5 hr;exact ⟨n+m,by rw [lf (gt T (by omega)) _ _ _ _ hn]; simp only; rw [if_pos h1]; exact p9 (gt T (by omega)) _ _ _ _ _ hm⟩
   ·simp at hr
  ·simp at hr
theorem evQ_lim {l:List AOper} {s:Slots} {h:Heap} {r} (hr:evQ (xCall T) l s h=some r):∃ n,evQ (e7 T n) l s h=some r:=by
 unfold evQ at hr ⊢;split at hr
 ·rename_i hq; simp only [if_pos hq]; exact xr T hr
 ·rename_i hq; simp only [if_neg hq];split at hr
  ·rename_i hl; simp only [if_pos hl]; exact u5 T hr
  ·cases hr
theorem openOne_lim {n0 m:Nat} {ds:List Did} {o:AOper} {s:Slots} {h:Heap} {r} (hr:lm (xCall T) n0 m ds o s h=some r):∃ n,lm (e7 T n) n0 m ds o s h=some r:=by
 unfold lm at hr ⊢;split at hr
 ·cases hr
 ·rename_i h1;simp only [if_neg h1];split at hr
  ·rename_i h2;simp only [if_pos h2];split at hr
   ·cases hr
   ·rename_i s' h' he;obtain ⟨n,hn⟩:=pi T he;exact ⟨n,by rw [hn]; exact hr⟩
  ·rename_i h2;simp only [if_neg h2];exact ⟨0,hr⟩
theorem xt {n0:Nat}:∀ {ops:List AOper} {ms:List Nat} {ds:List Did} {s:Slots} {h:Heap} {r},i8 (xCall T) n0 ms ops ds s h=some r→∃ n,i8 (e7 T n) n0 ms ops ds s h=some r
 | [],_,_,_,_,_,hr=>⟨0,by simp only [i8] at hr ⊢; exact hr⟩
 | o :: l,ms,ds,s,h,r,hr=>by
  simp only [i8] at hr ⊢;split at hr
  ·rename_i y h' x he;split at hr
   ·rename_i h1;obtain ⟨n,hn⟩:=openOne_lim T he;obtain ⟨m,hm⟩:=xt hr;exact ⟨n+m,by rw [uz (gt T (by omega)) _ _ _ _ _ _ _ hn]; simp only; rw [if_pos h1]; exact ra (gt T (by omega)) _ _ _ _ _ _ _ hm⟩
   ·cases hr
  ·cases hr
def evSeg (call:CallSem) (g:Seg) (s:Slots) (h:Heap):Option (Slots × Heap) :=
 if g.quiet then (if g.soft=[] then evQ call g.ops s h else tr call g.soft g.ops s h) else evOps call g.ops s h
theorem evSeg_mono {c d:CallSem} (hcd:CallLe c d) (g:Seg) (s:Slots) (h:Heap):Le (evSeg c g s h) (evSeg d g s h):=by
 unfold evSeg;split
 ·split
  ·exact evQ_mono hcd _ _ _
  ·exact xl hcd _ _ _ _
 ·exact qz hcd _ _ _
theorem zt:∀ {l:List Seg} {s:Slots} {h:Heap} {r},jq (xCall T) l s h=some r→∃ n,jq (e7 T n) l s h=some r
 | [],_,_,_,hr=>⟨0,hr⟩
 | g :: l,s,h,r,hr=>by
  simp only [jq] at hr ⊢;split at hr
  ·rename_i s' h' he
   have hx:∃ n,evSeg (e7 T n) g s h=some (s',h'):=by
    unfold evSeg;split at he
    ·rename_i hq;simp only [if_pos hq];split at he
     ·rename_i hq2; simp only [if_pos hq2]; exact evQ_lim T he
     ·rename_i hq2; simp only [if_neg hq2]; exact xt T he
    ·rename_i hq; simp only [if_neg hq]; exact evOps_lim T he
   obtain ⟨n,hn⟩:=hx;obtain ⟨m,hm⟩:=zt hr;refine ⟨n+m,?_⟩;have:evSeg (e7 T (n+m)) g s h=some (s',h'):=evSeg_mono (gt T (by omega)) _ _ _ _ hn;unfold evSeg at this;rw [this]; exact py (gt T (by omega)) _ _ _ _ hm
  ·simp at hr
theorem lift {c:ACode} {st:St} {r} {n m:Nat} (h:dm (e7 T n) n c st=some r) (hnm:n≤m):dm (e7 T m) m c st=some r :=
 j7 (gt T hnm) hnm c st r h
theorem xCode_skip (st:St):jb T .skip st=some (.normal,st):=(d0 T _ _ _).2 ⟨0,rfl⟩
theorem xCode_exit (id:Nat) (st:St):jb T (.exit id) st=some (.exit id,st):=(d0 T _ _ _).2 ⟨0,rfl⟩
theorem xCode_ret (st:St):jb T .ret st=some (.ret,st):=(d0 T _ _ _).2 ⟨0,rfl⟩
theorem u6 (gs:List Seg) (st:St):jb T (.region gs) st=(jq (xCall T) gs st.s st.h).map fun (s,h)=>(.normal,⟨s,h⟩):=by
 apply wp;intro r;rw [d0];constructor
 ·rintro ⟨n,hn⟩; exact Le.map _ (py (xq T n) _ _ _) r hn
 ·intro h;rw [ae] at h;obtain ⟨x,hx,rfl⟩:=h;obtain ⟨n,hn⟩:=zt T hx;exact ⟨n,by simp only [dm]; rw [hn]; rfl⟩
theorem xCode_seq (a b:ACode) (st:St):jb T (.seq a b) st=match jb T a st with
  | some (.normal,st')=>jb T b st'
  | r=>r:=by
 apply wp;intro r;rw [d0];constructor
 ·rintro ⟨n,hn⟩;simp only [dm] at hn;split at hn
  ·rename_i st' he;rw [(d0 T _ _ _).2 ⟨n,he⟩]; exact (d0 T _ _ _).2 ⟨n,hn⟩
  ·rename_i hne;rw [(d0 T _ _ _).2 ⟨n,hn⟩];split
   ·rename_i st' he; cases he; exact absurd hn (hne _)
   ·rfl
 ·intro h;split at h
  ·rename_i st' he;obtain ⟨n,hn⟩:=(d0 T _ _ _).1 he;obtain ⟨m,hm⟩:=(d0 T _ _ _).1 h;refine ⟨n+m,?_⟩;simp only [dm];rw [lift T hn (by omega)]; exact lift T hm (by omega)
  ·rename_i hne;obtain ⟨n,hn⟩:=(d0 T _ _ _).1 h;refine ⟨n,?_⟩;simp only [dm];rw [hn];split
   ·rename_i st' he; cases he; exact absurd h (hne _)
   ·rfl
theorem zu (c:Opd) (t e:ACode) (st:St):jb T (.cond c t e) st=match c.ev st.s with
  | some (.bool true)=>jb T t st
  | some (.bool false)=>jb T e st
  | _=>none:=by
 apply wp;intro r;rw [d0];simp only [dm];split
 ·rename_i he; rw [he]; exact (d0 T _ _ _).symm
 ·rename_i he; rw [he]; exact (d0 T _ _ _).symm
 ·rename_i h1 h2;split
  ·rename_i he; exact absurd he h1
  ·rename_i he; exact absurd he h2
  ·simp
theorem xw (id:Nat) (c:ACode) (st:St):jb T (.block id c) st=match jb T c st with
  | some (.exit j,st')=>if j=id then some (.normal,st') else some (.exit j,st')
  | r=>r:=by
 apply wp;intro r;rw [d0];constructor
 ·rintro ⟨n,hn⟩;simp only [dm] at hn;split at hn
  ·rename_i j st' he;rw [(d0 T _ _ _).2 ⟨n,he⟩]; exact hn
  ·rename_i hne;rw [(d0 T _ _ _).2 ⟨n,hn⟩];split
   ·rename_i st' he; cases he; exact absurd hn (hne _ _)
   ·rfl
 ·intro h;split at h
  ·rename_i j st' he;obtain ⟨n,hn⟩:=(d0 T _ _ _).1 he;refine ⟨n,?_⟩;simp only [dm];rw [hn]; exact h
  ·rename_i hne;obtain ⟨n,hn⟩:=(d0 T _ _ _).1 h;refine ⟨n,?_⟩;simp only [dm];rw [hn];split
   ·rename_i st' he; cases he; exact absurd h (hne _ _)
   ·rfl
theorem zw (l:List Nat) (c:ACode) (st:St):jb T (.live l c) st=jb T c ⟨keep l st.s,st.h⟩:=rfl
theorem xy (c:ACode) (l:List Nat) (st:St):jb T (.after c l) st=match jb T c st with
  | some (.normal,st')=>some (.normal,⟨keep l st'.s,st'.h⟩)
  | r=>r:=by
 apply wp;intro r;rw [d0];constructor
 ·rintro ⟨n,hn⟩;simp only [dm] at hn;split at hn
  ·rename_i st' he;rw [(d0 T _ _ _).2 ⟨n,he⟩]; exact hn
  ·rename_i hne;rw [(d0 T _ _ _).2 ⟨n,hn⟩];split
   ·rename_i st' he; cases he; exact absurd hn (hne _)
   ·rfl
 ·intro h;split at h
  ·rename_i st' he;obtain ⟨n,hn⟩:=(d0 T _ _ _).1 he;refine ⟨n,?_⟩;simp only [dm];rw [hn]; exact h
  ·rename_i hne;obtain ⟨n,hn⟩:=(d0 T _ _ _).1 h;refine ⟨n,?_⟩;simp only [dm];rw [hn];split
   ·rename_i st' he; cases he; exact absurd h (hne _)
   ·rfl
theorem xCode_loop (c:ACode) (st:St):jb T (.loop c) st=match jb T c st with
  | some (.normal,st')=>jb T (.loop c) st'
  | r=>r:=by
 apply wp;intro r;rw [d0];constructor
 ·rintro ⟨n,hn⟩;cases n with
  | zero=>simp [dm,loopN] at hn
  | succ n =>
   simp only [dm,loopN] at hn;split at hn
   ·rename_i st' he;rw [(d0 T _ _ _).2 ⟨n+1,he⟩];refine (d0 T _ _ _).2 ⟨n+1,?_⟩;exact rb (fun _=>Le.refl _) n (n+1) st' (by omega) r hn
   ·rename_i hne;rw [(d0 T _ _ _).2 ⟨n+1,hn⟩];split
    ·rename_i st' he; cases he; exact absurd hn (hne _)
    ·rfl
 ·intro h;split at h
  ·rename_i st' he;obtain ⟨n,hn⟩:=(d0 T _ _ _).1 he;obtain ⟨m,hm⟩:=(d0 T _ _ _).1 h;refine ⟨n+m+1,?_⟩;simp only [dm,loopN];rw [lift T hn (by omega)];exact rb (fun st=>j7 (gt T (by omega)) (by omega) c st) m (n+m) st' (by omega) r hm
  ·rename_i hne;obtain ⟨n,hn⟩:=(d0 T _ _ _).1 h;refine ⟨n+1,?_⟩;simp only [dm,loopN];rw [lift T hn (by omega)];split
   ·rename_i st' he; cases he; exact absurd h (hne _)
   ·rfl
theorem y5 (f:Opd) (g:Nat) (caps ps:List Nat) (a b:ACode) (st:St):jb T (.rangeFunc f g caps ps a b) st=match f.ev st.s,capsOf st.s caps with
  | some fv,some sl=>match callVal (xCall T) fv [.yield st.h.size] (st.h.push (.loop g .ready none sl)) with
   | some (_,h')=>loopEnd st.s h' st.h.size
   | none=>none
  | _,_=>none:=by
 apply wp;intro r;rw [d0]
 have le:∀ {c d:CallSem},CallLe c d→∀ f aZ h,Le (callVal c f aZ h) (callVal d f aZ h):=by
  intro c d hcd f aZ h x hx;unfold callVal at hx ⊢;split at hx
  ·exact hcd _ _ _ _ hx
  ·cases hx
 constructor
 ·rintro ⟨n,hn⟩;simp only [dm] at hn;split at hn
  ·rename_i fv sl h1 h2;rw [h1,h2];simp only;split at hn
   ·rename_i x h' he;rw [le (xq T n) _ _ _ _ he]; exact hn
   ·cases hn
  ·cases hn
 ·intro h;split at h
  ·rename_i fv sl h1 h2;split at h
   ·rename_i x h' he
    have:∃ n,callVal (e7 T n) fv [.yield st.h.size] (st.h.push (.loop g .ready none sl))=some (x,h'):=by
     unfold callVal at he ⊢;split at he
     ·exact (kh T _ _ _ _).1 he
     ·cases he
    obtain ⟨n,hn⟩:=this;exact ⟨n,by simp only [dm,h1,h2,hn]; exact h⟩
   ·cases h
  ·cases h
noncomputable def xFunc (f:AFunc) (args:List AVal) (h:Heap):Option (AVal × Heap) :=
 if args.length=f.nargs then outcome f h (jb T f.body ⟨enter 0 args,{ h with wmin:=h.size }⟩) else none
theorem wu (f:AFunc) (args:List AVal) (h:Heap) (r:AVal × Heap) (hw:f.wild=false):xFunc T f args h=some r ↔ ∃ n,evFunc (e7 T n) n f args h=some r:=by
 unfold xFunc;constructor
 ·intro h1;split at h1
  ·rename_i hl;cases hx:jb T f.body ⟨enter 0 args,{ h with wmin:=h.size }⟩ with
   | none=>rw [hx] at h1; simp [outcome] at h1
   | some x =>
    obtain ⟨n,hn⟩:=(d0 T _ _ _).1 hx;refine ⟨n,?_⟩;rw [evFunc_eq _ _ _ _ _ hw,if_pos hl,hn,← hx]; exact h1
  ·simp at h1
 ·rintro ⟨n,hn⟩;rw [evFunc_eq _ _ _ _ _ hw] at hn;split at hn
  ·rename_i hl;rw [if_pos hl];exact outcome_mono _ _ (fun r hr=>(d0 T _ _ _).2 ⟨n,hr⟩) r hn
  ·simp at hn
theorem ou {g:Nat} {f:AFunc} (hT:T g=some f) (args:List AVal) (h:Heap) (hr:f.round=none:=by rfl) (hw:f.wild=false:=by rfl):xCall T g args h=wrapC f.closed (xFunc T f) args h:=by
 apply wp;intro r;rw [kh];constructor
 ·rintro ⟨n,hn⟩;cases n with
  | zero=>simp [e7] at hn
  | succ n =>
   simp only [e7,hT,hr] at hn;exact ui (fun args h r hr=>(wu T f args h r hw).2 ⟨n,hr⟩) _ _ _ _ hn
 ·intro h1
  have key:∃ n,wrapC f.closed (evFunc (e7 T n) n f) args h=some r:=by
   cases hc:f.closed with
   | false =>
    rw [hc] at h1;exact (wu T f args h r hw).1 h1
   | true =>
    rw [hc] at h1;simp only [wrapC,evClosed,if_true] at h1 ⊢;split at h1
    ·rename_i hu;split at h1
     ·rename_i v h' he;obtain ⟨n,hn⟩:=(wu T f args _ _ hw).1 he;refine ⟨n,?_⟩;rw [if_pos hu,hn]; exact h1
     ·cases h1
    ·cases h1
  obtain ⟨n,hn⟩:=key;refine ⟨n+1,?_⟩;simp only [e7,hT,hr]; exact hn
noncomputable def xRound (g:Nat) (r:ARound) (args:List AVal) (h:Heap):Option (AVal × Heap) :=
 match args with
 | .ptr (some (i,_)) :: aZ =>
  if aZ.length=r.params.length∧h.base≤i then match ol i r.params aZ h with
   | some s=>match my g i (jb T r.assign ⟨s,{ h with wmin:=h.size }⟩) with
    | some st=>roundOut h g i (jb T r.body st)
    | none=>none
   | none=>none
  else none
 | _=>none
theorem xRound_eq {g:Nat} {f:AFunc} {rd:ARound} (hT:T g=some f) (hr:f.round=some (.round rd)) (args:List AVal) (h:Heap):xCall T g args h=xRound T g rd args h:=by
 apply wp;intro r;rw [kh];constructor
 ·rintro ⟨n,hn⟩;cases n with
  | zero=>simp [e7] at hn
  | succ n =>
   simp only [e7,hT,hr] at hn;unfold evRound at hn;unfold xRound;split at hn
   ·simp only;split at hn
    ·rename_i h1;rw [if_pos h1];split at hn
     ·rename_i hs;rw [hs];simp only;split at hn
      ·rename_i st he;rw [rc (fun x hx=>(d0 T _ _ _).2 ⟨n,hx⟩) _ he];exact qa (fun x hx=>(d0 T _ _ _).2 ⟨n,hx⟩) _ hn
      ·cases hn
     ·cases hn
    ·cases hn
   ·cases hn
 ·intro h1;unfold xRound at h1;split at h1
  ·rename_i i k aZ;split at h1
   ·rename_i hl;split at h1
    ·rename_i s hs;split at h1
     ·rename_i st he
      have e1:∃ n,my g i (dm (e7 T n) n rd.assign ⟨s,{ h with wmin:=h.size }⟩)=some st:=by
       cases hx:jb T rd.assign ⟨s,{ h with wmin:=h.size }⟩ with
       | none=>rw [hx] at he; simp [my] at he
       | some x =>
        obtain ⟨n,hn⟩:=(d0 T _ _ _).1 hx;exact ⟨n,by rw [hn,← hx]; exact he⟩
      have e2:∃ n,roundOut h g i (dm (e7 T n) n rd.body st)=some r:=by
       cases hx:jb T rd.body st with
       | none=>rw [hx] at h1; simp [roundOut] at h1
       | some x =>
        obtain ⟨n,hn⟩:=(d0 T _ _ _).1 hx;exact ⟨n,by rw [hn,← hx]; exact h1⟩
      obtain ⟨n,hn⟩:=e1;obtain ⟨m,hm⟩:=e2;refine ⟨n+m+1,?_⟩;simp only [e7,hT,hr,evRound,if_pos hl,hs];rw [rc (j7 (gt T (show n≤n+m by omega)) (show n≤n+m by omega) _ _) _ hn];exact qa (j7 (gt T (show m≤n+m by omega)) (show m≤n+m by omega) _ _) _ hm
     ·cases h1
    ·cases h1
   ·cases h1
  ·cases h1
theorem xLib_eq' {g:Nat} {f:AFunc} {F:List AVal→Heap→Option (AVal × List (Nat × AObj) × List AObj)} (hT:T g=some f) (args:List AVal) (h:Heap) (hr:f.round=some (.lib F):=by rfl):xCall T g args h=(F args h).map fun r=>(r.1,h.puts r.2.1 r.2.2):=by
 apply wp;intro r;rw [kh];constructor
 ·rintro ⟨n,hn⟩;cases n with
  | zero=>simp [e7] at hn
  | succ n =>
   simp only [e7,hT,hr] at hn;exact hn
 ·intro h1;refine ⟨1,?_⟩;simp only [e7,hT,hr];exact h1
theorem xLib_eq {g:Nat} {f:AFunc} {F:List AVal→Heap→Option AVal} (hT:T g=some f) (args:List AVal) (h:Heap) (hr:f.round=some (.lib (pureF F)):=by rfl):xCall T g args h=(F args h).map fun v=>(v,h):=by rw [xLib_eq' T hT args h hr];unfold pureF;cases F args h <;> rfl
theorem AVal.eqb_refl:(∀ a:AVal,a.eqb a=true)∧∀ l:List AVal,AVal.eqbL l l=true:=by
 have h:∀ n,(∀ a:AVal,SizeOf.sizeOf a < n→a.eqb a=true)∧∀ l:List AVal,SizeOf.sizeOf l < n→AVal.eqbL l l=true:=by
  intro n;induction n with
  | zero=>exact ⟨fun a h=>absurd h (Nat.not_lt_zero _),fun l h=>absurd h (Nat.not_lt_zero _)⟩
  | succ n ih =>
   constructor
   ·intro a h;cases a <;> simp only [AVal.eqb,decide_true,Bool.and_self,beq_self_eq_true,Bool.true_and]
    ·rename_i g f c;simp at h;rw [ih.2 f (by omega),ih.2 c (by omega)]; rfl
    ·rename_i t v;simp at h;exact ih.1 v (by omega)
    ·rename_i l;simp at h;exact ih.2 l (by omega)
    ·rename_i l;simp at h;exact ih.2 l (by omega)
   ·intro l h;cases l with
    | nil=>rfl
    | cons a l =>
     simp at h;simp only [AVal.eqbL,ih.1 a (by omega),ih.2 l (by omega),Bool.and_self]
 exact ⟨fun a=>(h (SizeOf.sizeOf a+1)).1 a (Nat.lt_succ_self _),fun l=>(h (SizeOf.sizeOf l+1)).2 l (Nat.lt_succ_self _)⟩
theorem eqbE_refl:∀ l:List (AVal × AVal × Nat),eqbE l l=true
 | []=>rfl
 | (k,v,b) :: r=>by simp [eqbE,AVal.eqb_refl.1,eqbE_refl r]
theorem eqbS_refl:∀ l:List (Nat × AVal),eqbS l l=true
 | []=>rfl
 | (k,v) :: r=>by simp [eqbS,AVal.eqb_refl.1,eqbS_refl r]
theorem AObj.eqb_refl (o:AObj):o.eqb o=true:=by cases o <;> simp [AObj.eqb,AVal.eqb_refl.2,eqbE_refl,eqbS_refl]
theorem eqbO_refl:∀ l:List AObj,eqbO l l=true
 | []=>rfl
 | o :: r=>by simp [eqbO,AObj.eqb_refl,eqbO_refl r]
theorem eqbR_refl (x:AVal × Heap):eqbR x x=true:=by simp [eqbR,AVal.eqb_refl.1,eqbO_refl]
theorem allSame_of {l:List (Option (AVal × Heap))} {r:AVal × Heap} (hne:l≠[]) (h:∀ x ∈ l,x=some r):allSame l=some r:=by
 cases l with
 | nil=>exact absurd rfl hne
 | cons x l =>
  rw [h x (bg ..)];simp only [allSame];rw [if_pos];rw [au];intro y hy;rw [h y (bj _ hy)];exact eqbR_refl r
theorem xCall_wild {g:Nat} {f:AFunc} (hT:T g=some f) {args:List AVal} {h:Heap} (hr:f.round=none) (hc:f.closed=false) (hw:f.wild=true) (hl:args.length=f.nargs) {n:Nat} {l:List (AExit × St)}
  (e:fm (e7 T n) n f.body ⟨enter 0 args,{ h with wmin:=h.size }⟩=some l) (hne:l≠[]) {r:AVal × Heap} (hall:∀ x ∈ l,funcEnd f h x=some r):xCall T g args h=some r:=by
 rw [kh];refine ⟨n+1,?_⟩;simp only [e7,hT,hr,hc,wrapC,de,if_false,evFunc,if_pos hl,hw,if_true,e];refine allSame_of (by simpa using hne) fun x hx=>?_
 rw [cq] at hx;obtain ⟨y,hy,rfl⟩:=hx;exact hall y hy
end
end Go.Abs

namespace Go.Abs
theorem AVal.eqb_eq:∀ n,(∀ a b:AVal,SizeOf.sizeOf a < n→a.eqb b=true→a=b)∧∀ l m:List AVal,SizeOf.sizeOf l < n→AVal.eqbL l m=true→l=m:=by
 intro n;induction n with
 | zero=>exact ⟨fun a _ h=>absurd h (Nat.not_lt_zero _),fun l _ h=>absurd h (Nat.not_lt_zero _)⟩
 | succ n ih =>
  constructor
  ·intro a b h e;cases a <;> cases b <;> simp only [AVal.eqb,a7,decide_eq_true_eq,beq_iff_eq,de] at e
   ·rw [e]
   ·rw [e.1,e.2]
   ·rw [e]
   ·rw [e]
   ·rw [e.1.1,e.1.2,e.2]
   ·rw [e]
   ·simp at h;rw [e.1.1,ih.2 _ _ (by omega) e.1.2,ih.2 _ _ (by omega) e.2]
   ·rfl
   ·simp at h;rw [e.1,ih.1 _ _ (by omega) e.2]
   ·rfl
   ·simp at h;rw [ih.2 _ _ (by omega) e]
   ·simp at h;rw [ih.2 _ _ (by omega) e]
   ·rw [e]
  ·intro l m h e;cases l <;> cases m <;> simp only [AVal.eqbL,a7,de] at e
   ·rfl
   ·simp at h;rw [ih.1 _ _ (by omega) e.1,ih.2 _ _ (by omega) e.2]
theorem AVal.eq_of {a b:AVal} (h:a.eqb b=true):a=b:=(AVal.eqb_eq (SizeOf.sizeOf a+1)).1 a b (Nat.lt_succ_self _) h
theorem AVal.eqL_of {a b:List AVal} (h:AVal.eqbL a b=true):a=b:=(AVal.eqb_eq (SizeOf.sizeOf a+1)).2 a b (Nat.lt_succ_self _) h
theorem cellEq_of {a b:AObj} (h:cellEqb a b=true):a=b:=by
 cases a <;> cases b <;> simp only [cellEqb,de,a7,decide_eq_true_eq] at h
 rw [h.1,AVal.eqL_of h.2]
theorem sameAt_eq {A B:List AObj} {i:Nat} (h:sameAt A B i=true):B[i]? = A[i]?:=by
 unfold sameAt at h;split at h
 ·rename_i a b h1 h2;rw [h1,h2,cellEq_of h]
 ·cases h
end Go.Abs

namespace Go.Abs
structure M where
 blk:Nat
 base:Nat
 size:Nat
 esz:Nat
abbrev MM:=List (Option M)
def ARel (μ:MM) (i o:Nat) (a:Addr):Prop:=∃ x,μ[i]? = some x∧∀ m,x=some m→a=⟨m.blk,m.base+o,none⟩
mutual
def VRel (E:Env) (μ:MM):AVal→Value→Prop
 | .bool b,v=>v = .bool b
 | .int k n,v=>v = .int k n
 | .str s,v=>v = .string ⟨s.toArray⟩
 | .ptr none,v=>v = .pointer none
 | .ptr (some (i,o)),v=>∃ a,v = .pointer (some a)∧ARel μ i o a
 | .slice none n c,v=>n=0∧c=some 0∧v = .slice none 0 0
 | .slice (some (i,o)) n c,v=>∃ a cap,v = .slice (some a) n cap∧(i < μ.length∧cap≤9223372036854775807)∧(0 < cap→ARel μ i o a)∧(∀ k,c=some k→cap=k)∧n≤cap ∧
   (∀ m,μ[i]? = some (some m)→m.base+o+cap*m.esz≤m.size)
 | .map none,v=>v = .map none
 | .map (some i),v=>∃ b x,v = .map (some b)∧μ[i]? = some x∧∀ m,x=some m→b=m.blk
 | .func g f c,v=>∃ fid f' c',v = .func (.func fid) f' c'∧E.gid fid=some g∧VRels E μ f f'.toList∧VRels E μ c c'.toList
 | .nilFunc,v=>v = .nilFunc
 | .iface _ _,_=>False
 | .nilIface,v=>v = .nilIface
 | .agg cs,v=>∃ cs',v = .agg cs'∧VRels E μ cs cs'.toList∧∀ x ∈ cs,x.isOne=true
 | .tuple vs,v=>∃ vs',v = .tuple vs'∧VRels E μ vs vs'.toList
 | .yield i,v=>∃ l x,v = .func (.yield l) #[] #[]∧μ[i]? = some x∧∀ m,x=some m→l=m.blk
def VRels (E:Env) (μ:MM):List AVal→List Value→Prop
 | [],l=>l=[]
 | a :: aZ,l=>∃ v r,l=v :: r∧VRel E μ a v∧VRels E μ aZ r
end
section
variable {E:Env} {μ μ':MM}
theorem VRels.length:∀ {aZ:List AVal} {l:List Value},VRels E μ aZ l→aZ.length=l.length
 | [],l,h=>by simp only [VRels] at h; subst h; rfl
 | a :: aZ,l,h=>by simp only [VRels] at h;obtain ⟨v,r,rfl,_,h2⟩:=h;simp [VRels.length h2]
theorem VRels.get:∀ {aZ:List AVal} {l:List Value},VRels E μ aZ l→∀ {k:Nat} {a:AVal},aZ[k]? = some a→∃ v,l[k]? = some v∧VRel E μ a v
 | [],l,_,k,a,hk=>by simp at hk
 | x :: aZ,l,h,0,a,hk=>by simp only [VRels] at h;obtain ⟨v,r,rfl,h1,_⟩:=h;simp at hk; subst hk;exact ⟨v,rfl,h1⟩
 | x :: aZ,l,h,k+1,a,hk=>by simp only [VRels] at h;obtain ⟨v,r,rfl,_,h2⟩:=h;simp at hk;obtain ⟨u,hu,hr⟩:=VRels.get h2 hk;exact ⟨u,by simpa using hu,hr⟩
theorem VRels.of:∀ {aZ:List AVal} {l:List Value},aZ.length=l.length→(∀ (k:Nat) (a:AVal),aZ[k]? = some a→∃ v:Value,l[k]? = some v∧VRel E μ a v)→VRels E μ aZ l
 | [],l,h,_=>by simp only [VRels];exact cg (by simpa using h.symm)
 | a :: aZ,[],h,_=>by simp at h
 | a :: aZ,v :: l,h,hk=>by
  simp only [VRels];refine ⟨v,l,rfl,?_,VRels.of (by simpa using h) fun k a' hka=>?_⟩
  ·obtain ⟨u,hu,hr⟩:=hk 0 a rfl;simp at hu; subst hu; exact hr
  ·obtain ⟨u,hu,hr⟩:=hk (k+1) a' (by simpa using hka);exact ⟨u,by simpa using hu,hr⟩
theorem VRels.append {aZ bs:List AVal} {l r:List Value} (h1:VRels E μ aZ l) (h2:VRels E μ bs r):VRels E μ (aZ++bs) (l++r):=by
 induction aZ generalizing l with
 | nil=>simp only [VRels] at h1; subst h1; simpa using h2
 | cons a aZ ih =>
  simp only [VRels] at h1;obtain ⟨v,t,rfl,hv,ht⟩:=h1;simp only [d7,VRels];exact ⟨v,t++r,rfl,hv,ih ht⟩
structure Later (μ μ':MM):Prop where
 len:μ.length≤μ'.length
 old:∀ i,i < μ.length→μ'[i]? = μ[i]?∨μ'[i]? = some none
theorem Later.refl (μ:MM):Later μ μ:=⟨aj _,fun _ _=>.inl rfl⟩
theorem ah {α:Type} {l:List α} {i:Nat} {x:α} (h:l[i]? = some x):i < l.length:=by
 rcases bi i l.length with h1 | h1
 ·exact h1
 ·rw [bv h1] at h; cases h
theorem Later.get (h:Later μ μ') {i:Nat} {x:Option M} (hi:μ[i]? = some x):μ'[i]? = some x∨μ'[i]? = some none:=by
 rcases h.old i (ah hi) with h1 | h1
 ·exact .inl (h1.trans hi)
 ·exact .inr h1
theorem Later.back (h:Later μ μ') {i:Nat} {m:M} (hl:i < μ.length) (hi:μ'[i]? = some (some m)):μ[i]? = some (some m):=by
 rcases h.old i hl with h1 | h1
 ·exact h1.symm.trans hi
 ·rw [hi] at h1; cases h1
theorem ARel.later (h:Later μ μ') {i o:Nat} {a:Addr} (ha:ARel μ i o a):ARel μ' i o a:=by
 obtain ⟨x,hx,hm⟩:=ha;rcases h.get hx with h1 | h1
 ·exact ⟨x,h1,hm⟩
 ·exact ⟨none,h1,fun m hm=>by cases hm⟩
mutual
theorem VRel.later (h:Later μ μ'):∀ {a:AVal} {v:Value},VRel E μ a v→VRel E μ' a v
 | .bool b,v,hv=>by simpa only [VRel] using hv
 | .int k n,v,hv=>by simpa only [VRel] using hv
 | .str s,v,hv=>by simpa only [VRel] using hv
 | .ptr none,v,hv=>by simpa only [VRel] using hv
 | .ptr (some (i,o)),v,hv=>by simp only [VRel] at hv ⊢;obtain ⟨a,ha,hr⟩:=hv;exact ⟨a,ha,hr.later h⟩
 | .slice none n c,v,hv=>by simpa only [VRel] using hv
 | .slice (some (i,o)) n c,v,hv=>by simp only [VRel] at hv ⊢;obtain ⟨a,cap,ha,hi,hr,h1,h2,h3⟩:=hv;exact ⟨a,cap,ha,⟨fg hi.1 h.len,hi.2⟩,fun hc=>(hr hc).later h,h1,h2,fun m hm=>h3 m (h.back hi.1 hm)⟩
 | .map none,v,hv=>by simpa only [VRel] using hv
 | .map (some i),v,hv=>by
  simp only [VRel] at hv ⊢;obtain ⟨b,x,ha,hx,hm⟩:=hv;rcases h.get hx with h1 | h1
  ·exact ⟨b,x,ha,h1,hm⟩
  ·exact ⟨b,none,ha,h1,fun m hm=>by cases hm⟩
 | .func g f c,v,hv=>by simp only [VRel] at hv ⊢;obtain ⟨fid,f',c',e,hg,h1,h2⟩:=hv;exact ⟨fid,f',c',e,hg,VRels.later h h1,VRels.later h h2⟩
 | .nilFunc,v,hv=>by simpa only [VRel] using hv
 | .iface _ _,v,hv=>by simp only [VRel] at hv
 | .nilIface,v,hv=>by simpa only [VRel] using hv
 | .agg cs,v,hv=>by simp only [VRel] at hv ⊢;obtain ⟨cs',e,h1,h2⟩:=hv;exact ⟨cs',e,VRels.later h h1,h2⟩
 | .tuple vs,v,hv=>by simp only [VRel] at hv ⊢;obtain ⟨cs',e,h1⟩:=hv;exact ⟨cs',e,VRels.later h h1⟩
 | .yield i,v,hv=>by
  simp only [VRel] at hv ⊢;obtain ⟨b,x,ha,hx,hm⟩:=hv;rcases h.get hx with h1 | h1
  ·exact ⟨b,x,ha,h1,hm⟩
  ·exact ⟨b,none,ha,h1,fun m hm=>by cases hm⟩
theorem VRels.later (h:Later μ μ'):∀ {aZ:List AVal} {l:List Value},VRels E μ aZ l→VRels E μ' aZ l
 | [],l,hl=>by simpa only [VRels] using hl
 | a :: aZ,l,hl=>by simp only [VRels] at hl ⊢;obtain ⟨v,r,e,h1,h2⟩:=hl;exact ⟨v,r,e,VRel.later h h1,VRels.later h h2⟩
end
theorem toA1_rel {v:Value} {a:AVal} (h:toA1 v=some a) (μ:MM):VRel E μ a v∧a.isOne=true:=by unfold toA1 at h;split at h <;> cases h <;> simp [VRel,AVal.isOne]
theorem td:∀ {l:List Value} {aZ:List AVal},toAs l=some aZ→∀ μ:MM,VRels E μ aZ l∧∀ x ∈ aZ,x.isOne=true
 | [],aZ,h,μ=>by simp only [toAs] at h; cases h; simp [VRels]
 | v :: r,aZ,h,μ=>by
  simp only [toAs] at h;split at h
  ·rename_i a aZ' h1 h2;cases h;obtain ⟨k1,k2⟩:=toA1_rel (E:=E) h1 μ;obtain ⟨k3,k4⟩:=td h2 μ;refine ⟨?_,?_⟩
   ·simp only [VRels]; exact ⟨v,r,rfl,k1,k3⟩
   ·intro x hx;rcases dy.1 hx with rfl | hx
    ·exact k2
    ·exact k4 x hx
  ·simp at h
theorem toA_rel {v:Value} {a:AVal} (h:toA v=some a) (μ:MM):VRel E μ a v:=by
 unfold toA at h;split at h
 ·rename_i cs;rw [ae] at h;obtain ⟨aZ,h1,rfl⟩:=h;obtain ⟨k1,k2⟩:=td (E:=E) h1 μ;simp only [VRel];exact ⟨cs,rfl,k1,k2⟩
 ·exact (toA1_rel h μ).1
theorem qn {a:AVal} {v:Value} {aZ:List AVal} (h:VRel E μ a v) (hc:a.cells? = some aZ) :
  VRels E μ aZ v.cells.toList∧∀ x ∈ aZ,x.isOne=true:=by
 have one:∀ {a:AVal} {v:Value},a.isOne=true→v.cells = #[v]→VRel E μ a v→VRels E μ [a] v.cells.toList∧∀ x ∈ [a],x.isOne=true:=by
  intro a v h1 h2 h3;rw [h2];refine ⟨?_,?_⟩
  ·simp only [VRels]; exact ⟨v,[],rfl,h3,rfl⟩
  ·intro x hx; rw [bq] at hx; subst hx; exact h1
 cases a with
 | agg cs =>
  simp only [AVal.cells?] at hc; cases hc;simp only [VRel] at h;obtain ⟨cs',rfl,h1,h2⟩:=h;exact ⟨h1,h2⟩
 | tuple vs=>simp [AVal.cells?] at hc
 | iface t x=>simp only [VRel] at h
 | bool b=>simp only [AVal.cells?] at hc; cases hc; exact one rfl (by simp only [VRel] at h; subst h; rfl) h
 | int k n=>simp only [AVal.cells?] at hc; cases hc; exact one rfl (by simp only [VRel] at h; subst h; rfl) h
 | str s=>simp only [AVal.cells?] at hc; cases hc; exact one rfl (by simp only [VRel] at h; subst h; rfl) h
 | yield i=>simp only [AVal.cells?] at hc; cases hc; exact one rfl (by simp only [VRel] at h; obtain ⟨_,_,rfl,_⟩:=h; rfl) h
 | nilFunc=>simp only [AVal.cells?] at hc; cases hc; exact one rfl (by simp only [VRel] at h; subst h; rfl) h
 | nilIface=>simp only [AVal.cells?] at hc; cases hc; exact one rfl (by simp only [VRel] at h; subst h; rfl) h
 | ptr a =>
  simp only [AVal.cells?] at hc; cases hc;refine one rfl ?_ h;cases a with
  | none=>simp only [VRel] at h; subst h; rfl
  | some p=>simp only [VRel] at h; obtain ⟨_,rfl,_⟩:=h; rfl
 | slice a n c =>
  simp only [AVal.cells?] at hc; cases hc;refine one rfl ?_ h;cases a with
  | none=>simp only [VRel] at h; obtain ⟨_,_,rfl⟩:=h; rfl
  | some p=>simp only [VRel] at h; obtain ⟨_,_,rfl,_⟩:=h; rfl
 | map a =>
  simp only [AVal.cells?] at hc; cases hc;refine one rfl ?_ h;cases a with
  | none=>simp only [VRel] at h; subst h; rfl
  | some p=>simp only [VRel] at h; obtain ⟨_,_,rfl,_⟩:=h; rfl
 | func g f c =>
  simp only [AVal.cells?] at hc; cases hc;refine one rfl ?_ h;simp only [VRel] at h; obtain ⟨_,_,_,rfl,_⟩:=h; rfl
theorem one_rel {a:AVal} {v:Value} (h:VRel E μ a v) (hc:a.isOne=true):¬ (∃ x,v = .agg x)∧¬ (∃ x,v = .tuple x):=by
 cases a with
 | agg cs=>simp [AVal.isOne] at hc
 | tuple vs=>simp [AVal.isOne] at hc
 | iface t x=>simp only [VRel] at h
 | ptr a=>cases a <;> simp only [VRel] at h <;> (first | (subst h; simp) | (obtain ⟨_,rfl,_⟩:=h; simp))
 | slice a n c=>cases a <;> simp only [VRel] at h <;> (first | (obtain ⟨_,_,rfl⟩:=h; simp) | (obtain ⟨_,_,rfl,_⟩:=h; simp))
 | map a=>cases a <;> simp only [VRel] at h <;> (first | (subst h; simp) | (obtain ⟨_,_,rfl,_⟩:=h; simp))
 | func g f c=>simp only [VRel] at h; obtain ⟨_,_,_,rfl,_⟩:=h; simp
 | yield i=>simp only [VRel] at h; obtain ⟨_,_,rfl,_⟩:=h; simp
 | _=>simp only [VRel] at h; subst h; simp
end
def CRel (E:Env) (μ:MM) (cs:List AVal) (c:Array Value) (base:Nat):Prop :=
 ∀ (k:Nat) (v:AVal),cs[k]? = some v→v.isOne=true∧∃ v':Value,c[base+k]? = some v'∧VRel E μ v v'
def Free (k:Nat) (fr:Nat × Nat) (n:Nat):Prop:=fr.1≤fr.2∧∀ off,off < n+k→¬ (fr.1≤off∧off < fr.2)
theorem Free.lt {k:Nat} {fr:Nat × Nat} {n:Nat} (h:Free k fr n):∀ off,off < n→¬ (fr.1≤off∧off < fr.2):=fun off ho=>h.2 off (by omega)
def LoopSt.is:LoopSt→LoopState→Prop
 | .ready,s=>s = .ready
 | .busy,s=>s = .busy
 | .done,s=>s = .done
def AExit.code:AExit→Code
 | .normal=>.skip
 | .exit id=>.exit id
 | .ret=>.ret
structure LoopRel (E:Env) (μ:MM) (g:Nat) (st:LoopSt) (p:Option AExit) (sl:List (Nat × AVal)) (r:Loop):Prop where
 code:∃ (ar:ARound) (ha hb:Hint),E.rnd g=some ar∧r.params.toList=ar.params∧(∀ t ∈ ar.params,t < r.tmps.size)∧cj E r.tmps.size true ha r.assign=some ar.assign∧cj E r.tmps.size true hb r.body=some ar.body
 st:st.is r.state
 pend:r.pending=p.map AExit.code
 slots:∀ (k:Nat) (x:Nat × AVal),sl[k]? = some x→∃ v',r.tmps[x.1]? = some v'∧VRel E μ x.2 v'
theorem LoopRel.later {E:Env} {μ μ':MM} {g:Nat} {st:LoopSt} {p:Option AExit} {sl:List (Nat × AVal)} {r:Loop} (hl:Later μ μ') (h:LoopRel E μ g st p sl r):LoopRel E μ' g st p sl r :=
 ⟨h.code,h.st,h.pend,fun k x hk=>by obtain ⟨v',h1,h2⟩:=h.slots k x hk; exact ⟨v',h1,h2.later hl⟩⟩
def ORel (E:Env) (μ:MM) (b:Nat) (i:Nat) (w:World):AObj→Prop
 | .dead=>μ[i]? = some none
 | .cells esz cs=>∃ (m:M) (c:Array Value) (e:TypeId) (fr:Nat × Nat),μ[i]? = some (some m)∧m.esz=esz∧w.heap[m.blk]? = some (.cells c e fr)∧c.size=m.size∧m.base+cs.length≤m.size ∧
   CRel E μ cs c m.base∧(b≤i→Free E.room fr m.size)
 | .map es clock=>∃ (m:M) (es':Array MapEntry),μ[i]? = some (some m)∧w.heap[m.blk]? = some (.map es' clock)∧es'.size=es.length ∧
   ∀ (k:Nat) (x:AVal × AVal × Nat),es[k]? = some x→∃ y:MapEntry,es'[k]? = some y∧VRel E μ x.1 y.key∧VRel E μ x.2.1 y.val∧y.born=x.2.2
 | .iter s pos=>∃ m:M,μ[i]? = some (some m)∧w.heap[m.blk]? = some (.stringIter ⟨s.toArray⟩ pos)
 | .mapIter r since seen last=>∃ (m:M) (r':Option Nat),(μ[i]? = some (some m)∧m.base=0)∧w.heap[m.blk]? = some (.mapIter r' since seen.toArray last)∧VRel E μ (.map r) (.map r')
 | .loop g st p sl=>∃ (m:M) (r:Loop),μ[i]? = some (some m)∧w.heap[m.blk]? = some (.loop r)∧LoopRel E μ g st p sl r
def Tabs (E:Env) (μ:MM) (b:Nat) (w:World):Prop:=E.glob≤w.heap.size∧∀ p ∈ E.tabs,p.1 < E.glob∧(∃ o,w.heap[p.1]? = some o∧p.2 o)∧∀ (i:Nat) (m:M),b≤i→μ[i]? = some (some m)→m.blk≠p.1
theorem Tabs.of {E:Env} {μ μ':MM} {b b':Nat} {w w':World} (h:Tabs E μ b w) (hs:w.heap.size≤w'.heap.size) (hb:∀ k,k < E.glob→k < w.heap.size→(∀ (i:Nat) (m:M),b≤i→μ[i]? = some (some m)→m.blk≠k)→w'.heap[k]? = w.heap[k]?)
  (hm:∀ (i:Nat) (m:M),b'≤i→μ'[i]? = some (some m)→w.heap.size≤m.blk∨∃ (j:Nat) (m0:M),b≤j∧μ[j]? = some (some m0)∧m0.blk=m.blk):Tabs E μ' b' w':=by
 refine ⟨cf h.1 hs,fun p hp=>?_⟩;obtain ⟨h1,⟨o,h2,h3⟩,h4⟩:=h.2 p hp;have hg:=h.1;refine ⟨h1,⟨o,by rw [hb p.1 h1 (by omega) h4]; exact h2,h3⟩,fun i m hi hm'=>?_⟩;rcases hm i m hi hm' with h5 | ⟨j,m0,h5,h6,h7⟩
 ·omega
 ·rw [← h7]; exact h4 j m0 h5 h6
theorem Tabs.less {E:Env} {μ μ':MM} {b b':Nat} {w:World} (h:Tabs E μ b w) (hm:∀ (i:Nat) (m:M),b'≤i→μ'[i]? = some (some m)→∃ (j:Nat) (m0:M),b≤j∧μ[j]? = some (some m0)∧m0.blk=m.blk):Tabs E μ' b' w :=
 h.of (aj _) (fun _ _ _ _=>rfl) fun i m hi h1=>.inr (hm i m hi h1)
structure Rel (E:Env) (μ:MM) (h:Heap) (w:World):Prop where
 len:μ.length=h.objs.length
 bs:h.base≤h.objs.length
 obj:∀ (i:Nat) (o:AObj),h.objs[i]? = some o→ORel E μ h.base i w o
 sep:∀ (i j:Nat) (mi mj:M),i≠j→h.base≤i→μ[i]? = some (some mi)→μ[j]? = some (some mj)→mi.blk≠mj.blk
 lt:∀ (i:Nat) (m:M),μ[i]? = some (some m)→m.blk < w.heap.size
 tab:Tabs E μ h.base w
structure Step (X:Nat→Prop) (wm:Nat) (μ:MM) (w:World) (μ':MM) (w':World):Prop where
 os:w'.os=w.os
 tape:w'.tape=w.tape
 output:w'.output=w.output
 size:w.heap.size≤w'.heap.size
 block:∀ k,k < w.heap.size→¬ X k→(∀ i m,wm≤i→μ[i]? = some (some m)→m.blk≠k)→w'.heap[k]? = w.heap[k]?
 len:μ.length≤μ'.length
 old:∀ i,i < μ.length→μ'[i]? = μ[i]?∨(wm≤i∧μ'[i]? = some none)
 new:∀ i m,μ.length≤i→μ'[i]? = some (some m)→w.heap.size≤m.blk∨∃ r m0,wm≤r∧μ[r]? = some (some m0)∧m0.blk=m.blk
section
variable {E:Env} {X Y:Nat→Prop} {wm wm':Nat} {μ μ' μ'':MM} {w w' w'':World}
theorem Step.refl (X:Nat→Prop) (wm:Nat) (μ:MM) (w:World):Step X wm μ w μ w :=
 ⟨rfl,rfl,rfl,aj _,fun _ _ _ _=>rfl,aj _,fun _ _=>.inl rfl,fun i m h hm=>absurd (ah hm) (by omega)⟩
theorem Step.later (h:Step X wm μ w μ' w'):Later μ μ':=⟨h.len,fun i hi=>(h.old i hi).imp id And.right⟩
theorem Step.trans (h:Step X wm μ w μ' w') (k:Step X wm' μ' w' μ'' w'') (hw:wm'≤wm):Step X wm' μ w μ'' w'' where
 os:=k.os.trans h.os
 tape:=k.tape.trans h.tape
 output:=k.output.trans h.output
 size:=cf h.size k.size
 block:=fun b hb hx hn=>by
  have h1:w'.heap[b]? = w.heap[b]?:=h.block b hb hx fun i m hi hm=>hn i m (cf hw hi) hm
  rw [← h1];refine k.block b (fg hb h.size) hx fun i m hi hm=>?_
  rcases bi i μ.length with hl | hl
  ·exact hn i m hi (h.later.back hl hm)
  ·rcases h.new i m hl hm with h2 | ⟨r,m0,hr,hm0,e⟩
   ·omega
   ·rw [← e]; exact hn r m0 (cf hw hr) hm0
 len:=cf h.len k.len
 old:=fun i hi=>by
  rcases k.old i (fg hi h.len) with h1 | ⟨h1,h2⟩
  ·rcases h.old i hi with h3 | ⟨h3,h4⟩
   ·exact .inl (h1.trans h3)
   ·exact .inr ⟨cf hw h3,h1.trans h4⟩
  ·exact .inr ⟨h1,h2⟩
 new:=fun i m hl hm=>by
  rcases bi i μ'.length with h1 | h1
  ·have h2:μ'[i]? = some (some m):=k.later.back h1 hm;rcases h.new i m hl h2 with h3 | ⟨r,m0,hr,hm0,e⟩
   ·exact .inl h3
   ·exact .inr ⟨r,m0,cf hw hr,hm0,e⟩
  ·rcases k.new i m h1 hm with h3 | ⟨r,m0,hr,hm0,e⟩
   ·exact .inl (cf h.size h3)
   ·rcases bi r μ.length with h4 | h4
    ·exact .inr ⟨r,m0,hr,h.later.back h4 hm0,e⟩
    ·rcases h.new r m0 h4 hm0 with h5 | ⟨r',m1,hr',hm1,e'⟩
     ·exact .inl (by rw [← e]; exact h5)
     ·exact .inr ⟨r',m1,cf hw hr',hm1,e'.trans e⟩
theorem Step.weaken (h:Step X wm μ w μ' w') (hw:wm'≤wm) (hX:∀ b,X b→b < w.heap.size→Y b):Step Y wm' μ w μ' w' where
 os:=h.os
 tape:=h.tape
 output:=h.output
 size:=h.size
 block:=fun b hb hx hn=>h.block b hb (fun hxb=>hx (hX b hxb hb)) fun i m hi hm=>hn i m (cf hw hi) hm
 len:=h.len
 old:=fun i hi=>(h.old i hi).imp id fun ⟨a,b⟩=>⟨cf hw a,b⟩
 new:=fun i m hl hm=>(h.new i m hl hm).imp id fun ⟨r,m0,hr,x⟩=>⟨r,m0,cf hw hr,x⟩
theorem Step.fresh (h:Step X μ.length μ w μ' w') (wm':Nat):Step X wm' μ w μ' w' where
 os:=h.os
 tape:=h.tape
 output:=h.output
 size:=h.size
 block:=fun b hb hx _=>h.block b hb hx fun i m hi hm=>absurd (ah hm) (by omega)
 len:=h.len
 old:=fun i hi=>.inl ((h.old i hi).resolve_right fun ⟨a,_⟩=>by omega)
 new:=fun i m hl hm=>(h.new i m hl hm).imp id fun ⟨r,m0,hr,hm0,_⟩=>absurd (ah hm0) (by omega)
theorem CRel.later {cs:List AVal} {c:Array Value} {b:Nat} (hl:Later μ μ') (h:CRel E μ cs c b):CRel E μ' cs c b:=fun k v hk=>by obtain ⟨h1,v',h2,h3⟩:=h k v hk;exact ⟨h1,v',h2,h3.later hl⟩
theorem ORel.keep {b i:Nat} {o:AObj} (hl:Later μ μ') (h:ORel E μ b i w o) (hm:∀ m,μ[i]? = some (some m)→μ'[i]? = some (some m)∧w'.heap[m.blk]? = w.heap[m.blk]?) :
  ORel E μ' b i w' o:=by
 cases o with
 | dead =>
  rcases hl.get h with h1 | h1 <;> exact h1
 | cells esz cs =>
  obtain ⟨m,c,e,fr,h1,h2,h3,h4,h5,h6,h7⟩:=h;obtain ⟨k1,k2⟩:=hm m h1;exact ⟨m,c,e,fr,k1,h2,k2.trans h3,h4,h5,h6.later hl,h7⟩
 | map es clock =>
  obtain ⟨m,es',h1,h2,h3,h4⟩:=h;obtain ⟨k1,k2⟩:=hm m h1;refine ⟨m,es',k1,k2.trans h2,h3,fun k x hk=>?_⟩;obtain ⟨y,y1,y2,y3,y4⟩:=h4 k x hk;exact ⟨y,y1,y2.later hl,y3.later hl,y4⟩
 | iter s pos =>
  obtain ⟨m,h1,h2⟩:=h;obtain ⟨k1,k2⟩:=hm m h1;exact ⟨m,k1,k2.trans h2⟩
 | mapIter r a b c =>
  obtain ⟨m,r',⟨h1,h0⟩,h2,h3⟩:=h;obtain ⟨k1,k2⟩:=hm m h1;exact ⟨m,r',⟨k1,h0⟩,k2.trans h2,h3.later hl⟩
 | loop g st p sl =>
  obtain ⟨m,r,h1,h2,h3⟩:=h;obtain ⟨k1,k2⟩:=hm m h1;exact ⟨m,r,k1,k2.trans h2,h3.later hl⟩
end
abbrev SlotFn:=Nat→Option Slot
structure Fr where
 v:Nat→Nat
 ds:List Nat
instance:CoeFun Fr (fun _=>Nat→Nat):=⟨Fr.v⟩
structure FRel (E:Env) (lo:Nat) (ν:Fr) (μ:MM) (g:SlotFn) (tmps:Array Value) (w:World):Prop where
 val:∀ (t:Nat) (v:AVal),g t=some (.val v)→∃ v':Value,tmps[t]? = some v'∧VRel E μ v v'
 undef:∀ t:Nat,g t=some .undef→tmps[t]? = some Go.undef
 var:∀ (t:Nat) (cs:List AVal),g t=some (.var cs)→tmps[t]? = some (.pointer (some ⟨ν t,0,none⟩))∧lo≤ν t ∧
  ∃ (c:Array Value) (e:TypeId) (fr:Nat × Nat),w.heap[ν t]? = some (.cells c e fr)∧c.size=cs.length∧CRel E μ cs c 0∧Free 0 fr c.size
 loc:∀ (t t' o:Nat) (cs:List AVal),g t=some (.loc t' o)→g t'=some (.var cs)→tmps[t]? = some (.pointer (some ⟨ν t',o,none⟩))
 sepv:∀ (t t':Nat) (cs cs':List AVal),t≠t'→g t=some (.var cs)→g t'=some (.var cs')→ν t≠ν t'
 sepm:∀ (t:Nat) (cs:List AVal) (i:Nat) (m:M),g t=some (.var cs)→μ[i]? = some (some m)→m.blk≠ν t
 ds:∀ r ∈ ν.ds,lo≤r∧w.heap[r]? = some (.deferred (some []))
 sepd:∀ r ∈ ν.ds,(∀ (i:Nat) (m:M),μ[i]? = some (some m)→m.blk≠r)∧∀ (t:Nat) (cs:List AVal),g t=some (.var cs)→ν t≠r
 nodup:ν.ds.Nodup∧E.glob≤lo
theorem FRel.congr {E:Env} {lo:Nat} {ν:Fr} {μ:MM} {g g':SlotFn} {tmps:Array Value} {w:World} (h:FRel E lo ν μ g tmps w) (hg:∀ t,g' t=g t):FRel E lo ν μ g' tmps w:=by have:g'=g:=funext hg;rw [this]; exact h
theorem FRel.less {E:Env} {lo:Nat} {ν:Fr} {μ:MM} {g g':SlotFn} {tmps:Array Value} {w:World} (h:FRel E lo ν μ g tmps w) (hg:∀ t x,g' t=some x→g t=some x):FRel E lo ν μ g' tmps w where
 val:=fun t v hv=>h.val t v (hg _ _ hv)
 undef:=fun t hv=>h.undef t (hg _ _ hv)
 var:=fun t cs hv=>h.var t cs (hg _ _ hv)
 loc:=fun t t' o cs hv hv'=>h.loc t t' o cs (hg _ _ hv) (hg _ _ hv')
 sepv:=fun t t' cs cs' hn hv hv'=>h.sepv t t' cs cs' hn (hg _ _ hv) (hg _ _ hv')
 sepm:=fun t cs i m hv hm=>h.sepm t cs i m (hg _ _ hv) hm
 ds:=h.ds
 sepd:=fun r hr=>⟨(h.sepd r hr).1,fun t cs hv=>(h.sepd r hr).2 t cs (hg _ _ hv)⟩
 nodup:=h.nodup
section
variable {E:Env} {lo:Nat} {ν:Fr} {μ μ':MM} {g:SlotFn} {tmps:Array Value} {w w':World}
theorem FRel.keep (h:FRel E lo ν μ g tmps w) (hl:Later μ μ') (hb:∀ t cs,g t=some (.var cs)→w'.heap[ν t]? = w.heap[ν t]?)
  (hm:∀ (t:Nat) (cs:List AVal) (i:Nat) (m:M),g t=some (.var cs)→μ.length≤i→μ'[i]? = some (some m)→m.blk≠ν t)
  (hd:∀ r ∈ ν.ds,w'.heap[r]? = w.heap[r]?∧∀ (i:Nat) (m:M),μ.length≤i→μ'[i]? = some (some m)→m.blk≠r):FRel E lo ν μ' g tmps w' where
 val:=fun t v hv=>by obtain ⟨v',h1,h2⟩:=h.val t v hv;exact ⟨v',h1,h2.later hl⟩
 undef:=h.undef
 var:=fun t cs hv=>by obtain ⟨h1,h2,c,e,fr,h3,h4,h5,h6⟩:=h.var t cs hv;exact ⟨h1,h2,c,e,fr,(hb t cs hv).trans h3,h4,h5.later hl,h6⟩
 loc:=h.loc
 sepv:=h.sepv
 sepm:=fun t cs i m hv him=>by
  rcases bi i μ.length with h1 | h1
  ·exact h.sepm t cs i m hv (hl.back h1 him)
  ·exact hm t cs i m hv h1 him
 ds:=fun r hr=>⟨(h.ds r hr).1,(hd r hr).1.trans (h.ds r hr).2⟩
 sepd:=fun r hr=>⟨fun i m him=>by
  rcases bi i μ.length with h1 | h1
  ·exact (h.sepd r hr).1 i m (hl.back h1 him)
  ·exact (hd r hr).2 i m h1 him,(h.sepd r hr).2⟩
 nodup:=h.nodup
theorem FRel.lt_ds (h:FRel E lo ν μ g tmps w) {r:Nat} (hr:r ∈ ν.ds):r < w.heap.size:=ah (l:=w.heap.toList) (by simpa using (h.ds r hr).2)
theorem FRel.lt (h:FRel E lo ν μ g tmps w) {t:Nat} {cs:List AVal} (hv:g t=some (.var cs)):ν t < w.heap.size:=by obtain ⟨_,_,c,e,fr,h3,_⟩:=h.var t cs hv;exact ah (l:=w.heap.toList) (by simpa using h3)
theorem FRel.step {X:Nat→Prop} {wm:Nat} (h:FRel E lo ν μ g tmps w) (hs:Step X wm μ w μ' w') (hX:∀ b,b < w.heap.size→¬ X b):FRel E lo ν μ' g tmps w':=by
 refine h.keep hs.later (fun t cs hv=>hs.block _ (h.lt hv) (hX _ (h.lt hv)) fun i m _ hm=>h.sepm t cs i m hv hm) (fun t cs i m hv hi hm=>?_) fun r hr=>?_
 ·rcases hs.new i m hi hm with h1 | ⟨r,m0,_,hm0,e⟩
  ·have:=h.lt hv; omega
  ·rw [← e]; exact h.sepm t cs r m0 hv hm0
 ·refine ⟨hs.block r (h.lt_ds hr) (hX r (h.lt_ds hr)) fun i m _ hm=>(h.sepd r hr).1 i m hm,fun i m hi hm=>?_⟩;rcases hs.new i m hi hm with h1 | ⟨r',m0,_,hm0,e⟩
  ·have:=h.lt_ds hr; omega
  ·rw [← e]; exact (h.sepd r hr).1 r' m0 hm0
def putT (tmps:Array Value) (d:Option Nat) (v:Value):Array Value :=
 match d with
 | some x=>tmps.setIfInBounds x v
 | none=>tmps
def im (g:SlotFn) (d:Option Nat) (x:Slot):SlotFn:=fun t=>if d=some t then some x else g t
theorem je (d:Option Nat) (x:Slot) (s:Slots) (t:Nat):sget (a8 d x s) t=im (sget s) d x t:=by
 cases d with
 | none=>simp [a8,im]
 | some d=>simp [a8,im,sget]
theorem FRel.setVal (h:FRel E lo ν μ g tmps w) {d:Option Nat} {v:AVal} {v':Value} (hd:∀ x,d=some x→x < tmps.size) (hv:VRel E μ v v') :
  FRel E lo ν μ (im g d (.val v)) (putT tmps d v') w:=by
 cases d with
 | none=>exact h.congr fun t=>by simp [im]
 | some d =>
  have hd:=hd d rfl;show FRel E lo ν μ _ (tmps.setIfInBounds d _) w;have key:∀ t,d≠t→(tmps.setIfInBounds d v')[t]? = tmps[t]?:=fun t ht=>eh ht
  refine ⟨fun t u hu=>?_,fun t hu=>?_,fun t cs hu=>?_,fun t t' o cs hu hu'=>?_,fun t t' cs cs' hn hu hu'=>?_,fun t cs i m hu hm=>?_,h.ds,fun r hr=>⟨(h.sepd r hr).1,fun t cs hu=>?_⟩,h.nodup⟩
  ·by_cases e:d=t
   ·subst e;simp [im] at hu; subst hu;exact ⟨v',by simp [hd],hv⟩
   ·simp [im,e] at hu; rw [key t e]; exact h.val t u hu
  ·by_cases e:d=t
   ·subst e; simp [im] at hu
   ·simp [im,e] at hu; rw [key t e]; exact h.undef t hu
  ·by_cases e:d=t
   ·subst e; simp [im] at hu
   ·simp [im,e] at hu; rw [key t e]; exact h.var t cs hu
  ·by_cases e:d=t
   ·subst e; simp [im] at hu
   ·by_cases e':d=t'
    ·subst e'; simp [im] at hu'
    ·simp [im,e] at hu; simp [im,e'] at hu'; rw [key t e]; exact h.loc t t' o cs hu hu'
  ·by_cases e:d=t
   ·subst e; simp [im] at hu
   ·by_cases e':d=t'
    ·subst e'; simp [im] at hu'
    ·simp [im,e] at hu; simp [im,e'] at hu'; exact h.sepv t t' cs cs' hn hu hu'
  ·by_cases e:d=t
   ·subst e; simp [im] at hu
   ·simp [im,e] at hu; exact h.sepm t cs i m hu hm
  ·by_cases e:d=t
   ·subst e; simp [im] at hu
   ·simp [im,e] at hu; exact (h.sepd r hr).2 t cs hu
theorem FRel.setUndef (h:FRel E lo ν μ g tmps w) {d:Option Nat} (hd:∀ x,d=some x→x < tmps.size) :
  FRel E lo ν μ (im g d .undef) (putT tmps d Go.undef) w:=by
 cases d with
 | none=>exact h.congr fun t=>by simp [im]
 | some d =>
  have hd:=hd d rfl;show FRel E lo ν μ _ (tmps.setIfInBounds d _) w;have key:∀ t,d≠t→(tmps.setIfInBounds d Go.undef)[t]? = tmps[t]?:=fun t ht=>eh ht
  refine ⟨fun t u hu=>?_,fun t hu=>?_,fun t cs hu=>?_,fun t t' o cs hu hu'=>?_,fun t t' cs cs' hn hu hu'=>?_,fun t cs i m hu hm=>?_,h.ds,fun r hr=>⟨(h.sepd r hr).1,fun t cs hu=>?_⟩,h.nodup⟩
  ·by_cases e:d=t
   ·subst e; simp [im] at hu
   ·simp [im,e] at hu; rw [key t e]; exact h.val t u hu
  ·by_cases e:d=t
   ·subst e; simp [hd]
   ·simp [im,e] at hu; rw [key t e]; exact h.undef t hu
  ·by_cases e:d=t
   ·subst e; simp [im] at hu
   ·simp [im,e] at hu; rw [key t e]; exact h.var t cs hu
  ·by_cases e:d=t
   ·subst e; simp [im] at hu
   ·by_cases e':d=t'
    ·subst e'; simp [im] at hu'
    ·simp [im,e] at hu; simp [im,e'] at hu'; rw [key t e]; exact h.loc t t' o cs hu hu'
  ·by_cases e:d=t
   ·subst e; simp [im] at hu
   ·by_cases e':d=t'
    ·subst e'; simp [im] at hu'
    ·simp [im,e] at hu; simp [im,e'] at hu'; exact h.sepv t t' cs cs' hn hu hu'
  ·by_cases e:d=t
   ·subst e; simp [im] at hu
   ·simp [im,e] at hu; exact h.sepm t cs i m hu hm
  ·by_cases e:d=t
   ·subst e; simp [im] at hu
   ·simp [im,e] at hu; exact (h.sepd r hr).2 t cs hu
theorem FRel.setLoc (h:FRel E lo ν μ g tmps w) {d u o:Nat} (hd:d < tmps.size) :
  FRel E lo ν μ (im g (some d) (.loc u o)) (tmps.setIfInBounds d (.pointer (some ⟨ν u,o,none⟩))) w:=by
 have key:∀ t,d≠t→(tmps.setIfInBounds d (.pointer (some ⟨ν u,o,none⟩)))[t]? = tmps[t]?:=fun t ht=>eh ht
 refine ⟨fun t x hx=>?_,fun t hx=>?_,fun t cs hx=>?_,fun t t' o' cs hx hx'=>?_,fun t t' cs cs' hn hx hx'=>?_,fun t cs i m hx hm=>?_,h.ds,fun r hr=>⟨(h.sepd r hr).1,fun t cs hx=>?_⟩,h.nodup⟩
 ·by_cases e:d=t
  ·subst e; simp [im] at hx
  ·simp [im,e] at hx; rw [key t e]; exact h.val t x hx
 ·by_cases e:d=t
  ·subst e; simp [im] at hx
  ·simp [im,e] at hx; rw [key t e]; exact h.undef t hx
 ·by_cases e:d=t
  ·subst e; simp [im] at hx
  ·simp [im,e] at hx; rw [key t e]; exact h.var t cs hx
 ·by_cases e:d=t
  ·subst e; simp [im] at hx; obtain ⟨rfl,rfl⟩:=hx; simp [hd]
  ·by_cases e':d=t'
   ·subst e'; simp [im] at hx'
   ·simp [im,e] at hx; simp [im,e'] at hx'; rw [key t e]; exact h.loc t t' o' cs hx hx'
 ·by_cases e:d=t
  ·subst e; simp [im] at hx
  ·by_cases e':d=t'
   ·subst e'; simp [im] at hx'
   ·simp [im,e] at hx; simp [im,e'] at hx'; exact h.sepv t t' cs cs' hn hx hx'
 ·by_cases e:d=t
  ·subst e; simp [im] at hx
  ·simp [im,e] at hx; exact h.sepm t cs i m hx hm
 ·by_cases e:d=t
  ·subst e; simp [im] at hx
  ·simp [im,e] at hx; exact (h.sepd r hr).2 t cs hx
end
end Go.Abs

namespace Go.Abs
section
variable {E:Env} {μ:MM} {h:Heap} {w:World}
def ct (w:World) (b:Nat) (o:Obj):World:={ w with heap:=w.heap.setIfInBounds b o }
theorem g7 {w:World} {b:Nat} {o:Obj} (hb:b < w.heap.size):(ct w b o).heap[b]? = some o:=by simp [ct,hb]
theorem bp {w:World} {b k:Nat} {o:Obj} (hb:b≠k):(ct w b o).heap[k]? = w.heap[k]?:=by simp [ct,eh hb]
theorem rk {w:World} {b:Nat} {o:Obj} (h:w.heap[b]? = some o):b < w.heap.size:=ah (l:=w.heap.toList) (by simpa using h)
theorem Rel.same (hr:Rel E μ h w) {h':Heap} {w':World} (ho:h'.objs=h.objs) (hb:h'.base=h.base) (hw:w'.heap=w.heap):Rel E μ h' w':=by
 refine ⟨by rw [ho]; exact hr.len,by rw [ho,hb]; exact hr.bs,fun i o hi=>?_,fun i j mi mj hn hi=>?_,fun i m hm=>by rw [hw]; exact hr.lt i m hm,hr.tab.of (by rw [hw]; exact aj _) (fun k _ _ _=>by rw [hw]) fun i m hi hm=>.inr ⟨i,m,by rw [← hb]; exact hi,hm,rfl⟩⟩
 ·rw [hb]; rw [ho] at hi;exact (hr.obj i o hi).keep (Later.refl _) fun m hm=>⟨hm,by rw [hw]⟩
 ·rw [hb] at hi; exact hr.sep i j mi mj hn hi
theorem Rel.keep (hr:Rel E μ h w) {w':World} (hs:w.heap.size≤w'.heap.size) (hk:∀ (i:Nat) (m:M),μ[i]? = some (some m)→w'.heap[m.blk]? = w.heap[m.blk]?) (hg:∀ k,k < E.glob→k < w.heap.size→w'.heap[k]? = w.heap[k]?):Rel E μ h w' :=
 ⟨hr.len,hr.bs,fun i o hi=>(hr.obj i o hi).keep (Later.refl _) fun m hm=>⟨hm,hk i m hm⟩,hr.sep,fun i m hm=>fg (hr.lt i m hm) hs,hr.tab.of hs (fun k h1 h2 _=>hg k h1 h2) fun i m hi hm=>.inr ⟨i,m,hi,hm,rfl⟩⟩
theorem ij (μ:MM) (x:Option M):Later μ (μ++[x]) :=
 ⟨by simp,fun i hi=>.inl (by rw [ag hi])⟩
theorem jd {μ:MM} {x:Option M} {i:Nat} {m:Option M} (hm:(μ++[x])[i]? = some m):μ[i]? = some m∨(i=μ.length∧x=m):=by
 rcases bi i μ.length with h1 | h1
 ·rw [ag h1] at hm; exact .inl hm
 ·rw [aw h1] at hm
  have:i - μ.length=0:=by
   rcases Nat.eq_zero_or_pos (i - μ.length) with h2 | h2
   ·exact h2
   ·rw [bv (by simp; omega)] at hm; cases hm
  rw [this] at hm; simp at hm;exact .inr ⟨by omega,hm⟩
theorem Rel.push (hr:Rel E μ h w) (o:AObj) (B:Obj) (m:M) (hm:m.blk=w.heap.size)
  (ho:ORel E (μ++[some m]) h.base μ.length { w with heap:=w.heap.push B } o) :
  Rel E (μ++[some m]) (h.push o) { w with heap:=w.heap.push B }:=by
 have hblk:∀ k,k < w.heap.size→(w.heap.push B)[k]? = w.heap[k]?:=fun k hk=>by rw [di,if_neg (by omega)]
 refine ⟨by simp [Heap.push,hr.len],by have:=hr.bs; simp [Heap.push]; omega,fun i o' hi=>?_,fun i j mi mj hn hi h1 h2=>?_,fun i m' hm'=>?_,hr.tab.of (by simp) (fun k _ h2 _=>hblk k h2) fun i m' hi hm'=>(jd hm').elim (fun a=>.inr ⟨i,m',hi,a,rfl⟩) fun ⟨_,a⟩=>.inl (by cases a; omega)⟩
 ·simp only [Heap.push] at hi ⊢;rcases bi i h.objs.length with h1 | h1
  ·rw [ag h1] at hi;exact (hr.obj i o' hi).keep (ij μ _) fun m' hm'=>⟨by rw [ag (ah hm')]; exact hm',hblk _ (hr.lt i m' hm')⟩
  ·rw [aw h1] at hi
   have h2:i - h.objs.length=0:=by
    rcases Nat.eq_zero_or_pos (i - h.objs.length) with h2 | h2
    ·exact h2
    ·rw [bv (by simp; omega)] at hi; cases hi
   rw [h2] at hi; simp at hi; subst hi;have:i=μ.length:=by rw [hr.len]; omega
   subst this; exact ho
 ·rcases jd h1 with a | ⟨rfl,a⟩ <;> rcases jd h2 with b | ⟨rfl,b⟩
  ·exact hr.sep i j mi mj hn hi a b
  ·cases b; have:=hr.lt i mi a; omega
  ·cases a; have:=hr.lt j mj b; omega
  ·exact absurd rfl hn
 ·rcases jd hm' with a | ⟨rfl,a⟩
  ·have:=hr.lt i m' a; simp; omega
  ·cases a; simp [hm]
theorem Step.push {X:Nat→Prop} (wm:Nat) (μ:MM) (w:World) (B:Obj) (m:M) (hm:w.heap.size≤m.blk):Step X wm μ w (μ++[some m]) { w with heap:=w.heap.push B } where
 os:=rfl
 tape:=rfl
 output:=rfl
 size:=by simp
 block:=fun k hk _ _=>by
  show (w.heap.push B)[k]? = _
  rw [di,if_neg (by omega)]
 len:=by simp
 old:=fun i hi=>.inl (by rw [ag hi])
 new:=fun i m' hi hm'=>by
  rcases jd hm' with a | ⟨_,a⟩
  ·exact absurd (ah a) (by omega)
  ·cases a; exact .inl hm
theorem Step.heap {X:Nat→Prop} {wm:Nat} {μ μ':MM} {w w' w1:World} (h:Step X wm μ w μ' w') (e1:w1.heap=w'.heap) (e2:w1.os=w'.os) (e3:w1.tape=w'.tape) (e4:w1.output=w'.output):Step X wm μ w μ' w1 :=
 ⟨e2.trans h.os,e3.trans h.tape,e4.trans h.output,by rw [e1]; exact h.size,fun k hk hx hn=>by rw [e1]; exact h.block k hk hx hn,h.len,h.old,h.new⟩
theorem nw {μ:MM} {i j:Nat} {x:Option M}:(μ.set i x)[j]? = if i=j then (if j < μ.length then some x else none) else μ[j]?:=by
 by_cases e:i=j
 ·subst e; simp [List.getElem?_set_self']; split <;> simp_all
 ·simp [e]
theorem Rel.put (hr:Rel E μ h w) {i:Nat} {m:M} {o:AObj} {B:Obj} (hi:h.base≤i) (hm:μ[i]? = some (some m))
  (ho:ORel E μ h.base i (ct w m.blk B) o):Rel E μ (h.put i o) (ct w m.blk B):=by
 have hlt:=hr.lt i m hm;refine ⟨by simp [Heap.put,hr.len],by simpa [Heap.put] using hr.bs,fun j o' hj=>?_,hr.sep,fun j m' hm'=>by simp [ct]; exact hr.lt j m' hm',hr.tab.of (by simp [ct]) (fun k _ _ h3=>bp (h3 i m hi hm)) fun j m' hj hm'=>.inr ⟨j,m',hj,hm',rfl⟩⟩;simp only [Heap.put] at hj ⊢;by_cases e:i=j
 ·subst e;have:i < h.objs.length:=by rw [← hr.len]; exact ah hm
  simp [this] at hj; subst hj; exact ho
 ·rw [av e] at hj;exact (hr.obj j o' hj).keep (Later.refl _) fun m' hm'=>⟨hm',bp (hr.sep i j m m' e hi hm hm')⟩
theorem Step.put {X:Nat→Prop} {wm:Nat} {i:Nat} {m:M} (hm:μ[i]? = some (some m)) (hw:wm≤i) (B:Obj):Step X wm μ w μ (ct w m.blk B) where
 os:=rfl
 tape:=rfl
 output:=rfl
 size:=by simp [ct]
 block:=fun k _ _ hn=>bp (hn i m hw hm)
 len:=aj _
 old:=fun _ _=>.inl rfl
 new:=fun j m' hj hm'=>absurd (ah hm') (by omega)
theorem ni (μ:MM) (i:Nat):Later μ (μ.set i none) :=
 ⟨by simp,fun j hj=>by
  rw [nw];by_cases e:i=j
  ·right; subst e; simp [hj]
  ·left; simp [e]⟩
theorem Rel.kill (hr:Rel E μ h w) (i:Nat):Rel E (μ.set i none) (h.put i .dead) w:=by
 refine ⟨by simp [Heap.put,hr.len],by simpa [Heap.put] using hr.bs,fun j o hj=>?_,fun j k mj mk hn hj h1 h2=>?_,fun j m hm=>?_,hr.tab.less fun j m hj hm=>⟨j,m,hj,by rw [nw] at hm; split at hm; (· split at hm <;> cases hm); exact hm,rfl⟩⟩
 ·simp only [Heap.put] at hj ⊢;by_cases e:i=j
  ·subst e;rw [List.getElem?_set_self'] at hj;cases hx:h.objs[i]? with
   | none=>rw [hx] at hj; simp at hj
   | some y =>
    rw [hx] at hj; simp at hj; subst hj;simp only [ORel];rw [nw,if_pos rfl,if_pos (by rw [hr.len]; exact ah hx)]
  ·rw [av e] at hj;exact (hr.obj j o hj).keep (ni μ i) fun m hm=>⟨by rw [nw,if_neg e]; exact hm,rfl⟩
 ·rw [nw] at h1 h2;simp only [Heap.put] at hj
  have e1:i≠j:=by intro e; rw [if_pos e] at h1;split at h1 <;> cases h1
  have e2:i≠k:=by intro e; rw [if_pos e] at h2;split at h2 <;> cases h2
  rw [if_neg e1] at h1; rw [if_neg e2] at h2;exact hr.sep j k mj mk hn hj h1 h2
 ·rw [nw] at hm;split at hm
  ·split at hm <;> cases hm
  ·exact hr.lt j m hm
theorem Step.kill {X:Nat→Prop} {wm:Nat} (μ:MM) (w:World) {i:Nat} (hw:wm≤i):Step X wm μ w (μ.set i none) w where
 os:=rfl
 tape:=rfl
 output:=rfl
 size:=aj _
 block:=fun _ _ _ _=>rfl
 len:=by simp
 old:=fun j hj=>by
  rw [nw];by_cases e:i=j
  ·right; subst e; simp [hj,hw]
  ·left; simp [e]
 new:=fun j m hj hm=>absurd (ah hm) (by simp; omega)
theorem Rel.take (hr:Rel E μ h w) {i:Nat} {m m':M} {o:AObj} {B:Obj} (hi:h.base≤i) (hm:μ[i]? = some (some m)) (hb:m'.blk=m.blk)
  (ho:ORel E (μ.set i none++[some m']) h.base μ.length (ct w m.blk B) o) :
  Rel E (μ.set i none++[some m']) ((h.put i .dead).push o) (ct w m.blk B):=by
 have hk:=hr.kill i;have hlen:(μ.set i none).length=μ.length:=by simp
 have hne:∀ (j:Nat) (mj:M),(μ.set i none)[j]? = some (some mj)→mj.blk≠m.blk:=by
  intro j mj hj;rw [nw] at hj;by_cases e:i=j
  ·rw [if_pos e] at hj; split at hj <;> cases hj
  ·rw [if_neg e] at hj; exact fun e'=>hr.sep i j m mj e hi hm hj e'.symm
 refine ⟨by simp [Heap.push,Heap.put,hr.len],by have:=hr.bs; simp [Heap.push,Heap.put]; omega,fun j o' hj=>?_,fun j k mj mk hn hj h1 h2=>?_,fun j mj hmj=>?_,hr.tab.of (by simp [ct]) (fun k _ _ h3=>bp (h3 i m hi hm)) fun j mj hj hmj=>?_⟩
 ·simp only [Heap.push] at hj;rcases bi j (h.put i .dead).objs.length with h1 | h1
  ·rw [ag h1] at hj;exact (hk.obj j o' hj).keep (ij _ _) fun mj hmj=>⟨by rw [ag (ah hmj)]; exact hmj,bp (hne j mj hmj).symm⟩
  ·rw [aw h1] at hj
   have h2:j - (h.put i .dead).objs.length=0:=by
    rcases Nat.eq_zero_or_pos (j - (h.put i .dead).objs.length) with h2 | h2
    ·exact h2
    ·rw [bv (by simp; omega)] at hj; cases hj
   rw [h2] at hj; simp at hj; subst hj;have:j=μ.length:=by rw [hr.len]; simp [Heap.put] at h1 h2; omega
   subst this; exact ho
 ·rcases jd h1 with a | ⟨e1,a⟩ <;> rcases jd h2 with b | ⟨e2,b⟩
  ·exact hk.sep j k mj mk hn hj a b
  ·cases b; rw [hb]; exact hne j mj a
  ·cases a; rw [hb]; exact fun e=>hne k mk b e.symm
  ·exact absurd (e1.trans e2.symm) hn
 ·rcases jd hmj with a | ⟨e,a⟩
  ·have:=hk.lt j mj a; simpa [ct] using this
  ·cases a; rw [hb]; simpa [ct] using hr.lt i m hm
 ·rcases jd hmj with a | ⟨_,a⟩
  ·rw [nw] at a;split at a
   ·split at a <;> cases a
   ·exact .inr ⟨j,mj,hj,a,rfl⟩
  ·cases a; exact .inr ⟨i,m,hi,hm,hb.symm⟩
theorem Step.take {X:Nat→Prop} {wm:Nat} {i:Nat} {m m':M} (B:Obj) (hm:μ[i]? = some (some m)) (hb:m'.blk=m.blk) (hw:wm≤i) :
  Step X wm μ w (μ.set i none++[some m']) (ct w m.blk B) where
 os:=rfl
 tape:=rfl
 output:=rfl
 size:=by simp [ct]
 block:=fun k _ _ hn=>bp (hn i m hw hm)
 len:=by simp
 old:=fun j hj=>by rw [ag (by simpa using hj)];exact (Step.kill (X:=X) μ w hw).old j hj
 new:=fun j mj hj hmj=>by
  rcases jd hmj with a | ⟨_,a⟩
  ·exact absurd (ah a) (by simp; omega)
  ·cases a; exact .inr ⟨i,m,hw,hm,hb.symm⟩
end
def one?:Value→Bool
 | .agg _ | .tuple _=>false
 | _=>true
section
variable {P:Program} {w:World}
theorem mr {w:World} {b o:Nat} {c:Array Value} {e:TypeId} {fr:Nat × Nat} (hb:w.heap[b]? = some (.cells c e fr)):w.cell? ⟨b,o,none⟩=c[o]?:=by simp [World.cell?,hb]
theorem za {w:World} {b o:Nat} {c:Array Value} {e:TypeId} {fr:Nat × Nat} (hb:w.heap[b]? = some (.cells c e fr)):w.frozen? ⟨b,o,none⟩=decide (fr.1≤o∧o < fr.2):=by obtain ⟨lo,hi⟩:=fr;simp [World.frozen?,hb]
theorem setCell_block {w:World} {b o:Nat} {c:Array Value} {e0:TypeId} {fr:Nat × Nat} (v:Value) (hb:w.heap[b]? = some (.cells c e0 fr)) :
  w.setCell ⟨b,o,none⟩ v=ct w b (.cells (c.setIfInBounds o v) e0 fr):=by
 have hl:=rk hb;simp only [World.setCell,ct];congr 1;apply Array.ext_getElem?;intro k;rw [Array.getElem?_modify,Array.getElem?_setIfInBounds];by_cases e:b=k
 ·subst e;have hb':w.heap[b] = .cells c e0 fr:=by rw [lj hl] at hb; exact dr hb
  simp [hl,hb']
 ·simp [e]
theorem zb (w:World) (b:Nat) (o o':Obj):ct (ct w b o) b o'=ct w b o':=by simp [ct]
def jz (c:Array Value) (off:Nat) (vs:List Value):Array Value :=
 match vs with
 | []=>c
 | v :: r=>jz (c.setIfInBounds off v) (off+1) r
theorem jy:∀ (vs:List Value) (c:Array Value) (off:Nat),(jz c off vs).size=c.size
 | [],_,_=>rfl
 | v :: r,c,off=>by simp [jz,jy r]
theorem s9:∀ (vs:List Value) (c:Array Value) (off k:Nat),off+vs.length≤c.size →
  (jz c off vs)[k]? = if off≤k∧k < off+vs.length then vs[k - off]? else c[k]?
 | [],c,off,k,_=>by simp only [jz,ep,Nat.add_zero];rw [if_neg (by omega)]
 | v :: r,c,off,k,h=>by
  simp only [bt] at h;simp only [jz];rw [s9 r _ (off+1) k (by simp; omega)];by_cases h1:off=k
  ·subst h1;have h3:off < c.size:=by omega
   rw [if_neg (by omega),if_pos (by simp)];simp [h3]
  ·by_cases h2:off≤k∧k < off+(v :: r).length
   ·rw [if_pos h2,if_pos (by simp at h2; omega)];have:k - off=(k - (off+1))+1:=by omega
    rw [this]; simp
   ·rw [if_neg h2,if_neg (by simp at h2; omega),eh h1]
theorem kg {b:Nat} {e:TypeId} {fr:Nat × Nat} {a:Addr} (ha:a.block=b) (hs:a.spot=none):∀ (vs:List Value) (i:Nat) (c:Array Value) (w:World),
  w.heap[b]? = some (.cells c e fr)→a.off+i+vs.length≤c.size→(∀ off,off < c.size→¬ (fr.1≤off∧off < fr.2))→(∀ v ∈ vs,one? v=true) →
  (storeCells a vs i).run P w = .ok () (ct w b (.cells (jz c (a.off+i) vs) e fr))
 | [],i,c,w,hb,_,_,_=>by
  simp only [storeCells,jz];show Result.ok () w=_;congr 1;simp only [ct];have hl:=rk hb
  have:w.heap.setIfInBounds b (.cells c e fr)=w.heap:=by
   apply Array.ext_getElem?;intro k;by_cases e:b=k
   ·subst e; simp [hl];simpa [hl] using hb.symm
   ·simp [eh e]
  rw [this]
 | v :: r,i,c,w,hb,hl,hf,h1=>by
  have hadd:a.add i=⟨b,a.off+i,none⟩:=by
   unfold Addr.add;split
   ·rename_i h0; subst h0; cases a; simp at ha hs; subst ha; subst hs; simp
   ·cases a; simp at ha; subst ha; rfl
  have hv:one? v=true:=h1 v (bg ..);have hi:a.off+i < c.size:=by simp at hl; omega
  have hcell:w.cell? (a.add i)=some c[a.off+i]:=by rw [hadd,mr hb]; simp [hi]
  have hfz:w.frozen? (a.add i)=false:=by rw [hadd,za hb]; simpa using hf _ hi
  have hstore:(store (a.add i) v).run P w = .ok () (w.setCell (a.add i) v):=by cases v <;> simp only [one?,de] at hv <;> simp [store,Sem.run,hcell,hfz]
  simp only [storeCells,Sem.run_bind,hstore,Result.andThen_ok];rw [hadd,setCell_block v hb];have hb':(ct w b (.cells (c.setIfInBounds (a.off+i) v) e fr)).heap[b]? = some (.cells (c.setIfInBounds (a.off+i) v) e fr):=g7 (rk hb);rw [kg ha hs r (i+1) _ _ hb' (by simp at hl ⊢; omega) (by simpa using hf) (fun x hx=>h1 x (bj _ hx)),zb];rfl
theorem oneCell_of {E:Env} {μ:MM} {a:AVal} {v:Value} (h:VRel E μ a v) (hc:a.isOne=true):one? v=true:=by obtain ⟨h1,h2⟩:=one_rel h hc;cases v <;> first | rfl | (exact absurd ⟨_,rfl⟩ h1) | (exact absurd ⟨_,rfl⟩ h2)
theorem nj {E:Env} {μ:MM} {aZ:List AVal} {l:List Value} (h:VRels E μ aZ l) (hc:∀ x ∈ aZ,x.isOne=true):∀ v ∈ l,one? v=true:=by
 induction aZ generalizing l with
 | nil=>simp only [VRels] at h; subst h; simp
 | cons a aZ ih =>
  simp only [VRels] at h;obtain ⟨v,r,rfl,h1,h2⟩:=h;intro x hx;rcases dy.1 hx with rfl | hx
  ·exact oneCell_of h1 (hc a (bg ..))
  ·exact ih h2 (fun y hy=>hc y (bj _ hy)) x hx
theorem CRel.splice {E:Env} {μ:MM} {cs xs:List AVal} {c:Array Value} {l:List Value} {b o:Nat} (h:CRel E μ cs c b) (hx:VRels E μ xs l) (h1:∀ x ∈ xs,x.isOne=true)
  (ho:o+xs.length≤cs.length) (hs:b+cs.length≤c.size):CRel E μ (Abs.splice cs o xs) (jz c (b+o) l) b:=by
 have hl:=hx.length;intro k v hk;rw [s9 l c (b+o) (b+k) (by omega)];simp only [Abs.splice] at hk;by_cases h2:k < o
 ·rw [az,ag (by simp; omega),gj h2] at hk;rw [if_neg (by omega)];exact h k v hk
 ·by_cases h3:k < o+xs.length
  ·rw [az,aw (by simp; omega),ag (by simp; omega)] at hk;have:k - (List.take o cs).length=k - o:=by simp; omega
   rw [this] at hk;obtain ⟨v',hv',hr⟩:=hx.get hk;rw [if_pos (by omega)];refine ⟨h1 v (bn hk),v',?_,hr⟩;rw [← hv']; congr 1; omega
  ·rw [aw (by simp; omega)] at hk;rw [ef] at hk;have:o+xs.length+(k - (List.take o cs++xs).length)=k:=by simp; omega
   rw [this] at hk;rw [if_neg (by omega)];exact h k v hk
theorem ly (cs:List AVal) (o:Nat) (xs:List AVal) (h:o+xs.length≤cs.length):(splice cs o xs).length=cs.length:=by simp [splice]; omega
end
end Go.Abs

namespace Go.Abs
section
variable {E:Env} {lo:Nat} {ν:Fr} {μ:MM} {s:Slots} {a:Act} {w:World}
theorem uo (d:Nat):∀ (s:Slots) (t:Nat),sget (px d s) t=match sget s t with
  | some (.loc t' o)=>if t'=d then some .gone else some (.loc t' o)
  | x=>x
 | [],t=>rfl
 | (u,x) :: r,t=>by
  have ih:=uo d r t;cases x with
  | loc t' o =>
   simp only [px,sget];by_cases e:u=t
   ·simp [e]; split <;> rfl
   ·simp [e,ih]
  | _ =>
   simp only [px,sget];by_cases e:u=t
   ·simp [e]
   ·simp [e,ih]
theorem sget_keep (l:List Nat) (s:Slots) (t:Nat) (x:Slot) (h:sget (keep l s) t=some x):sget s t=some x:=by
 unfold keep at h;induction l with
 | nil=>simp [sget] at h
 | cons u r ih =>
  simp only [List.filterMap_cons] at h;split at h
  ·exact ih h
  ·rename_i y hy
   have:y.1=u∧sget s u=some y.2:=by
    cases hs:sget s u with
    | none=>rw [hs] at hy; simp at hy
    | some z=>rw [hs] at hy; cases z <;> simp at hy <;> subst hy <;> simp
   obtain ⟨e1,e2⟩:=this;obtain ⟨y1,y2⟩:=y;simp only at e1 e2;subst e1;simp only [sget] at h;split at h
   ·rename_i e; subst e; cases h; exact e2
   ·exact ih h
theorem vj {t:Nat} {v:Value} (h:a.tmps[t]? = some v):a.eval (.tmp t)=v:=by simp [Act.eval,h]
theorem ce (hf:FRel E lo ν μ (sget s) a.tmps w) {x:Operand} {y:Opd} {v:AVal} (hc:g8 E x=some y) (he:y.ev s=some v):VRel E μ v (a.eval x):=by
 cases x with
 | tmp t =>
  simp only [g8] at hc; cases hc;simp only [Opd.ev] at he;split at he
  ·rename_i v' hs;cases he;obtain ⟨u,hu,hr⟩:=hf.val t _ hs;rw [vj hu]; exact hr
  ·simp at he
 | const c =>
  simp only [g8] at hc;rw [ae] at hc;obtain ⟨b,hb,rfl⟩:=hc;simp only [Opd.ev] at he; cases he;exact toA_rel hb μ
 | func f =>
  simp only [g8] at hc;rw [ae] at hc;obtain ⟨g,hg,rfl⟩:=hc;simp only [Opd.ev] at he; cases he;simp only [VRel,Act.eval];exact ⟨f,#[],#[],rfl,hg,by simp [VRels],by simp [VRels]⟩
 | global g=>simp [g8] at hc
theorem ke (hf:FRel E lo ν μ (sget s) a.tmps w):∀ {xs:List Operand} {ys:List Opd} {vs:List AVal},cOpds E xs=some ys→evs s ys=some vs→VRels E μ vs (xs.map a.eval)
 | [],ys,vs,hc,he=>by simp only [cOpds] at hc; cases hc;simp only [evs] at he; cases he;simp [VRels]
 | x :: xs,ys,vs,hc,he=>by
  simp only [cOpds] at hc;split at hc
  ·rename_i y ys' h1 h2;cases hc;simp only [evs] at he;split at he
   ·rename_i v vs' h3 h4;cases he;simp only [VRels,bo];exact ⟨_,_,rfl,ce hf h1 h3,ke hf h2 h4⟩
   ·simp at he
  ·simp at hc
theorem sy (hf:FRel E lo ν μ (sget s) a.tmps w) {x:Operand} {y:Opd} {i o:Nat} (hc:g8 E x=some y) (he:y.adr s=some (.glob i o)) :
  ∃ ad,a.eval x = .pointer (some ad)∧ARel μ i o ad:=by
 cases x with
 | tmp t =>
  simp only [g8] at hc; cases hc;simp only [Opd.adr] at he;split at he
  ·rename_i i' o' hs;cases he;obtain ⟨u,hu,hr⟩:=hf.val t _ hs;simp only [VRel] at hr;obtain ⟨ad,rfl,hr⟩:=hr;exact ⟨ad,vj hu,hr⟩
  ·cases he
  ·cases he
  ·simp at he
 | const c=>simp only [g8] at hc; rw [ae] at hc; obtain ⟨b,_,rfl⟩:=hc; simp [Opd.adr] at he
 | func f=>simp only [g8] at hc; rw [ae] at hc; obtain ⟨b,_,rfl⟩:=hc; simp [Opd.adr] at he
 | global g=>simp [g8] at hc
theorem vl (hf:FRel E lo ν μ (sget s) a.tmps w) {x:Operand} {y:Opd} {t o:Nat} {cs:List AVal} (hc:g8 E x=some y) (he:y.adr s=some (.loc t o)) (hv:sget s t=some (.var cs)) :
  a.eval x = .pointer (some ⟨ν t,o,none⟩):=by
 cases x with
 | tmp u =>
  simp only [g8] at hc; cases hc;simp only [Opd.adr] at he;split at he
  ·cases he
  ·rename_i cs' hs;cases he;exact vj (hf.var _ _ hs).1
  ·rename_i t' o' hs;cases he;exact vj (hf.loc _ _ _ _ hs hv)
  ·simp at he
 | const c=>simp only [g8] at hc; rw [ae] at hc; obtain ⟨b,_,rfl⟩:=hc; simp [Opd.adr] at he
 | func f=>simp only [g8] at hc; rw [ae] at hc; obtain ⟨b,_,rfl⟩:=hc; simp [Opd.adr] at he
 | global g=>simp [g8] at hc
theorem FRel.setVar {d:Nat} {tmps:Array Value} (hf:FRel E lo ν μ (sget s) tmps w) (hm:∀ (i:Nat) (m:M),μ[i]? = some (some m)→m.blk < w.heap.size) (hlo:lo≤w.heap.size) (hd:d < tmps.size)
  {cs:List AVal} {c:Array Value} (e:TypeId) (hc:VRels E μ cs c.toList) (h1:∀ x ∈ cs,x.isOne=true) :
  FRel E lo ⟨fun t=>if t=d then w.heap.size else ν t,ν.ds⟩ μ (im (sget (px d s)) (some d) (.var cs)) (tmps.setIfInBounds d (.pointer (some ⟨w.heap.size,0,none⟩)))
   { w with heap:=w.heap.push (.cells c e (0,0)) }:=by
 have key:∀ t,d≠t→(tmps.setIfInBounds d (.pointer (some ⟨w.heap.size,0,none⟩)))[t]? = tmps[t]?:=fun t ht=>eh ht
 have old:∀ {t:Nat} {x:Slot},d≠t→im (sget (px d s)) (some d) (.var cs) t=some x→x ≠ .gone→sget s t=some x∧∀ t' o,x = .loc t' o→t'≠d:=by
  intro t x ht hx hg;have ht':¬ (d=t):=ht;simp only [im,eu,ht',if_false] at hx;rw [uo] at hx;split at hx
  ·rename_i t' o hs;split at hx
   ·cases hx; exact absurd rfl hg
   ·rename_i hne; cases hx; exact ⟨hs,fun t'' o' e=>by cases e; exact hne⟩
  ·rename_i hne;exact ⟨hx,fun t' o e=>by subst e; exact absurd hx (hne t' o)⟩
 have blk:∀ k,k < w.heap.size→(w.heap.push (.cells c e (0,0)))[k]? = w.heap[k]?:=fun k hk=>by rw [di,if_neg (by omega)]
 refine ⟨fun t u hu=>?_,fun t hu=>?_,fun t cs' hu=>?_,fun t t' o cs' hu hu'=>?_,fun t t' cs1 cs2 hn hu hu'=>?_,fun t cs' i m hu him=>?_,fun r hr=>?_,fun r hr=>⟨fun i m him=>(hf.sepd r hr).1 i m him,fun t cs' hu=>?_⟩,hf.nodup⟩
 ·by_cases ht:d=t
  ·subst ht; simp [im] at hu
  ·rw [key t ht]; exact hf.val t u (old ht hu (by simp)).1
 ·by_cases ht:d=t
  ·subst ht; simp [im] at hu
  ·rw [key t ht]; exact hf.undef t (old ht hu (by simp)).1
 ·by_cases ht:d=t
  ·subst ht;simp [im] at hu; subst hu;refine ⟨by simp [hd],by simp [hlo],c,e,(0,0),by simp,by rw [hc.length]; simp,fun k v hk=>?_,⟨aj _,fun off _=>by simp⟩⟩;obtain ⟨v',hv',hr⟩:=hc.get hk;exact ⟨h1 v (bn hk),v',by simpa using hv',hr⟩
  ·obtain ⟨k1,k2,c',e',fr,k3,k4,k5,k6⟩:=hf.var t cs' (old ht hu (by simp)).1;have ht':¬ (t=d):=fun e=>ht e.symm
   simp only [ht',if_false];exact ⟨by rw [key t ht]; exact k1,k2,c',e',fr,by rw [blk _ (rk k3)]; exact k3,k4,k5,k6⟩
 ·by_cases ht:d=t
  ·subst ht; simp [im] at hu
  ·obtain ⟨k1,k2⟩:=old ht hu (by simp);have ht':t'≠d:=k2 t' o rfl;have ht'':d≠t':=fun e=>ht' e.symm
   obtain ⟨k3,_⟩:=old ht'' hu' (by simp);rw [key t ht];simp only [ht',if_false];exact hf.loc t t' o cs' k1 k3
 ·by_cases ht:d=t
  ·subst ht;have k2:=(old hn hu' (by simp)).1;have hn':¬ (t'=d):=fun e=>hn e.symm
   simp only [if_true,hn',if_false];have:=hf.lt k2;omega
  ·have k1:=(old ht hu (by simp)).1;have ht':¬ (t=d):=fun e=>ht e.symm
   by_cases ht2:d=t'
   ·subst ht2;simp only [if_true,ht',if_false];have:=hf.lt k1;omega
   ·have k2:=(old ht2 hu' (by simp)).1;have ht2':¬ (t'=d):=fun e=>ht2 e.symm
    simp only [ht',ht2',if_false];exact hf.sepv t t' cs1 cs2 hn k1 k2
 ·by_cases ht:d=t
  ·subst ht;simp only [if_true];have:=hm i m him;omega
  ·have k1:=(old ht hu (by simp)).1;have ht':¬ (t=d):=fun e=>ht e.symm
   simp only [ht',if_false];exact hf.sepm t cs' i m k1 him
 ·obtain ⟨k1,k2⟩:=hf.ds r hr;exact ⟨k1,by rw [blk _ (rk k2)]; exact k2⟩
 ·by_cases ht:d=t
  ·subst ht;have:=rk (hf.ds r hr).2;simp only [if_true];omega
  ·have k1:=(old ht hu (by simp)).1;have ht':¬ (t=d):=fun e=>ht e.symm
   simp only [ht',if_false];exact (hf.sepd r hr).2 t cs' k1
theorem FRel.putVar {t:Nat} {tmps:Array Value} (hf:FRel E lo ν μ (sget s) tmps w) {cs cs':List AVal} {c':Array Value} {e:TypeId} {fr:Nat × Nat}
  (ht:sget s t=some (.var cs)) (hs:c'.size=cs'.length) (hc:CRel E μ cs' c' 0) (hfr:Free 0 fr c'.size) :
  FRel E lo ν μ (sget ((t,.var cs') :: s)) tmps (ct w (ν t) (.cells c' e fr)):=by
 have hlt:=hf.lt ht
 have old:∀ {u:Nat} {x:Slot},t≠u→sget ((t,.var cs') :: s) u=some x→sget s u=some x:=by intro u x hu hx;have hu':¬ (t=u):=hu;simpa [sget,hu'] using hx
 have isvar:∀ {u:Nat} {cs1:List AVal},sget ((t,.var cs') :: s) u=some (.var cs1)→∃ cs2,sget s u=some (.var cs2):=by
  intro u cs1 hu;by_cases e:t=u
  ·subst e; exact ⟨cs,ht⟩
  ·exact ⟨cs1,old e hu⟩
 refine ⟨fun u v hu=>?_,fun u hu=>?_,fun u cs1 hu=>?_,fun u u' o cs1 hu hu'=>?_,fun u u' cs1 cs2 hn hu hu'=>?_,fun u cs1 i m hu him=>?_,fun r hr=>?_,fun r hr=>⟨(hf.sepd r hr).1,fun u cs1 hu=>?_⟩,hf.nodup⟩
 ·by_cases e:t=u
  ·subst e; simp [sget] at hu
  ·exact hf.val u v (old e hu)
 ·by_cases e:t=u
  ·subst e; simp [sget] at hu
  ·exact hf.undef u (old e hu)
 ·by_cases e':t=u
  ·subst e';simp [sget] at hu; subst hu;obtain ⟨k1,k2,_⟩:=hf.var t cs ht;exact ⟨k1,k2,c',e,fr,g7 hlt,hs,hc,hfr⟩
  ·have ho:=old e' hu;obtain ⟨k1,k2,c1,e1,fr1,k3,k4,k5,k6⟩:=hf.var u cs1 ho;exact ⟨k1,k2,c1,e1,fr1,by rw [bp (hf.sepv t u cs cs1 e' ht ho)]; exact k3,k4,k5,k6⟩
 ·by_cases e:t=u
  ·subst e; simp [sget] at hu
  ·obtain ⟨cs2,h2⟩:=isvar hu';exact hf.loc u u' o cs2 (old e hu) h2
 ·obtain ⟨a1,h1⟩:=isvar hu;obtain ⟨a2,h2⟩:=isvar hu';exact hf.sepv u u' a1 a2 hn h1 h2
 ·obtain ⟨a1,h1⟩:=isvar hu;exact hf.sepm u a1 i m h1 him
 ·obtain ⟨k1,k2⟩:=hf.ds r hr;exact ⟨k1,by rw [bp ((hf.sepd r hr).2 t cs ht)]; exact k2⟩
 ·obtain ⟨a1,h1⟩:=isvar hu;exact (hf.sepd r hr).2 u a1 h1
end
end Go.Abs

namespace Go.Abs
section
variable {E:Env} {lo:Nat} {ν:Fr} {μ:MM} {s:Slots} {h:Heap} {a:Act} {w:World} {call:CallSem} {d:Nat}
theorem gd {v:Option AVal} {x:Slot} {s':Slots} {h':Heap} (e:ok1 s h v=some (x,s',h')):∃ u,v=some u∧x = .val u∧s'=s∧h'=h:=by unfold ok1 at e;rw [ae] at e;obtain ⟨u,hu,e⟩:=e;cases e;exact ⟨u,hu,rfl,rfl,rfl⟩
theorem nu:∀ (a b:List UInt8),aBytesLess a b=Op.bytesLess a b
 | [],[]=>rfl
 | [],_ :: _=>rfl
 | _ :: _,[]=>rfl
 | x :: a,y :: b=>by simp [aBytesLess,Op.bytesLess,nu a b]
theorem m6 {α:Type} [BEq α] [LawfulBEq α] [DecidableEq α] (a b:α):(a == b)=decide (a=b):=by rw [mh]; simp
theorem mk_append (a b:List UInt8):(⟨a.toArray⟩:ByteArray)++⟨b.toArray⟩=⟨(a++b).toArray⟩:=by apply ByteArray.ext;simp
theorem pb (a:List UInt8):(⟨a.toArray⟩:ByteArray).size=a.length:=by simp [ByteArray.size]
theorem run_bin_int {P:Program} {op:BinOp} {t:TypeId} {k k':IntKind} {x y:Int} {r:AVal} (w:World) (h:aBin op (.int k x) (.int k' y)=some r) :
  ∃ v,(binOp op t (.int k x) (.int k' y)).run P w = .ok v w∧VRel E μ r v:=by
 cases op
 case shl =>
  simp only [aBin] at h;split at h
  ·cases h
  ·rename_i hn;cases h;exact ⟨_,by simp [binOp,Op.shift,hn]; rfl,by simp [VRel]⟩
 case shr =>
  simp only [aBin] at h;split at h
  ·cases h
  ·rename_i hn;cases h;exact ⟨_,by simp [binOp,Op.shift,hn]; rfl,by simp [VRel]⟩
 all_goals
  simp only [aBin] at h;split at h;case isFalse=>cases h
  rename_i hk;subst hk
 case quo =>
  split at h
  ·cases h
  ·rename_i hn;cases h;exact ⟨_,by simp [binOp,Op.intDiv,hn]; rfl,by simp [VRel]⟩
 case rem =>
  split at h
  ·cases h
  ·rename_i hn;cases h;exact ⟨_,by simp [binOp,Op.intDiv,hn]; rfl,by simp [VRel]⟩
 case add=>cases h; exact ⟨_,by simp [binOp,Op.intArith]; rfl,by simp [VRel]⟩
 case sub=>cases h; exact ⟨_,by simp [binOp,Op.intArith]; rfl,by simp [VRel]⟩
 case mul=>cases h; exact ⟨_,by simp [binOp,Op.intArith]; rfl,by simp [VRel]⟩
 case and=>simp only [aBits] at h; cases h; exact ⟨_,by simp [binOp,Op.intBits]; rfl,by simp [VRel]⟩
 case or=>simp only [aBits] at h; cases h; exact ⟨_,by simp [binOp,Op.intBits]; rfl,by simp [VRel]⟩
 case xor=>simp only [aBits] at h; cases h; exact ⟨_,by simp [binOp,Op.intBits]; rfl,by simp [VRel]⟩
 case andNot=>simp only [aBits] at h; cases h; exact ⟨_,by simp [binOp,Op.intBits]; rfl,by simp [VRel]⟩
 case eql=>cases h; exact ⟨.bool (x == y),by simp [binOp,Op.intCmp],by simp [VRel,m6]⟩
 case neq=>cases h; exact ⟨.bool (x != y),by simp [binOp,Op.intCmp],by simp [VRel,bne,m6]⟩
 case lss=>cases h; exact ⟨_,by simp [binOp,Op.intCmp]; rfl,by simp [VRel]⟩
 case leq=>cases h; exact ⟨_,by simp [binOp,Op.intCmp]; rfl,by simp [VRel]⟩
 case gtr=>cases h; exact ⟨_,by simp [binOp,Op.intCmp]; rfl,by simp [VRel]⟩
 case geq=>cases h; exact ⟨_,by simp [binOp,Op.intCmp]; rfl,by simp [VRel]⟩
theorem run_bin_str {P:Program} {op:BinOp} {t:TypeId} {x y:List UInt8} {r:AVal} (w:World) (h:aBin op (.str x) (.str y)=some r) :
  ∃ v,(binOp op t (.string ⟨x.toArray⟩) (.string ⟨y.toArray⟩)).run P w = .ok v w∧VRel E μ r v:=by
 cases op <;> simp only [aBin] at h
 case add =>
  split at h
  ·rename_i hl;cases h;have hn:¬ (((x.length+y.length:Nat):Int) > IntKind.i64.max):=by simp [IntKind.max,IntKind.signed,IntKind.bits]; omega
   refine ⟨.string ⟨(x++y).toArray⟩,?_,by simp [VRel]⟩;simp only [binOp,Op.stringOp,pb];rw [if_neg hn,mk_append]; rfl
  ·cases h
 case eql=>cases h; exact ⟨_,by simp [binOp,Op.stringOp]; rfl,by simp [VRel,m6]⟩
 case neq=>cases h; exact ⟨_,by simp [binOp,Op.stringOp]; rfl,by simp [VRel,m6]⟩
 case lss=>cases h; exact ⟨_,by simp [binOp,Op.stringOp]; rfl,by simp [VRel,nu]⟩
 case leq=>cases h; exact ⟨_,by simp [binOp,Op.stringOp]; rfl,by simp [VRel,nu,m6]⟩
 case gtr=>cases h; exact ⟨_,by simp [binOp,Op.stringOp]; rfl,by simp [VRel,nu,m6]⟩
 case geq=>cases h; exact ⟨_,by simp [binOp,Op.stringOp]; rfl,by simp [VRel,nu]⟩
 all_goals cases h
theorem sw {P:Program} (op:BinOp) (t:TypeId) (x y:Operand) (u v:Value) (w:World) (h1:∀ c,u ≠ .agg c) (h2:u ≠ .nilIface):(eqGuard op t x y u v).run P w = .ok () w:=by unfold eqGuard;cases op <;> (try rfl) <;> (cases u <;> first | rfl | (exact absurd rfl h2) | (exact absurd rfl (h1 _)) | (cases v <;> rfl))
theorem un_rel {P:Program} {op:UnOp} {x r:AVal} {u:Value} (w:World) (hx:VRel E μ x u) (h:aUn op x=some r):∃ v,(Op.unary op u).run P w = .ok v w∧VRel E μ r v:=by
 cases x <;> simp only [aUn] at h <;> (try cases h)
 case int k n =>
  simp only [VRel] at hx; subst hx;cases op <;> simp only [aBits] at h <;> cases h
  ·exact ⟨_,by simp [Op.unary,Op.intArith]; rfl,by simp [VRel]⟩
  ·exact ⟨_,by simp [Op.unary,Op.intBits]; rfl,by simp [VRel]⟩
 case bool b =>
  simp only [VRel] at hx; subst hx;cases op <;> simp at h
  subst h;exact ⟨_,by simp [Op.unary]; rfl,by simp [VRel]⟩
theorem min2_rel {P:Program} {mx:Bool} {x y r:AVal} {u v:Value} (w:World) (hx:VRel E μ x u) (hy:VRel E μ y v) (h:aMin2 mx x y=some r) :
  ∃ z,(if mx then Builtin.max2 u v else Builtin.min2 u v).run P w = .ok z w∧VRel E μ r z:=by
 cases x <;> cases y <;> simp only [aMin2] at h <;> (try cases h)
 case int.int k n k' m =>
  simp only [VRel] at hx hy; subst hx; subst hy;split at h
  ·rename_i e; subst e; cases h;cases mx
   ·exact ⟨_,by simp [Builtin.min2]; rfl,by simp [VRel]⟩
   ·exact ⟨_,by simp [Builtin.max2]; rfl,by simp [VRel]⟩
  ·cases h
theorem zao {P:Program} {mx:Bool} (w:World):∀ {l:List AVal} {x r:AVal} {u:Value} {vs:List Value},VRel E μ x u→VRels E μ l vs→aMins mx x l=some r →
  ∃ z,(vs.foldlM (fun a b=>if mx then Builtin.max2 a b else Builtin.min2 a b) u:Sem Value).run P w = .ok z w∧VRel E μ r z
 | [],x,r,u,vs,hx,hl,h=>by simp only [VRels] at hl; subst hl;simp only [aMins] at h; cases h;exact ⟨u,rfl,hx⟩
 | y :: l,x,r,u,vs,hx,hl,h=>by
  simp only [VRels] at hl;obtain ⟨v,t,rfl,hv,ht⟩:=hl;simp only [aMins] at h;split at h
  ·rename_i z hz;obtain ⟨z',h1,h2⟩:=min2_rel (P:=P) w hx hv hz;obtain ⟨r',h3,h4⟩:=zao (P:=P) w h2 ht h;refine ⟨r',?_,h4⟩;simp only [List.foldlM_cons,Sem.run_bind,h1,Result.andThen_ok,h3]
  ·cases h
theorem run_isAgg {P:Program} {t:TypeId} {n:Option Nat} (h:partT P t=some n) (w:World):(isAgg t).run P w = .ok n.isSome w∧∀ k,n=some k→(sizeOf t).run P w = .ok k w:=by
 unfold partT at h;cases hu:P.underlying t with
 | none=>rw [hu] at h; simp at h
 | some d =>
  rw [hu] at h
  have hs:∀ k,sizeT P t=some k→(sizeOf t).run P w = .ok k w:=by
   intro k hk;unfold sizeT at hk;cases hi:P.info? t with
   | none=>rw [hi] at hk; simp at hk
   | some i=>rw [hi] at hk; simp at hk; subst hk; simp [sizeOf,typeInfo,hi]
  cases d <;> simp only [eu] at h <;> (first | (subst h; exact ⟨by simp [isAgg,run_underlying hu],fun k hk=>by cases hk⟩) | skip)
  ·cases hz:sizeT P t with
   | none=>rw [hz] at h; simp at h
   | some k=>rw [hz] at h; simp at h; subst h; exact ⟨by simp [isAgg,run_underlying hu],fun k' hk=>by cases hk; exact hs k hz⟩
  ·cases hz:sizeT P t with
   | none=>rw [hz] at h; simp at h
   | some k=>rw [hz] at h; simp at h; subst h; exact ⟨by simp [isAgg,run_underlying hu],fun k' hk=>by cases hk; exact hs k hz⟩
theorem jc {P:Program} {t:TypeId} {k:Nat} (h:sizeT P t=some k) (w:World):(sizeOf t).run P w = .ok k w:=by
 unfold sizeT at h;cases hi:P.info? t with
 | none=>rw [hi] at h; simp at h
 | some i=>rw [hi] at h; simp at h; subst h; simp [sizeOf,typeInfo,hi]
theorem po {P:Program} {t:TypeId} {n:Option Nat} {cs:List AVal} {c:Array Value} {o:Nat} {r:AVal} (w:World) (ht:partT P t=some n) (hc:VRels E μ cs c.toList) (h1:∀ x ∈ cs,x.isOne=true) (h:Abs.part cs o n=some r) :
  ∃ v,(Go.part t c o).run P w = .ok v w∧VRel E μ r v:=by
 obtain ⟨ha,hs⟩:=run_isAgg ht w;cases n with
 | none =>
  simp only [Abs.part] at h;obtain ⟨v,hv,hr⟩:=hc.get h;refine ⟨v,?_,hr⟩;have hv':c[o]? = some v:=by simpa using hv
  simp [Go.part,ha,hv']
 | some k =>
  simp only [Abs.part] at h;split at h
  ·rename_i hl;cases h;have hlen:=hc.length;refine ⟨.agg (c.extract o (o+k)),?_,?_⟩
   ·simp [Go.part,ha,hs k rfl]
   ·simp only [VRel];refine ⟨_,rfl,?_,fun x hx=>h1 x (List.mem_of_mem_drop (List.mem_of_mem_take hx))⟩;apply VRels.of
    ·simp at hlen ⊢; omega
    ·intro j x hj
     have hjk:j < k:=by
      rcases bi j k with h2 | h2
      ·exact h2
      ·rw [bv (by simp; omega)] at hj; cases hj
     rw [gj hjk,ef] at hj;obtain ⟨v,hv,hr⟩:=hc.get hj;refine ⟨v,?_,hr⟩;rw [← hv,lr,lr,Array.getElem?_extract,if_pos];simp at hlen;omega
  ·cases h
theorem yj (hf:FRel E lo ν μ (sget s) a.tmps w) (hr:Rel E μ h w) {x:Operand} {y:Opd} {ad:AAddr} {cs:List AVal} {o:Nat} (hc:g8 E x=some y) (hy:y.adr s=some ad) (hcs:cellsAt s h ad=some (cs,o)) :
  ∃ b p c e fr,a.eval x = .pointer (some ⟨b,p+o,none⟩)∧w.heap[b]? = some (.cells c e fr)∧p+cs.length≤c.size∧CRel E μ cs c p:=by
 cases ad with
 | glob i o' =>
  simp only [cellsAt] at hcs;split at hcs
  ·rename_i esz cs' hg;cases hcs;obtain ⟨m,c,e,fr,h1,_,h2,h3,h4,h5,_⟩:=hr.obj i _ hg;obtain ⟨ad,h6,x',h7,h8⟩:=sy hf hc hy;rw [h1] at h7; cases h7;have:=h8 m rfl; subst this;exact ⟨m.blk,m.base,c,e,fr,h6,h2,by omega,h5⟩
  ·cases hcs
 | loc t o' =>
  simp only [cellsAt] at hcs;split at hcs
  ·rename_i cs' hg;cases hcs;obtain ⟨h1,h2,c,e,fr,h3,h4,h5,h6⟩:=hf.var t _ hg;exact ⟨ν t,0,c,e,fr,by rw [ed]; exact vl hf hc hy hg,h3,by omega,h5⟩
  ·cases hcs
theorem od (b o n:Nat):(⟨b,o,none⟩:Addr).add n=⟨b,o+n,none⟩:=by
 unfold Addr.add;split
 ·rename_i h; subst h; rfl
 ·rfl
theorem sx {P:Program} {w:World} {b o n:Nat} {l:List Value} (hl:l.length=n) (h:∀ j v,l[j]? = some v→w.cell? ⟨b,o+j,none⟩=some v):(loadCells ⟨b,o,none⟩ n).run P w = .ok l.toArray w:=by subst hl;exact run_loadCells_list (P:=P) (w:=w) ⟨b,o,none⟩ l fun j v hj=>by rw [od]; exact h j v hj
theorem load_rel {P:Program} {t:TypeId} {n:Option Nat} {cs:List AVal} {o b p:Nat} {c:Array Value} {e:TypeId} {fr:Nat × Nat} {r:AVal}
  (ht:partT P t=some n) (hb:w.heap[b]? = some (.cells c e fr)) (hl:p+cs.length≤c.size) (hc:CRel E μ cs c p) (h:Abs.part cs o n=some r) :
  ∃ v,(loadVar t ⟨b,p+o,none⟩).run P w = .ok v w∧VRel E μ r v:=by
 obtain ⟨ha,hs⟩:=run_isAgg ht w;cases n with
 | none =>
  simp only [Abs.part] at h;obtain ⟨_,v,hv,hr⟩:=hc o r h;refine ⟨v,?_,hr⟩;simp [loadVar,ha,mr hb,hv]
 | some k =>
  simp only [Abs.part] at h;split at h
  ·rename_i hk;cases h
   have hrun:(loadCells ⟨b,p+o,none⟩ k).run P w = .ok ((c.toList.drop (p+o)).take k).toArray w:=by
    refine sx (by simp; omega) fun j v hj=>?_
    rw [mr hb,← hj]
    have hjk:j < k:=by
     rcases bi j k with h2 | h2
     ·exact h2
     ·rw [bv (by simp; omega)] at hj; cases hj
    rw [gj hjk,ef]; simp
   refine ⟨.agg ((c.toList.drop (p+o)).take k).toArray,by simp [loadVar,ha,hs k rfl,hrun],?_⟩;simp only [VRel];refine ⟨_,rfl,?_,fun x hx=>?_⟩
   ·apply VRels.of
    ·simp; omega
    ·intro j x hj
     have hjk:j < k:=by
      rcases bi j k with h2 | h2
      ·exact h2
      ·rw [bv (by simp; omega)] at hj; cases hj
     rw [gj hjk,ef] at hj;obtain ⟨_,v,hv,hr⟩:=hc _ x hj;refine ⟨v,?_,hr⟩;rw [← hv];simp only;rw [gj hjk,ef];simp [mz]
   ·have hx':=List.mem_of_mem_drop (List.mem_of_mem_take hx);obtain ⟨j,hj⟩:=ig hx';exact (hc j x hj).1
  ·cases h
theorem qm (hr:Rel E μ h w) {esz:Nat} {x:AVal} {v:Value} {cs:List AVal} (hx:VRel E μ x v) (hc:iw esz h x=some cs) :
  ∃ l n,VRels E μ cs l∧(∀ y ∈ cs,y.isOne=true)∧(∀ P w',(Builtin.lenOf v).run P w' = .ok n w')∧l.length=n*esz ∧
   n=alen x ∧
   ∀ (P:Program) (w':World),w'.heap=w.heap→(Builtin.firstCells esz n v).run P w' = .ok l.toArray w':=by
 cases x <;> simp only [iw] at hc <;> (try cases hc)
 case str t =>
  simp only [VRel] at hx; subst hx;split at hc;case isFalse=>cases hc
  rename_i he1;subst he1;cases hc;refine ⟨t.map fun b=>.int .u8 b.toNat,t.length,?_,?_,?_,by simp,rfl,?_⟩
  ·apply VRels.of
   ·simp
   ·intro k x hk;simp only [bk,ae] at hk ⊢;obtain ⟨b,hb,rfl⟩:=hk;exact ⟨_,⟨b,hb,rfl⟩,by simp [VRel]⟩
  ·intro y hy;obtain ⟨b,_,rfl⟩:=cq.1 hy;rfl
  ·intro P w';simp [Builtin.lenOf,pb]
  ·intro P w' _;have:=firstCells_string (P:=P) (⟨t.toArray⟩:ByteArray) w';rw [pb] at this;rw [this]; simp [byteCells]
 case slice ad n c =>
  cases ad with
  | none =>
   simp only at hc; cases hc;simp only [VRel] at hx;obtain ⟨rfl,rfl,rfl⟩:=hx;exact ⟨[],0,by simp [VRels],by simp,fun P w'=>rfl,by simp,rfl,fun P w' _=>by simp [Builtin.firstCells]⟩
  | some io =>
   obtain ⟨i,o⟩:=io;simp only at hc;simp only [VRel] at hx;obtain ⟨ad,cap,rfl,_,hA0,_,hcap,_⟩:=hx;split at hc
   ·rename_i h0;subst h0; cases hc;exact ⟨[],0,by simp [VRels],by simp,fun P w'=>rfl,by simp,rfl,fun P w' _=>by simp [Builtin.firstCells,loadCells,loadCellsFrom]⟩
   ·rename_i h0;split at hc
    ·rename_i e' cs' hg;split at hc
     ·rename_i hh;cases hc;obtain ⟨rfl,hlen⟩:=hh;obtain ⟨m,c',te,fr,h1,h2,h3,h4,h5,h6,_⟩:=hr.obj i _ hg;obtain ⟨x',h7,h8⟩:=hA0 (by omega);rw [h1] at h7; cases h7;have:=h8 m rfl; subst this;refine ⟨(c'.toList.drop (m.base+o)).take (n*e'),n,?_,?_,fun P w'=>rfl,by simp; omega,rfl,?_⟩
      ·apply VRels.of
       ·simp; omega
       ·intro j x hj
        have hjk:j < n*e':=by
         rcases bi j (n*e') with h9 | h9
         ·exact h9
         ·rw [bv (by simp; omega)] at hj; cases hj
        rw [gj hjk,ef] at hj;obtain ⟨_,v,hv,hrr⟩:=h6 _ x hj;refine ⟨v,?_,hrr⟩;rw [gj hjk,ef,← hv];simp [mz]
      ·intro y hy;obtain ⟨j,hj⟩:=ig (List.mem_of_mem_drop (List.mem_of_mem_take hy));exact (h6 j y hj).1
      ·intro P w' hw;simp only [Builtin.firstCells];refine sx (by simp; omega) fun j v hj=>?_
       have hjk:j < n*e':=by
        rcases bi j (n*e') with h9 | h9
        ·exact h9
        ·rw [bv (by simp; omega)] at hj; cases hj
       rw [mr (by rw [hw]; exact h3),← hj,gj hjk,ef];simp
     ·cases hc
    ·cases hc
end
end Go.Abs

namespace Go.Abs
section
variable {E:Env} {lo:Nat} {ν:Fr} {μ:MM} {s:Slots} {h:Heap} {a:Act} {w:World} {d:Nat}
theorem nr {n k:Nat} {v:AVal} {u:Value} (hv:VRel E μ v u) (h:inBounds n v=some k):∃ kd i,u = .int kd i∧0≤i∧i < n∧k=i.toNat:=by
 cases v <;> simp only [inBounds] at h <;> (try cases h)
 case int kd i =>
  split at h
  ·rename_i hh; cases h;simp only [VRel] at hv;exact ⟨kd,i,hv,hh.1,hh.2,rfl⟩
  ·cases h
theorem vi {P:Program} {n y k:Nat} {v:AVal} {u:Value} (hv:VRel E μ v u) (h:upTo n v=some k) (hn:n≤y) (code:BoundsCode) (w:World) :
  (Instr.sliceBound u y code).run P w = .ok k w∧k≤n:=by
 cases v <;> simp only [upTo] at h <;> (try cases h)
 case int kd i =>
  split at h
  ·rename_i hh; cases h;simp only [VRel] at hv; subst hv;refine ⟨?_,by omega⟩;have:0≤i∧i≤y:=⟨hh.1,by omega⟩;simp [Instr.sliceBound,asIntOf,this]
  ·cases h
def OptRel (E:Env) (μ:MM):Option AVal→Option Value→Prop
 | none,u=>u=none
 | some v,u=>∃ x,u=some x∧VRel E μ v x
theorem o9 (hf:FRel E lo ν μ (sget s) a.tmps w) {x:Option Operand} {y:Option Opd} {v:Option AVal} (hc:cOpt E x=some y) (he:optEv s y=some v):OptRel E μ v (x.map a.eval):=by
 cases x with
 | none =>
  simp only [cOpt] at hc; cases hc;simp only [optEv] at he; cases he;simp [OptRel]
 | some x =>
  simp only [cOpt] at hc;rw [ae] at hc;obtain ⟨y',hy,rfl⟩:=hc;simp only [optEv] at he;rw [ae] at he;obtain ⟨v',hv,rfl⟩:=he;exact ⟨_,rfl,ce hf hy hv⟩
theorem low_rel {P:Program} {b a':Nat} {l1:Option AVal} {l2:Option Value} (hl:OptRel E μ l1 l2) (h:lowB b l1=some a') (code:BoundsCode) (w:World) :
  a'≤b∧∀ (β:Type) (f:Nat→Sem β),(match l2 with
   | some v=>Instr.sliceBound v b code >>= f
   | none=>pure 0 >>= f).run P w=(f a').run P w:=by
 cases l1 with
 | none =>
  simp only [OptRel] at hl; subst hl;simp only [lowB] at h; cases h;exact ⟨ge _,fun β f=>rfl⟩
 | some l =>
  simp only [OptRel] at hl;obtain ⟨x,rfl,hx⟩:=hl;simp only [lowB] at h;obtain ⟨k1,k2⟩:=vi (P:=P) hx h (aj _) code w;exact ⟨k2,fun β f=>by simp only [Sem.run_bind,k1,Result.andThen_ok]⟩
theorem rj {P:Program} {n cap a' b:Nat} {c m:Option Nat} {l1 h1 m1:Option AVal} {l2 h2 m2:Option Value} (isS:Bool) (hl:OptRel E μ l1 l2) (hh:OptRel E μ h1 h2) (hm:OptRel E μ m1 m2)
  (hb:bounds n c l1 h1 m1=some (a',b,m)) (hn:n≤cap) (hc:∀ k,c=some k→cap=k) (w:World) :
  (Instr.sliceBounds isS n cap l2 h2 m2).run P w = .ok (a',b,m.getD cap) w∧a'≤b∧b≤m.getD cap∧m.getD cap≤cap:=by
 have hcn:c.getD n≤cap:=by
  cases c with
  | none=>exact hn
  | some k=>have:=hc k rfl; simp; omega
 have hcc:c.getD cap=cap:=by
  cases c with
  | none=>rfl
  | some k=>have:=hc k rfl; simpa using this.symm
 unfold bounds at hb;cases m1 with
 | some mv =>
  simp only [OptRel] at hm;obtain ⟨mx,rfl,hmx⟩:=hm;simp only at hb;split at hb
  ·rename_i m' hm';obtain ⟨k1,k2⟩:=vi (P:=P) hmx hm' hcn (if isS then .slice3Acap else .slice3Alen) w;cases h1 with
   | none=>cases hb
   | some hv =>
    simp only [OptRel] at hh;obtain ⟨hx,rfl,hhx⟩:=hh;simp only at hb;split at hb
    ·rename_i b' hb';obtain ⟨k3,k4⟩:=vi (P:=P) hhx hb' (aj _) .slice3B w;rw [ae] at hb;obtain ⟨a1,ha1,e⟩:=hb;cases e;obtain ⟨k5,k6⟩:=low_rel (P:=P) hl ha1 .slice3C w;refine ⟨?_,k5,by simpa using k4,by simp; omega⟩;simp only [Instr.sliceBounds,Sem.run_bind,k1,Result.andThen_ok,k3,Option.isSome_some,if_true,gh];exact k6 _ fun l=>pure (l,b,m')
    ·cases hb
  ·cases hb
 | none =>
  simp only [OptRel] at hm; subst hm;simp only at hb;cases h1 with
  | none =>
   simp only [OptRel] at hh; subst hh;simp only at hb;rw [ae] at hb;obtain ⟨a1,ha1,e⟩:=hb;cases e;obtain ⟨k5,k6⟩:=low_rel (P:=P) hl ha1 .sliceB w;refine ⟨?_,k5,by rw [hcc]; exact hn,by rw [hcc]; exact aj _⟩;rw [hcc];simp only [Instr.sliceBounds,Sem.run_bind,Sem.run_pure,Result.andThen_ok,Option.isSome_none,de,if_false];exact k6 _ fun l=>pure (l,n,cap)
  | some hv =>
   simp only [OptRel] at hh;obtain ⟨hx,rfl,hhx⟩:=hh;simp only at hb;split at hb
   ·rename_i b' hb';obtain ⟨k3,k4⟩:=vi (P:=P) hhx hb' hcn (if isS then .sliceAcap else .sliceAlen) w;rw [ae] at hb;obtain ⟨a1,ha1,e⟩:=hb;cases e;obtain ⟨k5,k6⟩:=low_rel (P:=P) hl ha1 .sliceB w;refine ⟨?_,k5,by rw [hcc]; omega,by rw [hcc]; exact aj _⟩;rw [hcc];simp only [Instr.sliceBounds,Sem.run_bind,Sem.run_pure,Result.andThen_ok,k3,Option.isSome_none,de,if_false];exact k6 _ fun l=>pure (l,b,cap)
   ·cases hb
theorem extract_mk (t:List UInt8) (a b:Nat):(⟨t.toArray⟩:ByteArray).extract a b=⟨((t.drop a).take (b - a)).toArray⟩:=by apply ByteArray.ext;apply Array.ext';simp [ByteArray.data_extract]
theorem row_slice {i o e cap a' b:Nat} {m:Option Nat} {ad:Addr} (hr:Rel E μ h w) (hi:i < μ.length∧cap≤9223372036854775807) (hA:0 < cap→ARel μ i o ad) (hs:∀ m:M,μ[i]? = some (some m)→m.base+o+cap*m.esz≤m.size)
  (he:eszIs h i e=true) (h1:a'≤b) (h2:b≤m.getD cap) (h3:m.getD cap≤cap) :
  VRel E μ (.slice (some (i,if m=some a' then o else o+a'*e)) (b - a') (m.map (· - a'))) (.slice (if m.getD cap=a' then some ad else (some ad).map (·.add (a'*e))) (b - a') (m.getD cap - a')):=by
 have hesz:∀ m:M,μ[i]? = some (some m)→m.esz=e:=by
  intro m hm;unfold eszIs at he;split at he
  ·rename_i e' cs hg;obtain ⟨m',c,te,fr,k1,k2,_⟩:=hr.obj i _ hg;rw [hm] at k1; cases k1;rw [k2]; simpa using he
  ·rename_i hg;have:=hr.obj i _ hg;simp only [ORel] at this;rw [hm] at this; cases this
  ·cases he
 have hmap:∀ k,m.map (· - a')=some k→m.getD cap - a'=k:=by intro k hk;rw [ae] at hk;obtain ⟨x,rfl,rfl⟩:=hk;rfl
 simp only [VRel];by_cases hc:m.getD cap=a'
 ·-- nothing is left: where it stands does not matter
  rw [if_pos hc];refine ⟨ad,m.getD cap - a',rfl,⟨hi.1,by omega⟩,fun h0=>absurd h0 (by omega),hmap,by omega,fun m' hm'=>?_⟩;have k1:=hs m' hm';have k2:=hesz m' hm';have:m.getD cap - a'=0:=by omega
  rw [this,Nat.zero_mul,Nat.add_zero];split
  ·have:=ge (cap*m'.esz); omega
  ·rw [k2] at k1;have:a'*e≤cap*e:=ii _ (by omega);omega
 ·rw [if_neg hc];have hne:¬ (m=some a'):=by intro e'; rw [e'] at hc; simp at hc
  rw [if_neg hne];refine ⟨ad.add (a'*e),m.getD cap - a',rfl,⟨hi.1,by omega⟩,fun h0=>?_,hmap,by omega,fun m' hm'=>?_⟩
  ·obtain ⟨x,hx,hm⟩:=hA (by omega);refine ⟨x,hx,fun m' hm'=>?_⟩;rw [hm m' hm',od];congr 1;omega
  ·have k1:=hs m' hm';have k2:=hesz m' hm';rw [k2] at k1 ⊢;have:a'*e+(m.getD cap - a')*e≤cap*e:=by rw [← gl]; exact ii _ (by omega)
   omega
theorem slice_rel (hf:FRel E lo ν μ (sget s) a.tmps w) (hr:Rel E μ h w) {t:TypeId} {x:Operand} {lo' hi' mx':Option Operand} {ao:AOp} {k:SliceKind} {y:Opd} {l1 h1 m1:Option Opd} {lv hv mv:Option AVal} {r:AVal}
  (hop:cOp E false (.slice t x lo' hi' mx')=some ao) (hao:ao = .slice k y l1 h1 m1) (hl:optEv s l1=some lv) (hh:optEv s h1=some hv) (hm:optEv s m1=some mv) (he:aSlice k s h y lv hv mv=some r) :
  ∃ v,(Instr.sliceAt t (a.eval x) (lo'.map a.eval) (hi'.map a.eval) (mx'.map a.eval)).run E.P w = .ok v w∧VRel E μ r v:=by
 subst hao;simp only [cOp] at hop;split at hop;case h_2=>cases hop
 rename_i y' l1' h1' m1' cx cl ch cm;split at hop
 ·rename_i hu;cases hop;have rl:=o9 hf cl hl;have rh:=o9 hf ch hh;simp only [aSlice] at he;split at he
  ·rename_i t' hx;have rx:=ce hf cx hx;simp only [VRel] at rx;split at he
   ·have rm:=o9 hf cm hm;simp only [OptRel] at rm;rw [ae] at he;obtain ⟨⟨a',b,m⟩,hb,rfl⟩:=he;obtain ⟨k1,k2,k3,k4⟩:=rj (P:=E.P) false rl rh (by simp only [OptRel]:OptRel E μ none none) hb (aj _) (fun k hk=>by cases hk; rfl) w;refine ⟨.string ⟨((t'.drop a').take (b - a')).toArray⟩,?_,by simp [VRel]⟩;simp only [Instr.sliceAt,Sem.run_bind,run_underlying hu,Result.andThen_ok,Instr.slice,rx,rm,Option.isSome_none,de,if_false,pb,k1,extract_mk];rfl
   ·cases he
  ·cases he
 ·rename_i e hu;rw [ae] at hop;obtain ⟨n,hn,hop⟩:=hop;cases hop;have rl:=o9 hf cl hl;have rh:=o9 hf ch hh;have rm:=o9 hf cm hm;have hz:=jc (P:=E.P) hn w;simp only [aSlice] at he;split at he
  ·rename_i n' c' hx;have rx:=ce hf cx hx;simp only [VRel] at rx;obtain ⟨e1,e2,rx⟩:=rx;rw [ae] at he;obtain ⟨⟨a',b,m⟩,hb,rfl⟩:=he;obtain ⟨k1,k2,k3,k4⟩:=rj (P:=E.P) true rl rh rm hb (aj _) (fun k hk=>by cases hk; rfl) w;have h0:m.getD 0=0:=by omega
   have hb0:b=0:=by omega
   have ha0:a'=0:=by omega
   refine ⟨.slice none 0 0,?_,by simp [VRel]⟩;simp only [Instr.sliceAt,Sem.run_bind,run_underlying hu,Result.andThen_ok,Instr.slice,rx,k1,hz,h0,hb0,ha0];rfl
  ·rename_i i o n' c' hx;have rx:=ce hf cx hx;simp only [VRel] at rx;obtain ⟨ad,cap,rx,r1,r2,r3,r4,r5⟩:=rx;split at he
   ·rename_i hes;rw [ae] at he;obtain ⟨⟨a',b,m⟩,hb,rfl⟩:=he;obtain ⟨k1,k2,k3,k4⟩:=rj (P:=E.P) true rl rh rm hb r4 r3 w;refine ⟨_,?_,row_slice hr r1 r2 r5 hes k2 k3 k4⟩;simp only [Instr.sliceAt,Sem.run_bind,run_underlying hu,Result.andThen_ok,Instr.slice,rx,k1,hz];rfl
   ·cases he
  ·cases he
 ·rename_i n e hu;rw [ae] at hop;obtain ⟨k,hk,hop⟩:=hop;cases hop;have rl:=o9 hf cl hl;have rh:=o9 hf ch hh;have rm:=o9 hf cm hm;have hz:=jc (P:=E.P) hk w;simp only [aSlice] at he;split at he
  ·rename_i i o hx;obtain ⟨ad,rx,rA⟩:=sy hf cx hx;split at he
   ·rename_i e' cs hg;split at he
    ·rename_i hh';obtain ⟨rfl,hlen,hn63⟩:=hh';rw [ae] at he;obtain ⟨⟨a',b,m⟩,hb,rfl⟩:=he;obtain ⟨k1,k2,k3,k4⟩:=rj (P:=E.P) false rl rh rm hb (aj _) (fun k hk=>by cases hk; rfl) w;obtain ⟨m0,c,te,fr,j1,j2,j3,j4,j5,j6,_⟩:=hr.obj i _ hg;have:=row_slice (e:=e') (m:=m) (cap:=n) hr ⟨ah j1,hn63⟩ (fun _=>rA) (fun m' hm'=>by rw [j1] at hm'; cases hm'; rw [j2]; omega) (by simp [eszIs,hg]) k2 k3 k4;refine ⟨_,?_,this⟩;simp only [Instr.sliceAt,Sem.run_bind,run_underlying hu,Result.andThen_ok,rx,Instr.sureAddr,Sem.run_pure,k1,hz];congr 1;split <;> rfl
    ·cases he
   ·cases he
  ·cases he
 ·cases hop
theorem string_get (t:List UInt8) (j:Nat):(⟨t.toArray⟩:ByteArray)[j]? = t[j]?:=by
 by_cases h:j < t.length
 ·have h':j < (⟨t.toArray⟩:ByteArray).size:=by rw [pb]; exact h
  rw [getElem?_pos (⟨t.toArray⟩:ByteArray) j h',ai h]; rfl
 ·have h':¬ j < (⟨t.toArray⟩:ByteArray).size:=by rw [pb]; exact h
  rw [getElem?_neg (⟨t.toArray⟩:ByteArray) j h',bv (by omega)]
end
end Go.Abs

namespace Go.Abs
def OpDone (E:Env) (lo:Nat) (D:List Nat) (μ:MM) (w:World) (a:Act) (dst:Option Tmp) (r:Result Next) (x:Slot) (s':Slots) (h':Heap):Prop :=
 ∃ v w' μ' ν',ν'.ds=D∧(r = .ok (.value v) w'∨(v=Go.undef∧r = .ok .skip w'))∧Step (fun k=>lo≤k) h'.wmin μ w μ' w'∧Rel E μ' h' w' ∧
  FRel E lo ν' μ' (im (sget s') dst x) (a.put dst v).tmps w'
section
variable {E:Env} {lo:Nat} {ν:Fr} {μ:MM} {s:Slots} {h:Heap} {a:Act} {w:World} {dst:Option Tmp} {r:Result Next}
theorem iu (a:Act) (dst:Option Tmp) (v:Value):(a.put dst v).tmps=putT a.tmps dst v:=by cases dst <;> rfl
theorem FRel.heap {g:SlotFn} {tmps:Array Value} {w':World} (hf:FRel E lo ν μ g tmps w) (hw:w'.heap=w.heap):FRel E lo ν μ g tmps w' :=
 hf.keep (Later.refl _) (fun _ _ _=>by rw [hw]) (fun _ _ i m _ hi hm=>absurd (ah hm) (by omega)) fun _ _=>⟨by rw [hw],fun i m hi hm=>absurd (ah hm) (by omega)⟩
theorem e8 (hf:FRel E lo ν μ (sget s) a.tmps w) (hr:Rel E μ h w) (hd:∀ x,dst=some x→x < a.tmps.size) {v:Value} {u:AVal} (hrun:r = .ok (.value v) w) (hv:VRel E μ u v) :
  OpDone E lo ν.ds μ w a dst r (.val u) s h:=by
 refine ⟨v,w,μ,ν,rfl,.inl hrun,Step.refl _ _ _ _,hr,?_⟩;rw [iu];exact hf.setVal hd hv
theorem zam (hf:FRel E lo ν μ (sget s) a.tmps w) (hr:Rel E μ h w) (hd:∀ x,dst=some x→x < a.tmps.size) {t o:Nat} (hrun:r = .ok (.value (.pointer (some ⟨ν t,o,none⟩))) w) :
  OpDone E lo ν.ds μ w a dst r (.loc t o) s h:=by
 refine ⟨_,w,μ,ν,rfl,.inl hrun,Step.refl _ _ _ _,hr,?_⟩;rw [iu];cases dst with
 | none=>exact hf.congr fun t=>by simp [im]
 | some d=>exact hf.setLoc (hd d rfl)
theorem lw (hf:FRel E lo ν μ (sget s) a.tmps w) (hr:Rel E μ h w) (hd:∀ x,dst=some x→x < a.tmps.size) (o:AObj) (B:Obj) (m:M) (hm:m.blk=w.heap.size) {w1:World} {v:Value} {u:AVal}
  (hrun:r = .ok (.value v) w1) (h1:w1.heap=w.heap.push B) (h2:w1.os=w.os) (h3:w1.tape=w.tape) (h4:w1.output=w.output)
  (ho:ORel E (μ++[some m]) h.base μ.length { w with heap:=w.heap.push B } o) (hv:VRel E (μ++[some m]) u v) :
  OpDone E lo ν.ds μ w a dst r (.val u) s (h.push o):=by
 have hp:=hr.push o B m hm ho;have hs:Step (fun k=>lo≤k) (h.push o).wmin μ w (μ++[some m]) { w with heap:=w.heap.push B }:=Step.push _ μ w B m (by omega);refine ⟨v,w1,μ++[some m],ν,rfl,.inl hrun,hs.heap h1 h2 h3 h4,hp.same rfl rfl h1,?_⟩
 have hf1:FRel E lo ν (μ++[some m]) (sget s) a.tmps { w with heap:=w.heap.push B }:=by
  refine hf.keep (ij μ _) (fun t cs hv=>?_) (fun t cs i m' hv hi hm'=>?_) fun r hr=>⟨?_,fun i m' hi hm'=>?_⟩
  ·have:=hf.lt hv;show (w.heap.push B)[ν t]? = _;rw [di,if_neg (by omega)]
  ·rcases jd hm' with b | ⟨_,b⟩
   ·exact absurd (ah b) (by omega)
   ·cases b; have:=hf.lt hv; omega
  ·have:=hf.lt_ds hr;show (w.heap.push B)[r]? = _;rw [di,if_neg (by omega)]
  ·rcases jd hm' with b | ⟨_,b⟩
   ·exact absurd (ah b) (by omega)
   ·cases b; have:=hf.lt_ds hr; omega
 rw [iu];exact (hf1.setVal hd hv).heap h1
theorem done_var (hf:FRel E lo ν μ (sget s) a.tmps w) (hr:Rel E μ h w) (hlo:lo≤w.heap.size) {d:Nat} (hd:d < a.tmps.size) {cs:List AVal} {c:Array Value} (e:TypeId)
  (hc:VRels E μ cs c.toList) (h1:∀ x ∈ cs,x.isOne=true) (hrun:r = .ok (.value (.pointer (some ⟨w.heap.size,0,none⟩))) { w with heap:=w.heap.push (.cells c e (0,0)) }) :
  OpDone E lo ν.ds μ w a (some d) r (.var cs) (px d s) h:=by
 refine ⟨_,_,μ,⟨fun t=>if t=d then w.heap.size else ν t,ν.ds⟩,rfl,.inl hrun,?_,hr.keep (by simp) (fun i m hm=>?_) (fun k _ hk=>?_),?_⟩
 ·exact ⟨rfl,rfl,rfl,by simp,fun k hk _ _=>by
   show (w.heap.push _)[k]? = _
   rw [di,if_neg (by omega)],aj _,fun _ _=>.inl rfl,fun i m hi hm=>absurd (ah hm) (by omega)⟩
 ·have:=hr.lt i m hm;show (w.heap.push _)[m.blk]? = _;rw [di,if_neg (by omega)]
 ·show (w.heap.push _)[k]? = _
  rw [di,if_neg (by omega)]
 ·rw [iu];exact hf.setVar hr.lt hlo hd e hc h1
theorem sr {P:Program} {t:TypeId} {z:List AVal} (hz:zeroOf P t=some z) (μ:MM) (w:World):∃ v,(zeroValue t).run P w = .ok v w∧VRels E μ z v.cells.toList∧∀ x ∈ z,x.isOne=true:=by
 unfold zeroOf at hz;split at hz
 ·rename_i i hi;split at hz
  ·rename_i v hv;obtain ⟨k1,k2⟩:=td (E:=E) hz μ;exact ⟨v,by simp [zeroValue,typeInfo,hi,hv],k1,k2⟩
  ·cases hz
 ·cases hz
theorem info_zero {P:Program} {t:TypeId} {z:List AVal} (hz:zeroOf P t=some z):∃ i v,P.info? t=some i∧i.zero=some v∧toAs v.cells.toList=some z:=by
 unfold zeroOf at hz;split at hz
 ·rename_i i hi;split at hz
  ·rename_i v hv;exact ⟨i,v,hi,hv,hz⟩
  ·cases hz
 ·cases hz
theorem ql {cs:List AVal} {c:Array Value} {e:TypeId} {esz b:Nat} {m:M} (hc:VRels E μ cs c.toList) (h1:∀ x ∈ cs,x.isOne=true) (hm:m=⟨w.heap.size,0,c.size,esz⟩) :
  ORel E (μ++[some m]) b μ.length { w with heap:=w.heap.push (.cells c e (0,0)) } (.cells esz cs):=by
 subst hm;have hl:=hc.length;refine ⟨⟨w.heap.size,0,c.size,esz⟩,c,e,(0,0),by simp,rfl,by simp,rfl,by simp at hl ⊢; omega,fun k v hk=>?_,fun _=>⟨aj _,fun off _=>by simp⟩⟩;obtain ⟨v',hv',hr⟩:=hc.get hk;exact ⟨h1 v (bn hk),v',by simpa using hv',hr.later (ij μ _)⟩
theorem ptr_new {m:M} (hm:m.base=0):VRel E (μ++[some m]) (.ptr (some (μ.length,0))) (.pointer (some ⟨m.blk,0,none⟩)):=by simp only [VRel];exact ⟨_,rfl,some m,by simp,fun m' h=>by cases h; rw [hm]⟩
theorem oc {m:M} {n cap:Nat} {c:Option Nat} (hm:m.base=0) (hn:n≤cap) (hc:∀ k,c=some k→cap=k) (hs:cap*m.esz≤m.size) (hx:cap≤9223372036854775807) :
  VRel E (μ++[some m]) (.slice (some (μ.length,0)) n c) (.slice (some ⟨m.blk,0,none⟩) n cap):=by
 simp only [VRel];refine ⟨_,cap,rfl,⟨by simp,hx⟩,fun _=>⟨some m,by simp,fun m' h=>by cases h; rw [hm]⟩,hc,hn,fun m' h=>?_⟩;simp at h; subst h; omega
theorem yi:∀ (xs:List Value) (cs:Array Value) (off j:Nat),(xs.zipIdx j).foldl (fun (cs:Array Value) (x:Value × Nat)=>cs.setIfInBounds (off+x.2) x.1) cs=jz cs (off+j) xs
 | [],_,_,_=>rfl
 | x :: xs,cs,off,j=>by simp only [List.zipIdx_cons,kz,jz];exact yi xs _ off (j+1)
theorem sv (hf:FRel E lo ν μ (sget s) a.tmps w) {place:Nat→Option (Nat × Nat)}:∀ {ps:List (Nat × Operand)} {qs:List (Nat × Nat × Opd)} {cs cs':List AVal} {c:Array Value},
  cParts E place ps=some qs→Abs.fill s cs qs=some cs'→VRels E μ cs c.toList→(∀ x ∈ cs,x.isOne=true) →
  ∃ c':Array Value,Instr.fill place c (ps.map fun p=>(p.1,a.eval p.2))=some c'∧VRels E μ cs' c'.toList∧(∀ x ∈ cs',x.isOne=true)∧c'.size=c.size
 | [],qs,cs,cs',c,hq,he,hc,h1=>by simp only [cParts] at hq; cases hq;simp only [Abs.fill] at he; cases he;exact ⟨c,rfl,hc,h1,rfl⟩
 | (i,x) :: ps,qs,cs,cs',c,hq,he,hc,h1=>by
  simp only [cParts] at hq;split at hq
  ·rename_i o n y qs' hp hx hps;cases hq;simp only [Abs.fill] at he;split at he
   ·rename_i xs hxs;split at he
    ·rename_i hh;obtain ⟨hn,hlen⟩:=hh;cases hev:y.ev s with
     | none=>rw [hev] at hxs; simp at hxs
     | some v =>
      rw [hev] at hxs;simp only [Option.bind_some] at hxs;have hv:=ce hf hx hev;obtain ⟨k1,k2⟩:=qn hv hxs;have k3:=k1.length;have hlc:=hc.length
      have hcr:CRel E μ cs c 0:=fun k v' hk=>by obtain ⟨u,hu,hr⟩:=hc.get hk;exact ⟨h1 v' (bn hk),u,by simpa using hu,hr⟩
      have hsp:=hcr.splice k1 k2 (o:=o) (by omega) (by simp at hlc; omega);have hl2:=ly cs o xs (by omega);have hsz:=jy (a.eval x).cells.toList c (0+o)
      have hrel:VRels E μ (Abs.splice cs o xs) (jz c (0+o) (a.eval x).cells.toList).toList:=by
       apply VRels.of
       ·simp [hl2,jy]; simpa using hlc
       ·intro k v' hk;obtain ⟨_,u,hu,hr⟩:=hsp k v' hk;exact ⟨u,by simpa using hu,hr⟩
      have hone:∀ x' ∈ Abs.splice cs o xs,x'.isOne=true:=fun x' hx'=>by obtain ⟨k,hk⟩:=ig hx';exact (hsp k x' hk).1
      obtain ⟨c',j1,j2,j3,j4⟩:=sv hf hps he hrel hone;refine ⟨c',?_,j2,j3,by rw [j4,hsz]⟩;simp only [bo,Instr.fill,hp]
      have e1:((a.eval x).cells.size≠n || o+(a.eval x).cells.size > c.size)=false:=by simp at k3 hlc;simp; omega
      rw [if_neg (by simp only [e1]; exact Bool.false_ne_true)]
      have e2:((a.eval x).cells.zipIdx.foldl (fun (cs:Array Value) (x:Value × Nat)=>cs.setIfInBounds (o+x.2) x.1) c)=jz c (0+o) (a.eval x).cells.toList:=by have:=yi (a.eval x).cells.toList c o 0;rw [← Array.foldl_toList,Array.toList_zipIdx,this];congr 1; omega
      rw [e2]; exact j1
    ·cases he
   ·cases he
  ·cases hq
theorem zan {P:Program} (w:World):∀ {fs:List Field} {pl:List (Nat × Nat)},fieldPlaces P fs=some pl→(fs.mapM fun f=>(Functor.map (Prod.mk f.offset) (sizeOf f.type):Sem (Nat × Nat))).run P w = .ok pl w
 | [],pl,h=>by simp only [fieldPlaces] at h; cases h; rfl
 | f :: fs,pl,h=>by
  simp only [fieldPlaces] at h;split at h
  ·rename_i n l hn hl;cases h;have ih:=zan w hl;simp only [List.mapM_cons,Sem.run_bind,Sem.run_map,jc hn,Result.andThen_ok,Sem.run_pure,ih]
  ·cases h
end
end Go.Abs

namespace Go.Abs
section
variable {E:Env} {lo:Nat} {ν:Fr} {μ:MM} {s:Slots} {h:Heap} {a:Act} {w:World}
theorem rep_get {α:Type} (l:List α) (k:Nat) (hk:l.length=k) (h0:0 < k):∀ (n i:Nat),i < n*k→((List.replicate n l).flatten)[i]? = l[i % k]?
 | 0,i,h=>by omega
 | n+1,i,h=>by
  rw [ue,oo];by_cases hi:i < k
  ·rw [ag (by omega),lx hi]
  ·rw [aw (by omega),hk,rep_get l k hk h0 n (i - k) (by rw [gl] at h; omega)];congr 1;rw [Nat.mod_eq_sub_mod (a:=i) (by omega)]
theorem pn {α:Type} (l:List α) (k:Nat) (hk:l.length=k):∀ n,((List.replicate n l).flatten).length=n*k
 | 0=>by simp
 | n+1=>by rw [ue,oo,aq,hk,pn l k hk n,gl]; omega
theorem zf {z:List AVal} {zero:Array Value} {k n:Nat} (hz:VRels E μ z zero.toList) (h1:∀ x ∈ z,x.isOne=true) (hk:z.length=k) (h0:0 < k) :
  VRels E μ (rep n z) ((Array.range (n*k)).map fun i=>zero[i % zero.size]!).toList∧(∀ x ∈ rep n z,x.isOne=true):=by
 have hl:=hz.length;simp at hl;constructor
 ·apply VRels.of
  ·rw [rep,pn z k hk]; simp
  ·intro i x hx
   have hi:i < n*k:=by have:=ah hx;rw [rep,pn z k hk] at this; exact this
   rw [rep,rep_get z k hk h0 n i hi] at hx;obtain ⟨v,hv,hr⟩:=hz.get hx;refine ⟨v,?_,hr⟩;have hm:i % zero.size < zero.size:=Nat.mod_lt _ (by omega);have e:zero.size=k:=by omega
   simp [hi];rw [e] at hm ⊢;rw [lr] at hv;rw [getElem!_pos zero _ (by omega)];rw [lj (by omega)] at hv;simpa using hv
 ·intro x hx;unfold rep at hx;rw [List.mem_flatten] at hx;obtain ⟨l,hl1,hl2⟩:=hx;rw [List.mem_replicate] at hl1;rw [hl1.2] at hl2;exact h1 x hl2
theorem yh:∀ {cs:List AVal} {t:List UInt8} {l:List Value},bytesOf cs=some t→VRels E μ cs l→∃ ns:List Int,l=ns.map (Value.int .u8)∧t=ns.map fun n=>UInt8.ofNat n.toNat
 | [],t,l,h,hl=>by simp only [bytesOf] at h; cases h;simp only [VRels] at hl; subst hl;exact ⟨[],rfl,rfl⟩
 | c :: cs,t,l,h,hl=>by
  simp only [VRels] at hl;obtain ⟨v,r,rfl,hv,hr⟩:=hl;unfold bytesOf at h;split at h
  ·rename_i h0; cases h0
  ·rename_i n r' h0;cases h0;rw [ae] at h;obtain ⟨t',ht,rfl⟩:=h;simp only [VRel] at hv; subst hv;obtain ⟨ns,e1,e2⟩:=yh ht hr;exact ⟨n :: ns,by simp [e1],by simp [e2]⟩
  ·cases h
theorem zal:∀ (ns:List Int) (r:ByteArray),ns.foldl (fun r n=>r.push (UInt8.ofNat n.toNat)) r=⟨(r.data.toList++ns.map fun n=>UInt8.ofNat n.toNat).toArray⟩
 | [],r=>by simp
 | n :: ns,r=>by rw [kz,zal ns];simp
theorem done_store (hf:FRel E lo ν μ (sget s) a.tmps w) (hr:Rel E μ h w) {dst:Option Tmp} {r:Result Next} (hd:∀ x,dst=some x→x < a.tmps.size) {x:Operand} {y:Opd} {ad:AAddr} {xs:List AVal} {l:List Value} {s':Slots} {h':Heap}
  (hc:g8 E x=some y) (hy:y.adr s=some ad) (hxs:VRels E μ xs l) (h1:∀ v ∈ xs,v.isOne=true) (hst:storeAt s h ad xs=some (s',h'))
  (hrun:∀ adr,a.eval x = .pointer (some adr)→r=((storeCells adr l).run E.P w).andThen fun _ w'=>.ok .skip w') :
  OpDone E lo ν.ds μ w a dst r .undef s' h':=by
 have hlen:=hxs.length;have hone:=nj hxs h1;cases ad with
 | glob i o =>
  simp only [storeAt] at hst;split at hst
  ·rename_i esz cs hg;split at hst
   ·rename_i hh;cases hst;obtain ⟨hb,hl⟩:=hh;obtain ⟨m,c,e,fr,k1,k2,k3,k4,k5,k6,k7⟩:=hr.obj i _ hg;obtain ⟨adr,k8,x',k9,k10⟩:=sy hf hc hy;rw [k1] at k9; cases k9;have:=k10 m rfl; subst this;have hrs:=kg (P:=E.P) (b:=m.blk) (e:=e) (fr:=fr) (a:=⟨m.blk,m.base+o,none⟩) rfl rfl l 0 c w k3 (by simp; omega) (by rw [k4]; exact (k7 hb).lt) hone;have hsp:=k6.splice hxs h1 hl (by omega);refine ⟨Go.undef,_,μ,ν,rfl,.inr ⟨rfl,by rw [hrun _ k8,hrs]; rfl⟩,Step.put k1 (fz _ _) _,hr.put hb k1 ?_,?_⟩
    ·exact ⟨m,_,e,fr,k1,k2,g7 (hr.lt i m k1),by rw [jy]; exact k4,by rw [ly _ _ _ hl]; exact k5,hsp,k7⟩
    ·rw [iu];refine FRel.setUndef ?_ hd;exact hf.keep (Later.refl _) (fun t cs' hv=>bp (hf.sepm t cs' i m hv k1)) (fun t cs' j m' _ hj hm=>absurd (ah hm) (by omega)) fun q hq=>⟨bp ((hf.sepd q hq).1 i m k1),fun j m' hj hm=>absurd (ah hm) (by omega)⟩
   ·cases hst
  ·cases hst
 | loc t o =>
  simp only [storeAt] at hst;split at hst
  ·rename_i cs hg;split at hst
   ·rename_i hl;cases hst;obtain ⟨_,k2,c,e,fr,k3,k4,k5,k6⟩:=hf.var t _ hg;have k8:=vl hf hc hy hg;have hrs:=kg (P:=E.P) (b:=ν t) (e:=e) (fr:=fr) (a:=⟨ν t,o,none⟩) rfl rfl l 0 c w k3 (by simp; omega) k6.lt hone;have hsp:=k5.splice hxs h1 hl (by omega);have hsz:=jy l c (0+o);simp only [ed] at hsp hsz;refine ⟨Go.undef,_,μ,ν,rfl,.inr ⟨rfl,by rw [hrun _ k8,hrs]; rfl⟩,?_,hr.keep (by simp [ct]) (fun i m hm=>bp (fun e=>hf.sepm t _ i m hg hm e.symm)) (fun k hk _=>bp (by have:=hf.nodup.2; omega)),?_⟩
    ·exact ⟨rfl,rfl,rfl,by simp [ct],fun k hk hx _=>bp (fun e=>hx (by rw [← e]; exact k2)),aj _,fun _ _=>.inl rfl,fun i m hi hm=>absurd (ah hm) (by omega)⟩
    ·rw [iu];refine FRel.setUndef ?_ hd;simp only [Nat.add_zero];exact hf.putVar hg (by rw [hsz,ly _ _ _ hl]; exact k4) hsp (by rw [hsz]; exact k6)
   ·cases hst
  ·cases hst
theorem done_hstore (hf:FRel E lo ν μ (sget s) a.tmps w) (hr:Rel E μ h w) {dst:Option Tmp} {r:Result Next} (hd:∀ x,dst=some x→x < a.tmps.size) {i o esz:Nat} {xs cs:List AVal} {l:List Value} {u:Value}
  (hu:VRel E μ (.ptr (some (i,o))) u) (hxs:VRels E μ xs l) (h1:∀ v ∈ xs,v.isOne=true) (hg:h.get i=some (.cells esz cs)) (hb:h.base≤i) (hl:o+xs.length≤cs.length)
  (hrun:∀ adr,u = .pointer (some adr)→r=((storeCells adr l).run E.P w).andThen fun _ w'=>.ok .skip w') :
  OpDone E lo ν.ds μ w a dst r (.val (.tuple [])) s (h.put i (.cells esz (splice cs o xs))):=by
 have hlen:=hxs.length;have hone:=nj hxs h1;obtain ⟨m,c,e,fr,k1,k2,k3,k4,k5,k6,k7⟩:=hr.obj i _ hg;simp only [VRel] at hu;obtain ⟨adr,k8,x',k9,k10⟩:=hu;rw [k1] at k9; cases k9;have:=k10 m rfl; subst this;have hrs:=kg (P:=E.P) (b:=m.blk) (e:=e) (fr:=fr) (a:=⟨m.blk,m.base+o,none⟩) rfl rfl l 0 c w k3 (by simp; omega) (by rw [k4]; exact (k7 hb).lt) hone;have hsp:=k6.splice hxs h1 hl (by omega);refine ⟨Go.undef,_,μ,ν,rfl,.inr ⟨rfl,by rw [hrun _ k8,hrs]; rfl⟩,Step.put k1 (fz _ _) _,hr.put hb k1 ?_,?_⟩
 ·exact ⟨m,_,e,fr,k1,k2,g7 (hr.lt i m k1),by rw [jy]; exact k4,by rw [ly _ _ _ hl]; exact k5,hsp,k7⟩
 ·rw [iu];refine FRel.setVal ?_ hd (by simp only [VRel]; exact ⟨#[],rfl,by simp [VRels]⟩);exact hf.keep (Later.refl _) (fun t cs' hv=>bp (hf.sepm t cs' i m hv k1)) (fun t cs' j m' _ hj hm=>absurd (ah hm) (by omega)) fun q hq=>⟨bp ((hf.sepd q hq).1 i m k1),fun j m' hj hm=>absurd (ah hm) (by omega)⟩
theorem copy_done (hf:FRel E lo ν μ (sget s) a.tmps w) (hr:Rel E μ h w) {dst:Option Tmp} {r:Result Next} (hd:∀ x,dst=some x→x < a.tmps.size)
  {t u ty e:TypeId} {ez:Nat} {x y v:AVal} {vx vy:Value} {h':Heap} (ht:E.P.underlying t=some (.slice e)) (hn:sizeT E.P e=some ez)
  (hx:VRel E μ x vx) (hy:VRel E μ y vy) (he:dj (.copy ez) [x,y] h=some (v,h'))
  (hrun:r=((Builtin.copy_ #[t,u] ty #[vx,vy]).run E.P w).andThen fun v w'=>.ok (.value v) w') :
  OpDone E lo ν.ds μ w a dst r (.val v) s h':=by
 cases x with
 | slice ao n c=>?_
 | _=>simp [dj] at he
 simp only [dj] at he;generalize hkk:min n (alen y)=k at he;split at he;case h_2=>cases he
 rename_i src hsrc;cases y with
 | slice ya yn yc=>?_
 | _=>cases hsrc
 have hkk:min n yn=k:=hkk;have hk:k≤yn:=by omega
 have hsrc:iw ez h (.slice ya k yc)=some src:=by rw [← hsrc];exact (if_pos hk).symm
 obtain ⟨yb,ycap,hvy,hyk⟩:∃ yb ycap,vy = .slice yb yn ycap∧VRel E μ (.slice ya k yc) (.slice yb k ycap):=by
  cases ya with
  | none=>simp only [VRel] at hy ⊢; obtain ⟨rfl,h2,h3⟩:=hy; exact ⟨none,0,h3,by omega,h2,by rw [show k=0 by omega]⟩
  | some p =>
   obtain ⟨i,o⟩:=p;simp only [VRel] at hy ⊢;obtain ⟨ad,cap,h1,h2,h3,h4,h5,h6⟩:=hy;exact ⟨some ad,cap,h1,ad,cap,rfl,h2,h3,h4,by omega,h6⟩
 obtain ⟨l,k',q1,q2,q3,q4,q5,q6⟩:=qm hr hyk hsrc;have q5:k'=k:=q5;subst q5;have hfc:=q6 E.P w rfl
 have hfc2:(Builtin.firstCells ez k' vy).run E.P w = .ok l.toArray w:=by
  rw [hvy];cases yb with
  | none=>exact hfc
  | some ad=>exact hfc
 have hlen:(Builtin.lenOf vy).run E.P w = .ok yn w:=by rw [hvy]; rfl
 split at he
 ·rename_i h0;cases he;have hl0:l=[]:=cg (by rw [q4,h0]; simp);subst hl0;refine e8 hf hr hd (v:=.int .i64 0) ?_ (by simp [VRel]);rw [hrun]
  obtain ⟨b,cap,hvx⟩:∃ b cap,vx = .slice b n cap:=by
   cases ao with
   | none=>simp only [VRel] at hx; exact ⟨none,0,by rw [hx.2.2,hx.1]⟩
   | some p=>obtain ⟨i,o⟩:=p; simp only [VRel] at hx; obtain ⟨ad,cap,h1,_⟩:=hx; exact ⟨some ad,cap,h1⟩
  have h0':Nat.min yn n=0:=by rw [show Nat.min yn n=min n yn from Nat.min_comm _ _]; omega
  rw [h0] at hfc2;rw [hvx];cases b <;> simp [Builtin.copy_,run_underlying ht,jc hn,hlen,hfc2,storeCells,goInt,h0']
 ·rename_i h0;split at he;case h_2=>cases he
  rename_i i o;split at he;case h_2=>cases he
  rename_i e1 cs hg;split at he;case isFalse=>cases he
  rename_i hh;obtain ⟨rfl,hb,hl⟩:=hh;cases he;simp only [VRel] at hx;obtain ⟨ad,cap,hvx,hi,hA,hck,hcap,hsz⟩:=hx;obtain ⟨m,cc,te,fr,k1,k2,k3,k4,k5,k6,k7⟩:=hr.obj i _ hg;obtain ⟨x',k8,k9⟩:=hA (by omega);rw [k1] at k8; cases k8;have:=k9 m rfl; subst this;have hone:=nj q1 q2;have hll:=q1.length;have hrs:=kg (P:=E.P) (b:=m.blk) (e:=te) (fr:=fr) (a:=⟨m.blk,m.base+o,none⟩) rfl rfl l 0 cc w k3 (by simp; omega) (by rw [k4]; exact (k7 hb).lt) hone;have hsp:=k6.splice q1 q2 hl (by omega);have hkn:k'=Nat.min yn n:=hkk.symm.trans (Nat.min_comm _ _);rw [hkn] at hfc2;refine ⟨.int .i64 ((k':Nat):Int),ct w m.blk (.cells (jz cc (m.base+o+0) l) te fr),μ,ν,rfl,.inl ?_,Step.put k1 (fz _ _) _,hr.put hb k1 ?_,?_⟩
  ·rw [hrun,hvx];simp [Builtin.copy_,run_underlying ht,jc hn,hlen,hfc2,hrs,goInt];first | exact hkn.symm | exact hkn | omega
  ·exact ⟨m,_,te,fr,k1,k2,g7 (hr.lt i m k1),by rw [jy]; exact k4,by rw [ly _ _ _ hl]; exact k5,hsp,k7⟩
  ·rw [iu];refine FRel.setVal ?_ hd (by simp only [VRel]);exact hf.keep (Later.refl _) (fun t cs' hv=>bp (hf.sepm t cs' i m hv k1)) (fun t cs' j m' _ hj hm=>absurd (ah hm) (by omega)) fun q hq=>⟨bp ((hf.sepd q hq).1 i m k1),fun j m' hj hm=>absurd (ah hm) (by omega)⟩
theorem appz_done (hf:FRel E lo ν μ (sget s) a.tmps w) (hr:Rel E μ h w) {dst:Option Tmp} {r:Result Next} (hd:∀ x,dst=some x→x < a.tmps.size)
  {t u ty e:TypeId} {kq:IntKind} {i:TypeInfo} {z:List AVal} {x y v:AVal} {vx vy:Value} {h':Heap} (ht:E.P.underlying t=some (.slice e)) (hu:E.P.underlying u=some (.int kq)) (hi:E.P.info? e=some i) (hz:zeroOf E.P e=some z) (hzl:z.length=i.size) (h0:0 < i.size)
  (hx:VRel E μ x vx) (hy:VRel E μ y vy) (he:dj (.appz i.size i.bytes z) [x,y] h=some (v,h'))
  (hrun:r=((Builtin.append_ #[t,u] ty #[vx,vy]).run E.P w).andThen fun v w'=>.ok (.value v) w') :
  OpDone E lo ν.ds μ w a dst r (.val v) s h':=by
 cases x with
 | slice ao n c=>?_
 | _=>simp [dj] at he
 cases y with
 | int kd m=>?_
 | _=>simp [dj] at he
 cases kd <;> simp only [dj,reduceCtorEq] at he
 obtain ⟨i',zv,hi',hzv,hzt⟩:=info_zero hz;rw [hi] at hi'; cases hi';simp only [VRel] at hy;subst hy
 have hvx:∃ b cap,vx = .slice b n cap∧n≤cap∧∀ k,c=some k→cap=k:=by
  cases ao with
  | none=>simp only [VRel] at hx; obtain ⟨e1,e2,e3⟩:=hx; exact ⟨none,0,by rw [e3,e1],by omega,fun k hk=>by rw [e2] at hk; cases hk; rfl⟩
  | some p=>obtain ⟨j,o⟩:=p; simp only [VRel] at hx; obtain ⟨ad,cap,h1,_,_,h4,h5,_⟩:=hx; exact ⟨some ad,cap,h1,h5,h4⟩
 obtain ⟨b,cap,hvx,hcap,hck⟩:=hvx;split at he
 ·rename_i hm;subst hm;cases he;refine e8 hf hr hd ?_ hx;rw [hrun,hvx];have hw:IntKind.i64.wrap 0=0:=by decide
  cases b <;> simp [Builtin.append_,run_underlying ht,run_underlying hu,sizeOf,typeInfo,hi,asInt,asIntOf,hw,hcap,storeCells]
 ·rename_i hm;split at he;case h_2=>cases he
  rename_i old k hold;split at he;case isFalse=>cases he
  rename_i hh;obtain ⟨hm0,hk,hb,h63⟩:=hh;cases he;obtain ⟨q,rfl⟩:=Int.eq_ofNat_of_zero_le (show 0≤m by omega);simp only [Int.toNat_natCast] at hk hb h63 ⊢;have hcapk:=hck k rfl;subst hcapk;obtain ⟨lo1,n1,o1,o2,o3,o4,o5,o6⟩:=qm hr hx hold;simp only [alen] at o5;subst o5;have hfit:=growslice_fits (need:=n1+q) (old:=cap) (bytes:=i.bytes) hk hb
  have hq:q*i.bytes≤281474976710656:=by have:q*i.bytes≤(n1+q)*i.bytes:=ii _ (by omega);omega
  have hgr:=Go.Lib.run_append_grow_zeros (P:=E.P) w t u ty e i zv .i64 kq ht hu hi hzv b n1 cap lo1 (by rw [← hvx]; exact o6 E.P w.drew rfl) q (by omega) h0 hk (by omega) hq hfit;rw [hvx,hgr] at hrun;obtain ⟨k2,k3⟩:=td (E:=E) hzt μ;obtain ⟨r1,r2⟩:=zf (n:=q) k2 k3 hzl h0;have hg:n1+q≤grownCap w (n1+q) cap e:=by simp [grownCap,Question.cut]
  have hzc:zv.cells.size=i.size:=by have:=k2.length; simp at this; omega
  have hzz:(Builtin.zeroCells zv.cells q).toList=((Array.range (q*i.size)).map fun j=>zv.cells[j % zv.cells.size]!).toList:=by unfold Builtin.zeroCells; rw [hzc]
  rw [← hzz] at r1;generalize hZ:Builtin.zeroCells zv.cells q=Z at r1 hrun;have hZs:Z.size=q*i.size:=by rw [← hZ]; simp [Builtin.zeroCells,hzc]
  generalize hcell:lo1.toArray++Z++Builtin.zeroCells zv.cells (grownCap w (n1+q) cap e - (n1+q))=C at hrun
  have hC:C.size=grownCap w (n1+q) cap e*i.size:=by rw [← hcell];simp [Builtin.zeroCells,o4,hZs,hzc];rw [← gl,← gl]; congr 1; omega
  have hcat:=o1.append r1;have hlen:h.size=μ.length:=hr.len.symm;rw [hlen];refine lw hf hr hd (.cells i.size (old++rep q z)) (.cells C e) ⟨w.heap.size,0,C.size,i.size⟩ rfl (w1:=w.drew.alloc (.cells C e)) hrun rfl rfl rfl rfl ?_ ?_
  ·refine ⟨⟨w.heap.size,0,C.size,i.size⟩,C,e,(0,0),by simp,rfl,by simp,rfl,?_,fun k v' hk=>⟨?_,?_⟩,fun _=>⟨aj _,fun off _=>by simp⟩⟩
   ·have e1:=o1.length;have e2:(rep q z).length=q*i.size:=by rw [rep,pn z _ hzl]
    simp only [aq,ed,e1,e2,o4,hC,← gl];exact ii _ hg
   ·rcases bw.1 (bn hk) with hm' | hm'
    ·exact o2 _ hm'
    ·exact r2 _ hm'
   ·obtain ⟨u',hu',hr'⟩:=hcat.get hk;refine ⟨u',?_,hr'.later (ij μ _)⟩;have hl2:=ah hu';rw [ed,← hcell,r9 (by simpa using hl2),← lr,Array.toList_append];exact hu'
  ·exact oc rfl hg (fun k hk=>by cases hk) (by simp [hC]) (grownCap_le_maxLen w (n1+q) cap e h63)
theorem clear_done (hf:FRel E lo ν μ (sget s) a.tmps w) (hr:Rel E μ h w) {dst:Option Tmp} {r:Result Next} (hd:∀ x,dst=some x→x < a.tmps.size)
  {t ty e:TypeId} {ez:Nat} {z:List AVal} {x v:AVal} {vx:Value} {h':Heap} (ht:E.P.underlying t=some (.slice e)) (hz:zeroOf E.P e=some z) (hzl:z.length=ez) (h0:0 < ez)
  (hx:VRel E μ x vx) (he:dj (.clear ez z) [x] h=some (v,h'))
  (hrun:r=((Builtin.clear_ #[t] ty #[vx]).run E.P w).andThen fun v w'=>.ok (.value v) w') :
  OpDone E lo ν.ds μ w a dst r (.val v) s h':=by
 cases x with
 | slice ao n c=>?_
 | _=>simp [dj] at he
 simp only [dj] at he;split at he
 ·rename_i hn0;subst hn0;cases he;refine e8 hf hr hd (v:=.tuple #[]) ?_ (by simp only [VRel]; exact ⟨#[],rfl,by simp [VRels]⟩);rw [hrun]
  obtain ⟨b,cap,hvx⟩:∃ b cap,vx = .slice b 0 cap:=by
   cases ao with
   | none=>simp only [VRel] at hx; exact ⟨none,0,hx.2.2⟩
   | some p=>obtain ⟨i,o⟩:=p; simp only [VRel] at hx; obtain ⟨ad,cap,h1,_⟩:=hx; exact ⟨some ad,cap,h1⟩
  rw [hvx];cases b <;> simp [Builtin.clear_,run_underlying ht]
 ·rename_i hn0;split at he;case h_2=>cases he
  rename_i i o;split at he;case h_2=>cases he
  rename_i e1 cs hg;split at he;case isFalse=>cases he
  rename_i hh;obtain ⟨rfl,hb,hl⟩:=hh;cases he;simp only [VRel] at hx;obtain ⟨ad,cap,hvx,hi,hA,hck,hcap,hsz⟩:=hx;obtain ⟨m,cc,te,fr,k1,k2,k3,k4,k5,k6,k7⟩:=hr.obj i _ hg;obtain ⟨x',k8,k9⟩:=hA (by omega);rw [k1] at k8; cases k8;have:=k9 m rfl; subst this;obtain ⟨zv,z1,z2,z3⟩:=sr (E:=E) hz μ w;obtain ⟨q1,q2⟩:=zf (n:=n) z2 z3 hzl h0;have hlz:(rep n z).length=n*e1:=by rw [rep,pn z e1 hzl]
  have hzc:(Builtin.zeroCells zv.cells n)=(Array.range (n*e1)).map fun i=>zv.cells[i % zv.cells.size]! := by have:=z2.length;simp at this;unfold Builtin.zeroCells;rw [← this,hzl]
  generalize hL:((Array.range (n*e1)).map fun i=>zv.cells[i % zv.cells.size]!).toList=l at q1;have hzl2:(Builtin.zeroCells zv.cells n).toList=l:=by rw [hzc,hL]
  have hone:=nj q1 q2;have hll:=q1.length;have hrs:=kg (P:=E.P) (b:=m.blk) (e:=te) (fr:=fr) (a:=⟨m.blk,m.base+o,none⟩) rfl rfl l 0 cc w k3 (by simp; omega) (by rw [k4]; exact (k7 hb).lt) hone;have hsp:=k6.splice q1 q2 (by rw [hlz]; exact hl) (by omega);refine ⟨.tuple #[],ct w m.blk (.cells (jz cc (m.base+o+0) l) te fr),μ,ν,rfl,.inl ?_,Step.put k1 (fz _ _) _,hr.put hb k1 ?_,?_⟩
  ·rw [hrun,hvx];obtain ⟨n',rfl⟩:∃ n',n=n'+1:=⟨n - 1,by omega⟩;simp only [Builtin.clear_];simp [run_underlying ht,z1,hzl2,hrs]
  ·exact ⟨m,_,te,fr,k1,k2,g7 (hr.lt i m k1),by rw [jy]; exact k4,by rw [ly _ _ _ (by rw [hlz]; exact hl)]; exact k5,hsp,k7⟩
  ·rw [iu];refine FRel.setVal ?_ hd (by simp only [VRel]; exact ⟨#[],rfl,by simp [VRels]⟩);exact hf.keep (Later.refl _) (fun t cs' hv=>bp (hf.sepm t cs' i m hv k1)) (fun t cs' j m' _ hj hm=>absurd (ah hm) (by omega)) fun q hq=>⟨bp ((hf.sepd q hq).1 i m k1),fun j m' hj hm=>absurd (ah hm) (by omega)⟩
theorem mark_done (hf:FRel E lo ν μ (sget s) a.tmps w) (hr:Rel E μ h w) {dst:Option Tmp} {r:Result Next} (hd:∀ x,dst=some x→x < a.tmps.size)
  {t e:TypeId} {i o n e1:Nat} {c:Option Nat} {cs:List AVal} {vx:Value} (hs:E.P.underlying t=some (.slice e)) (he:E.P.underlying e=some (.int .u8)) (hroom:E.room=0)
  (hx:VRel E μ (.slice (some (i,o)) n c) vx) (hg:h.get i=some (.cells e1 cs)) (hn:0 < n) (hb:h.base≤i)
  (hrun:r=((convert t t vx).run E.P w).andThen fun v w'=>.ok (.value v) w') :
  OpDone E lo ν.ds μ w a dst r (.val (.slice (some (i,o)) n c)) s (h.put i (.cells e1 cs)):=by
 have hx':=hx;simp only [VRel] at hx';obtain ⟨ad,cap,hvx,hi,hA,hck,hcap,hsz⟩:=hx';obtain ⟨m,cc,te,fr,k1,k2,k3,k4,k5,k6,k7⟩:=hr.obj i _ hg;obtain ⟨x',k8,k9⟩:=hA (by omega);rw [k1] at k8; cases k8;have had:=k9 m rfl;have hml:=hr.lt i m k1;have hfree:=k7 hb;have hsh:w.shape? m.blk=some (te,cc.size):=by unfold World.shape?; rw [k3]
 let fr':Nat × Nat:=if fr.1 == fr.2 then (cc.size,cc.size+1) else (min fr.1 cc.size,max fr.2 (cc.size+1))
 have hfz:w.freeze ⟨m.blk,cc.size,none⟩ 1=ct w m.blk (.cells cc te fr'):=by
  unfold World.freeze ct;rw [if_neg (by decide)];congr 1;apply Array.ext
  ·simp
  ·intro j h1 h2;rw [Array.getElem_modify,Array.getElem_setIfInBounds (by simpa using h1)];by_cases hj:m.blk=j
   ·subst hj;simp only [if_true]
    have:w.heap[m.blk] = .cells cc te fr:=by rw [lj hml] at k3;exact dr k3
    rw [this]
   ·simp [hj]
 have hfr':Free E.room fr' m.size:=by
  obtain ⟨f1,f2⟩:=hfree;have hcs:cc.size=m.size:=k4;by_cases hq:fr.1=fr.2
  ·have e':fr'=(cc.size,cc.size+1):=by simp only [fr',beq_iff_eq,hq,if_true]
   rw [e',hroom];exact ⟨wq _,fun off ho=>by simp only; omega⟩
  ·have e':fr'=(min fr.1 cc.size,max fr.2 (cc.size+1)):=by simp only [fr',beq_iff_eq,hq,if_false]
   rw [e',hroom];have h3:¬ fr.1 < m.size:=fun h=>f2 fr.1 (by omega) ⟨aj _,by omega⟩
   exact ⟨by simp only; omega,fun off ho=>by simp only; omega⟩
 refine ⟨vx,ct w m.blk (.cells cc te fr'),μ,ν,rfl,.inl ?_,Step.put k1 (fz _ _) _,hr.put hb k1 ⟨m,cc,te,fr',k1,k2,g7 hml,k4,k5,k6,fun _=>hfr'⟩,?_⟩
 ·rw [hrun,hvx];have hadb:ad.block=m.blk:=by rw [had]
  simp [convert,run_underlying hs,run_underlying he,markStringish,hadb,hsh,hfz]
 ·rw [iu];refine FRel.setVal ?_ hd hx;exact hf.keep (Later.refl _) (fun t cs' hv=>bp (hf.sepm t cs' i m hv k1)) (fun t cs' j m' _ hj hm=>absurd (ah hm) (by omega)) fun q hq=>⟨bp ((hf.sepd q hq).1 i m k1),fun j m' hj hm=>absurd (ah hm) (by omega)⟩
theorem le_grown (w:World) (need old:Nat) (e:TypeId):need≤grownCap w need old e:=by simp [grownCap,Question.cut]
theorem append_done (hf:FRel E lo ν μ (sget s) a.tmps w) (hr:Rel E μ h w) {dst:Option Tmp} {r:Result Next} (hd:∀ x,dst=some x→x < a.tmps.size)
  {t u ty e:TypeId} {i:TypeInfo} {z:Value} {x y v:AVal} {vx vy:Value} {h':Heap} (ht:E.P.underlying t=some (.slice e)) (hu:(∃ e',E.P.underlying u=some (.slice e'))∨E.P.underlying u=some .string) (hi:E.P.info? e=some i) (hz:i.zero=some z) (hzs:z.cells.size=i.size)
  (hx:VRel E μ x vx) (hy:VRel E μ y vy) (he:ex i.size i.bytes h x y=some (v,h'))
  (hrun:r=((Builtin.append_ #[t,u] ty #[vx,vy]).run E.P w).andThen fun v w'=>.ok (.value v) w') :
  OpDone E lo ν.ds μ w a dst r (.val v) s h':=by
 unfold ex at he;cases x with
 | slice ao n0 c=>?_
 | _=>cases he
 simp only at he;split at he;case h_2=>cases he
 rename_i old new ho hn;unfold aApp at he;have hk:=hu;obtain ⟨lo1,n1,o1,o2,o3,o4,o5,o6⟩:=qm hr hx ho;obtain ⟨ln,n2,p1,p2,p3,p4,p5,p6⟩:=qm hr hy hn;simp only [alen] at o5;subst o5;rw [← p5] at he
 have hsrc:Src E.P i.size u vy n2 ln w:=⟨hk,fun w'=>p3 E.P w',p6 E.P w rfl,p6 E.P w.drew rfl,p4,fun v hv=>by have:=nj p1 p2 v hv;cases v <;> simp_all [one?,Value.oneCell']⟩
 split at he
 ·-- nothing is appended
  rename_i h0;cases he;subst h0;have hl0:ln=[]:=cg (by simpa using p4);subst hl0
  have:∃ b cap,vx = .slice b n1 cap∧n1≤cap:=by
   cases ao with
   | none=>simp only [VRel] at hx; obtain ⟨e1,_,e2⟩:=hx; exact ⟨none,0,by rw [e2,e1],by omega⟩
   | some io=>simp only [VRel] at hx; obtain ⟨ad,cap,e1,_,_,_,e2,_⟩:=hx; exact ⟨some ad,cap,e1,e2⟩
  obtain ⟨b,cap,rfl,hcap⟩:=this;refine e8 hf hr hd ?_ hx;rw [hrun];rcases hk with ⟨e',hk⟩ | hk <;> (cases b <;> simp [Builtin.append_,run_underlying ht,run_underlying hk,sizeOf,typeInfo,hi,p3,hcap,p6,storeCells])
 ·rename_i h0;split at he
  ·rename_i hh;obtain ⟨hb,h63⟩:=hh;have hcat:=o1.append p1
   have hcl:∀ (k:Nat) (v':AVal),(old++new)[k]? = some v'→v'.isOne=true:=by
    intro k v' hk;rcases bw.1 (bn hk) with hm' | hm'
    ·exact o2 _ hm'
    ·exact p2 _ hm'
   have grow:∀ (b:Option Addr) (cap:Nat) (h1:Heap) (μ1:MM),vx = .slice b n1 cap→cap < n1+n2→Later μ μ1→Rel E μ1 h1 w→FRel E lo ν μ1 (sget s) a.tmps w →
     OpDone E lo ν.ds μ1 w a dst r (.val (.slice (some (h1.size,0)) (n1+n2) none)) s (h1.push (.cells i.size (old++new))):=by
    intro b cap h1 μ1 hvx hcap hl1 hr1 hf1;have hfit:=growslice_fits (need:=n1+n2) (old:=cap) (bytes:=i.bytes) hcap hb;have hgr:=run_append_grow_src (P:=E.P) w t u ty e i z ht hi hz b n1 cap lo1 (by rw [← hvx]; exact o6 E.P w.drew rfl) vy n2 ln hsrc hcap (by omega) hfit;rw [hvx,hgr] at hrun;have hg:=le_grown w (n1+n2) cap e;generalize hcell:(lo1++ln).toArray++Builtin.zeroCells z.cells (grownCap w (n1+n2) cap e - (n1+n2))=C at hrun
    have hC:C.size=grownCap w (n1+n2) cap e*i.size:=by rw [← hcell];simp [Builtin.zeroCells,o4,p4,hzs];rw [← gl,← gl]; congr 1; omega
    have hlen:h1.size=μ1.length:=hr1.len.symm;rw [hlen];refine lw hf1 hr1 hd (.cells i.size (old++new)) (.cells C e) ⟨w.heap.size,0,C.size,i.size⟩ rfl (w1:=w.drew.alloc (.cells C e)) hrun rfl rfl rfl rfl ?_ ?_
    ·refine ⟨⟨w.heap.size,0,C.size,i.size⟩,C,e,(0,0),by simp,rfl,by simp,rfl,?_,fun k v' hk=>?_,fun _=>⟨aj _,fun off _=>by simp⟩⟩
     ·have e1:=o1.length;have e2:=p1.length;simp only [aq,ed,e1,e2,o4,p4,hC,← gl];exact ii _ hg
     ·obtain ⟨u,hu',hr'⟩:=hcat.get hk;refine ⟨hcl k v' hk,u,?_,(hr'.later hl1).later (ij μ1 _)⟩;rw [ed,← hcell,r9 (by simpa using ah hu')];simpa using hu'
    ·exact oc rfl hg (fun k hk=>by cases hk) (by simp [hC]) (grownCap_le_maxLen w (n1+n2) cap e h63)
   split at he
   ·-- nil
    cases he;simp only [VRel] at hx;obtain ⟨e1,_,e2⟩:=hx;exact grow none 0 h μ (by rw [e2,e1]) (by omega) (Later.refl _) hr hf
   ·rename_i j o;simp only [VRel] at hx;obtain ⟨ad,cap,hvx,hj,hA,hck,hcap,hsz⟩:=hx;split at he
    ·-- full
     rename_i hc;cases he;exact grow (some ad) cap h μ hvx (by have:=hck _ hc; omega) (Later.refl _) hr hf
    ·split at he
     ·rename_i hbr;cases he;obtain ⟨hbase,hrow⟩:=hbr;unfold rowIs at hrow;split at hrow;case h_2=>cases hrow
      rename_i e' cs hg;have he':e'=i.size:=by simpa using hrow
      subst he';obtain ⟨m,cc,te,fr,k1,k2,k3,k4,k5,k6,k7⟩:=hr.obj j _ hg;by_cases hroom:n1+n2≤cap
      ·-- there is room: in its place
       obtain ⟨x',k8,k9⟩:=hA (by omega);rw [k1] at k8; cases k8;have:=k9 m rfl; subst this;have hs:=hsz m k1;rw [k2] at hs
       have hle:m.base+o+n1*i.size+ln.length≤cc.size:=by rw [p4,k4,mz,← gl];exact cf (Nat.add_le_add_left (ii _ hroom) _) hs
       have hone:=nj p1 p2;have hrs:=kg (P:=E.P) (b:=m.blk) (e:=te) (fr:=fr) (a:=⟨m.blk,m.base+o+n1*i.size,none⟩) rfl rfl ln 0 cc w k3 (by simpa using hle) (by rw [k4]; exact (k7 hbase).lt) hone
       have hrun':r = .ok (.value (.slice (some ⟨m.blk,m.base+o,none⟩) (n1+n2) cap)) (ct w m.blk (.cells (jz cc (m.base+o+n1*i.size) ln) te fr)):=by rw [hrun,hvx];have e1:(⟨m.blk,m.base+o,none⟩:Addr).add (n1*i.size)=⟨m.blk,m.base+o+n1*i.size,none⟩:=od _ _ _;rcases hk with ⟨e'',hk⟩ | hk <;> (simp [Builtin.append_,run_underlying ht,run_underlying hk,sizeOf,typeInfo,hi,p3,hroom,p6,e1,hrs])
       have hnew:ORel E (μ.set j none++[some ⟨m.blk,m.base+o,m.size,m.esz⟩]) h.base μ.length (ct w m.blk (.cells (jz cc (m.base+o+n1*i.size) ln) te fr)) (.cells i.size (old++new)):=by
        have hold:∀ (k:Nat) (v':AVal),old[k]? = some v'→∃ u,cc[m.base+o+k]? = some u∧VRel E μ v' u:=by
         intro k v' hk'
         have hn0:n1≠0:=by intro h0'; subst h0';have:=ah hk';rw [o1.length,o4] at this; omega
         simp only [iw] at ho;rw [if_neg hn0,hg] at ho;simp only at ho;split at ho
         ·cases ho
          have hkk:k < n1*i.size:=by have:=ah hk';simp at this; omega
          rw [gj hkk,ef] at hk';obtain ⟨_,u,hu1,hu2⟩:=k6 _ v' hk';exact ⟨u,by rw [← hu1]; congr 1; omega,hu2⟩
         ·cases ho
        have hlo:old.length=n1*i.size:=by rw [o1.length,o4]
        have hln:new.length=n2*i.size:=by rw [p1.length,p4]
        refine ⟨⟨m.blk,m.base+o,m.size,m.esz⟩,_,te,fr,?_,k2,g7 (hr.lt j m k1),by rw [jy]; exact k4,?_,fun k v' hk'=>⟨hcl k v' hk',?_⟩,fun _=>k7 hbase⟩
        ·rw [aw (by simp)]; simp
        ·simp only [aq,hlo,hln];rw [p4,k4] at hle; omega
        ·rw [s9 ln cc _ _ hle];by_cases hk2:k < n1*i.size
         ·rw [ag (by omega)] at hk';obtain ⟨u,hu1,hu2⟩:=hold k v' hk';rw [if_neg (by simp only; omega)];exact ⟨u,hu1,(hu2.later (ni μ j)).later (ij _ _)⟩
         ·rw [aw (by omega),hlo] at hk';obtain ⟨u,hu1,hu2⟩:=p1.get hk';have:=ah hu1;rw [if_pos (by simp only; omega)];refine ⟨u,?_,(hu2.later (ni μ j)).later (ij _ _)⟩;rw [← hu1]; congr 1; simp only; omega
       have ht1:=hr.take (m':=⟨m.blk,m.base+o,m.size,m.esz⟩) hbase k1 rfl hnew;have hwm:((h.put j .dead).push (.cells i.size (old++new))).wmin≤j:=fz _ _
       have hst:Step (fun k=>lo≤k) _ μ w _ (ct w m.blk (.cells (jz cc (m.base+o+n1*i.size) ln) te fr)) :=
        Step.take (X:=fun k=>lo≤k) (m':=⟨m.blk,m.base+o,m.size,m.esz⟩) (.cells (jz cc (m.base+o+n1*i.size) ln) te fr) k1 rfl hwm
       refine ⟨_,_,_,ν,rfl,.inl hrun',hst,ht1,?_⟩;rw [iu];refine FRel.setVal ?_ hd ?_
       ·refine hf.keep hst.later (fun t cs' hv=>bp (hf.sepm t cs' j m hv k1)) (fun t cs' q m' hv hq hm'=>?_) fun r' hr'=>⟨bp ((hf.sepd r' hr').1 j m k1),fun q m' hq hm'=>?_⟩
        ·rcases jd hm' with b | ⟨_,b⟩
         ·exact absurd (ah b) (by simp; omega)
         ·cases b; exact hf.sepm t cs' j m hv k1
        ·rcases jd hm' with b | ⟨_,b⟩
         ·exact absurd (ah b) (by simp; omega)
         ·cases b; exact (hf.sepd r' hr').1 j m k1
       ·have hlen:h.size=μ.length:=hr.len.symm;rw [hlen];simp only [VRel];refine ⟨_,cap,rfl,⟨by simp,hj.2⟩,fun _=>⟨some ⟨m.blk,m.base+o,m.size,m.esz⟩,by rw [aw (by simp)]; simp,fun m' hm'=>by cases hm'; rfl⟩,(fun k hk=>by cases hk),hroom,fun m' hm'=>?_⟩;rw [aw (by simp)] at hm';simp at hm'; subst hm';simp only [k2,Nat.add_zero];exact hs
      ·-- there is none
       have hk1:=hr.kill j;have hfk:FRel E lo ν (μ.set j none) (sget s) a.tmps w:=hf.keep (ni μ j) (fun _ _ _=>rfl) (fun t cs' q m' _ hq hm'=>absurd (ah hm') (by simp; omega)) fun _ _=>⟨rfl,fun q m' hq hm'=>absurd (ah hm') (by simp; omega)⟩
       obtain ⟨v',w',μ',ν',q0,q1,q2,q3,q4⟩:=grow (some ad) cap (h.put j .dead) (μ.set j none) hvx (by omega) (ni μ j) hk1 hfk;have hsz':(h.put j .dead).size=h.size:=by simp [Heap.put,Heap.size]
       rw [hsz'] at q4;refine ⟨v',w',μ',ν',q0,q1,?_,q3,q4⟩;exact (Step.kill (X:=fun k=>lo≤k) (wm:=j) μ w (aj _)).trans q2 (fz _ _)
     ·cases he
  ·cases he
end
end Go.Abs
