/-
  Texts joined.
-/
import Derived.Test.YtilleokmbhmieaaGreatP0
import Derived.Test.YtilleokmbhmieaaGreatP6
import Derived.Test.YtilleokmbhmieaaGreatP1
set_option linter.unusedVariables false
set_option linter.unusedSimpArgs false
set_option maxRecDepth 100000
namespace Go.Abs
def Wp (T:Nat→Option AFunc) (c:ACode) (st:St) (Q:AExit→St→Prop):Prop :=
 ∃ n l,evOuts (evCall T n) n c st=some l∧l≠[]∧∀ x ∈ l,Q x.1 x.2
section
variable {T:Nat→Option AFunc} {c a b:ACode} {st:St} {Q:AExit→St→Prop}
theorem flatL_one {α β:Type} (f:α→Option (List β)) (x:α):flatL f [x]=f x:=by
 simp only [flatL]
 cases f x with
 | none=>rfl
 | some a=>simp
theorem loopO_one {call:CallSem} {n:Nat} (ih:∀ (st:St) (x:AExit × St),evCode call n c st=some x→evOuts call n c st=some [x]):∀ (m:Nat) (st:St) (x:AExit × St),loopN (evCode call n c) m st=some x→loopO (evOuts call n c) m st=some [x]
 | 0,st,x,h=>by simp [loopN] at h
 | m+1,st,x,h=>by
  simp only [loopN] at h
  simp only [loopO]
  split at h
  ·rename_i st1 h1
   rw [ih _ _ h1]
   simp only [flatL_one]
   exact loopO_one ih m _ _ h
  ·rename_i hne
   rw [ih _ _ h]
   simp only [flatL_one]
   obtain ⟨e,st1⟩:=x
   cases e with
   | normal=>exact absurd h (hne _)
   | exit i=>rfl
   | ret=>rfl
theorem outs_of_code {call:CallSem} {n:Nat}:∀ (c:ACode),c.wild=false→∀ (st:St) (x:AExit × St),evCode call n c st=some x→evOuts call n c st=some [x]:=by
 intro c
 induction c with
 | skip=>intro _ st x h; simp only [evOuts,h,bq]
 | region gs=>intro _ st x h; simp only [evOuts,h,bq]
 | exit id=>intro _ st x h; simp only [evOuts,h,bq]
 | ret=>intro _ st x h; simp only [evOuts,h,bq]
 | rangeFunc f g caps ps a b _ _=>intro _ st x h; simp only [evOuts,h,bq]
 | next d x=>intro h; cases h
 | seq a b iha ihb =>
  intro hw st x h
  simp only [ACode.wild,Bool.or_eq_false_iff] at hw
  simp only [evCode] at h
  simp only [evOuts]
  split at h
  ·rename_i st1 h1
   rw [iha hw.1 _ _ h1]
   simp only [flatL_one]
   exact ihb hw.2 _ _ h
  ·rename_i hne
   rw [iha hw.1 _ _ h]
   simp only [flatL_one]
   obtain ⟨e,st1⟩:=x
   cases e with
   | normal=>exact absurd h (hne _)
   | exit i=>rfl
   | ret=>rfl
 | cond c t e iht ihe =>
  intro hw st x h
  simp only [ACode.wild,Bool.or_eq_false_iff] at hw
  simp only [evCode] at h
  simp only [evOuts]
  split at h
  ·exact iht hw.1 _ _ h
  ·exact ihe hw.2 _ _ h
  ·cases h
 | block id a ih =>
  intro hw st x h
  simp only [ACode.wild] at hw
  simp only [evCode] at h
  simp only [evOuts]
  split at h
  ·rename_i j st1 h1
   rw [ih hw _ _ h1]
   simp only [bq,bc,List.map_nil]
   split at h <;> (rename_i hj; cases h; simp [hj])
  ·rename_i hne
   rw [ih hw _ _ h]
   obtain ⟨e,st1⟩:=x
   cases e with
   | normal=>rfl
   | exit i=>exact absurd h (hne _ _)
   | ret=>rfl
 | loop a ih =>
  intro hw st x h
  simp only [ACode.wild] at hw
  exact loopO_one (ih hw) n st x h
 | live l a ih=>intro hw st x h; exact ih hw _ _ h
 | after a l ih =>
  intro hw st x h
  simp only [ACode.wild] at hw
  simp only [evCode] at h
  simp only [evOuts]
  split at h
  ·rename_i st1 h1
   cases h
   rw [ih hw _ _ h1]
   rfl
  ·rename_i hne
   rw [ih hw _ _ h]
   obtain ⟨e,st1⟩:=x
   cases e with
   | normal=>exact absurd h (hne _)
   | exit i=>rfl
   | ret=>rfl
theorem Wp.mono {Q':AExit→St→Prop} (h:Wp T c st Q) (hq:∀ e st,Q e st→Q' e st):Wp T c st Q':=by
 obtain ⟨n,l,h1,h2,h3⟩:=h
 exact ⟨n,l,h1,h2,fun x hx=>hq _ _ (h3 x hx)⟩
noncomputable def okIf (p:Prop):Option Unit:=by classical exact if p then some () else none
@[simp] theorem okIf_iff {p:Prop}:okIf p=some () ↔ p:=by
 unfold okIf
 by_cases h:p <;> simp [h]
theorem Wp_code (hw:c.wild=false) {e:AExit} {st':St} (h:xCode T c st=some (e,st')) (hq:Q e st'):Wp T c st Q:=by
 obtain ⟨n,hn⟩:=(cj T _ _ _).1 h
 exact ⟨n,[(e,st')],outs_of_code c hw _ _ hn,by simp,fun x hx=>by rw [bi] at hx; subst hx; exact hq⟩
theorem Wp_x (hw:c.wild=false) (h:xK T c st (k:=⟨fun e st=>okIf (Q e st)⟩)=some ()):Wp T c st Q:=by
 unfold xK at h
 cases hx:xCode T c st with
 | none=>rw [hx] at h; cases h
 | some p =>
  rw [hx] at h
  exact Wp_code hw hx (okIf_iff.1 h)
theorem flat_all {α β:Type} {F:Nat→α→Option (List β)} (hF:∀ n m x,n≤m→Le (F n x) (F m x)) {R:β→Prop}:∀ (l:List α),(∀ x ∈ l,∃ n zs,F n x=some zs∧zs≠[]∧∀ z ∈ zs,R z)→∃ n ys,flatL (F n) l=some ys∧(l≠[]→ys≠[])∧∀ y ∈ ys,R y
 | [],_=>⟨0,[],rfl,fun h=>absurd rfl h,fun y hy=>by cases hy⟩
 | x :: l,h=>by
  obtain ⟨n,zs,h1,h2,h3⟩:=h x (a7 ..)
  obtain ⟨m,ys,k1,_,k3⟩:=flat_all hF l fun y hy=>h y (bd _ hy)
  have e1:=hF n (n+m) x (by omega) _ h1
  have e2:=flatL_mono (fun x=>hF m (n+m) x (by omega)) l _ k1
  refine ⟨n+m,zs++ys,by simp only [flatL,e1,e2],fun _=>by simp [h2],fun y hy=>?_⟩
  rcases br.1 hy with hy | hy
  ·exact h3 y hy
  ·exact k3 y hy
theorem outs_le {n m:Nat} (h:n≤m) (c:ACode) (st:St):Le (evOuts (evCall T n) n c st) (evOuts (evCall T m) m c st):=outs_mono (eq T h) h c st
theorem ka (h:Wp T a st fun e st'=>match e with | .normal=>Wp T b st' Q | e=>Q e st'):Wp T (.seq a b) st Q:=by
 obtain ⟨n,l,h1,h2,h3⟩:=h
 let F:Nat→AExit × St→Option (List (AExit × St)):=fun m x=>match x.1 with
  | .normal=>evOuts (evCall T m) m b x.2
  | e=>some [(e,x.2)]
 have hF:∀ n m x,n≤m→Le (F n x) (F m x):=fun n m x hnm=>by
  obtain ⟨e,st1⟩:=x
  cases e with
  | normal=>exact outs_le hnm b st1
  | exit i=>exact Le.refl _
  | ret=>exact Le.refl _
 obtain ⟨m,ys,k1,k2,k3⟩:=flat_all hF (R:=fun y=>Q y.1 y.2) l fun x hx=>by
  have:=h3 x hx
  obtain ⟨e,st1⟩:=x
  cases e with
  | normal=>exact this
  | exit i=>exact ⟨0,[(.exit i,st1)],rfl,by simp,fun z hz=>by rw [bi] at hz; subst hz; exact this⟩
  | ret=>exact ⟨0,[(.ret,st1)],rfl,by simp,fun z hz=>by rw [bi] at hz; subst hz; exact this⟩
 refine ⟨n+m,ys,?_,k2 h2,k3⟩
 simp only [evOuts,outs_le (show n≤n+m by omega) a st _ h1]
 exact flatL_mono (fun x=>hF m (n+m) x (by omega)) l _ k1
theorem Wp_block {id:Nat} (h:Wp T c st fun e st'=>Q (blkE id e) st'):Wp T (.block id c) st Q:=by
 obtain ⟨n,l,h1,h2,h3⟩:=h
 refine ⟨n,l.map fun x=>match x.1 with
  | .exit j=>if j=id then (.normal,x.2) else (.exit j,x.2)
  | e=>(e,x.2),by simp only [evOuts,h1,bq]; rfl,by simpa using h2,fun y hy=>?_⟩
 rw [cg] at hy
 obtain ⟨x,hx,rfl⟩:=hy
 have:=h3 x hx
 obtain ⟨e,st1⟩:=x
 cases e with
 | normal=>exact this
 | ret=>exact this
 | exit j =>
  simp only [blkE] at this ⊢
  split at this
  ·rename_i hj; rw [if_pos hj]; exact this
  ·rename_i hj; rw [if_neg hj]; exact this
theorem Wp_live {l:List Nat} (h:Wp T c ⟨keepK l st.s,st.h⟩ Q):Wp T (.live l c) st Q:=by
 rw [keepK_eq] at h
 exact h
theorem Wp_after {l:List Nat} (h:Wp T c st fun e st'=>match e with | .normal=>Q .normal ⟨keepK l st'.s,st'.h⟩ | e=>Q e st'):Wp T (.after c l) st Q:=by
 obtain ⟨n,ys,h1,h2,h3⟩:=h
 refine ⟨n,ys.map fun x=>match x.1 with
  | .normal=>(.normal,⟨keep l x.2.s,x.2.h⟩)
  | e=>(e,x.2),by simp only [evOuts,h1,bq]; rfl,by simpa using h2,fun y hy=>?_⟩
 rw [cg] at hy
 obtain ⟨x,hx,rfl⟩:=hy
 have:=h3 x hx
 obtain ⟨e,st1⟩:=x
 cases e with
 | normal=>rw [keepK_eq] at this; exact this
 | exit i=>exact this
 | ret=>exact this
theorem Wp_round (h:Wp T c st fun e st'=>match e with | .normal=>Wp T (.loop c) st' Q | e=>Q e st'):Wp T (.loop c) st Q:=by
 obtain ⟨n,l,h1,h2,h3⟩:=h
 let F:Nat→AExit × St→Option (List (AExit × St)):=fun m x=>match x.1 with
  | .normal=>evOuts (evCall T m) m (.loop c) x.2
  | e=>some [(e,x.2)]
 have hF:∀ n m x,n≤m→Le (F n x) (F m x):=fun n m x hnm=>by
  obtain ⟨e,st1⟩:=x
  cases e with
  | normal=>exact outs_le hnm (.loop c) st1
  | exit i=>exact Le.refl _
  | ret=>exact Le.refl _
 obtain ⟨m,ys,k1,k2,k3⟩:=flat_all hF (R:=fun y=>Q y.1 y.2) l fun x hx=>by
  have:=h3 x hx
  obtain ⟨e,st1⟩:=x
  cases e with
  | normal=>exact this
  | exit i=>exact ⟨0,[(.exit i,st1)],rfl,by simp,fun z hz=>by rw [bi] at hz; subst hz; exact this⟩
  | ret=>exact ⟨0,[(.ret,st1)],rfl,by simp,fun z hz=>by rw [bi] at hz; subst hz; exact this⟩
 refine ⟨n+m+1,ys,?_,k2 h2,k3⟩
 simp only [evOuts,loopO,outs_le (show n≤n+m+1 by omega) c st _ h1]
 refine flatL_mono (fun x r hr=>?_) l _ k1
 obtain ⟨e,st1⟩:=x
 cases e with
 | normal =>
  have hr':loopO (evOuts (evCall T m) m c) m st1=some r:=hr
  exact loopO_mono (fun st=>outs_le (show m≤n+m+1 by omega) c st) m (n+m) st1 (by omega) _ hr'
 | exit i=>exact hr
 | ret=>exact hr
theorem Wp_loop (Inv:Nat→St→Prop) (step:∀ k st,Inv k st→Wp T c st fun e st'=>match e with | .normal=>∃ j,j < k∧Inv j st' | e=>Q e st'):∀ k st,Inv k st→Wp T (.loop c) st Q:=by
 intro k
 induction k using Nat.strongRecOn with
 | _ k ih =>
  intro st h
  refine Wp_round ((step k st h).mono fun e st' he=>?_)
  cases e with
  | normal=>obtain ⟨j,h1,h2⟩:=he; exact ih j h1 st' h2
  | exit i=>exact he
  | ret=>exact he
theorem Wp_next {d:Option Nat} {x:Opd} {i m since last clock:Nat} {seen:List Nat} {es:List (AVal × AVal × Nat)} (hx:x.ev st.s=some (.ptr (some (i,0)))) (hb:st.h.base≤i)
  (hi:st.h.get i=some (.mapIter (some m) since seen last)) (hm:st.h.get m=some (.map es clock)) (hold:∀ e ∈ es,e.2.2 < since) (hsc:since≤last)
  (h0:(∀ e ∈ es,e.2.2 ∈ seen)→Q .normal ⟨setSlot d (.val (.tuple [.bool false])) st.s,st.h.put i .dead⟩)
  (h1:∀ e ∈ es,e.2.2 ∉ seen→Q .normal ⟨setSlot d (.val (.tuple [.bool true,e.1,e.2.1])) st.s,st.h.put i (.mapIter (some m) since (seen++[e.2.2]) clock)⟩):Wp T (.next d x) st Q:=by
 have hev:∀ n,evOuts (evCall T n) n (.next d x) st=nextOuts d x st:=fun n=>rfl
 have hall:(es.all fun e=>decide (e.2.2 < since))=true:=by
  rw [al]; intro e he; simpa using hold e he
 have hn:nextOuts d x st=(match es.filter fun e=>!seen.contains e.2.2 with
   | []=>some [(.normal,⟨setSlot d (.val (.tuple [.bool false])) st.s,st.h.put i .dead⟩)]
   | l=>some (l.map fun e=>(.normal,⟨setSlot d (.val (.tuple [.bool true,e.1,e.2.1])) st.s,st.h.put i (.mapIter (some m) since (seen++[e.2.2]) clock)⟩))):=by
  unfold nextOuts
  simp only [hx,hb,if_true,hi,hm,hall,hsc,and_self]
  cases es.filter fun e=>!seen.contains e.2.2 <;> rfl
 cases hf:es.filter fun e=>!seen.contains e.2.2 with
 | nil =>
  rw [hf] at hn
  refine ⟨0,_,(hev 0).trans hn,by simp,fun y hy=>?_⟩
  rw [bi] at hy; subst hy
  refine h0 fun e he=>?_
  have:e ∉ es.filter fun e=>!seen.contains e.2.2:=by rw [hf]; simp
  rw [eu] at this
  simpa [he] using this
 | cons z zs =>
  rw [hf] at hn
  refine ⟨0,_,(hev 0).trans hn,by simp,fun y hy=>?_⟩
  rw [cg] at hy
  obtain ⟨e,he,rfl⟩:=hy
  rw [← hf,eu] at he
  exact h1 e he.1 (by simpa using he.2)
theorem xCallW {g:Nat} {f:AFunc} (hT:T g=some f) {args:List AVal} {h:Heap} {r:AVal × Heap} (hl:args.length=f.nargs) (hp:Wp T f.body ⟨enter 0 args,{ h with wmin:=h.size }⟩ fun e st=>retK f h e st=some r)
  (hw:f.wild=true:=by rfl) (hr:f.round=none:=by rfl) (hc:f.closed=false:=by rfl):xCall T g args h=some r:=by
 obtain ⟨n,l,h1,h2,h3⟩:=hp
 refine xCall_wild T hT hr hc hw hl h1 h2 fun x hx=>?_
 have:=h3 x hx
 obtain ⟨e,st⟩:=x
 cases e with
 | exit i=>simp [retK] at this
 | normal =>
  simp only [retK_n] at this
  simp only [funcEnd]
  cases hres:resultsL st.s st.h f.results with
  | none=>rw [hres] at this; cases this
  | some vs=>rw [hres] at this; simpa using this
 | ret =>
  simp only [retK_r] at this
  simp only [funcEnd]
  cases hres:resultsL st.s st.h f.results with
  | none=>rw [hres] at this; cases this
  | some vs=>rw [hres] at this; simpa using this
end
end Go.Abs

namespace Go.Abs
theorem evCall_sub {T T':Nat→Option AFunc} (hs:∀ g f,T g=some f→T' g=some f):∀ n,CallLe (evCall T n) (evCall T' n)
 | 0=>fun _ _ _ r hr=>by simp [evCall] at hr
 | n+1=>fun g args h=>by
  intro r hr
  have ih:=evCall_sub hs n
  simp only [evCall] at hr ⊢
  cases hT:T g with
  | none=>rw [hT] at hr; cases hr
  | some f =>
   rw [hT] at hr
   rw [hs g f hT]
   simp only at hr ⊢
   split at hr
   ·exact evRound_mono ih (ai _) _ _ _ _ r hr
   ·exact hr
   ·exact wrapC_mono (fun args h=>evFunc_mono ih (ai _) f args h) _ _ _ r hr
theorem dc {T T':Nat→Option AFunc} (hs:∀ g f,T g=some f→T' g=some f) {g:Nat} {args:List AVal} {h:Heap} {r:AVal × Heap} (he:xCall T g args h=some r):xCall T' g args h=some r:=by
 rw [ii] at he ⊢
 obtain ⟨n,hn⟩:=he
 exact ⟨n,evCall_sub hs n _ _ _ _ hn⟩
end Go.Abs

namespace Go.Abs
abbrev Str:=List UInt8
section
variable {κ ν:Type} [DecidableEq κ]
variable {os:List AObj} {b w r:Nat} {A:List (κ × ν)} {kf:κ→AVal} {vf:ν→AVal}
end
theorem iw {α:Type} (a c:List α) (k:Nat):(a++c)[a.length+k]? = c[k]?:=by
 rw [au (by omega)]; congr 1; omega
theorem fp {α:Type} (a c:List α):(a++c)[a.length]? = c[0]?:=iw a c 0
theorem set_k {α:Type} (a c:List α) (k:Nat) (y:α):(a++c).set (a.length+k) y=a++c.set k y:=by
 rw [List.set_append_right _ _ (by omega)]; congr 2; omega
theorem set_k0 {α:Type} (a c:List α) (y:α):(a++c).set a.length y=a++c.set 0 y:=set_k a c 0 y
theorem xRoundK {T:Nat→Option AFunc} {g:Nat} {f:AFunc} {rd:ARound} (hT:T g=some f) (hr:f.round=some (.round rd)) (i j:Nat) (a_s:List AVal) (h:Heap) :
  xCall T g (.ptr (some (i,j)) :: a_s) h=mustK (a_s.length=rd.params.length∧h.base≤i) (f:=⟨fun _=>andThen (roundSlots i rd.params a_s h) (f:=⟨fun s=>xK T rd.assign ⟨s,{ h with wmin:=h.size }⟩
   (k:=⟨fun e st=>andThen (roundIn g i (some (e,st))) (f:=⟨fun st=>xK T rd.body st (k:=⟨fun e st=>roundOut h g i (some (e,st))⟩)⟩)⟩)⟩)⟩):=by
 rw [xRound_eq T hT hr]
 unfold xRound mustK
 simp only
 split
 ·cases roundSlots i rd.params a_s h with
  | none=>rfl
  | some s =>
   simp only [bu]
   unfold xK
   cases xCode T rd.assign ⟨s,{ h with wmin:=h.size }⟩ with
   | none=>rfl
   | some x =>
    obtain ⟨e,st⟩:=x
    simp only [bu]
    cases roundIn g i (some (e,st)) with
    | none=>rfl
    | some st =>
     simp only [bu]
     cases xCode T rd.body st with
     | none=>rfl
     | some y=>rfl
 ·rfl
theorem finish_keep {h0 h:Heap} {v:AVal} {k:List Nat} (hw:h0.size≤h.wmin) (hv:v.under h0.size=false) (hr:reach h h0.size 1000 v.ids []=k) (hok:∀ i ∈ v.ids++k.flatMap fun i=>((h.get i).map AObj.ids).getD [],i < h0.size∨i ∈ k) :
  finish h0 v h=(v.ren (fun i=>if i < h0.size then i else h0.size+idxIn i k),{ h0 with objs:=h0.objs++k.map fun i=>((h.get i).map (AObj.ren fun i=>if i < h0.size then i else h0.size+idxIn i k)).getD .dead }):=by
 unfold finish
 rw [if_neg (by omega),hv]
 simp only [bw,if_false,hr]
 rw [if_pos]
 rw [al]
 intro i hi
 rcases hok i hi with h1 | h1
 ·rw [decide_eq_true h1]; rfl
 ·simp [h1]
end Go.Abs

namespace Go.Abs
structure FieldU where
 st:Bool
 name:Str
 desc:Str
structure InsU where
 op:Int
 n:Int
 m:Int
 cls:Str
 name:Str
 desc:Str
 text:Str
structure TrapU where
 lo:Int
 hi:Int
 at':Int
 cls:Str
structure MapU where
 at':Int
 locals:List Str
 la:Option (Nat × Nat)
 lc:Option Nat
 stack:List Str
 sa:Option (Nat × Nat)
 sc:Option Nat
structure MethU where
 st:Bool
 name:Str
 desc:Str
 stack:Int
 locals:Int
 code:List InsU
 ca:Option (Nat × Nat)
 cc:Option Nat
 traps:List TrapU
 ta:Option (Nat × Nat)
 tc:Option Nat
 maps:List MapU
 xa:Option (Nat × Nat)
 xc:Option Nat
structure UnitU where
 name:Str
 super:Str
 fields:List FieldU
 fa:Option (Nat × Nat)
 fc:Option Nat
 meths:List MethU
 ma:Option (Nat × Nat)
 mc:Option Nat
def FieldU.cells (f:FieldU):List AVal:=[.bool f.st,.str f.name,.str f.desc]
def InsU.cells (x:InsU):List AVal:=[.int .u8 x.op,.int .i64 x.n,.int .i64 x.m,.str x.cls,.str x.name,.str x.desc,.str x.text]
def TrapU.cells (x:TrapU):List AVal:=[.int .i64 x.lo,.int .i64 x.hi,.int .i64 x.at',.str x.cls]
def MapU.cells (x:MapU):List AVal:=[.int .i64 x.at',.slice x.la x.locals.length x.lc,.slice x.sa x.stack.length x.sc]
def MethU.cells (m:MethU):List AVal:=[.bool m.st,.str m.name,.str m.desc,.int .i64 m.stack,.int .i64 m.locals,.slice m.ca m.code.length m.cc,.slice m.ta m.traps.length m.tc,.slice m.xa m.maps.length m.xc]
def UnitU.cells (u:UnitU):List AVal:=[.str u.name,.str u.super,.slice u.fa u.fields.length u.fc,.slice u.ma u.meths.length u.mc]
def strC (s:Str):List AVal:=[.str s]
abbrev big:Nat:=9223372036854775807
def under (n:Nat) (a:Option (Nat × Nat)):Prop:=∀ i o,a=some (i,o)→i < n
structure MapU.ok (os:List AObj) (x:MapU):Prop where
 l:Row os 1 strC x.locals x.la
 ln:x.locals.length≤big
 lu:under os.length x.la
 s:Row os 1 strC x.stack x.sa
 sn:x.stack.length≤big
 su:under os.length x.sa
 ls:∀ t ∈ x.locals++x.stack,t.length≤big
structure MethU.ok (os:List AObj) (m:MethU):Prop where
 name:m.name.length≤big
 desc:m.desc.length≤big
 c:Row os 7 InsU.cells m.code m.ca
 cn:m.code.length≤big
 cu:under os.length m.ca
 cok:∀ x ∈ m.code,x.cls.length≤big∧x.name.length≤big∧x.desc.length≤big∧x.text.length≤big
 t:Row os 4 TrapU.cells m.traps m.ta
 tn:m.traps.length≤big
 tu:under os.length m.ta
 tok:∀ x ∈ m.traps,x.cls.length≤big
 x:Row os 3 MapU.cells m.maps m.xa
 xn:m.maps.length≤big
 xu:under os.length m.xa
 xok:∀ x ∈ m.maps,x.ok os
structure UnitU.ok (os:List AObj) (u:UnitU):Prop where
 name:u.name.length≤big
 super:u.super.length≤big
 f:Row os 3 FieldU.cells u.fields u.fa
 fn:u.fields.length≤big
 fu:under os.length u.fa
 fok:∀ x ∈ u.fields,x.name.length≤big∧x.desc.length≤big
 m:Row os 8 MethU.cells u.meths u.ma
 mn:u.meths.length≤big
 mu:under os.length u.ma
 mok:∀ x ∈ u.meths,x.ok os
def Pre (os O:List AObj):Prop:=∀ (i:Nat) (o:AObj),os[i]? = some o→O[i]? = some o
theorem Pre.refl (os:List AObj):Pre os os:=fun _ _ h=>h
theorem Pre.trans {A B C:List AObj} (h:Pre A B) (k:Pre B C):Pre A C:=fun i o ho=>k i o (h i o ho)
theorem Pre.app (os X:List AObj):Pre os (os++X):=fun i o h=>by rw [ag (ah h)]; exact h
theorem Pre.set {A B:List AObj} (h:Pre A B) {i:Nat} (o:AObj) (hi:A.length≤i):Pre A (B.set i o):=fun j p hj=>by
 have:=ah hj
 rw [aq (by omega)]; exact h j p hj
theorem Pre.len {A B:List AObj} (h:Pre A B):A.length≤B.length:=by
 rcases a8 B.length A.length with h1 | h1
 ·have h2:B.length < A.length:=h1
  have:=ah (h B.length A[B.length] (by simp [h2]))
  omega
 ·exact h1
structure UnitU.low (n:Nat) (u:UnitU):Prop where
 f:under n u.fa
 m:under n u.ma
section
variable {os:List AObj} {w:Nat}
end
end Go.Abs

namespace Go.Abs
theorem row_flat {α:Type} {e:Nat} {f:α→List AVal} {cs:List AVal}:∀ (L:List α) (o:Nat),(∀ (j:Nat) (x:α),L[j]? = some x→o+j*e+e≤cs.length∧(cs.drop (o+j*e)).take e=f x)→(cs.drop o).take (L.length*e)=L.flatMap f
 | [],o,_=>by simp
 | x :: L,o,h=>by
  have h0:=(h 0 x rfl).2
  rw [Nat.zero_mul,Nat.add_zero] at h0
  have ih:=row_flat L (o+e) fun j y hy=>by
   have:=h (j+1) y hy
   rw [dr,Nat.one_mul,Nat.add_comm (j*e) e,← jj] at this
   exact this
  rw [bv,dr,Nat.one_mul,Nat.add_comm,List.take_add,d0,h0,g9,ih]
theorem rowOf0 {e:Nat} {h:Heap} {a:Option (Nat × Nat)} {c:Option Nat}:rowOf e h (.slice a 0 c)=some []:=by
 cases a with
 | none=>rfl
 | some p=>rfl
theorem rowOfC {e n:Nat} {h:Heap} {i:Nat} {cs:List AVal} {c:Option Nat} (hg:h.objs[i]? = some (.cells e cs)) (hn:cs.length=n*e):rowOf e h (.slice (some (i,0)) n c)=some cs:=by
 unfold rowOf
 simp only
 split
 ·rename_i h0
  subst h0
  rw [Nat.zero_mul] at hn
  rw [bo hn]
 ·have hg':h.get i=some (.cells e cs):=hg
  rw [hg']
  simp only
  have h2:True∧0+n*e≤cs.length:=⟨trivial,by omega⟩
  rw [if_pos h2,dz,← hn,List.take_length]
theorem sgetN (t:Nat):sget [] t=none:=by simp
theorem sgetH (t:Nat) (x:Slot) (r:Slots):sget ((t,x) :: r) t=some x:=by simp
theorem sgetT (u t:Nat) (x:Slot) (r:Slots) (h:u≠t):sget ((u,x) :: r) t=sget r t:=by simp [h]
end Go.Abs

namespace Go.Abs.Short
@[reducible] def t (i:Nat):Opd:=.tmp i
@[reducible] def n (i:Int):Opd:=.const (.int .i64 i)
@[reducible] def F:Opd:=.const (.bool false)
@[reducible] def Y:Opd:=.const (.bool true)
@[reducible] def R (l:List Nat) (ops:List AOper):ACode:=.after (.region [⟨false,[],ops⟩]) l
@[reducible] def v (d x:Nat):AOper:=⟨some d,none,.val (.tmp x)⟩
@[reducible] def o (d:Nat) (op:AOp):AOper:=⟨some d,none,op⟩
@[reducible] def u (op:AOp):AOper:=⟨none,none,op⟩
@[reducible] def g (d t:Nat) (w:Bool) (op:AOp):AOper:=⟨some d,some (t,w),op⟩
end Go.Abs.Short
namespace Go.Abs.ShortH
def r (n:Nat) (l:List Nat):Hint:=.after (.reg [(false,n)] []) l
def l (l:List Nat):Hint:=.live l .leaf
end Go.Abs.ShortH

namespace Go.Abs.AbsBlb
open Go.Abs.Short
def code0L0:ACode :=
 .live [5,6,11,12,13] (.seq (R [5,6,11,12,13,14] [o 14 (.bin .lss (t 13) (t 12))])
 (.seq (.after (.cond (t 14) (.skip) (.live [5] (.exit 0))) [5,6,11,12,13])
 (.seq (.after (.block 1 (.seq (R [5,6,8,11,12,13] [o 15 (.iaddr 3 (t 11) (t 13)),o 16 (.load (some 3) (t 15)),o 8 (.lalloc [.int .i64 0,.int .u32 0,.int .i64 0]),u (.store 3 (t 8) (t 16))])
 (.seq (R [5,6,11,12,13,19] [v 17 6,o 18 (.load (some 3) (t 8)),o 19 (.call (t 17) [t 18])])
 (.after (.cond (t 19) (R [5,6,11,12,13] [v 20 5,o 21 (.bin .add (t 20) (n 1)),v 5 21]) (.skip)) [5,6,11,12,13])))) [5,6,11,12,13])
 (R [5,6,11,12,13] [o 22 (.bin .add (t 13) (n 1)),v 13 22]))))
def code0:AFunc:=⟨false,false,2,24,[.tmp 4],
 .seq (R [0,1] [o 4 (.val (n 0))])
 (.seq (R [0,5,6] [v 9 1,o 10 (.callg 13 [t 9]),o 5 (.val (n 0)),v 6 10])
 (.seq (.seq (R [5,6,11,12,13] [v 11 0,o 12 (.len .sl (t 11)),o 13 (.val (n 0))])
 (.after (.block 0 (.loop code0L0)) [5]))
 (.seq (R [4] [v 23 5,v 4 23])
 (.live [4] (.ret))))),none⟩
def code5:AFunc:=⟨false,false,1,8,[.tmp 2,.tmp 3],
 .seq (R [0] [o 2 (.val (n 0)),o 3 (.val F)])
 (.seq (R [2,3] [v 4 0,o 5 (.callg 17 [t 4,.const (.func 18 [] []),.const (.func 19 [] [])]),o 6 (.extract (t 5) 0),o 7 (.extract (t 5) 1),v 2 6,v 3 7])
 (.live [2,3] (.ret))),none⟩
def code7:AFunc:=⟨false,false,2,12,[.tmp 4,.tmp 5],
 .seq (R [0,1] [o 4 (.val (n 0)),o 5 (.val F)])
 (.seq (R [4,5] [v 6 0,v 7 1,o 8 (.callg 13 [t 7]),o 9 (.callg 14 [t 6,t 8,.const (.func 15 [] [])]),o 10 (.extract (t 9) 0),o 11 (.extract (t 9) 1),v 4 10,v 5 11])
 (.live [4,5] (.ret))),none⟩
def code13:AFunc:=⟨false,false,1,4,[.tmp 2],
 .seq (R [1] [o 1 (.box (t 0)),o 2 (.val (.const (.nilFunc)))])
 (.seq (R [2] [o 3 (.mkfunc 22 [] [t 1]),v 2 3])
 (.live [2] (.ret))),none⟩
def code14L0:ACode :=
 .live [0,1,2,8,9,12,13,14] (.seq (R [0,1,2,8,9,12,13,14,15] [o 15 (.bin .lss (t 14) (t 13))])
 (.seq (.after (.cond (t 15) (.skip) (.live [8,9] (.exit 0))) [0,1,2,8,9,12,13,14])
 (.seq (.after (.block 1 (.seq (R [0,1,2,8,9,10,11,12,13,14] [v 16 14,o 17 (.iaddr 3 (t 12) (t 14)),o 18 (.load (some 3) (t 17)),o 11 (.lalloc [.int .i64 0,.int .u32 0,.int .i64 0]),v 10 16,u (.store 3 (t 11) (t 18))])
 (.seq (.after (.region [⟨true,[],[v 19 1,o 20 (.load (some 3) (t 11))]⟩,⟨false,[],[o 21 (.call (t 19) [t 20]),v 22 21,g 23 22 true (.val (t 9)),g 24 22 true (.un .not (t 23)),g 25 22 true (.val (t 24))]⟩,⟨true,[],[g 26 25 false (.val (t 2)),g 27 25 false (.load (some 3) (t 11)),g 28 25 false (.call (t 26) [t 27]),g 29 25 false (.val (t 2)),g 30 25 false (.val (t 0)),g 31 25 false (.val (t 8)),g 32 25 false (.iaddr 3 (t 30) (t 31)),g 33 25 false (.load (some 3) (t 32))]⟩,⟨false,[],[g 34 25 false (.call (t 29) [t 33]),g 35 25 false (.bin .lss (t 28) (t 34)),g 36 22 true (.pick (t 25) Y (t 35)),o 37 (.pick (t 22) (t 36) F)]⟩]) [0,1,2,8,9,10,12,13,14,37])
 (.after (.cond (t 37) (R [0,1,2,8,9,12,13,14] [v 38 10,v 8 38,o 9 (.val Y)]) (.skip)) [0,1,2,8,9,12,13,14])))) [0,1,2,8,9,12,13,14])
 (R [0,1,2,8,9,12,13,14] [o 39 (.bin .add (t 14) (n 1)),v 14 39]))))
def code14:AFunc:=⟨false,false,3,42,[.tmp 6,.tmp 7],
 .seq (R [0,1,2] [o 6 (.val (n 0)),o 7 (.val F)])
 (.seq (R [0,1,2,8,9] [o 8 (.val (n 0)),o 9 (.val F)])
 (.seq (.seq (R [0,1,2,8,9,12,13,14] [v 12 0,o 13 (.len .sl (t 12)),o 14 (.val (n 0))])
 (.after (.block 0 (.loop code14L0)) [8,9]))
 (.seq (R [6,7] [v 40 8,v 41 9,v 6 40,v 7 41])
 (.live [6,7] (.ret))))),none⟩
def code15:AFunc:=⟨false,false,1,5,[.tmp 2],
 .seq (R [1] [o 1 (.lbox (t 0)),o 2 (.val (n 0))])
 (.seq (R [2] [o 3 (.faddr (t 1) 2),o 4 (.load none (t 3)),v 2 4])
 (.live [2] (.ret))),none⟩
def code17L0:ACode :=
 .live [0,1,2,8,9,12,13,14] (.seq (R [0,1,2,8,9,12,13,14,15] [o 15 (.bin .lss (t 14) (t 13))])
 (.seq (.after (.cond (t 15) (.skip) (.live [8,9] (.exit 0))) [0,1,2,8,9,12,13,14])
 (.seq (.after (.block 1 (.seq (R [0,1,2,8,9,10,11,12,13,14] [v 16 14,o 17 (.iaddr 3 (t 12) (t 14)),o 18 (.load (some 3) (t 17)),o 11 (.lalloc [.int .i64 0,.int .u32 0,.int .i64 0]),v 10 16,u (.store 3 (t 11) (t 18))])
 (.seq (.after (.region [⟨true,[],[v 19 1,o 20 (.load (some 3) (t 11))]⟩,⟨false,[],[o 21 (.call (t 19) [t 20]),v 22 21,g 23 22 true (.val (t 9)),g 24 22 true (.un .not (t 23)),g 25 22 true (.val (t 24))]⟩,⟨true,[],[g 26 25 false (.val (t 2)),g 27 25 false (.load (some 3) (t 11)),g 28 25 false (.call (t 26) [t 27]),g 29 25 false (.val (t 2)),g 30 25 false (.val (t 0)),g 31 25 false (.val (t 8)),g 32 25 false (.iaddr 3 (t 30) (t 31)),g 33 25 false (.load (some 3) (t 32))]⟩,⟨false,[],[g 34 25 false (.call (t 29) [t 33]),g 35 25 false (.bin .lss (t 28) (t 34)),g 36 22 true (.pick (t 25) Y (t 35)),o 37 (.pick (t 22) (t 36) F)]⟩]) [0,1,2,8,9,10,12,13,14,37])
 (.after (.cond (t 37) (R [0,1,2,8,9,12,13,14] [v 38 10,v 8 38,o 9 (.val Y)]) (.skip)) [0,1,2,8,9,12,13,14])))) [0,1,2,8,9,12,13,14])
 (R [0,1,2,8,9,12,13,14] [o 39 (.bin .add (t 14) (n 1)),v 14 39]))))
def code17:AFunc:=⟨false,false,3,42,[.tmp 6,.tmp 7],
 .seq (R [0,1,2] [o 6 (.val (n 0)),o 7 (.val F)])
 (.seq (R [0,1,2,8,9] [o 8 (.val (n 0)),o 9 (.val F)])
 (.seq (.seq (R [0,1,2,8,9,12,13,14] [v 12 0,o 13 (.len .sl (t 12)),o 14 (.val (n 0))])
 (.after (.block 0 (.loop code17L0)) [8,9]))
 (.seq (R [6,7] [v 40 8,v 41 9,v 6 40,v 7 41])
 (.live [6,7] (.ret))))),none⟩
def code18:AFunc:=⟨false,false,1,6,[.tmp 2],
 .seq (R [1] [o 1 (.lbox (t 0)),o 2 (.val F)])
 (.seq (R [2] [o 3 (.faddr (t 1) 0),o 4 (.load none (t 3)),o 5 (.bin .eql (t 4) (n 2)),v 2 5])
 (.live [2] (.ret))),none⟩
def code19:AFunc:=⟨false,false,1,5,[.tmp 2],
 .seq (R [1] [o 1 (.lbox (t 0)),o 2 (.val (.const (.int .u32 0)))])
 (.seq (R [2] [o 3 (.faddr (t 1) 1),o 4 (.load none (t 3)),v 2 4])
 (.live [2] (.ret))),none⟩
def code22:AFunc:=⟨false,false,2,18,[.tmp 3],
 .seq (R [1,2] [o 2 (.lbox (t 0)),o 3 (.val F)])
 (.seq (R [3] [o 4 (.faddr (t 2) 0),o 5 (.load none (t 4)),o 6 (.bin .eql (t 5) (n 0)),v 7 6,g 8 7 false (.faddr (t 2) 0),g 9 7 false (.load none (t 8)),g 10 7 false (.bin .eql (t 9) (n 1)),g 11 7 false (.val (t 10)),g 12 11 true (.faddr (t 2) 2),g 13 11 true (.load none (t 12)),g 14 11 true (.load none (t 1)),g 15 11 true (.bin .lss (t 13) (t 14)),g 16 7 false (.pick (t 11) (t 15) F),o 17 (.pick (t 7) Y (t 16)),v 3 17])
 (.live [3] (.ret))),none⟩
def code145:AFunc:=⟨false,false,2,9,[.tmp 4],
 .seq (R [0,1] [o 4 (.val F)])
 (.seq (R [4] [v 5 0,v 6 1,o 7 (.callg 176 [t 5,t 6]),o 8 (.bin .geq (t 7) (n 0)),v 4 8])
 (.live [4] (.ret))),none⟩
def code166:AFunc:=⟨false,false,1,8,[.tmp 2],
 .seq (R [0] [o 2 (.val (n 0))])
 (.seq (.after (.cond F (.seq (R [2] [v 3 0,o 4 (.conv (.int .u32) (t 3)),o 5 (.nextStr F),v 2 5])
 (.live [2] (.ret))) (.skip)) [0])
 (.seq (R [2] [v 6 0,o 7 (.callg 200 [t 6]),v 2 7])
 (.live [2] (.ret)))),none⟩
def code176L0:ACode :=
 .live [0,1,7,8] (.seq (R [0,1,7,8,9] [o 9 (.bin .lss (t 8) (t 7))])
 (.seq (.after (.cond (t 9) (.skip) (.live [] (.exit 0))) [0,1,7,8])
 (.seq (.after (.block 1 (.seq (R [0,1,5,7,8] [v 10 8,v 5 10])
 (.seq (R [0,1,5,7,8,16] [v 11 1,v 12 0,v 13 5,o 14 (.iaddr 1 (t 12) (t 13)),o 15 (.load none (t 14)),o 16 (.call (t 11) [t 15])])
 (.after (.cond (t 16) (.seq (R [4] [v 17 5,v 4 17])
 (.live [4] (.ret))) (.skip)) [0,1,7,8])))) [0,1,7,8])
 (R [0,1,7,8] [o 18 (.bin .add (t 8) (n 1)),v 8 18]))))
def code176:AFunc:=⟨false,false,2,19,[.tmp 4],
 .seq (R [0,1] [o 4 (.val (n 0))])
 (.seq (.seq (R [0,1,7,8] [v 6 0,o 7 (.len .sl (t 6)),o 8 (.val (n 0))])
 (.after (.block 0 (.loop code176L0)) []))
 (.seq (R [4] [o 4 (.val (.const (.int .i64 (-1))))])
 (.live [4] (.ret)))),none⟩
def code200:AFunc:=⟨false,false,1,25,[.tmp 2],
 .seq (R [0,2] [o 2 (.val (n 0))])
 (.seq (.seq (R [0,2,4] [v 3 0,o 4 (.bin .geq (t 3) (.const (.int .u64 4294967296)))])
 (.after (.cond (t 4) (.seq (R [0] [v 5 0,o 6 (.bin .shr (t 5) (.const (.int .u64 32))),v 0 6])
 (R [0,2] [o 2 (.val (n 32))])) (.skip)) [0,2]))
 (.seq (.seq (R [0,2,8] [v 7 0,o 8 (.bin .geq (t 7) (.const (.int .u64 65536)))])
 (.after (.cond (t 8) (.seq (R [0,2] [v 9 0,o 10 (.bin .shr (t 9) (.const (.int .u64 16))),v 0 10])
 (R [0,2] [v 11 2,o 12 (.bin .add (t 11) (n 16)),v 2 12])) (.skip)) [0,2]))
 (.seq (.seq (R [0,2,14] [v 13 0,o 14 (.bin .geq (t 13) (.const (.int .u64 256)))])
 (.after (.cond (t 14) (.seq (R [0,2] [v 15 0,o 16 (.bin .shr (t 15) (.const (.int .u64 8))),v 0 16])
 (R [0,2] [v 17 2,o 18 (.bin .add (t 17) (n 8)),v 2 18])) (.skip)) [0,2]))
 (.seq (R [2] [v 19 2,v 20 0,o 21 (.conv (.int .u8) (t 20)),o 22 (.index (.const (.str [0,1,2,2,3,3,3,3,4,4,4,4,4,4,4,4,5,5,5,5,5,5,5,5,5,5,5,5,5,5,5,5,6,6,6,6,6,6,6,6,6,6,6,6,6,6,6,6,6,6,6,6,6,6,6,6,6,6,6,6,6,6,6,6,7,7,7,7,7,7,7,7,7,7,7,7,7,7,7,7,7,7,7,7,7,7,7,7,7,7,7,7,7,7,7,7,7,7,7,7,7,7,7,7,7,7,7,7,7,7,7,7,7,7,7,7,7,7,7,7,7,7,7,7,7,7,7,7,8,8,8,8,8,8,8,8,8,8,8,8,8,8,8,8,8,8,8,8,8,8,8,8,8,8,8,8,8,8,8,8,8,8,8,8,8,8,8,8,8,8,8,8,8,8,8,8,8,8,8,8,8,8,8,8,8,8,8,8,8,8,8,8,8,8,8,8,8,8,8,8,8,8,8,8,8,8,8,8,8,8,8,8,8,8,8,8,8,8,8,8,8,8,8,8,8,8,8,8,8,8,8,8,8,8,8,8,8,8,8,8,8,8,8,8,8,8,8,8,8,8,8,8,8,8,8,8])) (t 21)),o 23 (.conv (.int .i64) (t 22)),o 24 (.bin .add (t 19) (t 23)),v 2 24])
 (.live [2] (.ret)))))),none⟩
def code217:AFunc:=⟨false,false,1,6,[.tmp 2],
 .seq (R [0] [o 2 (.val F)])
 (.seq (R [2] [v 3 0,v 4 0,o 5 (.bin .neq (t 3) (t 4)),v 2 5])
 (.live [2] (.ret))),none⟩
def code385L0:ACode :=
 .live [0,1,2,18,19] (.seq (R [0,1,2,18,19,20] [o 20 (.bin .lss (t 19) (t 18))])
 (.seq (.after (.cond (t 20) (.skip) (.live [0] (.exit 0))) [0,1,2,18,19])
 (.seq (.after (.block 1 (.seq (R [0,1,2,7,18,19] [v 21 19,v 7 21])
 (R [0,1,2,18,19] [v 22 0,v 23 1,v 24 2,o 25 (.bin .sub (t 24) (n 1)),v 26 7,o 27 (.bin .sub (t 25) (t 26)),o 28 (.conv (.int .u64) (t 27)),o 29 (.bin .mul (.const (.int .u64 8)) (t 28)),o 30 (.bin .shr (t 23) (t 29)),o 31 (.conv (.int .u8) (t 30)),o 32 (.mkslice 1 1 [.int .u8 0] [(0,1,t 31)]),o 33 (.append 1 1 (t 22) (t 32)),v 0 33]))) [0,1,2,18,19])
 (R [0,1,2,18,19] [o 34 (.bin .add (t 19) (n 1)),v 19 34]))))
def code385:AFunc:=⟨false,false,3,36,[.tmp 6],
 .seq (R [0,1,2] [o 6 (.val (.const (.slice none 0 (some 0))))])
 (.seq (R [0,1,2] [v 8 0,v 9 0,o 10 (.len .sl (t 9)),v 11 0,o 12 (.len .sl (t 11)),o 13 (.slice (.sl 1) (t 8) none (some (t 10)) (some (t 12))),v 0 13])
 (.seq (.seq (R [0,1,2,16] [v 14 2,o 15 (.callg 411 [t 14]),o 16 (.un .not (t 15))])
 (.after (.cond (t 16) (.seq (R [6] [v 17 0,v 6 17])
 (.live [6] (.ret))) (.skip)) [0,1,2]))
 (.seq (.seq (R [0,1,2,18,19] [v 18 2,o 19 (.val (n 0))])
 (.after (.block 0 (.loop code385L0)) [0]))
 (.seq (R [6] [v 35 0,v 6 35])
 (.live [6] (.ret)))))),none⟩
def code411:AFunc:=⟨false,false,1,9,[.tmp 2],
 .seq (R [0] [o 2 (.val F)])
 (.seq (R [2] [v 3 0,o 4 (.bin .geq (t 3) (n 1)),v 5 4,g 6 5 true (.val (t 0)),g 7 5 true (.bin .leq (t 6) (n 8)),o 8 (.pick (t 5) (t 7) F),v 2 8])
 (.live [2] (.ret))),none⟩
def code454:AFunc:=⟨false,false,2,30,[.tmp 4,.tmp 5],
 .seq (R [0,1] [o 4 (.val (.const (.int .u64 0))),o 5 (.val (.const (.int .u64 0)))])
 (.seq (.after (.cond F (.seq (R [6,7] [v 11 0,o 12 (.conv (.int .u32) (t 11)),v 13 1,o 14 (.conv (.int .u32) (t 13)),o 15 (.callg 467 [t 12,t 14]),v 10 15,o 16 (.extract (t 10) 0),o 17 (.extract (t 10) 1),v 6 16,v 7 17])
 (.seq (R [4,5] [v 18 6,o 19 (.conv (.int .u64) (t 18)),v 20 7,o 21 (.conv (.int .u64) (t 20)),v 4 19,v 5 21])
 (.live [4,5] (.ret)))) (.skip)) [0,1])
 (.seq (R [8,9] [v 23 0,v 24 1,o 25 (.callg 466 [t 23,t 24]),v 22 25,o 26 (.extract (t 22) 0),o 27 (.extract (t 22) 1),v 8 26,v 9 27])
 (.seq (R [4,5] [v 28 8,v 29 9,v 4 28,v 5 29])
 (.live [4,5] (.ret))))),none⟩
def code466:AFunc:=⟨false,false,2,51,[.tmp 4,.tmp 5],
 .seq (R [0,1] [o 4 (.val (.const (.int .u64 0))),o 5 (.val (.const (.int .u64 0)))])
 (.seq (R [0,1,6] [v 14 0,o 15 (.bin .and (t 14) (.const (.int .u64 4294967295))),v 6 15])
 (.seq (R [0,1,6,7] [v 16 0,o 17 (.bin .shr (t 16) (.const (.int .u64 32))),v 7 17])
 (.seq (R [0,1,6,7,8] [v 18 1,o 19 (.bin .and (t 18) (.const (.int .u64 4294967295))),v 8 19])
 (.seq (R [0,1,6,7,8,9] [v 20 1,o 21 (.bin .shr (t 20) (.const (.int .u64 32))),v 9 21])
 (.seq (R [0,1,6,7,8,9,10] [v 22 6,v 23 8,o 24 (.bin .mul (t 22) (t 23)),v 10 24])
 (.seq (R [0,1,6,7,9,11] [v 25 7,v 26 8,o 27 (.bin .mul (t 25) (t 26)),v 28 10,o 29 (.bin .shr (t 28) (.const (.int .u64 32))),o 30 (.bin .add (t 27) (t 29)),v 11 30])
 (.seq (R [0,1,6,7,9,11,12] [v 31 11,o 32 (.bin .and (t 31) (.const (.int .u64 4294967295))),v 12 32])
 (.seq (R [0,1,6,7,9,12,13] [v 33 11,o 34 (.bin .shr (t 33) (.const (.int .u64 32))),v 13 34])
 (.seq (R [0,1,7,9,12,13] [v 35 12,v 36 6,v 37 9,o 38 (.bin .mul (t 36) (t 37)),o 39 (.bin .add (t 35) (t 38)),v 12 39])
 (.seq (R [0,1,4] [v 40 7,v 41 9,o 42 (.bin .mul (t 40) (t 41)),v 43 13,o 44 (.bin .add (t 42) (t 43)),v 45 12,o 46 (.bin .shr (t 45) (.const (.int .u64 32))),o 47 (.bin .add (t 44) (t 46)),v 4 47])
 (.seq (R [4,5] [v 48 0,v 49 1,o 50 (.bin .mul (t 48) (t 49)),v 5 50])
 (.live [4,5] (.ret))))))))))))),none⟩
def code467:AFunc:=⟨false,false,2,17,[.tmp 4,.tmp 5],
 .seq (R [0,1] [o 4 (.val (.const (.int .u32 0))),o 5 (.val (.const (.int .u32 0)))])
 (.seq (R [6] [v 7 0,o 8 (.conv (.int .u64) (t 7)),v 9 1,o 10 (.conv (.int .u64) (t 9)),o 11 (.bin .mul (t 8) (t 10)),v 6 11])
 (.seq (R [4,5] [v 12 6,o 13 (.bin .shr (t 12) (.const (.int .u64 32))),o 14 (.conv (.int .u32) (t 13)),v 15 6,o 16 (.conv (.int .u32) (t 15)),v 4 14,v 5 16])
 (.live [4,5] (.ret)))),none⟩
def code482:AFunc:=⟨false,false,2,23,[.tmp 4,.tmp 5],
 .seq (R [0,1] [o 4 (.val (.const (.slice none 0 (some 0)))),o 5 (.val F)])
 (.seq (.seq (R [0,1,9] [v 8 0,o 9 (.eqnil .ptr false (t 8) (.const (.ptr none)))])
 (.after (.cond (t 9) (.seq (R [4,5] [o 4 (.val (.const (.slice none 0 (some 0)))),o 5 (.val F)])
 (.live [4,5] (.ret))) (.skip)) [0,1]))
 (.seq (R [6,7] [v 11 0,o 12 (.nilcheck (t 11)),o 13 (.faddr (t 12) 5),o 14 (.load none (t 13)),v 15 1,o 16 (.ext (.lookup (.one .s) (.agg [.int .i64 0,.int .i64 0,.str []]) true) [t 14,t 15]),v 10 16,o 17 (.extract (t 10) 0),o 18 (.extract (t 10) 1),o 6 (.lalloc [.int .i64 0,.int .i64 0,.str []]),u (.store 3 (t 6) (t 17)),v 7 18])
 (.seq (R [4,5] [o 19 (.faddr (t 6) 2),o 20 (.load none (t 19)),o 21 (.conv .bytes (t 20)),v 22 7,v 4 21,v 5 22])
 (.live [4,5] (.ret))))),none⟩
def code500L0:ACode :=
 .live [8,36,37,38] (.seq (R [8,36,37,38,39] [o 39 (.bin .lss (t 38) (t 37))])
 (.seq (.after (.cond (t 39) (.skip) (.live [8] (.exit 1))) [8,36,37,38])
 (.seq (.after (.block 2 (.seq (R [8,10,36,37,38] [o 40 (.iaddr 1 (t 36) (t 38)),o 41 (.load none (t 40)),v 10 41])
 (R [8,36,37,38] [v 42 8,o 43 (.bin .shl (t 42) (.const (.int .u64 8))),v 44 10,o 45 (.conv (.int .u64) (t 44)),o 46 (.bin .or (t 43) (t 45)),v 8 46]))) [8,36,37,38])
 (R [8,36,37,38] [o 47 (.bin .add (t 38) (n 1)),v 38 47]))))
def code500:AFunc:=⟨false,false,3,49,[.tmp 6,.tmp 7],
 .seq (R [0,1,2] [o 6 (.val (.const (.int .u64 0))),o 7 (.val (n 0))])
 (.seq (.after (.block 0 (.seq (R [0,1,2,11] [v 12 2,o 13 (.callg 411 [t 12]),o 14 (.un .not (t 13)),v 11 14])
 (.after (.cond (t 11) (.seq (R [6,7] [o 6 (.val (.const (.int .u64 0))),o 7 (.val (n 1))])
 (.live [6,7] (.ret))) (.seq (R [0,1,2,15] [v 16 1,o 17 (.bin .lss (t 16) (n 0)),v 18 17,g 19 18 false (.val (t 1)),g 20 18 false (.val (t 0)),g 21 18 false (.len .sl (t 20)),g 22 18 false (.bin .gtr (t 19) (t 21)),o 23 (.pick (t 18) Y (t 22)),v 24 23,g 25 24 false (.val (t 0)),g 26 24 false (.len .sl (t 25)),g 27 24 false (.val (t 1)),g 28 24 false (.bin .sub (t 26) (t 27)),g 29 24 false (.val (t 2)),g 30 24 false (.bin .lss (t 28) (t 29)),o 31 (.pick (t 24) Y (t 30)),v 15 31])
 (.after (.cond (t 15) (.seq (R [6,7] [o 6 (.val (.const (.int .u64 0))),o 7 (.val (n 6))])
 (.live [6,7] (.ret))) (.skip)) [0,1,2]))) [0,1,2]))) [0,1,2])
 (.seq (R [0,1,2,8] [o 8 (.val (.const (.int .u64 0)))])
 (.seq (.seq (R [8,36,37,38] [v 32 0,v 33 1,o 34 (.slice (.sl 1) (t 32) (some (t 33)) none none),v 35 2,o 36 (.slice (.sl 1) (t 34) none (some (t 35)) none),o 37 (.len .sl (t 36)),o 38 (.val (n 0))])
 (.after (.block 1 (.loop code500L0)) [8]))
 (.seq (R [6,7] [v 48 8,v 6 48,o 7 (.val (n 0))])
 (.live [6,7] (.ret)))))),none⟩
def code558L0:ACode :=
 .live [0,2,7,24,25,26] (.seq (R [0,2,7,24,25,26,27] [o 27 (.bin .lss (t 26) (t 25))])
 (.seq (.after (.cond (t 27) (.skip) (.live [0,2,7] (.exit 0))) [0,2,7,24,25,26])
 (.seq (.after (.block 1 (.seq (R [0,2,7,9,10,24,25,26] [v 28 26,o 29 (.iaddr 1 (t 24) (t 26)),o 30 (.load none (t 29)),v 9 28,v 10 30])
 (.seq (R [0,2,7,24,25,26,37] [v 31 10,v 32 7,v 33 9,o 34 (.iaddr 1 (t 32) (t 33)),o 35 (.load none (t 34)),o 36 (.bin .andNot (t 31) (t 35)),o 37 (.bin .neq (t 36) (.const (.int .u8 0)))])
 (.after (.cond (t 37) (.seq (R [6] [o 6 (.val (n 3))])
 (.live [6] (.ret))) (.skip)) [0,2,7,24,25,26])))) [0,2,7,24,25,26])
 (R [0,2,7,24,25,26] [o 38 (.bin .add (t 26) (n 1)),v 26 38]))))
def code558:AFunc:=⟨false,false,3,74,[.tmp 6],
 .seq (R [0,1,2] [o 6 (.val (n 0))])
 (.seq (R [0,2,7,8] [v 14 0,v 15 1,v 16 2,o 17 (.len .sl (t 16)),o 18 (.callg 583 [t 14,t 15,t 17]),v 13 18,o 19 (.extract (t 13) 0),o 20 (.extract (t 13) 1),v 7 19,v 8 20])
 (.seq (.seq (R [0,2,7,8,22] [v 21 8,o 22 (.bin .neq (t 21) (n 0))])
 (.after (.cond (t 22) (.seq (R [6] [v 23 8,v 6 23])
 (.live [6] (.ret))) (.skip)) [0,2,7]))
 (.seq (.seq (R [0,2,7,24,25,26] [v 24 2,o 25 (.len .sl (t 24)),o 26 (.val (n 0))])
 (.after (.block 0 (.loop code558L0)) [0,2,7]))
 (.seq (R [0,2,7,11,12] [v 40 0,v 41 2,o 42 (.len .sl (t 41)),o 43 (.callg 582 [t 40,t 42]),v 39 43,o 44 (.extract (t 39) 0),o 45 (.extract (t 39) 1),v 11 44,v 12 45])
 (.seq (R [0,2,7,11,12] [v 46 7,v 47 2,v 48 11,o 49 (.slice (.sl 1) (t 47) none (some (t 48)) none),o 50 (.ext (.copy 1) [t 46,t 49])])
 (.seq (.seq (R [0,2,7,11,52] [v 51 12,o 52 (.un .not (t 51))])
 (.after (.cond (t 52) (.seq (R [6] [o 6 (.val (n 0))])
 (.live [6] (.ret))) (.skip)) [0,2,7,11]))
 (.seq (.seq (R [0,2,7,11,56] [v 53 11,v 54 2,o 55 (.len .sl (t 54)),o 56 (.bin .lss (t 53) (t 55))])
 (.after (.cond (t 56) (.after (.region [⟨true,[],[v 57 7,v 58 11,o 59 (.iaddr 1 (t 57) (t 58)),o 60 (.load none (t 59)),v 61 2,v 62 11,o 63 (.iaddr 1 (t 61) (t 62)),o 64 (.load none (t 63)),o 65 (.un .xor (t 64)),v 66 0,o 67 (.nilcheck (t 66)),o 68 (.faddr (t 67) 7),o 69 (.faddr (t 68) 1),o 70 (.load none (t 69)),o 71 (.bin .and (t 65) (t 70))]⟩,⟨false,[],[o 72 (.bin .andNot (t 60) (t 71)),o 73 (.iaddr 1 (t 57) (t 58)),u (.store 1 (t 73) (t 72))]⟩]) []) (.skip)) []))
 (.seq (R [6] [o 6 (.val (n 5))])
 (.live [6] (.ret)))))))))),none⟩
def code560:AFunc:=⟨false,false,1,10,[.tmp 2],
 .seq (R [0] [o 2 (.val (.const (.slice none 0 (some 0))))])
 (.seq (.seq (R [0,4] [v 3 0,o 4 (.callg 561 [t 3])])
 (.after (.cond (t 4) (.seq (R [2] [o 2 (.val (.const (.slice none 0 (some 0))))])
 (.live [2] (.ret))) (.skip)) [0]))
 (.seq (R [2] [v 5 0,o 6 (.nilcheck (t 5)),o 7 (.faddr (t 6) 4),o 8 (.load none (t 7)),o 9 (.callg 584 [t 8]),v 2 9])
 (.live [2] (.ret)))),none⟩
def code561:AFunc:=⟨false,false,1,11,[.tmp 2],
 .seq (R [0] [o 2 (.val F)])
 (.seq (R [2] [v 3 0,o 4 (.eqnil .ptr false (t 3) (.const (.ptr none))),v 5 4,g 6 5 false (.val (t 0)),g 7 5 false (.nilcheck (t 6)),g 8 5 false (.faddr (t 7) 10),g 9 5 false (.load none (t 8)),o 10 (.pick (t 5) Y (t 9)),v 2 10])
 (.live [2] (.ret))),none⟩
def code563:AFunc:=⟨false,false,1,20,[.tmp 2],
 .seq (R [0] [o 2 (.val (n 0))])
 (.seq (.seq (R [0,4] [v 3 0,o 4 (.eqnil .ptr false (t 3) (.const (.ptr none)))])
 (.after (.cond (t 4) (.seq (R [2] [o 2 (.val (n 0))])
 (.live [2] (.ret))) (.skip)) [0]))
 (.seq (.after (.region [⟨true,[],[v 5 0,o 6 (.nilcheck (t 5)),o 7 (.faddr (t 6) 1),o 8 (.faddr (t 7) 0),o 9 (.load none (t 8)),o 10 (.bin .sub (t 9) (n 2)),v 11 0,o 12 (.nilcheck (t 11)),o 13 (.faddr (t 12) 1),o 14 (.faddr (t 13) 1),o 15 (.load none (t 14)),o 16 (.bin .sub (t 15) (n 12))]⟩,⟨false,[],[o 17 (.bin .mul (t 10) (t 16)),o 18 (.bin .quo (t 17) (n 4)),o 19 (.minmax true [t 18,n 0]),v 2 19]⟩]) [2])
 (.live [2] (.ret)))),none⟩
def code564:AFunc:=⟨false,false,2,68,[.cell 4 (some 3),.tmp 5],
 .seq (R [0,1,4] [o 4 (.alloc 3 [.int .i64 0,.int .u32 0,.int .i64 0]),o 5 (.val (n 0))])
 (.seq (R [0,1,4,6] [v 11 0,o 12 (.callg 573 [t 11]),o 6 (.lalloc [.int .i64 0,.int .i64 0,.int .i64 0]),u (.store 3 (t 6) (t 12))])
 (.seq (.seq (R [0,1,4,6,20] [v 13 1,o 14 (.bin .lss (t 13) (n 0)),v 15 14,g 16 15 false (.val (t 1)),g 17 15 false (.faddr (t 6) 0),g 18 15 false (.load none (t 17)),g 19 15 false (.bin .geq (t 16) (t 18)),o 20 (.pick (t 15) Y (t 19))])
 (.after (.cond (t 20) (.seq (R [4,5] [o 21 (.build [.int .i64 0,.int .u32 0,.int .i64 0] []),u (.store 3 (t 4) (t 21)),o 5 (.val (n 2))])
 (.live [4,5] (.ret))) (.skip)) [0,1,4,6]))
 (.seq (R [0,1,4,7,8] [v 23 0,v 24 1,o 25 (.faddr (t 6) 1),o 26 (.load none (t 25)),o 27 (.bin .mul (t 24) (t 26)),o 28 (.faddr (t 6) 1),o 29 (.load none (t 28)),o 30 (.callg 588 [t 23,t 27,t 29]),v 22 30,o 31 (.extract (t 22) 0),o 32 (.extract (t 22) 1),v 7 31,v 8 32])
 (.seq (.seq (R [0,1,4,7,8,34] [v 33 8,o 34 (.bin .neq (t 33) (n 0))])
 (.after (.cond (t 34) (.seq (R [4,5] [o 35 (.build [.int .i64 0,.int .u32 0,.int .i64 0] []),v 36 8,u (.store 3 (t 4) (t 35)),v 5 36])
 (.live [4,5] (.ret))) (.skip)) [0,1,4,7]))
 (.seq (R [4,7,9] [v 37 0,v 38 1,o 39 (.callg 587 [t 37,t 38]),o 40 (.build [.int .i64 0,.int .u32 0,.int .i64 0] [(0,1,n 1),(2,1,t 39)]),o 9 (.alloc 3 [.int .i64 0,.int .u32 0,.int .i64 0]),u (.store 3 (t 9) (t 40))])
 (.seq (R [4,7,8,9,10] [v 42 7,o 43 (.callg 586 [t 42]),v 41 43,o 44 (.extract (t 41) 0),o 45 (.extract (t 41) 1),o 10 (.lalloc [.int .u32 0,.bool false,.bool false]),u (.store 3 (t 10) (t 44)),v 8 45])
 (.seq (.after (.block 0 (.seq (R [4,8,9,10,46] [v 47 7,o 48 (.callg 145 [t 47,.const (.func 585 [] [])]),o 49 (.un .not (t 48)),v 46 49])
 (.after (.cond (t 46) (R [4,9] [o 50 (.faddr (t 9) 0),u (.store 1 (t 50) (n 0))]) (.seq (R [4,9,10,51] [v 52 8,o 53 (.bin .eql (t 52) (n 0)),v 54 53,g 55 54 true (.faddr (t 10) 1),g 56 54 true (.load none (t 55)),o 57 (.pick (t 54) (t 56) F),v 58 57,g 59 58 true (.faddr (t 10) 2),g 60 58 true (.load none (t 59)),g 61 58 true (.un .not (t 60)),o 62 (.pick (t 58) (t 61) F),v 51 62])
 (.after (.cond (t 51) (.after (.region [⟨true,[0,1,0,4],[o 63 (.faddr (t 10) 0),o 64 (.load none (t 63)),o 65 (.faddr (t 9) 0),u (.ext (.hstore 1) [t 65,n 2])]⟩,⟨false,[],[o 66 (.faddr (t 9) 1),u (.store 1 (t 66) (t 64))]⟩]) [4,9]) (.skip)) [4,9]))) [4,9]))) [4,9])
 (.seq (R [4,5] [o 67 (.load (some 3) (t 9)),u (.store 3 (t 4) (t 67)),o 5 (.val (n 0))])
 (.live [4,5] (.ret)))))))))),none⟩
def code566L0:ACode :=
 .live [0,3,4,5,33,34] (.seq (R [0,3,4,5,33,34,35] [o 35 (.bin .lss (t 34) (t 33))])
 (.seq (.after (.cond (t 35) (.skip) (.live [0,3,4,5] (.exit 2))) [0,3,4,5,33,34])
 (.seq (.after (.block 3 (.seq (R [0,3,4,5,6,33,34] [v 36 34,v 6 36])
 (.after (.region [⟨true,[0,1,0,0,8,24],[o 37 (.faddr (t 5) 2),o 38 (.load none (t 37)),v 39 6,v 40 0,o 41 (.callg 100102 [t 40,n 256]),o 42 (.conv (.int .u8) (t 41))]⟩,⟨false,[],[o 43 (.iaddr 1 (t 38) (t 39)),u (.store 1 (t 43) (t 42))]⟩]) [0,3,4,5,33,34]))) [0,3,4,5,33,34])
 (R [0,3,4,5,33,34] [o 44 (.bin .add (t 34) (n 1)),v 34 44]))))
def code566L1:ACode :=
 .live [0,3,4] (.seq (.seq (R [0,3,4,12] [v 11 4,o 12 (.bin .gtr (t 11) (n 0))])
 (.after (.cond (t 12) (.skip) (.live [3] (.exit 0))) [0,3,4]))
 (.seq (.after (.block 1 (.seq (R [0,3,4,5] [v 15 0,o 16 (.callg 100102 [t 15,n 5]),o 17 (.bin .eql (t 16) (n 4)),o 18 (.mkslice 1 6 [.str [],.str [],.str [],.str [],.str [],.str []] [(0,1,.const (.str [97])),(1,1,.const (.str [98])),(2,1,.const (.str [99])),(3,1,.const (.str [100,47,49])),(4,1,.const (.str [100,47,50])),(5,1,.const (.str [97]))]),v 19 0,o 20 (.callg 100102 [t 19,n 6]),o 21 (.iaddr 1 (t 18) (t 20)),o 22 (.load none (t 21)),o 23 (.build [.bool false,.str [],.slice none 0 (some 0)] [(0,1,t 17),(1,1,t 22)]),o 5 (.lalloc [.bool false,.str [],.slice none 0 (some 0)]),u (.store 3 (t 5) (t 23))])
 (.seq (R [0,3,4,5] [o 24 (.mkslice 1 4 [.int .i64 0,.int .i64 0,.int .i64 0,.int .i64 0] [(0,1,n 0),(1,1,n 3),(2,1,n 9),(3,1,n 30)]),v 25 0,o 26 (.callg 100102 [t 25,n 4]),o 27 (.iaddr 1 (t 24) (t 26)),o 28 (.load none (t 27)),o 29 (.make 1 1 [.int .u8 0] (t 28) (t 28)),o 30 (.faddr (t 5) 2),u (.store 1 (t 30) (t 29))])
 (.seq (.seq (R [0,3,4,5,33,34] [o 31 (.faddr (t 5) 2),o 32 (.load none (t 31)),o 33 (.len .sl (t 32)),o 34 (.val (n 0))])
 (.after (.block 2 (.loop code566L0)) [0,3,4,5]))
 (R [0,3,4] [v 45 3,o 46 (.load (some 3) (t 5)),o 47 (.mkslice 3 1 [.bool false,.str [],.slice none 0 (some 0)] [(0,3,t 46)]),o 48 (.append 3 48 (t 45) (t 47)),v 3 48]))))) [0,3,4])
 (R [0,3,4] [v 13 4,o 14 (.bin .sub (t 13) (n 1)),v 4 14])))
def code566:AFunc:=⟨false,false,1,50,[.tmp 2],
 .seq (R [0] [o 2 (.val (.const (.slice none 0 (some 0))))])
 (.seq (R [0,3] [o 3 (.val (.const (.slice none 0 (some 0))))])
 (.seq (.seq (R [0,3,4] [v 7 0,o 8 (.callg 100102 [t 7,n 4]),o 9 (.bin .quo (t 8) (n 2)),o 10 (.bin .add (n 1) (t 9)),v 4 10])
 (.after (.block 0 (.loop code566L1)) [3]))
 (.seq (R [2] [v 49 3,v 2 49])
 (.live [2] (.ret))))),none⟩
def code568:AFunc:=⟨false,false,3,15,[.tmp 6],
 .seq (R [0,1,2] [o 6 (.val F)])
 (.seq (R [6] [v 7 0,v 8 1,o 9 (.bin .geq (t 7) (t 8)),v 10 9,g 11 10 true (.val (t 0)),g 12 10 true (.val (t 2)),g 13 10 true (.bin .leq (t 11) (t 12)),o 14 (.pick (t 10) (t 13) F),v 6 14])
 (.live [6] (.ret))),none⟩
def code571:AFunc:=⟨false,false,3,23,[.tmp 5],
 .seq (R [0,1,2] [o 5 (.val (n 0))])
 (.seq (.after (.region [⟨true,[],[o 6 (.load none (t 2)),o 7 (.nilcheck (t 6)),o 8 (.faddr (t 7) 4),o 9 (.load none (t 8)),v 10 0,o 11 (.iaddr 3 (t 9) (t 10)),o 12 (.faddr (t 11) 1),o 13 (.load none (t 12)),o 14 (.load none (t 2)),o 15 (.nilcheck (t 14)),o 16 (.faddr (t 15) 4),o 17 (.load none (t 16)),v 18 1,o 19 (.iaddr 3 (t 17) (t 18)),o 20 (.faddr (t 19) 1),o 21 (.load none (t 20))]⟩,⟨false,[],[o 22 (.callg 591 [t 13,t 21]),v 5 22]⟩]) [5])
 (.live [5] (.ret))),none⟩
def code572:AFunc:=⟨false,false,2,9,[],
 R [] [v 4 0,v 5 0,o 6 (.len .sl (t 5)),v 7 1,o 8 (.callg 590 [t 4,t 6,t 7])],none⟩
def code573:AFunc:=⟨false,false,1,10,[.cell 2 (some 3)],
 .seq (R [0,2] [o 2 (.lalloc [.int .i64 0,.int .i64 0,.int .i64 0])])
 (.seq (.seq (R [0,2,4] [v 3 0,o 4 (.eqnil .ptr false (t 3) (.const (.ptr none)))])
 (.after (.cond (t 4) (.seq (R [2] [o 5 (.build [.int .i64 0,.int .i64 0,.int .i64 0] []),u (.store 3 (t 2) (t 5))])
 (.live [2] (.ret))) (.skip)) [0,2]))
 (.seq (R [2] [v 6 0,o 7 (.nilcheck (t 6)),o 8 (.faddr (t 7) 0),o 9 (.load (some 3) (t 8)),u (.store 3 (t 2) (t 9))])
 (.live [2] (.ret)))),none⟩
def code577L0:ACode :=
 .live [0,59,60,61] (.seq (R [0,59,60,61,62] [o 62 (.bin .lss (t 61) (t 60))])
 (.seq (.after (.cond (t 62) (.skip) (.live [] (.exit 2))) [0,59,60,61])
 (.seq (.after (.block 3 (.seq (R [0,11,59,60,61] [o 63 (.iaddr 6 (t 59) (t 61)),o 64 (.load (some 6) (t 63)),o 11 (.lalloc [.int .i64 0,.int .i64 0,.int .u32 0,.str [],.slice none 0 (some 0),.int .i64 0]),u (.store 6 (t 11) (t 64))])
 (.after (.region [⟨true,[],[v 65 0,v 66 0,o 67 (.nilcheck (t 66)),o 68 (.faddr (t 67) 6),o 69 (.load none (t 68)),o 70 (.load (some 6) (t 11))]⟩,⟨false,[],[o 71 (.callg 600 [t 65,t 69,t 70])]⟩]) [0,59,60,61]))) [0,59,60,61])
 (R [0,59,60,61] [o 72 (.bin .add (t 61) (n 1)),v 61 72]))))
def code577L1:ACode :=
 .live [0,1,5,19,20,21] (.seq (R [0,1,5,19,20,21,22] [o 22 (.bin .lss (t 21) (t 20))])
 (.seq (.after (.cond (t 22) (.skip) (.live [0,1,5] (.exit 0))) [0,1,5,19,20,21])
 (.seq (.after (.block 1 (.seq (R [0,1,5,7,19,20,21] [o 23 (.iaddr 5 (t 19) (t 21)),o 24 (.load (some 5) (t 23)),o 7 (.lalloc [.int .i64 0,.int .u32 0,.str [],.slice none 0 (some 0),.int .i64 0]),u (.store 5 (t 7) (t 24))])
 (.seq (R [0,1,5,7,19,20,21] [v 25 0,o 26 (.nilcheck (t 25)),o 27 (.faddr (t 26) 8),o 28 (.load none (t 27)),o 29 (.faddr (t 7) 1),u (.store 1 (t 29) (t 28))])
 (.seq (R [0,1,5,8,9,19,20,21] [v 31 0,o 32 (.load (some 5) (t 7)),o 33 (.callg 601 [t 31,t 32]),v 30 33,o 34 (.extract (t 30) 0),o 35 (.extract (t 30) 1),o 8 (.lalloc [.int .i64 0,.int .i64 0,.int .u32 0,.str [],.slice none 0 (some 0),.int .i64 0]),u (.store 6 (t 8) (t 34)),v 9 35])
 (.seq (.seq (R [0,1,5,8,9,19,20,21,37] [v 36 9,o 37 (.bin .neq (t 36) (n 0))])
 (.after (.cond (t 37) (.seq (R [4] [v 38 9,v 4 38])
 (.live [4] (.ret))) (.skip)) [0,1,5,8,19,20,21]))
 (R [0,1,5,19,20,21] [v 39 5,o 40 (.load (some 6) (t 8)),o 41 (.mkslice 6 1 [.int .i64 0,.int .i64 0,.int .u32 0,.str [],.slice none 0 (some 0),.int .i64 0] [(0,6,t 40)]),o 42 (.append 6 72 (t 39) (t 41)),v 5 42])))))) [0,1,5,19,20,21])
 (R [0,1,5,19,20,21] [o 43 (.bin .add (t 21) (n 1)),v 21 43]))))
def code577:AFunc:=⟨false,false,2,73,[.tmp 4],
 .seq (R [0,1] [o 4 (.val (n 0))])
 (.seq (R [0,1] [v 12 0,o 13 (.nilcheck (t 12)),o 14 (.faddr (t 13) 8),o 15 (.load none (t 14)),o 16 (.bin .add (t 15) (.const (.int .u32 1))),o 17 (.nilcheck (t 12)),o 18 (.faddr (t 17) 8),u (.store 1 (t 18) (t 16))])
 (.seq (R [0,1,5] [o 5 (.val (.const (.slice none 0 (some 0))))])
 (.seq (.seq (R [0,1,5,19,20,21] [v 19 1,o 20 (.len .sl (t 19)),o 21 (.val (n 0))])
 (.after (.block 0 (.loop code577L1)) [0,1,5]))
 (.seq (.seq (R [0,4,5] [v 45 0,v 46 0,o 47 (.nilcheck (t 46)),o 48 (.faddr (t 47) 8),o 49 (.load none (t 48)),v 50 1,o 51 (.len .sl (t 50)),o 52 (.build [.int .i64 0,.int .u32 0,.str [],.slice none 0 (some 0),.int .i64 0] [(0,1,n 3),(1,1,t 49),(4,1,t 51)]),o 53 (.callg 601 [t 45,t 52]),v 44 53,o 54 (.extract (t 44) 0),o 55 (.extract (t 44) 1),v 4 55])
 (.seq (R [0,4,5,57] [v 56 4,o 57 (.bin .neq (t 56) (n 0))])
 (.after (.cond (t 57) (.seq (R [4] [v 58 4,v 4 58])
 (.live [4] (.ret))) (.skip)) [0,5])))
 (.seq (.seq (R [0,59,60,61] [v 59 5,o 60 (.len .sl (t 59)),o 61 (.val (n 0))])
 (.after (.block 2 (.loop code577L0)) []))
 (.seq (R [4] [o 4 (.val (n 0))])
 (.live [4] (.ret)))))))),none⟩
def code578:AFunc:=⟨false,false,2,17,[.tmp 4],
 .seq (R [0,1] [o 4 (.val (n 0))])
 (.seq (R [1] [v 5 0,v 6 0,o 7 (.nilcheck (t 6)),o 8 (.faddr (t 7) 10),o 9 (.load none (t 8)),v 10 9,g 11 10 false (.val (t 1)),g 12 10 false (.bin .neq (t 11) (n 0)),o 13 (.pick (t 10) Y (t 12)),o 14 (.nilcheck (t 5)),o 15 (.faddr (t 14) 10),u (.store 1 (t 15) (t 13))])
 (.seq (R [4] [v 16 1,v 4 16])
 (.live [4] (.ret)))),none⟩
def code579L0:ACode :=
 .live [0,3,7,8,9] (.seq (R [0,3,7,8,9,10] [o 10 (.bin .lss (t 9) (t 8))])
 (.seq (.after (.cond (t 10) (.skip) (.live [0,3] (.exit 0))) [0,3,7,8,9])
 (.seq (.after (.block 1 (.seq (R [0,3,5,7,8,9] [o 11 (.iaddr 5 (t 7) (t 9)),o 12 (.load (some 5) (t 11)),o 5 (.lalloc [.int .i64 0,.int .u32 0,.str [],.slice none 0 (some 0),.int .i64 0]),u (.store 5 (t 5) (t 12))])
 (R [0,3,7,8,9] [v 13 3,o 14 (.load (some 5) (t 5)),o 15 (.callg 589 [t 14]),o 16 (.bin .add (t 13) (t 15)),v 3 16]))) [0,3,7,8,9])
 (R [0,3,7,8,9] [o 17 (.bin .add (t 9) (n 1)),v 9 17]))))
def code579:AFunc:=⟨false,false,1,29,[.tmp 2],
 .seq (R [0] [o 2 (.val (n 0))])
 (.seq (R [0,3] [o 3 (.val (n 0))])
 (.seq (.seq (R [0,3,7,8,9] [v 7 0,o 8 (.len .sl (t 7)),o 9 (.val (n 0))])
 (.after (.block 0 (.loop code579L0)) [0,3]))
 (.seq (R [3,6] [v 18 0,o 19 (.len .sl (t 18)),o 20 (.bin .add (t 19) (n 16)),o 21 (.bin .sub (t 20) (n 1)),o 22 (.bin .quo (t 21) (n 16)),v 6 22])
 (.seq (R [2] [v 23 3,v 24 6,o 25 (.build [.int .i64 0,.int .u32 0,.str [],.slice none 0 (some 0),.int .i64 0] []),o 26 (.callg 589 [t 25]),o 27 (.bin .mul (t 24) (t 26)),o 28 (.bin .add (t 23) (t 27)),v 2 28])
 (.live [2] (.ret)))))),none⟩
def code581L0:ACode :=
 .live [0,4,5,20,21,22] (.seq (R [0,4,5,20,21,22,23] [o 23 (.bin .lss (t 22) (t 21))])
 (.seq (.after (.cond (t 23) (.skip) (.live [0,4,5] (.exit 0))) [0,4,5,20,21,22])
 (.seq (.after (.block 1 (.seq (R [0,4,5,7,20,21,22] [o 24 (.iaddr 3 (t 20) (t 22)),o 25 (.load (some 3) (t 24)),o 7 (.lalloc [.bool false,.str [],.slice none 0 (some 0)]),u (.store 3 (t 7) (t 25))])
 (.seq (.after (.region [⟨true,[0,1,0,4,12,31,0],[o 26 (.faddr (t 7) 1),o 27 (.load none (t 26)),o 28 (.faddr (t 7) 2),o 29 (.load none (t 28)),o 30 (.callg 100465 [t 29]),o 31 (.build [.int .i64 0,.int .u32 0,.str [],.slice none 0 (some 0),.int .i64 0] [(0,1,n 1),(1,1,.const (.int .u32 1)),(2,1,t 27),(3,1,t 30)]),o 8 (.alloc 5 [.int .i64 0,.int .u32 0,.str [],.slice none 0 (some 0),.int .i64 0])]⟩,⟨false,[],[u (.store 5 (t 8) (t 31))]⟩]) [0,4,5,7,8,20,21,22])
 (.seq (.seq (R [0,4,5,7,8,20,21,22,33] [o 32 (.faddr (t 7) 0),o 33 (.load none (t 32))])
 (.after (.cond (t 33) (R [0,4,5,7,8,20,21,22] [o 34 (.faddr (t 8) 0),u (.store 1 (t 34) (n 2)),o 35 (.faddr (t 8) 3),u (.store 1 (t 35) (.const (.slice none 0 (some 0))))]) (.skip)) [0,4,5,7,8,20,21,22]))
 (.seq (.seq (R [0,4,5,7,8,10,20,21,22] [o 37 (.load (some 5) (t 8)),o 38 (.callg 596 [t 37]),v 36 38,o 39 (.extract (t 36) 0),o 40 (.extract (t 36) 1),v 9 39,v 10 40])
 (.seq (R [0,4,5,7,8,20,21,22,42] [v 41 10,o 42 (.bin .neq (t 41) (n 0))])
 (.after (.cond (t 42) (.seq (R [2,3] [o 2 (.val (.const (.slice none 0 (some 0)))),o 3 (.val (n 1))])
 (.live [2,3] (.ret))) (.skip)) [0,4,5,7,8,20,21,22])))
 (.seq (R [0,4,5,8,20,21,22] [v 43 4,o 44 (.faddr (t 7) 1),o 45 (.load none (t 44)),u (.ext (.mapupd (.one .s)) [t 43,t 45,.const (.bool true)])])
 (R [0,4,5,20,21,22] [v 46 5,o 47 (.load (some 5) (t 8)),o 48 (.mkslice 5 1 [.int .i64 0,.int .u32 0,.str [],.slice none 0 (some 0),.int .i64 0] [(0,5,t 47)]),o 49 (.append 5 64 (t 46) (t 48)),v 5 49]))))))) [0,4,5,20,21,22])
 (R [0,4,5,20,21,22] [o 50 (.bin .add (t 22) (n 1)),v 22 50]))))
def code581:AFunc:=⟨false,false,1,57,[.tmp 2,.tmp 3],
 .seq (R [0] [o 2 (.val (.const (.slice none 0 (some 0)))),o 3 (.val (n 0))])
 (.seq (.seq (R [0,18] [v 11 0,o 12 (.len .sl (t 11)),o 13 (.bin .eql (t 12) (n 0)),v 14 13,g 15 14 false (.val (t 0)),g 16 14 false (.len .sl (t 15)),g 17 14 false (.bin .gtr (t 16) (n 16)),o 18 (.pick (t 14) Y (t 17))])
 (.after (.cond (t 18) (.seq (R [2,3] [o 2 (.val (.const (.slice none 0 (some 0)))),o 3 (.val (n 1))])
 (.live [2,3] (.ret))) (.skip)) [0]))
 (.seq (R [0,4] [o 19 (.ext .mkmap []),v 4 19])
 (.seq (R [0,4,5] [o 5 (.val (.const (.slice none 0 (some 0))))])
 (.seq (.seq (R [0,4,5,20,21,22] [v 20 0,o 21 (.len .sl (t 20)),o 22 (.val (n 0))])
 (.after (.block 0 (.loop code581L0)) [0,4,5]))
 (.seq (.seq (R [5,55] [v 51 4,o 52 (.len .map (t 51)),v 53 0,o 54 (.len .sl (t 53)),o 55 (.bin .lss (t 52) (t 54))])
 (.after (.cond (t 55) (.seq (R [2,3] [o 2 (.val (.const (.slice none 0 (some 0)))),o 3 (.val (n 12))])
 (.live [2,3] (.ret))) (.skip)) [5]))
 (.seq (R [2,3] [v 56 5,v 2 56,o 3 (.val (n 0))])
 (.live [2,3] (.ret)))))))),none⟩
def code582:AFunc:=⟨false,false,2,36,[.tmp 4,.tmp 5],
 .seq (R [0,1] [o 4 (.val (n 0)),o 5 (.val F)])
 (.seq (.seq (R [0,1,10] [v 6 0,o 7 (.nilcheck (t 6)),o 8 (.faddr (t 7) 6),o 9 (.load none (t 8)),o 10 (.bin .neq (t 9) (n 0))])
 (.after (.cond (t 10) (.seq (.seq (R [0,1,15] [v 11 0,o 12 (.nilcheck (t 11)),o 13 (.faddr (t 12) 6),o 14 (.load none (t 13)),o 15 (.bin .gtr (t 14) (n 0))])
 (.after (.cond (t 15) (R [1] [v 16 0,o 17 (.nilcheck (t 16)),o 18 (.faddr (t 17) 6),o 19 (.load none (t 18)),o 20 (.bin .sub (t 19) (n 1)),o 21 (.nilcheck (t 16)),o 22 (.faddr (t 21) 6),u (.store 1 (t 22) (t 20))]) (.skip)) [1]))
 (.seq (R [4,5] [v 23 1,v 4 23,o 5 (.val F)])
 (.live [4,5] (.ret)))) (.skip)) [0,1]))
 (.seq (R [0,1] [v 24 0,o 25 (.nilcheck (t 24)),o 26 (.faddr (t 25) 5),u (.store 1 (t 26) Y)])
 (.seq (R [4,5] [v 27 0,o 28 (.nilcheck (t 27)),o 29 (.faddr (t 28) 7),o 30 (.faddr (t 29) 0),o 31 (.load none (t 30)),o 32 (.minmax true [t 31,n 0]),v 33 1,o 34 (.bin .add (t 33) (n 1)),o 35 (.bin .rem (t 32) (t 34)),v 4 35,o 5 (.val Y)])
 (.live [4,5] (.ret))))),none⟩
def code583:AFunc:=⟨false,false,3,56,[.tmp 6,.tmp 7],
 .seq (R [0,1,2] [o 6 (.val (.const (.slice none 0 (some 0)))),o 7 (.val (n 0))])
 (.seq (.after (.block 0 (.seq (R [0,1,2,8] [v 9 0,o 10 (.eqnil .ptr false (t 9) (.const (.ptr none))),v 11 10,g 12 11 false (.val (t 0)),g 13 11 false (.nilcheck (t 12)),g 14 11 false (.faddr (t 13) 5),g 15 11 false (.load none (t 14)),o 16 (.pick (t 11) Y (t 15)),v 8 16])
 (.after (.cond (t 8) (.seq (R [6,7] [o 6 (.val (.const (.slice none 0 (some 0)))),o 7 (.val (n 5))])
 (.live [6,7] (.ret))) (.seq (R [0,1,2,17] [v 18 1,o 19 (.bin .lss (t 18) (n 0)),v 20 19,g 21 20 false (.val (t 2)),g 22 20 false (.bin .lss (t 21) (n 0)),o 23 (.pick (t 20) Y (t 22)),v 24 23,g 25 24 false (.val (t 1)),g 26 24 false (.val (t 0)),g 27 24 false (.nilcheck (t 26)),g 28 24 false (.faddr (t 27) 3),g 29 24 false (.load none (t 28)),g 30 24 false (.len .sl (t 29)),g 31 24 false (.bin .gtr (t 25) (t 30)),o 32 (.pick (t 24) Y (t 31)),v 33 32,g 34 33 false (.val (t 2)),g 35 33 false (.val (t 0)),g 36 33 false (.nilcheck (t 35)),g 37 33 false (.faddr (t 36) 3),g 38 33 false (.load none (t 37)),g 39 33 false (.len .sl (t 38)),g 40 33 false (.val (t 1)),g 41 33 false (.bin .sub (t 39) (t 40)),g 42 33 false (.bin .gtr (t 34) (t 41)),o 43 (.pick (t 33) Y (t 42)),v 17 43])
 (.after (.cond (t 17) (.seq (R [6,7] [o 6 (.val (.const (.slice none 0 (some 0)))),o 7 (.val (n 2))])
 (.live [6,7] (.ret))) (.skip)) [0,1,2]))) [0,1,2]))) [0,1,2])
 (.seq (R [6,7] [v 44 0,o 45 (.nilcheck (t 44)),o 46 (.faddr (t 45) 3),o 47 (.load none (t 46)),v 48 1,v 49 1,v 50 2,o 51 (.bin .add (t 49) (t 50)),v 52 1,v 53 2,o 54 (.bin .add (t 52) (t 53)),o 55 (.slice (.sl 1) (t 47) (some (t 48)) (some (t 51)) (some (t 54))),v 6 55,o 7 (.val (n 0))])
 (.live [6,7] (.ret)))),none⟩
def code584:AFunc:=⟨false,false,1,8,[.tmp 2],
 .seq (R [0] [o 2 (.val (.const (.slice none 0 (some 0))))])
 (.seq (.seq (R [0,4] [v 3 0,o 4 (.eqnil .slice false (t 3) (.const (.slice none 0 (some 0))))])
 (.after (.cond (t 4) (.seq (R [2] [o 2 (.val (.const (.slice none 0 (some 0))))])
 (.live [2] (.ret))) (.skip)) [0]))
 (.seq (R [2] [o 5 (.mkslice 3 0 [] []),v 6 0,o 7 (.append 3 24 (t 5) (t 6)),v 2 7])
 (.live [2] (.ret)))),none⟩
def code585:AFunc:=⟨false,false,1,5,[.tmp 2],
 .seq (R [0] [o 2 (.val F)])
 (.seq (R [2] [v 3 0,o 4 (.bin .neq (t 3) (.const (.int .u8 255))),v 2 4])
 (.live [2] (.ret))),none⟩
def code586:AFunc:=⟨false,false,1,49,[.cell 2 (some 3),.tmp 3],
 .seq (R [0,2] [o 2 (.lalloc [.int .u32 0,.bool false,.bool false]),o 3 (.val (n 0))])
 (.seq (R [0,2,4] [o 9 (.callg 604 []),o 4 (.alloc 1 [.int .u8 0,.int .u8 0]),u (.store 2 (t 4) (t 9))])
 (.seq (.after (.block 0 (.seq (R [0,2,4,10] [v 11 0,o 12 (.len .sl (t 11)),o 13 (.bin .lss (t 12) (n 12)),v 10 13])
 (.after (.cond (t 10) (.seq (R [2,3] [o 14 (.build [.int .u32 0,.bool false,.bool false] []),u (.store 3 (t 2) (t 14)),o 3 (.val (n 6))])
 (.live [2,3] (.ret))) (.seq (R [0,2,15] [v 16 0,o 17 (.slice (.arr 2 1) (t 4) none none none),o 18 (.callg 603 [t 16,t 17]),o 19 (.un .not (t 18)),v 15 19])
 (.after (.cond (t 15) (.seq (R [2,3] [o 20 (.build [.int .u32 0,.bool false,.bool false] []),u (.store 3 (t 2) (t 20)),o 3 (.val (n 8))])
 (.live [2,3] (.ret))) (.skip)) [0,2]))) [0,2]))) [0,2])
 (.seq (R [0,2,5] [v 22 0,o 23 (.callg 500 [t 22,n 6,n 2]),v 21 23,o 24 (.extract (t 21) 0),o 25 (.extract (t 21) 1),v 5 24,v 6 25])
 (.seq (.seq (R [0,2,31] [v 26 5,o 27 (.conv (.int .u16) (t 26)),v 28 0,o 29 (.slice (.sl 1) (t 28) none (some (n 6)) none),o 30 (.callg 602 [t 29]),o 31 (.bin .neq (t 27) (t 30))])
 (.after (.cond (t 31) (.seq (R [2,3] [o 32 (.build [.int .u32 0,.bool false,.bool false] []),u (.store 3 (t 2) (t 32)),o 3 (.val (n 7))])
 (.live [2,3] (.ret))) (.skip)) [0,2]))
 (.seq (R [0,2,7] [v 34 0,o 35 (.callg 500 [t 34,n 2,n 4]),v 33 35,o 36 (.extract (t 33) 0),o 37 (.extract (t 33) 1),v 7 36,v 8 37])
 (.seq (.after (.region [⟨true,[],[v 38 7,o 39 (.conv (.int .u32) (t 38)),v 40 0,o 41 (.iaddr 1 (t 40) (n 8)),o 42 (.load none (t 41)),o 43 (.bin .eql (t 42) (.const (.int .u8 0))),v 44 0,o 45 (.iaddr 1 (t 44) (n 9)),o 46 (.load none (t 45)),o 47 (.bin .neq (t 46) (.const (.int .u8 255)))]⟩,⟨false,[],[o 48 (.build [.int .u32 0,.bool false,.bool false] [(0,1,t 39),(1,1,t 43),(2,1,t 47)]),u (.store 3 (t 2) (t 48)),o 3 (.val (n 0))]⟩]) [2,3])
 (.live [2,3] (.ret)))))))),none⟩
def code587:AFunc:=⟨false,false,2,25,[.tmp 4],
 .seq (R [0,1] [o 4 (.val (n 0))])
 (.seq (.seq (R [0,1,17] [v 5 0,o 6 (.eqnil .ptr false (t 5) (.const (.ptr none))),v 7 6,g 8 7 false (.val (t 1)),g 9 7 false (.val (t 0)),g 10 7 false (.nilcheck (t 9)),g 11 7 false (.faddr (t 10) 0),g 12 7 false (.faddr (t 11) 0),g 13 7 false (.load none (t 12)),g 14 7 false (.bin .sub (t 13) (n 1)),g 15 7 false (.callg 568 [t 8,n 0,t 14]),g 16 7 false (.un .not (t 15)),o 17 (.pick (t 7) Y (t 16))])
 (.after (.cond (t 17) (.seq (R [4] [o 4 (.val (n 0))])
 (.live [4] (.ret))) (.skip)) [0,1]))
 (.seq (R [4] [v 18 0,o 19 (.nilcheck (t 18)),o 20 (.faddr (t 19) 4),o 21 (.load none (t 20)),v 22 1,o 23 (.iaddr 1 (t 21) (t 22)),o 24 (.load none (t 23)),v 4 24])
 (.live [4] (.ret)))),none⟩
def code588:AFunc:=⟨false,false,3,20,[.tmp 6,.tmp 7],
 .seq (R [0,1,2] [o 6 (.val (.const (.slice none 0 (some 0)))),o 7 (.val (n 0))])
 (.seq (R [8,9] [v 11 0,v 12 1,v 13 2,o 14 (.callg 583 [t 11,t 12,t 13]),v 10 14,o 15 (.extract (t 10) 0),o 16 (.extract (t 10) 1),v 8 15,v 9 16])
 (.seq (R [6,7] [v 17 8,o 18 (.callg 100465 [t 17]),v 19 9,v 6 18,v 7 19])
 (.live [6,7] (.ret)))),none⟩
def code589:AFunc:=⟨false,false,1,12,[.tmp 2],
 .seq (R [1] [o 1 (.lbox (t 0)),o 2 (.val (n 0))])
 (.seq (R [2] [o 3 (.faddr (t 1) 2),o 4 (.load none (t 3)),o 5 (.len .str (t 4)),o 6 (.bin .add (n 11) (t 5)),o 7 (.faddr (t 1) 3),o 8 (.load none (t 7)),o 9 (.len .sl (t 8)),o 10 (.bin .add (t 6) (t 9)),o 11 (.bin .add (t 10) (n 5)),v 2 11])
 (.live [2] (.ret))),none⟩
def code590L0:ACode :=
 .live [0,1,2,6,7,8] (.seq (.seq (R [0,1,2,6,7,8,35] [v 33 8,v 34 1,o 35 (.bin .leq (t 33) (t 34))])
 (.after (.cond (t 35) (.skip) (.live [0,1,2,6,7] (.exit 4))) [0,1,2,6,7,8]))
 (.after (.block 5 (.seq (R [0,1,2,6,8] [v 36 0,v 37 7,v 38 7,v 39 6,o 40 (.bin .add (t 38) (t 39)),v 41 8,v 42 2,o 43 (.nextStr F)])
 (.seq (R [0,1,2,6,7,8] [v 44 8,v 7 44])
 (R [0,1,2,6,7,8] [v 45 8,v 46 6,o 47 (.bin .mul (n 2) (t 46)),o 48 (.bin .add (t 45) (t 47)),v 8 48])))) [0,1,2,6,7,8]))
def code590L1:ACode :=
 .live [0,1,2,6] (.seq (.seq (R [0,1,2,6,30] [v 28 6,v 29 1,o 30 (.bin .lss (t 28) (t 29))])
 (.after (.cond (t 30) (.skip) (.live [] (.exit 2))) [0,1,2,6]))
 (.after (.block 3 (.seq (R [0,1,2,6,7,8] [v 31 6,o 32 (.bin .mul (n 2) (t 31)),o 7 (.val (n 0)),v 8 32])
 (.seq (.after (.block 4 (.loop code590L0)) [0,1,2,6,7])
 (.seq (.seq (R [0,1,2,6,7,9] [v 49 7,v 50 6,o 51 (.bin .add (t 49) (t 50)),v 9 51])
 (.seq (R [0,1,2,6,7,9,54] [v 52 9,v 53 1,o 54 (.bin .lss (t 52) (t 53))])
 (.after (.cond (t 54) (R [0,1,2,6] [v 55 0,v 56 7,v 57 9,v 58 1,v 59 2,o 60 (.nextStr F)]) (.skip)) [0,1,2,6])))
 (R [0,1,2,6] [v 61 6,o 62 (.bin .mul (t 61) (n 2)),v 6 62]))))) [0,1,2,6]))
def code590L2:ACode :=
 .live [0,1,2,6,7,8] (.seq (.seq (R [0,1,2,6,7,8,13] [v 11 8,v 12 1,o 13 (.bin .leq (t 11) (t 12))])
 (.after (.cond (t 13) (.skip) (.live [0,1,2,6,7] (.exit 0))) [0,1,2,6,7,8]))
 (.after (.block 1 (.seq (R [0,1,2,6,8] [v 14 0,v 15 7,v 16 8,v 17 2,o 18 (.callg 606 [t 14,t 15,t 16,t 17])])
 (.seq (R [0,1,2,6,7,8] [v 19 8,v 7 19])
 (R [0,1,2,6,7,8] [v 20 8,v 21 6,o 22 (.bin .add (t 20) (t 21)),v 8 22])))) [0,1,2,6,7,8]))
def code590:AFunc:=⟨false,false,3,63,[],
 .seq (R [0,1,2,6] [o 6 (.val (n 20))])
 (.seq (R [0,1,2,6,7,8] [v 10 6,o 7 (.val (n 0)),v 8 10])
 (.seq (.after (.block 0 (.loop code590L2)) [0,1,2,6,7])
 (.seq (R [0,1,2,6] [v 23 0,v 24 7,v 25 1,v 26 2,o 27 (.callg 606 [t 23,t 24,t 25,t 26])])
 (.after (.block 2 (.loop code590L1)) [])))),none⟩
def code591:AFunc:=⟨false,false,2,20,[.tmp 4],
 .seq (R [0,1] [o 4 (.val (n 0))])
 (.seq (R [0,1,5] [v 7 0,o 8 (.callg 592 [t 7]),v 5 8])
 (.seq (R [0,1,5,6] [v 9 1,o 10 (.callg 592 [t 9]),v 6 10])
 (.seq (.seq (R [0,1,6,11] [v 11 5])
 (.after (.cond (t 11) (.seq (.seq (R [12] [v 12 6])
 (.after (.cond (t 12) (.seq (R [4] [o 4 (.val (n 0))])
 (.live [4] (.ret))) (.skip)) []))
 (.seq (R [4] [o 4 (.val (.const (.int .i64 (-1))))])
 (.live [4] (.ret)))) (.skip)) [0,1,6]))
 (.seq (.seq (R [0,1,13] [v 13 6])
 (.after (.cond (t 13) (.seq (R [4] [o 4 (.val (n 1))])
 (.live [4] (.ret))) (.skip)) [0,1]))
 (.seq (.seq (R [0,1,16] [v 14 0,v 15 1,o 16 (.bin .lss (t 14) (t 15))])
 (.after (.cond (t 16) (.seq (R [4] [o 4 (.val (.const (.int .i64 (-1))))])
 (.live [4] (.ret))) (.skip)) [0,1]))
 (.seq (.seq (R [19] [v 17 0,v 18 1,o 19 (.bin .gtr (t 17) (t 18))])
 (.after (.cond (t 19) (.seq (R [4] [o 4 (.val (n 1))])
 (.live [4] (.ret))) (.skip)) []))
 (.seq (R [4] [o 4 (.val (n 0))])
 (.live [4] (.ret))))))))),none⟩
def code592:AFunc:=⟨false,false,1,6,[.tmp 2],
 .seq (R [0] [o 2 (.val F)])
 (.seq (R [2] [v 3 0,v 4 0,o 5 (.bin .neq (t 3) (t 4)),v 2 5])
 (.live [2] (.ret))),none⟩
def code596:AFunc:=⟨false,false,1,56,[.tmp 2,.tmp 3],
 .seq (R [1] [o 1 (.lbox (t 0)),o 2 (.val (.const (.slice none 0 (some 0)))),o 3 (.val (n 0))])
 (.seq (.seq (R [1,13] [o 5 (.load (some 5) (t 1)),o 6 (.faddr (t 1) 2),o 7 (.load none (t 6)),o 8 (.len .str (t 7)),o 9 (.faddr (t 1) 3),o 10 (.load none (t 9)),o 11 (.len .sl (t 10)),o 12 (.callg 614 [t 5,t 8,t 11]),o 13 (.un .not (t 12))])
 (.after (.cond (t 13) (.seq (R [2,3] [o 2 (.val (.const (.slice none 0 (some 0)))),o 3 (.val (n 8))])
 (.live [2,3] (.ret))) (.skip)) [1]))
 (.seq (R [1,4] [o 14 (.faddr (t 1) 0),o 15 (.load none (t 14)),o 16 (.conv (.int .u8) (t 15)),o 17 (.mkslice 1 1 [.int .u8 0] [(0,1,t 16)]),o 18 (.faddr (t 1) 1),o 19 (.load none (t 18)),o 20 (.conv (.int .u64) (t 19)),o 21 (.callg 385 [t 17,t 20,n 4]),v 4 21])
 (.seq (R [1,4] [v 22 4,o 23 (.faddr (t 1) 2),o 24 (.load none (t 23)),o 25 (.len .str (t 24)),o 26 (.conv (.int .u64) (t 25)),o 27 (.callg 385 [t 22,t 26,n 1]),v 4 27])
 (.seq (R [1,4] [v 28 4,o 29 (.faddr (t 1) 3),o 30 (.load none (t 29)),o 31 (.len .sl (t 30)),o 32 (.conv (.int .u64) (t 31)),o 33 (.callg 385 [t 28,t 32,n 2]),v 4 33])
 (.seq (R [1,4] [v 34 4,o 35 (.faddr (t 1) 4),o 36 (.load none (t 35)),o 37 (.conv (.int .u64) (t 36)),o 38 (.callg 385 [t 34,t 37,n 1]),v 4 38])
 (.seq (R [1,4] [v 39 4,v 40 4,o 41 (.callg 602 [t 40]),o 42 (.conv (.int .u64) (t 41)),o 43 (.callg 385 [t 39,t 42,n 2]),v 4 43])
 (.seq (.after (.region [⟨true,[0,0,2,7,0,16],[v 44 4,o 45 (.faddr (t 1) 2),o 46 (.load none (t 45)),o 47 (.append 1 1 (t 44) (t 46)),o 48 (.faddr (t 1) 3),o 49 (.load none (t 48))]⟩,⟨false,[],[o 50 (.append 1 1 (t 47) (t 49)),v 4 50]⟩]) [4])
 (.seq (R [2,3] [v 51 4,v 52 4,o 53 (.callg 613 [t 52]),o 54 (.conv (.int .u64) (t 53)),o 55 (.callg 385 [t 51,t 54,n 4]),v 2 55,o 3 (.val (n 0))])
 (.live [2,3] (.ret)))))))))),none⟩
def code597:AFunc:=⟨false,false,2,24,[.tmp 4],
 .seq (R [0,1] [o 4 (.val F)])
 (.seq (.after (.region [⟨false,[],[v 5 0,o 6 (.nilcheck (t 5)),o 7 (.faddr (t 6) 6),o 8 (.load none (t 7)),o 9 (.bin .neq (t 8) (.const (.int .i64 (-1)))),v 10 9]⟩,⟨true,[],[g 11 10 true (.val (t 0)),g 12 10 true (.nilcheck (t 11)),g 13 10 true (.faddr (t 12) 7),g 14 10 true (.load none (t 13)),g 15 10 true (.val (t 1)),g 16 10 true (.bin .add (t 14) (t 15)),g 17 10 true (.val (t 0)),g 18 10 true (.nilcheck (t 17)),g 19 10 true (.faddr (t 18) 1),g 20 10 true (.faddr (t 19) 1),g 21 10 true (.load none (t 20))]⟩,⟨false,[],[g 22 10 true (.bin .leq (t 16) (t 21)),o 23 (.pick (t 10) (t 22) F),v 4 23]⟩]) [4])
 (.live [4] (.ret))),none⟩
def code598:AFunc:=⟨false,false,1,78,[.tmp 2],
 .seq (R [0] [o 2 (.val (n 0))])
 (.seq (.after (.region [⟨true,[],[v 7 0,o 8 (.nilcheck (t 7)),o 9 (.faddr (t 8) 4),o 10 (.load none (t 9)),v 11 0,o 12 (.nilcheck (t 11)),o 13 (.faddr (t 12) 1),o 14 (.faddr (t 13) 2),o 15 (.load none (t 14))]⟩,⟨false,[],[o 16 (.callg 7 [t 10,t 15]),v 6 16]⟩,⟨true,[],[o 17 (.extract (t 6) 0),o 18 (.extract (t 6) 1),v 3 17]⟩,⟨false,[],[v 4 18]⟩]) [0,3,4])
 (.seq (.seq (R [0,3,27] [v 19 4,o 20 (.un .not (t 19)),v 21 20,g 22 21 false (.val (t 0)),g 23 21 false (.nilcheck (t 22)),g 24 21 false (.faddr (t 23) 9),g 25 21 false (.load none (t 24)),g 26 21 false (.bin .eql (t 25) (.const (.int .u32 4294967295))),o 27 (.pick (t 21) Y (t 26))])
 (.after (.cond (t 27) (.seq (R [2] [o 2 (.val (n 10))])
 (.live [2] (.ret))) (.skip)) [0,3]))
 (.seq (.seq (.after (.region [⟨true,[],[v 28 0,o 29 (.nilcheck (t 28)),o 30 (.faddr (t 29) 0),o 31 (.load none (t 30)),v 32 3,v 33 0,o 34 (.nilcheck (t 33)),o 35 (.faddr (t 34) 9),o 36 (.load none (t 35)),o 37 (.bin .add (t 36) (.const (.int .u32 1)))]⟩,⟨false,[],[o 38 (.callg 618 [t 31,t 32,t 37]),v 5 38]⟩]) [0,3,5])
 (.seq (R [0,3,5,40] [v 39 5,o 40 (.bin .neq (t 39) (n 0))])
 (.after (.cond (t 40) (.seq (R [2] [v 41 0,v 42 5,o 43 (.callg 578 [t 41,t 42]),v 2 43])
 (.live [2] (.ret))) (.skip)) [0,3])))
 (.seq (R [0,3] [v 44 0,o 45 (.nilcheck (t 44)),o 46 (.faddr (t 45) 9),o 47 (.load none (t 46)),o 48 (.bin .add (t 47) (.const (.int .u32 1))),o 49 (.nilcheck (t 44)),o 50 (.faddr (t 49) 9),u (.store 1 (t 50) (t 48))])
 (.seq (.after (.region [⟨true,[],[v 51 0,o 52 (.nilcheck (t 51)),o 53 (.faddr (t 52) 4),o 54 (.load none (t 53)),v 55 3,v 56 0,o 57 (.nilcheck (t 56)),o 58 (.faddr (t 57) 9),o 59 (.load none (t 58)),v 60 0,o 61 (.nilcheck (t 60)),o 62 (.faddr (t 61) 0),o 63 (.load none (t 62)),v 64 3,o 65 (.callg 587 [t 63,t 64]),o 66 (.build [.int .i64 0,.int .u32 0,.int .i64 0] [(0,1,n 2),(1,1,t 59),(2,1,t 65)])]⟩,⟨false,[],[o 67 (.iaddr 3 (t 54) (t 55)),u (.store 3 (t 67) (t 66))]⟩]) [0,3])
 (.seq (R [] [v 68 0,v 69 0,v 70 0,v 71 3,o 72 (.nilcheck (t 68)),o 73 (.faddr (t 72) 6),u (.store 1 (t 73) (t 71)),o 74 (.nilcheck (t 69)),o 75 (.faddr (t 74) 7),u (.store 1 (t 75) (n 12)),o 76 (.nilcheck (t 70)),o 77 (.faddr (t 76) 8),u (.store 1 (t 77) (.const (.int .u32 0)))])
 (.seq (R [2] [o 2 (.val (n 0))])
 (.live [2] (.ret))))))))),none⟩
def code600:AFunc:=⟨false,false,3,32,[],
 .seq (R [0,1,5] [o 5 (.lbox (t 2))])
 (.seq (.seq (R [0,1,5,9] [o 6 (.faddr (t 5) 1),o 7 (.faddr (t 6) 0),o 8 (.load none (t 7)),o 9 (.bin .eql (t 8) (n 2))])
 (.after (.cond (t 9) (.seq (.after (.region [⟨true,[],[v 10 0,o 11 (.nilcheck (t 10)),o 12 (.faddr (t 11) 5),o 13 (.load none (t 12)),o 14 (.faddr (t 5) 1),o 15 (.faddr (t 14) 2),o 16 (.load none (t 15))]⟩,⟨false,[],[u (.ext (.delete (.one .s)) [t 13,t 16])]⟩]) [])
 (.live [] (.ret))) (.skip)) [0,1,5]))
 (.after (.region [⟨true,[],[v 17 0,o 18 (.nilcheck (t 17)),o 19 (.faddr (t 18) 5),o 20 (.load none (t 19)),o 21 (.faddr (t 5) 1),o 22 (.faddr (t 21) 2),o 23 (.load none (t 22)),v 24 1,o 25 (.faddr (t 5) 0),o 26 (.load none (t 25)),o 27 (.faddr (t 5) 1),o 28 (.faddr (t 27) 3),o 29 (.load none (t 28)),o 30 (.conv .string (t 29)),o 31 (.build [.int .i64 0,.int .i64 0,.str []] [(0,1,t 24),(1,1,t 26),(2,1,t 30)])]⟩,⟨false,[],[u (.ext (.mapupd (.one .s)) [t 20,t 23,t 31])]⟩]) [])),none⟩
def code601:AFunc:=⟨false,false,2,74,[.cell 4 (some 6),.tmp 5],
 .seq (R [0,3,4] [o 3 (.lbox (t 1)),o 4 (.lalloc [.int .i64 0,.int .i64 0,.int .u32 0,.str [],.slice none 0 (some 0),.int .i64 0]),o 5 (.val (n 0))])
 (.seq (R [0,3,4,5,6] [o 9 (.load (some 5) (t 3)),o 10 (.callg 596 [t 9]),v 8 10,o 11 (.extract (t 8) 0),o 12 (.extract (t 8) 1),v 6 11,v 5 12])
 (.seq (.seq (R [0,3,4,5,6,14] [v 13 5,o 14 (.bin .neq (t 13) (n 0))])
 (.after (.cond (t 14) (.seq (R [4,5] [o 15 (.load (some 6) (t 4)),v 16 5,u (.store 6 (t 4) (t 15)),v 5 16])
 (.live [4,5] (.ret))) (.skip)) [0,3,4,6]))
 (.seq (.after (.region [⟨true,[],[v 17 0,o 18 (.nilcheck (t 17)),o 19 (.faddr (t 18) 6),o 20 (.load none (t 19)),v 21 0,o 22 (.nilcheck (t 21)),o 23 (.faddr (t 22) 1),o 24 (.faddr (t 23) 1),o 25 (.load none (t 24)),o 26 (.bin .mul (t 20) (t 25)),v 27 0,o 28 (.nilcheck (t 27)),o 29 (.faddr (t 28) 7),o 30 (.load none (t 29))]⟩,⟨false,[],[o 31 (.bin .add (t 26) (t 30)),v 7 31]⟩]) [0,3,4,6,7])
 (.seq (.seq (R [0,3,4,5,6,7] [v 32 0,o 33 (.nilcheck (t 32)),o 34 (.faddr (t 33) 0),o 35 (.load none (t 34)),v 36 7,v 37 6,o 38 (.callg 558 [t 35,t 36,t 37]),v 5 38])
 (.seq (R [0,3,4,5,6,7,40] [v 39 5,o 40 (.bin .neq (t 39) (n 0))])
 (.after (.cond (t 40) (.seq (R [4,5] [o 41 (.load (some 6) (t 4)),v 42 5,u (.store 6 (t 4) (t 41)),v 5 42])
 (.live [4,5] (.ret))) (.skip)) [0,3,4,6,7])))
 (.seq (.seq (R [0,3,4,5,6] [v 43 0,o 44 (.nilcheck (t 43)),o 45 (.faddr (t 44) 0),o 46 (.load none (t 45)),v 47 7,v 48 6,o 49 (.len .sl (t 48)),o 50 (.bin .add (t 47) (t 49)),o 51 (.mkslice 1 1 [.int .u8 0] [(0,1,.const (.int .u8 0))]),o 52 (.callg 558 [t 46,t 50,t 51]),v 5 52])
 (.seq (R [0,3,4,5,6,54] [v 53 5,o 54 (.bin .neq (t 53) (n 0))])
 (.after (.cond (t 54) (.seq (R [4,5] [o 55 (.load (some 6) (t 4)),v 56 5,u (.store 6 (t 4) (t 55)),v 5 56])
 (.live [4,5] (.ret))) (.skip)) [0,3,4,6])))
 (.seq (.after (.region [⟨true,[],[v 57 0,o 58 (.nilcheck (t 57)),o 59 (.faddr (t 58) 7),o 60 (.load none (t 59)),o 61 (.load (some 5) (t 3))]⟩,⟨false,[],[o 62 (.build [.int .i64 0,.int .i64 0,.int .u32 0,.str [],.slice none 0 (some 0),.int .i64 0] [(0,1,t 60),(1,5,t 61)]),u (.store 6 (t 4) (t 62))]⟩]) [0,4,6])
 (.seq (R [4] [v 63 0,o 64 (.nilcheck (t 63)),o 65 (.faddr (t 64) 7),o 66 (.load none (t 65)),v 67 6,o 68 (.len .sl (t 67)),o 69 (.bin .add (t 68) (n 1)),o 70 (.bin .add (t 66) (t 69)),o 71 (.nilcheck (t 63)),o 72 (.faddr (t 71) 7),u (.store 1 (t 72) (t 70))])
 (.seq (R [4,5] [o 73 (.load (some 6) (t 4)),u (.store 6 (t 4) (t 73)),o 5 (.val (n 0))])
 (.live [4,5] (.ret)))))))))),none⟩
def code602:AFunc:=⟨false,false,1,5,[.tmp 2],
 .seq (R [0] [o 2 (.val (.const (.int .u16 0)))])
 (.seq (R [2] [v 3 0,o 4 (.callg 620 [.const (.int .u16 65535),t 3]),v 2 4])
 (.live [2] (.ret))),none⟩
def code603:AFunc:=⟨false,false,2,18,[.tmp 4],
 .seq (R [0,1] [o 4 (.val F)])
 (.seq (R [4] [v 5 0,o 6 (.len .sl (t 5)),v 7 1,o 8 (.len .sl (t 7)),o 9 (.bin .geq (t 6) (t 8)),v 10 9,g 11 10 true (.val (t 0)),g 12 10 true (.val (t 1)),g 13 10 true (.len .sl (t 12)),g 14 10 true (.slice (.sl 1) (t 11) none (some (t 13)) none),g 15 10 true (.val (t 1)),g 16 10 true (.callg 619 [t 14,t 15]),o 17 (.pick (t 10) (t 16) F),v 4 17])
 (.live [4] (.ret))),none⟩
def code604:AFunc:=⟨false,false,0,2,[.cell 0 (some 2)],
 .seq (R [0] [o 0 (.lalloc [.int .u8 0,.int .u8 0])])
 (.seq (R [0] [o 1 (.build [.int .u8 0,.int .u8 0] [(0,1,.const (.int .u8 67)),(1,1,.const (.int .u8 66))]),u (.store 2 (t 0) (t 1))])
 (.live [0] (.ret))),none⟩
def code606L0:ACode :=
 .live [0,1,2,3,8,9] (.seq (.seq (.after (.region [⟨true,[],[v 18 9,v 19 1]⟩,⟨false,[],[o 20 (.bin .gtr (t 18) (t 19)),v 21 20]⟩,⟨true,[],[g 22 21 true (.val (t 3)),g 23 21 true (.val (t 0)),g 24 21 true (.val (t 9)),g 25 21 true (.iaddr 1 (t 23) (t 24)),g 26 21 true (.load none (t 25)),g 27 21 true (.val (t 0)),g 28 21 true (.val (t 9)),g 29 21 true (.bin .sub (t 28) (n 1)),g 30 21 true (.iaddr 1 (t 27) (t 29)),g 31 21 true (.load none (t 30))]⟩,⟨false,[],[g 32 21 true (.call (t 22) [t 26,t 31]),g 33 21 true (.bin .lss (t 32) (n 0)),o 34 (.pick (t 21) (t 33) F)]⟩]) [0,1,2,3,8,9,34])
 (.after (.cond (t 34) (.skip) (.live [0,1,2,3,8] (.exit 2))) [0,1,2,3,8,9]))
 (.seq (.after (.block 3 (.after (.region [⟨true,[0,0,0,0,8,0,0,64,224,480,0,0,3072,7168,16355,32739],[v 37 0,v 38 9,v 39 0,v 40 9,o 41 (.bin .sub (t 40) (n 1)),v 42 0,v 43 9,o 44 (.bin .sub (t 43) (n 1)),o 45 (.iaddr 1 (t 42) (t 44)),o 46 (.load none (t 45)),v 47 0,v 48 9,o 49 (.iaddr 1 (t 47) (t 48)),o 50 (.load none (t 49)),o 51 (.iaddr 1 (t 37) (t 38)),u (.ext (.hstore 1) [t 51,t 46])]⟩,⟨false,[],[o 52 (.iaddr 1 (t 39) (t 41)),u (.store 1 (t 52) (t 50))]⟩]) [0,1,2,3,8,9])) [0,1,2,3,8,9])
 (R [0,1,2,3,8,9] [v 35 9,o 36 (.bin .sub (t 35) (n 1)),v 9 36])))
def code606L1:ACode :=
 .live [0,1,2,3,8] (.seq (.seq (R [0,1,2,3,8,14] [v 12 8,v 13 2,o 14 (.bin .lss (t 12) (t 13))])
 (.after (.cond (t 14) (.skip) (.live [] (.exit 0))) [0,1,2,3,8]))
 (.seq (.after (.block 1 (.seq (R [0,1,2,3,8,9] [v 17 8,v 9 17])
 (.after (.block 2 (.loop code606L0)) [0,1,2,3,8]))) [0,1,2,3,8])
 (R [0,1,2,3,8] [v 15 8,o 16 (.bin .add (t 15) (n 1)),v 8 16])))
def code606:AFunc:=⟨false,false,4,53,[],
 .seq (R [0,1,2,3,8] [v 10 1,o 11 (.bin .add (t 10) (n 1)),v 8 11])
 (.after (.block 0 (.loop code606L1)) []),none⟩
def code611L0:ACode :=
 .live [0,5,6,7,79,80] (.seq (R [0,5,6,7,79,80,81] [o 81 (.bin .lss (t 80) (t 79))])
 (.seq (.after (.cond (t 81) (.skip) (.live [0,5,6,7] (.exit 1))) [0,5,6,7,79,80])
 (.seq (.after (.block 2 (.seq (R [0,5,6,7,8,79,80] [v 82 80,v 8 82])
 (R [0,5,6,7,79,80] [v 83 5,v 84 8,o 85 (.iaddr 1 (t 83) (t 84)),u (.store 1 (t 85) (.const (.int .u8 255)))]))) [0,5,6,7,79,80])
 (R [0,5,6,7,79,80] [o 86 (.bin .add (t 80) (n 1)),v 80 86]))))
def code611:AFunc:=⟨false,false,2,104,[.tmp 4],
 .seq (R [0,1] [o 4 (.val (n 0))])
 (.seq (.after (.block 0 (.seq (R [0,1,9] [v 10 0,o 11 (.eqnil .ptr false (t 10) (.const (.ptr none))),v 12 11,g 13 12 false (.val (t 0)),g 14 12 false (.nilcheck (t 13)),g 15 12 false (.faddr (t 14) 5),g 16 12 false (.load none (t 15)),o 17 (.pick (t 12) Y (t 16)),v 9 17])
 (.after (.cond (t 9) (.seq (R [4] [o 4 (.val (n 5))])
 (.live [4] (.ret))) (.seq (R [0,1,18] [v 19 1,v 20 0,o 21 (.nilcheck (t 20)),o 22 (.faddr (t 21) 0),o 23 (.faddr (t 22) 0),o 24 (.load none (t 23)),o 25 (.bin .sub (t 24) (n 1)),o 26 (.callg 568 [t 19,n 0,t 25]),o 27 (.un .not (t 26)),v 18 27])
 (.after (.cond (t 18) (.seq (R [4] [o 4 (.val (n 2))])
 (.live [4] (.ret))) (.seq (.after (.region [⟨true,[],[v 29 0,o 30 (.nilcheck (t 29)),o 31 (.faddr (t 30) 4),o 32 (.load none (t 31)),v 33 1,o 34 (.iaddr 1 (t 32) (t 33)),o 35 (.load none (t 34)),v 36 0,o 37 (.nilcheck (t 36)),o 38 (.faddr (t 37) 0),o 39 (.faddr (t 38) 2),o 40 (.load none (t 39))]⟩,⟨false,[],[o 41 (.bin .geq (t 35) (t 40)),v 28 41]⟩]) [0,1,28])
 (.after (.cond (t 28) (.seq (R [4] [o 4 (.val (n 4))])
 (.live [4] (.ret))) (.skip)) [0,1]))) [0,1]))) [0,1]))) [0,1])
 (.seq (R [0,1] [v 42 0,o 43 (.nilcheck (t 42)),o 44 (.faddr (t 43) 4),o 45 (.load none (t 44)),v 46 1,o 47 (.iaddr 1 (t 45) (t 46)),o 48 (.load none (t 47)),o 49 (.bin .add (t 48) (n 1)),o 50 (.iaddr 1 (t 45) (t 46)),u (.store 1 (t 50) (t 49))])
 (.seq (.after (.region [⟨true,[],[v 51 0,o 52 (.nilcheck (t 51)),o 53 (.faddr (t 52) 3),o 54 (.load none (t 53)),v 55 1,v 56 0,o 57 (.nilcheck (t 56)),o 58 (.faddr (t 57) 0),o 59 (.faddr (t 58) 1),o 60 (.load none (t 59)),o 61 (.bin .mul (t 55) (t 60)),o 62 (.slice (.sl 1) (t 54) (some (t 61)) none none),v 63 0,o 64 (.nilcheck (t 63)),o 65 (.faddr (t 64) 0),o 66 (.faddr (t 65) 1),o 67 (.load none (t 66))]⟩,⟨false,[],[o 68 (.slice (.sl 1) (t 62) none (some (t 67)) none),v 5 68]⟩]) [0,5])
 (.seq (R [0,5,6,7] [v 70 0,v 71 5,o 72 (.len .sl (t 71)),o 73 (.callg 582 [t 70,t 72]),v 69 73,o 74 (.extract (t 69) 0),o 75 (.extract (t 69) 1),v 6 74,v 7 75])
 (.seq (.seq (R [0,5,6,7,79,80] [v 76 5,v 77 6,o 78 (.slice (.sl 1) (t 76) none (some (t 77)) none),o 79 (.len .sl (t 78)),o 80 (.val (n 0))])
 (.after (.block 1 (.loop code611L0)) [0,5,6,7]))
 (.seq (.seq (R [0,5,6,88] [v 87 7,o 88 (.un .not (t 87))])
 (.after (.cond (t 88) (.seq (R [4] [o 4 (.val (n 0))])
 (.live [4] (.ret))) (.skip)) [0,5,6]))
 (.seq (.seq (R [0,5,6,92] [v 89 6,v 90 5,o 91 (.len .sl (t 90)),o 92 (.bin .lss (t 89) (t 91))])
 (.after (.cond (t 92) (.after (.region [⟨true,[],[v 93 5,v 94 6,o 95 (.iaddr 1 (t 93) (t 94)),o 96 (.load none (t 95)),v 97 0,o 98 (.nilcheck (t 97)),o 99 (.faddr (t 98) 7),o 100 (.faddr (t 99) 1),o 101 (.load none (t 100))]⟩,⟨false,[],[o 102 (.bin .or (t 96) (t 101)),o 103 (.iaddr 1 (t 93) (t 94)),u (.store 1 (t 103) (t 102))]⟩]) []) (.skip)) []))
 (.seq (R [4] [o 4 (.val (n 5))])
 (.live [4] (.ret)))))))))),none⟩
def code612:AFunc:=⟨false,false,2,24,[.tmp 4],
 .seq (R [0,1] [o 4 (.val (n 0))])
 (.seq (R [0,1,5] [v 6 0,o 7 (.callg 573 [t 6]),o 5 (.lalloc [.int .i64 0,.int .i64 0,.int .i64 0]),u (.store 3 (t 5) (t 7))])
 (.seq (.seq (R [0,1,5,15] [v 8 1,o 9 (.bin .lss (t 8) (n 0)),v 10 9,g 11 10 false (.val (t 1)),g 12 10 false (.faddr (t 5) 0),g 13 10 false (.load none (t 12)),g 14 10 false (.bin .geq (t 11) (t 13)),o 15 (.pick (t 10) Y (t 14))])
 (.after (.cond (t 15) (.seq (R [4] [o 4 (.val (n 2))])
 (.live [4] (.ret))) (.skip)) [0,1,5]))
 (.seq (R [4] [v 16 0,v 17 1,o 18 (.faddr (t 5) 1),o 19 (.load none (t 18)),o 20 (.bin .mul (t 17) (t 19)),o 21 (.bin .add (t 20) (n 9)),o 22 (.mkslice 1 1 [.int .u8 0] [(0,1,.const (.int .u8 0))]),o 23 (.callg 558 [t 16,t 21,t 22]),v 4 23])
 (.live [4] (.ret))))),none⟩
def code613L0:ACode :=
 .live [3,4,8,9,10] (.seq (R [3,4,8,9,10,11] [o 11 (.bin .lss (t 10) (t 9))])
 (.seq (.after (.cond (t 11) (.skip) (.live [4] (.exit 0))) [3,4,8,9,10])
 (.seq (.after (.block 1 (.seq (R [3,4,6,8,9,10] [o 12 (.iaddr 1 (t 8) (t 10)),o 13 (.load none (t 12)),v 6 13])
 (R [3,4,8,9,10] [v 14 4,o 15 (.bin .shr (t 14) (.const (.int .u64 8))),v 16 4,o 17 (.conv (.int .u8) (t 16)),v 18 6,o 19 (.bin .xor (t 17) (t 18)),o 20 (.aaddr 256 1 (t 3) (t 19)),o 21 (.load none (t 20)),o 22 (.bin .xor (t 15) (t 21)),v 4 22]))) [3,4,8,9,10])
 (R [3,4,8,9,10] [o 23 (.bin .add (t 10) (n 1)),v 10 23]))))
def code613:AFunc:=⟨false,false,1,26,[.tmp 2],
 .seq (R [0] [o 2 (.val (.const (.int .u32 0)))])
 (.seq (R [0,3,4] [o 7 (.callg 626 []),o 3 (.lalloc (List.replicate 256 (.int .u32 0))),u (.store 256 (t 3) (t 7)),o 4 (.val (.const (.int .u32 4294967295)))])
 (.seq (.seq (R [3,4,8,9,10] [v 8 0,o 9 (.len .sl (t 8)),o 10 (.val (n 0))])
 (.after (.block 0 (.loop code613L0)) [4]))
 (.seq (R [2] [v 24 4,o 25 (.un .xor (t 24)),v 2 25])
 (.live [2] (.ret))))),none⟩
def code614:AFunc:=⟨false,false,3,56,[.tmp 6],
 .seq (R [1,2,3] [o 3 (.lbox (t 0)),o 6 (.val F)])
 (.seq (.seq (R [1,2,3,10] [o 8 (.faddr (t 3) 1),o 9 (.load none (t 8)),o 10 (.bin .eql (t 9) (.const (.int .u32 0)))])
 (.after (.cond (t 10) (.seq (R [6] [o 6 (.val F)])
 (.live [6] (.ret))) (.skip)) [1,2,3]))
 (.seq (R [1,2,3,7] [v 11 1,o 12 (.bin .geq (t 11) (n 1)),v 13 12,g 14 13 true (.val (t 1)),g 15 13 true (.bin .leq (t 14) (n 64)),o 16 (.pick (t 13) (t 15) F),v 17 16,g 18 17 true (.faddr (t 3) 4),g 19 17 true (.load none (t 18)),g 20 17 true (.bin .eql (t 19) (n 0)),o 21 (.pick (t 17) (t 20) F),v 7 21])
 (.seq (.seq (R [1,2,3,7,23] [o 22 (.faddr (t 3) 0),o 23 (.load none (t 22))])
 (.after (.block 0 (.seq (R [1,2,3,7,23,24] [o 25 (.bin .eql (t 23) (n 1)),v 24 25])
 (.after (.cond (t 24) (.seq (R [6] [v 26 7,v 27 26,g 28 27 true (.val (t 2)),g 29 27 true (.bin .leq (t 28) (n 4096)),o 30 (.pick (t 27) (t 29) F),v 6 30])
 (.live [6] (.ret))) (.seq (R [1,2,3,7,23,31] [o 32 (.bin .eql (t 23) (n 2)),v 31 32])
 (.after (.cond (t 31) (.seq (R [6] [v 33 7,v 34 33,g 35 34 true (.val (t 2)),g 36 34 true (.bin .eql (t 35) (n 0)),o 37 (.pick (t 34) (t 36) F),v 6 37])
 (.live [6] (.ret))) (.seq (R [1,2,3,38] [o 39 (.bin .eql (t 23) (n 3)),v 38 39])
 (.after (.cond (t 38) (.seq (R [6] [v 40 1,o 41 (.bin .eql (t 40) (n 0)),v 42 41,g 43 42 true (.val (t 2)),g 44 42 true (.bin .eql (t 43) (n 0)),o 45 (.pick (t 42) (t 44) F),v 46 45,g 47 46 true (.faddr (t 3) 4),g 48 46 true (.load none (t 47)),g 49 46 true (.bin .geq (t 48) (n 0)),o 50 (.pick (t 46) (t 49) F),v 51 50,g 52 51 true (.faddr (t 3) 4),g 53 51 true (.load none (t 52)),g 54 51 true (.bin .leq (t 53) (n 16)),o 55 (.pick (t 51) (t 54) F),v 6 55])
 (.live [6] (.ret))) (.skip)) []))) []))) []))) []))
 (.seq (R [6] [o 6 (.val F)])
 (.live [6] (.ret)))))),none⟩
def code616:AFunc:=⟨false,false,2,9,[.tmp 4],
 .seq (R [2,3] [o 2 (.box (t 0)),o 3 (.box (t 1)),o 4 (.val (.const (.nilFunc)))])
 (.seq (.seq (R [2,3,6] [o 5 (.load none (t 3)),o 6 (.bin .lss (t 5) (n 1))])
 (.after (.cond (t 6) (R [2,3] [o 7 (.nextStr F),u (.nextStr F)]) (.skip)) [2,3]))
 (.seq (R [4] [o 8 (.mkfunc 629 [] [t 2,t 3]),v 4 8])
 (.live [4] (.ret)))),none⟩
def code618:AFunc:=⟨false,false,3,54,[.tmp 6],
 .seq (R [0,1,2] [o 6 (.val (n 0))])
 (.seq (R [0,1,2,7,8] [v 13 0,v 14 1,o 15 (.callg 564 [t 13,t 14]),v 12 15,o 16 (.extract (t 12) 0),o 17 (.extract (t 12) 1),o 7 (.lalloc [.int .i64 0,.int .u32 0,.int .i64 0]),u (.store 3 (t 7) (t 16)),v 8 17])
 (.seq (.after (.block 0 (.seq (R [0,1,2,7,8,18] [v 19 8,o 20 (.bin .neq (t 19) (n 0)),v 18 20])
 (.after (.cond (t 18) (.seq (R [6] [v 21 8,v 6 21])
 (.live [6] (.ret))) (.seq (R [0,1,2,7,22] [o 23 (.faddr (t 7) 0),o 24 (.load none (t 23)),o 25 (.bin .eql (t 24) (n 2)),v 22 25])
 (.after (.cond (t 22) (.seq (R [6] [o 6 (.val (n 16))])
 (.live [6] (.ret))) (.seq (R [0,1,2,26] [o 27 (.faddr (t 7) 0),o 28 (.load none (t 27)),o 29 (.bin .eql (t 28) (n 1)),v 26 29])
 (.after (.cond (t 26) (.seq (R [0,1,2,9] [v 30 0,v 31 1,o 32 (.callg 611 [t 30,t 31]),v 9 32])
 (.seq (R [0,1,2,9,34] [v 33 9,o 34 (.bin .neq (t 33) (n 0))])
 (.after (.cond (t 34) (.seq (R [6] [v 35 9,v 6 35])
 (.live [6] (.ret))) (.skip)) [0,1,2]))) (.skip)) [0,1,2]))) [0,1,2]))) [0,1,2]))) [0,1,2])
 (.seq (R [0,2,10] [v 36 1,v 37 0,o 38 (.callg 573 [t 37]),o 39 (.field (t 38) 1 none),o 40 (.bin .mul (t 36) (t 39)),v 10 40])
 (.seq (.seq (R [0,10,11] [v 41 0,v 42 10,v 43 2,o 44 (.callg 630 [t 43]),o 45 (.callg 558 [t 41,t 42,t 44]),v 11 45])
 (.seq (R [0,10,11,47] [v 46 11,o 47 (.bin .neq (t 46) (n 0))])
 (.after (.cond (t 47) (.seq (R [6] [v 48 11,v 6 48])
 (.live [6] (.ret))) (.skip)) [0,10])))
 (.seq (R [6] [v 49 0,v 50 10,o 51 (.bin .add (t 50) (n 8)),o 52 (.mkslice 1 1 [.int .u8 0] [(0,1,.const (.int .u8 0))]),o 53 (.callg 558 [t 49,t 51,t 52]),v 6 53])
 (.live [6] (.ret))))))),none⟩
def code619:AFunc:=⟨false,false,2,10,[.tmp 4],
 .seq (R [0,1] [o 4 (.val F)])
 (.seq (R [4] [v 5 0,o 6 (.conv .string (t 5)),v 7 1,o 8 (.conv .string (t 7)),o 9 (.bin .eql (t 6) (t 8)),v 4 9])
 (.live [4] (.ret))),none⟩
def code620L0:ACode :=
 .live [0,5,9,10,11] (.seq (R [0,5,9,10,11,12] [o 12 (.bin .lss (t 11) (t 10))])
 (.seq (.after (.cond (t 12) (.skip) (.live [0] (.exit 0))) [0,5,9,10,11])
 (.seq (.after (.block 1 (.seq (R [0,5,7,9,10,11] [o 13 (.iaddr 1 (t 9) (t 11)),o 14 (.load none (t 13)),v 7 14])
 (R [0,5,9,10,11] [v 15 0,o 16 (.bin .shl (t 15) (.const (.int .u64 8))),v 17 0,o 18 (.bin .shr (t 17) (.const (.int .u64 8))),o 19 (.conv (.int .u8) (t 18)),v 20 7,o 21 (.bin .xor (t 19) (t 20)),o 22 (.aaddr 256 1 (t 5) (t 21)),o 23 (.load none (t 22)),o 24 (.bin .xor (t 16) (t 23)),v 0 24]))) [0,5,9,10,11])
 (R [0,5,9,10,11] [o 25 (.bin .add (t 11) (n 1)),v 11 25]))))
def code620:AFunc:=⟨false,false,2,27,[.tmp 4],
 .seq (R [0,1] [o 4 (.val (.const (.int .u16 0)))])
 (.seq (R [0,1,5] [o 8 (.callg 631 []),o 5 (.lalloc (List.replicate 256 (.int .u16 0))),u (.store 256 (t 5) (t 8))])
 (.seq (.seq (R [0,5,9,10,11] [v 9 1,o 10 (.len .sl (t 9)),o 11 (.val (n 0))])
 (.after (.block 0 (.loop code620L0)) [0]))
 (.seq (R [4] [v 26 0,v 4 26])
 (.live [4] (.ret))))),none⟩
def code626L0:ACode :=
 .live [0,1,2,3,4,9] (.seq (R [0,1,2,3,4,9,10] [o 10 (.bin .lss (t 9) (n 8))])
 (.seq (.after (.cond (t 10) (.skip) (.live [0,1,2,3,4] (.exit 2))) [0,1,2,3,4,9])
 (.seq (.after (.block 3 (R [0,1,2,3,4,9] [v 11 3,o 12 (.bin .shr (t 11) (.const (.int .u64 1))),v 13 3,o 14 (.bin .and (t 13) (.const (.int .u32 1))),o 15 (.un .neg (t 14)),o 16 (.bin .and (.const (.int .u32 2197175160)) (t 15)),o 17 (.bin .xor (t 12) (t 16)),v 3 17])) [0,1,2,3,4,9])
 (R [0,1,2,3,4,9] [o 18 (.bin .add (t 9) (n 1)),v 9 18]))))
def code626L1:ACode :=
 .live [0,1,4] (.seq (R [0,1,4,5] [o 5 (.bin .lss (t 4) (n 256))])
 (.seq (.after (.cond (t 5) (.skip) (.live [0,1] (.exit 0))) [0,1,4])
 (.seq (.after (.block 1 (.seq (R [0,1,2,4] [v 6 4,v 2 6])
 (.seq (R [0,1,2,3,4] [v 7 2,o 8 (.conv (.int .u32) (t 7)),v 3 8])
 (.seq (.seq (R [0,1,2,3,4,9] [o 9 (.val (n 0))])
 (.after (.block 2 (.loop code626L0)) [0,1,2,3,4]))
 (R [0,1,4] [v 19 2,v 20 3,o 21 (.aaddr 256 1 (t 1) (t 19)),u (.store 1 (t 21) (t 20))]))))) [0,1,4])
 (R [0,1,4] [o 22 (.bin .add (t 4) (n 1)),v 4 22]))))
def code626:AFunc:=⟨false,false,0,24,[.cell 0 (some 256)],
 .seq (R [0] [o 0 (.lalloc (List.replicate 256 (.int .u32 0)))])
 (.seq (R [0,1] [o 1 (.lalloc (List.replicate 256 (.int .u32 0)))])
 (.seq (.seq (R [0,1,4] [o 4 (.val (n 0))])
 (.after (.block 0 (.loop code626L1)) [0,1]))
 (.seq (R [0] [o 23 (.load (some 256) (t 1)),u (.store 256 (t 0) (t 23))])
 (.live [0] (.ret))))),none⟩
def code627:AFunc:=⟨false,false,3,21,[.tmp 5],
 .seq (R [0,1,2] [o 5 (.val (n 0))])
 (.seq (.after (.region [⟨true,[],[o 6 (.load none (t 2)),o 7 (.nilcheck (t 6)),o 8 (.faddr (t 7) 5),o 9 (.load none (t 8)),v 10 0,o 11 (.ext (.lookup (.one .s) (.agg [.int .i64 0,.int .i64 0,.str []]) false) [t 9,t 10]),o 12 (.field (t 11) 1 none),o 13 (.load none (t 2)),o 14 (.nilcheck (t 13)),o 15 (.faddr (t 14) 5),o 16 (.load none (t 15)),v 17 1,o 18 (.ext (.lookup (.one .s) (.agg [.int .i64 0,.int .i64 0,.str []]) false) [t 16,t 17]),o 19 (.field (t 18) 1 none)]⟩,⟨false,[],[o 20 (.callg 638 [t 12,t 19]),v 5 20]⟩]) [5])
 (.live [5] (.ret))),none⟩
def code628:AFunc:=⟨false,false,2,14,[],
 .seq (R [0,1,4] [v 5 0,o 6 (.len .sl (t 5)),v 4 6])
 (R [] [v 7 0,v 8 4,v 9 4,o 10 (.conv (.int .u64) (t 9)),o 11 (.callg 166 [t 10]),v 12 1,o 13 (.callg 637 [t 7,n 0,t 8,t 11,t 12])]),none⟩
def code629L0:ACode :=
 .live [0,1,2,4] (.seq (.seq (R [0,1,2,4,9] [v 6 4,o 7 (.load none (t 1)),o 8 (.len .sl (t 7)),o 9 (.bin .lss (t 6) (t 8))])
 (.after (.cond (t 9) (.skip) (.live [] (.exit 0))) [0,1,2,4]))
 (.seq (.after (.block 1 (.seq (.after (.region [⟨true,[],[o 13 (.load none (t 2)),o 14 (.load none (t 1)),v 15 4,o 16 (.slice (.sl 5) (t 14) (some (t 15)) none none),o 17 (.len .sl (t 16))]⟩,⟨false,[],[o 18 (.minmax false [t 13,t 17]),v 5 18]⟩]) [0,1,2,4,5])
 (.seq (R [0,1,2,4,30] [v 19 0,o 20 (.load none (t 1)),v 21 4,v 22 4,v 23 5,o 24 (.bin .add (t 22) (t 23)),v 25 4,v 26 5,o 27 (.bin .add (t 25) (t 26)),o 28 (.slice (.sl 5) (t 20) (some (t 21)) (some (t 24)) (some (t 27))),o 29 (.call (t 19) [t 28]),o 30 (.un .not (t 29))])
 (.after (.cond (t 30) (.live [] (.ret)) (.skip)) [0,1,2,4])))) [0,1,2,4])
 (R [0,1,2,4] [v 10 4,o 11 (.load none (t 2)),o 12 (.bin .add (t 10) (t 11)),v 4 12])))
def code629:AFunc:=⟨false,false,3,31,[],
 .seq (R [0,1,2,4] [o 4 (.val (n 0))])
 (.after (.block 0 (.loop code629L0)) []),none⟩
def code630:AFunc:=⟨false,false,1,15,[.tmp 2],
 .seq (R [0] [o 2 (.val (.const (.slice none 0 (some 0))))])
 (.seq (R [0,3] [o 5 (.callg 604 []),o 3 (.alloc 1 [.int .u8 0,.int .u8 0]),u (.store 2 (t 3) (t 5))])
 (.seq (R [4] [o 6 (.slice (.arr 2 1) (t 3) none none none),v 7 0,o 8 (.conv (.int .u64) (t 7)),o 9 (.callg 385 [t 6,t 8,n 4]),v 4 9])
 (.seq (R [2] [v 10 4,v 11 4,o 12 (.callg 602 [t 11]),o 13 (.conv (.int .u64) (t 12)),o 14 (.callg 385 [t 10,t 13,n 2]),v 2 14])
 (.live [2] (.ret))))),none⟩
def code631L0:ACode :=
 .live [0,1,2,3,4,10] (.seq (R [0,1,2,3,4,10,11] [o 11 (.bin .lss (t 10) (n 8))])
 (.seq (.after (.cond (t 11) (.skip) (.live [0,1,2,3,4] (.exit 2))) [0,1,2,3,4,10])
 (.seq (.after (.block 3 (R [0,1,2,3,4,10] [v 12 3,o 13 (.bin .shl (t 12) (.const (.int .u64 1))),v 14 3,o 15 (.bin .shr (t 14) (.const (.int .u64 15))),o 16 (.un .neg (t 15)),o 17 (.bin .and (.const (.int .u16 4129)) (t 16)),o 18 (.bin .xor (t 13) (t 17)),v 3 18])) [0,1,2,3,4,10])
 (R [0,1,2,3,4,10] [o 19 (.bin .add (t 10) (n 1)),v 10 19]))))
def code631L1:ACode :=
 .live [0,1,4] (.seq (R [0,1,4,5] [o 5 (.bin .lss (t 4) (n 256))])
 (.seq (.after (.cond (t 5) (.skip) (.live [0,1] (.exit 0))) [0,1,4])
 (.seq (.after (.block 1 (.seq (R [0,1,2,4] [v 6 4,v 2 6])
 (.seq (R [0,1,2,3,4] [v 7 2,o 8 (.conv (.int .u16) (t 7)),o 9 (.bin .shl (t 8) (.const (.int .u64 8))),v 3 9])
 (.seq (.seq (R [0,1,2,3,4,10] [o 10 (.val (n 0))])
 (.after (.block 2 (.loop code631L0)) [0,1,2,3,4]))
 (R [0,1,4] [v 20 2,v 21 3,o 22 (.aaddr 256 1 (t 1) (t 20)),u (.store 1 (t 22) (t 21))]))))) [0,1,4])
 (R [0,1,4] [o 23 (.bin .add (t 4) (n 1)),v 4 23]))))
def code631:AFunc:=⟨false,false,0,25,[.cell 0 (some 256)],
 .seq (R [0] [o 0 (.lalloc (List.replicate 256 (.int .u16 0)))])
 (.seq (R [0,1] [o 1 (.lalloc (List.replicate 256 (.int .u16 0)))])
 (.seq (.seq (R [0,1,4] [o 4 (.val (n 0))])
 (.after (.block 0 (.loop code631L1)) [0,1]))
 (.seq (R [0] [o 24 (.load (some 256) (t 1)),u (.store 256 (t 0) (t 24))])
 (.live [0] (.ret))))),none⟩
def code637L0:ACode :=
 .live [0,1,2,3,4,10,11] (.after (.block 1 (.seq (R [0,1,2,3,4,10,11,12] [v 21 2,v 22 1,o 23 (.bin .sub (t 21) (t 22)),v 12 23])
 (.seq (.seq (R [0,1,2,3,4,10,11,12,25] [v 24 12,o 25 (.bin .leq (t 24) (n 12))])
 (.after (.cond (t 25) (.seq (R [] [v 26 0,v 27 1,v 28 2,v 29 4,o 30 (.callg 646 [t 26,t 27,t 28,t 29])])
 (.live [] (.ret))) (.skip)) [0,1,2,3,4,10,11,12]))
 (.seq (.seq (R [0,1,2,3,4,10,11,12,32] [v 31 3,o 32 (.bin .eql (t 31) (n 0))])
 (.after (.cond (t 32) (.seq (R [] [v 33 0,v 34 1,v 35 2,v 36 4,o 37 (.nextStr F)])
 (.live [] (.ret))) (.skip)) [0,1,2,3,4,10,11,12]))
 (.seq (.seq (R [0,1,2,3,4,10,11,12,39] [v 38 10,o 39 (.un .not (t 38))])
 (.after (.cond (t 39) (.seq (R [0,1,2,3,4,10,11,12] [v 40 0,v 41 1,v 42 2,v 43 4,o 44 (.nextStr F)])
 (R [0,1,2,3,4,10,11,12] [v 45 3,o 46 (.bin .sub (t 45) (n 1)),v 3 46])) (.skip)) [0,1,2,3,4,10,11,12]))
 (.seq (R [0,1,2,3,4,10,11,12,13,14] [v 48 0,v 49 1,v 50 2,v 51 4,o 52 (.nextStr F),v 47 52,o 53 (.extract (t 47) 0),o 54 (.extract (t 47) 1),v 13 53,v 14 54])
 (.seq (.seq (R [0,1,2,3,4,10,11,12,13,14,56] [v 55 14,o 56 (.bin .eql (t 55) (n 2))])
 (.after (.cond (t 56) (.seq (R [0,1,2,3,4,10,11,12,13] [v 57 0,v 58 1,v 59 2,v 60 4,o 61 (.nextStr F)])
 (.seq (R [0,1,2,3,4,10,11,12,13] [v 62 2,o 63 (.bin .sub (t 62) (n 1)),v 64 13,v 65 1,o 66 (.bin .sub (t 64) (t 65)),o 67 (.bin .sub (t 63) (t 66)),v 13 67])
 (R [0,1,2,3,4,10,11,12,13,14] [o 14 (.val (n 1))]))) (.skip)) [0,1,2,3,4,10,11,12,13,14]))
 (.seq (.seq (R [0,1,2,3,4,10,11,12,13,75] [v 68 10,v 69 68,g 70 69 true (.val (t 11)),o 71 (.pick (t 69) (t 70) F),v 72 71,g 73 72 true (.val (t 14)),g 74 72 true (.bin .eql (t 73) (n 1)),o 75 (.pick (t 72) (t 74) F)])
 (.after (.cond (t 75) (.seq (R [0,1,2,3,4,10,11,12,13,80] [v 76 0,v 77 1,v 78 2,v 79 4,o 80 (.nextStr F)])
 (.after (.cond (t 80) (.live [] (.ret)) (.skip)) [0,1,2,3,4,10,11,12,13])) (.skip)) [0,1,2,3,4,10,11,12,13]))
 (.seq (.seq (.after (.region [⟨false,[],[v 81 1,o 82 (.bin .gtr (t 81) (n 0)),v 83 82]⟩,⟨true,[],[g 84 83 true (.val (t 4)),g 85 83 true (.val (t 0)),g 86 83 true (.val (t 1)),g 87 83 true (.bin .sub (t 86) (n 1)),g 88 83 true (.iaddr 1 (t 85) (t 87)),g 89 83 true (.load none (t 88)),g 90 83 true (.val (t 0)),g 91 83 true (.val (t 13)),g 92 83 true (.iaddr 1 (t 90) (t 91)),g 93 83 true (.load none (t 92))]⟩,⟨false,[],[g 94 83 true (.call (t 84) [t 89,t 93]),g 95 83 true (.bin .lss (t 94) (n 0)),g 96 83 true (.un .not (t 95)),o 97 (.pick (t 83) (t 96) F)]⟩]) [0,1,2,3,4,10,11,12,13,97])
 (.after (.cond (t 97) (.seq (R [0,2,3,4,10,11,15] [v 98 0,v 99 1,v 100 2,v 101 13,v 102 4,o 103 (.nextStr F),v 15 103])
 (.seq (R [0,1,2,3,4,10,11] [v 104 15,v 1 104])
 (.live [0,1,2,3,4,10,11] (.exit 1)))) (.skip)) [0,1,2,3,4,12,13]))
 (.seq (R [0,1,2,3,4,12,16,17] [v 106 0,v 107 1,v 108 2,v 109 13,v 110 4,o 111 (.nextStr F),v 105 111,o 112 (.extract (t 105) 0),o 113 (.extract (t 105) 1),v 16 112,v 17 113])
 (.seq (R [0,1,2,3,4,11,12,16] [v 114 17,v 11 114])
 (.seq (R [0,1,2,3,4,11,12,16,18,19] [v 115 16,v 116 1,o 117 (.bin .sub (t 115) (t 116)),v 118 2,v 119 16,o 120 (.bin .sub (t 118) (t 119)),v 18 117,v 19 120])
 (.seq (R [0,1,2,3,4,11,16,18,19,20] [v 121 12,o 122 (.bin .quo (t 121) (n 8)),v 20 122])
 (.seq (R [0,1,2,3,4,11,16,18,19,20,125] [v 123 18,v 124 19,o 125 (.bin .lss (t 123) (t 124))])
 (.after (.cond (t 125) (.seq (R [0,1,2,3,4,10,11,16] [v 126 18,v 127 20,o 128 (.bin .geq (t 126) (t 127)),v 10 128])
 (.seq (R [0,2,3,4,10,11,16] [v 129 0,v 130 1,v 131 16,v 132 3,v 133 4,o 134 (.callg 637 [t 129,t 130,t 131,t 132,t 133])])
 (R [0,1,2,3,4,10,11] [v 135 16,o 136 (.bin .add (t 135) (n 1)),v 1 136]))) (.seq (R [0,1,2,3,4,10,11,16] [v 137 19,v 138 20,o 139 (.bin .geq (t 137) (t 138)),v 10 139])
 (.seq (R [0,1,3,4,10,11,16] [v 140 0,v 141 16,o 142 (.bin .add (t 141) (n 1)),v 143 2,v 144 3,v 145 4,o 146 (.callg 637 [t 140,t 142,t 143,t 144,t 145])])
 (R [0,1,2,3,4,10,11] [v 147 16,v 2 147])))) [0,1,2,3,4,10,11]))))))))))))))) [0,1,2,3,4,10,11])
def code637:AFunc:=⟨false,false,5,148,[],
 .seq (R [0,1,2,3,4,10] [o 10 (.val Y)])
 (.seq (R [0,1,2,3,4,10,11] [o 11 (.val Y)])
 (.after (.block 0 (.loop code637L0)) [])),none⟩
def code638:AFunc:=⟨false,false,2,20,[.tmp 4],
 .seq (R [0,1] [o 4 (.val (n 0))])
 (.seq (R [0,1,5] [v 7 0,o 8 (.callg 217 [t 7]),v 5 8])
 (.seq (R [0,1,5,6] [v 9 1,o 10 (.callg 217 [t 9]),v 6 10])
 (.seq (.seq (R [0,1,6,11] [v 11 5])
 (.after (.cond (t 11) (.seq (.seq (R [12] [v 12 6])
 (.after (.cond (t 12) (.seq (R [4] [o 4 (.val (n 0))])
 (.live [4] (.ret))) (.skip)) []))
 (.seq (R [4] [o 4 (.val (.const (.int .i64 (-1))))])
 (.live [4] (.ret)))) (.skip)) [0,1,6]))
 (.seq (.seq (R [0,1,13] [v 13 6])
 (.after (.cond (t 13) (.seq (R [4] [o 4 (.val (n 1))])
 (.live [4] (.ret))) (.skip)) [0,1]))
 (.seq (.seq (R [0,1,16] [v 14 0,v 15 1,o 16 (.bin .lss (t 14) (t 15))])
 (.after (.cond (t 16) (.seq (R [4] [o 4 (.val (.const (.int .i64 (-1))))])
 (.live [4] (.ret))) (.skip)) [0,1]))
 (.seq (.seq (R [19] [v 17 0,v 18 1,o 19 (.bin .gtr (t 17) (t 18))])
 (.after (.cond (t 19) (.seq (R [4] [o 4 (.val (n 1))])
 (.live [4] (.ret))) (.skip)) []))
 (.seq (R [4] [o 4 (.val (n 0))])
 (.live [4] (.ret))))))))),none⟩
def code646L0:ACode :=
 .live [0,1,2,3,8,9] (.seq (.seq (.after (.region [⟨true,[],[v 18 9,v 19 1]⟩,⟨false,[],[o 20 (.bin .gtr (t 18) (t 19)),v 21 20]⟩,⟨true,[],[g 22 21 true (.val (t 3)),g 23 21 true (.val (t 0)),g 24 21 true (.val (t 9)),g 25 21 true (.iaddr 1 (t 23) (t 24)),g 26 21 true (.load none (t 25)),g 27 21 true (.val (t 0)),g 28 21 true (.val (t 9)),g 29 21 true (.bin .sub (t 28) (n 1)),g 30 21 true (.iaddr 1 (t 27) (t 29)),g 31 21 true (.load none (t 30))]⟩,⟨false,[],[g 32 21 true (.call (t 22) [t 26,t 31]),g 33 21 true (.bin .lss (t 32) (n 0)),o 34 (.pick (t 21) (t 33) F)]⟩]) [0,1,2,3,8,9,34])
 (.after (.cond (t 34) (.skip) (.live [0,1,2,3,8] (.exit 2))) [0,1,2,3,8,9]))
 (.seq (.after (.block 3 (.after (.region [⟨true,[0,0,0,0,8,0,0,64,224,480,0,0,3072,7168,16355,32739],[v 37 0,v 38 9,v 39 0,v 40 9,o 41 (.bin .sub (t 40) (n 1)),v 42 0,v 43 9,o 44 (.bin .sub (t 43) (n 1)),o 45 (.iaddr 1 (t 42) (t 44)),o 46 (.load none (t 45)),v 47 0,v 48 9,o 49 (.iaddr 1 (t 47) (t 48)),o 50 (.load none (t 49)),o 51 (.iaddr 1 (t 37) (t 38)),u (.ext (.hstore 1) [t 51,t 46])]⟩,⟨false,[],[o 52 (.iaddr 1 (t 39) (t 41)),u (.store 1 (t 52) (t 50))]⟩]) [0,1,2,3,8,9])) [0,1,2,3,8,9])
 (R [0,1,2,3,8,9] [v 35 9,o 36 (.bin .sub (t 35) (n 1)),v 9 36])))
def code646L1:ACode :=
 .live [0,1,2,3,8] (.seq (.seq (R [0,1,2,3,8,14] [v 12 8,v 13 2,o 14 (.bin .lss (t 12) (t 13))])
 (.after (.cond (t 14) (.skip) (.live [] (.exit 0))) [0,1,2,3,8]))
 (.seq (.after (.block 1 (.seq (R [0,1,2,3,8,9] [v 17 8,v 9 17])
 (.after (.block 2 (.loop code646L0)) [0,1,2,3,8]))) [0,1,2,3,8])
 (R [0,1,2,3,8] [v 15 8,o 16 (.bin .add (t 15) (n 1)),v 8 16])))
def code646:AFunc:=⟨false,false,4,53,[],
 .seq (R [0,1,2,3,8] [v 10 1,o 11 (.bin .add (t 10) (n 1)),v 8 11])
 (.after (.block 0 (.loop code646L1)) []),none⟩
def code100102:AFunc:=⟨false,false,2,41,[.tmp 4],
 .seq (R [0,1] [o 4 (.val (n 0))])
 (.seq (.seq (.after (.region [⟨false,[],[v 5 1,o 6 (.bin .lss (t 5) (n 2)),v 7 6]⟩,⟨true,[],[g 8 7 false (.val (t 0)),g 9 7 false (.nilcheck (t 8)),g 10 7 false (.faddr (t 9) 1),g 11 7 false (.load none (t 10)),g 12 7 false (.val (t 0)),g 13 7 false (.nilcheck (t 12)),g 14 7 false (.faddr (t 13) 0),g 15 7 false (.load none (t 14)),g 16 7 false (.len .sl (t 15))]⟩,⟨false,[],[g 17 7 false (.bin .geq (t 11) (t 16)),o 18 (.pick (t 7) Y (t 17))]⟩]) [0,1,18])
 (.after (.cond (t 18) (.seq (R [4] [o 4 (.val (n 0))])
 (.live [4] (.ret))) (.skip)) [0,1]))
 (.seq (R [0,1] [v 19 0,v 20 0,o 21 (.nilcheck (t 20)),o 22 (.faddr (t 21) 1),o 23 (.load none (t 22)),o 24 (.bin .add (t 23) (n 1)),o 25 (.nilcheck (t 19)),o 26 (.faddr (t 25) 1),u (.store 1 (t 26) (t 24))])
 (.seq (.after (.region [⟨true,[],[v 27 0,o 28 (.nilcheck (t 27)),o 29 (.faddr (t 28) 0),o 30 (.load none (t 29)),v 31 0,o 32 (.nilcheck (t 31)),o 33 (.faddr (t 32) 1),o 34 (.load none (t 33)),o 35 (.bin .sub (t 34) (n 1)),o 36 (.iaddr 1 (t 30) (t 35)),o 37 (.load none (t 36)),o 38 (.conv (.int .i64) (t 37)),v 39 1]⟩,⟨false,[],[o 40 (.bin .rem (t 38) (t 39)),v 4 40]⟩]) [4])
 (.live [4] (.ret))))),none⟩
def code100465:AFunc:=⟨false,false,1,8,[.tmp 2],
 .seq (R [0] [o 2 (.val (.const (.slice none 0 (some 0))))])
 (.seq (.seq (R [0,4] [v 3 0,o 4 (.eqnil .slice false (t 3) (.const (.slice none 0 (some 0))))])
 (.after (.cond (t 4) (.seq (R [2] [o 2 (.val (.const (.slice none 0 (some 0))))])
 (.live [2] (.ret))) (.skip)) [0]))
 (.seq (R [2] [o 5 (.mkslice 1 0 [] []),v 6 0,o 7 (.append 1 1 (t 5) (t 6)),v 2 7])
 (.live [2] (.ret)))),none⟩
def code100594:AFunc:=⟨false,false,2,54,[.tmp 4],
 .seq (R [0,1] [o 4 (.val (n 0))])
 (.seq (.seq (R [0,1,5] [v 7 0,o 8 (.nilcheck (t 7)),o 9 (.faddr (t 8) 0),o 10 (.load none (t 9)),v 11 1,o 12 (.callg 612 [t 10,t 11]),v 5 12])
 (.seq (R [0,1,5,14] [v 13 5,o 14 (.bin .neq (t 13) (n 0))])
 (.after (.cond (t 14) (.seq (R [4] [v 15 5,v 4 15])
 (.live [4] (.ret))) (.skip)) [0,1])))
 (.seq (.after (.region [⟨true,[],[v 16 0,o 17 (.nilcheck (t 16)),o 18 (.faddr (t 17) 4),o 19 (.load none (t 18)),v 20 1,v 21 0,o 22 (.nilcheck (t 21)),o 23 (.faddr (t 22) 0),o 24 (.load none (t 23)),v 25 1,o 26 (.callg 587 [t 24,t 25]),o 27 (.build [.int .i64 0,.int .u32 0,.int .i64 0] [(0,1,n 1),(2,1,t 26)])]⟩,⟨false,[],[o 28 (.iaddr 3 (t 19) (t 20)),u (.store 3 (t 28) (t 27))]⟩]) [0,1])
 (.seq (.seq (R [0,1,6] [v 29 0,o 30 (.nilcheck (t 29)),o 31 (.faddr (t 30) 0),o 32 (.load none (t 31)),v 33 1,o 34 (.callg 611 [t 32,t 33]),v 6 34])
 (.seq (R [0,1,6,35] [v 35 6])
 (.after (.block 0 (.seq (R [0,1,6,35,37] [o 38 (.bin .eql (t 35) (n 0)),v 37 38])
 (.after (.cond (t 37) (.after (.region [⟨true,[],[v 39 0,o 40 (.nilcheck (t 39)),o 41 (.faddr (t 40) 4),o 42 (.load none (t 41)),v 43 1,v 44 0,o 45 (.nilcheck (t 44)),o 46 (.faddr (t 45) 0),o 47 (.load none (t 46)),v 48 1,o 49 (.callg 587 [t 47,t 48]),o 50 (.build [.int .i64 0,.int .u32 0,.int .i64 0] [(0,1,n 0),(2,1,t 49)])]⟩,⟨false,[],[o 51 (.iaddr 3 (t 42) (t 43)),u (.store 3 (t 51) (t 50))]⟩]) []) (.seq (R [6,52] [o 53 (.bin .eql (t 35) (n 4)),v 52 53])
 (.after (.cond (t 52) (.skip) (.seq (R [4] [v 36 6,v 4 36])
 (.live [4] (.ret)))) []))) []))) [])))
 (.seq (R [4] [o 4 (.val (n 0))])
 (.live [4] (.ret)))))),none⟩
def T:Nat→Option AFunc:=fun g=>List.lookup g [(0,code0),(5,code5),(7,code7),(13,code13),(14,code14),(15,code15),(17,code17),(18,code18),(19,code19),(22,code22),(145,code145),(166,code166),(176,code176),(200,code200),(217,code217),(385,code385),(411,code411),(454,code454),(466,code466),(467,code467),(482,code482),(500,code500),(558,code558),(560,code560),(561,code561),(563,code563),(564,code564),(566,code566),(568,code568),(571,code571),(572,code572),(573,code573),(577,code577),(578,code578),(579,code579),(581,code581),(582,code582),(583,code583),(584,code584),(585,code585),(586,code586),(587,code587),(588,code588),(589,code589),(590,code590),(591,code591),(592,code592),(596,code596),(597,code597),(598,code598),(600,code600),(601,code601),(602,code602),(603,code603),(604,code604),(606,code606),(611,code611),(612,code612),(613,code613),(614,code614),(616,code616),(618,code618),(619,code619),(620,code620),(626,code626),(627,code627),(628,code628),(629,code629),(630,code630),(631,code631),(637,code637),(638,code638),(646,code646),(100102,code100102),(100465,code100465),(100594,code100594)]
theorem t0:T 0=some code0:=rfl
theorem t5:T 5=some code5:=rfl
theorem t7:T 7=some code7:=rfl
theorem t13:T 13=some code13:=rfl
theorem t14:T 14=some code14:=rfl
theorem t15:T 15=some code15:=rfl
theorem t17:T 17=some code17:=rfl
theorem t18:T 18=some code18:=rfl
theorem t19:T 19=some code19:=rfl
theorem t22:T 22=some code22:=rfl
theorem t145:T 145=some code145:=rfl
theorem t166:T 166=some code166:=rfl
theorem t176:T 176=some code176:=rfl
theorem t200:T 200=some code200:=rfl
theorem t217:T 217=some code217:=rfl
theorem t385:T 385=some code385:=rfl
theorem t411:T 411=some code411:=rfl
theorem t454:T 454=some code454:=rfl
theorem t466:T 466=some code466:=rfl
theorem t467:T 467=some code467:=rfl
theorem t482:T 482=some code482:=rfl
theorem t500:T 500=some code500:=rfl
theorem t558:T 558=some code558:=rfl
theorem t560:T 560=some code560:=rfl
theorem t561:T 561=some code561:=rfl
theorem t563:T 563=some code563:=rfl
theorem t564:T 564=some code564:=rfl
theorem t566:T 566=some code566:=rfl
theorem t568:T 568=some code568:=rfl
theorem t571:T 571=some code571:=rfl
theorem t572:T 572=some code572:=rfl
theorem t573:T 573=some code573:=rfl
theorem t577:T 577=some code577:=rfl
theorem t578:T 578=some code578:=rfl
theorem t579:T 579=some code579:=rfl
theorem t581:T 581=some code581:=rfl
theorem t582:T 582=some code582:=rfl
theorem t583:T 583=some code583:=rfl
theorem t584:T 584=some code584:=rfl
theorem t585:T 585=some code585:=rfl
theorem t586:T 586=some code586:=rfl
theorem t587:T 587=some code587:=rfl
theorem t588:T 588=some code588:=rfl
theorem t589:T 589=some code589:=rfl
theorem t590:T 590=some code590:=rfl
theorem t591:T 591=some code591:=rfl
theorem t592:T 592=some code592:=rfl
theorem t596:T 596=some code596:=rfl
theorem t597:T 597=some code597:=rfl
theorem t598:T 598=some code598:=rfl
theorem t600:T 600=some code600:=rfl
theorem t601:T 601=some code601:=rfl
theorem t602:T 602=some code602:=rfl
theorem t603:T 603=some code603:=rfl
theorem t604:T 604=some code604:=rfl
theorem t606:T 606=some code606:=rfl
theorem t611:T 611=some code611:=rfl
theorem t612:T 612=some code612:=rfl
theorem t613:T 613=some code613:=rfl
theorem t614:T 614=some code614:=rfl
theorem t616:T 616=some code616:=rfl
theorem t618:T 618=some code618:=rfl
theorem t619:T 619=some code619:=rfl
theorem t620:T 620=some code620:=rfl
theorem t626:T 626=some code626:=rfl
theorem t627:T 627=some code627:=rfl
theorem t628:T 628=some code628:=rfl
theorem t629:T 629=some code629:=rfl
theorem t630:T 630=some code630:=rfl
theorem t631:T 631=some code631:=rfl
theorem t637:T 637=some code637:=rfl
theorem t638:T 638=some code638:=rfl
theorem t646:T 646=some code646:=rfl
theorem t100102:T 100102=some code100102:=rfl
theorem t100465:T 100465=some code100465:=rfl
theorem t100594:T 100594=some code100594:=rfl
end Go.Abs.AbsBlb

namespace Go.Abs.AbsBlb
open Go.Abs.Short
abbrev Bs:=List UInt8
def u8V (x:UInt8):AVal:=.int .u8 x.toNat
def natV (x:Nat):AVal:=.int .i64 x
theorem ij {A:List AObj} {i:Nat} {x y:AObj} (h:A[i]? = some x):(A.set i y)[i]? = some y:=db (ah h)
theorem ip {α:Type} {L:List α} {i:Nat} {x:α} (h:L[i]? = some x):L.drop i=x :: L.drop (i+1):=by
 have hl:=ah h
 rw [aj hl] at h
 rw [List.drop_eq_getElem_cons hl,bz h]
theorem ju:∀ L:Bs,AVal.idsL (L.map u8V)=[]
 | []=>rfl
 | a :: L=>by simp only [bc,AVal.idsL,u8V,AVal.ids,eh,ju L]
theorem renL_u8 (f:Nat→Nat):∀ L:Bs,AVal.renL f (L.map u8V)=L.map u8V
 | []=>rfl
 | a :: L=>by simp only [bc,AVal.renL,u8V,AVal.ren,renL_u8 f L]
theorem idsC' (e:Nat) (cs:List AVal):(AObj.cells e cs).ids=AVal.idsL cs:=rfl
theorem jw {O P:List AObj} {b w e q n:Nat} {cs:List AVal} {c:Option Nat} {W:Nat} (hq:P[q]? = some (.cells e cs)) (hI:AVal.idsL cs=[]) (hR:∀ g,AVal.renL g cs=cs) (h1:O.length≤q) (hW:O.length≤W) :
  finish ⟨O,b,w⟩ (.slice (some (q,0)) n c) ⟨P,b,W⟩=(.slice (some (O.length,0)) n c,⟨O++[.cells e cs],b,w⟩):=by
 have hv:AVal.under (⟨O,b,w⟩:Heap).size (.slice (some (q,0)) n c)=false:=by
  have:¬ q < O.length:=by omega
  simp [AVal.under,Heap.size,this]
 have hg:(⟨P,b,W⟩:Heap).get q=some (.cells e cs):=hq
 have hreach:reach ⟨P,b,W⟩ (⟨O,b,w⟩:Heap).size 1000 (AVal.slice (some (q,0)) n c).ids []=[q]:=by
  simp only [AVal.ids]
  rw [reach,if_neg (by show ¬ q < O.length; omega),if_neg (by simp),hg]
  simp only [bq,df,AObj.ids,hI,eh]
  rfl
 refine (finish_keep (show (⟨O,b,w⟩:Heap).size≤(⟨P,b,W⟩:Heap).wmin from hW) hv hreach fun j hj=>?_).trans ?_
 ·simp only [AVal.ids,d0,List.flatMap_nil,hg,bq,df,AObj.ids,hI,fg,c9,List.not_mem_nil,or_false] at hj
  subst hj
  exact .inr (ct _)
 ·have key:∀ g:Nat→Nat,g q=O.length→((AVal.slice (some (q,0)) n c).ren g,(⟨O++[AObj.cells e cs],b,w⟩:Heap))=(.slice (some (O.length,0)) n c,⟨O++[.cells e cs],b,w⟩):=fun g hg'=>by
   simp only [AVal.ren,hg']
  simp only [Heap.size,bc,List.map_nil,hg,bq,df,AObj.ren,hR]
  exact key _ ((if_neg (show ¬ q < O.length by omega)).trans (by simp [idxIn]))
structure Fl where
 n:Nat
 z:Nat
 lim:Nat
 b:Bs
 w:List Nat
def Fl.cells (F:Fl) (fb fw:Nat) (cb cw:Option Nat):List AVal:=[.int .i64 F.n,.int .i64 F.z,.int .i64 F.lim,.slice (some (fb,0)) F.b.length cb,.slice (some (fw,0)) F.w.length cw,.bool false,.int .i64 (-1),.int .i64 0,.int .u8 0]
structure FI where
 fl:Nat
 fb:Nat
 fw:Nat
 cb:Option Nat
 cw:Option Nat
structure FlA (H:List AObj) (I:FI) (F:Fl):Prop where
 f:H[I.fl]? = some (.cells 9 (F.cells I.fb I.fw I.cb I.cw))
 b:H[I.fb]? = some (.cells 1 (F.b.map u8V))
 w:H[I.fw]? = some (.cells 1 (F.w.map natV))
 bl:F.b.length=F.n*F.z
 wl:F.w.length=F.n
 nb:F.n≤64∧F.z≤65536
 lb:F.lim≤1048576
 wb:∀ x ∈ F.w,x≤1048576
 ne:I.fb≠I.fw
 cbo:∀ c,I.cb=some c→c=F.b.length
 cwo:∀ c,I.cw=some c→c=F.w.length
section
variable {H:List AObj} {b w:Nat} {I:FI} {F:Fl}
theorem FlA.nes (h:FlA H I F):I.fl≠I.fb∧I.fl≠I.fw:=by
 refine ⟨fun e=>?_,fun e=>?_⟩
 ·have:=h.f; rw [e,h.b] at this; cases this
 ·have:=h.f; rw [e,h.w] at this; cases this
theorem FlA.total (h:FlA H I F):F.b.length≤4194304:=by
 rw [h.bl]
 obtain ⟨h1,h2⟩:=h.nb
 calc F.n*F.z≤64*65536:=Nat.mul_le_mul h1 h2
  _=4194304:=rfl
theorem FlA.keep {H':List AObj} (h:FlA H I F) (hk:∀ (i:Nat) (o:AObj),H[i]? = some o→(i=I.fl∨i=I.fb∨i=I.fw)→H'[i]? = some o):FlA H' I F :=
 ⟨hk _ _ h.f (.inl rfl),hk _ _ h.b (.inr (.inl rfl)),hk _ _ h.w (.inr (.inr rfl)),h.bl,h.wl,h.nb,h.lb,h.wb,h.ne,h.cbo,h.cwo⟩
section
attribute [-simp] getElem?_pos getElem?_neg List.all_eq_true
attribute [local simp] qZ qS nltT nltF iltT iltF ileT nleT dj
theorem s568 {x lo hi:Int}:xCall T 568 [.int .i64 x,.int .i64 lo,.int .i64 hi] ⟨H,b,w⟩=some (.bool (decide (lo≤x) && decide (x≤hi)),⟨H,b,w⟩):=by
 by_cases h1:lo≤x
 ·by_cases h2:x≤hi
  ·simp (disch:=omega) [ba t568,code568,h1,h2]
  ·simp (disch:=omega) [ba t568,code568,h1,h2]
 ·simp (disch:=omega) [ba t568,code568,h1]
theorem s573 (h:FlA H I F):xCall T 573 [.ptr (some (I.fl,0))] ⟨H,b,w⟩=some (.agg [.int .i64 F.n,.int .i64 F.z,.int .i64 F.lim],⟨H,b,w⟩):=by
 have hf:=h.f
 unfold Fl.cells at hf
 simp (disch:=omega) [ba t573,code573,hf]
theorem s587 (h:FlA H I F) {i x:Nat} (hx:F.w[i]? = some x):xCall T 587 [.ptr (some (I.fl,0)),.int .i64 i] ⟨H,b,w⟩=some (.int .i64 x,⟨H,b,w⟩):=by
 have hf:=h.f
 unfold Fl.cells at hf
 have hw:=h.w
 have hil:=ah hx
 have hwl:=h.wl
 have hn:=h.nb.1
 have h568:=fun (x lo hi:Int) w=>s568 (H:=H) (b:=b) (w:=w) (x:=x) (lo:=lo) (hi:=hi)
 have hg:(F.w.map natV)[i]? = some (.int .i64 x):=by rw [bk,hx]; rfl
 have hl:(F.w.map natV).length=F.n:=by rw [bj]; exact hwl
 have q1:((0:Int)≤i):=by omega
 have q2:((i:Int)≤(F.n:Int) - 1):=by omega
 generalize F.w.map natV=Y at hw hg hl
 simp (disch:=omega) [ba t587,code587,hf,hw,hg,hl,hwl,h568,q1,q2]
end
def spanA (fb a n:Nat):AVal:=.slice (some (fb,if n=0 then 0 else a)) n (some n)
section
attribute [-simp] getElem?_pos getElem?_neg List.all_eq_true
attribute [local simp] qZ qS nltT nltF iltT iltF ileT nleT dj
theorem s583 (h:FlA H I F) {a n:Nat} (ha:a≤1000000000) (hn:n≤1000000000):xCall T 583 [.ptr (some (I.fl,0)),.int .i64 a,.int .i64 n] ⟨H,b,w⟩ =
  some (if a+n≤F.b.length then .tuple [spanA I.fb a n,.int .i64 0] else .tuple [.slice none 0 (some 0),.int .i64 2],⟨H,b,w⟩):=by
 have hf:=h.f
 unfold Fl.cells at hf
 have hb:=h.b
 have ht:=h.total
 have hes:∀ w,eszIs ⟨H,b,w⟩ I.fb 1=true:=fun w=>by
  unfold eszIs Heap.get
  simp only [hb]; rfl
 by_cases c:a+n≤F.b.length
 ·have c1:¬ ((F.b.length:Int) < a):=by omega
  have c2:¬ ((F.b.length:Int) - a < n):=by omega
  rw [if_pos c]
  have hgd:I.cb.getD F.b.length=F.b.length:=by
   cases hc:I.cb with
   | none=>rfl
   | some x=>rw [df]; exact h.cbo x hc
  have q1:(a:Int)+n≤F.b.length:=by omega
  have q2:((a:Int)+n).toNat=a+n:=by omega
  have q3:a+n - a=n:=by omega
  have q4:(a+n=a)=(n=0):=by simp
  have hbl:=ah hb
  simp (disch:=omega) [ba t583,code583,hf,c1,c2,spanA,hb,hgd,q1,q2,q3,q4]
 ·rw [if_neg c]
  by_cases c1:(F.b.length:Int) < a
  ·simp (disch:=omega) [ba t583,code583,hf,c1]
  ·have c2:(F.b.length:Int) - a < n:=by omega
   simp (disch:=omega) [ba t583,code583,hf,c1,c2]
theorem s100465 {p o n:Nat} {c:Option Nat} {X:List AVal} {L:Bs} (hp:H[p]? = some (.cells 1 X)) (hX:(X.drop o).take n=L.map u8V) (hl:L.length=n) (hn:0 < n) (hb:n≤1000000000) :
  xCall T 100465 [.slice (some (p,o)) n c] ⟨H,b,w⟩=some (.slice (some (H.length,0)) n none,⟨H++[.cells 1 (L.map u8V)],b,w⟩):=by
 have hpl:=ah hp
 have hol:o+n≤X.length:=by
  have:=congrArg List.length hX
  rw [dg,fh,bj] at this
  omega
 have hrow:∀ Y w,rowOf 1 ⟨H++Y,b,w⟩ (.slice (some (p,o)) n c)=some (L.map u8V):=fun Y w=>by
  unfold rowOf
  simp only [Heap.get]
  rw [ag hpl,hp]
  have q0:¬ n=0:=by omega
  have q1:(1=1∧o+n*1≤X.length):=⟨rfl,by omega⟩
  simp only [q0,if_false,Nat.mul_one]
  rw [if_pos (by simpa using hol),hX]
 have hz:∀ Y w,rowOf 1 ⟨H++Y,b,w⟩ (.slice (some (H.length,0)) 0 (some 0))=some []:=fun Y w=>rowOf0
 have e1:∀ w,aAppend 1 1 ⟨H++[.cells 1 []],b,w⟩ (.slice (some (H.length,0)) 0 (some 0)) (.slice (some (p,o)) n c)=some (.slice (some (H.length+1,0)) n none,⟨H++[.cells 1 [],.cells 1 (L.map u8V)],b,w⟩):=fun w=>by
  unfold aAppend
  simp only [hz,hrow,aApp,alen]
  have q0:¬ n=0:=by omega
  have q2:(0+n)*1≤140737488355328∧0+n≤9223372036854775807:=⟨by omega,by omega⟩
  simp only [eq_false q0,eq_true q2,if_false,if_true]
  simp [Heap.push,Heap.size]
 have hf:=fun w0=>jw (O:=H) (P:=H++[.cells 1 [],.cells 1 (L.map u8V)]) (b:=b) (w:=w0) (W:=H.length) (q:=H.length+1) (n:=n) (c:=none) (iw H _ 1) (ju L) (fun g=>renL_u8 g L) (by omega) (ai _)
 simp (disch:=omega) [ba t100465,code100465,-aAppend,-finish,e1,hf]
theorem s588 (h:FlA H I F) {a n:Nat} (ha:a≤1000000000) (hn:0 < n) (hn2:n≤1000000000) (hin:a+n≤F.b.length):xCall T 588 [.ptr (some (I.fl,0)),.int .i64 a,.int .i64 n] ⟨H,b,w⟩ =
  some (.tuple [.slice (some (H.length,0)) n none,.int .i64 0],⟨H++[.cells 1 (((F.b.drop a).take n).map u8V)],b,w⟩):=by
 have h583:=fun w=>s583 (b:=b) (w:=w) h ha hn2
 rw [if_pos hin] at h583
 have hn0:¬ n=0:=by omega
 unfold spanA at h583
 rw [if_neg hn0] at h583
 have h100465:=fun w=>s100465 (b:=b) (w:=w) (n:=n) (c:=some n) (L:=(F.b.drop a).take n) h.b (by rw [← List.map_drop,← List.map_take]) (by rw [dg,fh]; omega) hn hn2
 have hf:=fun w0=>jw (O:=H) (P:=H++[.cells 1 (((F.b.drop a).take n).map u8V)]) (b:=b) (w:=w0) (W:=H.length) (q:=H.length) (n:=n) (c:=none) (fp H _) (ju _) (fun g=>renL_u8 g _) (ai _) (ai _)
 have hids:AVal.idsL (((F.b.drop a).take n).map u8V)=[]:=ju _
 have hren:∀ g,AVal.renL g (((F.b.drop a).take n).map u8V)=((F.b.drop a).take n).map u8V:=fun g=>renL_u8 g _
 generalize ((F.b.drop a).take n).map u8V=Y at h100465 hids hren ⊢
 simp (disch:=omega) [ba t588,code588,h583,h100465,jk,jl,hids,hren,idsC']
theorem s582 (h:FlA H I F) {n:Nat}:xCall T 582 [.ptr (some (I.fl,0)),.int .i64 n] ⟨H,b,w⟩=some (.tuple [.int .i64 n,.bool false],⟨H,b,w⟩):=by
 have hf:=h.f
 unfold Fl.cells at hf
 simp (disch:=omega) [ba t582,code582,hf]
end
theorem ofInt_u8 (x:UInt8):BitVec.ofInt 8 (x.toNat:Int)=x.toBitVec:=by
 apply BitVec.eq_of_toNat_eq
 rw [BitVec.toNat_ofInt]
 have:=x.toBitVec.isLt
 show ((x.toNat:Int) % (2 ^ 8:Nat)).toNat=x.toNat
 have h2:x.toNat < 256:=x.toNat_lt
 omega
theorem wrap_u8 (x:UInt8):IntKind.u8.wrap (x.toNat:Int)=x.toNat:=by
 have h2:x.toNat < 256:=x.toNat_lt
 unfold IntKind.wrap
 show (if (false && _)=true then _ else ((x.toNat:Int) % 2 ^ 8))=_
 simp
 omega
theorem andNot_u8 (x y:UInt8):aBits .andNot .u8 x.toNat y.toNat=some (.int .u8 (x &&& ~~~y).toNat):=by
 unfold aBits
 simp only
 have:(BitVec.ofInt (IntKind.u8).bits (x.toNat:Int) &&& ~~~(BitVec.ofInt (IntKind.u8).bits (y.toNat:Int))).toNat=(x &&& ~~~y).toNat:=by
  show (BitVec.ofInt 8 (x.toNat:Int) &&& ~~~(BitVec.ofInt 8 (y.toNat:Int))).toNat=_
  rw [ofInt_u8,ofInt_u8]; rfl
 rw [this,wrap_u8]
theorem u8_zero (x:UInt8):((x.toNat:Int)=0)=(x=0):=by
 apply propext
 constructor
 ·intro h
  have h1:x.toNat=0:=by omega
  exact UInt8.toNat_inj.1 h1
 ·rintro rfl; rfl
def bitsOk (l own:Bs):Bool:=(l.zip own).all fun p=>decide (p.1 &&& ~~~p.2=0)
section
attribute [-simp] getElem?_pos getElem?_neg List.all_eq_true
attribute [local simp] qZ qS nltT nltF iltT iltF ileT nleT dj
theorem l558 (h:FlA H I F) {p o n a:Nat} {c:Option Nat} {X:List AVal} {l:Bs} (hp:H[p]? = some (.cells 1 X)) (hX:(X.drop o).take n=l.map u8V) (hl:l.length=n) (hn:0 < n) (hb:n≤1000000000) (hin:a+n≤F.b.length):∀ (j i w:Nat),i+j=n→∀ {β:Type} (k:AExit→St→Option β),
  xK T (.loop code558L0) ⟨[(0,.val (.ptr (some (I.fl,0)))),(2,.val (.slice (some (p,o)) n c)),(7,.val (spanA I.fb a n)),(24,.val (.slice (some (p,o)) n c)),(25,.val (.int .i64 n)),(26,.val (.int .i64 i))],⟨H,b,w⟩⟩ (k:=⟨k⟩) =
   if bitsOk (l.drop i) ((F.b.drop a).drop i) then k (.exit 0) ⟨[(0,.val (.ptr (some (I.fl,0)))),(2,.val (.slice (some (p,o)) n c)),(7,.val (spanA I.fb a n))],⟨H,b,w⟩⟩ else k .ret ⟨[(6,.val (.int .i64 3))],⟨H,b,w⟩⟩
 | 0,i,w,hi,β,k=>by
  have hd:l.drop i=[]:=dx (by omega)
  rw [hd,b9]
  simp only [bitsOk,List.zip_nil_left,List.all_nil,if_true]
  simp (disch:=omega) [code558L0]
 | j+1,i,w,hi,β,k=>by
  have hfb:=h.b
  obtain ⟨x,hx⟩:∃ x,l[i]? = some x:=⟨_,aj (by omega)⟩
  obtain ⟨y,hy⟩:∃ y,F.b[a+i]? = some y:=⟨_,aj (by omega)⟩
  have g1:X[o+i]? = some (.int .u8 x.toNat):=by
   have h1:((X.drop o).take n)[i]? = some (u8V x):=by rw [hX,bk,hx]; rfl
   rw [dp,if_pos (by omega),cq] at h1
   exact h1
  have g2:(F.b.map u8V)[a+i]? = some (.int .u8 y.toNat):=by rw [bk,hy]; rfl
  have hxl:=ah g1
  have hyl:=ah g2
  have e2:((i+1:Nat):Int)=(i:Int)+1:=by omega
  have ih:=l558 (c:=c) h hp hX hl hn hb hin j (i+1) w (by omega) k
  rw [e2] at ih
  have hy2:(F.b.drop a)[i]? = some y:=by rw [cq]; exact hy
  have hbo:bitsOk (l.drop i) ((F.b.drop a).drop i)=(decide (x &&& ~~~y=0) && bitsOk (l.drop (i+1)) ((F.b.drop a).drop (i+1))):=by
   rw [ip hx,ip hy2]; rfl
  rw [hbo,b9]
  have hn0:¬ n=0:=by omega
  unfold spanA at ih ⊢
  rw [if_neg hn0] at ih ⊢
  generalize ACode.loop code558L0=LL at ih ⊢
  generalize F.b.map u8V=Y at *
  have hz:=u8_zero (x &&& ~~~y)
  by_cases hc:x &&& ~~~y=0
  ·rw [hc] at hz
   have hq:aBits .andNot .u8 x.toNat y.toNat=some (.int .u8 0):=by rw [andNot_u8,hc]; rfl
   simp only [hc,decide_true,Bool.true_and]
   rw [← ih]
   simp (disch:=omega) [code558L0,hfb,hp,g1,g2,hxl,hyl,hq]
  ·have hq:¬ (((x &&& ~~~y).toNat:Int)=0):=by rw [hz]; exact hc
   have hq2:=andNot_u8 x y
   generalize ((x &&& ~~~y).toNat:Int)=zz at hq hq2
   simp only [hc,decide_false,Bool.false_and]
   simp (disch:=omega) [code558L0,hfb,hp,g1,g2,hxl,hyl,hq2,hq]
end
end
end Go.Abs.AbsBlb

namespace Go.Abs.AbsBlb
open Go.Abs.Short
def spliceB (b:Bs) (a:Nat) (l:Bs):Bs:=b.take a++l++b.drop (a+l.length)
theorem map_spliceB (b:Bs) (a:Nat) (l:Bs):(spliceB b a l).map u8V=(b.map u8V).take a++l.map u8V++(b.map u8V).drop (a+l.length):=by
 unfold spliceB
 rw [List.map_append,List.map_append,List.map_take,List.map_drop]
section
variable {H:List AObj} {b w:Nat} {I:FI} {F:Fl}
section
attribute [-simp] getElem?_pos getElem?_neg List.all_eq_true
attribute [local simp] qZ qS nltT nltF iltT iltF ileT nleT dj
theorem s558 (h:FlA H I F) {p o n a:Nat} {c:Option Nat} {X:List AVal} {l:Bs} (hp:H[p]? = some (.cells 1 X)) (hX:(X.drop o).take n=l.map u8V) (hl:l.length=n) (hn:0 < n) (hb:n≤1000000000) (ha:a≤1000000000) (hbw:b≤I.fb) (hc:n≤c.getD n) :
  xCall T 558 [.ptr (some (I.fl,0)),.int .i64 a,.slice (some (p,o)) n c] ⟨H,b,w⟩ =
   some (if a+n≤F.b.length then if bitsOk l (F.b.drop a) then (.int .i64 0,⟨H.set I.fb (.cells 1 ((spliceB F.b a l).map u8V)),b,min w I.fb⟩) else (.int .i64 3,⟨H,b,w⟩) else (.int .i64 2,⟨H,b,w⟩)):=by
 have h583:=fun w=>s583 (b:=b) (w:=w) h ha hb
 by_cases hin:a+n≤F.b.length
 ·rw [if_pos hin] at h583 ⊢
  have hlp:=fun {β:Type} w (k:AExit→St→Option β)=>l558 (b:=b) (c:=c) h hp hX hl hn hb hin n 0 w (by omega) k
  simp only [a9,dz] at hlp
  have h582:=fun w=>s582 (b:=b) (w:=w) (n:=n) h
  by_cases hok:bitsOk l (F.b.drop a)=true
  ·simp only [eq_true hok,if_true] at hlp ⊢
   have hfb:=h.b
   have hpl:=ah hp
   have hfl:=ah hfb
   have hnn:¬ n=0:=by omega
   have hrk:rowK 1 ⟨H,b,H.length⟩ n (.slice (some (p,o)) n c)=some (l.map u8V):=by
    unfold rowK rowOf
    simp only [Heap.get,hp,hnn,if_false,Nat.mul_one,ai,if_true]
    have:o+n≤X.length:=by
     have:=congrArg List.length hX
     rw [dg,fh,bj] at this
     omega
    simp [this,hX]
   unfold spanA at hlp h583
   rw [if_neg hnn] at hlp h583
   simp (disch:=omega) [ba t558,code558,h583,hlp,h582,hp,hc,hrk,hfb,hnn,hl,map_spliceB,splice]
  ·simp only [eq_false hok,if_false] at hlp ⊢
   simp (disch:=omega) [ba t558,code558,h583,hlp]
 ·rw [if_neg hin] at h583 ⊢
  simp (disch:=omega) [ba t558,code558,h583]
end
theorem splice_step {B:Bs} {a i n:Nat} (hi:i < n) (h:a+n≤B.length):(spliceB B a (List.replicate i 255)).set (a+i) 255=spliceB B a (List.replicate (i+1) 255):=by
 unfold spliceB
 have h1:(B.take a++List.replicate i (255:UInt8)).length=a+i:=by rw [ap,dg,bg]; omega
 rw [List.set_append_right _ _ (by omega),h1,Nat.sub_self,bg,bg,List.drop_eq_getElem_cons (show a+i < B.length by omega),List.set_cons_zero,List.replicate_succ']
 simp [aw]; rfl
theorem fm {B:Bs} {a:Nat} {l:Bs} (h:a+l.length≤B.length):(spliceB B a l).length=B.length:=by
 unfold spliceB
 rw [ap,ap,dg,fh]; omega
theorem set_same {A:List AObj} {i:Nat} {x:AObj} (h:A[i]? = some x):A.set i x=A:=by
 apply gu
 intro j
 by_cases c:i=j
 ·subst c
  rw [ij h,h]
 ·rw [aq c]
theorem jv {L:List AVal} {i:Nat} (x:AVal) (h:i < L.length):L.take i++x :: L.drop (i+1)=L.set i x:=by
 rw [List.set_eq_take_append_cons_drop,if_pos h]
section
attribute [-simp] getElem?_pos getElem?_neg List.all_eq_true
attribute [local simp] qZ qS nltT nltF iltT iltF ileT nleT dj
theorem l611 {fl fb a n:Nat} {B:Bs} {ca:Option Nat} {y:AVal} (hf:H[fb]? = some (.cells 1 (B.map u8V))) (hin:a+n≤B.length) (hb:b≤fb) (hbn:B.length≤1000000000):∀ (j i w:Nat),i+j=n→∀ {β:Type} (k:AExit→St→Option β),
  xK T (.loop code611L0) ⟨[(0,.val (.ptr (some (fl,0)))),(5,.val (.slice (some (fb,a)) n ca)),(6,.val (.int .i64 n)),(7,.val y),(79,.val (.int .i64 n)),(80,.val (.int .i64 i))],⟨H.set fb (.cells 1 ((spliceB B a (List.replicate i 255)).map u8V)),b,w⟩⟩ (k:=⟨k⟩) =
   k (.exit 1) ⟨[(0,.val (.ptr (some (fl,0)))),(5,.val (.slice (some (fb,a)) n ca)),(6,.val (.int .i64 n)),(7,.val y)],⟨H.set fb (.cells 1 ((spliceB B a (List.replicate n 255)).map u8V)),b,if j=0 then w else min w fb⟩⟩
 | 0,i,w,hi,β,k=>by
  obtain rfl:i=n:=by omega
  rw [b9,if_pos rfl]
  simp (disch:=omega) [code611L0]
 | j+1,i,w,hi,β,k=>by
  have hfl:=ah hf
  have ih:=l611 (fl:=fl) (ca:=ca) (y:=y) hf hin hb hbn j (i+1) (min w fb) (by omega) k
  have e2:((i+1:Nat):Int)=(i:Int)+1:=by omega
  have e3:(if j=0 then min w fb else min (min w fb) fb)=min w fb:=by split <;> omega
  rw [e2,e3] at ih
  rw [if_neg (by omega),b9,← ih]
  generalize ACode.loop code611L0=LL
  have hst:=splice_step (B:=B) (a:=a) (i:=i) (n:=n) (by omega) hin
  have hln:(spliceB B a (List.replicate i 255)).length=B.length:=fm (by rw [bg]; omega)
  have hms:((spliceB B a (List.replicate i 255)).map u8V).set (a+i) (.int .u8 255)=(spliceB B a (List.replicate (i+1) 255)).map u8V:=by
   rw [← hst,List.map_set]; rfl
  have hml:((spliceB B a (List.replicate i 255)).map u8V).length=B.length:=by rw [bj]; exact hln
  rw [← jv _ (by omega)] at hms
  generalize (spliceB B a (List.replicate i 255)).map u8V=Y at hms hml
  simp (disch:=omega) [code611L0,hml,hms]
end
def eraseB (F:Fl) (i:Nat):Bs:=spliceB F.b (i*F.z) (List.replicate F.z 255)
section
attribute [-simp] getElem?_pos getElem?_neg List.all_eq_true
attribute [local simp] qZ qS nltT nltF iltT iltF ileT nleT dj
theorem s611 (h:FlA H I F) {i x:Nat} (hx:F.w[i]? = some x) (hz:0 < F.z) (hbw:b≤I.fb∧b≤I.fw):xCall T 611 [.ptr (some (I.fl,0)),.int .i64 i] ⟨H,b,w⟩ =
  some (if F.lim≤x then (.int .i64 4,⟨H,b,w⟩) else (.int .i64 0,⟨(H.set I.fw (.cells 1 ((F.w.set i (x+1)).map natV))).set I.fb (.cells 1 ((eraseB F i).map u8V)),b,min w (min I.fw I.fb)⟩)):=by
 have hf:=h.f
 unfold Fl.cells at hf
 have hw:=h.w
 have hfb:=h.b
 have hil:=ah hx
 have hwl:=h.wl
 have hn:=h.nb.1
 have hzb:=h.nb.2
 have hlb:=h.lb
 have hxb:=h.wb x (bn hx)
 have ht:=h.total
 have hbl:=h.bl
 have hne:=h.ne
 have h568:=fun (x lo hi:Int) w=>s568 (H:=H) (b:=b) (w:=w) (x:=x) (lo:=lo) (hi:=hi)
 have hg:(F.w.map natV)[i]? = some (.int .i64 x):=by rw [bk,hx]; rfl
 have hl:(F.w.map natV).length=F.n:=by rw [bj]; exact hwl
 have q1:((0:Int)≤i):=by omega
 have q2:((i:Int)≤(F.n:Int) - 1):=by omega
 have hfll:=ah hf
 have hfbl:=ah hfb
 have hfwl:=ah hw
 have hin:i*F.z+F.z≤F.b.length:=by
  rw [hbl]
  calc i*F.z+F.z=(i+1)*F.z:=by rw [Nat.succ_mul]
   _≤F.n*F.z:=fj _ (by omega)
 have hms:(F.w.map natV).set i (.int .i64 ((x:Int)+1))=(F.w.set i (x+1)).map natV:=by rw [List.map_set]; rfl
 rw [← jv _ (by omega)] at hms
 by_cases hc:F.lim≤x
 ·rw [if_pos hc]
  generalize F.w.map natV=Y at hw hg hl hms
  simp (disch:=omega) [ba t611,code611,hf,hw,hg,hl,hwl,h568,q1,q2,hc]
 ·rw [if_neg hc]
  have hf1:(H.set I.fw (.cells 1 ((F.w.set i (x+1)).map natV)))[I.fl]? = H[I.fl]?:=aq (fun e=>h.nes.2 e.symm)
  have hfb1:(H.set I.fw (.cells 1 ((F.w.set i (x+1)).map natV)))[I.fb]? = some (.cells 1 (F.b.map u8V)):=by rw [aq (fun e=>hne e.symm)]; exact hfb
  have hgd:I.cb.getD F.b.length=F.b.length:=by
   cases hc:I.cb with
   | none=>rfl
   | some x=>rw [df]; exact h.cbo x hc
  have A1:FlA (H.set I.fw (.cells 1 ((F.w.set i (x+1)).map natV))) I { F with w:=F.w.set i (x+1) }:=by
   refine ⟨?_,hfb1,ij hw,hbl,by rw [av]; exact hwl,h.nb,hlb,?_,hne,h.cbo,fun c hc=>by rw [av]; exact h.cwo c hc⟩
   ·rw [hf1,h.f]
    unfold Fl.cells
    simp only [av]
   ·intro y hy
    rcases List.mem_or_eq_of_mem_set hy with h1 | h1
    ·exact h.wb y h1
    ·omega
  have h582:=fun w n=>s582 (b:=b) (w:=w) (n:=n) A1
  rw [hf] at hf1
  generalize F.w.map natV=Y at hw hg hl hms
  generalize (F.w.set i (x+1)).map natV=Y' at *
  have hlp:=fun {β:Type} (ca:Option Nat) (y:AVal) w (k:AExit→St→Option β)=>l611 (b:=b) (H:=H.set I.fw (.cells 1 Y')) (fl:=I.fl) (ca:=ca) (y:=y) hfb1 hin hbw.1 (by omega) F.z 0 w (by omega) k
  have hsp:spliceB F.b (i*F.z) (List.replicate 0 255)=F.b:=by
   unfold spliceB; simp
  rw [hsp] at hlp
  have hss:(H.set I.fw (.cells 1 Y')).set I.fb (.cells 1 (F.b.map u8V))=H.set I.fw (.cells 1 Y'):=set_same hfb1
  rw [hss] at hlp
  simp only [a9] at hlp
  have hmi:(i:Int)*(F.z:Int)=((i*F.z:Nat):Int):=(Int.natCast_mul i F.z).symm
  unfold eraseB
  have hz0:¬ F.z=0:=by omega
  generalize i*F.z=q at *
  cases hcb:I.cb with
  | none =>
   rw [hcb] at hf hf1
   simp (disch:=omega) [ba t611,code611,hf,hw,hg,hl,hwl,h568,q1,q2,hc,hms,hf1,hfb1,h582,hlp,hgd,hz0,hmi]
  | some cc =>
   obtain rfl:=h.cbo _ hcb
   rw [hcb] at hf hf1
   have hd1:¬ F.b.length=q:=by omega
   have hd2:F.z≤F.b.length - q:=by omega
   simp (disch:=omega) [ba t611,code611,hf,hw,hg,hl,hwl,h568,q1,q2,hc,hms,hf1,hfb1,h582,hlp,hgd,hz0,hmi,hd1,hd2]
end
end
end Go.Abs.AbsBlb

namespace Go.Abs.AbsBlb
open Go.Abs.Short
section
variable {H:List AObj} {b w:Nat}
def xorI (k:IntKind) (x y:Int):Int:=k.wrap (BitVec.ofInt k.bits x ^^^ BitVec.ofInt k.bits y).toNat
def andI (k:IntKind) (x y:Int):Int:=k.wrap (BitVec.ofInt k.bits x &&& BitVec.ofInt k.bits y).toNat
def orI (k:IntKind) (x y:Int):Int:=k.wrap (BitVec.ofInt k.bits x ||| BitVec.ofInt k.bits y).toNat
theorem aBits_xor (k:IntKind) (x y:Int):aBits .xor k x y=some (.int k (xorI k x y)):=rfl
theorem aBits_and (k:IntKind) (x y:Int):aBits .and k x y=some (.int k (andI k x y)):=rfl
theorem aBits_or (k:IntKind) (x y:Int):aBits .or k x y=some (.int k (orI k x y)):=rfl
def step16 (s:Int):Int:=xorI .u16 (IntKind.u16.wrap (s*2 ^ min 1 IntKind.u16.bits)) (andI .u16 4129 (IntKind.u16.wrap (-s.fdiv (2 ^ min 15 IntKind.u16.bits))))
def step32 (s:Int):Int:=xorI .u32 (s.fdiv (2 ^ min 1 IntKind.u32.bits)) (andI .u32 2197175160 (IntKind.u32.wrap (-andI .u32 s 1)))
def times (f:Int→Int):Nat→Int→Int
 | 0,s=>s
 | n+1,s=>times f n (f s)
def tab16 (i:Int):Int:=times step16 8 (IntKind.u16.wrap (IntKind.u16.wrap i*2 ^ min 8 IntKind.u16.bits))
def tab32 (i:Int):Int:=times step32 8 (IntKind.u32.wrap i)
def tabV (k:IntKind) (f:Int→Int) (i:Nat):List AVal:=(List.range i).map (fun j:Nat=>AVal.int k (f (j:Int)))++List.replicate (256 - i) (.int k 0)
theorem idsL_none:∀ {L:List AVal},(∀ x ∈ L,x.ids=[])→AVal.idsL L=[]
 | [],_=>rfl
 | x :: L,h=>by
  unfold AVal.idsL
  rw [h x (a7 ..),idsL_none fun y hy=>h y (bd _ hy)]; rfl
theorem renL_none {f:Nat→Nat}:∀ {L:List AVal},(∀ x ∈ L,x.ren f=x)→AVal.renL f L=L
 | [],_=>rfl
 | x :: L,h=>by
  unfold AVal.renL
  rw [h x (a7 ..),renL_none fun y hy=>h y (bd _ hy)]
theorem tabV_int {k:IntKind} {f:Int→Int} {i:Nat} {x:AVal} (h:x ∈ tabV k f i):∃ n,x = .int k n:=by
 unfold tabV at h
 rcases br.1 h with h | h
 ·obtain ⟨j,-,rfl⟩:=cg.1 h
  exact ⟨_,rfl⟩
 ·exact ⟨_,List.eq_of_mem_replicate h⟩
theorem tabV_ids {k:IntKind} {f:Int→Int} {i:Nat}:AVal.idsL (tabV k f i)=[]:=idsL_none fun x hx=>by
 obtain ⟨n,rfl⟩:=tabV_int hx; rfl
theorem tabV_ren {k:IntKind} {f:Int→Int} {i:Nat} (g:Nat→Nat):AVal.renL g (tabV k f i)=tabV k f i:=renL_none fun x hx=>by
 obtain ⟨n,rfl⟩:=tabV_int hx; rfl
theorem unders_none {n:Nat}:∀ {L:List AVal},(∀ x ∈ L,x.under n=true)→AVal.unders n L=true
 | [],_=>rfl
 | x :: L,h=>by
  unfold AVal.unders
  rw [h x (a7 ..),unders_none fun y hy=>h y (bd _ hy)]; rfl
theorem tabV_under {k:IntKind} {f:Int→Int} {i n:Nat}:AVal.unders n (tabV k f i)=true:=unders_none fun x hx=>by
 obtain ⟨n,rfl⟩:=tabV_int hx; rfl
theorem tabV_len {k:IntKind} {f:Int→Int} {i:Nat} (h:i≤256):(tabV k f i).length=256:=by
 unfold tabV
 rw [ap,bj,jo,bg]; omega
theorem tabV_set {k:IntKind} {f:Int→Int} {i:Nat} (h:i < 256):(tabV k f i).set i (.int k (f i))=tabV k f (i+1):=by
 unfold tabV
 have h1:((List.range i).map (fun j:Nat=>AVal.int k (f (j:Int)))).length=i:=by rw [bj,jo]
 rw [List.set_append_right _ _ (by omega),h1,Nat.sub_self,show 256 - i=256 - (i+1)+1 from by omega,List.replicate_succ,List.set_cons_zero,List.range_succ,List.map_append,aw]
 rfl
theorem tabV_get {k:IntKind} {f:Int→Int} {i:Nat} (h:i < 256):(tabV k f 256)[i]? = some (.int k (f i)):=by
 unfold tabV
 rw [ag (by rw [bj,jo]; exact h),bk,aj (by rw [jo]; exact h),List.getElem_range]; rfl
section
attribute [-simp] getElem?_pos getElem?_neg List.all_eq_true
attribute [local simp] qZ qS nltT nltF iltT iltF ileT nleT dj
theorem l631 {x0 x1:List AVal} {i:Int}:∀ (j c w:Nat) (s:Int),c+j=8→∀ {β:Type} (k:AExit→St→Option β),
  xK T (.loop code631L0) ⟨[(0,.var x0),(1,.var x1),(2,.val (.int .i64 i)),(3,.val (.int .u16 s)),(4,.val (.int .i64 i)),(10,.val (.int .i64 c))],⟨H,b,w⟩⟩ (k:=⟨k⟩) =
   k (.exit 2) ⟨[(0,.var x0),(1,.var x1),(2,.val (.int .i64 i)),(3,.val (.int .u16 (times step16 j s))),(4,.val (.int .i64 i))],⟨H,b,w⟩⟩
 | 0,c,w,s,hi,β,k=>by
  obtain rfl:c=8:=by omega
  rw [b9]
  simp (disch:=omega) [code631L0,times]
 | j+1,c,w,s,hi,β,k=>by
  have ih:=l631 (x0:=x0) (x1:=x1) (i:=i) j (c+1) w (step16 s) (by omega) k
  have e2:((c+1:Nat):Int)=(c:Int)+1:=by omega
  rw [e2] at ih
  rw [b9,times,← ih]
  generalize ACode.loop code631L0=LL
  simp (disch:=omega) [code631L0,aBits_xor,aBits_and,step16]
theorem l631b {x0:List AVal}:∀ (j i w:Nat),i+j=256→∀ {β:Type} (k:AExit→St→Option β),
  xK T (.loop code631L1) ⟨[(0,.var x0),(1,.var (tabV .u16 tab16 i)),(4,.val (.int .i64 i))],⟨H,b,w⟩⟩ (k:=⟨k⟩) =
   k (.exit 0) ⟨[(0,.var x0),(1,.var (tabV .u16 tab16 256))],⟨H,b,w⟩⟩
 | 0,i,w,hi,β,k=>by
  obtain rfl:i=256:=by omega
  rw [b9]
  simp (disch:=omega) [code631L1]
 | j+1,i,w,hi,β,k=>by
  have ih:=l631b (x0:=x0) j (i+1) w (by omega) k
  have e2:((i+1:Nat):Int)=(i:Int)+1:=by omega
  have h0:=fun {β:Type} w s (k:AExit→St→Option β)=>l631 (H:=H) (b:=b) (x0:=x0) (x1:=tabV .u16 tab16 i) (i:=i) 8 0 w s rfl k
  simp only [a9] at h0
  rw [e2] at ih
  have hs:=tabV_set (k:=.u16) (f:=tab16) (i:=i) (by omega)
  have hl:=tabV_len (k:=.u16) (f:=tab16) (i:=i) (by omega)
  rw [← jv _ (by omega)] at hs
  rw [b9,← ih]
  generalize ACode.loop code631L1=LL
  generalize tabV .u16 tab16 i=Y at *
  generalize tabV .u16 tab16 (i+1)=Y' at *
  have ht:tab16 i=times step16 8 (IntKind.u16.wrap (IntKind.u16.wrap (i:Int)*2 ^ min 8 IntKind.u16.bits)):=rfl
  rw [ht] at hs
  simp (disch:=omega) [code631L1,h0,hl,hs]
theorem s631:xCall T 631 [] ⟨H,b,w⟩=some (.agg (tabV .u16 tab16 256),⟨H,b,w⟩):=by
 have h0:=fun {β:Type} x0 w (k:AExit→St→Option β)=>l631b (H:=H) (b:=b) (x0:=x0) 256 0 w (by omega) k
 have ht:tabV .u16 tab16 0=List.replicate 256 (.int .u16 0):=rfl
 rw [ht] at h0
 simp only [a9] at h0
 have hr:(tabV .u16 tab16 256).length=256:=tabV_len (by omega)
 have hi:AVal.idsL (tabV .u16 tab16 256)=[]:=tabV_ids
 have hu:=fun n=>tabV_under (k:=.u16) (f:=tab16) (i:=256) (n:=n)
 have ht:(tabV .u16 tab16 256).take 256=tabV .u16 tab16 256:=dm (by omega)
 have hn:=fun g=>tabV_ren (k:=.u16) (f:=tab16) (i:=256) g
 have hl:(List.replicate 256 (AVal.int .u16 0)).length=256:=bg
 generalize tabV .u16 tab16 256=Y at *
 simp (disch:=omega) [ba t631,code631,h0,hr,hi,hn,hl,hu,ht,-List.reduceReplicate]
theorem l626 {x0 x1:List AVal} {i:Int}:∀ (j c w:Nat) (s:Int),c+j=8→∀ {β:Type} (k:AExit→St→Option β),
  xK T (.loop code626L0) ⟨[(0,.var x0),(1,.var x1),(2,.val (.int .i64 i)),(3,.val (.int .u32 s)),(4,.val (.int .i64 i)),(9,.val (.int .i64 c))],⟨H,b,w⟩⟩ (k:=⟨k⟩) =
   k (.exit 2) ⟨[(0,.var x0),(1,.var x1),(2,.val (.int .i64 i)),(3,.val (.int .u32 (times step32 j s))),(4,.val (.int .i64 i))],⟨H,b,w⟩⟩
 | 0,c,w,s,hi,β,k=>by
  obtain rfl:c=8:=by omega
  rw [b9]
  simp (disch:=omega) [code626L0,times]
 | j+1,c,w,s,hi,β,k=>by
  have ih:=l626 (x0:=x0) (x1:=x1) (i:=i) j (c+1) w (step32 s) (by omega) k
  have e2:((c+1:Nat):Int)=(c:Int)+1:=by omega
  rw [e2] at ih
  rw [b9,times,← ih]
  generalize ACode.loop code626L0=LL
  simp (disch:=omega) [code626L0,aBits_xor,aBits_and,step32]
theorem l626b {x0:List AVal}:∀ (j i w:Nat),i+j=256→∀ {β:Type} (k:AExit→St→Option β),
  xK T (.loop code626L1) ⟨[(0,.var x0),(1,.var (tabV .u32 tab32 i)),(4,.val (.int .i64 i))],⟨H,b,w⟩⟩ (k:=⟨k⟩) =
   k (.exit 0) ⟨[(0,.var x0),(1,.var (tabV .u32 tab32 256))],⟨H,b,w⟩⟩
 | 0,i,w,hi,β,k=>by
  obtain rfl:i=256:=by omega
  rw [b9]
  simp (disch:=omega) [code626L1]
 | j+1,i,w,hi,β,k=>by
  have ih:=l626b (x0:=x0) j (i+1) w (by omega) k
  have e2:((i+1:Nat):Int)=(i:Int)+1:=by omega
  have h0:=fun {β:Type} w s (k:AExit→St→Option β)=>l626 (H:=H) (b:=b) (x0:=x0) (x1:=tabV .u32 tab32 i) (i:=i) 8 0 w s rfl k
  simp only [a9] at h0
  rw [e2] at ih
  have hs:=tabV_set (k:=.u32) (f:=tab32) (i:=i) (by omega)
  have hl:=tabV_len (k:=.u32) (f:=tab32) (i:=i) (by omega)
  rw [← jv _ (by omega)] at hs
  rw [b9,← ih]
  generalize ACode.loop code626L1=LL
  generalize tabV .u32 tab32 i=Y at *
  generalize tabV .u32 tab32 (i+1)=Y' at *
  have ht:tab32 i=times step32 8 (IntKind.u32.wrap (i:Int)):=rfl
  rw [ht] at hs
  simp (disch:=omega) [code626L1,h0,hl,hs]
theorem s626:xCall T 626 [] ⟨H,b,w⟩=some (.agg (tabV .u32 tab32 256),⟨H,b,w⟩):=by
 have h0:=fun {β:Type} x0 w (k:AExit→St→Option β)=>l626b (H:=H) (b:=b) (x0:=x0) 256 0 w (by omega) k
 have ht:tabV .u32 tab32 0=List.replicate 256 (.int .u32 0):=rfl
 rw [ht] at h0
 simp only [a9] at h0
 have hr:(tabV .u32 tab32 256).length=256:=tabV_len (by omega)
 have hi:AVal.idsL (tabV .u32 tab32 256)=[]:=tabV_ids
 have hu:=fun n=>tabV_under (k:=.u32) (f:=tab32) (i:=256) (n:=n)
 have ht:(tabV .u32 tab32 256).take 256=tabV .u32 tab32 256:=dm (by omega)
 have hn:=fun g=>tabV_ren (k:=.u32) (f:=tab32) (i:=256) g
 have hl:(List.replicate 256 (AVal.int .u32 0)).length=256:=bg
 generalize tabV .u32 tab32 256=Y at *
 simp (disch:=omega) [ba t626,code626,h0,hr,hi,hn,hl,hu,ht,-List.reduceReplicate]
end
def SlB (H:List AObj) (p o n:Nat) (l:Bs):Prop:=l.length=n∧∃ X,H[p]? = some (.cells 1 X)∧(X.drop o).take n=l.map u8V
theorem SlB.get {p o n i:Nat} {l:Bs} {x:UInt8} (h:SlB H p o n l) (hx:l[i]? = some x):∃ X,H[p]? = some (.cells 1 X)∧X[o+i]? = some (.int .u8 x.toNat):=by
 obtain ⟨hl,X,hp,hX⟩:=h
 refine ⟨X,hp,?_⟩
 have h1:((X.drop o).take n)[i]? = some (u8V x):=by rw [hX,bk,hx]; rfl
 rw [dp,if_pos (by have:=ah hx; omega),cq] at h1
 exact h1
theorem xor_u8 (x y:Int):∃ m:Nat,m < 256∧xorI .u8 x y=m:=by
 refine ⟨(BitVec.ofInt 8 x ^^^ BitVec.ofInt 8 y).toNat,(BitVec.ofInt 8 x ^^^ BitVec.ofInt 8 y).isLt,?_⟩
 have h:(BitVec.ofInt 8 x ^^^ BitVec.ofInt 8 y).toNat < 256:=(BitVec.ofInt 8 x ^^^ BitVec.ofInt 8 y).isLt
 show IntKind.u8.wrap ((BitVec.ofInt 8 x ^^^ BitVec.ofInt 8 y).toNat:Int)=_
 generalize (BitVec.ofInt 8 x ^^^ BitVec.ofInt 8 y).toNat=m at *
 unfold IntKind.wrap
 show (if (false && _)=true then _ else ((m:Int) % 2 ^ 8))=_
 simp
 omega
def up16 (s:Int) (c:UInt8):Int:=xorI .u16 (IntKind.u16.wrap (s*2 ^ min 8 IntKind.u16.bits)) (tab16 (xorI .u8 (IntKind.u8.wrap (s.fdiv (2 ^ min 8 IntKind.u16.bits))) c.toNat))
def up32 (s:Int) (c:UInt8):Int:=xorI .u32 (s.fdiv (2 ^ min 8 IntKind.u32.bits)) (tab32 (xorI .u8 (IntKind.u8.wrap s) c.toNat))
section
attribute [-simp] getElem?_pos getElem?_neg List.all_eq_true
attribute [local simp] qZ qS nltT nltF iltT iltF ileT nleT dj
theorem l620 {p o n:Nat} {c:Option Nat} {l:Bs} (hl:SlB H p o n l) (hn:0 < n) (hb:n≤1000000000):∀ (j i w:Nat) (s:Int),i+j=n→∀ {β:Type} (k:AExit→St→Option β),
  xK T (.loop code620L0) ⟨[(0,.val (.int .u16 s)),(5,.var (tabV .u16 tab16 256)),(9,.val (.slice (some (p,o)) n c)),(10,.val (.int .i64 n)),(11,.val (.int .i64 i))],⟨H,b,w⟩⟩ (k:=⟨k⟩) =
   k (.exit 0) ⟨[(0,.val (.int .u16 ((l.drop i).foldl up16 s)))],⟨H,b,w⟩⟩
 | 0,i,w,s,hi,β,k=>by
  have hd:l.drop i=[]:=dx (by have:=hl.1; omega)
  rw [hd,b9]
  simp only [List.foldl_nil]
  simp (disch:=omega) [code620L0]
 | j+1,i,w,s,hi,β,k=>by
  obtain ⟨x,hx⟩:∃ x,l[i]? = some x:=⟨_,aj (by have:=hl.1; omega)⟩
  obtain ⟨X,hp,g1⟩:=hl.get hx
  have hxl:=ah g1
  have e2:((i+1:Nat):Int)=(i:Int)+1:=by omega
  obtain ⟨m,hm,hmx⟩:=xor_u8 (IntKind.u8.wrap (s.fdiv (2 ^ min 8 IntKind.u16.bits))) x.toNat
  have ih:=l620 (c:=c) hl hn hb j (i+1) w (up16 s x) (by omega) k
  rw [e2] at ih
  have htg:=tabV_get (k:=.u16) (f:=tab16) hm
  have htl:=tabV_len (k:=.u16) (f:=tab16) (i:=256) (by omega)
  have hup:xorI .u16 (IntKind.u16.wrap (s*2 ^ min 8 IntKind.u16.bits)) (tab16 m)=up16 s x:=by unfold up16; rw [hmx]
  rw [ip hx,iy,b9,← ih,← hup]
  generalize ACode.loop code620L0=LL
  generalize tabV .u16 tab16 256=Y at *
  simp (disch:=omega) [code620L0,hp,g1,hxl,aBits_xor,hmx,htg,htl]
theorem l613 {p o n:Nat} {c:Option Nat} {l:Bs} (hl:SlB H p o n l) (hn:0 < n) (hb:n≤1000000000):∀ (j i w:Nat) (s:Int),i+j=n→∀ {β:Type} (k:AExit→St→Option β),
  xK T (.loop code613L0) ⟨[(3,.var (tabV .u32 tab32 256)),(4,.val (.int .u32 s)),(8,.val (.slice (some (p,o)) n c)),(9,.val (.int .i64 n)),(10,.val (.int .i64 i))],⟨H,b,w⟩⟩ (k:=⟨k⟩) =
   k (.exit 0) ⟨[(4,.val (.int .u32 ((l.drop i).foldl up32 s)))],⟨H,b,w⟩⟩
 | 0,i,w,s,hi,β,k=>by
  have hd:l.drop i=[]:=dx (by have:=hl.1; omega)
  rw [hd,b9]
  simp only [List.foldl_nil]
  simp (disch:=omega) [code613L0]
 | j+1,i,w,s,hi,β,k=>by
  obtain ⟨x,hx⟩:∃ x,l[i]? = some x:=⟨_,aj (by have:=hl.1; omega)⟩
  obtain ⟨X,hp,g1⟩:=hl.get hx
  have hxl:=ah g1
  have e2:((i+1:Nat):Int)=(i:Int)+1:=by omega
  obtain ⟨m,hm,hmx⟩:=xor_u8 (IntKind.u8.wrap s) x.toNat
  have ih:=l613 (c:=c) hl hn hb j (i+1) w (up32 s x) (by omega) k
  rw [e2] at ih
  have htg:=tabV_get (k:=.u32) (f:=tab32) hm
  have htl:=tabV_len (k:=.u32) (f:=tab32) (i:=256) (by omega)
  have hup:xorI .u32 (s.fdiv (2 ^ min 8 IntKind.u32.bits)) (tab32 m)=up32 s x:=by unfold up32; rw [hmx]
  rw [ip hx,iy,b9,← ih,← hup]
  generalize ACode.loop code613L0=LL
  generalize tabV .u32 tab32 256=Y at *
  simp (disch:=omega) [code613L0,hp,g1,hxl,aBits_xor,hmx,htg,htl]
end
def sum16 (l:Bs):Int:=l.foldl up16 65535
def sum32 (l:Bs):Int:=xorI .u32 IntKind.u32.max (l.foldl up32 4294967295)
section
attribute [-simp] getElem?_pos getElem?_neg List.all_eq_true
attribute [local simp] qZ qS nltT nltF iltT iltF ileT nleT dj
theorem s620 {p o n:Nat} {c:Option Nat} {l:Bs} {s:Int} (hl:SlB H p o n l) (hn:0 < n) (hb:n≤1000000000):xCall T 620 [.int .u16 s,.slice (some (p,o)) n c] ⟨H,b,w⟩=some (.int .u16 (l.foldl up16 s),⟨H,b,w⟩):=by
 have h0:=fun {β:Type} w (k:AExit→St→Option β)=>l620 (b:=b) (c:=c) hl hn hb n 0 w s (by omega) k
 simp only [a9,dz] at h0
 have h631:=fun w=>s631 (H:=H) (b:=b) (w:=w)
 have hr:(tabV .u16 tab16 256).length=256:=tabV_len (by omega)
 have ht:(tabV .u16 tab16 256).take 256=tabV .u16 tab16 256:=dm (by omega)
 have hl:(List.replicate 256 (AVal.int .u16 0)).length=256:=bg
 generalize tabV .u16 tab16 256=Y at *
 simp (disch:=omega) [ba t620,code620,h0,h631,hr,ht,hl,-List.reduceReplicate]
theorem s602 {p o n:Nat} {c:Option Nat} {l:Bs} (hl:SlB H p o n l) (hn:0 < n) (hb:n≤1000000000):xCall T 602 [.slice (some (p,o)) n c] ⟨H,b,w⟩=some (.int .u16 (sum16 l),⟨H,b,w⟩):=by
 have h620:=fun w=>s620 (b:=b) (w:=w) (c:=c) (s:=65535) hl hn hb
 simp (disch:=omega) [ba t602,code602,h620,sum16]
theorem s613 {p o n:Nat} {c:Option Nat} {l:Bs} (hl:SlB H p o n l) (hn:0 < n) (hb:n≤1000000000):xCall T 613 [.slice (some (p,o)) n c] ⟨H,b,w⟩=some (.int .u32 (sum32 l),⟨H,b,w⟩):=by
 have h0:=fun {β:Type} w (k:AExit→St→Option β)=>l613 (b:=b) (c:=c) hl hn hb n 0 w 4294967295 (by omega) k
 simp only [a9,dz] at h0
 have h626:=fun w=>s626 (H:=H) (b:=b) (w:=w)
 have hr:(tabV .u32 tab32 256).length=256:=tabV_len (by omega)
 have ht:(tabV .u32 tab32 256).take 256=tabV .u32 tab32 256:=dm (by omega)
 have hl:(List.replicate 256 (AVal.int .u32 0)).length=256:=bg
 generalize tabV .u32 tab32 256=Y at *
 have hsg:IntKind.u32.signed=false:=rfl
 simp (disch:=omega) [ba t613,code613,h0,h626,hr,ht,hl,aBits_xor,sum32,hsg,-List.reduceReplicate]
end
end
end Go.Abs.AbsBlb

namespace Go.Abs
def FieldU.fits (x:FieldU):Prop:=x.name.length≤reachB∧x.desc.length≤reachB
def InsU.fits (x:InsU):Prop:=x.cls.length≤reachB∧x.name.length≤reachB∧x.desc.length≤reachB∧x.text.length≤reachB
def TrapU.fits (x:TrapU):Prop:=x.cls.length≤reachB
structure MapU.fits (x:MapU):Prop where
 l:x.locals.length≤reachB
 s:x.stack.length≤reachB
 ls:∀ t ∈ x.locals,t.length≤reachB
 ss:∀ t ∈ x.stack,t.length≤reachB
structure MethU.fits (m:MethU):Prop where
 name:m.name.length≤reachB
 desc:m.desc.length≤reachB
 c:m.code.length≤reachB
 cs:∀ x ∈ m.code,x.fits
 t:m.traps.length≤reachB
 ts:∀ x ∈ m.traps,x.fits
 x:m.maps.length≤reachB
 xs:∀ x ∈ m.maps,x.fits
structure UnitU.cap (u:UnitU):Prop where
 f:∀ k,u.fc=some k→u.fields.length≤k
 m:∀ k,u.mc=some k→u.meths.length≤k
structure UnitU.fits (u:UnitU):Prop where
 name:u.name.length≤reachB
 super:u.super.length≤reachB
 f:u.fields.length≤reachB
 fs:∀ x ∈ u.fields,x.fits
 m:u.meths.length≤reachB
 ms:∀ x ∈ u.meths,x.fits
 cap:u.cap
section
variable {os:List AObj} {b w:Nat} {d:Dat} {cs:List AVal}
end
end Go.Abs

namespace Go.Abs
def renA (f:Nat→Nat):Option (Nat × Nat)→Option (Nat × Nat)
 | none=>none
 | some (i,o)=>some (f i,o)
theorem ren_sl (f:Nat→Nat) (a:Option (Nat × Nat)) (n:Nat) (c:Option Nat):(AVal.slice a n c).ren f = .slice (renA f a) n c:=by
 cases a with
 | none=>simp [AVal.ren,renA]
 | some p=>obtain ⟨i,o⟩:=p; simp [AVal.ren,renA]
theorem renL_map (f:Nat→Nat):∀ l:List AVal,AVal.renL f l=l.map (AVal.ren f)
 | []=>rfl
 | a :: l=>by simp only [AVal.renL,bc,renL_map f l]
theorem idsL_flat:∀ l:List AVal,AVal.idsL l=l.flatMap AVal.ids
 | []=>rfl
 | a :: l=>by simp only [AVal.idsL,d0,idsL_flat l]
structure Moves (f:Nat→Nat) (I:Nat→Prop) (n:Nat) (O O':List AObj):Prop where
 at':∀ i obj,I i→O[i]? = some obj→O'[f i]? = some (obj.ren f)
 cl:∀ i obj,I i→O[i]? = some obj→∀ j ∈ obj.ids,n≤j→I j
 up:∀ i,n≤i→n≤f i
section
variable {f:Nat→Nat} {I:Nat→Prop} {n:Nat} {O O':List AObj}
def over (n:Nat) (a:Option (Nat × Nat)):Prop:=∀ i o,a=some (i,o)→n≤i
def inI (I:Nat→Prop) (a:Option (Nat × Nat)):Prop:=∀ i o,a=some (i,o)→I i
def MapU.ren (f:Nat→Nat) (x:MapU):MapU:={ x with la:=renA f x.la,sa:=renA f x.sa }
def MethU.ren (f:Nat→Nat) (m:MethU):MethU:={ m with ca:=renA f m.ca,ta:=renA f m.ta,maps:=m.maps.map (MapU.ren f),xa:=renA f m.xa }
def UnitU.ren (f:Nat→Nat) (u:UnitU):UnitU:={ u with fa:=renA f u.fa,meths:=u.meths.map (MethU.ren f),ma:=renA f u.ma }
structure MapU.over (n:Nat) (x:MapU):Prop where
 l:Go.Abs.over n x.la
 s:Go.Abs.over n x.sa
structure MethU.over (n:Nat) (m:MethU):Prop where
 c:Go.Abs.over n m.ca
 t:Go.Abs.over n m.ta
 x:Go.Abs.over n m.xa
 xs:∀ x ∈ m.maps,x.over n
structure UnitU.over (n:Nat) (u:UnitU):Prop where
 f:Go.Abs.over n u.fa
 m:Go.Abs.over n u.ma
 ms:∀ m ∈ u.meths,m.over n
theorem idxIn_lt {i:Nat}:∀ {k:List Nat},i ∈ k→idxIn i k < k.length∧k[idxIn i k]? = some i
 | j :: k,h=>by
  by_cases e:j=i
  ·simp [idxIn,e]
  ·have:=idxIn_lt (k:=k) ((c9.1 h).resolve_left fun x=>e x.symm)
   simp only [idxIn,e,if_false,bv,List.getElem?_cons_succ]
   exact ⟨by omega,this.2⟩
theorem reach_ge {h:Heap} {n0:Nat}:∀ (fu:Nat) (l acc:List Nat),(∀ i ∈ acc,n0≤i)→∀ i ∈ reach h n0 fu l acc,n0≤i
 | 0,l,acc,ha=>ha
 | _+1,[],acc,ha=>ha
 | fu+1,i :: r,acc,ha=>by
  unfold reach
  split
  ·exact reach_ge fu r acc ha
  ·split
   ·exact reach_ge fu r acc ha
   ·exact reach_ge fu _ _ fun j hj=>by
     rcases br.1 hj with hj | hj
     ·exact ha j hj
     ·rw [bi.1 hj]; omega
theorem finish_cases {h0 h:Heap} {v:AVal} (hv:v.under h0.size=false) :
  (∃ w,finish h0 v h=(v,⟨h.objs,h.base,w⟩)∧(w=min h0.wmin h.wmin∨(w=h0.wmin∧h0.size≤h.wmin))) ∨
  (h0.size≤h.wmin∧∃ f I X,finish h0 v h=(v.ren f,⟨h0.objs++X,h0.base,h0.wmin⟩)∧Moves f I h0.size h.objs (h0.objs++X)∧(∀ j ∈ v.ids,h0.size≤j→I j)):=by
 unfold finish
 by_cases hw:h.wmin < h0.size
 ·rw [if_pos hw]; exact .inl ⟨_,rfl,.inl rfl⟩
 ·rw [if_neg hw,hv]
  simp only [bw,if_false]
  generalize hk:reach h h0.size 1000 v.ids []=k
  have hge:∀ i ∈ k,h0.size≤i:=by rw [← hk]; exact reach_ge _ _ _ (by simp)
  split
  ·rename_i hok
   refine .inr ⟨by omega,fun i=>if i < h0.size then i else h0.size+idxIn i k,fun i=>i ∈ k,_,rfl,⟨fun i obj hi ho=>?_,fun i obj hi ho j hj hn=>?_,fun i hi=>?_⟩,fun j hj hn=>?_⟩
   ·have h1:=hge i hi
    obtain ⟨h2,h3⟩:=idxIn_lt hi
    have h4:¬ i < h0.size:=by omega
    simp only [if_neg h4]
    have h5:h0.size=h0.objs.length:=rfl
    rw [h5,au (by omega),gg,bk,h3]
    have h6:h.get i=some obj:=ho
    simp only [bq,h6,df]
   ·rw [al] at hok
    have h6:h.get i=some obj:=ho
    have:=hok j (eg _ (da.2 ⟨i,hi,by rw [h6]; exact hj⟩))
    simp only [cd,decide_eq_true_eq] at this
    rcases this with h7 | h7
    ·omega
    ·simpa using h7
   ·show h0.size≤if i < h0.size then i else h0.size+idxIn i k
    rw [if_neg (by omega)]; omega
   ·rw [al] at hok
    have:=hok j (c8 _ hj)
    simp only [cd,decide_eq_true_eq] at this
    rcases this with h7 | h7
    ·omega
    ·simpa using h7
  ·exact .inl ⟨_,rfl,.inr ⟨rfl,by omega⟩⟩
end
end Go.Abs
