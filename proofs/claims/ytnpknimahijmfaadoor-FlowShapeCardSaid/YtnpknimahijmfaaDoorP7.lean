/-
  Texts joined.
-/
import Derived.Test.YtnpknimahijmfaaDoorP0
import Derived.Test.YtnpknimahijmfaaDoorP5
import Derived.Test.YtnpknimahijmfaaDoorP6
import Derived.Maps.RangeRun
import Derived.Test.YtnpknimahijmfaaDoorP2
import Derived.RangeFuncLeaves
set_option linter.unusedVariables false
set_option linter.unusedSimpArgs false
set_option maxRecDepth 100000
namespace Go.Abs
section
variable {E:Env} {lo nt:Nat} {μ0:MM} {w0:World} {ds:List Deferred} {call:CallSem} {ro:Option Nat} {V:List Nat}
theorem quietV_text {h0:Heap}:∀ (seg:List AOper) (s s1:Slots) (h1:Heap),evQuietV call V seg s h0=some (s1,h1) →
  h1=h0∧∃ (S:Nat→Slots),S 0=s∧S seg.length=s1∧∀ (x:Nat) (o:AOper),seg[x]? = some o →
   (∃ h',evOper call o (S x) { h0 with wmin:=h0.size }=some (S (x+1),h')∧h'.size=h0.size∧h'.wmin=h0.size)∧quietOk V o (S x)=true
 | [],s,s1,h1,e=>by
  simp only [evQuietV] at e; cases e
  exact ⟨rfl,fun _=>s,rfl,rfl,fun x o hx=>by simp at hx⟩
 | o :: seg,s,s1,h1,e=>by
  simp only [evQuietV] at e
  split at e
  case h_2=>cases e
  rename_i s2 h2 he
  split at e
  case isFalse=>cases e
  rename_i hh
  obtain ⟨a1,a2,a3⟩:=hh
  obtain ⟨b1,S,b2,b3,b4⟩:=quietV_text seg s2 s1 h1 e
  refine ⟨b1,fun x=>match x with | 0=>s | x+1=>S x,rfl,by simpa using b3,fun x o1 hx=>?_⟩
  cases x with
  | zero =>
   simp at hx; subst hx
   exact ⟨⟨h2,by simp only [b2]; exact he,a1,a2⟩,a3⟩
  | succ x =>
   simp at hx
   exact b4 x o1 hx
def NoLoc (V:List Nat) (S:Slots):Prop:=∀ t u o,sget S t=some (.loc u o)→V.contains u=false
theorem noLocs_sound:∀ (s:Slots),noLocs V s=true→NoLoc V s
 | [],_=>fun t u o e=>by cases e
 | (d,x) :: r,h=>by
  intro t u o e
  simp only [sget] at e
  split at e
  ·cases e
   simp only [noLocs,ap,dm] at h
   exact h.1
  ·refine noLocs_sound r ?_ t u o e
   cases x <;> simp only [noLocs] at h <;> first | exact h | (simp only [ap] at h; exact h.2)
theorem sets_calm {o:AOper} (h:calm o.op=true):o.sets V=o.dst:=by
 unfold AOper.sets
 split
 ·rename_i hop; rw [hop] at h; cases h
 ·rfl
theorem quietOk_calm {o:AOper} {S:Slots} (h:calm o.op=true):quietOk V o S=((o.dst.all fun d=>!isVar S d && !V.contains d) && (o.reads.all fun u=>!looksAt V S u)):=by
 unfold quietOk
 split
 ·rename_i hop; rw [hop] at h; cases h
 ·rename_i hop; rw [hop] at h; cases h
 ·rfl
theorem adr_inV {S:Slots} {x:Opd} (hl:∀ u ∈ x.reads,looksAt V S u=false) {t o:Nat} (h:x.adr S=some (.loc t o)):V.contains t=false:=by
 cases x with
 | const v=>cases h
 | tmp u =>
  have h1:=hl u (by simp [Opd.reads])
  unfold looksAt at h1
  simp only [Bool.or_eq_false_iff] at h1
  simp only [Opd.adr] at h
  split at h
  ·cases h
  ·cases h; exact h1.1
  ·rename_i t' o' hs; cases h; rw [hs] at h1; exact h1.2
  ·cases h
theorem ok1_loc {S:Slots} {h:Heap} {v:Option AVal} {x:Slot} {s':Slots} {h':Heap} (e:ok1 S h v=some (x,s',h')) {t o:Nat} (hx:x = .loc t o):False:=by
 obtain ⟨u,rfl,rfl,rfl,rfl⟩:=ce e
 cases hx
theorem op_loc {S:Slots} {h:Heap} {o:AOp} {d:Nat} {x:Slot} {s':Slots} {h':Heap} (hc:calm o=true) (hl:∀ u ∈ o.reads,looksAt V S u=false) (e:evOp call d o S h=some (x,s',h')) :
  ∀ t off,x = .loc t off→V.contains t=false:=by
 intro t off hx
 have hval:∀ v:AVal,x ≠ .val v:=fun v e=>by rw [hx] at e; cases e
 cases o with
 | faddr a n =>
  simp only [evOp] at e
  split at e
  ·exact (ok1_loc e hx).elim
  ·rename_i had
   split at e
   ·cases e; cases hx; exact adr_inV hl had
   ·cases e
  ·cases e
 | aaddr n k a i =>
  simp only [evOp] at e
  split at e
  ·exact (ok1_loc e hx).elim
  ·rename_i had _
   split at e
   ·rw [ae] at e
    obtain ⟨j,_,e⟩:=e
    cases e; cases hx
    exact adr_inV (fun u hu=>hl u (by simp only [AOp.reads,ba]; exact .inl hu)) had
   ·cases e
  ·cases e
 | nilcheck a =>
  simp only [evOp] at e
  split at e
  ·exact (ok1_loc e hx).elim
  ·split at e
   ·rename_i had
    split at e
    ·cases e; cases hx; exact adr_inV hl had
    ·cases e
   ·cases e
 | lalloc z=>cases hc
 | lbox a=>cases hc
 | store n a b=>cases hc
 | copy e1 d1 s1=>cases hc
 | conv k a =>
  simp only [evOp] at e
  split at e
  ·unfold evConv at e
   cases k <;> simp only at e
   ·split at e
    ·exact (ok1_loc e hx).elim
    ·cases e
   ·split at e
    ·exact (ok1_loc e hx).elim
    ·cases e
   ·split at e
    ·split at e
     ·cases e; cases hx
     ·cases e
    ·cases e
   ·split at e
    ·split at e
     ·exact (ok1_loc e hx).elim
     ·cases e
    ·cases e
  ·cases e
 | nextStr a=>cases e
 | _ =>
  simp only [evOp] at e
  first
   | exact (ok1_loc e hx).elim
   | (cases e; cases hx)
   | (split at e <;> first
     | exact (ok1_loc e hx).elim
     | (cases e; done)
     | (cases e; cases hx)
     | (rw [ae] at e; obtain ⟨_,_,e⟩:=e; cases e; cases hx)
     | (split at e <;> first
       | exact (ok1_loc e hx).elim
       | (cases e; done)
       | (cases e; cases hx)
       | (rw [ae] at e; obtain ⟨_,_,e⟩:=e; cases e; cases hx)))
theorem oper_loc {S:Slots} {h:Heap} {o:AOper} {x:Slot} {h':Heap} (hc:calm o.op=true) (hl:∀ u ∈ o.reads,looksAt V S u=false) (e:evOper call o S h=some (setSlot o.dst x S,h')) (hn:NoLoc V S) :
  NoLoc V (setSlot o.dst x S):=by
 have run:∀ s' h',evRun call o S h=some (s',h')→NoLoc V s':=by
  intro s' h' e
  unfold evRun at e
  split at e
  case h_2=>cases e
  rename_i x1 s1 h1 he
  cases e
  intro t u off ht
  obtain ⟨e1,_,_⟩:=op_congr (V:=fun _=>False) (S2:=S) hc (Agree.of (fun _ _=>rfl) (fun _ _=>Iff.rfl)) _ _ _ he
  subst e1
  rw [bz] at ht
  split at ht
  ·cases ht
   exact op_loc hc (fun u hu=>hl u (by unfold AOper.reads; exact cg _ hu)) he _ _ rfl
  ·exact hn _ _ _ ht
 have und:NoLoc V (setSlot o.dst .undef S):=by
  intro t u off ht
  rw [bz] at ht
  split at ht
  ·cases ht
  ·exact hn _ _ _ ht
 unfold evOper at e
 split at e
 ·exact run _ _ e
 ·split at e
  ·split at e
   ·exact run _ _ e
   ·have:=congrArg Prod.fst (cd e); exact (show setSlot o.dst .undef S=setSlot o.dst x S from this) ▸ und
  ·have:=congrArg Prod.fst (cd e); exact (show setSlot o.dst .undef S=setSlot o.dst x S from this) ▸ und
  ·cases e
theorem operV {o:AOper} {S sD S':Slots} {h h':Heap} (hv:quietV V o=true) (hq:quietOk V o S=true) (e:evOper call o S h=some (S',h')) (hn:NoLoc V S) (hnD:NoLoc V sD)
  (hat:∀ t ∈ o.reads,sget S t=sget sD t) (hvar:∀ t cs,V.contains t=false→(sget S t=some (.var cs) ↔ sget sD t=some (.var cs))) :
  ∃ sD',evOper call o sD h=some (sD',h')∧(∀ u,sget sD' u=if o.sets V=some u then sget S' u else sget sD u)∧(∀ u,o.sets V≠some u→sget S' u=sget S u)∧NoLoc V S' ∧
   (∀ d cs,o.sets V=some d→V.contains d=false→sget S' d≠some (.var cs)∧sget S d≠some (.var cs)):=by
 have unl:∀ {A:Slots} (d:Nat),V.contains d=true→NoLoc V A→∀ t,sget (unloc d A) t=sget A t:=by
  intro A d hd hA t
  rw [sget_unloc]
  split
  ·rename_i t' off ht
   have:=hA _ _ _ ht
   rw [if_neg (fun e=>by subst e; rw [hd] at this; cases this),ht]
  ·rfl
 by_cases hc:calm o.op=true
 ·rw [quietOk_calm hc] at hq
  simp only [ap,al,dm] at hq
  obtain ⟨hq1,hq2⟩:=hq
  have hag:AgreeV (fun t=>V.contains t=true) S sD o.reads:=⟨hat,fun t cs ht=>hvar t cs (by simpa using ht),fun t ht=>by
   have:=hq2 t ht
   unfold looksAt at this
   simp only [Bool.or_eq_false_iff] at this
   refine ⟨(fun hq=>by rw [this.1] at hq; cases hq),fun t' off hs hq=>?_⟩
   rw [hs] at this
   have h2:V.contains t'=false:=this.2
   rw [h2] at hq; cases hq⟩
  obtain ⟨x,c1,c2,c3⟩:=d9 hc hag e
  rw [sets_calm hc]
  subst c1
  refine ⟨_,c2,fun u=>?_,fun u hu=>by rw [bz,if_neg hu],oper_loc hc hq2 e hn,fun d cs hd hdV=>?_⟩
  ·rw [bz]
   split
   ·rename_i hu; rw [bz,if_pos hu]
   ·rfl
  ·rw [hd] at hq1
   simp only [Option.all_some,ap,dm] at hq1
   refine ⟨by rw [bz,if_pos hd]; intro e; exact c3 cs (cd e),fun e=>?_⟩
   have:=hq1.1
   unfold isVar at this
   rw [e] at this
   cases this
 ·unfold quietV at hv
  split at hv
  ·-- a variable is made
   rename_i z hop
   unfold quietOk at hq
   rw [hop] at hq
   simp only [ap,Option.isNone_iff_eq_none] at hq
   obtain ⟨hg,hd⟩:=hq
   cases hdd:o.dst with
   | none=>rw [hdd] at hd; cases hd
   | some d =>
    rw [hdd] at hd
    simp only at hd
    have hset:o.sets V=some d:=by unfold AOper.sets; rw [hop]; exact hdd
    unfold evOper at e
    rw [hg] at e
    simp only [evRun,hop,evOp,hdd,ff,setSlot] at e
    cases e
    refine ⟨(d,.var z) :: unloc d sD,by unfold evOper; rw [hg]; simp only [evRun,hop,evOp,hdd,ff,setSlot],fun u=>?_,fun u hu=>?_,?_,fun d' cs hd' hV=>?_⟩
    ·rw [hset]
     simp only [sget,Option.some.injEq]
     split
     ·rfl
     ·exact unl d hd hnD u
    ·rw [hset] at hu
     simp only [sget]
     rw [if_neg (fun e=>hu (by rw [e]))]
     exact unl d hd hn u
    ·intro t u off ht
     simp only [sget] at ht
     split at ht
     ·cases ht
     ·rw [unl d hd hn t] at ht; exact hn _ _ _ ht
    ·rw [hset] at hd'; cases hd'; rw [hd] at hV; cases hV
  ·-- one is set
   rename_i n t x hop
   unfold quietOk at hq
   rw [hop] at hq
   simp only [ap,Option.isNone_iff_eq_none,al,dm] at hq
   obtain ⟨⟨⟨⟨hg,hd⟩,_⟩,hvr⟩,hlk⟩:=hq
   have hset:o.sets V=some t:=by unfold AOper.sets; rw [hop]; simp only; rw [if_pos hv]
   have hreads:o.reads=t :: x.reads:=by unfold AOper.reads; rw [hop,hg]; simp [AOp.reads,Opd.reads]
   have ht:sget S t=sget sD t:=hat t (by rw [hreads]; exact az ..)
   have hx:x.ev sD=x.ev S:=by
    cases x with
    | const v=>rfl
    | tmp u=>simp only [Opd.ev,← hat u (by rw [hreads]; simp [Opd.reads])]
   unfold isVar at hvr
   split at hvr
   case h_2=>cases hvr
   rename_i cs hcs
   have hcsD:sget sD t=some (.var cs):=by rw [← ht]; exact hcs
   have hadr:(Opd.tmp t).adr S=some (.loc t 0):=by simp only [Opd.adr,hcs]
   have hadrD:(Opd.tmp t).adr sD=some (.loc t 0):=by simp only [Opd.adr,hcsD]
   unfold evOper at e
   rw [hg] at e
   simp only [evRun,hop,evOp,hadr] at e
   cases hxs:(x.ev S).bind AVal.cells? with
   | none=>rw [hxs] at e; cases e
   | some xs =>
    rw [hxs] at e
    simp only [storeAt,hcs] at e
    by_cases hlen:xs.length=n
    ·rw [if_pos hlen] at e
     by_cases hle:0+xs.length≤cs.length
     ·rw [if_pos hle] at e
      simp only [bw,hd,setSlot] at e
      cases e
      refine ⟨(t,.var (splice cs 0 xs)) :: sD,?_,fun u=>?_,fun u hu=>?_,?_,fun d' cs' hd' hV=>?_⟩
      ·unfold evOper
       rw [hg]
       simp only [evRun,hop,evOp,hadrD,hx,hxs,storeAt,hcsD]
       rw [if_pos hlen,if_pos hle]
       simp only [bw,hd,setSlot]
      ·rw [hset]
       simp only [sget,Option.some.injEq]
       split <;> rfl
      ·rw [hset] at hu
       simp only [sget]
       rw [if_neg (fun e=>hu (by rw [e]))]
      ·intro t1 u off ht1
       simp only [sget] at ht1
       split at ht1
       ·cases ht1
       ·exact hn _ _ _ ht1
      ·rw [hset] at hd'; cases hd'; rw [hv] at hV; cases hV
     ·rw [if_neg hle] at e; cases e
    ·rw [if_neg hlen] at e; cases e
  ·exact absurd hv hc
end
section
variable {E:Env} {lo nt:Nat} {μ0:MM} {w0:World} {ds:List Deferred} {s:Slots} {h:Heap} {a:Act} {w:World} {call:CallSem} {ops:Array Oper} {locs:List Nat} {as:List AOper} {Q:Exit→Act→World→Prop} {ro:Option Nat} {V:List Nat}
theorem quietV_any (hc:CallOK E call) (hev0:CallEvol call) (hg:GidOK E) (has:cOpers E nt ops locs 0 ops.toList=some as) (hb:edgesBack ops=true)
  {p n:Nat} {h1:Heap} {s1:Slots} (hpn:p+n≤as.length) (hw1:waits (befs ops.toList []) (p+n)=true)
  (hap:∀ x y oi oj,x < n→y < n→as[p+x]? = some oi→as[p+y]? = some oj→apartV V (befs ops.toList []) (p+x) (p+y) oi oj=true)
  (hqv:∀ x o,x < n→as[p+x]? = some o→quietV V o=true) (hnl:NoLoc V s)
  (hev:evQuietV call V ((as.drop p).take n) s h=some (s1,h1))
  (hk:∀ listed' a' w',Exact ops listed' (p+n)→At E lo nt μ0 w0 ds s1 h1 a' w'→wpAnyIn (F0 ro) 0 E.P .any ops Q (ops.size - (p+n)) listed' a' w') :
  ∀ listed a w,Exact ops listed p→At E lo nt μ0 w0 ds s h a w→wpAnyIn (F0 ro) 0 E.P .any ops Q (ops.size - p) listed a w:=by
 obtain ⟨q1,q2⟩:=fz _ _ _ has
 simp only [da] at q1
 have hchain:=befs_chain (ops:=ops) ops.toList [] (by simp) (fun k i hk=>by simp at hk)
 have hblen:=fq ops.toList []
 simp only [dh,b8,da] at hblen
 have hseg:∀ x,x < n→((as.drop p).take n)[x]? = as[p+x]?:=fun x hx=>by rw [b7 hx,b0]
 have hslen:((as.drop p).take n).length=n:=by simp; omega
 obtain ⟨e1,S,b2,b3,b4⟩:=quietV_text _ _ _ _ hev
 subst e1
 rw [hslen] at b3
 have opat:∀ x,x < n→∃ o o',ops[p+x]? = some o∧as[p+x]? = some o'∧cOper E nt ops (locs.contains (p+x)) o=some o':=by
  intro x hx
  have hlt:p+x < ops.size:=by omega
  obtain ⟨o',h2,h3⟩:=q2 (p+x) ops[p+x] (by simp [hlt])
  exact ⟨ops[p+x],o',by simp [hlt],h2,by simpa using h3⟩
 have text:∀ x o',x < n→as[p+x]? = some o'→(∃ h',evOper call o' (S x) { h1 with wmin:=h1.size }=some (S (x+1),h')∧h'.size=h1.size∧h'.wmin=h1.size)∧quietOk V o' (S x)=true :=
  fun x o' hx ho=>b4 x o' (by rw [hseg x hx]; exact ho)
 have ordered:∀ x y oi oj d,x < n→y < n→x≠y→as[p+x]? = some oi→as[p+y]? = some oj→oj.sets V=some d→(oi.sets V=some d∨d ∈ oi.reads) →
   (y < x∧((befs ops.toList []).getD (p+x) 0).testBit (p+y)=true)∨(x < y∧((befs ops.toList []).getD (p+y) 0).testBit (p+x)=true):=by
  intro x y oi oj d hx hy hne hi hj hd hor
  have:=hap x y oi oj hx hy hi hj
  unfold apartV at this
  rw [hd] at this
  simp only [ap,bu,beq_iff_eq,bne_iff_ne,decide_eq_true_eq,dm,List.contains_eq_mem,decide_eq_false_iff_not] at this
  rcases this with ((h2 | h2) | h2) | h2
  ·omega
  ·rcases hor with h3 | h3
   ·exact absurd h3 h2.1
   ·exact absurd h3 h2.2
  ·exact .inl ⟨by omega,h2.2⟩
  ·exact .inr ⟨by omega,h2.2⟩
 have self:∀ x o',x < n→as[p+x]? = some o'→NoLoc V (S x)→(∀ u,o'.sets V≠some u→sget (S (x+1)) u=sget (S x) u)∧NoLoc V (S (x+1)) ∧
   (∀ d cs,o'.sets V=some d→V.contains d=false→sget (S (x+1)) d≠some (.var cs)∧sget (S x) d≠some (.var cs)):=by
  intro x o' hx ho hn
  obtain ⟨⟨h',t1,_,_⟩,t2⟩:=text x o' hx ho
  obtain ⟨_,_,_,c3,c4,c5⟩:=operV (hqv x o' hx ho) t2 t1 hn hn (fun _ _=>rfl) (fun _ _ _=>Iff.rfl)
  exact ⟨c3,c4,c5⟩
 have text_no:∀ x,x≤n→NoLoc V (S x):=by
  intro x
  induction x with
  | zero=>intro _; rw [b2]; exact hnl
  | succ x ih =>
   intro hx
   obtain ⟨_,o',_,ho',_⟩:=opat x (by omega)
   exact (self x o' (by omega) ho' (ih (by omega))).2.1
 have text_step:∀ x o' u,x < n→as[p+x]? = some o'→o'.sets V≠some u→sget (S (x+1)) u=sget (S x) u:=fun x o' u hx ho=>(self x o' hx ho (text_no x (by omega))).1 u
 have text_last:∀ x t y,y < x→x≤n→(∀ z o,y < z→z < x→as[p+z]? = some o→o.sets V≠some t)→sget (S x) t=sget (S (y+1)) t:=by
  intro x
  induction x with
  | zero=>intro t y hy; omega
  | succ x ih =>
   intro t y hy hx hno
   by_cases e:y=x
   ·subst e; rfl
   ·obtain ⟨_,o',_,ho',_⟩:=opat x (by omega)
    rw [text_step x o' t (by omega) ho' (hno x o' (by omega) (by omega) ho')]
    exact ih t y (by omega) (by omega) fun z o h2 h3=>hno z o h2 (by omega)
 have text_miss:∀ x t,x≤n→(∀ y o,y < x→as[p+y]? = some o→o.sets V≠some t)→sget (S x) t=sget s t:=by
  intro x
  induction x with
  | zero=>intro t _ _; rw [b2]
  | succ x ih =>
   intro t hx hno
   obtain ⟨_,o',_,ho',_⟩:=opat x (by omega)
   rw [text_step x o' t (by omega) ho' (hno x o' (by omega) ho')]
   exact ih t (by omega) fun y o hy=>hno y o (by omega)
 have text_var:∀ x t cs,x≤n→V.contains t=false→(sget (S x) t=some (.var cs) ↔ sget s t=some (.var cs)):=by
  intro x
  induction x with
  | zero=>intro t cs _ _; rw [b2]
  | succ x ih =>
   intro t cs hx ht
   obtain ⟨_,o',_,ho',_⟩:=opat x (by omega)
   by_cases e:o'.sets V=some t
   ·obtain ⟨n1,n2⟩:=(self x o' (by omega) ho' (text_no x (by omega))).2.2 t cs e ht
    rw [← ih t cs (by omega) ht]
    exact ⟨fun e=>absurd e n1,fun e=>absurd e n2⟩
   ·rw [text_step x o' t (by omega) ho' e]
    exact ih t cs (by omega) ht
 have main:∀ (k:Nat) (listed:Array Bool) (sD:Slots) (a:Act) (w:World),listed.size=ops.size→Down ops listed→(∀ i,i < p→listed[i]? = some true)→(∀ i,p+n≤i→i < ops.size→listed[i]? = some false) →
   ((List.range n).filter fun x=>listed[p+x]? == some false).length=k →
   (∀ t,(∃ y o,y < n∧as[p+y]? = some o∧o.sets V=some t∧listed[p+y]? = some true∧(∀ z oz,z < n→as[p+z]? = some oz→oz.sets V=some t→listed[p+z]? = some true→z≤y)∧sget sD t=sget (S (y+1)) t) ∨
    ((∀ y o,y < n→as[p+y]? = some o→o.sets V=some t→listed[p+y]?≠some true)∧sget sD t=sget s t)) →
   At E lo nt μ0 w0 ds sD h1 a w→wpAnyIn (F0 ro) 0 E.P .any ops Q (ops.size - (p+n)+k) listed a w:=by
  intro k
  induction k with
  | zero =>
   intro listed sD a w hsz hdn hlow hhigh hcount hinv hat
   have hall:∀ x,x < n→listed[p+x]? = some true:=by
    intro x hx
    have hlt:p+x < listed.size:=by omega
    have hmem:x ∉ (List.range n).filter fun x=>listed[p+x]? == some false:=by
     rw [a9 hcount]; simp
    rw [eb] at hmem
    have h2:¬ (listed[p+x]? = some false):=fun h2=>hmem ⟨bl.2 hx,by simp [h2]⟩
    rw [Array.getElem?_eq_getElem hlt] at h2 ⊢
    cases hv:listed[p+x] with
    | true=>rfl
    | false=>rw [hv] at h2; exact absurd rfl h2
   have hex:Exact ops listed (p+n):=by
    refine ⟨hsz,fun i hi=>?_⟩
    rcases am i p with h2 | h2
    ·rw [hlow i h2]; simp; omega
    ·rcases am i (p+n) with h3 | h3
     ·have:=hall (i - p) (by omega)
      rw [show p+(i - p)=i by omega] at this
      rw [this]; simp [h3]
     ·rw [hhigh i h3 hi]; simp; omega
   refine hk listed a w hex ?_
   obtain ⟨μ,ν,k1,k2,k3,k4⟩:=hat
   refine ⟨μ,ν,k1,k2,k3.congr fun t=>?_,k4⟩
   rw [← b3]
   rcases hinv t with ⟨y,o,i1,i2,i3,i4,i5,i6⟩ | ⟨i1,i2⟩
   ·rw [i6]
    refine text_last n t y i1 (aj _) fun z oz hz hzn hoz hs=>?_
    have:=i5 z oz hzn hoz hs (hall z hzn)
    omega
   ·rw [i2]
    exact text_miss n t (aj _) fun y o hy ho hs=>i1 y o hy ho hs (hall y hy)
  | succ k ih =>
   intro listed sD a w hsz hdn hlow hhigh hcount hinv hat
   have hsome:∃ x,x < n∧listed[p+x]? = some false:=by
    have hne:(List.range n).filter (fun x=>listed[p+x]? == some false)≠[]:=fun e=>by rw [e] at hcount; simp at hcount
    obtain ⟨x,hx⟩:=List.exists_mem_of_ne_nil _ hne
    rw [eb,bl] at hx
    exact ⟨x,hx.1,by simpa using hx.2⟩
   obtain ⟨xu,hxu,hxf⟩:=hsome
   refine ⟨fun hr=>?_,fun i hi=>?_⟩
   ·have:=all_listed hb hsz hr (p+xu) (by omega)
    rw [hxf] at this; cases this
   ·obtain ⟨oi,k1,k2,k3⟩:=ready_mem hsz hi
    have his:i < ops.size:=ah (l:=ops.toList) (by simpa using k1)
    have hip:p≤i:=by
     rcases am i p with h2 | h2
     ·rw [hlow i h2] at k2; cases k2
     ·exact h2
    have hin:i < p+n:=by
     rcases am i (p+n) with h2 | h2
     ·exact h2
     ·exfalso
      have hbit:=waits_at hw1 (j:=i) (i:=p+xu) (by rw [hblen]; exact his) h2 (by omega)
      have hl:=dv hdn (hchain _ _ hbit) fun o e ho he hbb=>by rw [k1] at ho; cases ho; exact k3 e he hbb
      rw [hxf] at hl; cases hl
    obtain ⟨x,rfl⟩:∃ x,i=p+x:=⟨i - p,by omega⟩
    have hxn:x < n:=by omega
    obtain ⟨o,o',h2,h3,h4⟩:=opat x hxn
    rw [h2] at k1; cases k1
    obtain ⟨⟨h',t1,t1a,t1b⟩,t2⟩:=text x o' hxn h3
    have waitsl:∀ j,(((befs ops.toList []).getD (p+x) 0).testBit j=true)→listed[j]? = some true:=fun j hbit =>
     dv hdn (hchain _ _ hbit) fun o2 e ho he hbb=>by rw [h2] at ho; cases ho; exact k3 e he hbb
    have waitsd:∀ j i,listed[j]? = some true→(((befs ops.toList []).getD j 0).testBit i=true)→listed[i]? = some true:=fun j i hl hbit =>
     dv hdn (hchain _ _ hbit) fun o2 e ho he hbb=>hdn _ _ _ hl ho he hbb
    have low:∀ t y oy,t ∈ o'.reads→y < n→as[p+y]? = some oy→oy.sets V=some t→y < x→listed[p+y]? = some true:=by
     intro t y oy ht hy hoy hs hyx
     rcases ordered x y o' oy t hxn hy (by omega) h3 hoy hs (.inr ht) with ⟨_,h6⟩ | ⟨h5,_⟩
     ·exact waitsl _ h6
     ·omega
    have high:∀ t y oy,(o'.sets V=some t∨t ∈ o'.reads)→y < n→as[p+y]? = some oy→oy.sets V=some t→listed[p+y]? = some true→y < x:=by
     intro t y oy ht hy hoy hs hl
     rcases Nat.lt_trichotomy y x with h5 | h5 | h5
     ·exact h5
     ·subst h5; rw [k2] at hl; cases hl
     ·exfalso
      rcases ordered x y o' oy t hxn hy (by omega) h3 hoy hs ht with ⟨h6,_⟩ | ⟨_,h6⟩
      ·omega
      ·have:=waitsd _ _ hl h6
       rw [k2] at this; cases this
    have hag:∀ t ∈ o'.reads,sget (S x) t=sget sD t:=by
     intro t ht
     rcases hinv t with ⟨y,oy,i1,i2,i3,i4,i5,i6⟩ | ⟨i1,i2⟩
     ·rw [i6]
      refine text_last x t y (high t y oy (.inr ht) i1 i2 i3 i4) (by omega) fun z oz hz hzx hoz hs=>?_
      have:=i5 z oz (by omega) hoz hs (low t z oz ht (by omega) hoz hs hzx)
      omega
     ·rw [i2]
      exact text_miss x t (by omega) fun y oy hy hoy hs=>i1 y oy (by omega) hoy hs (low t y oy ht (by omega) hoy hs hy)
    have hvar:∀ t cs,V.contains t=false→(sget (S x) t=some (.var cs) ↔ sget sD t=some (.var cs)):=by
     intro t cs ht
     rw [text_var x t cs (by omega) ht]
     rcases hinv t with ⟨y,oy,i1,i2,i3,i4,i5,i6⟩ | ⟨i1,i2⟩
     ·rw [i6]; exact (text_var (y+1) t cs (by omega) ht).symm
     ·rw [i2]
    have hnD:NoLoc V sD:=by
     intro t u off ht
     rcases hinv t with ⟨y,oy,i1,i2,i3,i4,i5,i6⟩ | ⟨i1,i2⟩
     ·rw [i6] at ht; exact text_no (y+1) (by omega) _ _ _ ht
     ·rw [i2] at ht; exact hnl _ _ _ ht
    obtain ⟨sD',c1,c2,_,_,_⟩:=operV (hqv x o' hxn h3) t2 t1 (text_no x (by omega)) hnD hag hvar
    refine wpOp_of h2 (quiet_step hc hev0 hg h4 c1 t1a t1b hat fun a' w' hat'=>?_)
    have hset:∀ j,j≠p+x→(listed.setIfInBounds (p+x) true)[j]? = listed[j]?:=fun j hj=>bj (fun e=>hj e.symm)
    have hself:(listed.setIfInBounds (p+x) true)[p+x]? = some true:=by simp [hsz,his]
    refine ih (listed.setIfInBounds (p+x) true) sD' a' w' (by simp [hsz]) ?_ ?_ ?_ ?_ ?_ hat'
    ·intro j oj e hj hoj he hbb
     by_cases ej:j=p+x
     ·subst ej
      rw [h2] at hoj; cases hoj
      have:=k3 e he hbb
      by_cases ee:e.on=p+x
      ·rw [ee]; exact hself
      ·rw [hset _ ee]; exact this
     ·rw [hset _ ej] at hj
      have:=hdn j oj e hj hoj he hbb
      by_cases ee:e.on=p+x
      ·rw [ee]; exact hself
      ·rw [hset _ ee]; exact this
    ·intro j hj; rw [hset j (by omega)]; exact hlow j hj
    ·intro j hj hj'; rw [hset j (by omega)]; exact hhigh j hj hj'
    ·-- one less is to come
     have hperm:((List.range n).filter fun y=>(listed.setIfInBounds (p+x) true)[p+y]? == some false)=((List.range n).filter fun y=>listed[p+y]? == some false).filter fun y=>y != x:=by
      rw [List.filter_filter]
      apply List.filter_congr
      intro y _
      by_cases ey:y=x
      ·subst ey; rw [hself]; simp
      ·rw [hset _ (by omega)]; simp [ey]
     rw [hperm]
     have hmem:x ∈ (List.range n).filter fun y=>listed[p+y]? == some false:=by
      rw [eb]; exact ⟨bl.2 hxn,by simp [k2]⟩
     have hnd:((List.range n).filter fun y=>listed[p+y]? == some false).Nodup:=List.nodup_range.sublist List.filter_sublist
     generalize (List.range n).filter (fun y=>listed[p+y]? == some false)=L at hcount hmem hnd
     have herase:L.filter (fun y=>y != x)=L.erase x:=(hnd.erase_eq_filter x).symm
     rw [herase,List.length_erase_of_mem hmem,hcount]
     rfl
    ·intro t
     rw [c2 t]
     by_cases ht:o'.sets V=some t
     ·rw [if_pos ht]
      refine .inl ⟨x,o',hxn,h3,ht,hself,fun z oz hz hoz hs hl=>?_,rfl⟩
      by_cases ez:z=x
      ·omega
      ·rw [hset _ (by omega)] at hl
       have:=high t z oz (.inl ht) hz hoz hs hl
       omega
     ·rw [if_neg ht]
      have ne:∀ z oz,as[p+z]? = some oz→oz.sets V=some t→z≠x:=by
       intro z oz hoz hs e
       subst e; rw [h3] at hoz; cases hoz; exact ht hs
      rcases hinv t with ⟨y,oy,i1,i2,i3,i4,i5,i6⟩ | ⟨i1,i2⟩
      ·refine .inl ⟨y,oy,i1,i2,i3,?_,fun z oz hz hoz hs hl=>?_,i6⟩
       ·rw [hset _ (by have:=ne y oy i2 i3; omega)]; exact i4
       ·rw [hset _ (by have:=ne z oz hoz hs; omega)] at hl
        exact i5 z oz hz hoz hs hl
      ·refine .inr ⟨fun y oy hy hoy hs=>?_,i2⟩
       rw [hset _ (by have:=ne y oy hoy hs; omega)]
       exact i1 y oy hy hoy hs
 intro listed a w hex hat
 have hcount:((List.range n).filter fun x=>listed[p+x]? == some false).length=n:=by
  have:(List.range n).filter (fun x=>listed[p+x]? == some false)=List.range n:=by
   rw [List.filter_eq_self]
   intro x hx
   rw [bl] at hx
   rw [hex.2 (p+x) (by omega)]
   simp
  rw [this,List.length_range]
 have:=main n listed s a w hex.1 (hex.down hb) (fun i hi=>by rw [hex.2 i (by omega)]; simp [hi]) (fun i hi hi'=>by rw [hex.2 i hi']; simp; omega) hcount
  (fun t=>.inr ⟨fun y o hy ho hs hl=>by
   have h5:=hex.2 (p+y) (by omega)
   rw [hl] at h5
   have h6:=of_decide_eq_true (cd h5).symm
   omega,rfl⟩) hat
 rwa [show ops.size - (p+n)+n=ops.size - p by omega] at this
end
end Go.Abs

namespace Go.Abs
section
variable {E:Env} {lo nt:Nat} {μ0:MM} {w0:World} {ds:List Deferred} {s:Slots} {h:Heap} {a:Act} {w:World} {call:CallSem} {ops:Array Oper} {locs:List Nat} {as:List AOper} {Q:Exit→Act→World→Prop} {ro:Option Nat}
theorem segs_any (hc:CallOK E call) (hev0:CallEvol call) (hg:GidOK E) (has:cOpers E nt ops locs 0 ops.toList=some as) (hb:edgesBack ops=true) :
  ∀ (segs:List (Bool × Nat)) (p:Nat) (gs:List Seg) (s:Slots) (h:Heap) (s1:Slots) (h1:Heap) (listed:Array Bool) (a:Act) (w:World),segsOk as (befs ops.toList []) p segs=true→splitSegs (befs ops.toList []) p segs (as.drop p)=some gs →
  evSegs call gs s h=some (s1,h1)→Exact ops listed p→At E lo nt μ0 w0 ds s h a w→(∀ a' w',At E lo nt μ0 w0 ds s1 h1 a' w'→Q .normal a' w')→wpAnyIn (F0 ro) 0 E.P .any ops Q (ops.size - p) listed a w
 | [],p,gs,s,h,s1,h1,listed,a,w,hok,hsp,hev,hex,hat,hn=>by
  obtain ⟨q1,_⟩:=fz _ _ _ has
  simp only [da] at q1
  simp only [segsOk,beq_iff_eq] at hok
  have hp:p=ops.size:=by omega
  subst hp
  rw [Nat.sub_self]
  unfold splitSegs at hsp
  split at hsp
  ·cases hsp
   simp only [evSegs] at hev; cases hev
   refine ⟨?_,hn _ _ hat⟩
   apply List.eq_nil_iff_forall_not_mem.2
   intro i hi
   obtain ⟨o,k1,k2,_⟩:=ready_mem hex.1 hi
   have his:i < ops.size:=ah (l:=ops.toList) (by simpa using k1)
   rw [hex.2 i his] at k2
   simp [his] at k2
  ·cases hsp
  ·contradiction
 | (true,n) :: r,p,gs,s,h,s1,h1,listed,a,w,hok,hsp,hev,hex,hat,hn=>by
  obtain ⟨q1,_⟩:=fz _ _ _ has
  simp only [da] at q1
  have hblen:=fq ops.toList []
  simp only [dh,b8,da] at hblen
  simp only [segsOk,ap,decide_eq_true_eq] at hok
  obtain ⟨⟨⟨a1,a2⟩,a34⟩,a5⟩:=hok
  simp only [splitSegs] at hsp
  split at hsp
  case isFalse=>cases hsp
  rw [ae] at hsp
  obtain ⟨gs',hsp,rfl⟩:=hsp
  rw [fj] at hsp
  simp only [evSegs,if_true] at hev
  split at hev
  case h_2=>cases hev
  rename_i s2 h2 he
  have hgo:∀ listed' a' w',Exact ops listed' (p+n)→At E lo nt μ0 w0 ds s2 h2 a' w'→wpAnyIn (F0 ro) 0 E.P .any ops Q (ops.size - (p+n)) listed' a' w':=fun listed' a' w' hex' hat' =>
   segs_any hc hev0 hg has hb r (p+n) gs' s2 h2 s1 h1 listed' a' w' a5 hsp hev hex' hat' hn
  unfold quietSeg at a34
  split at a34
  case isFalse hnv =>
   simp only [ap] at a34
   obtain ⟨⟨hsm,a3⟩,a4⟩:=a34
   rw [if_pos (by simpa using hsm)] at he
   unfold evQ at he
   rw [if_neg hnv] at he
   split at he
   case isFalse=>cases he
   rename_i hnl
   refine quietV_any hc hev0 hg has hb a2 (waits_of (by omega) r (p+n) a5) (fun x y oi oj hx hy hi hj=>?_) (fun x o hx ho=>?_) (noLocs_sound _ hnl) he hgo listed a w hex hat
   ·rw [al] at a3
    have:=a3 x (bl.2 hx)
    rw [al] at this
    have:=this y (bl.2 hy)
    rw [hi,hj] at this
    exact this
   ·rw [al] at a4
    have:=a4 x (bl.2 hx)
    rw [ho] at this
    exact this
  rename_i hnv
  simp only [ap] at a34
  obtain ⟨a3,a4⟩:=a34
  have hap:∀ x y oi oj,x < n→y < n→as[p+x]? = some oi→as[p+y]? = some oj→apart (befs ops.toList []) (p+x) (p+y) oi oj=true:=fun x y oi oj hx hy hi hj=>by
   rw [al] at a3
   have:=a3 x (bl.2 hx)
   rw [al] at this
   have:=this y (bl.2 hy)
   rw [hi,hj] at this
   exact this
  have hcs:∀ x o,x < n→as[p+x]? = some o→calm o.op=true∧(softMasks (befs ops.toList []) p ((as.drop p).take n)=[]∨soft o.op=true):=fun x o hx ho=>by
   rw [al] at a4
   have:=a4 x (bl.2 hx)
   rw [ho] at this
   simpa using this
  unfold evQ at he
  rw [if_pos hnv] at he
  split at he
  ·exact quiet_any hc hev0 hg has hb a2 (waits_of (by omega) r (p+n) a5) hap (fun x o hx ho=>(hcs x o hx ho).1) he hgo listed a w hex hat
  ·rename_i hne
   refine open_any hc hev0 hg has hb a2 (waits_of (by omega) r (p+n) a5) hap (fun x o hx ho=>(hcs x o hx ho).2.resolve_left hne) (fun x hx=>?_) he hgo listed a w hex hat
   unfold softMasks at hne ⊢
   split at hne
   ·rename_i hm
    rw [if_pos hm]
    have hl:((as.drop p).take n).length=n:=by simp; omega
    rw [hl,dj,bq,List.getElem?_range hx]
    rfl
   ·exact absurd rfl hne
 | (false,n) :: r,p,gs,s,h,s1,h1,listed,a,w,hok,hsp,hev,hex,hat,hn=>by
  obtain ⟨q1,_⟩:=fz _ _ _ has
  simp only [da] at q1
  have hblen:=fq ops.toList []
  simp only [dh,b8,da] at hblen
  simp only [segsOk,ap,decide_eq_true_eq] at hok
  obtain ⟨⟨a2,a3⟩,a5⟩:=hok
  simp only [splitSegs] at hsp
  split at hsp
  case isFalse=>cases hsp
  rw [ae] at hsp
  obtain ⟨gs',hsp,rfl⟩:=hsp
  rw [fj] at hsp
  simp only [evSegs,av,if_false] at hev
  split at hev
  case h_2=>cases hev
  rename_i s2 h2 he
  refine seq_any hc hev0 hg has hb n p s h s2 h2 listed a w a2 (fun x hx=>?_) he hex hat (fun listed' a' w' hex' hat'=>?_)
  ·rcases am x n with h3 | h3
   ·rw [al] at a3
    exact a3 x (bl.2 h3)
   ·have:x=n:=by omega
    subst this
    exact waits_of (by omega) r (p+x) a5
  ·exact segs_any hc hev0 hg has hb r (p+n) gs' s2 h2 s1 h1 listed' a' w' a5 hsp hev hex' hat' hn
theorem region_sound (hc:CallOK E call) (hev0:CallEvol call) (hg:GidOK E) (hm:E.P.follows .mixedOrders=true) {segs:List (Bool × Nat)} {draw:Bool} {gs:List Seg} {id:Nat} {s1:Slots} {h1:Heap}
  (hcr:cRegion E nt segs locs ops draw=some gs) (hev:evSegs call gs s h=some (s1,h1)) (hat:At E lo nt μ0 w0 ds s h a w) (hn:∀ a' w',At E lo nt μ0 w0 ds s1 h1 a' w'→Q .normal a' w') :
  (Code.region id ops draw).wpIn (F0 ro) 0 E.P Q a w:=by
 unfold cRegion at hcr
 split at hcr
 case h_2=>cases hcr
 rename_i as has
 split at hcr
 ·rename_i hd
  subst hd
  split at hcr
  case isFalse=>cases hcr
  rename_i hh
  simp only [ap] at hh
  apply wpIn_region_any hm
  have hat':At E lo nt μ0 w0 ds s h a { w with drawn:=w.drawn+1 }:=by
   obtain ⟨μ,ν,k1,k2,k3,k4,k5,k6⟩:=hat
   exact ⟨μ,ν,k1.heap rfl rfl rfl rfl,k2.same rfl rfl rfl,k3.heap rfl,k4,k5,k6⟩
  exact segs_any hc hev0 hg has hh.1 segs 0 gs s h s1 h1 _ _ _ hh.2 (by simpa using hcr) hev ⟨by simp,fun i hi=>by simp [hi]⟩ hat' hn
 ·rename_i hd
  have:draw=false:=by simpa using hd
  subst this
  cases hcr
  simp only [evSegs,av,if_false] at hev
  split at hev
  case h_2=>cases hev
  rename_i s2 h2 he
  cases hev
  apply wpIn_region
  have:=ops_sound (ro:=ro) (Q:=Q) hc hev0 hg ops.toList 0 as s h s1 h1 a w rfl has he hat hn
  rw [List.range_eq_range']
  simpa using this
end
end Go.Abs

namespace Go.Abs
def AExit.toX:AExit→Exit
 | .normal=>.normal
 | .exit id=>.exit id
 | .ret=>.ret
section
variable {E:Env} {lo nt:Nat} {μ0:MM} {w0:World} {ds:List Deferred} {call:CallSem} {ro:Option Nat}
theorem At.keep {s:Slots} {h:Heap} {a:Act} {w:World} (hat:At E lo nt μ0 w0 ds s h a w) (l:List Nat):At E lo nt μ0 w0 ds (Abs.keep l s) h a w:=by
 obtain ⟨μ,ν,k1,k2,k3,k4⟩:=hat
 exact ⟨μ,ν,k1,k2,k3.less fun t x hx=>sget_keep l s t x hx,k4⟩
theorem Step.alloc {X:Nat→Prop} {wm:Nat} {μ:MM} {w:World} (B:Obj):Step X wm μ w μ (w.alloc B) :=
 ⟨rfl,rfl,rfl,by simp,fun k hk _ _=>by
  show (w.heap.push B)[k]? = _
  rw [b9,if_neg (by omega)],aj _,fun _ _=>.inl rfl,fun i m hi hm=>absurd (ah hm) (by omega)⟩
theorem caps_rel {ν:Fr} {μ:MM} {s:Slots} {tmps:Array Value} {w:World} (hf:FRel E lo ν μ (sget s) tmps w):∀ {caps:List Nat} {sl:List (Nat × AVal)},capsOf s caps=some sl→∀ (k:Nat) (x:Nat × AVal),sl[k]? = some x→∃ v',tmps[x.1]? = some v'∧VRel E μ x.2 v'
 | [],sl,h,k,x,hk=>by simp only [capsOf] at h; cases h; simp at hk
 | t :: caps,sl,h,k,x,hk=>by
  simp only [capsOf] at h
  split at h
  case h_2=>cases h
  rename_i v l hs hl
  cases h
  cases k with
  | zero=>simp at hk; subst hk; exact hf.val t v hs
  | succ k=>exact caps_rel hf hl k x (by simpa using hk)
theorem next_sound {it:Operand} {x:Opd} (hx:cOpd E it=some x) {o:Oper} (ho:o.op = .next it false) (hd:∀ t,o.dst=some t→t < nt) {st:St} {l:List (AExit × St)} (hev:nextOuts o.dst x st=some l) {a:Act} {w:World}
  (hat:At E lo nt μ0 w0 ds st.s st.h a w) {next:Act→World→Prop} {Q:Exit→Act→World→Prop} (hn:∀ y ∈ l,y.1 = .normal→∀ a' w',At E lo nt μ0 w0 ds y.2.s y.2.h a' w'→next a' w'):o.wpIn (F0 ro) 0 E.P a w next Q:=by
 obtain ⟨s,h⟩:=st
 obtain ⟨μ,ν,k1,k2,k3,k4,k5,k6⟩:=hat
 refine ⟨fun _ _=>trivial,?_⟩
 rw [Oper.semAt_eq _ _ _ (fun c hc'=>by rw [ho] at hc'; cases hc')]
 have exec:∀ (v:Value) (w':World),(Instr.next (a.eval it) false o.type).run E.P w = .ok v w'→(execOp a.eval o).run E.P w = .ok (.value v) w':=fun v w' e=>by
  simp only [execOp,ho]
  exact gh e
 unfold nextOuts at hev
 split at hev
 case h_2=>cases hev
 rename_i i hxv
 have hix:=a8 k3 hx hxv
 simp only [VRel] at hix
 obtain ⟨ad,hit,mo,hmo,had⟩:=hix
 split at hev
 case isFalse=>cases hev
 rename_i hb
 simp only at hb hev
 have over:∀ (m:M),μ[i]? = some (some m)→At E lo nt μ0 w0 ds (setSlot o.dst (.val (.tuple [.bool false])) s) (h.put i .dead) (a.put o.dst (.tuple #[.bool false])) w:=by
  intro m hm
  refine ⟨μ.set i none,ν,?_,k2.kill i,?_,by rw [put_size]; exact k4,by rw [put_defers]; exact k5,k6⟩
  ·exact k1.trans (Step.kill μ w (cw _ _)) (Nat.min_le_left _ _)
  ·rw [ed]
   refine (FRel.setVal ?_ (fun y hy=>by rw [k4]; exact hd y hy) (by simp only [VRel]; exact ⟨_,rfl,by simp [VRels,VRel]⟩)).congr fun t=>er _ _ _ _
   exact k3.keep (later_set μ i) (fun t cs hv=>rfl) (fun t cs j m' hv hj hm'=>absurd (ah hm') (by simp; omega)) fun r hr=>⟨rfl,fun j m' hj hm'=>absurd (ah hm') (by simp; omega)⟩
 split at hev
 ·rename_i since seen last hgi
  cases hev
  obtain ⟨mi,r',⟨q1,hbase⟩,q2,q3⟩:=k2.obj _ _ hgi
  rw [q1] at hmo; cases hmo
  have had':=had mi rfl
  subst had'
  simp only [VRel] at q3
  have q3':r'=none:=by simpa using q3
  subst q3'
  have hrun:(Instr.next (a.eval it) false o.type).run E.P w = .ok (.tuple #[.bool false]) w:=by
   rw [hit]
   simp [Instr.next,getObj,Sem.run,q2,Result.andThen,hbase]
  rw [exec _ _ hrun]
  exact hn _ (c9 _) rfl _ _ (over mi q1)
 ·rename_i m since seen last hgi
  split at hev
  case h_2=>cases hev
  rename_i es clock hgm
  split at hev
  case isFalse=>cases hev
  rename_i hh
  obtain ⟨hold,hsc⟩:=hh
  obtain ⟨mi,r',⟨q1,hbase⟩,q2,q3⟩:=k2.obj _ _ hgi
  rw [q1] at hmo; cases hmo
  have had':=had mi rfl
  subst had'
  rw [hbase] at hit
  obtain ⟨mm,es',p1,p2,p3,p4⟩:=k2.obj _ _ hgm
  have q3':=q3
  simp only [VRel] at q3
  obtain ⟨bm,xo,e1,e2,e3⟩:=q3
  rw [p1] at e2; cases e2
  have e3:=e3 mm rfl
  subst e3
  have e1:r'=some mm.blk:=by simpa using e1
  subst e1
  have at_:∀ (k:Nat) (y:MapEntry),es'.toList[k]? = some y→∃ z,es[k]? = some z∧VRel E μ z.1 y.key∧VRel E μ z.2.1 y.val∧y.born=z.2.2:=by
   intro k y hk
   have hlt:=ah hk
   simp only [da] at hlt
   obtain ⟨z,hz⟩:∃ z,es[k]? = some z:=⟨_,ag (by omega)⟩
   obtain ⟨y',y1,y2,y3,y4⟩:=p4 k z hz
   have:y'=y:=by
    rw [← gl,hk] at y1
    exact (cd y1).symm
   subst this
   exact ⟨z,hz,y2,y3,y4⟩
  have hold':∀ y ∈ es'.toList,y.born < since:=by
   intro y hy
   obtain ⟨k,hk⟩:=dp hy
   obtain ⟨z,z1,_,_,z4⟩:=at_ k y hk
   rw [al] at hold
   have:=hold z (aq z1)
   rw [z4]
   simpa using this
  have hin:∀ (k:Nat) (z:AVal × AVal × Nat),es[k]? = some z→(!seen.contains z.2.2)=true→(leftOf es' seen.toArray).size≠0:=by
   intro k z hz hs h0
   obtain ⟨y,y1,_,_,y4⟩:=p4 k z hz
   have hmem:y ∈ leftOf es' seen.toArray:=by
    unfold leftOf
    rw [Array.mem_filter]
    refine ⟨Array.mem_of_getElem? y1,?_⟩
    rw [y4]
    simpa using hs
   rw [Array.eq_empty_of_size_eq_zero h0] at hmem
   simp at hmem
  rcases run_next_at (P:=E.P) w o.type mi.blk mm.blk since last seen.toArray es' clock q2 p2 hold' hsc with ⟨h0,hrun⟩ | ⟨y,hy,w1,hw1,hrun⟩
  ·-- nothing is left
   rw [exec _ _ (by rw [hit]; exact hrun)]
   split at hev
   ·cases hev
    exact hn _ (c9 _) rfl _ _ (over mi q1)
   ·rename_i hne
    exfalso
    cases hf:es.filter fun e=>!seen.contains e.2.2 with
    | nil=>exact hne hf
    | cons z zs =>
     have hz:z ∈ es.filter fun e=>!seen.contains e.2.2:=by rw [hf]; exact az ..
     rw [eb] at hz
     obtain ⟨k,hk⟩:=dp hz.1
     exact hin k z hk hz.2 h0
  ·-- an entry
   have hy':y ∈ es'.toList∧(!seen.contains y.born)=true:=by
    unfold leftOf at hy
    rw [Array.mem_toList_iff,Array.mem_filter] at hy
    exact ⟨Array.mem_toList_iff.2 hy.1,by simpa using hy.2⟩
   obtain ⟨k,hk⟩:=dp hy'.1
   obtain ⟨z,z1,z2,z3,z4⟩:=at_ k y hk
   have hzf:z ∈ es.filter fun e=>!seen.contains e.2.2:=by
    rw [eb]
    exact ⟨aq z1,by rw [← z4]; exact hy'.2⟩
   rw [exec _ _ (by rw [hit]; exact hrun)]
   split at hev
   ·rename_i hf
    rw [hf] at hzf; cases hzf
   ·cases hev
    refine hn _ (List.mem_map_of_mem hzf) rfl _ _ ?_
    have hw1h:w1.heap=w.heap∧w1.os=w.os∧w1.tape=w.tape∧w1.output=w.output:=by rcases hw1 with rfl | rfl <;> exact ⟨rfl,rfl,rfl,rfl⟩
    let B:Obj:=.mapIter (some mm.blk) since (seen.toArray.push y.born) clock
    have hlt:=k2.lt i mi q1
    have hheap:(Go.ChangeMaps.setBlock w1 mi.blk B).heap=(withBlock w mi.blk B).heap:=by
     simp [Go.ChangeMaps.setBlock,withBlock,hw1h.1]
    refine ⟨μ,ν,?_,?_,?_,by rw [put_size]; exact k4,by rw [put_defers]; exact k5,?_⟩
    ·have hB:Step (fun k=>lo≤k) (h.put i (.mapIter (some m) since (seen++[z.2.2]) clock)).wmin μ w μ (withBlock w mi.blk B):=Step.put q1 (cw _ _) _
     exact (k1.trans hB (Nat.min_le_left _ _)).heap hheap hw1h.2.1 hw1h.2.2.1 hw1h.2.2.2
    ·refine (k2.put hb q1 (B:=B) ?_).same rfl rfl hheap
     exact ⟨mi,some mm.blk,⟨q1,hbase⟩,by rw [de hlt]; simp [B,z4],q3'⟩
    ·rw [ed]
     refine (FRel.setVal ?_ (fun y hy=>by rw [k4]; exact hd y hy) (by simp only [VRel]; exact ⟨_,rfl,by simp only [VRels]; exact ⟨_,_,rfl,by simp only [VRel],_,_,rfl,z2,_,_,rfl,z3,rfl⟩⟩)).congr fun t=>er _ _ _ _
     refine (k3.keep (w':=withBlock w mi.blk B) (Later.refl _) (fun t cs' hv=>a0 (k3.sepm t cs' i mi hv q1)) (fun t cs' j m' _ hj hm=>absurd (ah hm) (by omega)) fun q hq=>⟨a0 ((k3.sepd q hq).1 i mi q1),fun j m' hj hm=>absurd (ah hm) (by omega)⟩).heap hheap
    ·show lo≤(Go.ChangeMaps.setBlock w1 mi.blk B).heap.size
     rw [hheap]
     simpa [withBlock] using k6
 ·cases hev
theorem rangeFunc_sound (hc:CallOK E call) (hg:GidOK E) {f:Operand} {ps:Array Tmp} {ax bx:Code} {f':Opd} {g:Nat} {caps:List Nat} {aa ab:ACode} {ha hb:Hint} (hf:cOpd E f=some f') (hca:cCode E nt true ha ax=some aa) (hcb:cCode E nt true hb bx=some ab) (hps:(ps.all fun t=>decide (t < nt))=true)
  (hrnd:E.rnd g=some ⟨ps.toList,aa,ab⟩) {s:Slots} {h:Heap} {a:Act} {w:World} (hat:At E lo nt μ0 w0 ds s h a w) {fv:AVal} {sl:List (Nat × AVal)} (hfv:f'.ev s=some fv) (hsl:capsOf s caps=some sl) {x:AVal} {h':Heap}
  (hcall:callVal call fv [.yield h.size] (h.push (.loop g .ready none sl))=some (x,h')) {e:AExit} {st':St} (hend:loopEnd s h' h.size=some (e,st')) (hev:Evol (h.push (.loop g .ready none sl)) h') {Q:Exit→Act→World→Prop}
  (hn:∀ a' w',At E lo nt μ0 w0 ds st'.s st'.h a' w'→Q e.toX a' w'):(Code.rangeFunc f ps ax bx).wpIn (F0 none) 0 E.P Q a w:=by
 obtain ⟨μ,ν,k1,k2,k3,k4,k5,k6⟩:=hat
 unfold callVal at hcall
 split at hcall
 case h_2=>cases hcall
 rename_i gf first cp
 have hfr:=a8 k3 hf hfv
 simp only [VRel] at hfr
 obtain ⟨fid,f1,c1,e1,e2,e3,e4⟩:=hfr
 have hlen:h.size=μ.length:=k2.len.symm
 refine wpIn_rangeFunc fun fn _=>?_
 let rec0:Loop:={ state:=.ready,pending:=none,fn:=fn,tmps:=a.tmps,params:=ps,assign:=ax,body:=bx,defers:=w.heap.size }
 let w1:World:=w.alloc (.deferred (some []))
 let w2:World:=w1.alloc (.loop rec0)
 let m:M:=⟨w.heap.size+1,0,0,0⟩
 let μ1:MM:=μ++[some m]
 have hw1:w1.heap.size=w.heap.size+1:=by simp [w1]
 have hw2:w2.heap.size=w.heap.size+2:=by simp [w2,w1]
 have hargs:VRels E μ1 (first++[.yield h.size]++cp) (f1 ++ #[Value.func (.yield (w.heap.size+1)) #[] #[]]++c1).toList:=by
  have hy:VRel E μ1 (.yield h.size) (.func (.yield (w.heap.size+1)) #[] #[]):=by
   simp only [VRel]
   exact ⟨w.heap.size+1,some m,rfl,by rw [hlen]; simp [μ1],fun m' hm'=>by cases hm'; rfl⟩
  have:=((e3.later (du μ (some m))).append (show VRels E μ1 [.yield h.size] [_] from by simp only [VRels]; exact ⟨_,[],rfl,hy,rfl⟩)).append (e4.later (du μ (some m)))
  simpa using this
 have hl1:Later μ μ1:=du μ _
 have hr1:Rel E μ h w1:=k2.keep (by omega) fun i m' hm'=>by
  have:=k2.lt i m' hm'
  show (w.heap.push _)[m'.blk]? = _
  rw [b9,if_neg (by omega)]
 have hr2:Rel E μ1 (h.push (.loop g .ready none sl)) w2:=by
  refine hr1.push _ (.loop rec0) m (by simp [m,hw1]) ⟨m,rec0,by simp,by show (w1.heap.push _)[w.heap.size+1]? = _; rw [b9,if_pos (by omega)],⟨⟨⟨ps.toList,aa,ab⟩,ha,hb,hrnd,rfl,fun t ht=>?_,by rw [show rec0.tmps.size=nt from k4]; exact hca,by rw [show rec0.tmps.size=nt from k4]; exact hcb⟩,rfl,rfl,fun k x hk=>?_⟩⟩
  ·rw [Array.all_eq_true_iff_forall_mem] at hps
   have:=hps t (by simpa using ht)
   rw [show rec0.tmps.size=nt from k4]
   simpa using this
  ·obtain ⟨v',h1,h2⟩:=caps_rel k3 hsl k x hk
   exact ⟨v',h1,h2.later hl1⟩
 let ν1:Fr:=⟨ν.v,w.heap.size :: ν.ds⟩
 have hblk12:∀ b,b < w.heap.size→w2.heap[b]? = w.heap[b]?:=fun b hb=>by
  show ((w.heap.push _).push _)[b]? = _
  rw [b9,if_neg (by simp; omega),b9,if_neg (by omega)]
 have hnewm:∀ (i:Nat) (m':M),μ1[i]? = some (some m')→m'.blk < w.heap.size∨m'.blk=w.heap.size+1:=fun i m' hm'=>by
  rcases en hm' with q | ⟨_,q⟩
  ·exact .inl (k2.lt i m' q)
  ·cases q; exact .inr rfl
 have hold:∀ (i:Nat) (m':M),μ1[i]? = some (some m')→m'.blk < w.heap.size→μ[i]? = some (some m'):=fun i m' hm' hlt=>by
  rcases en hm' with q | ⟨_,q⟩
  ·exact q
  ·cases q
   have hlt':w.heap.size+1 < w.heap.size:=hlt
   omega
 have hf2:FRel E lo ν1 μ1 (sget s) a.tmps w2:=by
  refine ⟨fun t v hv=>?_,k3.undef,fun t cs hv=>?_,k3.loc,k3.sepv,fun t cs i m' hv hm'=>?_,fun r hr=>?_,fun r hr=>⟨fun i m' hm'=>?_,fun t cs hv=>?_⟩,?_⟩
  ·obtain ⟨v',h1,h2⟩:=k3.val t v hv
   exact ⟨v',h1,h2.later hl1⟩
  ·obtain ⟨h1,h2,c,e,fr,h3,h4,h5,h6⟩:=k3.var t cs hv
   exact ⟨h1,h2,c,e,fr,(hblk12 _ (k3.lt hv)).trans h3,h4,h5.later hl1,h6⟩
  ·have:=k3.lt hv
   rcases hnewm i m' hm' with q | q
   ·exact k3.sepm t cs i m' hv (hold i m' hm' q)
   ·intro e
    have e':m'.blk=ν t:=e
    omega
  ·rcases bt.1 hr with rfl | hr
   ·refine ⟨k6,?_⟩
    show ((w.heap.push _).push _)[w.heap.size]? = _
    rw [b9,if_neg (by simp),b9,if_pos rfl]
   ·obtain ⟨h1,h2⟩:=k3.ds r hr
    exact ⟨h1,(hblk12 r (k3.lt_ds hr)).trans h2⟩
  ·rcases bt.1 hr with rfl | hr
   ·rcases hnewm i m' hm' with q | q <;> omega
   ·have:=k3.lt_ds hr
    rcases hnewm i m' hm' with q | q
    ·exact (k3.sepd r hr).1 i m' (hold i m' hm' q)
    ·omega
  ·rcases bt.1 hr with rfl | hr
   ·have:=k3.lt hv
    intro e
    have e':ν t=w.heap.size:=e
    omega
   ·exact (k3.sepd r hr).2 t cs hv
  ·exact List.nodup_cons.2 ⟨fun h=>by have:=k3.lt_ds h; omega,k3.nodup⟩
 have hs2:Step (fun k=>lo≤k) h.wmin μ0 w0 μ1 w2:=(k1.trans (Step.alloc _) (aj _)).trans (Step.push (X:=fun k=>lo≤k) h.wmin μ w1 (.loop rec0) m (by simp [m,hw1])) (aj _)
 refine ⟨w.heap.size+1,[markOf w.heap.size],w2,{ target:=.fn (.func fid) c1,args:=f1 ++ #[Value.func (.yield (w.heap.size+1)) #[] #[]] },w2,fid,f1 ++ #[Value.func (.yield (w.heap.size+1)) #[] #[]]++c1,w2,run_enterLoop_outer fn a.tmps ps ax bx,?_,fun _ _=>trivial,?_,fun hh=>by simp [F0,Fence.wide] at hh,?_⟩
 ·simp only [resolve]
  rw [e1]
  simp [Deferred.ofValue,Act.eval]
 ·have:=fo hg e2 (f1 ++ #[Value.func (.yield (w.heap.size+1)) #[] #[]]++c1) w2
  simpa [invoke] using this
 ·refine CallsIn.mono (F:=F0 none) (n:=0) (hc.fn gf _ _ x h' hcall fid e2 μ1 w2 _ hargs hr2) ?_
  rintro ending w3 ⟨v',μ3,rfl,j1,j2,j3⟩
  unfold loopEnd at hend
  split at hend
  case h_2=>cases hend
  rename_i g2 st p sl2 hgi
  split at hend
  ·cases hend
  rename_i hbusy
  cases hend
  obtain ⟨m3,r3,q1,q2,q3⟩:=j3.obj _ _ hgi
  have hi1:h.size < μ1.length:=by rw [hlen]; simp [μ1]
  have hm3:m3=m:=by
   rcases j1.old h.size hi1 with q | ⟨_,q⟩
   ·rw [q] at q1
    have:μ1[h.size]? = some (some m):=by rw [hlen]; simp [μ1]
    rw [this] at q1
    cases q1; rfl
   ·rw [q] at q1; cases q1
  subst hm3
  have hst3:r3.state ≠ .busy:=by
   have:=q3.st
   cases st <;> simp only [LoopSt.is] at this <;> rw [this]
   ·simp
   ·exact absurd rfl hbusy
   ·simp
  let w4:World:=w3.putObj (w.heap.size+1) (.loop { r3 with state:=.exhausted })
  have hf3:FRel E lo ν1 μ3 (sget s) a.tmps w3:=hf2.step j1 fun _ _ h=>h
  have hwle:h'.wmin≤h.wmin:=hev.wmin
  have hat4:At E lo nt μ0 w0 ds s (h'.put h.size .dead) { a with defers:=[markOf w.heap.size]++a.defers } w4:=by
   have hput:w4=withBlock w3 m.blk (.loop { r3 with state:=.exhausted }):=rfl
   refine ⟨μ3.set h.size none,ν1,?_,?_,?_,k4,?_,?_⟩
   ·have hA:=hs2.trans (j1.weaken (Y:=fun k=>lo≤k) (aj _) fun b h _=>h.elim) hwle
    have hB:Step (fun k=>lo≤k) (h'.put h.size .dead).wmin μ3 w3 μ3 w4:=by rw [hput]; exact Step.put q1 (cw _ _) _
    have hC:Step (fun k=>lo≤k) (h'.put h.size .dead).wmin μ3 w4 (μ3.set h.size none) w4:=Step.kill μ3 w4 (cw _ _)
    exact (hA.trans hB (Nat.min_le_left _ _)).trans hC (aj _)
   ·have hkill:=j3.kill h.size
    refine hkill.keep (by simp [w4]) fun j m' hm'=>?_
    rw [hput]
    refine a0 ?_
    rw [get_set] at hm'
    split at hm'
    ·split at hm' <;> cases hm'
    ·rename_i hne
     refine j3.sep h.size j m m' hne ?_ q1 hm'
     have h1:=j3.bs
     rw [hev.base]
     have:=k2.bs
     show h.base≤h.objs.length
     exact this
   ·refine hf3.keep (later_set μ3 h.size) (fun t cs hv=>by rw [hput]; exact a0 (hf3.sepm t cs h.size m hv q1)) (fun t cs j m' hv hj hm'=>absurd (ah hm') (by simp; omega)) fun r hr=>⟨by rw [hput]; exact a0 ((hf3.sepd r hr).1 h.size m q1),fun j m' hj hm'=>absurd (ah hm') (by simp; omega)⟩
   ·show [markOf w.heap.size]++a.defers=_
    rw [k5]; rfl
   ·have:=j1.size
    simp only [w4,World.putObj_size]; omega
  refine ⟨r3.pending,w4,run_endLoop q2 hst3,?_⟩
  rw [q3.pend]
  cases p with
  | none=>exact hn _ _ hat4
  | some e0 =>
   cases e0 with
   | normal=>exact wpIn_skip (hn _ _ hat4)
   | exit id=>exact wpIn_exit (hn _ _ hat4)
   | ret=>exact wpIn_ret (hn _ _ hat4)
theorem cCode_next {inR:Bool} {c:Code} {ac:ACode} (h:cCode E nt inR .next c=some ac):∃ d y r,ac = .seq (.next d y) r:=by
 cases c <;> simp only [cCode] at h <;> (try cases h)
 split at h
 ·split at h
  ·split at h
   ·cases h
    exact ⟨_,_,_,rfl⟩
   ·cases h
  ·cases h
 ·cases h
theorem code_sound (hc:CallOK E call) (hev0:CallEvol call) (hg:GidOK E) (hm:E.P.follows .mixedOrders=true) (inR:Bool) (hro:inR=false→ro=none) (n:Nat) :
  ∀ (hint:Hint) (c:Code) (ac:ACode),cCode E nt inR hint c=some ac→(inR=false→∀ p ∈ ac.rounds,E.rnd p.1=some p.2)→∀ (st:St) (e:AExit) (st':St),evCode call n ac st=some (e,st')→∀ (a:Act) (w:World) (Q:Exit→Act→World→Prop),At E lo nt μ0 w0 ds st.s st.h a w →
   (∀ a' w',At E lo nt μ0 w0 ds st'.s st'.h a' w'→Q e.toX a' w')→c.wpIn (F0 ro) 0 E.P Q a w:=by
 intro hint
 induction hint with
 | stuck =>
  intro c ac hcc hrd st e st' hev a w Q hat hn
  simp only [cCode] at hcc
  cases hcc
  simp [evCode,Opd.ev] at hev
 | leaf =>
  intro c ac hcc hrd st e st' hev a w Q hat hn
  cases c <;> simp only [cCode] at hcc <;> (try cases hcc)
  ·simp only [evCode] at hev; cases hev
   exact wpIn_skip (hn _ _ hat)
  ·simp only [evCode] at hev; cases hev
   exact wpIn_exit (hn _ _ hat)
  ·simp only [evCode] at hev; cases hev
   exact wpIn_ret (hn _ _ hat)
 | reg segs locs =>
  intro c ac hcc hrd st e st' hev a w Q hat hn
  cases c <;> simp only [cCode] at hcc <;> (try cases hcc)
  rw [ae] at hcc
  obtain ⟨gs,hgs,rfl⟩:=hcc
  simp only [evCode] at hev
  rw [ae] at hev
  obtain ⟨⟨s1,h1⟩,hev,he⟩:=hev
  cases he
  exact region_sound hc hev0 hg hm hgs hev hat hn
 | seq x y ihx ihy =>
  intro c ac hcc hrd st e st' hev a w Q hat hn
  cases c <;> simp only [cCode] at hcc <;> (try cases hcc)
  split at hcc
  case h_2=>cases hcc
  rename_i ax ay hx hy
  cases hcc
  simp only [evCode] at hev
  apply wpIn_seq
  split at hev
  ·rename_i st1 h1
   exact ihx _ _ hx (fun hi p hp=>hrd hi p (by simp [ACode.rounds,hp])) _ _ _ h1 a w _ hat fun a' w' hat'=>ihy _ _ hy (fun hi p hp=>hrd hi p (by simp [ACode.rounds,hp])) _ _ _ hev a' w' Q hat' hn
  ·rename_i hne
   refine ihx _ _ hx (fun hi p hp=>hrd hi p (by simp [ACode.rounds,hp])) _ _ _ hev a w _ hat fun a' w' hat'=>?_
   cases e with
   | normal=>exact absurd hev (hne _)
   | exit id=>exact hn _ _ hat'
   | ret=>exact hn _ _ hat'
 | cond x y ihx ihy =>
  intro c ac hcc hrd st e st' hev a w Q hat hn
  cases c <;> simp only [cCode] at hcc <;> (try cases hcc)
  split at hcc
  case h_2=>cases hcc
  rename_i c' ax ay hcop hx hy
  cases hcc
  simp only [evCode] at hev
  have hat0:=hat
  obtain ⟨μ,ν,_,_,k3,_⟩:=hat
  split at hev
  ·rename_i hb
   have:=a8 k3 hcop hb
   simp only [VRel] at this
   exact wpIn_cond_true this (ihx _ _ hx (fun hi p hp=>hrd hi p (by simp [ACode.rounds,hp])) _ _ _ hev a w Q hat0 hn)
  ·rename_i hb
   have:=a8 k3 hcop hb
   simp only [VRel] at this
   exact wpIn_cond_false this (ihy _ _ hy (fun hi p hp=>hrd hi p (by simp [ACode.rounds,hp])) _ _ _ hev a w Q hat0 hn)
  ·cases hev
 | block x ih =>
  intro c ac hcc hrd st e st' hev a w Q hat hn
  cases c <;> simp only [cCode] at hcc <;> (try cases hcc)
  rw [ae] at hcc
  obtain ⟨ax,hx,rfl⟩:=hcc
  simp only [evCode] at hev
  apply wpIn_block
  split at hev
  ·rename_i j st1 h1
   refine ih _ _ hx hrd _ _ _ h1 a w _ hat fun a' w' hat'=>?_
   simp only [AExit.toX,Exit.inBlock]
   split at hev
   ·rename_i hj
    cases hev
    rw [if_pos hj]
    exact hn _ _ hat'
   ·rename_i hj
    cases hev
    rw [if_neg hj]
    exact hn _ _ hat'
  ·rename_i hne
   refine ih _ _ hx hrd _ _ _ hev a w _ hat fun a' w' hat'=>?_
   cases e with
   | normal=>exact hn _ _ hat'
   | exit id=>exact absurd hev (hne _ _)
   | ret=>exact hn _ _ hat'
 | loop x ih =>
  intro c ac hcc hrd st e st' hev a w Q hat hn
  cases c <;> simp only [cCode] at hcc <;> (try cases hcc)
  rename_i y
  rw [ae] at hcc
  obtain ⟨ax,hx,rfl⟩:=hcc
  simp only [evCode] at hev
  have key:∀ (m:Nat) (st:St) (a:Act) (w:World),loopN (evCode call n ax) m st=some (e,st')→At E lo nt μ0 w0 ds st.s st.h a w→Code.roundsIn (F0 ro) 0 E.P y Q m a w:=by
   intro m
   induction m with
   | zero=>intro st a w h1; simp [loopN] at h1
   | succ m ihm =>
    intro st a w h1 hat1
    rw [roundsIn_succ]
    simp only [loopN] at h1
    split at h1
    ·rename_i st1 h2
     exact ih _ _ hx hrd _ _ _ h2 a w _ hat1 fun a' w' hat'=>ihm st1 a' w' h1 hat'
    ·rename_i hne
     refine ih _ _ hx hrd _ _ _ h1 a w _ hat1 fun a' w' hat'=>?_
     cases e with
     | normal=>exact absurd h1 (hne _)
     | exit id=>exact hn _ _ hat'
     | ret=>exact hn _ _ hat'
  exact wpIn_loop_rounds n (key n st a w hev hat)
 | next =>
  intro c ac hcc hrd st e st' hev a w Q hat hn
  obtain ⟨d,y,r,rfl⟩:=cCode_next hcc
  simp [evCode] at hev
 | live l x ih =>
  intro c ac hcc hrd st e st' hev a w Q hat hn
  simp only [cCode] at hcc
  rw [ae] at hcc
  obtain ⟨ax,hx,rfl⟩:=hcc
  simp only [evCode] at hev
  exact ih _ _ hx hrd _ _ _ hev a w Q (hat.keep l) hn
 | after x l ih =>
  intro c ac hcc hrd st e st' hev a w Q hat hn
  simp only [cCode] at hcc
  rw [ae] at hcc
  obtain ⟨ax,hx,rfl⟩:=hcc
  simp only [evCode] at hev
  split at hev
  ·rename_i st1 h1
   cases hev
   exact ih _ _ hx hrd _ _ _ h1 a w Q hat fun a' w' hat'=>hn _ _ (hat'.keep l)
  ·exact ih _ _ hx hrd _ _ _ hev a w Q hat hn
 | rangeFunc g caps ha hb _ _ =>
  intro c ac hcc hrd st e st' hev a w Q hat hn
  cases c <;> simp only [cCode] at hcc <;> (try cases hcc)
  split at hcc
  case h_2=>cases hcc
  rename_i f' aa ab hf hca hcb
  split at hcc
  case isFalse=>cases hcc
  rename_i hh
  obtain ⟨hin,hps⟩:=hh
  cases hcc
  have hro':=hro hin
  subst hro'
  have hrnd:=hrd hin _ (c9 _)
  simp only [evCode] at hev
  split at hev
  case h_2=>cases hev
  rename_i fv sl hfv hsl
  split at hev
  case h_2=>cases hev
  rename_i x h' hcall
  have hevl:Evol (st.h.push (.loop g .ready none sl)) h':=by
   unfold callVal at hcall
   split at hcall
   ·exact hev0 _ _ _ _ _ hcall
   ·cases hcall
  exact rangeFunc_sound hc hg hf hca hcb hps hrnd hat hfv hsl hcall hev hevl hn
theorem flatL_get {α β:Type} {f:α→Option (List β)}:∀ {l:List α} {ys:List β},flatL f l=some ys→∀ x ∈ l,∃ zs,f x=some zs∧∀ z ∈ zs,z ∈ ys
 | [],ys,h,x,hx=>by cases hx
 | y :: l,ys,h,x,hx=>by
  simp only [flatL] at h
  split at h
  case h_2=>cases h
  rename_i a b h1 h2
  cases h
  rcases bt.1 hx with rfl | hx
  ·exact ⟨a,h1,fun z hz=>cg _ hz⟩
  ·obtain ⟨zs,k1,k2⟩:=flatL_get h2 x hx
   exact ⟨zs,k1,fun z hz=>dy _ (k2 z hz)⟩
theorem outs_sound (hc:CallOK E call) (hev0:CallEvol call) (hg:GidOK E) (hm:E.P.follows .mixedOrders=true) (inR:Bool) (hro:inR=false→ro=none) (n:Nat) :
  ∀ (hint:Hint) (c:Code) (ac:ACode),cCode E nt inR hint c=some ac→(inR=false→∀ p ∈ ac.rounds,E.rnd p.1=some p.2)→∀ (st:St) (l:List (AExit × St)),evOuts call n ac st=some l→∀ (a:Act) (w:World) (Q:Exit→Act→World→Prop),At E lo nt μ0 w0 ds st.s st.h a w →
   (∀ y ∈ l,∀ a' w',At E lo nt μ0 w0 ds y.2.s y.2.h a' w'→Q y.1.toX a' w')→c.wpIn (F0 ro) 0 E.P Q a w:=by
 have base:∀ (hint:Hint) (c:Code) (ac:ACode),cCode E nt inR hint c=some ac→(inR=false→∀ p ∈ ac.rounds,E.rnd p.1=some p.2)→∀ (st:St) (l:List (AExit × St)),(evCode call n ac st).map (fun x=>[x])=some l→∀ (a:Act) (w:World) (Q:Exit→Act→World→Prop),At E lo nt μ0 w0 ds st.s st.h a w →
   (∀ y ∈ l,∀ a' w',At E lo nt μ0 w0 ds y.2.s y.2.h a' w'→Q y.1.toX a' w')→c.wpIn (F0 ro) 0 E.P Q a w:=by
  intro hint c ac hcc hrd st l hev a w Q hat hn
  rw [ae] at hev
  obtain ⟨x,hev,rfl⟩:=hev
  exact code_sound hc hev0 hg hm inR hro n hint c ac hcc hrd st x.1 x.2 hev a w Q hat (hn x (c9 _))
 intro hint
 induction hint with
 | stuck =>
  intro c ac hcc hrd st l hev a w Q hat hn
  simp only [cCode] at hcc
  cases hcc
  simp [evOuts,Opd.ev] at hev
 | leaf =>
  intro c ac hcc hrd st l hev a w Q hat hn
  refine base .leaf c ac hcc hrd st l ?_ a w Q hat hn
  cases c <;> simp only [cCode] at hcc <;> (try cases hcc) <;> exact hev
 | reg segs locs =>
  intro c ac hcc hrd st l hev a w Q hat hn
  refine base (.reg segs locs) c ac hcc hrd st l ?_ a w Q hat hn
  cases c <;> simp only [cCode] at hcc <;> (try cases hcc)
  rw [ae] at hcc
  obtain ⟨gs,_,rfl⟩:=hcc
  exact hev
 | rangeFunc g caps ha hb _ _ =>
  intro c ac hcc hrd st l hev a w Q hat hn
  refine base (.rangeFunc g caps ha hb) c ac hcc hrd st l ?_ a w Q hat hn
  cases c <;> simp only [cCode] at hcc <;> (try cases hcc)
  split at hcc
  case h_2=>cases hcc
  split at hcc
  case isFalse=>cases hcc
  cases hcc
  exact hev
 | next =>
  intro c ac hcc hrd st l hev a w Q hat hn
  cases c <;> simp only [cCode] at hcc <;> (try cases hcc)
  rename_i id ops draw
  split at hcc
  case h_2=>cases hcc
  rename_i dst it ty pos aft rest hops
  split at hcc
  case isFalse=>cases hcc
  rename_i hd
  split at hcc
  case h_2=>cases hcc
  rename_i x as hx has
  cases hcc
  simp only [evOuts] at hev
  split at hev
  case h_2=>cases hev
  rename_i l1 h1
  apply wpIn_region
  have hsz:ops.size=rest.length+1:=by
   have:=congrArg List.length hops
   simpa using this
  have h0:ops[0]? = some ⟨dst,.next it false,ty,pos,aft,none⟩:=by
   have:=congrArg (fun l=>l[0]?) hops
   simpa using this
  have hdr:ops.toList.drop 1=rest:=by rw [hops]; rfl
  rw [hsz,List.range_eq_range',List.range'_succ]
  simp only [wpOpsIn,h0,Region.wanted,if_true]
  refine next_sound (o:=⟨dst,.next it false,ty,pos,aft,none⟩) hx rfl (fun t ht=>by
   have ht':dst=some t:=ht
   rw [ht'] at hd
   simpa using hd) h1 hat fun y hy hy1 a' w' hat'=>?_
  obtain ⟨zs,k1,k2⟩:=flatL_get hev y hy
  obtain ⟨e,st1⟩:=y
  simp only at hy1
  subst hy1
  simp only [evCode,ae] at k1
  obtain ⟨z,⟨⟨s2,h2⟩,k3,rfl⟩,rfl⟩:=k1
  have k4:evOps call as st1.s st1.h=some (s2,h2):=by
   simp only [evSegs] at k3
   split at k3
   ·rename_i s' h' e1
    cases k3
    simpa using e1
   ·cases k3
  exact ops_sound hc hev0 hg rest 1 as _ _ _ _ _ _ hdr has k4 hat' fun a2 w2 hat2=>hn _ (k2 _ (c9 _)) _ _ hat2
 | seq x y ihx ihy =>
  intro c ac hcc hrd st l hev a w Q hat hn
  cases c <;> simp only [cCode] at hcc <;> (try cases hcc)
  split at hcc
  case h_2=>cases hcc
  rename_i ax ay hx hy
  cases hcc
  simp only [evOuts] at hev
  apply wpIn_seq
  split at hev
  case h_2=>cases hev
  rename_i l1 h1
  refine ihx _ _ hx (fun hi p hp=>hrd hi p (by simp [ACode.rounds,hp])) _ _ h1 a w _ hat fun z hz a' w' hat'=>?_
  obtain ⟨zs,k1,k2⟩:=flatL_get hev z hz
  obtain ⟨e,st1⟩:=z
  cases e with
  | normal=>exact ihy _ _ hy (fun hi p hp=>hrd hi p (by simp [ACode.rounds,hp])) _ _ k1 a' w' Q hat' fun q hq=>hn q (k2 q hq)
  | exit id=>cases k1; exact hn _ (k2 _ (c9 _)) _ _ hat'
  | ret=>cases k1; exact hn _ (k2 _ (c9 _)) _ _ hat'
 | cond x y ihx ihy =>
  intro c ac hcc hrd st l hev a w Q hat hn
  cases c <;> simp only [cCode] at hcc <;> (try cases hcc)
  split at hcc
  case h_2=>cases hcc
  rename_i c' ax ay hcop hx hy
  cases hcc
  simp only [evOuts] at hev
  have hat0:=hat
  obtain ⟨μ,ν,_,_,k3,_⟩:=hat
  split at hev
  ·rename_i hb
   have:=a8 k3 hcop hb
   simp only [VRel] at this
   exact wpIn_cond_true this (ihx _ _ hx (fun hi p hp=>hrd hi p (by simp [ACode.rounds,hp])) _ _ hev a w Q hat0 hn)
  ·rename_i hb
   have:=a8 k3 hcop hb
   simp only [VRel] at this
   exact wpIn_cond_false this (ihy _ _ hy (fun hi p hp=>hrd hi p (by simp [ACode.rounds,hp])) _ _ hev a w Q hat0 hn)
  ·cases hev
 | block x ih =>
  intro c ac hcc hrd st l hev a w Q hat hn
  cases c <;> simp only [cCode] at hcc <;> (try cases hcc)
  rename_i id y
  rw [ae] at hcc
  obtain ⟨ax,hx,rfl⟩:=hcc
  simp only [evOuts] at hev
  apply wpIn_block
  rw [ae] at hev
  obtain ⟨l1,h1,rfl⟩:=hev
  refine ih _ _ hx hrd _ _ h1 a w _ hat fun z hz a' w' hat'=>?_
  have hmem:=List.mem_map_of_mem (f:=fun x:AExit × St=>match x.1 with
   | .exit j=>if j=id then (AExit.normal,x.2) else (AExit.exit j,x.2)
   | e=>(e,x.2)) hz
  obtain ⟨e,st1⟩:=z
  cases e with
  | normal=>exact hn _ hmem _ _ hat'
  | ret=>exact hn _ hmem _ _ hat'
  | exit j =>
   simp only [AExit.toX,Exit.inBlock]
   simp only at hmem
   split
   ·rename_i hj
    rw [if_pos hj] at hmem
    exact hn _ hmem _ _ hat'
   ·rename_i hj
    rw [if_neg hj] at hmem
    exact hn _ hmem _ _ hat'
 | loop x ih =>
  intro c ac hcc hrd st l hev a w Q hat hn
  cases c <;> simp only [cCode] at hcc <;> (try cases hcc)
  rename_i y
  rw [ae] at hcc
  obtain ⟨ax,hx,rfl⟩:=hcc
  simp only [evOuts] at hev
  have key:∀ (m:Nat) (st:St) (l:List (AExit × St)) (a:Act) (w:World),loopO (evOuts call n ax) m st=some l→At E lo nt μ0 w0 ds st.s st.h a w→(∀ y ∈ l,∀ a' w',At E lo nt μ0 w0 ds y.2.s y.2.h a' w'→Q y.1.toX a' w')→Code.roundsIn (F0 ro) 0 E.P y Q m a w:=by
   intro m
   induction m with
   | zero=>intro st l a w h1; simp [loopO] at h1
   | succ m ihm =>
    intro st l a w h1 hat1 hn1
    rw [roundsIn_succ]
    simp only [loopO] at h1
    split at h1
    case h_2=>cases h1
    rename_i l1 h2
    refine ih _ _ hx hrd _ _ h2 a w _ hat1 fun z hz a' w' hat'=>?_
    obtain ⟨zs,k1,k2⟩:=flatL_get h1 z hz
    obtain ⟨e,st1⟩:=z
    cases e with
    | normal=>exact ihm st1 zs a' w' k1 hat' fun q hq=>hn1 q (k2 q hq)
    | exit id=>cases k1; exact hn1 _ (k2 _ (c9 _)) _ _ hat'
    | ret=>cases k1; exact hn1 _ (k2 _ (c9 _)) _ _ hat'
  exact wpIn_loop_rounds n (key n st l a w hev hat hn)
 | live l x ih =>
  intro c ac hcc hrd st ys hev a w Q hat hn
  simp only [cCode] at hcc
  rw [ae] at hcc
  obtain ⟨ax,hx,rfl⟩:=hcc
  simp only [evOuts] at hev
  exact ih _ _ hx hrd _ _ hev a w Q (hat.keep l) hn
 | after x l ih =>
  intro c ac hcc hrd st ys hev a w Q hat hn
  simp only [cCode] at hcc
  rw [ae] at hcc
  obtain ⟨ax,hx,rfl⟩:=hcc
  simp only [evOuts] at hev
  rw [ae] at hev
  obtain ⟨l1,h1,rfl⟩:=hev
  refine ih _ _ hx hrd _ _ h1 a w Q hat fun z hz a' w' hat'=>?_
  have hmem:=List.mem_map_of_mem (f:=fun x:AExit × St=>match x.1 with
   | .normal=>(AExit.normal,(⟨Abs.keep l x.2.s,x.2.h⟩:St))
   | e=>(e,x.2)) hz
  obtain ⟨e,st1⟩:=z
  cases e with
  | normal=>exact hn _ hmem _ _ (hat'.keep l)
  | exit id=>exact hn _ hmem _ _ hat'
  | ret=>exact hn _ hmem _ _ hat'
def resOne (tmps:Array Value):ResultVar→Sem Value
 | .tmp t=>pure (tmps.getD t Go.undef)
 | .cell x t=>do loadVar t (← asAddr (tmps.getD x Go.undef))
theorem res_rel {ν:Fr} {μ:MM} {s:Slots} {h:Heap} {a:Act} {w:World} (hf:FRel E lo ν μ (sget s) a.tmps w) (hr:Rel E μ h w):∀ {rs:List ResultVar} {as:List ARes} {vs:List AVal},cRess E.P rs=some as→resultsL s h as=some vs →
  ∃ l,(rs.mapM (resOne a.tmps)).run E.P w = .ok l w∧VRels E μ vs l
 | [],as,vs,hc,he=>by
  simp only [cRess] at hc; cases hc
  simp only [resultsL] at he; cases he
  exact ⟨[],rfl,by simp [VRels]⟩
 | r :: rs,as,vs,hc,he=>by
  simp only [cRess] at hc
  split at hc
  case h_2=>cases hc
  rename_i a' as' h1 h2
  cases hc
  simp only [resultsL] at he
  split at he
  case h_2=>cases he
  rename_i v vs' h3 h4
  cases he
  obtain ⟨l,k1,k2⟩:=res_rel hf hr h2 h4
  have hone:∃ u,(resOne a.tmps r).run E.P w = .ok u w∧VRel E μ v u:=by
   cases r with
   | tmp t =>
    simp only [cRes] at h1; cases h1
    simp only [result1] at h3
    split at h3
    ·rename_i v' hs
     cases h3
     obtain ⟨u,hu,hrel⟩:=hf.val t _ hs
     refine ⟨u,?_,hrel⟩
     simp [resOne,hu]
    ·cases h3
   | cell x t =>
    simp only [cRes] at h1
    rw [ae] at h1
    obtain ⟨n,hn,rfl⟩:=h1
    simp only [result1] at h3
    split at h3
    case h_2=>cases h3
    rename_i ad had
    unfold loadAt at h3
    split at h3
    case h_2=>cases h3
    rename_i cs o hcs
    have hco:cOpd E (.tmp x)=some (.tmp x):=rfl
    obtain ⟨b,p,c,e,fr,j1,j2,j3,j4⟩:=cellsAt_rel hf hr hco had hcs
    obtain ⟨u,j5,j6⟩:=load_rel (P:=E.P) hn j2 j3 j4 h3
    refine ⟨u,?_,j6⟩
    have j1':a.tmps.getD x Go.undef = .pointer (some ⟨b,p+o,none⟩):=j1
    simp only [resOne,j1',asAddr,Sem.run_bind,Sem.run_pure,Result.andThen_ok,j5]
  obtain ⟨u,k3,k4⟩:=hone
  refine ⟨u :: l,?_,?_⟩
  ·rw [List.mapM_cons,Sem.run_bind,k3,Result.andThen_ok,Sem.run_bind,k1,Result.andThen_ok]
   rfl
  ·simp only [VRels]; exact ⟨u,l,rfl,k4,k2⟩
theorem results_rel {ν:Fr} {μ:MM} {s:Slots} {h:Heap} {a:Act} {w:World} (hf:FRel E lo ν μ (sget s) a.tmps w) (hr:Rel E μ h w) {fn:Func} {as:List ARes} {vs:List AVal} (hc:cRess E.P fn.results.toList=some as) (he:resultsL s h as=some vs) :
  ∃ v,(results fn a.tmps).run E.P w = .ok v w∧VRel E μ (tupled vs) v:=by
 obtain ⟨l,k1,k2⟩:=res_rel hf hr hc he
 have hl:=k2.length
 have hrun:(results fn a.tmps).run E.P w = .ok (if h:l.toArray.size=1 then l.toArray[0] else .tuple l.toArray) w:=by
  have e:results fn a.tmps=(do
    let vs ← fn.results.mapM (resOne a.tmps)
    pure (if h:vs.size=1 then vs[0] else .tuple vs)):=by
   unfold results
   rfl
  rw [e,Array.mapM_eq_mapM_toList,Sem.run_bind,Sem.run_map,k1]
  rfl
 refine ⟨_,hrun,?_⟩
 clear he k1 hrun
 match vs,l,hl,k2 with
 | [],[],_,_=>simp [tupled,VRel,VRels]
 | [v],[u],_,k2 =>
  simp only [VRels] at k2
  obtain ⟨u',r',e,h1,h2⟩:=k2
  cases e
  simpa [tupled] using h1
 | v :: v2 :: vs,u :: u2 :: l,_,k2 =>
  have:¬ ((u :: u2 :: l).toArray.size=1):=by simp
  rw [dif_neg this]
  simp only [tupled,VRel]
  exact ⟨_,rfl,k2⟩
end
section
theorem reach_spec (h:Heap) (n0:Nat):∀ (f:Nat) (todo acc:List Nat),acc.Nodup→(∀ i ∈ acc,n0≤i)→(reach h n0 f todo acc).Nodup∧∀ i ∈ reach h n0 f todo acc,n0≤i
 | 0,todo,acc,h1,h2=>by simp only [reach]; exact ⟨h1,h2⟩
 | f+1,[],acc,h1,h2=>by simp only [reach]; exact ⟨h1,h2⟩
 | f+1,i :: r,acc,h1,h2=>by
  simp only [reach]
  split
  ·exact reach_spec h n0 f r acc h1 h2
  ·split
   ·exact reach_spec h n0 f r acc h1 h2
   ·rename_i hi hc
    refine reach_spec h n0 f _ _ ?_ fun j hj=>?_
    ·rw [List.nodup_append]
     refine ⟨h1,by simp,fun a ha b hb=>?_⟩
     simp at hb; subst hb
     intro e; subst e
     simp at hc; exact hc ha
    ·rcases ba.1 hj with hj | hj
     ·exact h2 j hj
     ·simp at hj; omega
theorem idxIn_get:∀ {i:Nat} {l:List Nat},i ∈ l→l[idxIn i l]? = some i
 | i,[],h=>by cases h
 | i,j :: r,h=>by
  simp only [idxIn]
  split
  ·rename_i e; subst e; rfl
  ·rename_i hne
   have:i ∈ r:=by
    rcases bt.1 h with e | e
    ·exact absurd e.symm hne
    ·exact e
   simpa using idxIn_get this
end
end Go.Abs

namespace Go.Abs
section
variable {E:Env}
theorem LoopRel.ren {μ μ':MM} {g:Nat} {st:LoopSt} {p:Option AExit} {sl:List (Nat × AVal)} {r:Loop} (h:LoopRel E μ g st p sl r) (F:Nat→Nat) (hm:∀ j ∈ AObj.ids (.loop g st p sl),j < μ.length→μ'[F j]? = μ[j]?) :
  LoopRel E μ' g st p (sl.map fun x=>(x.1,x.2.ren F)) r:=by
 refine ⟨h.code,h.st,h.pend,fun k x hk=>?_⟩
 rw [bq,ae] at hk
 obtain ⟨y,hy,rfl⟩:=hk
 obtain ⟨v',h1,h2⟩:=h.slots k y hy
 refine ⟨v',h1,ren_rel F (fun i hi hl=>hm i ?_ hl) h2⟩
 simp only [AObj.ids]
 exact gt (k:=k) (by rw [bq,hy]; rfl) hi
theorem finish_sound {lo:Nat} {μ0 μ:MM} {h0 h:Heap} {w0 w:World} {v:AVal} {v':Value} (hlo:lo=w0.heap.size) (hr0:Rel E μ0 h0 w0) (hst:Step (fun k=>lo≤k) h.wmin μ0 w0 μ w) (hr:Rel E μ h w)
  (hv:VRel E μ v v') (hev:Evol { h0 with wmin:=h0.size } h) :
  ∃ μ',Step (fun _=>False) (finish h0 v h).2.wmin μ0 w0 μ' w∧VRel E μ' (finish h0 v h).1 v'∧Rel E μ' (finish h0 v h).2 w:=by
 have hX:∀ b,lo≤b→b < w0.heap.size→False:=fun b h1 h2=>by omega
 have hn0:μ0.length=h0.size:=hr0.len
 unfold finish
 split
 ·exact ⟨μ,hst.weaken (cw _ _) hX,hv,hr.same rfl rfl rfl⟩
 ·rename_i hw
  have hst1:Step (fun _=>False) μ0.length μ0 w0 μ w:=hst.weaken (by omega) hX
  have hkeep:∀ i,i < μ0.length→μ[i]? = μ0[i]?:=fun i hi=>(hst1.old i hi).resolve_right fun ⟨a,_⟩=>by omega
  have hblk:∀ (i:Nat) (m:M),μ0[i]? = some (some m)→w.heap[m.blk]? = w0.heap[m.blk]?:=fun i m hm=>by
   refine hst1.block _ (hr0.lt i m hm) (fun h=>h) fun j mj hj hmj=>?_
   exact absurd (ah hmj) (by omega)
  split
  ·rename_i hu
   refine ⟨μ0,⟨hst1.os,hst1.tape,hst1.output,hst1.size,?_,aj _,fun _ _=>.inl rfl,fun i m hi hm=>absurd (ah hm) (by omega)⟩,under_rel (fun i hi=>hkeep i (by omega)) hu hv,hr0.keep hst1.size hblk⟩
   intro k hk hx _
   exact hst1.block k hk hx fun j mj hj hmj=>absurd (ah hmj) (by omega)
  ·simp only
   split
   ·rename_i hok
    generalize hK:reach h h0.size 1000 v.ids []=K at hok ⊢
    have hspec:=reach_spec h h0.size 1000 v.ids [] (by simp) (by simp)
    rw [hK] at hspec
    obtain ⟨hnd,hge⟩:=hspec
    rw [al] at hok
    have hok':∀ i ∈ v.ids++K.flatMap fun i=>((h.get i).map AObj.ids).getD [],i < h0.size∨i ∈ K:=fun i hi=>by
     have:=hok i hi
     simpa using this
    let F:Nat→Nat:=fun i=>if i < h0.size then i else h0.size+idxIn i K
    let μ2:MM:=μ0++K.map fun i=>(μ[i]?).getD none
    have hold:∀ i,i < h0.size→μ2[i]? = μ0[i]?:=fun i hi=>ai (by omega)
    have hnew:∀ j,μ2[h0.size+j]? = (K[j]?).map fun i=>(μ[i]?).getD none:=fun j=>by
     show (μ0++_)[_]? = _
     rw [ak (by omega),hn0,Nat.add_sub_cancel_left,bq]
    have hpull:∀ (i:Nat) (m:M),μ2[i]? = some (some m)→∃ p,μ[p]? = some (some m)∧((i < h0.size∧p=i)∨(h0.size≤i∧h0.size≤p∧K[i - h0.size]? = some p)):=fun i m hm=>by
     rcases am i h0.size with hi | hi
     ·exact ⟨i,by rw [hkeep i (by omega),← hold i hi]; exact hm,.inl ⟨hi,rfl⟩⟩
     ·obtain ⟨j,rfl⟩:=Nat.exists_eq_add_of_le hi
      rw [hnew] at hm
      rw [ae] at hm
      obtain ⟨p,hp,hm⟩:=hm
      refine ⟨p,?_,.inr ⟨by omega,hge p (aq hp),by rw [Nat.add_sub_cancel_left]; exact hp⟩⟩
      cases hq:μ[p]? with
      | none=>rw [hq] at hm; cases hm
      | some x=>rw [hq] at hm; simp at hm; rw [hm]
    have hF:∀ i,(i < h0.size∨i ∈ K)→i < μ.length→μ2[F i]? = μ[i]?:=fun i hi hl=>by
     by_cases h1:i < h0.size
     ·show μ2[if i < h0.size then i else _]? = _
      rw [if_pos h1,hold i h1,hkeep i (by omega)]
     ·have h2:i ∈ K:=hi.resolve_left h1
      show μ2[if i < h0.size then i else _]? = _
      rw [if_neg h1,hnew,idxIn_get h2]
      simp [ag hl]
    have hl2:Later μ0 μ2:=⟨by simp [μ2],fun i hi=>.inl (hold i (by omega))⟩
    refine ⟨μ2,?_,?_,?_⟩
    ·refine ⟨hst1.os,hst1.tape,hst1.output,hst1.size,?_,hl2.len,fun i hi=>.inl (hold i (by omega)),?_⟩
     ·intro k hk hx _
      exact hst1.block k hk hx fun j mj hj hmj=>absurd (ah hmj) (by omega)
     ·intro i m hi hm
      obtain ⟨p,hp,h1 | h1⟩:=hpull i m hm
      ·omega
      ·rcases hst1.new p m (by omega) hp with h2 | ⟨r,m0,h2,h3,_⟩
       ·exact .inl h2
       ·exact absurd (ah h3) (by omega)
    ·exact ren_rel F (fun i hi hl=>hF i (hok' i (cg _ hi)) hl) hv
    ·constructor
     ·simp [μ2,hn0,Heap.size]
     ·have:=hr0.bs; simp; omega
     ·intro i o ho
      simp only at ho
      rcases am i h0.size with hi | hi
      ·rw [ai hi] at ho
       refine (hr0.obj i o ho).keep hl2 fun m hm=>⟨by rw [hold i hi]; exact hm,hblk i m hm⟩
      ·obtain ⟨j,rfl⟩:=Nat.exists_eq_add_of_le hi
       rw [ak hi,show h0.size+j - h0.objs.length=j from Nat.add_sub_cancel_left ..,bq,ae] at ho
       obtain ⟨p,hp,ho⟩:=ho
       have hpg:=hge p (aq hp)
       have hbs:=hr0.bs
       have hbase:h.base=h0.base:=hev.base
       have hbs':h0.base≤h0.size:=hbs
       cases hq:h.get p with
       | none =>
        rw [hq] at ho
        simp at ho; subst ho
        have hq':h.objs[p]? = none:=hq
        have:μ[p]? = none:=by
         rw [List.getElem?_eq_none_iff] at hq' ⊢
         rw [hr.len]; exact hq'
        show μ2[_]? = _
        rw [hnew,hp]; simp [this]
       | some o' =>
        rw [hq] at ho
        simp at ho; subst ho
        have hids:∀ i ∈ o'.ids,i < μ.length→μ2[F i]? = μ[i]?:=fun i hi hl=>hF i (hok' i (dy _ (cj.2 ⟨p,aq hp,by rw [hq]; simpa using hi⟩))) hl
        have hm2:∀ x,μ[p]? = some x→μ2[h0.size+j]? = some x:=fun x hx=>by rw [hnew,hp]; simp [hx]
        have hor:=hr.obj p o' hq
        cases o' with
        | dead=>exact hm2 _ hor
        | cells esz cs =>
         obtain ⟨m,c,e,fr,h1,h2,h3,h4,h5,h6,h7⟩:=hor
         refine ⟨m,c,e,fr,hm2 _ h1,h2,h3,h4,by rw [renL_length]; exact h5,?_,fun _=>h7 (by omega)⟩
         intro k x hk
         change (AVal.renL F cs)[k]? = _ at hk
         rw [renL_get,ae] at hk
         obtain ⟨y,hy,rfl⟩:=hk
         obtain ⟨k1,y',k2,k3⟩:=h6 k y hy
         refine ⟨(isOne_ren F y).trans k1,y',k2,ren_rel F (fun i hi hl=>hids i (gt hy hi) hl) k3⟩
        | map es clock =>
         obtain ⟨m,es',h1,h2,h3,h4⟩:=hor
         refine ⟨m,es',hm2 _ h1,h2,by rw [List.length_map]; exact h3,?_⟩
         intro k x hk
         rw [bq,ae] at hk
         obtain ⟨y,hy,rfl⟩:=hk
         obtain ⟨y',k1,k2,k3,k4⟩:=h4 k y hy
         have hin:∀ i,i ∈ y.1.ids∨i ∈ y.2.1.ids→i ∈ AObj.ids (.map es clock):=fun i hi=>by
          simp only [AObj.ids,cj,ba]
          exact ⟨y,aq hy,hi⟩
         exact ⟨y',k1,ren_rel F (fun i hi hl=>hids i (hin i (.inl hi)) hl) k2,ren_rel F (fun i hi hl=>hids i (hin i (.inr hi)) hl) k3,k4⟩
        | iter s pos =>
         obtain ⟨m,h1,h2⟩:=hor
         exact ⟨m,hm2 _ h1,h2⟩
        | mapIter r a b c =>
         obtain ⟨m,r',⟨h1,h0⟩,h2,h3⟩:=hor
         refine ⟨m,r',⟨hm2 _ h1,h0⟩,h2,?_⟩
         have h4:=ren_rel F (fun i hi hl=>hids i (by cases r <;> exact hi) hl) h3
         cases r <;> simpa [AVal.ren] using h4
        | loop g st pd sl =>
         obtain ⟨m,r,h1,h2,h3⟩:=hor
         exact ⟨m,r,hm2 _ h1,h2,h3.ren F hids⟩
     ·intro i j mi mj hij hi hmi hmj
      obtain ⟨p,hp,hp'⟩:=hpull i mi hmi
      obtain ⟨q,hq,hq'⟩:=hpull j mj hmj
      have hbs:h0.base≤h0.size:=hr0.bs
      have hbase:h.base=h0.base:=hev.base
      refine hr.sep p q mi mj ?_ (by simp only at hi; omega) hp hq
      intro e
      rcases hp' with ⟨a1,a2⟩ | ⟨a1,a2,a3⟩ <;> rcases hq' with ⟨b1,b2⟩ | ⟨b1,b2,b3⟩
      ·omega
      ·omega
      ·omega
      ·subst e
       have:=(List.getElem?_inj (ah a3) hnd).1 (a3.trans b3.symm)
       omega
     ·intro i m hm
      obtain ⟨p,hp,_⟩:=hpull i m hm
      exact hr.lt p m hp
   ·refine ⟨μ,?_,hv,hr.same rfl rfl rfl⟩
    exact hst1.fresh _
theorem enter_get:∀ (args:List AVal) (i t:Nat),sget (enter i args) t=if i≤t then (args[t - i]?).map Slot.val else none
 | [],i,t=>by simp [enter,sget]
 | v :: r,i,t=>by
  simp only [enter,sget]
  split
  ·rename_i e; subst e; simp
  ·rename_i hne
   rw [enter_get r (i+1) t]
   by_cases h1:i+1≤t
   ·rw [if_pos h1,if_pos (by omega),show t - i=(t - (i+1))+1 by omega,List.getElem?_cons_succ]
   ·rw [if_neg h1,if_neg (by omega)]
def RndOK (E:Env):List (Nat × ARound)→Prop
 | []=>True
 | p :: r=>E.rnd p.1=some p.2∧RndOK E r
theorem RndOK.of {l:List (Nat × ARound)} (h:RndOK E l):∀ p ∈ l,E.rnd p.1=some p.2:=by
 induction l with
 | nil=>simp
 | cons a r ih =>
  intro p hp
  rcases bt.1 hp with rfl | hp
  ·exact h.1
  ·exact ih h.2 p hp
structure LibOK (E:Env) (f:FuncId) (fn:Func) (F:List AVal→Heap→Option (AVal × List (Nat × AObj) × List AObj)):Prop where
 name:fn.name ≠ "runtime.NumGoroutine"
 body:fn.body.isSome=true
 run:∀ args h v ps xs,F args h=some (v,ps,xs)→∀ (μ:MM) (w:World) (args':Array Value),VRels E μ args args'.toList→Rel E μ h w→Calls E.P f args' w (Ends E μ w v (h.puts ps xs))
structure ByOK (E:Env) (T:Nat→Option AFunc) (f g:Nat) (fn:Func):Prop where
 name:fn.name ≠ "runtime.NumGoroutine"
 body:fn.body.isSome=true
 run:∀ args h v h',xCall T g args h=some (v,h')→∀ (μ:MM) (w:World) (args':Array Value),VRels E μ args args'.toList→Rel E μ h w→Calls E.P f args' w (Ends E μ w v h')
def FnOK (E:Env) (T:Nat→Option AFunc) (f g:Nat):Prop :=
 (∃ fn,E.P.funcs[f]? = some fn∧ByOK E T f g fn) ∨
 (∃ fn closed hint af,E.P.funcs[f]? = some fn∧T g=some af∧cFunc E closed hint fn=some af∧RndOK E af.body.rounds) ∨
 (∃ fn af F,E.P.funcs[f]? = some fn∧T g=some af∧af.round=some (.lib F)∧LibOK E f fn F)
structure Agrees (E:Env) (T:Nat→Option AFunc):Prop where
 fn:∀ f g,E.gid f=some g→FnOK E T f g
 rnd:∀ g ar,E.rnd g=some ar→∃ af,T g=some af∧af.round=some (.round ar)
def AgreesL (E:Env) (T:Nat→Option AFunc):List (Nat × Nat)→Prop
 | []=>True
 | p :: r=>FnOK E T p.1 p.2∧AgreesL E T r
def ASpec.rnd:ASpec→Option ARound
 | .round r=>some r
 | .lib _=>none
def rndOf (T:Nat→Option AFunc) (g:Nat):Option ARound:=(T g).bind fun f=>f.round.bind ASpec.rnd
theorem agrees_of {P:Program} {T:Nat→Option AFunc} {l:List (Nat × Nat)} {room:Nat} (h:AgreesL ⟨P,fun f=>List.lookup f l,rndOf T,room⟩ T l):Agrees ⟨P,fun f=>List.lookup f l,rndOf T,room⟩ T:=by
 constructor
 ·intro f g hg
  simp only at hg
  have:∀ {r:List (Nat × Nat)},AgreesL ⟨P,fun f=>List.lookup f l,rndOf T,room⟩ T r→List.lookup f r=some g→FnOK ⟨P,fun f=>List.lookup f l,rndOf T,room⟩ T f g:=by
   intro r
   induction r with
   | nil=>intro _ h1; simp at h1
   | cons p r ih =>
    intro h1 h2
    obtain ⟨a,b⟩:=p
    simp only [AgreesL] at h1
    rw [List.lookup_cons] at h2
    split at h2
    ·rename_i e
     rw [beq_iff_eq] at e
     subst e
     cases h2
     exact h1.1
    ·exact ih h1.2 h2
  exact this h hg
 ·intro g ar hg
  simp only [rndOf,d8] at hg
  obtain ⟨af,h1,s,h2,h3⟩:=hg
  cases s with
  | round r=>cases h3; exact ⟨af,h1,h2⟩
  | lib _=>cases h3
theorem Agrees.gid {T:Nat→Option AFunc} (h:Agrees E T):GidOK E:=fun f g hg=>by
 rcases h.fn f g hg with ⟨fn,h1,h4⟩ | ⟨fn,closed,hint,af,h1,h2,h3,_⟩ | ⟨fn,af,F,h1,_,_,h4⟩
 case inl=>exact ⟨fn,h1,h4.name,h4.body⟩
 case inr.inr=>exact ⟨fn,h1,h4.name,h4.body⟩
 refine ⟨fn,h1,?_⟩
 unfold cFunc at h3
 split at h3
 case h_2=>cases h3
 rename_i c hb
 split at h3
 case h_2=>cases h3
 split at h3
 case isFalse=>cases h3
 rename_i hn
 exact ⟨hn.2,by rw [hb]; rfl⟩
theorem cFunc_round {closed:Bool} {hint:Hint} {fn:Func} {af:AFunc} (h:cFunc E closed hint fn=some af):af.round=none:=by
 unfold cFunc at h
 split at h
 case h_2=>cases h
 split at h
 case h_2=>cases h
 split at h
 case isFalse=>cases h
 cases h
 rfl
theorem leaves_marks {lo:Nat} {μ μ0:MM} {w0:World} {s:Slots} {h:Heap} {a:Act} {fn:Func} {rs:List ARes} {vs:List AVal} (hrs:cRess E.P fn.results.toList=some rs) (hvs:resultsL s h rs=some vs) {R:Ending→World→Prop}
  (hR:∀ v' w',VRel E μ (tupled vs) v'→Step (fun k=>lo≤k) h.wmin μ0 w0 μ w'→Rel E μ h w'→R (.returned v') w') :
  ∀ (l:List Nat) (νv:Nat→Nat) (w:World),Step (fun k=>lo≤k) h.wmin μ0 w0 μ w→Rel E μ h w→FRel E lo ⟨νv,l⟩ μ (sget s) a.tmps w→LeavesInM (F0 none) 0 E.P fn a.tmps R (l.map markOf) .returning w
 | [],νv,w,hst,hr,hf=>by
  obtain ⟨v',r1,r2⟩:=results_rel hf hr hrs hvs
  exact ⟨v',r1,hR v' w r2 hst hr⟩
 | r :: l,νv,w,hst,hr,hf=>by
  have hmem:r ∈ (⟨νv,r :: l⟩:Fr).ds:=az ..
  have hnd:=hf.nodup
  have hnd':=List.nodup_cons.1 hnd
  obtain ⟨hlo,hblk⟩:=hf.ds r hmem
  have hw:w.putObj r (.deferred none)=withBlock w r (.deferred none):=rfl
  refine ⟨by simp,.inl ⟨r,w.putObj r (.deferred none),rfl,run_takeDeferred hblk,leaves_marks hrs hvs hR l νv _ ?_ ?_ ?_⟩⟩
  ·refine hst.trans (Step.mk rfl rfl rfl (by simp) (fun k hk hx _=>?_) (aj _) (fun _ _=>.inl rfl) fun i m hi hm=>absurd (ah hm) (by omega)) (aj _)
   rw [hw]
   exact a0 (by intro e; subst e; exact hx hlo)
  ·exact hr.keep (by simp) fun i m hm=>by rw [hw]; exact a0 ((hf.sepd r hmem).1 i m hm).symm
  ·refine ⟨hf.val,hf.undef,fun t cs hv=>?_,hf.loc,hf.sepv,hf.sepm,fun q hq=>⟨(hf.ds q (bd _ hq)).1,?_⟩,fun q hq=>hf.sepd q (bd _ hq),hnd'.2⟩
   ·obtain ⟨h1,h2,c,e,fr,h3,h4⟩:=hf.var t cs hv
    refine ⟨h1,h2,c,e,fr,?_,h4⟩
    rw [hw]
    exact (a0 ((hf.sepd r hmem).2 t cs hv).symm).trans h3
   ·rw [hw]
    refine (a0 ?_).trans (hf.ds q (bd _ hq)).2
    intro e; subst e; exact hnd'.1 hq
theorem eqbE_eq:∀ {l m:List (AVal × AVal × Nat)},eqbE l m=true→l=m
 | [],[],_=>rfl
 | [],_ :: _,h=>by simp [eqbE] at h
 | _ :: _,[],h=>by simp [eqbE] at h
 | (k,v,b) :: r,(k',v',b') :: r',h=>by
  simp only [eqbE,ap,decide_eq_true_eq] at h
  rw [AVal.eq_of h.1.1.1,AVal.eq_of h.1.1.2,h.1.2,eqbE_eq h.2]
theorem eqbS_eq:∀ {l m:List (Nat × AVal)},eqbS l m=true→l=m
 | [],[],_=>rfl
 | [],_ :: _,h=>by simp [eqbS] at h
 | _ :: _,[],h=>by simp [eqbS] at h
 | (k,v) :: r,(k',v') :: r',h=>by
  simp only [eqbS,ap,decide_eq_true_eq] at h
  rw [h.1.1,AVal.eq_of h.1.2,eqbS_eq h.2]
theorem AObj.eq_of {a b:AObj} (h:a.eqb b=true):a=b:=by
 cases a <;> cases b <;> simp only [AObj.eqb,ap,decide_eq_true_eq,av] at h
 ·rfl
 ·rw [h.1,AVal.eqL_of h.2]
 ·rw [eqbE_eq h.1,h.2]
 ·rw [h.1,h.2]
 ·rw [h.1.1.1,h.1.1.2,h.1.2,h.2]
 ·rw [h.1.1.1,h.1.1.2,h.1.2,eqbS_eq h.2]
theorem eqbO_eq:∀ {l m:List AObj},eqbO l m=true→l=m
 | [],[],_=>rfl
 | [],_ :: _,h=>by simp [eqbO] at h
 | _ :: _,[],h=>by simp [eqbO] at h
 | a :: r,b :: r',h=>by
  simp only [eqbO,ap] at h
  rw [AObj.eq_of h.1,eqbO_eq h.2]
theorem eqbR_eq {x y:AVal × Heap} (h:eqbR x y=true):x=y:=by
 obtain ⟨v,o,b,w⟩:=x
 obtain ⟨v',o',b',w'⟩:=y
 simp only [eqbR,ap,decide_eq_true_eq] at h
 rw [AVal.eq_of h.1.1.1,eqbO_eq h.1.1.2,h.1.2,h.2]
theorem allSame_all {l:List (Option (AVal × Heap))} {r:AVal × Heap} (h:allSame l=some r):∀ x ∈ l,x=some r:=by
 unfold allSame at h
 split at h
 case h_2=>cases h
 split at h
 case isFalse=>cases h
 rename_i hh
 cases h
 rw [al] at hh
 intro x hx
 rcases bt.1 hx with rfl | hx
 ·rfl
 ·have:=hh x hx
  split at this
  ·rw [eqbR_eq this]
  ·cases this
theorem func_sound {call:CallSem} {n:Nat} (hc:CallOK E call) (hev0:CallEvol call) (hg:GidOK E) (hm:E.P.follows .mixedOrders=true) {f:FuncId} {fn:Func} {closed:Bool} {hint:Hint} {af:AFunc} (hf:E.P.funcs[f]? = some fn) (hcf:cFunc E closed hint fn=some af) (hrd:RndOK E af.body.rounds)
  {args:List AVal} {h:Heap} {v:AVal} {h':Heap} (hev:evFunc call n af args h=some (v,h')) {μ:MM} {w:World} {args':Array Value} (ha:VRels E μ args args'.toList) (hr:Rel E μ h w) :
  CallsIn (F0 none) 0 E.P f args' w (Ends E μ w v h'):=by
 unfold cFunc at hcf
 split at hcf
 case h_2=>cases hcf
 rename_i c hb
 split at hcf
 case h_2=>cases hcf
 rename_i ac rs hac hrs
 split at hcf
 case isFalse=>cases hcf
 rename_i hsz
 cases hcf
 unfold evFunc at hev
 split at hev
 case isFalse=>cases hev
 rename_i hlen
 simp only at hlen hev
 have hal:args'.size=args.length:=by have:=ha.length; simp at this; exact this.symm
 have hat:At E w.heap.size fn.ntmps μ w [] (enter 0 args) { h with wmin:=h.size } { tmps:=args'++Array.replicate (fn.ntmps - args'.size) undef,defers:=[] } w:=by
  refine ⟨μ,⟨fun _=>0,[]⟩,Step.refl _ _ _ _,hr.same rfl rfl rfl,?_,?_,rfl,aj _⟩
  ·have hval:∀ (t:Nat) (x:Slot),sget (enter 0 args) t=some x→∃ v,x = .val v∧args[t]? = some v:=fun t x hx=>by
    rw [enter_get] at hx
    simp at hx
    obtain ⟨v,h1,h2⟩:=hx
    exact ⟨v,h2.symm,h1⟩
   constructor
   ·intro t v hv
    obtain ⟨v1,e,h1⟩:=hval t _ hv
    cases e
    obtain ⟨v',h2,h3⟩:=ha.get h1
    refine ⟨v',?_,h3⟩
    have hlt:=ah h1
    rw [Array.getElem?_append_left (by omega)]
    simpa using h2
   ·intro t hx; obtain ⟨_,e,_⟩:=hval t _ hx; cases e
   ·intro t cs hx; obtain ⟨_,e,_⟩:=hval t _ hx; cases e
   ·intro t t' o cs hx; obtain ⟨_,e,_⟩:=hval t _ hx; cases e
   ·intro t t' cs cs' _ hx; obtain ⟨_,e,_⟩:=hval t _ hx; cases e
   ·intro t cs i m hx; obtain ⟨_,e,_⟩:=hval t _ hx; cases e
   ·intro r hr; cases hr
   ·intro r hr; cases hr
   ·exact List.nodup_nil
  ·simp; omega
 refine callsIn_of_wp_marks hf hb trivial ?_
 have leave:∀ (y:AExit × St),Evol { h with wmin:=h.size } y.2.h→funcEnd ⟨closed,ac.wild,fn.params.size+fn.nfree,fn.ntmps,rs,ac,none⟩ h y=some (v,h')→∀ a' w',At E w.heap.size fn.ntmps μ w [] y.2.s y.2.h a' w' →
   bodyPostM (F0 none) 0 E.P fn (Ends E μ w v h') y.1.toX a' w':=by
  intro y hevol he a' w' hat'
  have key:((resultsL y.2.s y.2.h rs).map fun vs=>finish h (tupled vs) y.2.h)=some (v,h')→LeavesInM (F0 none) 0 E.P fn a'.tmps (Ends E μ w v h') a'.defers .returning w':=by
   intro h2
   rw [ae] at h2
   obtain ⟨vs,h2,h3⟩:=h2
   obtain ⟨μ1,ν1,k1,k2,k3,k4,k5,k6⟩:=hat'
   rw [k5,List.append_nil]
   refine leaves_marks hrs h2 (fun v' w2 r2 k1' k2'=>?_) ν1.ds ν1.v w' k1 k2 k3
   obtain ⟨μ2,s1,s2,s3⟩:=finish_sound rfl hr k1' k2' r2 hevol
   rw [h3] at s1 s2 s3
   exact ⟨v',μ2,rfl,s1,s2,s3⟩
  obtain ⟨x,st⟩:=y
  cases x with
  | normal=>exact key he
  | ret=>exact key he
  | exit id=>simp [funcEnd] at he
 split at hev
 ·split at hev
  case h_2=>cases hev
  rename_i l hl
  refine outs_sound hc hev0 hg hm false (fun _=>rfl) n _ _ _ hac (fun _=>hrd.of) _ _ hl _ _ _ hat fun y hy a' w' hat'=>?_
  have hall:=allSame_all hev
  exact leave y (outs_evol hev0 n _ _ _ hl y hy) (hall _ (List.mem_map_of_mem hy)) a' w' hat'
 ·split at hev
  case h_2=>cases hev
  rename_i x hx
  exact code_sound hc hev0 hg hm false (fun _=>rfl) n _ _ _ hac (fun _=>hrd.of) _ _ _ hx _ _ _ hat fun a' w' hat'=>leave x (code_evol hev0 n _ _ _ _ hx) hev a' w' hat'
def Holds (E:Env) (μ:MM) (s:Slots) (tmps:Array Value):Prop :=
 ∀ (t:Nat) (x:Slot),sget s t=some x→∃ v,x = .val v∧∃ v',tmps[t]? = some v'∧VRel E μ v v'
theorem holds_caps {μ:MM} {tmps:Array Value}:∀ {sl:List (Nat × AVal)},(∀ (k:Nat) (x:Nat × AVal),sl[k]? = some x→∃ v',tmps[x.1]? = some v'∧VRel E μ x.2 v')→Holds E μ (ofCaps sl) tmps
 | [],_,t,x,h=>by simp [ofCaps,sget] at h
 | (u,v) :: sl,hs,t,x,h=>by
  simp only [ofCaps,sget] at h
  split at h
  ·rename_i e
   cases h
   obtain ⟨v',h1,h2⟩:=hs 0 (u,v) rfl
   simp only at h1
   exact ⟨v,rfl,v',by rw [← e]; exact h1,h2⟩
  ·exact holds_caps (fun k x hk=>hs (k+1) x (by simpa using hk)) t x h
theorem holds_args {μ:MM}:∀ {ps:List Nat} {as:List AVal} {as':List Value} {s:Slots} {tmps:Array Value},VRels E μ as as'→(∀ t ∈ ps,t < tmps.size)→Holds E μ s tmps →
  Holds E μ (setArgs ps as s) ((ps.zip as').foldl (fun tmps (t,a)=>tmps.setIfInBounds t a) tmps)∧((ps.zip as').foldl (fun tmps (t,a)=>tmps.setIfInBounds t a) tmps).size=tmps.size
 | [],as,as',s,tmps,_,_,h=>by cases as <;> exact ⟨h,rfl⟩
 | t :: ts,[],as',s,tmps,ha,_,h=>by
  simp only [VRels] at ha
  subst ha
  exact ⟨h,rfl⟩
 | t :: ts,v :: vs,as',s,tmps,ha,hp,h=>by
  simp only [VRels] at ha
  obtain ⟨v',r',rfl,h1,h2⟩:=ha
  simp only [setArgs,List.zip_cons_cons,List.foldl_cons]
  have:=holds_args (ps:=ts) (as:=vs) (as':=r') (s:=(t,.val v) :: s) (tmps:=tmps.setIfInBounds t v') h2 (fun u hu=>by simp; exact hp u (bd _ hu)) (fun u x hx=>?_)
  ·refine ⟨this.1,this.2.trans (by simp)⟩
  ·simp only [sget] at hx
   have ht:=hp t (az ..)
   split at hx
   ·rename_i e
    cases hx
    subst e
    exact ⟨v,rfl,v',by simp [ht],h1⟩
   ·rename_i hne
    obtain ⟨v2,e2,v3,h3,h4⟩:=h u x hx
    exact ⟨v2,e2,v3,by rw [bj hne]; exact h3,h4⟩
theorem At.record {lo nt:Nat} {μ0:MM} {w0:World} {ds:List Deferred} {s:Slots} {h:Heap} {a:Act} {w:World} (hat:At E lo nt μ0 w0 ds s h a w) {i g:Nat} {st:LoopSt} {p:Option AExit} {sl:List (Nat × AVal)} (hi:h.get i=some (.loop g st p sl)) (hb:h.base≤i)
  {m0:M} (hm0:μ0[i]? = some (some m0)) (g2:Nat) (st2:LoopSt) (p2:Option AExit) (sl2:List (Nat × AVal)) :
  ∃ r,w.heap[m0.blk]? = some (.loop r)∧st.is r.state∧∀ r2:Loop,(∀ μ,LoopRel E μ g st p sl r→LoopRel E μ g2 st2 p2 sl2 r2)→At E lo nt μ0 w0 ds s (h.put i (.loop g2 st2 p2 sl2)) a (w.putObj m0.blk (.loop r2)):=by
 obtain ⟨μ,ν,k1,k2,k3,k4,k5,k6⟩:=hat
 obtain ⟨m,r,q1,q2,q3⟩:=k2.obj i _ hi
 have hm:m=m0:=by
  rcases k1.old i (ah hm0) with q | ⟨_,q⟩
  ·rw [q,hm0] at q1; cases q1; rfl
  ·rw [q] at q1; cases q1
 subst hm
 refine ⟨r,q2,q3.st,fun r2 hr2=>?_⟩
 have hw:w.putObj m.blk (.loop r2)=withBlock w m.blk (.loop r2):=rfl
 rw [hw]
 refine ⟨μ,ν,(k1.trans (Step.put q1 (cw _ _) _) (Nat.min_le_left _ _)),k2.put hb q1 ?_,?_,k4,k5,by simpa [withBlock] using k6⟩
 ·exact ⟨m,r2,q1,de (k2.lt i m q1),hr2 μ q3⟩
 ·refine k3.keep (Later.refl μ) (fun t cs hv=>a0 (k3.sepm t cs i m hv q1)) (fun t cs j m' hv hj hm'=>absurd (ah hm') (by omega)) fun r hr=>⟨a0 ((k3.sepd r hr).1 i m q1),fun j m' hj hm'=>absurd (ah hm') (by omega)⟩
theorem round_sound {call:CallSem} {n g:Nat} (hc:CallOK E call) (hev0:CallEvol call) (hg:GidOK E) (hm:E.P.follows .mixedOrders=true) {ar:ARound} (hrnd:E.rnd g=some ar) {i k:Nat} {args:List AVal} {h:Heap} {v:AVal} {h':Heap} {st:LoopSt} {p:Option AExit} {sl:List (Nat × AVal)}
  (hev:evRound call n g ar (.ptr (some (i,k)) :: args) h=some (v,h')) (hi:h.get i=some (.loop g st p sl)) {μ:MM} {w:World} {args':Array Value} (ha:VRels E μ args args'.toList) (hr:Rel E μ h w) :
  ∃ (m:M) (r:Loop),μ[i]? = some (some m)∧w.heap[m.blk]? = some (.loop r)∧args'.size=r.params.size ∧
   RoundIn (F0 none) 0 E.P m.blk r.fn ((r.params.zip args').foldl (fun tmps (t,a)=>tmps.setIfInBounds t a) r.tmps) r.assign r.body w (Ends E μ w v h'):=by
 obtain ⟨m,r,q1,q2,q3⟩:=hr.obj i _ hi
 obtain ⟨ar',ha1,hb1,e1,e2,e3,e4,e5⟩:=q3.code
 rw [hrnd] at e1
 cases e1
 have hal:args'.size=args.length:=by have:=ha.length; simp at this; exact this.symm
 unfold evRound at hev
 simp only at hev
 split at hev
 case isFalse=>cases hev
 rename_i hlen
 split at hev
 case h_2=>cases hev
 rename_i s hs
 split at hev
 case h_2=>cases hev
 rename_i st1 hst1
 have hps:r.params.size=args'.size:=by
  rw [hal,hlen.1,← e2]; simp
 refine ⟨m,r,q1,q2,hps.symm,?_⟩
 have hs':s=setArgs ar.params args (ofCaps sl):=by
  unfold roundSlots at hs
  rw [hi] at hs
  cases hs; rfl
 subst hs'
 have hfold:(r.params.zip args').foldl (fun tmps (t,a)=>tmps.setIfInBounds t a) r.tmps=(ar.params.zip args'.toList).foldl (fun tmps (t,a)=>tmps.setIfInBounds t a) r.tmps:=by
  rw [← e2,← Array.foldl_toList,Array.toList_zip]
 obtain ⟨hh,hsz⟩:=holds_args ha e3 (holds_caps q3.slots)
 rw [← hfold] at hh hsz
 generalize (r.params.zip args').foldl (fun tmps (t,a)=>tmps.setIfInBounds t a) r.tmps=tmps at hh hsz ⊢
 have hat:At E w.heap.size r.tmps.size μ w [] (setArgs ar.params args (ofCaps sl)) { h with wmin:=h.size } { tmps:=tmps,defers:=[] } w:=by
  refine ⟨μ,⟨fun _=>0,[]⟩,Step.refl _ _ _ _,hr.same rfl rfl rfl,?_,hsz,rfl,aj _⟩
  constructor
  ·intro t v hv
   obtain ⟨v1,e,h1⟩:=hh t _ hv
   cases e
   exact h1
  ·intro t hx; obtain ⟨_,e,_⟩:=hh t _ hx; cases e
  ·intro t cs hx; obtain ⟨_,e,_⟩:=hh t _ hx; cases e
  ·intro t t' o cs hx; obtain ⟨_,e,_⟩:=hh t _ hx; cases e
  ·intro t t' cs cs' _ hx; obtain ⟨_,e,_⟩:=hh t _ hx; cases e
  ·intro t cs i m hx; obtain ⟨_,e,_⟩:=hh t _ hx; cases e
  ·intro r hr; cases hr
  ·intro r hr; cases hr
  ·exact List.nodup_nil
 refine roundIn_of_wpIn trivial ?_
 show Code.wpIn (F0 (some m.blk)) 0 E.P r.assign _ _ _
 unfold roundIn at hst1
 split at hst1
 case h_2=>cases hst1
 rename_i st2 he1
 split at hst1
 case h_2=>cases hst1
 rename_i g' p' sl' hgi
 split at hst1
 case isFalse=>cases hst1
 rename_i hgg
 subst hgg
 cases hst1
 have hevA:=code_evol hev0 n _ _ _ _ he1
 refine code_sound hc hev0 hg hm true (fun h=>by cases h) n _ _ _ e4 (fun h=>by cases h) _ _ _ he1 _ _ _ hat fun a1 w1 hat1=>?_
 have hbi:st2.h.base≤i:=by rw [hevA.base]; exact hlen.2
 obtain ⟨r1,f1,f2,f3⟩:=hat1.record hgi hbi q1 g' .busy p' sl'
 refine ⟨_,run_beginRound f1 f2,?_⟩
 have hat2:=f3 { r1 with state:=.busy } fun μ q=>⟨q.code,rfl,q.pend,q.slots⟩
 show Code.wpIn (F0 (some m.blk)) 0 E.P r.body _ _ _
 unfold roundOut at hev
 split at hev
 case h_2=>cases hev
 rename_i e st3 he2
 split at hev
 case h_2=>cases hev
 rename_i g3 st4 p4 sl4 hg4
 split at hev
 case isFalse=>cases hev
 rename_i hgg
 subst hgg
 have hfin:=cd hev
 have hevB:=code_evol hev0 n _ _ _ _ he2
 refine code_sound hc hev0 hg hm true (fun h=>by cases h) n _ _ _ e5 (fun h=>by cases h) _ _ _ he2 _ _ _ hat2 fun a3 w3 hat3=>?_
 have hbi3:st3.h.base≤i:=by rw [hevB.base]; exact hbi
 obtain ⟨r3,j1,j2,j3⟩:=hat3.record hg4 hbi3 q1 g3 (if e = .normal then .ready else .done) (if e = .normal then none else some e) sl4
 have hend:∀ (jump:Option Code) (st5:LoopSt) (p5:Option AExit),st5=(if e = .normal then .ready else .done)→p5=(if e = .normal then none else some e)→jump=p5.map AExit.code→jump.isNone=decide (e = .normal) →
   ∃ v1 w',(Instr.endRound m.blk jump).run E.P w3 = .ok v1 w'∧Ends E μ w v h' (.returned v1) w':=by
  intro jump st5 p5 h1 h2 h3 h4
  rw [← h1,← h2] at hfin
  refine ⟨_,_,run_endRound jump j1,?_⟩
  have hst5:st5.is (if jump.isNone then .ready else .done:LoopState):=by
   rw [h4,h1]
   by_cases hn:e = .normal <;> simp [hn,LoopSt.is]
  have hat4:=j3 { r3 with state:=if jump.isNone then .ready else .done,pending:=jump } fun μ q=>⟨q.code,by rw [← h1]; exact hst5,by rw [← h2]; exact h3,q.slots⟩
  rw [← h1,← h2] at hat4
  obtain ⟨μ5,ν5,l1,l2,l3,l4,l5,l6⟩:=hat4
  have hv:VRel E μ5 (.bool (decide (e = .normal))) (.bool jump.isNone):=by rw [h4]; simp [VRel]
  have hx:Evol { h with wmin:=h.size } st3.h:=(Evol.trans hevA (Evol.put _ _ _)).trans hevB
  obtain ⟨μ6,s1,s2,s3⟩:=finish_sound rfl hr l1 l2 hv (hx.trans (Evol.put _ _ _))
  rw [hfin] at s1 s2 s3
  exact ⟨_,μ6,rfl,s1,s2,s3⟩
 cases e with
 | normal=>exact hend none _ _ rfl rfl rfl rfl
 | ret=>exact hend (some .ret) _ _ rfl rfl rfl rfl
 | exit id=>exact hend (some (.exit id)) _ _ rfl rfl rfl rfl
theorem call_sound {T:Nat→Option AFunc} (hT:Agrees E T) (hm:E.P.follows .mixedOrders=true):∀ n,CallOK E (evCall T n)
 | 0=>⟨by intro g args h v h' e; simp [evCall] at e,by intro g i k args h v h' st p sl e; simp [evCall] at e⟩
 | n+1=>by
  constructor
  ·intro g args h v h' e f hf μ w args' ha hr
   rcases hT.fn f g hf with ⟨fn,h1,h4⟩ | ⟨fn,closed,hint,af,h1,h2,h3,h4⟩ | ⟨fn,af,F,h1,h2,h3,h4⟩
   case inl=>exact callsIn_wide.2 (h4.run _ _ _ _ ((fw T _ _ _ _).2 ⟨n+1,e⟩) _ _ _ ha hr)
   case inr.inr =>
    simp only [evCall,h2,h3,ae] at e
    obtain ⟨⟨v0,ps,xs⟩,e1,e2⟩:=e
    cases e2
    exact callsIn_wide.2 (h4.run _ _ _ _ _ e1 _ _ _ ha hr)
   simp only [evCall,h2,cFunc_round h3] at e
   have key:∀ (args:List AVal) (h:Heap) (v:AVal) (h':Heap),evFunc (evCall T n) n af args h=some (v,h')→∀ (μ:MM) (w:World) (args':Array Value),VRels E μ args args'.toList→Rel E μ h w →
     CallsIn (F0 none) 0 E.P f args' w (Ends E μ w v h'):=fun args h v h' e μ w args' ha hr =>
    func_sound (call_sound hT hm n) (call_evol T n) hT.gid hm h1 h3 h4 e ha hr
   cases hcl:af.closed with
   | false=>rw [hcl] at e; exact key _ _ _ _ e _ _ _ ha hr
   | true =>
    rw [hcl] at e
    simp only [wrapC,evClosed,if_true] at e
    split at e
    case isFalse=>cases e
    rename_i hu
    split at e
    case h_2=>cases e
    rename_i v0 h0 he
    split at e
    case isFalse=>cases e
    rename_i hv0
    cases e
    have hr0:Rel E [] ⟨[],0,0⟩ w:=⟨rfl,aj _,by simp,by simp,by simp⟩
    refine CallsIn.mono (F:=F0 none) (n:=0) (key _ _ _ _ he [] w args' (unders_rel (n:=0) (fun i hi=>absurd hi (by omega)) hu ha) hr0) fun e w' ⟨v',μ',h1,h2,h3,_⟩=>?_
    have hb:∀ k,k < w.heap.size→w'.heap[k]? = w.heap[k]?:=fun k hk=>h2.block k hk (fun h=>h) fun i m _ hm=>by simp at hm
    refine ⟨v',μ,h1,⟨h2.os,h2.tape,h2.output,h2.size,fun k hk _ _=>hb k hk,aj _,fun _ _=>.inl rfl,fun i m hi hm=>absurd (ah hm) (by omega)⟩,
     under_rel (n:=0) (fun i hi=>absurd hi (by omega)) hv0 h3,hr.keep h2.size fun i m hm=>hb _ (hr.lt i m hm)⟩
  ·intro g i k args h v h' st p sl e hi μ w args' ha hr
   obtain ⟨m,r,q1,q2,q3⟩:=hr.obj i _ hi
   obtain ⟨ar,_,_,e1,_⟩:=q3.code
   obtain ⟨af,e2,e3⟩:=hT.rnd g ar e1
   simp only [evCall,e2,e3] at e
   exact round_sound (call_sound hT hm n) (call_evol T n) hT.gid hm e1 e hi ha hr
theorem x_sound {T:Nat→Option AFunc} (hT:Agrees E T) (hm:E.P.follows .mixedOrders=true) {g:Nat} {args:List AVal} {h:Heap} {v:AVal} {h':Heap} (e:xCall T g args h=some (v,h')) {f:FuncId} (hf:E.gid f=some g) {μ:MM} {w:World} {args':Array Value} (ha:VRels E μ args args'.toList) (hr:Rel E μ h w) :
  Calls E.P f args' w (Ends E μ w v h'):=by
 obtain ⟨n,hn⟩:=(fw T _ _ _ _).1 e
 exact callsIn_wide.1 ((call_sound hT hm n).fn g args h v h' hn f hf μ w args' ha hr)
end
end Go.Abs
