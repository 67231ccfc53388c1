/-
  Texts joined.
-/
import Derived.Test.YtilleokmbhmieaaGreatP0
import Derived.Test.YtilleokmbhmieaaGreatP2
import Derived.Test.YtilleokmbhmieaaGreatP3
import Derived.OrdersIn
import Derived.LoopNIn
import Derived.RangeFuncRecord
set_option linter.unusedVariables false
set_option linter.unusedSimpArgs false
set_option maxRecDepth 100000
namespace Go.Abs
structure Evol (h h':Heap):Prop where
 size:h.size≤h'.size
 base:h'.base=h.base
 wmin:h'.wmin≤h.wmin
 objs:∀ i,i < h.size→i < h'.wmin→h'.objs[i]? = h.objs[i]?
theorem Evol.refl (h:Heap):Evol h h:=⟨ai _,rfl,ai _,fun _ _ _=>rfl⟩
theorem Evol.trans {a b c:Heap} (h:Evol a b) (k:Evol b c):Evol a c :=
 ⟨b8 h.size k.size,k.base.trans h.base,b8 k.wmin h.wmin,fun i hi hw =>
  (k.objs i (dq hi h.size) hw).trans (h.objs i hi (dq hw k.wmin))⟩
theorem Evol.push (h:Heap) (o:AObj):Evol h (h.push o) :=
 ⟨by simp [Heap.push,Heap.size],rfl,ai _,fun i hi _=>by simp only [Heap.push]; rw [ag hi]⟩
theorem Evol.put (h:Heap) (i:Nat) (o:AObj):Evol h (h.put i o) :=
 ⟨by simp [Heap.put,Heap.size],rfl,cr _ _,fun j _ hw=>by
  simp only [Heap.put] at hw ⊢
  rw [aq]
  omega⟩
theorem Evol.puts (h:Heap):∀ (ps:List (Nat × AObj)) (xs:List AObj),Evol h (h.puts ps xs):=by
 have h1:∀ (xs:List AObj) (g:Heap),Evol g (xs.foldl Heap.push g):=fun xs=>by
  induction xs with
  | nil=>exact fun g=>Evol.refl g
  | cons x xs ih=>exact fun g=>(Evol.push g x).trans (ih _)
 have h2:∀ (ps:List (Nat × AObj)) (g:Heap),Evol g (ps.foldl (fun h p=>h.put p.1 p.2) g):=fun ps=>by
  induction ps with
  | nil=>exact fun g=>Evol.refl g
  | cons x xs ih=>exact fun g=>(Evol.put g x.1 x.2).trans (ih _)
 exact fun ps xs=>(h2 ps h).trans (h1 xs _)
def CallEvol (call:CallSem):Prop:=∀ g args h v h',call g args h=some (v,h')→Evol h h'
theorem ok1_evol {s:Slots} {h:Heap} {v:Option AVal} {x:Slot} {s':Slots} {h':Heap} (e:ok1 s h v=some (x,s',h')):Evol h h':=by
 unfold ok1 at e
 rw [ae] at e
 obtain ⟨u,_,e⟩:=e
 cases e
 exact Evol.refl _
theorem store_evol {s:Slots} {h:Heap} {ad:AAddr} {xs:List AVal} {s':Slots} {h':Heap} (e:storeAt s h ad xs=some (s',h')):Evol h h':=by
 unfold storeAt at e
 split at e
 ·split at e
  ·split at e
   ·cases e; exact Evol.put _ _ _
   ·cases e
  ·cases e
 ·split at e
  ·split at e
   ·cases e; exact Evol.refl _
   ·cases e
  ·cases e
theorem append_evol {esz bytes:Nat} {h:Heap} {x y v:AVal} {h':Heap} (e:aAppend esz bytes h x y=some (v,h')):Evol h h':=by
 unfold aAppend at e
 split at e
 ·split at e
  ·unfold aApp at e
   split at e
   ·cases e; exact Evol.refl _
   ·split at e
    ·split at e
     ·cases e; exact Evol.push _ _
     ·split at e
      ·cases e; exact Evol.push _ _
      ·split at e
       ·cases e; exact (Evol.put _ _ _).trans (Evol.push _ _)
       ·cases e
    ·cases e
  ·cases e
 ·cases e
theorem ext_evol {k:ExtOp} {vs:List AVal} {h:Heap} {v:AVal} {h':Heap} (e:evExt k vs h=some (v,h')):Evol h h':=by
 unfold evExt at e
 repeat' split at e
 all_goals first
  | (cases e; done)
  | (cases e; exact Evol.refl _)
  | (cases e; exact Evol.push _ _)
  | (cases e; exact Evol.put _ _ _)
  | (rw [ae] at e; obtain ⟨_,_,e⟩:=e; cases e; exact Evol.refl _)
theorem op_evol {call:CallSem} (hc:CallEvol call) {d:Nat} {o:AOp} {s:Slots} {h:Heap} {x:Slot} {s':Slots} {h':Heap} (e:evOp call d o s h=some (x,s',h')):Evol h h':=by
 cases o with
 | call f args =>
  simp only [evOp] at e
  split at e
  ·rw [ae] at e
   obtain ⟨⟨v,h1⟩,h2,e⟩:=e
   cases e
   exact hc _ _ _ _ _ h2
  ·split at e
   ·rw [ae] at e
    obtain ⟨⟨v,h1⟩,h2,e⟩:=e
    cases e
    exact hc _ _ _ _ _ h2
   ·cases e
  ·cases e
 | ext k xs =>
  simp only [evOp] at e
  split at e
  ·rw [ae] at e
   obtain ⟨⟨v,h1⟩,h2,e⟩:=e
   cases e
   exact ext_evol h2
  ·cases e
 | callg g args =>
  simp only [evOp] at e
  split at e
  ·rw [ae] at e
   obtain ⟨⟨v,h1⟩,h2,e⟩:=e
   cases e
   exact hc _ _ _ _ _ h2
  ·cases e
 | append es b y z =>
  simp only [evOp] at e
  split at e
  ·rw [ae] at e
   obtain ⟨⟨v,h1⟩,h2,e⟩:=e
   cases e
   exact append_evol h2
  ·cases e
 | store n y z =>
  simp only [evOp] at e
  split at e
  ·split at e
   ·rw [ae] at e
    obtain ⟨⟨v,h1⟩,h2,e⟩:=e
    cases e
    exact store_evol h2
   ·cases e
  ·cases e
 | conv k y =>
  simp only [evOp] at e
  split at e
  ·unfold evConv at e
   repeat' split at e
   all_goals first
    | (cases e; done)
    | exact ok1_evol e
    | (cases e; exact Evol.push _ _)
    | (cases e; exact Evol.put _ _ _)
  ·cases e
 | _ =>
  simp only [evOp] at e
  repeat' split at e
  all_goals first
   | (cases e; done)
   | exact ok1_evol e
   | (cases e; exact Evol.push _ _)
   | (cases e; exact Evol.refl _)
   | (rw [ae] at e; obtain ⟨_,_,e⟩:=e; cases e; exact Evol.refl _)
theorem jq {call:CallSem} (hc:CallEvol call) {o:AOper} {s:Slots} {h:Heap} {s':Slots} {h':Heap} (e:evOper call o s h=some (s',h')):Evol h h':=by
 have run:evRun call o s h=some (s',h')→Evol h h':=by
  intro e
  unfold evRun at e
  split at e
  ·rename_i x s1 h1 h2
   cases e
   exact op_evol hc h2
  ·cases e
 unfold evOper at e
 split at e
 ·exact run e
 ·split at e
  ·split at e
   ·exact run e
   ·cases e; exact Evol.refl _
  ·cases e; exact Evol.refl _
  ·cases e
theorem ops_evol {call:CallSem} (hc:CallEvol call):∀ {l:List AOper} {s:Slots} {h:Heap} {s':Slots} {h':Heap},evOps call l s h=some (s',h')→Evol h h'
 | [],_,_,_,_,e=>by simp only [evOps] at e; cases e; exact Evol.refl _
 | o :: l,s,h,s',h',e=>by
  simp only [evOps] at e
  split at e
  ·rename_i s1 h1 h2
   exact (jq hc h2).trans (ops_evol hc e)
  ·cases e
theorem quiet_evol {call:CallSem}:∀ {l:List AOper} {s:Slots} {h:Heap} {s':Slots} {h':Heap},evQuiet call l s h=some (s',h')→h'=h
 | [],_,_,_,_,e=>by simp only [evQuiet] at e; cases e; rfl
 | o :: l,s,h,s',h',e=>by
  simp only [evQuiet] at e
  split at e
  ·split at e
   ·exact quiet_evol e
   ·cases e
  ·cases e
theorem quietV_evol {call:CallSem} {V:List Nat}:∀ {l:List AOper} {s:Slots} {h:Heap} {s':Slots} {h':Heap},evQuietV call V l s h=some (s',h')→h'=h
 | [],_,_,_,_,e=>by simp only [evQuietV] at e; cases e; rfl
 | o :: l,s,h,s',h',e=>by
  simp only [evQuietV] at e
  split at e
  ·split at e
   ·exact quietV_evol e
   ·cases e
  ·cases e
theorem evQ_evol {call:CallSem} {l:List AOper} {s:Slots} {h:Heap} {s':Slots} {h':Heap} (e:evQ call l s h=some (s',h')):h'=h:=by
 unfold evQ at e
 split at e
 ·exact quiet_evol e
 ·split at e
  ·exact quietV_evol e
  ·cases e
theorem killRange_length (lo hi:Nat) (os:List AObj):(killRange lo hi os).length=os.length:=by simp [killRange]
theorem ja (m:Nat):∀ (ds:List Did) (y:Nat) (os:List AObj),(hide m y ds os).length=os.length
 | [],_,_=>rfl
 | d :: r,y,os=>by
  simp only [hide]
  rw [ja m r]
  split
  ·rfl
  ·exact killRange_length ..
theorem hide_all (m:Nat):∀ (ds:List Did) (y:Nat) (os:List AObj),allSeen m y ds=true→hide m y ds os=os
 | [],_,_,_=>rfl
 | d :: r,y,os,h=>by
  simp only [allSeen,az] at h
  simp only [hide]
  rw [if_pos h.1]
  exact hide_all m r _ _ h.2
theorem openOne_evol {call:CallSem} (hc:CallEvol call) {n0 m:Nat} {ds:List Did} {o:AOper} {s:Slots} {h:Heap} {y:Slot} {h':Heap} {d:Did} (e:openOne call n0 m ds o s h=some (y,h',d)):Evol h h':=by
 have hno:CallEvol noCall:=fun _ _ _ _ _ e=>by simp [noCall] at e
 unfold openOne at e
 split at e
 ·cases e
 ·split at e
  ·split at e
   ·cases e
   ·rename_i s1 h1 he
    have hev:=jq hc he
    have hsz:h.size≤h1.size:=by
     have:=hev.size
     simp only [Heap.size,ja] at this
     exact this
    simp only at e
    split at e
    ·rename_i hw
     split at e
     ·rename_i hall
      cases e
      refine ⟨hsz,rfl,cr _ _,fun i hi hi'=>?_⟩
      simp only at hi'
      have:=hev.objs i (by simp only [Heap.size,ja]; exact hi) (by omega)
      simp only [hide_all m ds 0 h.objs hall] at this
      exact this
     ·cases e
    ·rename_i hw
     split at e
     ·rename_i hall
      cases e
      refine ⟨hsz,rfl,ai _,fun i hi hi'=>?_⟩
      have:=hev.objs i (by simp only [Heap.size,ja]; exact hi) (by omega)
      simp only [hide_all m ds 0 h.objs hall] at this
      exact this
     ·split at e
      ·cases e
       refine ⟨by simp [Heap.size],rfl,ai _,fun i hi _=>?_⟩
       simp only
       rw [ag hi]
      ·cases e
  ·split at e
   ·cases e
   ·rename_i s1 h1 he
    have hev:=jq hno he
    simp only at e
    split at e
    ·rename_i hsz0
     split at e
     ·split at e
      ·split at e
       ·cases e
        refine ⟨?_,rfl,cr _ _,fun i hi hi'=>hev.objs i hi (by simp only at hi'; omega)⟩
        show h.size≤h1.size; omega
       ·cases e
      ·cases e
     ·split at e
      ·cases e; exact Evol.refl _
      ·cases e
    ·rename_i hsz1
     split at e
     ·rename_i hsz
      split at e
      ·split at e
       ·split at e
        ·rename_i hw
         cases e
         refine ⟨?_,rfl,ai _,fun i hi _=>hev.objs i hi (by rw [hw]; exact hi)⟩
         show h.size≤h1.size; omega
        ·cases e
         refine ⟨?_,rfl,cr _ _,fun i hi hi'=>hev.objs i hi (by simp only at hi'; omega)⟩
         show h.size≤h1.size; omega
       ·cases e
      ·cases e
     ·cases e
theorem openAll_evol {call:CallSem} (hc:CallEvol call) {n0:Nat}:∀ {ops:List AOper} {ms:List Nat} {ds:List Did} {s:Slots} {h:Heap} {s':Slots} {h':Heap},openAll call n0 ms ops ds s h=some (s',h')→Evol h h'
 | [],_,_,_,_,_,_,e=>by simp only [openAll] at e; cases e; exact Evol.refl _
 | o :: l,ms,ds,s,h,s',h',e=>by
  simp only [openAll] at e
  split at e
  ·rename_i y h1 d he
   split at e
   ·exact (openOne_evol hc he).trans (openAll_evol hc e)
   ·cases e
  ·cases e
theorem segs_evol {call:CallSem} (hc:CallEvol call):∀ {l:List Seg} {s:Slots} {h:Heap} {s':Slots} {h':Heap},evSegs call l s h=some (s',h')→Evol h h'
 | [],_,_,_,_,e=>by simp only [evSegs] at e; cases e; exact Evol.refl _
 | g :: l,s,h,s',h',e=>by
  simp only [evSegs] at e
  split at e
  ·rename_i s1 h1 h2
   refine Evol.trans ?_ (segs_evol hc e)
   split at h2
   ·split at h2
    ·rw [evQ_evol h2]; exact Evol.refl _
    ·exact openAll_evol hc h2
   ·exact ops_evol hc h2
  ·cases e
theorem loop_evol {f:St→Option (AExit × St)} (hf:∀ st e st',f st=some (e,st')→Evol st.h st'.h):∀ (n:Nat) (st:St) (e:AExit) (st':St),loopN f n st=some (e,st')→Evol st.h st'.h
 | 0,_,_,_,h=>by simp [loopN] at h
 | n+1,st,e,st',h=>by
  simp only [loopN] at h
  split at h
  ·rename_i st1 h1
   exact (hf _ _ _ h1).trans (loop_evol hf n _ _ _ h)
  ·exact hf _ _ _ h
theorem kj {call:CallSem} (hc:CallEvol call) (n:Nat):∀ (c:ACode) (st:St) (e:AExit) (st':St),evCode call n c st=some (e,st')→Evol st.h st'.h:=by
 intro c
 induction c with
 | skip=>intro st e st' h; simp only [evCode] at h; cases h; exact Evol.refl _
 | region gs =>
  intro st e st' h
  simp only [evCode] at h
  rw [ae] at h
  obtain ⟨⟨s1,h1⟩,h2,h⟩:=h
  cases h
  exact segs_evol hc h2
 | seq a b iha ihb =>
  intro st e st' h
  simp only [evCode] at h
  split at h
  ·rename_i st1 h1
   exact (iha _ _ _ h1).trans (ihb _ _ _ h)
  ·exact iha _ _ _ h
 | cond c t e iht ihe =>
  intro st e st' h
  simp only [evCode] at h
  split at h
  ·exact iht _ _ _ h
  ·exact ihe _ _ _ h
  ·cases h
 | block id a ih =>
  intro st e st' h
  simp only [evCode] at h
  split at h
  ·rename_i j st1 h1
   split at h <;> cases h <;> exact ih _ _ _ h1
  ·exact ih _ _ _ h
 | loop a ih=>intro st e st' h; exact loop_evol ih n _ _ _ h
 | exit id=>intro st e st' h; simp only [evCode] at h; cases h; exact Evol.refl _
 | ret=>intro st e st' h; simp only [evCode] at h; cases h; exact Evol.refl _
 | live l a ih=>intro st e st' h; simp only [evCode] at h; have h2:=ih _ _ _ h; exact h2
 | after a l ih =>
  intro st e st' h
  simp only [evCode] at h
  split at h
  ·rename_i st1 h1
   cases h
   have h2:=ih _ _ _ h1
   exact h2
  ·exact ih _ _ _ h
 | rangeFunc f g caps ps a b _ _ =>
  intro st e st' h
  simp only [evCode] at h
  split at h
  ·rename_i fv sl _ _
   split at h
   ·rename_i x h1 he
    have h2:Evol (st.h.push (.loop g .ready none sl)) h1:=by
     unfold callVal at he
     split at he
     ·exact hc _ _ _ _ _ he
     ·cases he
    have h3:Evol h1 st'.h:=by
     unfold loopEnd at h
     split at h
     ·split at h
      ·cases h
      ·cases h; exact Evol.put _ _ _
     ·cases h
    exact (Evol.push _ _).trans (h2.trans h3)
   ·cases h
  ·cases h
 | next d x=>intro st e st' h; simp [evCode] at h
theorem flatL_mem {α β:Type} {f:α→Option (List β)}:∀ {l:List α} {ys:List β},flatL f l=some ys→∀ y ∈ ys,∃ x ∈ l,∃ zs,f x=some zs∧y ∈ zs
 | [],ys,h,y,hy=>by simp only [flatL] at h; cases h; cases hy
 | x :: l,ys,h,y,hy=>by
  simp only [flatL] at h
  split at h
  case h_2=>cases h
  rename_i a b h1 h2
  cases h
  rcases br.1 hy with hy | hy
  ·exact ⟨x,a7 ..,a,h1,hy⟩
  ·obtain ⟨x',k1,zs,k2,k3⟩:=flatL_mem h2 y hy
   exact ⟨x',bd _ k1,zs,k2,k3⟩
theorem nextOuts_evol {d:Option Nat} {x:Opd} {st:St} {l:List (AExit × St)} (e:nextOuts d x st=some l):∀ y ∈ l,Evol st.h y.2.h:=by
 intro y hy
 unfold nextOuts at e
 split at e
 case h_2=>cases e
 split at e
 case isFalse=>cases e
 split at e
 ·cases e
  rw [bi] at hy; subst hy
  exact Evol.put _ _ _
 ·split at e
  case h_2=>cases e
  split at e
  case isFalse=>cases e
  split at e
  ·cases e
   rw [bi] at hy; subst hy
   exact Evol.put _ _ _
  ·cases e
   rw [cg] at hy
   obtain ⟨q,_,rfl⟩:=hy
   exact Evol.put _ _ _
 ·cases e
theorem loopO_evol {f:St→Option (List (AExit × St))} (hf:∀ st l,f st=some l→∀ y ∈ l,Evol st.h y.2.h):∀ (n:Nat) (st:St) (l:List (AExit × St)),loopO f n st=some l→∀ y ∈ l,Evol st.h y.2.h
 | 0,st,l,h=>by simp [loopO] at h
 | n+1,st,l,h=>by
  intro y hy
  simp only [loopO] at h
  split at h
  case h_2=>cases h
  rename_i l1 h1
  obtain ⟨x,hx,zs,hz,hyz⟩:=flatL_mem h y hy
  have k:=hf _ _ h1 x hx
  split at hz
  ·exact k.trans (loopO_evol hf n _ _ hz y hyz)
  ·cases hz
   rw [bi] at hyz; subst hyz
   exact k
theorem outs_evol {call:CallSem} (hc:CallEvol call) (n:Nat):∀ (c:ACode) (st:St) (l:List (AExit × St)),evOuts call n c st=some l→∀ y ∈ l,Evol st.h y.2.h:=by
 have base:∀ (c:ACode) (st:St) (l:List (AExit × St)),(evCode call n c st).map (fun x=>[x])=some l→∀ y ∈ l,Evol st.h y.2.h:=by
  intro c st l e y hy
  rw [ae] at e
  obtain ⟨x,e,rfl⟩:=e
  rw [bi] at hy; subst hy
  exact kj hc n _ _ _ _ e
 intro c
 induction c with
 | skip=>exact base _
 | region gs=>exact base _
 | exit id=>exact base _
 | ret=>exact base _
 | rangeFunc f g caps ps a b _ _=>exact base _
 | seq a b iha ihb =>
  intro st l e y hy
  simp only [evOuts] at e
  split at e
  case h_2=>cases e
  rename_i l1 h1
  obtain ⟨x,hx,zs,hz,hyz⟩:=flatL_mem e y hy
  have k:=iha _ _ h1 x hx
  split at hz
  ·exact k.trans (ihb _ _ hz y hyz)
  ·cases hz
   rw [bi] at hyz; subst hyz
   exact k
 | cond c t e iht ihe =>
  intro st l h y hy
  simp only [evOuts] at h
  split at h
  ·exact iht _ _ h y hy
  ·exact ihe _ _ h y hy
  ·cases h
 | block id a ih =>
  intro st l e y hy
  simp only [evOuts] at e
  rw [ae] at e
  obtain ⟨l1,h1,rfl⟩:=e
  rw [cg] at hy
  obtain ⟨x,hx,rfl⟩:=hy
  have k:=ih _ _ h1 x hx
  split
  ·split <;> exact k
  ·exact k
 | loop a ih=>intro st l e; exact loopO_evol ih n _ _ e
 | live l a ih=>intro st ys e y hy; simp only [evOuts] at e; have h2:=ih _ _ e y hy; exact h2
 | after a l ih =>
  intro st ys e y hy
  simp only [evOuts] at e
  rw [ae] at e
  obtain ⟨l1,h1,rfl⟩:=e
  rw [cg] at hy
  obtain ⟨x,hx,rfl⟩:=hy
  have k:=ih _ _ h1 x hx
  split
  ·have k2:Evol st.h x.2.h:=k
   exact k2
  ·exact k
 | next d x=>intro st l e; exact nextOuts_evol e
theorem finish_evol {h0 h:Heap} {v:AVal} (hb:h.base=h0.base) (hs:h0.size≤h.size) (ho:∀ i,i < h0.size→i < h.wmin→h.objs[i]? = h0.objs[i]?):Evol h0 (finish h0 v h).2:=by
 unfold finish
 split
 ·exact ⟨hs,hb,cr _ _,fun i hi hw=>ho i hi (by simp only at hw; omega)⟩
 ·rename_i hw
  split
  ·exact Evol.refl _
  ·simp only
   split
   ·exact ⟨by simp [Heap.size],rfl,ai _,fun i hi _=>by simp only; rw [ag hi]⟩
   ·exact ⟨hs,hb,ai _,fun i hi _=>ho i hi (by omega)⟩
theorem allSame_mem {l:List (Option (AVal × Heap))} {r:AVal × Heap} (e:allSame l=some r):some r ∈ l:=by
 unfold allSame at e
 split at e
 ·split at e
  ·cases e; exact a7 ..
  ·cases e
 ·cases e
theorem funcEnd_evol {f:AFunc} {h:Heap} {x:AExit × St} {r:AVal × Heap} (hx:Evol { h with wmin:=h.size } x.2.h) (e:funcEnd f h x=some r):Evol h r.2:=by
 have key:∀ (st:St),Evol { h with wmin:=h.size } st.h→((resultsL st.s st.h f.results).map fun vs=>finish h (tupled vs) st.h)=some r→Evol h r.2:=by
  intro st h3 h2
  rw [ae] at h2
  obtain ⟨vs,_,h2⟩:=h2
  have h4:=finish_evol (h0:=h) (h:=st.h) (v:=tupled vs) h3.base h3.size (fun i hi hw=>h3.objs i hi hw)
  rw [h2] at h4
  exact h4
 obtain ⟨x,st⟩:=x
 cases x with
 | normal=>exact key st hx e
 | ret=>exact key st hx e
 | exit id=>simp [funcEnd] at e
theorem func_evol {call:CallSem} (hc:CallEvol call) {n:Nat} {f:AFunc} {args:List AVal} {h:Heap} {v:AVal} {h':Heap} (e:evFunc call n f args h=some (v,h')):Evol h h':=by
 unfold evFunc at e
 split at e
 case isFalse=>cases e
 split at e
 ·split at e
  case h_2=>cases e
  rename_i l hl
  have:=allSame_mem e
  rw [cg] at this
  obtain ⟨x,hx,he⟩:=this
  exact funcEnd_evol (outs_evol hc n _ _ _ hl x hx) he
 ·split at e
  case h_2=>cases e
  rename_i x hx
  exact funcEnd_evol (kj hc n _ _ _ _ hx) e
theorem round_evol {call:CallSem} (hc:CallEvol call) {n g:Nat} {r:ARound} {args:List AVal} {h:Heap} {v:AVal} {h':Heap} (e:evRound call n g r args h=some (v,h')):Evol h h':=by
 unfold evRound at e
 split at e
 ·split at e
  ·split at e
   ·split at e
    ·rename_i i _ as _ _ s _ _ st he
     have h1:Evol { h with wmin:=h.size } st.h:=by
      unfold roundIn at he
      split at he
      ·rename_i st0 h0
       split at he
       ·split at he
        ·cases he; exact (kj hc n _ _ _ _ h0).trans (Evol.put _ _ _)
        ·cases he
       ·cases he
      ·cases he
     unfold roundOut at e
     split at e
     ·rename_i x st1 h2
      have h3:=h1.trans (kj hc n _ _ _ _ h2)
      split at e
      ·rename_i sl2 _
       split at e
       ·injection e with e
        have h4:=h3.trans (Evol.put st1.h i (.loop g (if x = .normal then .ready else .done) (if x = .normal then none else some x) sl2))
        have h5:=finish_evol (h0:=h) (v:=.bool (decide (x = .normal))) h4.base h4.size fun i hi hw=>h4.objs i hi hw
        rw [e] at h5
        exact h5
       ·cases e
      ·cases e
     ·cases e
    ·cases e
   ·cases e
  ·cases e
 ·cases e
theorem wrapC_evol {r:List AVal→Heap→Option (AVal × Heap)} (hr:∀ args h v h',r args h=some (v,h')→Evol h h') {c:Bool} {args:List AVal} {h:Heap} {v:AVal} {h':Heap} (e:wrapC c r args h=some (v,h')):Evol h h':=by
 cases c with
 | false=>exact hr _ _ _ _ e
 | true =>
  simp only [wrapC,evClosed,if_true] at e
  split at e
  ·split at e
   ·split at e
    ·cases e; exact Evol.refl _
    ·cases e
   ·cases e
  ·cases e
theorem ir (T:Nat→Option AFunc):∀ n,CallEvol (evCall T n)
 | 0=>by intro g args h v h' e; simp [evCall] at e
 | n+1=>by
  intro g args h v h' e
  simp only [evCall] at e
  split at e
  ·split at e
   ·exact round_evol (ir T n) e
   ·rw [ae] at e
    obtain ⟨_,_,e⟩:=e
    cases e
    exact Evol.puts _ _ _
   ·exact wrapC_evol (fun _ _ _ _ e=>func_evol (ir T n) e) e
  ·cases e
end Go.Abs

namespace Go.Abs
def F0 (ro:Option Nat):Fence:={ Fence.wide with round:=ro }
def Ends (E:Env) (μ:MM) (w:World) (v:AVal) (h':Heap) (e:Ending) (w':World):Prop :=
  ∃ v' μ',e = .returned v'∧Step (fun _=>False) h'.wmin μ w μ' w'∧VRel E μ' v v'∧Rel E μ' h' w'
structure CallOK (E:Env) (call:CallSem):Prop where
  fn:∀ (g:Nat) (args:List AVal) (h:Heap) (v:AVal) (h':Heap),call g args h=some (v,h')→∀ (f:FuncId),E.gid f=some g→∀ (μ:MM) (w:World) (args':Array Value),VRels E μ args args'.toList→Rel E μ h w →
    CallsIn (F0 none) 0 E.P f args' w (Ends E μ w v h')
  round:∀ (g i k:Nat) (args:List AVal) (h:Heap) (v:AVal) (h':Heap) (st:LoopSt) (p:Option AExit) (sl:List (Nat × AVal)),call g (.ptr (some (i,k)) :: args) h=some (v,h')→h.get i=some (.loop g st p sl) →
    ∀ (μ:MM) (w:World) (args':Array Value),VRels E μ args args'.toList→Rel E μ h w →
    ∃ (m:M) (r:Loop),μ[i]? = some (some m)∧w.heap[m.blk]? = some (.loop r)∧args'.size=r.params.size ∧
      RoundIn (F0 none) 0 E.P m.blk r.fn ((r.params.zip args').foldl (fun tmps (t,a)=>tmps.setIfInBounds t a) r.tmps) r.assign r.body w (Ends E μ w v h')
def GidOK (E:Env):Prop:=∀ f g,E.gid f=some g→∃ fn,E.P.funcs[f]? = some fn∧fn.name ≠ "runtime.NumGoroutine" ∧ fn.body.isSome=true
def markOf (r:Nat):Deferred:={ target:=.collected r,args:=#[] }
def At (E:Env) (lo nt:Nat) (μ0:MM) (w0:World) (ds:List Deferred) (s:Slots) (h:Heap) (a:Act) (w:World):Prop :=
  ∃ μ ν,Step (fun k=>lo≤k) h.wmin μ0 w0 μ w∧Rel E μ h w∧FRel E lo ν μ (sget s) a.tmps w∧a.tmps.size=nt∧a.defers=ν.ds.map markOf++ds∧lo≤w.heap.size
section
variable {E:Env} {lo nt:Nat} {μ0:MM} {w0:World} {ds:List Deferred} {s:Slots} {h:Heap} {a:Act} {w:World} {call:CallSem} {ro:Option Nat}
theorem kr (a:Act) (dst:Option Tmp) (v:Value):(a.put dst v).tmps.size=a.tmps.size:=by cases dst <;> simp [Act.put]
theorem je (a:Act) (dst:Option Tmp) (v:Value):(a.put dst v).defers=a.defers:=by cases dst <;> rfl
theorem At.undef (hat:At E lo nt μ0 w0 ds s h a w) {dst:Option Nat} (hd:∀ t,dst=some t→t < nt):At E lo nt μ0 w0 ds (setSlot dst .undef s) h (a.put dst Go.undef) w:=by
  obtain ⟨μ,ν,k1,k2,k3,k4,k5,k6⟩:=hat
  refine ⟨μ,ν,k1,k2,?_,by rw [kr]; exact k4,by rw [je]; exact k5,k6⟩
  rw [fz]
  exact (k3.setUndef (fun x hx=>by rw [k4]; exact hd x hx)).congr fun t=>gd _ _ _ _
theorem ic (hg:GidOK E) {f g:Nat} (hf:E.gid f=some g) (args:Array Value) (w:World):(callFunc f args).run E.P w = .ok (.enter f args) w:=by
  obtain ⟨fn,h1,h2,h3⟩:=hg f g hf
  obtain ⟨c,hb⟩:=Option.isSome_iff_exists.1 h3
  simp [callFunc,h1,h2,hb]
theorem run_sound (hc:CallOK E call) (hev0:CallEvol call) (hg:GidOK E) {ops:Array Oper} {loc:Bool} {o:Oper} {o':AOper} {s':Slots} {h':Heap} (hop:cOper E nt ops loc o=some o') (hev:evRun call o' s h=some (s',h'))
    (hat:At E lo nt μ0 w0 ds s h a w) {next:Act→World→Prop} {Q:Exit→Act→World→Prop} (hn:∀ a' w',At E lo nt μ0 w0 ds s' h' a' w'→next a' w'):o.wpIn (F0 ro) 0 E.P a w next Q:=by
  unfold cOper at hop
  split at hop
  case isFalse=>cases hop
  rename_i hh
  simp only [az,cd,dv] at hh
  obtain ⟨hh1,hh2⟩:=hh
  have hd:∀ t,o.dst=some t→t < nt:=fun t ht=>by rw [ht] at hh1; simpa using hh1
  have hloc:loc=true→isStore o.op=false→o.dst.isSome=true:=fun hl hst=>(hh2.resolve_right (by rw [hst]; simp)).resolve_left (by rw [hl]; simp)
  have ho1:o'.dst=o.dst∧o'.op=cOpS E loc o.op:=by
    split at hop
    · cases hop; exact ⟨rfl,rfl⟩
    · split at hop
      · cases hop; exact ⟨rfl,rfl⟩
      · cases hop
  have ho2:∃ ao,cOp E loc o.op=some ao∧o'.op=ao:=by
    cases hco:cOp E loc o.op with
    | some ao=>exact ⟨ao,rfl,by rw [ho1.2,cOpS,hco]⟩
    | none =>
      exfalso
      unfold evRun at hev
      rw [ho1.2,cOpS,hco] at hev
      simp [evOp] at hev
  obtain ⟨ao,hao,e2⟩:=ho2
  have e1:=ho1.1
  unfold evRun at hev
  rw [e1,e2] at hev
  split at hev
  case h_2=>cases hev
  rename_i x s1 h1 hop1
  cases hev
  have hat0:=hat
  obtain ⟨μ,ν,k1,k2,k3,k4,k5,k6⟩:=hat
  have hevol:=op_evol hev0 hop1
  have hnd:∀ c,o.op ≠ .defer c:=fun c hc'=>by rw [hc'] at hao; simp [cOp] at hao
  refine ⟨fun _ _=>trivial,?_⟩
  rw [Oper.semAt_eq _ _ _ hnd]
  have ends:∀ (v:AVal) (e:Ending) (w':World),Ends E μ w v h' e w'→x = .val v→s1=s→(match e with | .returned v=>next (a.put o.dst v) w' | .panicked chain=>Q (.panic chain) a w' | .outgrown=>LetsOut Q):=by
    rintro v e w' ⟨v',μ',rfl,j1,j2,j3⟩ hx hs
    subst hx; subst hs
    refine hn _ _ ⟨μ',ν,?_,j3,?_,by rw [kr]; exact k4,by rw [je]; exact k5,b8 k6 j1.size⟩
    · exact k1.trans (j1.weaken (ai _) fun b hb _=>hb.elim) hevol.wmin
    · rw [fz]
      exact ((k3.step j1 fun b _ hb=>hb).setVal (fun y hy=>by rw [k4]; exact hd y hy) j2).congr fun t=>gd _ _ _ _
  have callcase:∀ (g:Nat) (f:FuncId) (as:List AVal) (args':Array Value) (v:AVal),call g as h=some (v,h')→E.gid f=some g→VRels E μ as args'.toList →
      (execOp a.eval o).run E.P w = .ok (.enter f args') w→x = .val v→s1=s→o.uponIn (F0 ro) 0 E.P a next Q ((execOp a.eval o).run E.P w):=by
    intro g f as args' v hcall hgf hargs hrun hx hs
    rw [hrun,Oper.uponIn_enter]
    refine ⟨fun hh=>by simp [F0,Fence.wide] at hh,?_⟩
    exact CallsIn.mono (F:=F0 ro) (n:=0) (hc.fn g as h v h' hcall f hgf μ w args' hargs k2) fun e w' he=>by
      have:=ends v e w' he hx hs
      cases e <;> exact this
  have roundcase:∀ (g i:Nat) (as:List AVal) (args':Array Value) (v:AVal) (st:LoopSt) (p:Option AExit) (sl:List (Nat × AVal)),call g (.ptr (some (i,0)) :: as) h=some (v,h')→h.get i=some (.loop g st p sl)→VRels E μ as args'.toList →
      (∀ (m:M),μ[i]? = some (some m)→(execOp a.eval o).run E.P w=(Instr.yield m.blk args').run E.P w)→x = .val v→s1=s→o.uponIn (F0 ro) 0 E.P a next Q ((execOp a.eval o).run E.P w):=by
    intro g i as args' v st p sl hcall hg hargs hrun hx hs
    obtain ⟨m,r,q1,q2,q3,q4⟩:=hc.round g i 0 as h v h' st p sl hcall hg μ w args' hargs k2
    rw [hrun m q1,run_yield q2 q3,Oper.uponIn_round]
    refine ⟨fun hh=>by simp [F0,Fence.wide] at hh,?_⟩
    exact RoundIn.mono (F:=F0 ro) (n:=0) q4 fun e w' he=>by
      have:=ends v e w' he hx hs
      cases e <;> exact this
  by_cases hcl:(∃ f as,ao = .call f as)∨(∃ g as,ao = .callg g as)
  · have hcop:∃ c,o.op = .call c∧cCall E c=some ao:=by
      cases ho:o.op with
      | call c=>exact ⟨c,rfl,by rw [ho] at hao; simpa only [cOp] using hao⟩
      | makeFunc fn x1 x2 =>
        rw [ho] at hao
        exfalso
        cases fn <;> simp only [cOp] at hao <;> (try (cases hao; done))
        rcases hcl with ⟨f,as,rfl⟩ | ⟨g,as,rfl⟩ <;> (split at hao <;> cases hao)
      | makeMap t hint =>
        rw [ho] at hao
        exfalso
        rcases hcl with ⟨f,as,rfl⟩ | ⟨g,as,rfl⟩ <;>
          (cases hint with
           | none=>simp [cOp] at hao
           | some y =>
             cases y with
             | const v=>cases v <;> simp only [cOp] at hao <;> first | (cases hao; done) | (split at hao <;> cases hao)
             | _=>simp [cOp] at hao)
      | _ =>
        rw [ho] at hao
        exfalso
        rcases hcl with ⟨f,as,rfl⟩ | ⟨g,as,rfl⟩ <;>
          (simp only [cOp,cBin,cConv,cEq] at hao
           repeat' split at hao
           all_goals first
             | (cases hao; done)
             | (rw [ae] at hao; obtain ⟨_,_,hao⟩:=hao; first | (cases hao; done) | (split at hao <;> cases hao)))
    obtain ⟨c,hcop,hcc⟩:=hcop
    unfold cCall at hcc
    split at hcc
    · rename_i f hcal
      split at hcc
      case h_2 =>
        exfalso
        rw [ae] at hcc
        obtain ⟨_,_,hcc⟩:=hcc
        rcases hcl with ⟨f,as,rfl⟩ | ⟨g,as,rfl⟩ <;> cases hcc
      case h_3=>cases hcc
      rename_i g as hgf has
      cases hcc
      simp only [evOp] at hop1
      split at hop1
      case h_2=>cases hop1
      rename_i vs hvs
      rw [ae] at hop1
      obtain ⟨⟨v,h2⟩,hcall,hop1⟩:=hop1
      cases hop1
      have hargs:=ie k3 has hvs
      refine callcase g f vs (c.args.map a.eval) v hcall hgf (by simpa using hargs) ?_ rfl rfl
      have:=ic hg hgf (c.args.map a.eval) w
      simp [execOp,hcop,resolve,hcal,Act.eval,Deferred.ofValue,invoke,this]
    · rename_i y hne hcal
      split at hcc
      case h_2=>cases hcc
      rename_i y' as hy has
      cases hcc
      simp only [evOp] at hop1
      split at hop1
      · rename_i g first caps vs hyv hvs
        rw [ae] at hop1
        obtain ⟨⟨v,h2⟩,hcall,hop1⟩:=hop1
        cases hop1
        have hargs:=ie k3 has hvs
        have hfv:=bt k3 hy hyv
        simp only [VRel] at hfv
        obtain ⟨fid,f',c',q1,q2,q3,q4⟩:=hfv
        refine callcase g fid (first++vs++caps) (f'++c.args.map a.eval++c') v hcall q2 ?_ ?_ rfl rfl
        · simpa using (q3.append hargs).append q4
        · have:=ic hg q2 (f'++(c.args.map a.eval++c')) w
          simp [execOp,hcop,resolve,hcal,q1,Deferred.ofValue,invoke,this]
      · rename_i i vs hyv hvs
        split at hop1
        case h_2=>cases hop1
        rename_i g st p sl hgi
        rw [ae] at hop1
        obtain ⟨⟨v,h2⟩,hcall,hop1⟩:=hop1
        cases hop1
        have hargs:=ie k3 has hvs
        have hfv:=bt k3 hy hyv
        simp only [VRel] at hfv
        obtain ⟨l,xx,q1,q2,q3⟩:=hfv
        refine roundcase g i vs (c.args.map a.eval) v st p sl hcall hgi (by simpa using hargs) (fun m hm=>?_) rfl rfl
        rw [hm] at q2; cases q2
        have:=q3 m rfl; subst this
        simp [execOp,hcop,resolve,hcal,q1,Deferred.ofValue,invoke]
      · cases hop1
    · -- a built-in is no call
      exfalso
      rcases hcl with ⟨f,as,rfl⟩ | ⟨g,as,rfl⟩ <;>
        (repeat' split at hcc
         all_goals first
           | (cases hcc; done)
           | (rw [ae] at hcc; obtain ⟨_,_,hcc⟩:=hcc; cases hcc))
    · cases hcc
  · obtain ⟨v,w',μ',ν',j0,j1,j2,j3,j4⟩:=op_sound hao (fun f as e=>hcl (.inl ⟨f,as,e⟩)) (fun g as e=>hcl (.inr ⟨g,as,e⟩)) hop1 k3 k2 k6 (fun t ht=>by rw [k4]; exact hd t ht) hloc
    have hat':At E lo nt μ0 w0 ds (setSlot o.dst x s1) h' (a.put o.dst v) w':=by
      refine ⟨μ',ν',k1.trans j2 hevol.wmin,j3,?_,by rw [kr]; exact k4,by rw [je,j0]; exact k5,b8 k6 j2.size⟩
      exact j4.congr fun t=>gd _ _ _ _
    rcases j1 with j1 | ⟨rfl,j1⟩
    · rw [j1]; exact hn _ _ hat'
    · rw [j1]; exact hn _ _ hat'
theorem oper_sound (hc:CallOK E call) (hev0:CallEvol call) (hg:GidOK E) {ops:Array Oper} {loc:Bool} {o:Oper} {o':AOper} {s':Slots} {h':Heap} (hop:cOper E nt ops loc o=some o') (hev:evOper call o' s h=some (s',h'))
    (hat:At E lo nt μ0 w0 ds s h a w) {next:Act→World→Prop} {Q:Exit→Act→World→Prop} (hn:∀ a' w',At E lo nt μ0 w0 ds s' h' a' w'→next a' w') :
    if Region.wanted o (yielded ops a.tmps) then o.wpIn (F0 ro) 0 E.P a w next Q else next (a.put o.dst Go.undef) w:=by
  have hop0:=hop
  unfold cOper at hop
  split at hop
  case isFalse=>cases hop
  rename_i hh
  simp only [az,cd,dv] at hh
  have hd:∀ t,o.dst=some t→t < nt:=fun t ht=>by have:=hh.1; rw [ht] at this; simpa using this
  unfold evOper at hev
  split at hop
  · rename_i hg0
    cases hop
    simp only at hev
    have:Region.wanted o (yielded ops a.tmps)=true:=by simp [Region.wanted,hg0]
    rw [if_pos this]
    exact run_sound hc hev0 hg hop0 hev hat hn
  · rename_i j want hg0
    split at hop
    case h_2=>cases hop
    rename_i d hdj
    cases hop
    simp only at hev
    obtain ⟨μ,ν,k1,k2,k3,k4,k5,k6⟩:=hat
    split at hev
    · rename_i b hb
      obtain ⟨v',hv,hr⟩:=k3.val d _ hb
      simp only [VRel] at hr; subst hr
      have hy:yielded ops a.tmps j=some b:=by simp [yielded,hdj,hv]
      have hw:Region.wanted o (yielded ops a.tmps)=(b == want):=by simp [Region.wanted,hg0,hy]
      split at hev
      · rename_i hbw
        rw [if_pos (by rw [hw]; simpa using hbw)]
        exact run_sound hc hev0 hg hop0 hev ⟨μ,ν,k1,k2,k3,k4,k5,k6⟩ hn
      · rename_i hbw
        cases hev
        rw [if_neg (by rw [hw]; simpa using hbw)]
        exact hn _ _ (At.undef ⟨μ,ν,k1,k2,k3,k4,k5,k6⟩ hd)
    · rename_i hb
      cases hev
      have hv:=k3.undef d hb
      have hy:yielded ops a.tmps j=none:=by simp [yielded,hdj,hv,Go.undef]
      have hw:Region.wanted o (yielded ops a.tmps)=false:=by simp [Region.wanted,hg0,hy]
      rw [if_neg (by simp [hw])]
      exact hn _ _ (At.undef ⟨μ,ν,k1,k2,k3,k4,k5,k6⟩ hd)
    · cases hev
theorem ops_sound (hc:CallOK E call) (hev0:CallEvol call) (hg:GidOK E) {ops:Array Oper} {locs:List Nat} {Q:Exit→Act→World→Prop}:∀ (l:List Oper) (i:Nat) (as:List AOper) (s:Slots) (h:Heap) (s':Slots) (h':Heap) (a:Act) (w:World),
    ops.toList.drop i=l→cOpers E nt ops locs i l=some as→evOps call as s h=some (s',h')→At E lo nt μ0 w0 ds s h a w→(∀ a' w',At E lo nt μ0 w0 ds s' h' a' w'→Q .normal a' w') →
    wpOpsIn (F0 ro) 0 E.P ops Q (List.range' i l.length) a w
  | [],i,as,s,h,s',h',a,w,_,hcs,hev,hat,hn=>by
    simp only [cOpers] at hcs; cases hcs
    simp only [evOps] at hev; cases hev
    exact hn _ _ hat
  | o :: l,i,as,s,h,s',h',a,w,hd,hcs,hev,hat,hn=>by
    simp only [cOpers] at hcs
    split at hcs
    case h_2=>cases hcs
    rename_i o' as' ho has
    cases hcs
    simp only [evOps] at hev
    split at hev
    case h_2=>cases hev
    rename_i s1 h1 he
    have hi:ops[i]? = some o:=by
      have:=congrArg (fun l=>l[0]?) hd
      simpa using this
    have hd':ops.toList.drop (i+1)=l:=by
      have:=congrArg List.tail hd
      simpa using this
    have ih:=fun a' w' hat'=>ops_sound hc hev0 hg l (i+1) as' s1 h1 s' h' a' w' hd' has hev hat' hn
    simp only [bv,List.range'_succ,wpOpsIn,hi]
    have:=oper_sound (ro:=ro) (Q:=Q) hc hev0 hg ho he hat ih
    split
    · rename_i hw; rw [if_pos hw] at this; exact this
    · rename_i hw; rw [if_neg hw] at this; exact ⟨fun _ _=>trivial,this⟩
end
end Go.Abs

namespace Go.Abs
structure AgreeV (V:Nat→Prop) (S S2:Slots) (ts:List Nat):Prop where
 at_:∀ t ∈ ts,sget S t=sget S2 t
 var:∀ t cs,¬ V t→(sget S t=some (.var cs) ↔ sget S2 t=some (.var cs))
 no:∀ t ∈ ts,¬ V t∧∀ t' o,sget S t=some (.loc t' o)→¬ V t'
abbrev Agree (S S2:Slots) (ts:List Nat):Prop:=AgreeV (fun _=>False) S S2 ts
theorem Agree.of {S S2:Slots} {ts:List Nat} (h1:∀ t ∈ ts,sget S t=sget S2 t) (h2:∀ t cs,sget S t=some (.var cs) ↔ sget S2 t=some (.var cs)):Agree S S2 ts :=
 ⟨h1,fun t cs _=>h2 t cs,fun _ _=>⟨id,fun _ _ _=>id⟩⟩
section
variable {V:Nat→Prop} {S S2:Slots} {ts us:List Nat} {h:Heap}
theorem AgreeV.left (ha:AgreeV V S S2 (ts++us)):AgreeV V S S2 ts:=⟨fun t ht=>ha.at_ t (c8 _ ht),ha.var,fun t ht=>ha.no t (c8 _ ht)⟩
theorem AgreeV.right (ha:AgreeV V S S2 (ts++us)):AgreeV V S S2 us:=⟨fun t ht=>ha.at_ t (eg _ ht),ha.var,fun t ht=>ha.no t (eg _ ht)⟩
theorem AgreeV.sub (ha:AgreeV V S S2 ts) (h:∀ t ∈ us,t ∈ ts):AgreeV V S S2 us:=⟨fun t ht=>ha.at_ t (h t ht),ha.var,fun t ht=>ha.no t (h t ht)⟩
theorem di {x:Opd} (ha:AgreeV V S S2 x.reads):x.ev S2=x.ev S:=by
 cases x with
 | const v=>rfl
 | tmp t=>simp only [Opd.ev,← ha.at_ t (by simp [Opd.reads])]
theorem evs_congr:∀ {xs:List Opd},AgreeV V S S2 (readsL xs)→evs S2 xs=evs S xs
 | [],_=>rfl
 | x :: xs,ha=>by
  simp only [readsL] at ha
  simp only [evs,di ha.left,evs_congr ha.right]
theorem optEv_congr {x:Option Opd} (ha:AgreeV V S S2 (readsO x)):optEv S2 x=optEv S x:=by
 cases x with
 | none=>rfl
 | some x=>simp only [readsO] at ha; simp only [optEv,di ha]
theorem adr_congr {x:Opd} (ha:AgreeV V S S2 x.reads):x.adr S2=x.adr S:=by
 cases x with
 | const v=>rfl
 | tmp t=>simp only [Opd.adr,← ha.at_ t (by simp [Opd.reads])]
theorem adr_no {x:Opd} (ha:AgreeV V S S2 x.reads) {t o:Nat} (h:x.adr S=some (.loc t o)):¬ V t:=by
 cases x with
 | const v=>cases h
 | tmp u =>
  obtain ⟨h1,h2⟩:=ha.no u (by simp [Opd.reads])
  simp only [Opd.adr] at h
  split at h
  ·cases h
  ·cases h; exact h1
  ·rename_i t' o' hs; cases h; exact h2 _ _ hs
  ·cases h
theorem isVar_congr (ha:AgreeV V S S2 ts) (t:Nat) (hv:¬ V t):isVar S2 t=isVar S t:=by
 have key:∀ (A B:Slots),(∀ cs,sget A t=some (.var cs)→sget B t=some (.var cs))→isVar A t=true→isVar B t=true:=by
  intro A B hab h1
  unfold isVar at h1
  split at h1
  ·rename_i cs h2; unfold isVar; rw [hab cs h2]
  ·cases h1
 rw [Bool.eq_iff_iff]
 exact ⟨key S2 S fun cs=>(ha.var t cs hv).2,key S S2 fun cs=>(ha.var t cs hv).1⟩
theorem cellsAt_congr (ha:AgreeV V S S2 ts) (ad:AAddr) (hn:∀ t o,ad = .loc t o→¬ V t):cellsAt S2 h ad=cellsAt S h ad:=by
 cases ad with
 | glob i o=>rfl
 | loc t o =>
  have hv:=hn t o rfl
  simp only [cellsAt]
  cases h1:sget S t with
  | none =>
   cases h2:sget S2 t with
   | none=>rfl
   | some y=>cases y <;> first | rfl | (rename_i cs; have:=(ha.var t cs hv).2 h2; rw [h1] at this; cases this)
  | some x =>
   cases x with
   | var cs=>rw [(ha.var t cs hv).1 h1]
   | _ =>
    cases h2:sget S2 t with
    | none=>rfl
    | some y=>cases y <;> first | rfl | (rename_i cs; have:=(ha.var t cs hv).2 h2; rw [h1] at this; cases this)
theorem loadAt_congr (ha:AgreeV V S S2 ts) (ad:AAddr) (n:Option Nat) (hn:∀ t o,ad = .loc t o→¬ V t):loadAt S2 h ad n=loadAt S h ad n:=by simp only [loadAt,cellsAt_congr ha ad hn]
theorem fill_congr:∀ {ps:List (Nat × Nat × Opd)} {cs:List AVal},AgreeV V S S2 (readsP ps)→fill S2 cs ps=fill S cs ps
 | [],_,_=>rfl
 | (o,n,x) :: ps,cs,ha=>by
  simp only [readsP] at ha
  simp only [fill,di ha.left]
  split
  ·split
   ·exact fill_congr ha.right
   ·rfl
  ·rfl
theorem aSlice_congr {k:SliceKind} {x:Opd} {lo hi mx:Option AVal} (ha:AgreeV V S S2 x.reads):aSlice k S2 h x lo hi mx=aSlice k S h x lo hi mx:=by
 cases k <;> simp only [aSlice,di ha,adr_congr ha]
def Same (S S2:Slots) (r r2:Option (Slot × Slots × Heap)):Prop :=
 ∀ x s' h',r=some (x,s',h')→s'=S∧r2=some (x,S2,h')∧∀ cs,x ≠ .var cs
theorem fe (v:Option AVal):Same S S2 (ok1 S h v) (ok1 S2 h v):=by
 intro x s' h' e
 obtain ⟨u,rfl,rfl,rfl,rfl⟩:=du e
 exact ⟨rfl,rfl,fun cs e=>by cases e⟩
theorem cf (r2:Option (Slot × Slots × Heap)):Same S S2 none r2:=by intro x s' h' e; cases e
theorem same_val (v:AVal) (h':Heap):Same S S2 (some (.val v,S,h')) (some (.val v,S2,h')):=by
 intro x s' h1 e; cases e; exact ⟨rfl,rfl,fun cs e=>by cases e⟩
theorem same_loc (t o:Nat):Same S S2 (some (.loc t o,S,h)) (some (.loc t o,S2,h)):=by
 intro x s' h1 e; cases e; exact ⟨rfl,rfl,fun cs e=>by cases e⟩
theorem same_map {α:Type} (r:Option α) (f:α→AVal) (g:α→Heap):Same S S2 (r.map fun y=>(.val (f y),S,g y)) (r.map fun y=>(.val (f y),S2,g y)):=by
 cases r with
 | none=>exact cf _
 | some y=>exact same_val _ _
theorem conv_same (k:ConvKind) (v:AVal):Same S S2 (evConv k v S h) (evConv k v S2 h):=by
 unfold evConv
 cases k <;> simp only
 ·split
  ·exact fe _
  ·exact cf _
 ·split
  ·exact fe _
  ·exact cf _
 ·split
  ·split
   ·exact same_val _ _
   ·exact cf _
  ·exact cf _
 ·split
  ·split
   ·exact fe _
   ·exact cf _
  ·exact cf _
 ·split
  ·split
   ·split
    ·exact same_val _ _
    ·exact cf _
   ·exact cf _
  ·exact cf _
theorem op_congr {call:CallSem} {d:Nat} {o:AOp} (hc:calm o=true) (ha:AgreeV V S S2 o.reads):Same S S2 (evOp call d o S h) (evOp call d o S2 h):=by
 cases o with
 | lalloc z=>cases hc
 | lbox x=>cases hc
 | store n a x=>cases hc
 | copy e d s=>cases hc
 | val x=>simp only [evOp,di ha]; exact fe _
 | pick c a b =>
  simp only [evOp,di ha.left.left,di ha.left.right,di ha.right]
  split
  ·exact fe _
  ·exact fe _
  ·exact cf _
 | alloc e z=>exact same_val _ _
 | box x =>
  simp only [evOp,di ha]
  split
  ·exact same_val _ _
  ·exact cf _
 | build z ps=>simp only [evOp,fill_congr ha]; exact fe _
 | mkslice e n z ps =>
  simp only [evOp,fill_congr ha]
  split
  ·exact same_val _ _
  ·exact cf _
 | load n a =>
  simp only [evOp,adr_congr ha]
  split
  ·rename_i ad had
   rw [loadAt_congr ha ad n fun t o e=>adr_no ha (by rw [had,e])]; exact fe _
  ·exact cf _
 | bin op x y =>
  simp only [evOp,di ha.left,di ha.right]
  split
  ·exact fe _
  ·exact cf _
 | un op x =>
  simp only [evOp,di ha]
  split
  ·exact fe _
  ·exact cf _
 | conv k x =>
  simp only [evOp,di ha]
  split
  ·exact conv_same _ _
  ·exact cf _
 | mkfunc g f c =>
  simp only [evOp,evs_congr ha.left,evs_congr ha.right]
  split
  ·exact fe _
  ·exact cf _
 | make e b z l c =>
  simp only [evOp,di ha.left,di ha.right]
  split
  ·split
   ·exact same_val _ _
   ·exact cf _
  ·exact cf _
 | slice k x lo hi mx =>
  simp only [evOp,optEv_congr ha.right,optEv_congr ha.left.right,optEv_congr ha.left.left.right]
  split
  ·rw [aSlice_congr ha.left.left.left]; exact fe _
  ·exact cf _
 | faddr x off =>
  simp only [evOp,adr_congr ha]
  split
  ·exact fe _
  ·rename_i had
   rw [isVar_congr ha _ (adr_no ha had)]
   split
   ·exact same_loc _ _
   ·exact cf _
  ·exact cf _
 | field x off n =>
  simp only [evOp,di ha]
  split
  ·exact fe _
  ·exact cf _
 | iaddr e x i =>
  simp only [evOp,di ha.left,di ha.right]
  split
  ·exact fe _
  ·exact cf _
 | aaddr n e x i =>
  simp only [evOp,adr_congr ha.left,di ha.right]
  split
  ·exact fe _
  ·rename_i had _
   rw [isVar_congr ha.left _ (adr_no ha.left had)]
   split
   ·generalize inBounds n _=ib
    cases ib with
    | none=>exact cf _
    | some j=>exact same_loc _ _
   ·exact cf _
  ·exact cf _
 | index x i =>
  simp only [evOp,di ha.left,di ha.right]
  split
  ·exact fe _
  ·exact cf _
 | aindex n e k x i =>
  simp only [evOp,di ha.left,di ha.right]
  split
  ·exact fe _
  ·exact cf _
 | extract x i =>
  simp only [evOp,di ha]
  split
  ·exact fe _
  ·exact cf _
 | call f args =>
  simp only [evOp,di ha.left,evs_congr ha.right]
  split
  ·exact same_map _ _ _
  ·split
   ·exact same_map _ _ _
   ·exact cf _
  ·exact cf _
 | ext k xs =>
  simp only [evOp,evs_congr ha]
  split
  ·exact same_map _ _ _
  ·exact cf _
 | callg g args =>
  simp only [evOp,evs_congr ha]
  split
  ·exact same_map _ _ _
  ·exact cf _
 | len k x =>
  simp only [evOp,di ha]
  split
  ·exact fe _
  ·exact cf _
 | append e b x y =>
  simp only [evOp,di ha.left,di ha.right]
  split
  ·exact same_map _ _ _
  ·exact cf _
 | minmax m xs =>
  simp only [evOp,evs_congr ha]
  split
  ·exact fe _
  ·exact cf _
 | nilcheck x =>
  simp only [evOp,di ha,adr_congr ha]
  split
  ·exact fe _
  ·split
   ·rename_i had
    rw [isVar_congr ha _ (adr_no ha had)]
    split
    ·exact same_loc _ _
    ·exact cf _
   ·exact cf _
 | eqnil k neg x y =>
  simp only [evOp,di ha.left,di ha.right]
  split
  ·exact fe _
  ·exact cf _
 | beq neg x y =>
  simp only [evOp,di ha.left,di ha.right]
  split
  ·exact fe _
  ·exact cf _
 | nextStr x=>exact cf _
theorem gh {call:CallSem} {o:AOper} (hc:calm o.op=true) (ha:AgreeV V S S2 o.reads) {s':Slots} {h':Heap} (e:evOper call o S h=some (s',h')) :
  ∃ x,s'=setSlot o.dst x S∧evOper call o S2 h=some (setSlot o.dst x S2,h')∧∀ cs,x ≠ .var cs:=by
 have run:evRun call o S h=some (s',h')→∃ x,s'=setSlot o.dst x S∧evRun call o S2 h=some (setSlot o.dst x S2,h')∧∀ cs,x ≠ .var cs:=by
  intro e
  unfold evRun at e
  split at e
  ·rename_i x s1 h1 h2
   cases e
   obtain ⟨e1,e2,e3⟩:=op_congr hc ha.left _ _ _ h2
   subst e1
   exact ⟨x,rfl,by unfold evRun; rw [e2],e3⟩
  ·cases e
 unfold evOper at e ⊢
 cases hg:o.guard with
 | none =>
  rw [hg] at e
  exact run e
 | some tw =>
  obtain ⟨t,want⟩:=tw
  rw [hg] at e
  have ht:sget S2 t=sget S t:=(ha.at_ t (by simp [AOper.reads,hg])).symm
  simp only at e ⊢
  rw [ht]
  split at e
  ·split at e
   ·rename_i hb
    obtain ⟨x,e1,e2,e3⟩:=run e
    exact ⟨x,e1,by rw [if_pos hb]; exact e2,e3⟩
   ·rename_i hb
    cases e
    exact ⟨.undef,rfl,by rw [if_neg hb],fun cs e=>by cases e⟩
  ·cases e; exact ⟨.undef,rfl,rfl,fun cs e=>by cases e⟩
  ·cases e
end
end Go.Abs

namespace Go.Abs
section
variable {E:Env} {μ μ':MM}
mutual
theorem VRel.ids_lt:∀ {a:AVal} {v:Value},VRel E μ a v→∀ i ∈ a.ids,i < μ.length
 | .bool _,_,_,i,hi=>by simp [AVal.ids] at hi
 | .int _ _,_,_,i,hi=>by simp [AVal.ids] at hi
 | .str _,_,_,i,hi=>by simp [AVal.ids] at hi
 | .ptr none,_,_,i,hi=>by simp [AVal.ids] at hi
 | .ptr (some (j,o)),v,h,i,hi=>by
  simp only [AVal.ids,bi] at hi; subst hi
  simp only [VRel] at h
  obtain ⟨_,_,x,hx,_⟩:=h
  exact ah hx
 | .slice none _ _,_,_,i,hi=>by simp [AVal.ids] at hi
 | .slice (some (j,o)) n c,v,h,i,hi=>by
  simp only [AVal.ids,bi] at hi; subst hi
  simp only [VRel] at h
  obtain ⟨_,_,_,hl,_⟩:=h
  exact hl.1
 | .map none,_,_,i,hi=>by simp [AVal.ids] at hi
 | .map (some j),v,h,i,hi=>by
  simp only [AVal.ids,bi] at hi; subst hi
  simp only [VRel] at h
  obtain ⟨_,x,_,hx,_⟩:=h
  exact ah hx
 | .yield j,v,h,i,hi=>by
  simp only [AVal.ids,bi] at hi; subst hi
  simp only [VRel] at h
  obtain ⟨_,x,_,hx,_⟩:=h
  exact ah hx
 | .func g f c,v,h,i,hi=>by
  simp only [VRel] at h
  obtain ⟨_,f',c',_,_,h1,h2⟩:=h
  simp only [AVal.ids,br] at hi
  rcases hi with hi | hi
  ·exact VRels.ids_lt h1 i hi
  ·exact VRels.ids_lt h2 i hi
 | .nilFunc,_,_,i,hi=>by simp [AVal.ids] at hi
 | .iface _ _,_,h,_,_=>by simp only [VRel] at h
 | .nilIface,_,_,i,hi=>by simp [AVal.ids] at hi
 | .agg cs,v,h,i,hi=>by
  simp only [VRel] at h
  obtain ⟨_,_,h1,_⟩:=h
  exact VRels.ids_lt h1 i (by simpa [AVal.ids] using hi)
 | .tuple vs,v,h,i,hi=>by
  simp only [VRel] at h
  obtain ⟨_,_,h1⟩:=h
  exact VRels.ids_lt h1 i (by simpa [AVal.ids] using hi)
theorem VRels.ids_lt:∀ {as:List AVal} {l:List Value},VRels E μ as l→∀ i ∈ AVal.idsL as,i < μ.length
 | [],_,_,i,hi=>by simp [AVal.idsL] at hi
 | a :: as,l,h,i,hi=>by
  simp only [VRels] at h
  obtain ⟨_,_,_,h1,h2⟩:=h
  simp only [AVal.idsL,br] at hi
  rcases hi with hi | hi
  ·exact VRel.ids_lt h1 i hi
  ·exact VRels.ids_lt h2 i hi
end
mutual
theorem gt:∀ {a:AVal} {v:Value},(∀ i ∈ a.ids,i < μ.length→μ'[i]? = μ[i]?)→VRel E μ a v→VRel E μ' a v
 | .bool _,_,_,h=>by simpa only [VRel] using h
 | .int _ _,_,_,h=>by simpa only [VRel] using h
 | .str _,_,_,h=>by simpa only [VRel] using h
 | .ptr none,_,_,h=>by simpa only [VRel] using h
 | .ptr (some (j,o)),v,hi,h=>by
  have h3:=hi j (by simp [AVal.ids])
  simp only [VRel,ARel] at h ⊢
  obtain ⟨a,e,x,hx,hm⟩:=h
  exact ⟨a,e,x,(h3 (ah hx)).trans hx,hm⟩
 | .slice none _ _,_,_,h=>by simpa only [VRel] using h
 | .slice (some (j,o)) n c,v,hi,h=>by
  have h3:=hi j (by simp [AVal.ids])
  simp only [VRel,ARel] at h ⊢
  obtain ⟨a,cap,e,h1,h2⟩:=h
  have h4:=h3 h1.1
  rw [h4]
  refine ⟨a,cap,e,⟨?_,h1.2⟩,h2⟩
  rw [aj h1.1] at h4
  exact ah h4
 | .map none,_,_,h=>by simpa only [VRel] using h
 | .map (some j),v,hi,h=>by
  have h3:=hi j (by simp [AVal.ids])
  simp only [VRel] at h ⊢
  obtain ⟨b,x,e,hx,hm⟩:=h
  exact ⟨b,x,e,(h3 (ah hx)).trans hx,hm⟩
 | .yield j,v,hi,h=>by
  have h3:=hi j (by simp [AVal.ids])
  simp only [VRel] at h ⊢
  obtain ⟨b,x,e,hx,hm⟩:=h
  exact ⟨b,x,e,(h3 (ah hx)).trans hx,hm⟩
 | .func g f c,v,hi,h=>by
  simp only [VRel] at h ⊢
  obtain ⟨fid,f',c',e,hg,h1,h2⟩:=h
  exact ⟨fid,f',c',e,hg,sames_rel (fun i hi'=>hi i (by simp [AVal.ids,hi'])) h1,sames_rel (fun i hi'=>hi i (by simp [AVal.ids,hi'])) h2⟩
 | .nilFunc,_,_,h=>by simpa only [VRel] using h
 | .iface _ _,_,_,h=>by simp only [VRel] at h
 | .nilIface,_,_,h=>by simpa only [VRel] using h
 | .agg cs,v,hi,h=>by
  simp only [VRel] at h ⊢
  obtain ⟨cs',e,h1,h2⟩:=h
  exact ⟨cs',e,sames_rel (fun i hi'=>hi i (by simp [AVal.ids,hi'])) h1,h2⟩
 | .tuple vs,v,hi,h=>by
  simp only [VRel] at h ⊢
  obtain ⟨cs',e,h1⟩:=h
  exact ⟨cs',e,sames_rel (fun i hi'=>hi i (by simp [AVal.ids,hi'])) h1⟩
theorem sames_rel:∀ {as:List AVal} {l:List Value},(∀ i ∈ AVal.idsL as,i < μ.length→μ'[i]? = μ[i]?)→VRels E μ as l→VRels E μ' as l
 | [],_,_,h=>by simpa only [VRels] using h
 | a :: as,l,hi,h=>by
  simp only [VRels] at h ⊢
  obtain ⟨v,r,e,h1,h2⟩:=h
  exact ⟨v,r,e,gt (fun i hi'=>hi i (by simp [AVal.idsL,hi'])) h1,sames_rel (fun i hi'=>hi i (by simp [AVal.idsL,hi'])) h2⟩
end
end
section
variable {E:Env} {μ μ':MM} {n:Nat}
mutual
theorem under_rel (hm:∀ i,i < n→μ'[i]? = μ[i]?):∀ {a:AVal} {v:Value},a.under n=true→VRel E μ' a v→VRel E μ a v
 | .bool b,v,_,h=>by simpa only [VRel] using h
 | .int k m,v,_,h=>by simpa only [VRel] using h
 | .str s,v,_,h=>by simpa only [VRel] using h
 | .ptr none,v,_,h=>by simpa only [VRel] using h
 | .ptr (some (i,o)),v,hu,h=>by
  simp only [AVal.under,decide_eq_true_eq] at hu
  simp only [VRel,ARel] at h ⊢
  rw [hm i hu] at h; exact h
 | .slice none m c,v,_,h=>by simpa only [VRel] using h
 | .slice (some (i,o)) m c,v,hu,h=>by
  simp only [AVal.under,decide_eq_true_eq] at hu
  simp only [VRel,ARel] at h ⊢
  rw [hm i hu] at h
  obtain ⟨a,cap,e,h1,h2⟩:=h
  refine ⟨a,cap,e,⟨?_,h1.2⟩,h2⟩
  have h3:=hm i hu
  rcases a8 i μ.length with h4 | h4
  ·exact h4
  ·rw [bp h4,aj h1.1] at h3; cases h3
 | .map none,v,_,h=>by simpa only [VRel] using h
 | .map (some i),v,hu,h=>by
  simp only [AVal.under,decide_eq_true_eq] at hu
  simp only [VRel] at h ⊢
  rw [hm i hu] at h; exact h
 | .yield i,v,hu,h=>by
  simp only [AVal.under,decide_eq_true_eq] at hu
  simp only [VRel] at h ⊢
  rw [hm i hu] at h; exact h
 | .func g f c,v,hu,h=>by
  simp only [AVal.under,az] at hu
  simp only [VRel] at h ⊢
  obtain ⟨fid,f',c',e,hg,h1,h2⟩:=h
  exact ⟨fid,f',c',e,hg,unders_rel hm hu.1 h1,unders_rel hm hu.2 h2⟩
 | .nilFunc,v,_,h=>by simpa only [VRel] using h
 | .iface _ _,v,_,h=>by simp only [VRel] at h
 | .nilIface,v,_,h=>by simpa only [VRel] using h
 | .agg cs,v,hu,h=>by
  simp only [AVal.under] at hu
  simp only [VRel] at h ⊢
  obtain ⟨cs',e,h1,h2⟩:=h
  exact ⟨cs',e,unders_rel hm hu h1,h2⟩
 | .tuple vs,v,hu,h=>by
  simp only [AVal.under] at hu
  simp only [VRel] at h ⊢
  obtain ⟨cs',e,h1⟩:=h
  exact ⟨cs',e,unders_rel hm hu h1⟩
theorem unders_rel (hm:∀ i,i < n→μ'[i]? = μ[i]?):∀ {as:List AVal} {l:List Value},AVal.unders n as=true→VRels E μ' as l→VRels E μ as l
 | [],l,_,h=>by simpa only [VRels] using h
 | a :: as,l,hu,h=>by
  simp only [AVal.unders,az] at hu
  simp only [VRels] at h ⊢
  obtain ⟨v,r,e,h1,h2⟩:=h
  exact ⟨v,r,e,under_rel hm hu.1 h1,unders_rel hm hu.2 h2⟩
end
theorem isOne_ren (f:Nat→Nat) (a:AVal):(a.ren f).isOne=a.isOne:=by
 cases a with
 | ptr p=>cases p <;> simp [AVal.ren,AVal.isOne]
 | slice p m c=>cases p <;> simp [AVal.ren,AVal.isOne]
 | map p=>cases p <;> simp [AVal.ren,AVal.isOne]
 | _=>simp [AVal.ren,AVal.isOne]
mutual
theorem ren_rel (f:Nat→Nat):∀ {a:AVal} {v:Value},(∀ i ∈ a.ids,i < μ.length→μ'[f i]? = μ[i]?)→VRel E μ a v→VRel E μ' (a.ren f) v
 | .bool b,v,_,h=>by simpa only [AVal.ren,VRel] using h
 | .int k m,v,_,h=>by simpa only [AVal.ren,VRel] using h
 | .str s,v,_,h=>by simpa only [AVal.ren,VRel] using h
 | .ptr none,v,_,h=>by simpa only [AVal.ren,VRel] using h
 | .ptr (some (i,o)),v,hi,h=>by
  have h3:=hi i (by simp [AVal.ids])
  simp only [AVal.ren,VRel,ARel] at h ⊢
  obtain ⟨a,e,x,hx,hm⟩:=h
  exact ⟨a,e,x,(h3 (ah hx)).trans hx,hm⟩
 | .slice none m c,v,_,h=>by simpa only [AVal.ren,VRel] using h
 | .slice (some (i,o)) m c,v,hi,h=>by
  have h3:=hi i (by simp [AVal.ids])
  simp only [AVal.ren,VRel,ARel] at h ⊢
  obtain ⟨a,cap,e,h1,h2⟩:=h
  have h4:=h3 h1.1
  rw [h4]
  refine ⟨a,cap,e,⟨?_,h1.2⟩,h2⟩
  rw [aj h1.1] at h4
  exact ah h4
 | .map none,v,_,h=>by simpa only [AVal.ren,VRel] using h
 | .map (some i),v,hi,h=>by
  have h3:=hi i (by simp [AVal.ids])
  simp only [AVal.ren,VRel] at h ⊢
  obtain ⟨b,x,e,hx,hm⟩:=h
  exact ⟨b,x,e,(h3 (ah hx)).trans hx,hm⟩
 | .yield i,v,hi,h=>by
  have h3:=hi i (by simp [AVal.ids])
  simp only [AVal.ren,VRel] at h ⊢
  obtain ⟨b,x,e,hx,hm⟩:=h
  exact ⟨b,x,e,(h3 (ah hx)).trans hx,hm⟩
 | .func g a c,v,hi,h=>by
  simp only [AVal.ren,VRel] at h ⊢
  obtain ⟨fid,f',c',e,hg,h1,h2⟩:=h
  exact ⟨fid,f',c',e,hg,rens_rel f (fun i hi'=>hi i (by simp [AVal.ids,hi'])) h1,rens_rel f (fun i hi'=>hi i (by simp [AVal.ids,hi'])) h2⟩
 | .nilFunc,v,_,h=>by simpa only [AVal.ren,VRel] using h
 | .iface _ _,v,_,h=>by simp only [VRel] at h
 | .nilIface,v,_,h=>by simpa only [AVal.ren,VRel] using h
 | .agg cs,v,hi,h=>by
  simp only [AVal.ren,VRel] at h ⊢
  obtain ⟨cs',e,h1,h2⟩:=h
  exact ⟨cs',e,rens_rel f (fun i hi'=>hi i (by simp [AVal.ids,hi'])) h1,rens_one f h2⟩
 | .tuple vs,v,hi,h=>by
  simp only [AVal.ren,VRel] at h ⊢
  obtain ⟨cs',e,h1⟩:=h
  exact ⟨cs',e,rens_rel f (fun i hi'=>hi i (by simp [AVal.ids,hi'])) h1⟩
theorem rens_rel (f:Nat→Nat):∀ {as:List AVal} {l:List Value},(∀ i ∈ AVal.idsL as,i < μ.length→μ'[f i]? = μ[i]?)→VRels E μ as l→VRels E μ' (AVal.renL f as) l
 | [],l,_,h=>by simpa only [AVal.renL,VRels] using h
 | a :: as,l,hi,h=>by
  simp only [AVal.renL,VRels] at h ⊢
  obtain ⟨v,r,e,h1,h2⟩:=h
  exact ⟨v,r,e,ren_rel f (fun i hi'=>hi i (by simp [AVal.idsL,hi'])) h1,rens_rel f (fun i hi'=>hi i (by simp [AVal.idsL,hi'])) h2⟩
theorem rens_one (f:Nat→Nat):∀ {as:List AVal},(∀ x ∈ as,x.isOne=true)→∀ x ∈ AVal.renL f as,x.isOne=true
 | [],_=>by simp [AVal.renL]
 | a :: as,h=>by
  intro x hx
  simp only [AVal.renL,c9] at hx
  rcases hx with rfl | hx
  ·rw [isOne_ren]; exact h a (a7 ..)
  ·exact rens_one f (fun y hy=>h y (bd _ hy)) x hx
end
theorem renL_get (f:Nat→Nat):∀ (as:List AVal) (k:Nat),(AVal.renL f as)[k]? = (as[k]?).map (AVal.ren f)
 | [],k=>by simp [AVal.renL]
 | a :: as,0=>by simp [AVal.renL]
 | a :: as,k+1=>by simpa [AVal.renL] using renL_get f as k
theorem renL_length (f:Nat→Nat):∀ (as:List AVal),(AVal.renL f as).length=as.length
 | []=>rfl
 | a :: as=>by simp [AVal.renL,renL_length f as]
theorem kx:∀ {as:List AVal} {k:Nat} {a:AVal} {i:Nat},as[k]? = some a→i ∈ a.ids→i ∈ AVal.idsL as
 | [],k,a,i,h,_=>by simp at h
 | x :: as,0,a,i,h,hi=>by simp at h; subst h; simp [AVal.idsL,hi]
 | x :: as,k+1,a,i,h,hi=>by
  simp at h
  simp [AVal.idsL,kx h hi]
end
end Go.Abs

namespace Go.Abs
section
variable {s:Slots} {h1 h2:Heap} {X:List Nat}
inductive NewF:(Nat→Slot)→Prop where
 | ptr:NewF fun k=>.val (.ptr (some (k,0)))
 | slice (n:Nat) (c:Option Nat):NewF fun k=>.val (.slice (some (k,0)) n c)
 | map:NewF fun k=>.val (.map (some k))
theorem NewF.ids {f:Nat→Slot} (h:NewF f) (k:Nat):(f k).ids=[k]:=by cases h <;> rfl
theorem NewF.ren {f:Nat→Slot} (h:NewF f) (N r:Nat):(f N).ren (mv N r)=f r:=by cases h <;> simp [Slot.ren,AVal.ren,mv]
theorem NewF.novar {f:Nat→Slot} (h:NewF f) (k:Nat) (cs:List AVal):f k ≠ .var cs:=by cases h <;> simp
def Moved (o:AOp) (s:Slots) (h1 h2:Heap) (a b:Option (Slot × Slots × Heap)):Prop :=
 ∀ x s' h',a=some (x,s',h')→s'=s∧((h'=h1∧b=some (x,s,h2))∨(∃ ob f,NewF f∧x=f h1.size∧h'=h1.push ob∧b=some (f h2.size,s,h2.push ob)) ∨
  (∃ i ob f,NewF f∧h1.base≤i∧i < h1.size∧i ∈ rdIds o s∧x=f h1.size∧h'=(h1.put i .dead).push ob∧b=some (f h2.size,s,(h2.put i .dead).push ob)) ∨
  (∃ i ob,h1.base≤i∧i < h1.size∧i ∈ rdIds o s∧(∃ v,x = .val v)∧h'=h1.put i ob∧b=some (x,s,h2.put i ob)))
variable {o:AOp}
theorem bh (b:Option (Slot × Slots × Heap)):Moved o s h1 h2 none b:=fun _ _ _ e=>by cases e
theorem ef (v:Option AVal):Moved o s h1 h2 (ok1 s h1 v) (ok1 s h2 v):=fun x s' h' e=>by
 unfold ok1 at e ⊢
 rw [ae] at e
 obtain ⟨u,rfl,e⟩:=e
 cases e
 exact ⟨rfl,.inl ⟨rfl,rfl⟩⟩
theorem jy (y:Slot):Moved o s h1 h2 (some (y,s,h1)) (some (y,s,h2)):=fun x s' h' e=>by
 cases e
 exact ⟨rfl,.inl ⟨rfl,rfl⟩⟩
theorem moved_map {α:Type} (v:Option α) (f:α→Slot):Moved o s h1 h2 (v.map fun j=>(f j,s,h1)) (v.map fun j=>(f j,s,h2)):=fun x s' h' e=>by
 rw [ae] at e
 obtain ⟨u,rfl,e⟩:=e
 cases e
 exact ⟨rfl,.inl ⟨rfl,rfl⟩⟩
theorem ia {f:Nat→Slot} (hf:NewF f) (ob:AObj):Moved o s h1 h2 (some (f h1.size,s,h1.push ob)) (some (f h2.size,s,h2.push ob)):=fun x s' h' e=>by
 cases e
 exact ⟨rfl,.inr (.inl ⟨ob,f,hf,rfl,rfl,rfl⟩)⟩
theorem rowOf_same {e:Nat} {v:AVal} (ha:∀ i ∈ v.ids,h2.get i=h1.get i):rowOf e h2 v=rowOf e h1 v:=by
 unfold rowOf
 split
 ·rfl
 ·rename_i i o n c
  rw [ha i (by simp [AVal.ids])]
 ·rfl
 ·rfl
theorem adr_get {x:Opd} {i o:Nat} (ha:∀ v,x.ev s=some v→∀ i ∈ v.ids,h2.get i=h1.get i) (hx:x.adr s=some (.glob i o)):h2.get i=h1.get i:=by
 unfold Opd.adr at hx
 split at hx
 ·rename_i t
  split at hx <;> cases hx
  rename_i hs
  exact ha (.ptr (some (i,o))) (by simp [Opd.ev,hs]) i (by simp [AVal.ids])
 ·cases hx
theorem kp:∀ {xs:List Opd} {vs:List AVal} {v:AVal},evs s xs=some vs→v ∈ vs→∃ x ∈ xs,x.ev s=some v
 | [],vs,v,h,hv=>by simp only [evs] at h; cases h; cases hv
 | x :: xs,vs,v,h,hv=>by
  simp only [evs] at h
  split at h
  ·rename_i u us hu hus
   cases h
   rcases c9.1 hv with rfl | hv
   ·exact ⟨x,a7 ..,hu⟩
   ·obtain ⟨y,hy,h3⟩:=kp hus hv
    exact ⟨y,bd _ hy,h3⟩
  ·cases h
theorem op_heap {call:CallSem} {d:Nat} {o:AOp} (hc:soft o=true) (hcc:o.isCall=false) (hb:h2.base=h1.base) (ha:∀ x ∈ heapOpds o,∀ v,x.ev s=some v→∀ i ∈ v.ids,h2.get i=h1.get i) :
  Moved o s h1 h2 (evOp call d o s h1) (evOp call d o s h2):=by
 cases o with
 | lalloc z=>cases hc
 | lbox x=>cases hc
 | store n a x=>cases hc
 | copy e d s=>cases hc
 | call f args=>cases hcc
 | callg g args=>cases hcc
 | alloc e z=>simp only [evOp]; exact ia .ptr _
 | box x =>
  simp only [evOp]
  split
  ·exact ia .ptr _
  ·exact bh _
 | mkslice e n z ps =>
  simp only [evOp]
  split
  ·exact ia (.slice _ _) _
  ·exact bh _
 | make e b z l c =>
  simp only [evOp]
  split
  ·split
   ·exact ia (.slice _ _) _
   ·exact bh _
  ·exact bh _
 | load n a =>
  simp only [evOp]
  split
  ·rename_i ad had
   have:loadAt s h2 ad n=loadAt s h1 ad n:=by
    unfold loadAt cellsAt
    cases ad with
    | glob i o=>simp only; rw [adr_get (ha a (by simp [heapOpds])) had]
    | loc t o=>rfl
   rw [this]
   exact ef _
  ·exact bh _
 | len k x =>
  simp only [evOp]
  split
  ·rename_i v hv
   have:evLen k v h2=evLen k v h1:=by
    unfold evLen
    split
    ·rfl
    ·rfl
    ·split
     ·rfl
     ·rename_i r
      rw [ha x (by simp [heapOpds]) _ hv r (by simp [AVal.ids])]
     ·rfl
   rw [this]
   exact ef _
  ·exact bh _
 | conv k x =>
  simp only [evOp]
  split
  ·rename_i v hv
   have hav:=ha x (by simp [heapOpds]) v hv
   unfold evConv
   split
   ·split
    ·exact ef _
    ·exact bh _
   ·split
    ·exact ef _
    ·exact bh _
   ·split
    ·split
     ·exact ia (.slice _ _) _
     ·exact bh _
    ·exact bh _
   ·split
    ·rename_i a n c
     rw [rowOf_same hav]
     split
     ·exact ef _
     ·exact bh _
    ·exact bh _
   ·split
    ·rename_i i o' n c
     have hgi:=hav i (by simp [AVal.ids])
     intro x' s' h' e
     split at e
     case h_2=>cases e
     rename_i e1 cs hcs
     split at e
     case isFalse=>cases e
     rename_i hh
     cases e
     refine ⟨rfl,.inr (.inr (.inr ⟨i,_,hh.2,ah hcs,?_,⟨_,rfl⟩,rfl,?_⟩))⟩
     ·unfold rdIds
      rw [da]
      exact ⟨x,by simp [heapOpds],by rw [hv]; simp [AVal.ids]⟩
     ·rw [hgi,hcs]
      simp only
      rw [if_pos ⟨hh.1,by rw [hb]; exact hh.2⟩]
    ·exact bh _
  ·exact bh _
 | slice k x lo hi mx =>
  simp only [evOp]
  split
  ·rename_i lo' hi' mx' _ _ _
   have hav:=ha x (by simp [heapOpds])
   have:aSlice k s h2 x lo' hi' mx'=aSlice k s h1 x lo' hi' mx':=by
    unfold aSlice
    cases k with
    | str=>rfl
    | sl e =>
     simp only
     cases hx:x.ev s with
     | none=>rfl
     | some v =>
      cases v with
      | slice p n c =>
       cases p with
       | none=>rfl
       | some p =>
        obtain ⟨i,o⟩:=p
        have h3:=hav _ hx i (by simp [AVal.ids])
        have h4:eszIs h2 i e=eszIs h1 i e:=by unfold eszIs; rw [h3]
        simp only [h4]
      | _=>rfl
    | arr n e =>
     simp only
     cases hx:x.adr s with
     | none=>rfl
     | some ad =>
      cases ad with
      | glob i o=>simp only [adr_get hav hx]
      | loc t o=>rfl
   rw [this]
   exact ef _
  ·exact bh _
 | append e b x y =>
  simp only [evOp]
  split
  ·rename_i vx vy hx hy
   have hax:=ha x (by simp [heapOpds]) vx hx
   have hay:=ha y (by simp [heapOpds]) vy hy
   unfold aAppend
   split
   ·rename_i a n c
    rw [rowOf_same hax,rowOf_same hay]
    split
    ·rename_i old new _ _
     unfold aApp
     split
     ·exact jy _
     ·split
      ·cases a with
       | none=>simp only; exact ia (.slice _ _) _
       | some p =>
        obtain ⟨i,o⟩:=p
        simp only
        split
        ·exact ia (.slice _ _) _
        ·have hr:rowIs h2 i e=rowIs h1 i e:=by
          unfold rowIs
          rw [hax i (by simp [AVal.ids])]
         rw [hb,hr]
         split
         ·rename_i hh
          intro x' s' h' e'
          cases e'
          have hlt:i < h1.size:=by
           have h3:=hh.2
           unfold rowIs at h3
           split at h3
           ·rename_i hg; exact ah hg
           ·cases h3
          refine ⟨rfl,.inr (.inr (.inl ⟨i,_,_,.slice _ _,hh.1,hlt,?_,rfl,rfl,?_⟩))⟩
          ·simp [rdIds,heapOpds,hx,AVal.ids]
          ·simp [Heap.size,Heap.put]
         ·exact bh _
      ·exact bh _
    ·exact bh _
   ·exact bh _
  ·exact bh _
 | val x=>exact ef _
 | build z ps=>exact ef _
 | faddr x off =>
  simp only [evOp]
  split
  ·exact ef _
  ·split
   ·exact jy _
   ·exact bh _
  ·exact bh _
 | pick c x y =>
  simp only [evOp]
  split
  ·exact ef _
  ·exact ef _
  ·exact bh _
 | bin op x y =>
  simp only [evOp]
  split
  ·exact ef _
  ·exact bh _
 | un op x =>
  simp only [evOp]
  split
  ·exact ef _
  ·exact bh _
 | mkfunc g f c =>
  simp only [evOp]
  split
  ·exact ef _
  ·exact bh _
 | field x off n =>
  simp only [evOp]
  split
  ·exact ef _
  ·exact bh _
 | iaddr e x i =>
  simp only [evOp]
  split
  ·exact ef _
  ·exact bh _
 | aaddr n e x i =>
  simp only [evOp]
  split
  ·exact ef _
  ·split
   ·exact moved_map _ _
   ·exact bh _
  ·exact bh _
 | index x i =>
  simp only [evOp]
  split
  ·exact ef _
  ·exact bh _
 | aindex n e k x i =>
  simp only [evOp]
  split
  ·exact ef _
  ·exact bh _
 | extract x i =>
  simp only [evOp]
  split
  ·exact ef _
  ·exact bh _
 | minmax m xs =>
  simp only [evOp]
  split
  ·exact ef _
  ·exact bh _
 | nilcheck x =>
  simp only [evOp]
  split
  ·exact ef _
  ·split
   ·split
    ·exact jy _
    ·exact bh _
   ·exact bh _
 | eqnil k neg x y =>
  simp only [evOp]
  split
  ·exact ef _
  ·exact bh _
 | beq neg x y =>
  simp only [evOp]
  split
  ·exact ef _
  ·exact bh _
 | ext k xs =>
  simp only [evOp]
  split
  ·rename_i vs hvs
   have hent:(∀ x ∈ xs,∀ v,x.ev s=some v→∀ i ∈ v.ids,h2.get i=h1.get i)→∀ v ∈ vs,entriesOf h2 v=entriesOf h1 v:=by
    intro ha v hv
    have:=kp hvs hv
    obtain ⟨x,hx,hxv⟩:=this
    unfold entriesOf
    split
    ·rfl
    ·rename_i r
     rw [ha x hx _ hxv r (by simp [AVal.ids])]
    ·rfl
   cases k with
   | mkmap =>
    cases vs with
    | nil=>simp only [evExt,bq]; exact ia .map _
    | cons v vs=>exact bh _
   | mkiter =>
    have hent:=hent (fun x hx=>ha x (by simpa [heapOpds] using hx))
    cases vs with
    | nil=>exact bh _
    | cons m vs =>
     cases vs with
     | cons _ _ =>
      cases m with
      | map r=>cases r <;> exact bh _
      | _=>exact bh _
     | nil =>
      cases m with
      | map r =>
       cases r with
       | none=>simp only [evExt,bq]; exact ia .ptr _
       | some r =>
        have hg:h2.get r=h1.get r:=by
         obtain ⟨x,hx,hxv⟩:=kp hvs (ct _)
         exact ha x (by simpa [heapOpds] using hx) _ hxv r (by simp [AVal.ids])
        simp only [evExt,hg]
        split
        ·simp only [bq]; exact ia .ptr _
        ·exact bh _
      | _=>exact bh _
   | mapupd kn =>
    have hg:∀ v ∈ vs,∀ i ∈ v.ids,h2.get i=h1.get i∧i ∈ rdIds (.ext (.mapupd kn) xs) s:=fun v hv i hi=>by
     obtain ⟨x,hx,hxv⟩:=kp hvs hv
     have hx':x ∈ heapOpds (.ext (.mapupd kn) xs):=by simpa [heapOpds] using hx
     refine ⟨ha x hx' v hxv i hi,?_⟩
     unfold rdIds
     rw [da]
     exact ⟨x,hx',by rw [hxv]; exact hi⟩
    intro x' s' h' e
    rw [ae] at e
    obtain ⟨⟨v,h3⟩,e,e'⟩:=e
    cases e'
    have hsh:∃ r k v',vs=[.map (some r),k,v']:=by
     rcases vs with _ | ⟨v1,_ | ⟨k,_ | ⟨v',_ | ⟨v4,vs⟩⟩⟩⟩
     ·simp [evExt] at e
     ·cases v1 <;> simp [evExt] at e
     ·cases v1 <;> simp [evExt] at e
     ·cases v1 <;> simp only [evExt,reduceCtorEq] at e
      rename_i q
      cases q with
      | none=>simp [evExt] at e
      | some r=>exact ⟨r,k,v',rfl⟩
     ·cases v1 <;> simp [evExt] at e
    obtain ⟨r,k,v',rfl⟩:=hsh
    simp only [evExt] at e
    obtain ⟨hg1,hg2⟩:=hg (.map (some r)) (a7 ..) r (by simp [AVal.ids])
    split at e
    case isFalse=>cases e
    rename_i hh
    split at e
    case h_2=>cases e
    rename_i es clock hes
    have hlt:r < h1.size:=ah hes
    split at e
    ·rename_i j v0 hfd
     cases e
     refine ⟨rfl,.inr (.inr (.inr ⟨r,_,hh.2,hlt,hg2,⟨_,rfl⟩,rfl,?_⟩))⟩
     simp only [evExt]
     rw [if_pos ⟨hh.1,by rw [hb]; exact hh.2⟩,hg1,hes]
     simp only [hfd,bq]
    ·rename_i hfd
     cases e
     refine ⟨rfl,.inr (.inr (.inr ⟨r,_,hh.2,hlt,hg2,⟨_,rfl⟩,rfl,?_⟩))⟩
     simp only [evExt]
     rw [if_pos ⟨hh.1,by rw [hb]; exact hh.2⟩,hg1,hes]
     simp only [hfd,bq]
    ·cases e
   | mapentry kn z =>
    have hg:∀ v ∈ vs,∀ i ∈ v.ids,h2.get i=h1.get i∧i ∈ rdIds (.ext (.mapentry kn z) xs) s:=fun v hv i hi=>by
     obtain ⟨x,hx,hxv⟩:=kp hvs hv
     have hx':x ∈ heapOpds (.ext (.mapentry kn z) xs):=by simpa [heapOpds] using hx
     refine ⟨ha x hx' v hxv i hi,?_⟩
     unfold rdIds
     rw [da]
     exact ⟨x,hx',by rw [hxv]; exact hi⟩
    intro x' s' h' e
    rw [ae] at e
    obtain ⟨⟨v,h3⟩,e,e'⟩:=e
    cases e'
    have hsh:∃ r k,vs=[.map (some r),k]:=by
     unfold evExt at e
     split at e <;> simp_all
    obtain ⟨r,k,rfl⟩:=hsh
    simp only [evExt] at e
    obtain ⟨hg1,hg2⟩:=hg (.map (some r)) (a7 ..) r (by simp [AVal.ids])
    split at e
    case isFalse=>cases e
    rename_i hh
    split at e
    case h_2=>cases e
    rename_i es clock hes
    have hlt:r < h1.size:=ah hes
    split at e
    ·rename_i j v0 hfd
     cases e
     refine ⟨rfl,.inr (.inr (.inr ⟨r,_,hh.2,hlt,hg2,⟨_,rfl⟩,rfl,?_⟩))⟩
     simp only [evExt]
     rw [if_pos ⟨hh.1,by rw [hb]; exact hh.2⟩,hg1,hes]
     simp only [hfd,bq]
    ·rename_i hfd
     cases e
     refine ⟨rfl,.inr (.inr (.inr ⟨r,_,hh.2,hlt,hg2,⟨_,rfl⟩,rfl,?_⟩))⟩
     simp only [evExt]
     rw [if_pos ⟨hh.1,by rw [hb]; exact hh.2⟩,hg1,hes]
     simp only [hfd,bq]
    ·cases e
   | entrystore =>
    have hg:∀ v ∈ vs,∀ i ∈ v.ids,h2.get i=h1.get i∧i ∈ rdIds (.ext .entrystore xs) s:=fun v hv i hi=>by
     obtain ⟨x,hx,hxv⟩:=kp hvs hv
     have hx':x ∈ heapOpds (.ext .entrystore xs):=by simpa [heapOpds] using hx
     refine ⟨ha x hx' v hxv i hi,?_⟩
     unfold rdIds
     rw [da]
     exact ⟨x,hx',by rw [hxv]; exact hi⟩
    intro x' s' h' e
    rw [ae] at e
    obtain ⟨⟨v,h3⟩,e,e'⟩:=e
    cases e'
    have hsh:∃ r st v',vs=[.map (some r),.int .i64 st,v']:=by
     unfold evExt at e
     split at e <;> simp_all
    obtain ⟨r,st,v',rfl⟩:=hsh
    simp only [evExt] at e
    obtain ⟨hg1,hg2⟩:=hg (.map (some r)) (a7 ..) r (by simp [AVal.ids])
    split at e
    case isFalse=>cases e
    rename_i hh
    split at e
    case h_2=>cases e
    rename_i es clock hes
    have hlt:r < h1.size:=ah hes
    split at e
    case h_2=>cases e
    rename_i j hfd
    cases e
    refine ⟨rfl,.inr (.inr (.inr ⟨r,_,hh,hlt,hg2,⟨_,rfl⟩,rfl,?_⟩))⟩
    simp only [evExt]
    rw [if_pos (by rw [hb]; exact hh),hg1,hes]
    simp only [hfd,bq]
   | delete kn =>
    have hg:∀ v ∈ vs,∀ i ∈ v.ids,h2.get i=h1.get i∧i ∈ rdIds (.ext (.delete kn) xs) s:=fun v hv i hi=>by
     obtain ⟨x,hx,hxv⟩:=kp hvs hv
     have hx':x ∈ heapOpds (.ext (.delete kn) xs):=by simpa [heapOpds] using hx
     refine ⟨ha x hx' v hxv i hi,?_⟩
     unfold rdIds
     rw [da]
     exact ⟨x,hx',by rw [hxv]; exact hi⟩
    intro x' s' h' e
    rw [ae] at e
    obtain ⟨⟨v,h3⟩,e,e'⟩:=e
    cases e'
    have hsh:(∃ k,vs=[.map none,k])∨∃ r k,vs=[.map (some r),k]:=by
     rcases vs with _ | ⟨v1,_ | ⟨k,_ | ⟨v',vs⟩⟩⟩
     ·simp [evExt] at e
     ·cases v1 <;> simp [evExt] at e
     ·cases v1 <;> simp only [evExt,reduceCtorEq] at e
      rename_i q
      cases q with
      | none=>exact .inl ⟨k,rfl⟩
      | some r=>exact .inr ⟨r,k,rfl⟩
     ·cases v1 <;> simp [evExt] at e
    rcases hsh with ⟨k,rfl⟩ | ⟨r,k,rfl⟩
    ·simp only [evExt] at e
     split at e
     case isFalse=>cases e
     rename_i hh
     cases e
     exact ⟨rfl,.inl ⟨rfl,by simp only [evExt]; rw [if_pos hh]; rfl⟩⟩
    simp only [evExt] at e
    obtain ⟨hg1,hg2⟩:=hg (.map (some r)) (a7 ..) r (by simp [AVal.ids])
    split at e
    case isFalse=>cases e
    rename_i hh
    split at e
    case h_2=>cases e
    rename_i es clock hes
    have hlt:r < h1.size:=ah hes
    split at e
    ·rename_i j v0 hfd
     cases e
     refine ⟨rfl,.inr (.inr (.inr ⟨r,_,hh.2,hlt,hg2,⟨_,rfl⟩,rfl,?_⟩))⟩
     simp only [evExt]
     rw [if_pos ⟨hh.1,by rw [hb]; exact hh.2⟩,hg1,hes]
     simp only [hfd,bq]
    ·rename_i hfd
     cases e
     refine ⟨rfl,.inl ⟨rfl,?_⟩⟩
     simp only [evExt]
     rw [if_pos ⟨hh.1,by rw [hb]; exact hh.2⟩,hg1,hes]
     simp only [hfd,bq]
    ·cases e
   | hstore n =>
    have hg:∀ v ∈ vs,∀ i ∈ v.ids,h2.get i=h1.get i∧i ∈ rdIds (.ext (.hstore n) xs) s:=fun v hv i hi=>by
     obtain ⟨x,hx,hxv⟩:=kp hvs hv
     have hx':x ∈ heapOpds (.ext (.hstore n) xs):=by simpa [heapOpds] using hx
     refine ⟨ha x hx' v hxv i hi,?_⟩
     unfold rdIds
     rw [da]
     exact ⟨x,hx',by rw [hxv]; exact hi⟩
    intro x' s' h' e
    rw [ae] at e
    obtain ⟨⟨v,h3⟩,e,e'⟩:=e
    cases e'
    have hsh:∃ r o' v',vs=[.ptr (some (r,o')),v']:=by
     rcases vs with _ | ⟨v1,_ | ⟨v',_ | ⟨v4,vs⟩⟩⟩
     ·simp [evExt] at e
     ·cases v1 <;> simp [evExt] at e
     ·cases v1 <;> simp only [evExt,reduceCtorEq] at e
      rename_i q
      cases q with
      | none=>simp [evExt] at e
      | some q=>exact ⟨q.1,q.2,v',rfl⟩
     ·cases v1 <;> simp [evExt] at e
    obtain ⟨r,o',v',rfl⟩:=hsh
    simp only [evExt] at e
    obtain ⟨hg1,hg2⟩:=hg (.ptr (some (r,o'))) (a7 ..) r (by simp [AVal.ids])
    split at e
    case h_2=>cases e
    rename_i xs' e1 cs hxs hcs
    have hlt:r < h1.size:=ah hcs
    split at e
    case isFalse=>cases e
    rename_i hh
    cases e
    refine ⟨rfl,.inr (.inr (.inr ⟨r,_,hh.2.1,hlt,hg2,⟨_,rfl⟩,rfl,?_⟩))⟩
    simp only [evExt]
    rw [hg1,hcs,hxs]
    simp only
    rw [if_pos ⟨hh.1,by rw [hb]; exact hh.2.1,hh.2.2⟩]
    rfl
   | copy ez =>
    have hg:∀ v ∈ vs,∀ i ∈ v.ids,h2.get i=h1.get i∧i ∈ rdIds (.ext (.copy ez) xs) s:=fun v hv i hi=>by
     obtain ⟨x,hx,hxv⟩:=kp hvs hv
     have hx':x ∈ heapOpds (.ext (.copy ez) xs):=by simpa [heapOpds] using hx
     refine ⟨ha x hx' v hxv i hi,?_⟩
     unfold rdIds
     rw [da]
     exact ⟨x,hx',by rw [hxv]; exact hi⟩
    intro x' s' h' e
    rw [ae] at e
    obtain ⟨⟨v,h3⟩,e,e'⟩:=e
    cases e'
    have hsh:∃ a n c y,vs=[.slice a n c,y]:=by
     rcases vs with _ | ⟨v1,_ | ⟨v',_ | ⟨v4,vs⟩⟩⟩
     ·simp [evExt] at e
     ·cases v1 <;> simp [evExt] at e
     ·cases v1 <;> simp only [evExt,reduceCtorEq] at e
      exact ⟨_,_,_,_,rfl⟩
     ·cases v1 <;> simp [evExt] at e
    obtain ⟨a,n,c,y,rfl⟩:=hsh
    have hrow:rowK ez h2 (min n (alen y)) y=rowK ez h1 (min n (alen y)) y:=by
     have hy:=hg y (by simp)
     unfold rowK
     cases y <;> try rfl
     rename_i ya yn yc
     simp only
     split
     ·unfold rowOf
      cases ya with
      | none=>rfl
      | some p=>obtain ⟨i,o⟩:=p; simp only [(hy i (by simp [AVal.ids])).1]
     ·rfl
    simp only [evExt] at e
    split at e
    case h_2=>cases e
    rename_i src hsrc
    split at e
    ·rename_i h0
     cases e
     refine ⟨rfl,.inl ⟨rfl,?_⟩⟩
     simp only [evExt]
     rw [hrow,hsrc]
     simp only
     rw [if_pos h0]
     rfl
    ·rename_i h0
     split at e
     case h_2=>cases e
     rename_i r o'
     obtain ⟨hg1,hg2⟩:=hg (.slice (some (r,o')) n c) (a7 ..) r (by simp [AVal.ids])
     split at e
     case h_2=>cases e
     rename_i e1 cs hcs
     have hlt:r < h1.size:=ah hcs
     split at e
     case isFalse=>cases e
     rename_i hh
     cases e
     refine ⟨rfl,.inr (.inr (.inr ⟨r,_,hh.2.1,hlt,hg2,⟨_,rfl⟩,rfl,?_⟩))⟩
     simp only [evExt]
     rw [hrow,hsrc]
     simp only
     rw [if_neg h0,hg1,hcs]
     simp only
     rw [if_pos ⟨hh.1,by rw [hb]; exact hh.2.1,hh.2.2⟩]
     rfl
   | clear ez z =>
    have hg:∀ v ∈ vs,∀ i ∈ v.ids,h2.get i=h1.get i∧i ∈ rdIds (.ext (.clear ez z) xs) s:=fun v hv i hi=>by
     obtain ⟨x,hx,hxv⟩:=kp hvs hv
     have hx':x ∈ heapOpds (.ext (.clear ez z) xs):=by simpa [heapOpds] using hx
     refine ⟨ha x hx' v hxv i hi,?_⟩
     unfold rdIds
     rw [da]
     exact ⟨x,hx',by rw [hxv]; exact hi⟩
    intro x' s' h' e
    rw [ae] at e
    obtain ⟨⟨v,h3⟩,e,e'⟩:=e
    cases e'
    have hsh:∃ a n c,vs=[.slice a n c]:=by
     rcases vs with _ | ⟨v1,_ | ⟨v',vs⟩⟩
     ·simp [evExt] at e
     ·cases v1 <;> simp only [evExt,reduceCtorEq] at e
      exact ⟨_,_,_,rfl⟩
     ·cases v1 <;> simp [evExt] at e
    obtain ⟨a,n,c,rfl⟩:=hsh
    simp only [evExt] at e
    split at e
    ·rename_i h0
     cases e
     refine ⟨rfl,.inl ⟨rfl,?_⟩⟩
     simp only [evExt]
     rw [if_pos h0]
     rfl
    ·rename_i h0
     split at e
     case h_2=>cases e
     rename_i r o'
     obtain ⟨hg1,hg2⟩:=hg (.slice (some (r,o')) n c) (a7 ..) r (by simp [AVal.ids])
     split at e
     case h_2=>cases e
     rename_i e1 cs hcs
     have hlt:r < h1.size:=ah hcs
     split at e
     case isFalse=>cases e
     rename_i hh
     cases e
     refine ⟨rfl,.inr (.inr (.inr ⟨r,_,hh.2.1,hlt,hg2,⟨_,rfl⟩,rfl,?_⟩))⟩
     simp only [evExt]
     rw [if_neg h0,hg1,hcs]
     simp only
     rw [if_pos ⟨hh.1,by rw [hb]; exact hh.2.1,hh.2.2⟩]
     rfl
   | appz ez by' z =>
    have hg:∀ v ∈ vs,∀ i ∈ v.ids,h2.get i=h1.get i:=fun v hv i hi=>by
     obtain ⟨x,hx,hxv⟩:=kp hvs hv
     exact ha x (by simpa [heapOpds] using hx) v hxv i hi
    rcases vs with _ | ⟨v1,_ | ⟨v2,_ | ⟨v3,vs⟩⟩⟩
    ·exact bh _
    ·cases v1 <;> exact bh _
    ·cases v1 <;> try exact bh _
     rename_i a n c
     cases v2 <;> try exact bh _
     rename_i kd m
     cases kd <;> try exact bh _
     have hrow:rowOf ez h2 (.slice a n c)=rowOf ez h1 (.slice a n c):=by
      unfold rowOf
      cases a with
      | none=>rfl
      | some p=>obtain ⟨i,o⟩:=p; simp only [hg (.slice (some (i,o)) n c) (a7 ..) i (by simp [AVal.ids])]
     simp only [evExt,hrow]
     split
     ·exact jy _
     ·split
      ·split
       ·exact ia (.slice _ _) _
       ·exact bh _
      ·exact bh _
    ·cases v1 <;> try exact bh _
     cases v2 <;> try exact bh _
     rename_i kd m
     cases kd <;> exact bh _
   | entry=>cases hc
   | lookup kn z ok =>
    have hent:=hent (fun x hx=>ha x (by simpa [heapOpds] using hx))
    cases vs with
    | nil=>exact bh _
    | cons m vs =>
     cases vs with
     | nil=>exact bh _
     | cons y vs =>
      cases vs with
      | cons _ _=>exact bh _
      | nil =>
       simp only [evExt,hent m (a7 ..)]
       split
       ·split
        ·split
         ·exact jy _
         ·exact jy _
         ·exact bh _
        ·exact bh _
       ·exact bh _
   | pure p =>
    simp only [evExt]
    cases evPure p vs with
    | none=>exact bh _
    | some r=>exact jy _
  ·exact bh _
 | nextStr _=>exact bh _
end
end Go.Abs

namespace Go.Abs
inductive Chain (ops:Array Oper):Nat→Nat→Prop where
 | one {j:Nat} {o:Oper} {e:Edge}:ops[j]? = some o→e ∈ o.after→Region.binds .any e=true→Chain ops j e.on
 | step {j i:Nat} {o:Oper} {e:Edge}:ops[j]? = some o→e ∈ o.after→Region.binds .any e=true→Chain ops e.on i→Chain ops j i
section
variable {ops:Array Oper}
theorem mask_bit (acc:List Nat) (i:Nat):∀ (l:List Edge) (s:Nat),(l.foldl (fun s e=>if Region.binds .any e then s ||| 2 ^ e.on ||| acc.getD e.on 0 else s) s).testBit i=true →
  s.testBit i=true∨∃ e ∈ l,Region.binds .any e=true∧(e.on=i∨(acc.getD e.on 0).testBit i=true)
 | [],s,h=>.inl h
 | e :: l,s,h=>by
  simp only [iy] at h
  rcases mask_bit acc i l _ h with h1 | ⟨e',h1,h2,h3⟩
  ·split at h1
   ·rename_i hb
    rw [Nat.testBit_or,Nat.testBit_or,Nat.testBit_two_pow] at h1
    simp only [cd,decide_eq_true_eq] at h1
    rcases h1 with (h1 | h1) | h1
    ·exact .inl h1
    ·exact .inr ⟨e,a7 ..,hb,.inl h1⟩
    ·exact .inr ⟨e,a7 ..,hb,.inr h1⟩
   ·exact .inl h1
  ·exact .inr ⟨e',bd _ h1,h2,h3⟩
theorem jb:∀ (l:List Oper) (acc:List Nat),(befs l acc).length=acc.length+l.length
 | [],acc=>by simp [befs]
 | o :: l,acc=>by simp [befs,jb l]; omega
theorem j9:∀ (l:List Oper) (acc:List Nat),ops.toList.drop acc.length=l→(∀ k i,(acc.getD k 0).testBit i=true→Chain ops k i) →
  ∀ k i,((befs l acc).getD k 0).testBit i=true→Chain ops k i
 | [],acc,_,h,k,i,hb=>h k i hb
 | o :: l,acc,hd,h,k,i,hb=>by
  simp only [befs] at hb
  have ho:ops[acc.length]? = some o:=by
   have:=congrArg (fun l=>l[0]?) hd
   simpa using this
  refine j9 l (acc++[maskOf acc o]) ?_ (fun k' i' hk=>?_) k i hb
  ·have:=congrArg List.tail hd
   simpa using this
  ·rcases Nat.lt_trichotomy k' acc.length with h1 | h1 | h1
   ·rw [gn,ag h1,← gn] at hk
    exact h k' i' hk
   ·subst h1
    rw [gn,au (ai _)] at hk
    simp at hk
    rcases mask_bit acc i' _ _ hk with h2 | ⟨e,h2,h3,h4⟩
    ·simp at h2
    ·have he:e ∈ o.after:=by simpa using h2
     rcases h4 with rfl | h4
     ·exact .one ho he h3
     ·exact .step ho he h3 (h _ _ h4)
   ·rw [gn,bp (by simp; omega)] at hk
    simp at hk
def Down (ops:Array Oper) (listed:Array Bool):Prop :=
 ∀ (j:Nat) (o:Oper) (e:Edge),listed[j]? = some true→ops[j]? = some o→e ∈ o.after→Region.binds .any e=true→listed[e.on]? = some true
theorem ga {listed:Array Bool} (hd:Down ops listed) {j i:Nat} (hc:Chain ops j i):(∀ (o:Oper) (e:Edge),ops[j]? = some o→e ∈ o.after→Region.binds .any e=true→listed[e.on]? = some true)→listed[i]? = some true:=by
 induction hc with
 | one ho he hb=>intro h; exact h _ _ ho he hb
 | step ho he hb _ ih =>
  intro h
  exact ih fun o' e' ho' he' hb'=>hd _ _ _ (h _ _ ho he hb) ho' he' hb'
theorem ready_mem {listed:Array Bool} (hs:listed.size=ops.size) {i:Nat} (h:i ∈ Region.ready .any ops listed) :
  ∃ o,ops[i]? = some o∧listed[i]? = some false∧∀ e,e ∈ o.after→Region.binds .any e=true→listed[e.on]? = some true:=by
 unfold Region.ready at h
 rw [eu] at h
 obtain ⟨h1,h2⟩:=h
 rw [ce] at h1
 simp only [az,dv] at h2
 obtain ⟨h2,h3⟩:=h2
 have ho:ops[i]? = some ops[i]:=by simp [h1]
 refine ⟨ops[i],ho,?_,fun e he hb=>?_⟩
 ·have:listed[i]? = some listed[i]:=by simp [hs,h1]
  rw [this]
  simp [hs,h1] at h2
  rw [h2]
 ·rw [ho] at h3
  simp only [bq,df,Array.all_eq_true'] at h3
  have:=h3 e he
  simp only [hb,Bool.not_true,Bool.false_or] at this
  rw [Array.getD_eq_getD_getElem?] at this
  cases hl:listed[e.on]? with
  | none=>rw [hl] at this; simp at this
  | some b=>rw [hl] at this; simp at this; rw [this]
theorem all_listed (hb:edgesBack ops=true) {listed:Array Bool} (hs:listed.size=ops.size) (h:Region.ready .any ops listed=[]):∀ i,i < ops.size→listed[i]? = some true:=by
 intro i
 induction i using Nat.strongRecOn with
 | _ i ih =>
  intro hi
  rcases Bool.eq_false_or_eq_true listed[i] with h1 | h1
  ·simp [hs,hi,h1]
  ·exfalso
   have:i ∈ Region.ready .any ops listed:=by
    unfold Region.ready
    rw [eu]
    refine ⟨ce.2 hi,?_⟩
    have ho:ops[i]? = some ops[i]:=by simp [hi]
    rw [ho]
    simp only [az,dv,bq,df,Array.all_eq_true']
    refine ⟨by simp [hs,hi,h1],fun e he=>?_⟩
    cases hbb:Region.binds .any e with
    | false=>rfl
    | true =>
     have hlt:e.on < i:=by
      unfold edgesBack at hb
      rw [al] at hb
      have:=hb i (ce.2 hi)
      rw [ho] at this
      simp only [Array.all_eq_true'] at this
      have:=this e he
      simpa [hbb] using this
     have:=ih e.on hlt (by omega)
     simp [Array.getD_eq_getD_getElem?,this]
   rw [h] at this
   cases this
theorem iu {E:Env} {nt:Nat} {locs:List Nat}:∀ (l:List Oper) (i:Nat) (as:List AOper),cOpers E nt ops locs i l=some as→as.length=l.length∧∀ (k:Nat) (o:Oper),l[k]? = some o→∃ o',as[k]? = some o'∧cOper E nt ops (locs.contains (i+k)) o=some o'
 | [],i,as,h=>by simp only [cOpers] at h; cases h; exact ⟨rfl,fun k o hk=>by simp at hk⟩
 | o :: l,i,as,h=>by
  simp only [cOpers] at h
  split at h
  case h_2=>cases h
  rename_i o' as' h1 h2
  cases h
  obtain ⟨k1,k2⟩:=iu l (i+1) as' h2
  refine ⟨by simp [k1],fun k x hk=>?_⟩
  cases k with
  | zero=>simp at hk; subst hk; exact ⟨o',rfl,h1⟩
  | succ k =>
   simp at hk
   obtain ⟨x',h3,h4⟩:=k2 k x hk
   exact ⟨x',by simpa using h3,by rw [show i+(k+1)=i+1+k by omega]; exact h4⟩
def Exact (ops:Array Oper) (listed:Array Bool) (p:Nat):Prop:=listed.size=ops.size∧∀ i,i < ops.size→listed[i]? = some (decide (i < p))
theorem Exact.down (hb:edgesBack ops=true) {listed:Array Bool} {p:Nat} (h:Exact ops listed p):Down ops listed:=by
 intro j o e hj ho he hbb
 have hjs:j < ops.size:=ah (l:=ops.toList) (by simpa using ho)
 have h1:=h.2 j hjs
 rw [hj] at h1
 have hjp:j < p:=by simpa using h1
 have hlt:e.on < j:=by
  unfold edgesBack at hb
  rw [al] at hb
  have:=hb j (ce.2 hjs)
  rw [ho] at this
  simp only [Array.all_eq_true'] at this
  have:=this e he
  simpa [hbb] using this
 rw [h.2 e.on (by omega)]
 simp; omega
theorem Exact.next {listed:Array Bool} {p:Nat} (h:Exact ops listed p):Exact ops (listed.setIfInBounds p true) (p+1):=by
 refine ⟨by simp [h.1],fun i hi=>?_⟩
 by_cases e:p=i
 ·subst e; simp [h.1,hi]
 ·rw [co e,h.2 i hi]
  congr 1
  rw [Bool.eq_iff_iff]
  simp; omega
theorem waits_at {bef:List Nat} {p j i:Nat} (h:waits bef p=true) (hj:j < bef.length) (hpj:p≤j) (hi:i < p):(bef.getD j 0).testBit i=true:=by
 unfold waits at h
 rw [al] at h
 have:=h j (ce.2 hj)
 simp only [cd,decide_eq_true_eq] at this
 rcases this with h1 | h1
 ·omega
 ·rw [al] at h1
  exact h1 i (ce.2 hi)
theorem waits_of {as:List AOper} {bef:List Nat} (hl:bef.length=as.length):∀ (segs:List (Bool × Nat)) (p:Nat),segsOk as bef p segs=true→waits bef p=true
 | [],p,h=>by
  simp only [segsOk,beq_iff_eq] at h
  unfold waits
  rw [al]
  intro j hj
  rw [ce] at hj
  simp; left; omega
 | (true,n) :: r,p,h=>by
  simp only [segsOk,az] at h
  exact h.1.1.1
 | (false,0) :: r,p,h=>by
  simp only [segsOk,az] at h
  have:=waits_of hl r (p+0) h.2
  simpa using this
 | (false,n+1) :: r,p,h=>by
  simp only [segsOk,az] at h
  have:=h.1.2
  rw [al] at this
  have:=this 0 (ce.2 (by omega))
  simpa using this
end
section
variable {E:Env} {lo nt:Nat} {μ0:MM} {w0:World} {ds:List Deferred} {s:Slots} {h:Heap} {a:Act} {w:World} {call:CallSem} {ops:Array Oper} {locs:List Nat} {as:List AOper} {Q:Exit→Act→World→Prop} {ro:Option Nat}
theorem wpOp_of {i:Nat} {o:Oper} {K:Act→World→Prop} (ho:ops[i]? = some o) (h:if Region.wanted o (yielded ops a.tmps) then o.wpIn (F0 ro) 0 E.P a w K Q else K (a.put o.dst Go.undef) w):wpOpIn (F0 ro) 0 E.P ops Q i K a w:=by
 unfold wpOpIn
 rw [ho]
 simp only
 split
 ·rename_i hw; rw [if_pos hw] at h; exact h
 ·rename_i hw; rw [if_neg hw] at h; exact ⟨fun _ _=>trivial,h⟩
theorem quiet_step (hc:CallOK E call) (hev0:CallEvol call) (hg:GidOK E) {loc:Bool} {o:Oper} {o':AOper} {s1:Slots} {h1:Heap} (hop:cOper E nt ops loc o=some o') (hev:evOper call o' s { h with wmin:=h.size }=some (s1,h1))
  (hs1:h1.size=h.size) (hw1:h1.wmin=h.size) (hat:At E lo nt μ0 w0 ds s h a w) {next:Act→World→Prop} (hn:∀ a' w',At E lo nt μ0 w0 ds s1 h a' w'→next a' w') :
  if Region.wanted o (yielded ops a.tmps) then o.wpIn (F0 ro) 0 E.P a w next Q else next (a.put o.dst Go.undef) w:=by
 obtain ⟨μ,ν,k1,k2,k3,k4,k5,k6⟩:=hat
 have hlen:h.size=μ.length:=k2.len.symm
 have hat':At E lo nt μ w ds s { h with wmin:=h.size } a w:=⟨μ,ν,Step.refl _ _ _ _,k2.same rfl rfl rfl,k3,k4,k5,k6⟩
 refine oper_sound hc hev0 hg hop hev hat' fun a' w' hat1=>hn a' w' ?_
 obtain ⟨μ',ν',j1,j2,j3,j4,j5,j6⟩:=hat1
 have hevol:=jq hev0 hev
 rw [hw1,hlen] at j1
 refine ⟨μ',ν',k1.trans (j1.fresh h.wmin) (ai _),j2.same ?_ hevol.base.symm rfl,j3,j4,j5,j6⟩
 apply gu
 intro i
 rcases a8 i h.size with hi | hi
 ·exact (hevol.objs i hi (by rw [hw1]; exact hi)).symm
 ·have e1:h.objs.length≤i:=hi
  have e2:h1.objs.length≤i:=by rw [show h1.objs.length=h1.size from rfl,hs1]; exact hi
  rw [bp e1,bp e2]
theorem seq_any (hc:CallOK E call) (hev0:CallEvol call) (hg:GidOK E) (has:cOpers E nt ops locs 0 ops.toList=some as) (hb:edgesBack ops=true) :
  ∀ (n p:Nat) (s:Slots) (h:Heap) (s1:Slots) (h1:Heap) (listed:Array Bool) (a:Act) (w:World),p+n≤as.length→(∀ x,x≤n→waits (befs ops.toList []) (p+x)=true) →
  evOps call ((as.drop p).take n) s h=some (s1,h1)→Exact ops listed p→At E lo nt μ0 w0 ds s h a w →
  (∀ listed' a' w',Exact ops listed' (p+n)→At E lo nt μ0 w0 ds s1 h1 a' w'→wpAnyIn (F0 ro) 0 E.P .any ops Q (ops.size - (p+n)) listed' a' w')→wpAnyIn (F0 ro) 0 E.P .any ops Q (ops.size - p) listed a w
 | 0,p,s,h,s1,h1,listed,a,w,_,_,hev,hex,hat,hk=>by
  simp only [List.take_zero,evOps] at hev; cases hev
  exact hk listed a w hex hat
 | n+1,p,s,h,s1,h1,listed,a,w,hpn,hw,hev,hex,hat,hk=>by
  obtain ⟨q1,q2⟩:=iu _ _ _ has
  have hp:p < ops.size:=by rw [q1] at hpn; simp at hpn; omega
  have hop:ops[p]? = some ops[p]:=by simp [hp]
  obtain ⟨o',ho',hco⟩:=q2 p ops[p] (by simp [hp])
  have hdrop:as.drop p=o' :: as.drop (p+1):=by
   have hpl:=ah ho'
   rw [List.drop_eq_getElem_cons hpl]
   congr 1
   rw [aj hpl] at ho'
   exact bz ho'
  rw [hdrop,List.take_succ_cons] at hev
  simp only [evOps] at hev
  split at hev
  case h_2=>cases hev
  rename_i s2 h2 he
  have hchain:=j9 (ops:=ops) ops.toList [] (by simp) (fun k i hk=>by simp at hk)
  have hblen:=jb ops.toList []
  have hsz:ops.size - p=(ops.size - (p+1))+1:=by omega
  rw [hsz]
  refine ⟨fun hr=>?_,fun i hi=>?_⟩
  ·have h3:=all_listed hb hex.1 hr p hp
   rw [hex.2 p hp] at h3
   simp at h3
  ·obtain ⟨oi,k1,k2,k3⟩:=ready_mem hex.1 hi
   have his:i < ops.size:=ah (l:=ops.toList) (by simpa using k1)
   have hip:p≤i:=by
    have:=hex.2 i his
    rw [k2] at this
    simpa using this
   have hieq:p=i:=by
    rcases a8 p i with h4 | h4
    ·exfalso
     have hbit:=waits_at (hw 1 (by omega)) (j:=i) (i:=p) (by rw [hblen]; simpa using his) (by omega) (by omega)
     have hl:=ga (hex.down hb) (hchain _ _ hbit) fun o e ho he hbb=>by rw [k1] at ho; cases ho; exact k3 e he hbb
     rw [hex.2 p hp] at hl
     simp at hl
    ·omega
   subst hieq
   rw [hop] at k1; cases k1
   refine wpOp_of hop (oper_sound hc hev0 hg hco he hat fun a' w' hat'=>?_)
   have e1:p+1+n=p+(n+1):=by omega
   refine seq_any hc hev0 hg has hb n (p+1) s2 h2 s1 h1 _ a' w' (by omega) (fun x hx=>?_) hev hex.next hat' ?_
   ·have:=hw (x+1) (by omega)
    rwa [show p+1+x=p+(x+1) by omega]
   ·rw [e1]; exact hk
theorem quiet_text {h0:Heap}:∀ (seg:List AOper) (s s1:Slots) (h1:Heap),(∀ o ∈ seg,calm o.op=true)→evQuiet call seg s h0=some (s1,h1) →
  h1=h0∧∃ (S:Nat→Slots) (r:Nat→Slot),S 0=s∧S seg.length=s1∧∀ (x:Nat) (o:AOper),seg[x]? = some o →
   (∃ h',evOper call o (S x) { h0 with wmin:=h0.size }=some (S (x+1),h')∧h'.size=h0.size∧h'.wmin=h0.size)∧S (x+1)=setSlot o.dst (r x) (S x)∧(∀ cs,r x ≠ .var cs)∧∀ d,o.dst=some d→isVar (S x) d=false
 | [],s,s1,h1,_,e=>by
  simp only [evQuiet] at e; cases e
  exact ⟨rfl,fun _=>s,fun _=>.undef,rfl,rfl,fun x o hx=>by simp at hx⟩
 | o :: seg,s,s1,h1,hcalm,e=>by
  simp only [evQuiet] at e
  split at e
  case h_2=>cases e
  rename_i s2 h2 he
  split at e
  case isFalse=>cases e
  rename_i hh
  obtain ⟨a1,a2,a3⟩:=hh
  obtain ⟨b1,S,r,b2,b3,b4⟩:=quiet_text seg s2 s1 h1 (fun o ho=>hcalm o (bd _ ho)) e
  obtain ⟨x0,c1,_,c3⟩:=gh (S2:=s) (hcalm o (a7 ..)) (Agree.of (fun _ _=>rfl) (fun _ _=>Iff.rfl)) he
  refine ⟨b1,fun x=>match x with | 0=>s | x+1=>S x,fun x=>match x with | 0=>x0 | x+1=>r x,rfl,by simpa using b3,fun x o1 hx=>?_⟩
  cases x with
  | zero =>
   simp at hx; subst hx
   refine ⟨⟨h2,by simp only [b2]; exact he,a1,a2⟩,by simp only [b2]; exact c1,c3,fun d hd=>?_⟩
   rw [hd] at a3
   simpa using a3
  | succ x =>
   simp at hx
   exact b4 x o1 hx
theorem dh (d:Option Nat) (x:Slot) (s:Slots) (t:Nat):sget (setSlot d x s) t=if d=some t then some x else sget s t:=by
 rw [gd]; rfl
theorem quiet_any (hc:CallOK E call) (hev0:CallEvol call) (hg:GidOK E) (has:cOpers E nt ops locs 0 ops.toList=some as) (hb:edgesBack ops=true)
  {p n:Nat} {h1:Heap} {s1:Slots} (hpn:p+n≤as.length) (hw1:waits (befs ops.toList []) (p+n)=true)
  (hap:∀ x y oi oj,x < n→y < n→as[p+x]? = some oi→as[p+y]? = some oj→apart (befs ops.toList []) (p+x) (p+y) oi oj=true)
  (hcalm:∀ x o,x < n→as[p+x]? = some o→calm o.op=true)
  (hev:evQuiet call ((as.drop p).take n) s h=some (s1,h1))
  (hk:∀ listed' a' w',Exact ops listed' (p+n)→At E lo nt μ0 w0 ds s1 h1 a' w'→wpAnyIn (F0 ro) 0 E.P .any ops Q (ops.size - (p+n)) listed' a' w') :
  ∀ listed a w,Exact ops listed p→At E lo nt μ0 w0 ds s h a w→wpAnyIn (F0 ro) 0 E.P .any ops Q (ops.size - p) listed a w:=by
 obtain ⟨q1,q2⟩:=iu _ _ _ has
 simp only [ep] at q1
 have hchain:=j9 (ops:=ops) ops.toList [] (by simp) (fun k i hk=>by simp at hk)
 have hblen:=jb ops.toList []
 simp only [dw,c6,ep] at hblen
 have hseg:∀ x,x < n→((as.drop p).take n)[x]? = as[p+x]?:=fun x hx=>by rw [dy hx,cq]
 have hslen:((as.drop p).take n).length=n:=by simp; omega
 obtain ⟨e1,S,r,b2,b3,b4⟩:=quiet_text _ _ _ _ (fun o ho=>by
  obtain ⟨x,hx⟩:=fk ho
  have hxn:x < n:=by have:=ah hx; omega
  exact hcalm x o hxn (by rw [← hseg x hxn]; exact hx)) hev
 subst e1
 rw [hslen] at b3
 have opat:∀ x,x < n→∃ o o',ops[p+x]? = some o∧as[p+x]? = some o'∧cOper E nt ops (locs.contains (p+x)) o=some o':=by
  intro x hx
  have hlt:p+x < ops.size:=by omega
  obtain ⟨o',h2,h3⟩:=q2 (p+x) ops[p+x] (by simp [hlt])
  exact ⟨ops[p+x],o',by simp [hlt],h2,by simpa using h3⟩
 have text:∀ x o',x < n→as[p+x]? = some o'→(∃ h',evOper call o' (S x) { h1 with wmin:=h1.size }=some (S (x+1),h')∧h'.size=h1.size∧h'.wmin=h1.size)∧S (x+1)=setSlot o'.dst (r x) (S x)∧(∀ cs,r x ≠ .var cs)∧∀ d,o'.dst=some d→isVar (S x) d=false :=
  fun x o' hx ho=>b4 x o' (by rw [hseg x hx]; exact ho)
 have dst_ne:∀ x y oi oj d,x < n→y < n→x≠y→as[p+x]? = some oi→as[p+y]? = some oj→oj.dst=some d→oi.dst≠some d:=by
  intro x y oi oj d hx hy hne hi hj hd e
  have:=hap x y oi oj hx hy hi hj
  unfold apart at this
  rw [hd] at this
  simp only [az,cd,beq_iff_eq,bne_iff_ne] at this
  rcases this.1 with h2 | h2
  ·omega
  ·exact h2 e
 have text_hit:∀ x y o d,x≤n→y < x→as[p+y]? = some o→o.dst=some d→sget (S x) d=some (r y):=by
  intro x
  induction x with
  | zero=>intro y o d _ hy; omega
  | succ x ih =>
   intro y o d hx hy ho hd
   obtain ⟨_,o',_,ho',_⟩:=opat x (by omega)
   obtain ⟨_,t2,_,_⟩:=text x o' (by omega) ho'
   rw [t2,dh]
   by_cases e:y=x
   ·subst e; rw [ho] at ho'; cases ho'; rw [if_pos hd]
   ·rw [if_neg (dst_ne x y o' o d (by omega) (by omega) (fun e'=>e e'.symm) ho' ho hd)]
    exact ih y o d (by omega) (by omega) ho hd
 have text_miss:∀ x t,x≤n→(∀ y o,y < x→as[p+y]? = some o→o.dst≠some t)→sget (S x) t=sget s t:=by
  intro x
  induction x with
  | zero=>intro t _ _; rw [b2]
  | succ x ih =>
   intro t hx hno
   obtain ⟨_,o',_,ho',_⟩:=opat x (by omega)
   obtain ⟨_,t2,_,_⟩:=text x o' (by omega) ho'
   rw [t2,dh,if_neg (hno x o' (by omega) ho')]
   exact ih t (by omega) fun y o hy=>hno y o (by omega)
 have dst_novar:∀ x o d cs,x < n→as[p+x]? = some o→o.dst=some d→sget s d≠some (.var cs):=by
  intro x o d cs hx ho hd hv
  obtain ⟨_,_,_,t4⟩:=text x o hx ho
  have h2:=t4 d hd
  have h3:sget (S x) d=sget s d:=text_miss x d (by omega) fun y o2 hy ho2=>dst_ne y x o2 o d (by omega) hx (by omega) ho2 ho hd
  unfold isVar at h2
  rw [h3,hv] at h2
  simp at h2
 have main:∀ (k:Nat) (listed:Array Bool) (sD:Slots) (a:Act) (w:World),listed.size=ops.size→Down ops listed→(∀ i,i < p→listed[i]? = some true)→(∀ i,p+n≤i→i < ops.size→listed[i]? = some false) →
   ((List.range n).filter fun x=>listed[p+x]? == some false).length=k →
   (∀ x o d,x < n→as[p+x]? = some o→listed[p+x]? = some true→o.dst=some d→sget sD d=some (r x)) →
   (∀ t,(∀ x o,x < n→as[p+x]? = some o→listed[p+x]? = some true→o.dst≠some t)→sget sD t=sget s t) →
   At E lo nt μ0 w0 ds sD h1 a w→wpAnyIn (F0 ro) 0 E.P .any ops Q (ops.size - (p+n)+k) listed a w:=by
  intro k
  induction k with
  | zero =>
   intro listed sD a w hsz hdn hlow hhigh hcount hhit hmiss hat
   have hall:∀ x,x < n→listed[p+x]? = some true:=by
    intro x hx
    have hlt:p+x < listed.size:=by omega
    have hmem:x ∉ (List.range n).filter fun x=>listed[p+x]? == some false:=by
     rw [bo hcount]; simp
    rw [eu] at hmem
    have h2:¬ (listed[p+x]? = some false):=fun h2=>hmem ⟨ce.2 hx,by simp [h2]⟩
    rw [jc hlt] at h2 ⊢
    cases hv:listed[p+x] with
    | true=>rfl
    | false=>rw [hv] at h2; exact absurd rfl h2
   have hex:Exact ops listed (p+n):=by
    refine ⟨hsz,fun i hi=>?_⟩
    rcases a8 i p with h2 | h2
    ·rw [hlow i h2]; simp; omega
    ·rcases a8 i (p+n) with h3 | h3
     ·have:=hall (i - p) (by omega)
      rw [show p+(i - p)=i by omega] at this
      rw [this]; simp [h3]
     ·rw [hhigh i h3 hi]; simp; omega
   refine hk listed a w hex ?_
   obtain ⟨μ,ν,k1,k2,k3,k4⟩:=hat
   refine ⟨μ,ν,k1,k2,k3.congr fun t=>?_,k4⟩
   rw [← b3]
   by_cases hx:∃ x o,x < n∧as[p+x]? = some o∧o.dst=some t
   ·obtain ⟨x,o,h2,h3,h4⟩:=hx
    rw [text_hit n x o t (ai _) h2 h3 h4,hhit x o t h2 h3 (hall x h2) h4]
   ·have hno:∀ x o,x < n→as[p+x]? = some o→o.dst≠some t:=fun x o h2 h3 h4=>hx ⟨x,o,h2,h3,h4⟩
    rw [text_miss n t (ai _) hno,hmiss t fun x o h2 h3 _=>hno x o h2 h3]
  | succ k ih =>
   intro listed sD a w hsz hdn hlow hhigh hcount hhit hmiss hat
   have hsome:∃ x,x < n∧listed[p+x]? = some false:=by
    have hne:(List.range n).filter (fun x=>listed[p+x]? == some false)≠[]:=fun e=>by rw [e] at hcount; simp at hcount
    obtain ⟨x,hx⟩:=List.exists_mem_of_ne_nil _ hne
    rw [eu,ce] at hx
    exact ⟨x,hx.1,by simpa using hx.2⟩
   obtain ⟨xu,hxu,hxf⟩:=hsome
   refine ⟨fun hr=>?_,fun i hi=>?_⟩
   ·have:=all_listed hb hsz hr (p+xu) (by omega)
    rw [hxf] at this; cases this
   ·obtain ⟨oi,k1,k2,k3⟩:=ready_mem hsz hi
    have his:i < ops.size:=ah (l:=ops.toList) (by simpa using k1)
    have hip:p≤i:=by
     rcases a8 i p with h2 | h2
     ·rw [hlow i h2] at k2; cases k2
     ·exact h2
    have hin:i < p+n:=by
     rcases a8 i (p+n) with h2 | h2
     ·exact h2
     ·exfalso
      have hbit:=waits_at hw1 (j:=i) (i:=p+xu) (by rw [hblen]; exact his) h2 (by omega)
      have hl:=ga hdn (hchain _ _ hbit) fun o e ho he hbb=>by rw [k1] at ho; cases ho; exact k3 e he hbb
      rw [hxf] at hl; cases hl
    obtain ⟨x,rfl⟩:∃ x,i=p+x:=⟨i - p,by omega⟩
    have hxn:x < n:=by omega
    obtain ⟨o,o',h2,h3,h4⟩:=opat x hxn
    rw [h2] at k1; cases k1
    obtain ⟨⟨h',t1,t1a,t1b⟩,t2,t3,t4⟩:=text x o' hxn h3
    have waitsl:∀ j,(((befs ops.toList []).getD (p+x) 0).testBit j=true)→listed[j]? = some true:=fun j hbit =>
     ga hdn (hchain _ _ hbit) fun o2 e ho he hbb=>by rw [h2] at ho; cases ho; exact k3 e he hbb
    have hag:Agree (S x) sD o'.reads:=by
     refine Agree.of ?_ ?_
     ·intro t ht
      by_cases hy:∃ y oj,y < n∧as[p+y]? = some oj∧oj.dst=some t
      ·obtain ⟨y,oj,hy1,hy2,hy3⟩:=hy
       have others:∀ z oz,z < n→z≠y→as[p+z]? = some oz→oz.dst≠some t:=fun z oz hz hne hoz=>dst_ne z y oz oj t hz hy1 hne hoz hy2 hy3
       by_cases hxy:y=x
       ·-- its own slot
        subst hxy
        rw [text_miss y t (by omega) fun z oz hz hoz=>others z oz (by omega) (by omega) hoz]
        rw [hmiss t fun z oz hz hoz hl=>by
         by_cases e:z=y
         ·subst e; rw [k2] at hl; cases hl
         ·exact others z oz hz e hoz]
       ·have:=hap x y o' oj hxn hy1 h3 hy2
        unfold apart at this
        rw [hy3] at this
        simp only [az,cd,beq_iff_eq,dv,List.contains_eq_mem,decide_eq_false_iff_not,decide_eq_true_eq] at this
        rcases this.2 with ((h5 | h5) | h5) | h5
        ·omega
        ·exact absurd ht h5
        ·obtain ⟨h5,h6⟩:=h5
         rw [text_hit x y oj t (by omega) (by omega) hy2 hy3,hhit y oj t hy1 hy2 (waitsl _ h6) hy3]
        ·obtain ⟨h5,h6⟩:=h5
         have hnl:listed[p+y]?≠some true:=by
          intro hl
          have:=ga hdn (hchain _ _ h6) fun o2 e ho he hbb=>hdn _ _ _ hl ho he hbb
          rw [k2] at this; cases this
         rw [text_miss x t (by omega) fun z oz hz hoz=>others z oz (by omega) (by omega) hoz]
         rw [hmiss t fun z oz hz hoz hl=>by
          by_cases e:z=y
          ·subst e; exact absurd hl hnl
          ·exact others z oz hz e hoz]
      ·have hno:∀ z oz,z < n→as[p+z]? = some oz→oz.dst≠some t:=fun z oz hz hoz hd=>hy ⟨z,oz,hz,hoz,hd⟩
       rw [text_miss x t (by omega) fun z oz hz hoz=>hno z oz (by omega) hoz,hmiss t fun z oz hz hoz _=>hno z oz hz hoz]
     ·intro t cs
      have v1:sget (S x) t=some (.var cs) ↔ sget s t=some (.var cs):=by
       by_cases hy:∃ y oj,y < x∧as[p+y]? = some oj∧oj.dst=some t
       ·obtain ⟨y,oj,hy1,hy2,hy3⟩:=hy
        rw [text_hit x y oj t (by omega) hy1 hy2 hy3]
        constructor
        ·intro e; exact absurd (bz e) ((text y oj (by omega) hy2).2.2.1 cs)
        ·intro e; exact absurd e (dst_novar y oj t cs (by omega) hy2 hy3)
       ·rw [text_miss x t (by omega) fun z oz hz hoz hd=>hy ⟨z,oz,hz,hoz,hd⟩]
      have v2:sget sD t=some (.var cs) ↔ sget s t=some (.var cs):=by
       by_cases hy:∃ y oj,y < n∧as[p+y]? = some oj∧listed[p+y]? = some true∧oj.dst=some t
       ·obtain ⟨y,oj,hy1,hy2,hyl,hy3⟩:=hy
        rw [hhit y oj t hy1 hy2 hyl hy3]
        constructor
        ·intro e; exact absurd (bz e) ((text y oj hy1 hy2).2.2.1 cs)
        ·intro e; exact absurd e (dst_novar y oj t cs hy1 hy2 hy3)
       ·rw [hmiss t fun z oz hz hoz hl hd=>hy ⟨z,oz,hz,hoz,hl,hd⟩]
      exact v1.trans v2.symm
    obtain ⟨x',c1,c2,c3⟩:=gh (hcalm x o' hxn h3) hag t1
    refine wpOp_of h2 (quiet_step hc hev0 hg h4 c2 t1a t1b hat fun a' w' hat'=>?_)
    have hset:∀ j,j≠p+x→(listed.setIfInBounds (p+x) true)[j]? = listed[j]?:=fun j hj=>co (fun e=>hj e.symm)
    have hself:(listed.setIfInBounds (p+x) true)[p+x]? = some true:=by simp [hsz,his]
    have hx':∀ d,o'.dst=some d→x'=r x:=by
     intro d hd
     rw [t2] at c1
     rw [hd] at c1
     simp only [setSlot] at c1
     injection c1 with c1 _
     injection c1 with _ c1
     exact c1.symm
    refine ih (listed.setIfInBounds (p+x) true) (setSlot o'.dst x' sD) a' w' (by simp [hsz]) ?_ ?_ ?_ ?_ ?_ ?_ hat'
    ·intro j oj e hj hoj he hbb
     by_cases ej:j=p+x
     ·subst ej
      rw [h2] at hoj; cases hoj
      have:=k3 e he hbb
      by_cases ee:e.on=p+x
      ·rw [ee]; exact hself
      ·rw [hset _ ee]; exact this
     ·rw [hset _ ej] at hj
      have:=hdn j oj e hj hoj he hbb
      by_cases ee:e.on=p+x
      ·rw [ee]; exact hself
      ·rw [hset _ ee]; exact this
    ·intro j hj; rw [hset j (by omega)]; exact hlow j hj
    ·intro j hj hj'; rw [hset j (by omega)]; exact hhigh j hj hj'
    ·-- one less is to come
     have hperm:((List.range n).filter fun y=>(listed.setIfInBounds (p+x) true)[p+y]? == some false)=((List.range n).filter fun y=>listed[p+y]? == some false).filter fun y=>y != x:=by
      rw [List.filter_filter]
      apply List.filter_congr
      intro y _
      by_cases ey:y=x
      ·subst ey; rw [hself]; simp
      ·rw [hset _ (by omega)]; simp [ey]
     rw [hperm]
     have hmem:x ∈ (List.range n).filter fun y=>listed[p+y]? == some false:=by
      rw [eu]; exact ⟨ce.2 hxn,by simp [k2]⟩
     have hnd:((List.range n).filter fun y=>listed[p+y]? == some false).Nodup:=List.nodup_range.sublist List.filter_sublist
     generalize (List.range n).filter (fun y=>listed[p+y]? == some false)=L at hcount hmem hnd
     have herase:L.filter (fun y=>y != x)=L.erase x:=(hnd.erase_eq_filter x).symm
     rw [herase,List.length_erase_of_mem hmem,hcount]
     rfl
    ·intro y oy d hy hoy hl hd
     rw [dh]
     by_cases ey:y=x
     ·subst ey; rw [h3] at hoy; cases hoy
      rw [if_pos hd,hx' d hd]
     ·rw [hset _ (by omega)] at hl
      rw [if_neg (dst_ne x y o' oy d hxn hy (fun e=>ey e.symm) h3 hoy hd)]
      exact hhit y oy d hy hoy hl hd
    ·intro t hno
     rw [dh,if_neg (hno x o' hxn h3 hself)]
     refine hmiss t fun y oy hy hoy hl=>?_
     by_cases ey:y=x
     ·subst ey; rw [k2] at hl; cases hl
     ·exact hno y oy hy hoy (by rw [hset _ (by omega)]; exact hl)
 intro listed a w hex hat
 have hcount:((List.range n).filter fun x=>listed[p+x]? == some false).length=n:=by
  have:(List.range n).filter (fun x=>listed[p+x]? == some false)=List.range n:=by
   rw [List.filter_eq_self]
   intro x hx
   rw [ce] at hx
   rw [hex.2 (p+x) (by omega)]
   simp
  rw [this,jo]
 have:=main n listed s a w hex.1 (hex.down hb) (fun i hi=>by rw [hex.2 i (by omega)]; simp [hi]) (fun i hi hi'=>by rw [hex.2 i hi']; simp; omega) hcount
  (fun x o d hx ho hl _=>by
   have h5:=hex.2 (p+x) (by omega)
   rw [hl] at h5
   have h6:=of_decide_eq_true (bz h5).symm
   omega) (fun t _=>rfl) hat
 rwa [show ops.size - (p+n)+n=ops.size - p by omega] at this
end
end Go.Abs

namespace Go.Abs
section
variable {E:Env}
theorem LoopRel.same {μ μ':MM} {g:Nat} {st:LoopSt} {p:Option AExit} {sl:List (Nat × AVal)} {r:Loop} (h:LoopRel E μ g st p sl r) (hm:∀ j ∈ AObj.ids (.loop g st p sl),j < μ.length→μ'[j]? = μ[j]?):LoopRel E μ' g st p sl r :=
 ⟨h.code,h.st,h.pend,fun k x hk=>by
  obtain ⟨v',h1,h2⟩:=h.slots k x hk
  refine ⟨v',h1,gt (fun j hj=>hm j ?_) h2⟩
  simp only [AObj.ids]
  exact kx (k:=k) (a:=x.2) (by rw [bk,hk]; rfl) hj⟩
theorem ORel.same {μ μ':MM} {b i:Nat} {w:World} {o:AObj} (h:ORel E μ b i w o) (hi:μ'[i]? = μ[i]?) (hm:∀ j ∈ o.ids,j < μ.length→μ'[j]? = μ[j]?):ORel E μ' b i w o:=by
 cases o with
 | dead=>exact hi.trans h
 | cells esz cs =>
  obtain ⟨m,c,e,fr,h1,h2,h3,h4,h5,h6,h7⟩:=h
  refine ⟨m,c,e,fr,hi.trans h1,h2,h3,h4,h5,fun k v hk=>?_,h7⟩
  obtain ⟨k1,v',k2,k3⟩:=h6 k v hk
  exact ⟨k1,v',k2,gt (fun j hj=>hm j (kx hk hj)) k3⟩
 | map es clock =>
  obtain ⟨m,es',h1,h2,h3,h4⟩:=h
  refine ⟨m,es',hi.trans h1,h2,h3,fun k x hk=>?_⟩
  obtain ⟨y,y1,y2,y3,y4⟩:=h4 k x hk
  have hin:∀ j,j ∈ x.1.ids∨j ∈ x.2.1.ids→j ∈ AObj.ids (.map es clock):=fun j hj=>by
   simp only [AObj.ids,da,br]
   exact ⟨x,bn hk,hj⟩
  exact ⟨y,y1,gt (fun j hj=>hm j (hin j (.inl hj))) y2,gt (fun j hj=>hm j (hin j (.inr hj))) y3,y4⟩
 | iter s pos =>
  obtain ⟨m,h1,h2⟩:=h
  exact ⟨m,hi.trans h1,h2⟩
 | mapIter r a b c =>
  obtain ⟨m,r',⟨h1,h0⟩,h2,h3⟩:=h
  exact ⟨m,r',⟨hi.trans h1,h0⟩,h2,gt (fun j hj=>hm j (by cases r <;> exact hj)) h3⟩
 | loop g st p sl =>
  obtain ⟨m,r,h1,h2,h3⟩:=h
  exact ⟨m,r,hi.trans h1,h2,h3.same hm⟩
theorem ORel.moved {μ μ':MM} {b i i':Nat} {w:World} {o:AObj} (h:ORel E μ b i w o) (hi:μ'[i']? = μ[i]?) (hm:∀ j ∈ o.ids,j < μ.length→μ'[j]? = μ[j]?) (hb:b≤i):ORel E μ' b i' w o:=by
 cases o with
 | dead=>exact hi.trans h
 | cells esz cs =>
  obtain ⟨m,c,e,fr,h1,h2,h3,h4,h5,h6,h7⟩:=h
  refine ⟨m,c,e,fr,hi.trans h1,h2,h3,h4,h5,fun k v hk=>?_,fun _=>h7 hb⟩
  obtain ⟨k1,v',k2,k3⟩:=h6 k v hk
  exact ⟨k1,v',k2,gt (fun j hj=>hm j (kx hk hj)) k3⟩
 | map es clock =>
  obtain ⟨m,es',h1,h2,h3,h4⟩:=h
  refine ⟨m,es',hi.trans h1,h2,h3,fun k x hk=>?_⟩
  obtain ⟨y,y1,y2,y3,y4⟩:=h4 k x hk
  have hin:∀ j,j ∈ x.1.ids∨j ∈ x.2.1.ids→j ∈ AObj.ids (.map es clock):=fun j hj=>by
   simp only [AObj.ids,da,br]
   exact ⟨x,bn hk,hj⟩
  exact ⟨y,y1,gt (fun j hj=>hm j (hin j (.inl hj))) y2,gt (fun j hj=>hm j (hin j (.inr hj))) y3,y4⟩
 | iter s pos =>
  obtain ⟨m,h1,h2⟩:=h
  exact ⟨m,hi.trans h1,h2⟩
 | mapIter r a b c =>
  obtain ⟨m,r',⟨h1,h0⟩,h2,h3⟩:=h
  exact ⟨m,r',⟨hi.trans h1,h0⟩,h2,gt (fun j hj=>hm j (by cases r <;> exact hj)) h3⟩
 | loop g st p sl =>
  obtain ⟨m,r,h1,h2,h3⟩:=h
  exact ⟨m,r,hi.trans h1,h2,h3.same hm⟩
variable {lo nt:Nat} {μ0:MM} {w0:World} {ds:List Deferred} {s:Slots} {h:Heap} {a:Act} {w:World}
theorem At.move {N r wm:Nat} {d:Option Nat} {x:Slot} {ob:AObj} (hat:At E lo nt μ0 w0 ds (setSlot d x s) ⟨h.objs++[ob],h.base,wm⟩ a w) (hN:h.objs.length=N) (hr:h.objs[r]? = some .dead) (hbr:h.base≤r) (h0:μ0.length≤r)
  (hs:∀ t y,sget s t=some y→∀ i ∈ y.ids,i < N∧i≠r) (hx:∀ v,x = .val v→∀ i ∈ v.ids,i≠r) (hxv:∀ cs,x ≠ .var cs) (hob:∀ i ∈ ob.ids,i < N∧i≠r)
  (ho:∀ (k:Nat) (o:AObj),h.objs[k]? = some o→∀ i ∈ o.ids,i < N∧i≠r) :
  At E lo nt μ0 w0 ds (setSlot d (x.ren (mv N r)) s) ⟨h.objs.set r ob,h.base,wm⟩ a w:=by
 obtain ⟨μ,ν,k1,k2,k3,k4,k5,k6⟩:=hat
 have hrN:r < N:=by rw [← hN]; exact ah hr
 have hlen:μ.length=N+1:=by have:=k2.len; simpa [hN] using this
 let μ':MM:=(μ.take N).set r ((μ[N]?).getD none)
 have hl':μ'.length=N:=by simp [μ',hlen]
 have hat:∀ i,i < N→i≠r→μ'[i]? = μ[i]?:=fun i hi hne=>by
  simp only [μ']
  rw [aq (Ne.symm hne),dp,if_pos hi]
 have hatr:μ'[r]? = μ[N]?:=by
  simp only [μ']
  rw [f9,if_pos rfl,if_pos (by simp [hlen]; omega),aj (by omega)]
  rfl
 have hsame:∀ i,i < N∧i≠r→i < μ.length→μ'[i]? = μ[i]?:=fun i hi _=>hat i hi.1 hi.2
 have hfrom:∀ i m,μ'[i]? = some (some m)→∃ p,μ[p]? = some (some m)∧((i=r∧p=N)∨(i≠r∧p=i∧i < N)):=fun i m hm=>by
  by_cases e:i=r
  ·subst e
   exact ⟨N,hatr.symm.trans hm,.inl ⟨rfl,rfl⟩⟩
  ·have hi:i < N:=by rw [← hl']; exact ah hm
   exact ⟨i,(hat i hi e).symm.trans hm,.inr ⟨e,rfl,hi⟩⟩
 refine ⟨μ',ν,?_,?_,?_,k4,k5,k6⟩
 ·refine ⟨k1.os,k1.tape,k1.output,k1.size,k1.block,by rw [hl']; omega,fun i hi=>?_,fun i m hi hm=>?_⟩
  ·rw [hat i (by omega) (by omega)]; exact k1.old i hi
  ·obtain ⟨p,hp,h1 | h1⟩:=hfrom i m hm
   ·exact k1.new p m (by omega) hp
   ·exact k1.new p m (by omega) hp
 ·have hbs:=k2.bs
  constructor
  ·rw [hl']; simp [hN]
  ·simp only [av]; simp at hbs; omega
  ·intro i o hi
   simp only at hi ⊢
   rw [f9] at hi
   split at hi
   ·rename_i e
    subst e
    split at hi
    ·cases hi
     have hb:h.base≤N:=by omega
     exact (k2.obj N ob (by simp [← hN])).moved hatr (fun j hj=>hsame j (hob j hj)) hb
    ·cases hi
   ·rename_i e
    have hiN:i < N:=by rw [← hN]; exact ah hi
    exact (k2.obj i o (by rw [ag (by omega)]; exact hi)).same (hat i hiN (Ne.symm e)) fun j hj=>hsame j (ho i o hi j hj)
  ·intro i j mi mj hij hi hmi hmj
   obtain ⟨p,hp,hp'⟩:=hfrom i mi hmi
   obtain ⟨q,hq,hq'⟩:=hfrom j mj hmj
   refine k2.sep p q mi mj ?_ ?_ hp hq
   ·rcases hp' with ⟨a1,a2⟩ | ⟨a1,a2,a3⟩ <;> rcases hq' with ⟨b1,b2⟩ | ⟨b1,b2,b3⟩ <;> omega
   ·simp only at hi ⊢
    rcases hp' with ⟨a1,a2⟩ | ⟨a1,a2,a3⟩ <;> omega
  ·intro i m hm
   obtain ⟨p,hp,_⟩:=hfrom i m hm
   exact k2.lt p m hp
  ·refine k2.tab.less fun i m hi hm=>?_
   obtain ⟨p,hp,hp'⟩:=hfrom i m hm
   simp only at hi
   exact ⟨p,m,by simp only; rcases hp' with ⟨a1,a2⟩ | ⟨a1,a2,a3⟩ <;> omega,hp,rfl⟩
 ·have hget:∀ t y,sget (setSlot d (x.ren (mv N r)) s) t=some y→(d=some t∧y=x.ren (mv N r))∨(d≠some t∧sget s t=some y):=fun t y hy=>by
   rw [dh] at hy
   split at hy
   ·rename_i e; cases hy; exact .inl ⟨e,rfl⟩
   ·rename_i e; exact .inr ⟨e,hy⟩
  have hvar:∀ t cs,sget (setSlot d (x.ren (mv N r)) s) t=some (.var cs)→sget (setSlot d x s) t=some (.var cs)∧∀ i ∈ AVal.idsL cs,i < N∧i≠r:=fun t cs hy=>by
   rcases hget t _ hy with ⟨e,h1⟩ | ⟨e,h1⟩
   ·exfalso
    cases x <;> simp [Slot.ren] at h1
    exact hxv _ rfl
   ·exact ⟨by rw [dh,if_neg e]; exact h1,hs t _ h1⟩
  constructor
  ·intro t v hv
   rcases hget t _ hv with ⟨e,h1⟩ | ⟨e,h1⟩
   ·cases x with
    | val u =>
     simp only [Slot.ren] at h1
     cases h1
     obtain ⟨v',j1,j2⟩:=k3.val t u (by rw [dh,if_pos e])
     refine ⟨v',j1,ren_rel (mv N r) (fun i hi hl=>?_) j2⟩
     unfold mv
     split
     ·rename_i e2; subst e2; exact hatr
     ·rename_i e2
      exact hat i (by omega) (hx u rfl i hi)
    | _=>simp [Slot.ren] at h1
   ·obtain ⟨v',j1,j2⟩:=k3.val t v (by rw [dh,if_neg e]; exact h1)
    exact ⟨v',j1,gt (fun i hi=>hsame i (hs t _ h1 i hi)) j2⟩
  ·intro t hv
   rcases hget t _ hv with ⟨e,h1⟩ | ⟨e,h1⟩
   ·cases x <;> simp [Slot.ren] at h1
    exact k3.undef t (by rw [dh,if_pos e])
   ·exact k3.undef t (by rw [dh,if_neg e]; exact h1)
  ·intro t cs hv
   obtain ⟨j1,j2⟩:=hvar t cs hv
   obtain ⟨q1,q2,c,e,fr,q3,q4,q5,q6⟩:=k3.var t cs j1
   refine ⟨q1,q2,c,e,fr,q3,q4,fun k v hk=>?_,q6⟩
   obtain ⟨z1,v',z2,z3⟩:=q5 k v hk
   exact ⟨z1,v',z2,gt (fun i hi=>hsame i (j2 i (kx hk hi))) z3⟩
  ·intro t t' o cs hv hv'
   obtain ⟨j1,_⟩:=hvar t' cs hv'
   rcases hget t _ hv with ⟨e,h1⟩ | ⟨e,h1⟩
   ·cases x <;> simp [Slot.ren] at h1
    obtain ⟨rfl,rfl⟩:=h1
    exact k3.loc t _ _ cs (by rw [dh,if_pos e]) j1
   ·exact k3.loc t t' o cs (by rw [dh,if_neg e]; exact h1) j1
  ·intro t t' cs cs' hne hv hv'
   exact k3.sepv t t' cs cs' hne (hvar t cs hv).1 (hvar t' cs' hv').1
  ·intro t cs i m hv hm
   obtain ⟨p,hp,_⟩:=hfrom i m hm
   exact k3.sepm t cs p m (hvar t cs hv).1 hp
  ·exact k3.ds
  ·refine fun q hq=>⟨fun i m hm=>?_,fun t cs hv=>(k3.sepd q hq).2 t cs (hvar t cs hv).1⟩
   obtain ⟨p,hp,_⟩:=hfrom i m hm
   exact (k3.sepd q hq).1 p m hp
  ·exact k3.nodup
end
end Go.Abs

namespace Go.Abs
section
variable {E:Env} {X:Nat→Prop}
theorem At.reserve {lo nt:Nat} {μ0:MM} {w0:World} {ds:List Deferred} {s:Slots} {h:Heap} {a:Act} {w:World} (hat:At E lo nt μ0 w0 ds s h a w) (n:Nat) :
  At E lo nt μ0 w0 ds s ⟨h.objs++List.replicate n .dead,h.base,h.wmin⟩ a w:=by
 obtain ⟨μ,ν,k1,k2,k3,k4,k5,k6⟩:=hat
 have hl:Later μ (μ++List.replicate n none):=⟨by simp,fun i hi=>.inl (ag hi)⟩
 have hold:∀ i,i < μ.length→(μ++List.replicate n none)[i]? = μ[i]?:=fun i hi=>ag hi
 have hnew:∀ i m,(μ++List.replicate n none)[i]? = some (some m)→μ[i]? = some (some m):=fun i m hm=>by
  rcases a8 i μ.length with h1 | h1
  ·rw [← hold i h1]; exact hm
  ·rw [au h1,d7] at hm
   split at hm
   ·cases hm
   ·cases hm
 refine ⟨μ++List.replicate n none,ν,?_,?_,?_,k4,k5,k6⟩
 ·refine ⟨k1.os,k1.tape,k1.output,k1.size,k1.block,b8 k1.len hl.len,fun i hi=>?_,fun i m hi hm=>k1.new i m hi (hnew i m hm)⟩
  rw [hold i (dq hi k1.len)]; exact k1.old i hi
 ·constructor
  ·simp [k2.len]
  ·have:=k2.bs; simp; omega
  ·intro i o hi
   simp only at hi
   rcases a8 i h.objs.length with h1 | h1
   ·rw [ag h1] at hi
    exact (k2.obj i o hi).keep hl fun m hm=>⟨by rw [hold i (by rw [k2.len]; exact h1)]; exact hm,rfl⟩
   ·have hlt:=ah hi
    rw [au h1,d7] at hi
    split at hi
    ·cases hi
     show (μ++_)[i]? = _
     rw [au (by rw [k2.len]; exact h1),d7,k2.len]
     rw [if_pos (by assumption)]
    ·cases hi
  ·intro i j mi mj hij hi hmi hmj
   exact k2.sep i j mi mj hij hi (hnew _ _ hmi) (hnew _ _ hmj)
  ·intro i m hm; exact k2.lt i m (hnew _ _ hm)
  ·exact k2.tab.less fun i m hi hm=>⟨i,m,hi,hnew _ _ hm,rfl⟩
 ·exact k3.keep hl (fun _ _ _=>rfl) (fun t cs i m hv hi hm=>k3.sepm t cs i m hv (hnew _ _ hm)) fun r hr=>⟨rfl,fun i m hi hm=>(k3.sepd r hr).1 i m (hnew _ _ hm)⟩
theorem At.ids {lo nt:Nat} {μ0:MM} {w0:World} {ds:List Deferred} {s:Slots} {h:Heap} {a:Act} {w:World} (hat:At E lo nt μ0 w0 ds s h a w) :
  (∀ t y,sget s t=some y→∀ i ∈ y.ids,i < h.size)∧(∀ (k:Nat) (o:AObj),h.objs[k]? = some o→∀ i ∈ o.ids,i < h.size)∧μ0.length≤h.size:=by
 obtain ⟨μ,ν,k1,k2,k3,k4,k5,k6⟩:=hat
 have hlen:μ.length=h.size:=k2.len
 have hcells:∀ {cs:List AVal} {c:Array Value} {b:Nat},CRel E μ cs c b→∀ i ∈ AVal.idsL cs,i < h.size:=by
  intro cs c b hc i hi
  have:∀ {cs:List AVal},i ∈ AVal.idsL cs→∃ (k:Nat) (v:AVal),cs[k]? = some v∧i ∈ v.ids:=by
   intro cs
   induction cs with
   | nil=>intro h; simp [AVal.idsL] at h
   | cons v cs ih =>
    intro h
    simp only [AVal.idsL,br] at h
    rcases h with h | h
    ·exact ⟨0,v,rfl,h⟩
    ·obtain ⟨k,v',h1,h2⟩:=ih h
     exact ⟨k+1,v',by simpa using h1,h2⟩
  obtain ⟨k,v,h1,h2⟩:=this hi
  obtain ⟨_,v',_,h3⟩:=hc k v h1
  rw [← hlen]; exact h3.ids_lt i h2
 refine ⟨fun t y hy i hi=>?_,fun k o ho i hi=>?_,by rw [← hlen]; exact k1.len⟩
 ·cases y with
  | val v =>
   obtain ⟨v',_,h2⟩:=k3.val t v hy
   rw [← hlen]; exact h2.ids_lt i hi
  | var cs =>
   obtain ⟨_,_,c,e,fr,_,_,h5,_⟩:=k3.var t cs hy
   exact hcells h5 i hi
  | _=>simp [Slot.ids] at hi
 ·have:=k2.obj k o ho
  cases o with
  | dead=>simp [AObj.ids] at hi
  | cells esz cs =>
   obtain ⟨m,c,e,fr,_,_,_,_,_,h6,_⟩:=this
   exact hcells h6 i hi
  | map es clock =>
   obtain ⟨m,es',_,_,_,h4⟩:=this
   simp only [AObj.ids,da,br] at hi
   obtain ⟨x,hx,hi⟩:=hi
   obtain ⟨k',hk'⟩:=fk hx
   obtain ⟨y,_,h5,h6,_⟩:=h4 k' x hk'
   rw [← hlen]
   rcases hi with hi | hi
   ·exact h5.ids_lt i hi
   ·exact h6.ids_lt i hi
  | iter s pos=>simp [AObj.ids] at hi
  | mapIter r a b c =>
   obtain ⟨m,r',_,_,h3⟩:=this
   rw [← hlen]
   exact h3.ids_lt i (by cases r <;> exact hi)
  | loop g st p sl =>
   obtain ⟨m,r,_,_,h3⟩:=this
   simp only [AObj.ids] at hi
   have:∀ {l:List AVal},i ∈ AVal.idsL l→∃ (k:Nat) (v:AVal),l[k]? = some v∧i ∈ v.ids:=by
    intro l
    induction l with
    | nil=>intro h; simp [AVal.idsL] at h
    | cons v l ih =>
     intro h
     simp only [AVal.idsL,br] at h
     rcases h with h | h
     ·exact ⟨0,v,rfl,h⟩
     ·obtain ⟨k,v',h1,h2⟩:=ih h
      exact ⟨k+1,v',by simpa using h1,h2⟩
   obtain ⟨k,v,h1,h2⟩:=this hi
   rw [bk,ae] at h1
   obtain ⟨x,hx,rfl⟩:=h1
   obtain ⟨v',_,h4⟩:=h3.slots k x hx
   rw [← hlen]; exact h4.ids_lt i h2
theorem noCall_ok (E:Env):CallOK E noCall:=⟨fun _ _ _ _ _ h=>by simp [noCall] at h,fun _ _ _ _ _ _ _ _ _ _ h=>by simp [noCall] at h⟩
theorem noCall_evol:CallEvol noCall:=fun _ _ _ _ _ h=>by simp [noCall] at h
variable {ops:Array Oper} {lo nt:Nat} {μ0:MM} {w0:World} {ds:List Deferred} {s:Slots} {a:Act} {w:World} {Q:Exit→Act→World→Prop} {ro:Option Nat}
theorem soft_step (hg:GidOK E) {loc:Bool} {o:Oper} {o':AOper} {s1:Slots} {h1:Heap} {os:List AObj} {base wm N:Nat} (hop:cOper E nt ops loc o=some o')
  (hev:evOper noCall o' s ⟨os,base,N⟩=some (s1,h1)) (hw:wm≤h1.wmin) (hat:At E lo nt μ0 w0 ds s ⟨os,base,wm⟩ a w) {next:Act→World→Prop} (hn:∀ a' w',At E lo nt μ0 w0 ds s1 ⟨h1.objs,base,wm⟩ a' w'→next a' w') :
  if Region.wanted o (yielded ops a.tmps) then o.wpIn (F0 ro) 0 E.P a w next Q else next (a.put o.dst Go.undef) w:=by
 obtain ⟨μ,ν,k1,k2,k3,k4,k5,k6⟩:=hat
 have hevol:=jq noCall_evol hev
 have hat':At E lo nt μ w ds s ⟨os,base,N⟩ a w:=⟨μ,ν,Step.refl _ _ _ _,k2.same rfl rfl rfl,k3,k4,k5,k6⟩
 refine oper_sound (noCall_ok E) noCall_evol hg hop hev hat' fun a' w' hat1=>hn a' w' ?_
 obtain ⟨μ',ν',j1,j2,j3,j4,j5,j6⟩:=hat1
 exact ⟨μ',ν',k1.trans (j1.weaken hw fun _ h _=>h) (ai _),j2.same rfl hevol.base.symm rfl,j3,j4,j5,j6⟩
theorem oper_heap {call:CallSem} {o:AOper} {h1 h2:Heap} {s':Slots} {h':Heap} (hso:soft o.op=true) (hcc:o.op.isCall=false) (hb:h2.base=h1.base) (ha:∀ x ∈ heapOpds o.op,∀ v,x.ev s=some v→∀ i ∈ v.ids,h2.get i=h1.get i)
  (e:evOper call o s h1=some (s',h')) :
  (∃ x,s'=setSlot o.dst x s∧h'=h1∧evOper call o s h2=some (setSlot o.dst x s,h2)) ∨
  (∃ ob f,NewF f∧s'=setSlot o.dst (f h1.size) s∧h'=h1.push ob∧evOper call o s h2=some (setSlot o.dst (f h2.size) s,h2.push ob)) ∨
   (∃ i ob f,NewF f∧h1.base≤i∧i < h1.size∧i ∈ rdIds o.op s∧s'=setSlot o.dst (f h1.size) s∧h'=(h1.put i .dead).push ob∧evOper call o s h2=some (setSlot o.dst (f h2.size) s,(h2.put i .dead).push ob)) ∨
   (∃ i ob v,h1.base≤i∧i < h1.size∧i ∈ rdIds o.op s∧s'=setSlot o.dst (.val v) s∧h'=h1.put i ob∧evOper call o s h2=some (s',h2.put i ob)):=by
 have run:∀ {s' h'},evRun call o s h1=some (s',h')→(∃ x,s'=setSlot o.dst x s∧h'=h1∧evRun call o s h2=some (setSlot o.dst x s,h2)) ∨
  (∃ ob f,NewF f∧s'=setSlot o.dst (f h1.size) s∧h'=h1.push ob∧evRun call o s h2=some (setSlot o.dst (f h2.size) s,h2.push ob)) ∨
   (∃ i ob f,NewF f∧h1.base≤i∧i < h1.size∧i ∈ rdIds o.op s∧s'=setSlot o.dst (f h1.size) s∧h'=(h1.put i .dead).push ob∧evRun call o s h2=some (setSlot o.dst (f h2.size) s,(h2.put i .dead).push ob)) ∨
   (∃ i ob v,h1.base≤i∧i < h1.size∧i ∈ rdIds o.op s∧s'=setSlot o.dst (.val v) s∧h'=h1.put i ob∧evRun call o s h2=some (s',h2.put i ob)):=by
  intro s' h' e
  unfold evRun at e ⊢
  split at e
  case h_2=>cases e
  rename_i x s1 h3 he
  cases e
  obtain ⟨rfl,hm⟩:=op_heap (d:=o.dst.getD 0) hso hcc hb ha x s1 _ he
  rcases hm with ⟨rfl,hm⟩ | ⟨ob,f,hf,rfl,rfl,hm⟩ | ⟨i,ob,f,hf,hi,hi2,hi3,rfl,rfl,hm⟩ | ⟨i,ob,hi,hi2,hi3,⟨v,rfl⟩,rfl,hm⟩
  ·exact .inl ⟨x,rfl,rfl,by rw [hm]⟩
  ·exact .inr (.inl ⟨ob,f,hf,rfl,rfl,by rw [hm]⟩)
  ·exact .inr (.inr (.inl ⟨i,ob,f,hf,hi,hi2,hi3,rfl,rfl,by rw [hm]⟩))
  ·exact .inr (.inr (.inr ⟨i,ob,v,hi,hi2,hi3,rfl,rfl,by rw [hm]⟩))
 unfold evOper at e ⊢
 split at e
 ·exact run e
 ·rename_i t want hg
  split at e
  ·split at e
   ·rename_i hbw
    rw [if_pos hbw]
    exact run e
   ·rename_i hbw
    rw [if_neg hbw]
    cases e
    exact .inl ⟨.undef,rfl,rfl,rfl⟩
  ·cases e
   exact .inl ⟨.undef,rfl,rfl,rfl⟩
  ·cases e
end
end Go.Abs

namespace Go.Abs
section
variable {E:Env} {nt:Nat} {s:Slots} {ops:Array Oper} {locs:List Nat} {as:List AOper} {Q:Exit→Act→World→Prop} {ro:Option Nat}
def Ld (listed:Array Bool) (p n x:Nat):Bool:=decide (x < n) && (listed[p+x]? == some true)
theorem any_order (has:cOpers E nt ops locs 0 ops.toList=some as) (hb:edgesBack ops=true)
  {p n:Nat} (hpn:p+n≤as.length) (hw1:waits (befs ops.toList []) (p+n)=true)
  (hap:∀ x y oi oj,x < n→y < n→as[p+x]? = some oi→as[p+y]? = some oj→apart (befs ops.toList []) (p+x) (p+y) oi oj=true)
  (S:Nat→Slots) (r:Nat→Slot) (b2:S 0=s) (text:∀ x o',x < n→as[p+x]? = some o'→S (x+1)=setSlot o'.dst (r x) (S x)∧(∀ cs,r x ≠ .var cs)∧∀ d,o'.dst=some d→isVar (S x) d=false)
  (Inv:(Nat→Bool)→Slots→Act→World→Prop)
  (hstep:∀ (L:Nat→Bool) (sD:Slots) (a:Act) (w:World) (x:Nat) (o:Oper) (o':AOper),x < n→ops[p+x]? = some o→as[p+x]? = some o'→cOper E nt ops (locs.contains (p+x)) o=some o'→L x=false →
   (∀ y,y < n→((befs ops.toList []).getD (p+x) 0).testBit (p+y)=true→L y=true)→(∀ y,y < n→L y=true→((befs ops.toList []).getD (p+y) 0).testBit (p+x)=false)→Agree (S x) sD o'.reads→Inv L sD a w →
   ∀ (next:Act→World→Prop),(∀ a' w',Inv (fun y=>y == x || L y) (setSlot o'.dst (r x) sD) a' w'→next a' w')→if Region.wanted o (yielded ops a.tmps) then o.wpIn (F0 ro) 0 E.P a w next Q else next (a.put o.dst Go.undef) w)
  (hk:∀ listed' sD a' w',Exact ops listed' (p+n)→(∀ t,sget sD t=sget (S n) t)→Inv (fun x=>decide (x < n)) sD a' w'→wpAnyIn (F0 ro) 0 E.P .any ops Q (ops.size - (p+n)) listed' a' w') :
  ∀ listed a w,Exact ops listed p→Inv (fun _=>false) s a w→wpAnyIn (F0 ro) 0 E.P .any ops Q (ops.size - p) listed a w:=by
 obtain ⟨q1,q2⟩:=iu _ _ _ has
 simp only [ep] at q1
 have hchain:=j9 (ops:=ops) ops.toList [] (by simp) (fun k i hk=>by simp at hk)
 have hblen:=jb ops.toList []
 simp only [dw,c6,ep] at hblen
 have opat:∀ x,x < n→∃ o o',ops[p+x]? = some o∧as[p+x]? = some o'∧cOper E nt ops (locs.contains (p+x)) o=some o':=by
  intro x hx
  have hlt:p+x < ops.size:=by omega
  obtain ⟨o',h2,h3⟩:=q2 (p+x) ops[p+x] (by simp [hlt])
  exact ⟨ops[p+x],o',by simp [hlt],h2,by simpa using h3⟩
 have dst_ne:∀ x y oi oj d,x < n→y < n→x≠y→as[p+x]? = some oi→as[p+y]? = some oj→oj.dst=some d→oi.dst≠some d:=by
  intro x y oi oj d hx hy hne hi hj hd e
  have:=hap x y oi oj hx hy hi hj
  unfold apart at this
  rw [hd] at this
  simp only [az,cd,beq_iff_eq,bne_iff_ne] at this
  rcases this.1 with h2 | h2
  ·omega
  ·exact h2 e
 have text_hit:∀ x y o d,x≤n→y < x→as[p+y]? = some o→o.dst=some d→sget (S x) d=some (r y):=by
  intro x
  induction x with
  | zero=>intro y o d _ hy; omega
  | succ x ih =>
   intro y o d hx hy ho hd
   obtain ⟨_,o',_,ho',_⟩:=opat x (by omega)
   obtain ⟨t2,_,_⟩:=text x o' (by omega) ho'
   rw [t2,dh]
   by_cases e:y=x
   ·subst e; rw [ho] at ho'; cases ho'; rw [if_pos hd]
   ·rw [if_neg (dst_ne x y o' o d (by omega) (by omega) (fun e'=>e e'.symm) ho' ho hd)]
    exact ih y o d (by omega) (by omega) ho hd
 have text_miss:∀ x t,x≤n→(∀ y o,y < x→as[p+y]? = some o→o.dst≠some t)→sget (S x) t=sget s t:=by
  intro x
  induction x with
  | zero=>intro t _ _; rw [b2]
  | succ x ih =>
   intro t hx hno
   obtain ⟨_,o',_,ho',_⟩:=opat x (by omega)
   obtain ⟨t2,_,_⟩:=text x o' (by omega) ho'
   rw [t2,dh,if_neg (hno x o' (by omega) ho')]
   exact ih t (by omega) fun y o hy=>hno y o (by omega)
 have dst_novar:∀ x o d cs,x < n→as[p+x]? = some o→o.dst=some d→sget s d≠some (.var cs):=by
  intro x o d cs hx ho hd hv
  obtain ⟨_,_,t4⟩:=text x o hx ho
  have h2:=t4 d hd
  have h3:sget (S x) d=sget s d:=text_miss x d (by omega) fun y o2 hy ho2=>dst_ne y x o2 o d (by omega) hx (by omega) ho2 ho hd
  unfold isVar at h2
  rw [h3,hv] at h2
  simp at h2
 have main:∀ (k:Nat) (listed:Array Bool) (sD:Slots) (a:Act) (w:World),listed.size=ops.size→Down ops listed→(∀ i,i < p→listed[i]? = some true)→(∀ i,p+n≤i→i < ops.size→listed[i]? = some false) →
   ((List.range n).filter fun x=>listed[p+x]? == some false).length=k →
   (∀ x o d,x < n→as[p+x]? = some o→listed[p+x]? = some true→o.dst=some d→sget sD d=some (r x)) →
   (∀ t,(∀ x o,x < n→as[p+x]? = some o→listed[p+x]? = some true→o.dst≠some t)→sget sD t=sget s t) →
   Inv (Ld listed p n) sD a w→wpAnyIn (F0 ro) 0 E.P .any ops Q (ops.size - (p+n)+k) listed a w:=by
  intro k
  induction k with
  | zero =>
   intro listed sD a w hsz hdn hlow hhigh hcount hhit hmiss hat
   have hall:∀ x,x < n→listed[p+x]? = some true:=by
    intro x hx
    have hlt:p+x < listed.size:=by omega
    have hmem:x ∉ (List.range n).filter fun x=>listed[p+x]? == some false:=by
     rw [bo hcount]; simp
    rw [eu] at hmem
    have h2:¬ (listed[p+x]? = some false):=fun h2=>hmem ⟨ce.2 hx,by simp [h2]⟩
    rw [jc hlt] at h2 ⊢
    cases hv:listed[p+x] with
    | true=>rfl
    | false=>rw [hv] at h2; exact absurd rfl h2
   have hex:Exact ops listed (p+n):=by
    refine ⟨hsz,fun i hi=>?_⟩
    rcases a8 i p with h2 | h2
    ·rw [hlow i h2]; simp; omega
    ·rcases a8 i (p+n) with h3 | h3
     ·have:=hall (i - p) (by omega)
      rw [show p+(i - p)=i by omega] at this
      rw [this]; simp [h3]
     ·rw [hhigh i h3 hi]; simp; omega
   have hLd:Ld listed p n=fun x=>decide (x < n):=by
    funext x
    unfold Ld
    by_cases hx:x < n
    ·rw [hall x hx]; simp [hx]
    ·simp [hx]
   rw [hLd] at hat
   refine hk listed sD a w hex (fun t=>?_) hat
   by_cases hx:∃ x o,x < n∧as[p+x]? = some o∧o.dst=some t
   ·obtain ⟨x,o,h2,h3,h4⟩:=hx
    rw [text_hit n x o t (ai _) h2 h3 h4,hhit x o t h2 h3 (hall x h2) h4]
   ·have hno:∀ x o,x < n→as[p+x]? = some o→o.dst≠some t:=fun x o h2 h3 h4=>hx ⟨x,o,h2,h3,h4⟩
    rw [text_miss n t (ai _) hno,hmiss t fun x o h2 h3 _=>hno x o h2 h3]
  | succ k ih =>
   intro listed sD a w hsz hdn hlow hhigh hcount hhit hmiss hat
   have hsome:∃ x,x < n∧listed[p+x]? = some false:=by
    have hne:(List.range n).filter (fun x=>listed[p+x]? == some false)≠[]:=fun e=>by rw [e] at hcount; simp at hcount
    obtain ⟨x,hx⟩:=List.exists_mem_of_ne_nil _ hne
    rw [eu,ce] at hx
    exact ⟨x,hx.1,by simpa using hx.2⟩
   obtain ⟨xu,hxu,hxf⟩:=hsome
   refine ⟨fun hr=>?_,fun i hi=>?_⟩
   ·have:=all_listed hb hsz hr (p+xu) (by omega)
    rw [hxf] at this; cases this
   ·obtain ⟨oi,k1,k2,k3⟩:=ready_mem hsz hi
    have his:i < ops.size:=ah (l:=ops.toList) (by simpa using k1)
    have hip:p≤i:=by
     rcases a8 i p with h2 | h2
     ·rw [hlow i h2] at k2; cases k2
     ·exact h2
    have hin:i < p+n:=by
     rcases a8 i (p+n) with h2 | h2
     ·exact h2
     ·exfalso
      have hbit:=waits_at hw1 (j:=i) (i:=p+xu) (by rw [hblen]; exact his) h2 (by omega)
      have hl:=ga hdn (hchain _ _ hbit) fun o e ho he hbb=>by rw [k1] at ho; cases ho; exact k3 e he hbb
      rw [hxf] at hl; cases hl
    obtain ⟨x,rfl⟩:∃ x,i=p+x:=⟨i - p,by omega⟩
    have hxn:x < n:=by omega
    obtain ⟨o,o',h2,h3,h4⟩:=opat x hxn
    rw [h2] at k1; cases k1
    obtain ⟨t2,t3,t4⟩:=text x o' hxn h3
    have waitsl:∀ j,(((befs ops.toList []).getD (p+x) 0).testBit j=true)→listed[j]? = some true:=fun j hbit =>
     ga hdn (hchain _ _ hbit) fun o2 e ho he hbb=>by rw [h2] at ho; cases ho; exact k3 e he hbb
    have hag:Agree (S x) sD o'.reads:=by
     refine Agree.of ?_ ?_
     ·intro t ht
      by_cases hy:∃ y oj,y < n∧as[p+y]? = some oj∧oj.dst=some t
      ·obtain ⟨y,oj,hy1,hy2,hy3⟩:=hy
       have others:∀ z oz,z < n→z≠y→as[p+z]? = some oz→oz.dst≠some t:=fun z oz hz hne hoz=>dst_ne z y oz oj t hz hy1 hne hoz hy2 hy3
       by_cases hxy:y=x
       ·-- its own slot
        subst hxy
        rw [text_miss y t (by omega) fun z oz hz hoz=>others z oz (by omega) (by omega) hoz]
        rw [hmiss t fun z oz hz hoz hl=>by
         by_cases e:z=y
         ·subst e; rw [k2] at hl; cases hl
         ·exact others z oz hz e hoz]
       ·have:=hap x y o' oj hxn hy1 h3 hy2
        unfold apart at this
        rw [hy3] at this
        simp only [az,cd,beq_iff_eq,dv,List.contains_eq_mem,decide_eq_false_iff_not,decide_eq_true_eq] at this
        rcases this.2 with ((h5 | h5) | h5) | h5
        ·omega
        ·exact absurd ht h5
        ·obtain ⟨h5,h6⟩:=h5
         rw [text_hit x y oj t (by omega) (by omega) hy2 hy3,hhit y oj t hy1 hy2 (waitsl _ h6) hy3]
        ·obtain ⟨h5,h6⟩:=h5
         have hnl:listed[p+y]?≠some true:=by
          intro hl
          have:=ga hdn (hchain _ _ h6) fun o2 e ho he hbb=>hdn _ _ _ hl ho he hbb
          rw [k2] at this; cases this
         rw [text_miss x t (by omega) fun z oz hz hoz=>others z oz (by omega) (by omega) hoz]
         rw [hmiss t fun z oz hz hoz hl=>by
          by_cases e:z=y
          ·subst e; exact absurd hl hnl
          ·exact others z oz hz e hoz]
      ·have hno:∀ z oz,z < n→as[p+z]? = some oz→oz.dst≠some t:=fun z oz hz hoz hd=>hy ⟨z,oz,hz,hoz,hd⟩
       rw [text_miss x t (by omega) fun z oz hz hoz=>hno z oz (by omega) hoz,hmiss t fun z oz hz hoz _=>hno z oz hz hoz]
     ·intro t cs
      have v1:sget (S x) t=some (.var cs) ↔ sget s t=some (.var cs):=by
       by_cases hy:∃ y oj,y < x∧as[p+y]? = some oj∧oj.dst=some t
       ·obtain ⟨y,oj,hy1,hy2,hy3⟩:=hy
        rw [text_hit x y oj t (by omega) hy1 hy2 hy3]
        constructor
        ·intro e; exact absurd (bz e) ((text y oj (by omega) hy2).2.1 cs)
        ·intro e; exact absurd e (dst_novar y oj t cs (by omega) hy2 hy3)
       ·rw [text_miss x t (by omega) fun z oz hz hoz hd=>hy ⟨z,oz,hz,hoz,hd⟩]
      have v2:sget sD t=some (.var cs) ↔ sget s t=some (.var cs):=by
       by_cases hy:∃ y oj,y < n∧as[p+y]? = some oj∧listed[p+y]? = some true∧oj.dst=some t
       ·obtain ⟨y,oj,hy1,hy2,hyl,hy3⟩:=hy
        rw [hhit y oj t hy1 hy2 hyl hy3]
        constructor
        ·intro e; exact absurd (bz e) ((text y oj hy1 hy2).2.1 cs)
        ·intro e; exact absurd e (dst_novar y oj t cs hy1 hy2 hy3)
       ·rw [hmiss t fun z oz hz hoz hl hd=>hy ⟨z,oz,hz,hoz,hl,hd⟩]
      exact v1.trans v2.symm
    have hLx:Ld listed p n x=false:=by unfold Ld; rw [k2]; simp
    refine wpOp_of h2 (hstep (Ld listed p n) sD a w x _ o' hxn h2 h3 h4 hLx (fun y hy hbit=>?_) (fun y hy hl=>?_) hag hat _ fun a' w' hat'=>?_)
    ·unfold Ld; rw [waitsl _ hbit]; simp [hy]
    ·have hl':listed[p+y]? = some true:=by unfold Ld at hl; simpa [hy] using hl
     cases hbit:((befs ops.toList []).getD (p+y) 0).testBit (p+x) with
     | false=>rfl
     | true =>
      exfalso
      have:=ga hdn (hchain _ _ hbit) fun o2 e ho he hbb=>hdn _ _ _ hl' ho he hbb
      rw [k2] at this; cases this
    have hset:∀ j,j≠p+x→(listed.setIfInBounds (p+x) true)[j]? = listed[j]?:=fun j hj=>co (fun e=>hj e.symm)
    have hself:(listed.setIfInBounds (p+x) true)[p+x]? = some true:=by simp [hsz,his]
    have hLd':(fun y=>y == x || Ld listed p n y)=Ld (listed.setIfInBounds (p+x) true) p n:=by
     funext y
     unfold Ld
     by_cases ey:y=x
     ·subst ey; rw [hself]; simp [hxn]
     ·rw [hset (p+y) (by omega)]; simp [ey]
    rw [hLd'] at hat'
    refine ih (listed.setIfInBounds (p+x) true) (setSlot o'.dst (r x) sD) a' w' (by simp [hsz]) ?_ ?_ ?_ ?_ ?_ ?_ hat'
    ·intro j oj e hj hoj he hbb
     by_cases ej:j=p+x
     ·subst ej
      rw [h2] at hoj; cases hoj
      have:=k3 e he hbb
      by_cases ee:e.on=p+x
      ·rw [ee]; exact hself
      ·rw [hset _ ee]; exact this
     ·rw [hset _ ej] at hj
      have:=hdn j oj e hj hoj he hbb
      by_cases ee:e.on=p+x
      ·rw [ee]; exact hself
      ·rw [hset _ ee]; exact this
    ·intro j hj; rw [hset j (by omega)]; exact hlow j hj
    ·intro j hj hj'; rw [hset j (by omega)]; exact hhigh j hj hj'
    ·-- one less is to come
     have hperm:((List.range n).filter fun y=>(listed.setIfInBounds (p+x) true)[p+y]? == some false)=((List.range n).filter fun y=>listed[p+y]? == some false).filter fun y=>y != x:=by
      rw [List.filter_filter]
      apply List.filter_congr
      intro y _
      by_cases ey:y=x
      ·subst ey; rw [hself]; simp
      ·rw [hset _ (by omega)]; simp [ey]
     rw [hperm]
     have hmem:x ∈ (List.range n).filter fun y=>listed[p+y]? == some false:=by
      rw [eu]; exact ⟨ce.2 hxn,by simp [k2]⟩
     have hnd:((List.range n).filter fun y=>listed[p+y]? == some false).Nodup:=List.nodup_range.sublist List.filter_sublist
     generalize (List.range n).filter (fun y=>listed[p+y]? == some false)=L at hcount hmem hnd
     have herase:L.filter (fun y=>y != x)=L.erase x:=(hnd.erase_eq_filter x).symm
     rw [herase,List.length_erase_of_mem hmem,hcount]
     rfl
    ·intro y oy d hy hoy hl hd
     rw [dh]
     by_cases ey:y=x
     ·subst ey; rw [h3] at hoy; cases hoy
      rw [if_pos hd]
     ·rw [hset _ (by omega)] at hl
      rw [if_neg (dst_ne x y o' oy d hxn hy (fun e=>ey e.symm) h3 hoy hd)]
      exact hhit y oy d hy hoy hl hd
    ·intro t hno
     rw [dh,if_neg (hno x o' hxn h3 hself)]
     refine hmiss t fun y oy hy hoy hl=>?_
     by_cases ey:y=x
     ·subst ey; rw [k2] at hl; cases hl
     ·exact hno y oy hy hoy (by rw [hset _ (by omega)]; exact hl)
 intro listed a w hex hat
 have hcount:((List.range n).filter fun x=>listed[p+x]? == some false).length=n:=by
  have:(List.range n).filter (fun x=>listed[p+x]? == some false)=List.range n:=by
   rw [List.filter_eq_self]
   intro x hx
   rw [ce] at hx
   rw [hex.2 (p+x) (by omega)]
   simp
  rw [this,jo]
 have hL0:Ld listed p n=fun _=>false:=by
  funext x
  unfold Ld
  by_cases hx:x < n
  ·rw [hex.2 (p+x) (by omega)]; simp
  ·simp [hx]
 rw [← hL0] at hat
 have:=main n listed s a w hex.1 (hex.down hb) (fun i hi=>by rw [hex.2 i (by omega)]; simp [hi]) (fun i hi hi'=>by rw [hex.2 i hi']; simp; omega) hcount
  (fun x o d hx ho hl _=>by
   have h5:=hex.2 (p+x) (by omega)
   rw [hl] at h5
   have h6:=of_decide_eq_true (bz h5).symm
   omega) (fun t _=>rfl) hat
 rwa [show ops.size - (p+n)+n=ops.size - p by omega] at this
end
end Go.Abs

namespace Go.Abs
section
variable {E:Env} {lo nt:Nat} {ν:Fr} {μ:MM} {s:Slots} {h:Heap} {a:Act} {w:World} {call:CallSem} {ro:Option Nat} {ops:Array Oper}
theorem cOp_call {loc:Bool} {o:Oper} {ao:AOp} (hao:cOp E loc o.op=some ao) (hcl:(∃ f as,ao = .call f as)∨(∃ g as,ao = .callg g as)):∃ c,o.op = .call c∧cCall E c=some ao:=by
  cases ho:o.op with
  | call c=>exact ⟨c,rfl,by rw [ho] at hao; simpa only [cOp] using hao⟩
  | makeFunc fn x1 x2 =>
    rw [ho] at hao
    exfalso
    cases fn <;> simp only [cOp] at hao <;> (try (cases hao; done))
    rcases hcl with ⟨f,as,rfl⟩ | ⟨g,as,rfl⟩ <;> (split at hao <;> cases hao)
  | makeMap t hint =>
    rw [ho] at hao
    exfalso
    rcases hcl with ⟨f,as,rfl⟩ | ⟨g,as,rfl⟩ <;>
      (cases hint with
       | none=>simp [cOp] at hao
       | some y =>
         cases y with
         | const v=>cases v <;> simp only [cOp] at hao <;> first | (cases hao; done) | (split at hao <;> cases hao)
         | _=>simp [cOp] at hao)
  | _ =>
    rw [ho] at hao
    exfalso
    rcases hcl with ⟨f,as,rfl⟩ | ⟨g,as,rfl⟩ <;>
      (simp only [cOp,cBin,cConv,cEq] at hao
       repeat' split at hao
       all_goals first
         | (cases hao; done)
         | (rw [ae] at hao; obtain ⟨_,_,hao⟩:=hao; first | (cases hao; done) | (split at hao <;> cases hao)))
def SlotIs (E:Env) (μ:MM) (x:Slot) (v:Value):Prop:=(x = .undef∧v=Go.undef)∨∃ u,x = .val u∧VRel E μ u v
theorem call_step (hc:CallOK E call) (hg:GidOK E) {loc:Bool} {o:Oper} {o':AOper} {s':Slots} {h':Heap} (hop:cOper E nt ops loc o=some o') (hcl:o'.op.isCall=true) (hev:evOper call o' s h=some (s',h'))
    (k3:FRel E lo ν μ (sget s) a.tmps w) (k2:Rel E μ h w) {next:Act→World→Prop} {Q:Exit→Act→World→Prop}
    (hn:∀ x v w' μ',s'=setSlot o'.dst x s→SlotIs E μ' x v→Step (fun _=>False) h'.wmin μ w μ' w'→Rel E μ' h' w'→next (a.put o.dst v) w') :
    if Region.wanted o (yielded ops a.tmps) then o.wpIn (F0 ro) 0 E.P a w next Q else next (a.put o.dst Go.undef) w:=by
  unfold cOper at hop
  split at hop
  case isFalse=>cases hop
  rename_i hh
  have run:o'.dst=o.dst→o'.op=cOpS E loc o.op→evRun call o' s h=some (s',h')→o.wpIn (F0 ro) 0 E.P a w next Q:=by
    intro e1 e0 hev
    have ho2:∃ ao,cOp E loc o.op=some ao∧o'.op=ao:=by
      cases hco:cOp E loc o.op with
      | some ao=>exact ⟨ao,rfl,by rw [e0,cOpS,hco]⟩
      | none=>rw [e0,cOpS,hco] at hcl; simp [AOp.isCall] at hcl
    obtain ⟨ao,hao,e2⟩:=ho2
    rw [e2] at hcl
    have hcl2:(∃ f as,ao = .call f as)∨(∃ g as,ao = .callg g as):=by
      cases ao <;> simp only [AOp.isCall,bw] at hcl
      · exact .inl ⟨_,_,rfl⟩
      · exact .inr ⟨_,_,rfl⟩
    unfold evRun at hev
    rw [e2] at hev
    split at hev
    case h_2=>cases hev
    rename_i x s1 h1 hop1
    injection hev with hev
    injection hev with hev1 hev2
    subst hev2
    have hnd:∀ c,o.op ≠ .defer c:=fun c hc'=>by rw [hc'] at hao; simp [cOp] at hao
    refine ⟨fun _ _=>trivial,?_⟩
    rw [Oper.semAt_eq _ _ _ hnd]
    have ends:∀ (v:AVal) (e:Ending) (w':World),Ends E μ w v h1 e w'→x = .val v→s1=s→(match e with | .returned v=>next (a.put o.dst v) w' | .panicked chain=>Q (.panic chain) a w' | .outgrown=>LetsOut Q):=by
      rintro v e w' ⟨v',μ',rfl,j1,j2,j3⟩ hx hs
      subst hx; subst hs
      exact hn _ _ _ μ' hev1.symm (.inr ⟨v,rfl,j2⟩) j1 j3
    have callcase:∀ (g:Nat) (f:FuncId) (as:List AVal) (args':Array Value) (v:AVal),call g as h=some (v,h1)→E.gid f=some g→VRels E μ as args'.toList →
        (execOp a.eval o).run E.P w = .ok (.enter f args') w→x = .val v→s1=s→o.uponIn (F0 ro) 0 E.P a next Q ((execOp a.eval o).run E.P w):=by
      intro g f as args' v hcall hgf hargs hrun hx hs
      rw [hrun,Oper.uponIn_enter]
      refine ⟨fun hh=>by simp [F0,Fence.wide] at hh,?_⟩
      exact CallsIn.mono (F:=F0 ro) (n:=0) (hc.fn g as h v h1 hcall f hgf μ w args' hargs k2) fun e w' he=>by
        have:=ends v e w' he hx hs
        cases e <;> exact this
    have roundcase:∀ (g i:Nat) (as:List AVal) (args':Array Value) (v:AVal) (st:LoopSt) (p:Option AExit) (sl:List (Nat × AVal)),call g (.ptr (some (i,0)) :: as) h=some (v,h1)→h.get i=some (.loop g st p sl)→VRels E μ as args'.toList →
        (∀ (m:M),μ[i]? = some (some m)→(execOp a.eval o).run E.P w=(Instr.yield m.blk args').run E.P w)→x = .val v→s1=s→o.uponIn (F0 ro) 0 E.P a next Q ((execOp a.eval o).run E.P w):=by
      intro g i as args' v st p sl hcall hgi hargs hrun hx hs
      obtain ⟨m,r,q1,q2,q3,q4⟩:=hc.round g i 0 as h v h1 st p sl hcall hgi μ w args' hargs k2
      rw [hrun m q1,run_yield q2 q3,Oper.uponIn_round]
      refine ⟨fun hh=>by simp [F0,Fence.wide] at hh,?_⟩
      exact RoundIn.mono (F:=F0 ro) (n:=0) q4 fun e w' he=>by
        have:=ends v e w' he hx hs
        cases e <;> exact this
    obtain ⟨c,hcop,hcc⟩:=cOp_call hao hcl2
    have hcl:=hcl2
    unfold cCall at hcc
    split at hcc
    · rename_i f hcal
      split at hcc
      case h_2 =>
        exfalso
        rw [ae] at hcc
        obtain ⟨_,_,hcc⟩:=hcc
        rcases hcl with ⟨f,as,rfl⟩ | ⟨g,as,rfl⟩ <;> cases hcc
      case h_3=>cases hcc
      rename_i g as hgf has
      cases hcc
      simp only [evOp] at hop1
      split at hop1
      case h_2=>cases hop1
      rename_i vs hvs
      rw [ae] at hop1
      obtain ⟨⟨v,h2⟩,hcall,hop1⟩:=hop1
      cases hop1
      have hargs:=ie k3 has hvs
      refine callcase g f vs (c.args.map a.eval) v hcall hgf (by simpa using hargs) ?_ rfl rfl
      have:=ic hg hgf (c.args.map a.eval) w
      simp [execOp,hcop,resolve,hcal,Act.eval,Deferred.ofValue,invoke,this]
    · rename_i y hne hcal
      split at hcc
      case h_2=>cases hcc
      rename_i y' as hy has
      cases hcc
      simp only [evOp] at hop1
      split at hop1
      · rename_i g first caps vs hyv hvs
        rw [ae] at hop1
        obtain ⟨⟨v,h2⟩,hcall,hop1⟩:=hop1
        cases hop1
        have hargs:=ie k3 has hvs
        have hfv:=bt k3 hy hyv
        simp only [VRel] at hfv
        obtain ⟨fid,f',c',q1,q2,q3,q4⟩:=hfv
        refine callcase g fid (first++vs++caps) (f'++c.args.map a.eval++c') v hcall q2 ?_ ?_ rfl rfl
        · simpa using (q3.append hargs).append q4
        · have:=ic hg q2 (f'++(c.args.map a.eval++c')) w
          simp [execOp,hcop,resolve,hcal,q1,Deferred.ofValue,invoke,this]
      · rename_i i vs hyv hvs
        split at hop1
        case h_2=>cases hop1
        rename_i g st p sl hgi
        rw [ae] at hop1
        obtain ⟨⟨v,h2⟩,hcall,hop1⟩:=hop1
        cases hop1
        have hargs:=ie k3 has hvs
        have hfv:=bt k3 hy hyv
        simp only [VRel] at hfv
        obtain ⟨l,xx,q1,q2,q3⟩:=hfv
        refine roundcase g i vs (c.args.map a.eval) v st p sl hcall hgi (by simpa using hargs) (fun m hm=>?_) rfl rfl
        rw [hm] at q2; cases q2
        have:=q3 m rfl; subst this
        simp [execOp,hcop,resolve,hcal,q1,Deferred.ofValue,invoke]
      · cases hop1
    · -- a built-in is no call
      exfalso
      rcases hcl with ⟨f,as,rfl⟩ | ⟨g,as,rfl⟩ <;>
        (repeat' split at hcc
         all_goals first
           | (cases hcc; done)
           | (rw [ae] at hcc; obtain ⟨_,_,hcc⟩:=hcc; cases hcc))
    · cases hcc
  unfold evOper at hev
  split at hop
  · rename_i hg0
    cases hop
    simp only at hev
    have:Region.wanted o (yielded ops a.tmps)=true:=by simp [Region.wanted,hg0]
    rw [if_pos this]
    exact run rfl rfl hev
  · rename_i j want hg0
    split at hop
    case h_2=>cases hop
    rename_i d hdj
    cases hop
    simp only at hev
    split at hev
    · rename_i b hb
      obtain ⟨v',hv,hr⟩:=k3.val d _ hb
      simp only [VRel] at hr; subst hr
      have hy:yielded ops a.tmps j=some b:=by simp [yielded,hdj,hv]
      have hw:Region.wanted o (yielded ops a.tmps)=(b == want):=by simp [Region.wanted,hg0,hy]
      split at hev
      · rename_i hbw
        rw [if_pos (by rw [hw]; simpa using hbw)]
        exact run rfl rfl hev
      · rename_i hbw
        cases hev
        rw [if_neg (by rw [hw]; simpa using hbw)]
        exact hn _ _ _ μ rfl (.inl ⟨rfl,rfl⟩) (Step.refl _ _ _ _) k2
    · rename_i hb
      cases hev
      have hv:=k3.undef d hb
      have hy:yielded ops a.tmps j=none:=by simp [yielded,hdj,hv,Go.undef]
      have hw:Region.wanted o (yielded ops a.tmps)=false:=by simp [Region.wanted,hg0,hy]
      rw [if_neg (by simp [hw])]
      exact hn _ _ _ μ rfl (.inl ⟨rfl,rfl⟩) (Step.refl _ _ _ _) k2
    · cases hev
end
end Go.Abs
