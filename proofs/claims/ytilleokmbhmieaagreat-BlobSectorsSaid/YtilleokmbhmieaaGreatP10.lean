/-
  Texts joined.
-/
import Derived.Test.YtilleokmbhmieaaGreatP0
import Derived.Test.YtilleokmbhmieaaGreatP9
import Derived.Test.YtilleokmbhmieaaGreatP7
set_option linter.unusedVariables false
set_option linter.unusedSimpArgs false
set_option maxRecDepth 100000
namespace Go.Abs.AbsBlo
open Go.Abs.AbsBlb hiding T
open Go.Abs.Short
theorem CodeD.run {E:Env} {T:Nat→Option AFunc} (hT:Agrees E T) (hm:E.P.follows .mixedOrders=true) {c:ACode} {st st':St} {e:AExit} {Q:AExit→St→Prop} (h:∀ k':AExit→St→Option Unit,xK T c st (k:=⟨k'⟩)=k' e st') (hq:Q e st'):CodeD E c st Q :=
 CodeD.of_k hT hm (by rw [h]; exact okIf_iff.2 hq)
theorem OpsD.run {E:Env} {T:Nat→Option AFunc} {K:Slots→Heap→Prop} {l r:List AOper} {s s1:Slots} {h h1:Heap} (e:∀ k:Slots→Heap→Option (Slots × Heap),opsK (xCall T) l s h (k:=⟨k⟩)=k s1 h1) (hr:OpsD E T K r s1 h1):OpsD E T K (l++r) s h:=by
 refine OpsD.ops (s1:=s1) (h1:=h1) ?_ hr
 have:=e fun s h=>some (s,h)
 unfold opsK at this
 cases hx:evOps (xCall T) l s h with
 | none=>rw [hx] at this; cases this
 | some p=>rw [hx] at this; exact this
def keyC (k:Bs):List AVal:=[.str k]
theorem keyC_flat:∀ A:List Bs,A.flatMap keyC=A.map AVal.str
 | []=>rfl
 | a :: A=>by rw [d0,keyC_flat A]; rfl
theorem filt_lt {α:Type} {p p':α→Bool}:∀ {l:List α},(∀ x ∈ l,p' x=true→p x=true)→(∃ x ∈ l,p x=true∧p' x=false)→(l.filter p').length < (l.filter p).length
 | [],_,⟨x,hx,_⟩=>by cases hx
 | a :: l,h,⟨x,hx,h1,h2⟩=>by
  have hle:(l.filter p').length≤(l.filter p).length:=by
   have:∀ {l:List α},(∀ x ∈ l,p' x=true→p x=true)→(l.filter p').length≤(l.filter p).length:=by
    intro l
    induction l with
    | nil=>intro _; simp
    | cons a l ih =>
     intro h
     have ih:=ih fun x hx=>h x (bd _ hx)
     by_cases c:p' a=true
     ·rw [List.filter_cons_of_pos c,List.filter_cons_of_pos (h a (a7 ..) c)]; simp; exact ih
     ·rw [List.filter_cons_of_neg c]
      by_cases d:p a=true
      ·rw [List.filter_cons_of_pos d]; simp; omega
      ·rw [List.filter_cons_of_neg d]; exact ih
   exact this fun x hx=>h x (bd _ hx)
  rcases c9.1 hx with rfl | hx
  ·rw [List.filter_cons_of_neg (by rw [h2]; decide),List.filter_cons_of_pos h1]; simp; omega
  ·have ih:=filt_lt (l:=l) (fun x hx=>h x (bd _ hx)) ⟨x,hx,h1,h2⟩
   by_cases c:p' a=true
   ·rw [List.filter_cons_of_pos c,List.filter_cons_of_pos (h a (a7 ..) c)]; simp; exact ih
   ·rw [List.filter_cons_of_neg c]
    by_cases d:p a=true
    ·rw [List.filter_cons_of_pos d]; simp; omega
    ·rw [List.filter_cons_of_neg d]; exact ih
theorem find_stamp:∀ {ix:List Ent} {e:Ent},(ix.map (·.2.2)).Nodup→e ∈ ix→(ix.map entV).find? (fun x=>x.2.2 == e.2.2)=some (entV e)
 | a :: ix,e,hn,he=>by
  rw [bc,List.nodup_cons] at hn
  rw [bc]
  rcases c9.1 he with rfl | he
  ·rw [List.find?_cons_of_pos (by simp [entV])]
  ·rw [List.find?_cons_of_neg,find_stamp hn.2 he]
   have:a.2.2≠e.2.2:=fun h=>hn.1 (cg.2 ⟨e,he,h.symm⟩)
   simpa [entV] using this
theorem nodup_len {α:Type} [DecidableEq α]:∀ {l l':List α},l.Nodup→(∀ x ∈ l,x ∈ l')→l.length≤l'.length
 | [],_,_,_=>eo _
 | a :: l,l',hn,h=>by
  have hn:=List.nodup_cons.1 hn
  have ih:=nodup_len (l':=l'.erase a) hn.2 fun x hx=>(List.mem_erase_of_ne (fun e=>by subst e; exact hn.1 hx)).2 (h x (bd _ hx))
  have ha:=h a (a7 ..)
  rw [List.length_erase_of_mem ha] at ih
  have:=List.length_pos_of_mem ha
  rw [bv]; omega
def Sel (ix:List Ent) (i:Nat) (A:List Bs) (seen:List Nat):Prop:=A.Nodup∧∀ k,k ∈ A ↔ ∃ e ∈ ix,e.2.2 ∈ seen∧e.2.1.sec=i∧e.1=k
def LoopQ (H1:List AObj) (lo it cb i b:Nat) (ix:List Ent) (e:AExit) (st:St):Prop :=
 e = .exit 0∧∃ A P x w',Pre H1 P∧FRow it 1 keyC A P x∧A.Nodup∧(∀ k,k ∈ A ↔ ∃ e ∈ ix,e.2.1.sec=i∧e.1=k)∧it+1≤P.length∧lo≤w'∧st=⟨[(2,.val (.ptr (some (cb,0)))),(5,.val x)],⟨P,b,w'⟩⟩
def LoopJ (H1:List AObj) (lo it cb i b m0 clock:Nat) (ix:List Ent) (m:Nat) (st:St):Prop:=∃ seen A P x w',m=(ix.filter fun e=>!seen.contains e.2.2).length∧Pre H1 P∧P[it]? = some (.mapIter (some m0) clock seen clock)∧FRow it 1 keyC A P x∧Sel ix i A seen∧it+1≤P.length∧lo≤w' ∧
  st=⟨[(1,.val (.int .i64 i)),(2,.val (.ptr (some (cb,0)))),(5,.val x),(15,.val (.ptr (some (it,0))))],⟨P,b,w'⟩⟩
def LoopN (H1:List AObj) (lo it cb i b m0 clock:Nat) (ix:List Ent) (m:Nat) (st:St):Prop:=∃ j,j < m∧LoopJ H1 lo it cb i b m0 clock ix j st
section
variable {H:List AObj} {b w:Nat} {I:SI} {F:Fl} {K:StU}
section
attribute [-simp] getElem?_pos getElem?_neg List.all_eq_true
attribute [local simp] qZ qS nltT nltF iltT iltF ileT nleT dj
theorem live_loop {H1:List AObj} {lo it cb:Nat} (hI:H1[I.m]? = some K.map) (hx:IxOK K.ix K.clock) (hxl:K.ix.length≤1000) (hsn:∀ e ∈ K.ix,e.2.1.sec≤1000000) (hit:it=H1.length) (hb:b≤it) {i w0:Nat} (hi:i≤1000000) (hlo:lo≤it) (hw0:lo≤w0) :
  Wp T (.loop code617L1) ⟨[(1,.val (.int .i64 i)),(2,.val (.ptr (some (cb,0)))),(5,.val (.slice none 0 (some 0))),(15,.val (.ptr (some (it,0))))],⟨H1++[.mapIter (some I.m) K.clock [] K.clock],b,w0⟩⟩ (LoopQ H1 lo it cb i b K.ix):=by
 refine Wp_loop (LoopJ H1 lo it cb i b I.m K.clock K.ix) (fun m st hJ=>?_) _ _ ⟨[],[],_,_,w0,rfl,fun k o hk=>by rw [ag (ah hk)]; exact hk,by rw [hit]; exact fp _ _,.inl ⟨rfl,rfl⟩,⟨by simp,fun k=>by simp⟩,by simp [hit],hw0,rfl⟩
 obtain ⟨seen,A,P,x,w1,rfl,s1,s2,s3,s4,s5,s6,rfl⟩:=hJ
 have hIt:I.m < it:=by have:=ah hI; omega
 have hPm:P[I.m]? = some K.map:=s1 _ _ hI
 have hitl:=ah s2
 unfold code617L1
 refine Wp_live ?_
 refine ka (Wp_after (ka ?_))
 refine Wp_next (m:=I.m) (i:=it) (since:=K.clock) (last:=K.clock) (clock:=K.clock) (seen:=seen) (es:=K.ix.map entV) (by simp) (by show b≤_; exact hb) s2 hPm (fun e he=>?_) (ai _) (fun hall=>?_) (fun e he hne'=>?_)
 ·obtain ⟨e0,h0,rfl⟩:=cg.1 he
  exact hx.c e0 h0
 ·have hse:∀ k,k ∈ A ↔ ∃ e ∈ K.ix,e.2.1.sec=i∧e.1=k:=fun k=>by
   rw [s4.2 k]
   constructor
   ·rintro ⟨e,h1,-,h2,h3⟩; exact ⟨e,h1,h2,h3⟩
   ·rintro ⟨e,h1,h2,h3⟩; exact ⟨e,h1,hall _ (cg.2 ⟨e,h1,rfl⟩),h2,h3⟩
  have fin:LoopQ H1 lo it cb i b K.ix (.exit 0) ⟨[(2,.val (.ptr (some (cb,0)))),(5,.val x)],⟨P.set it .dead,b,min w1 it⟩⟩:=⟨rfl,A,P.set it .dead,x,min w1 it,fun k o hk=>by
   rw [aq (by have:=ah hk; omega)]; exact s1 _ _ hk,s3.monoE fun k o hk ho=>by
   rw [aq (fun e=>by rw [← e,s2] at ho; cases ho)]; exact ho,s4.1,hse,by rw [av]; exact s5,by omega,rfl⟩
  refine Wp_x rfl ?_
  simp (disch:=omega) []
  refine Wp_x rfl ?_
  simp (disch:=omega) [fin]
 ·obtain ⟨e0,h0,rfl⟩:=cg.1 he
  have hns:e0.2.2 ∉ seen:=hne'
  have hfs:=find_stamp hx.t h0
  have hAl:A.length≤K.ix.length:=by
   have:=nodup_len (l':=K.ix.map (·.1)) s4.1 fun k hk=>by
    obtain ⟨e,h1,-,-,h4⟩:=(s4.2 k).1 hk
    exact cg.2 ⟨e,h1,h4⟩
   rwa [bj] at this
  let P1:=P.set it (.mapIter (some I.m) K.clock (seen++[e0.2.2]) K.clock)
  have hP1l:P1.length=P.length:=av
  have g1:∀ k o,k≠it→P[k]? = some o→P1[k]? = some o:=fun k o hk ho=>by show (P.set _ _)[k]? = _; rw [aq (fun e=>hk e.symm)]; exact ho
  have g2:P1[it]? = some (.mapIter (some I.m) K.clock (seen++[e0.2.2]) K.clock):=ij s2
  have hPm1:P1[I.m]? = some (.map (K.ix.map entV) K.clock):=g1 _ _ (by omega) hPm
  have hpre1:Pre H1 P1:=fun k o hk=>g1 _ _ (by have:=ah hk; omega) (s1 _ _ hk)
  have fr1:FRow it 1 keyC A P1 x:=s3.monoE fun k o hk ho=>g1 _ _ (fun e=>by rw [e,s2] at ho; cases ho) ho
  have hlt:(K.ix.filter fun e=>!(seen++[e0.2.2]).contains e.2.2).length < (K.ix.filter fun e=>!seen.contains e.2.2).length:=filt_lt (fun y _ hy=>by
   simp only [dv,List.contains_eq_mem,br,bi,decide_eq_false_iff_not,not_or] at hy ⊢
   exact hy.1) ⟨e0,h0,by simpa using hns,by simp⟩
  have hen:∀ w,evExt .entry [.ptr (some (it,0))] ⟨P1,b,w⟩=some (.tuple [.str e0.1,e0.2.1.val],⟨P1,b,w⟩):=fun w=>by
   simp only [evExt,Heap.get,g2,hPm1,List.getLast?_append,List.getLast?_singleton,Option.some_or,if_true,hfs,bq]; rfl
  have hse0:=hsn e0 h0
  by_cases c:e0.2.1.sec=i
  ·obtain ⟨P2,x2,n2,f1,f2,f3,f4,f5⟩:=fr1.add' (b:=b) (by':=16) (fun _=>rfl) (by omega) (by omega) (by omega) (by omega) e0.1
   have hsel:Sel K.ix i (A++[e0.1]) (seen++[e0.2.2]):=by
    refine ⟨?_,fun k=>?_⟩
    ·rw [List.nodup_append]
     refine ⟨s4.1,by simp,fun a ha y hy=>?_⟩
     rw [bi] at hy
     subst hy
     obtain ⟨e,h1,h2,-,h4⟩:=(s4.2 a).1 ha
     intro hh
     obtain ⟨j1,hj1⟩:=gw.1 h1
     obtain ⟨j2,hj2⟩:=gw.1 h0
     have:=get_unique hx.k hj1 hj2 (h4.trans hh)
     subst this
     rw [hj1] at hj2
     cases hj2
     exact hns h2
    ·rw [br,bi,s4.2 k]
     constructor
     ·rintro (⟨e,h1,h2,h3,h4⟩ | rfl)
      ·exact ⟨e,h1,c8 _ h2,h3,h4⟩
      ·exact ⟨e0,h0,by simp,c,rfl⟩
     ·rintro ⟨e,h1,h2,h3,h4⟩
      rcases br.1 h2 with h2 | h2
      ·exact .inl ⟨e,h1,h2,h3,h4⟩
      ·rw [bi] at h2
       right
       obtain ⟨j1,hj1⟩:=gw.1 h1
       obtain ⟨j2,hj2⟩:=gw.1 h0
       have e3:j1=j2:=by
        have q1:(K.ix.map (·.2.2))[j1]? = some e.2.2:=by rw [bk,hj1]; rfl
        have q2:(K.ix.map (·.2.2))[j2]? = some e.2.2:=by rw [bk,hj2,h2]; rfl
        exact (List.getElem?_inj (ah q1) hx.t).1 (q1.trans q2.symm)
       subst e3
       rw [hj1] at hj2
       cases hj2
       exact h4.symm
   have fin:∀ w',lo≤w'→LoopN H1 lo it cb i b I.m K.clock K.ix (K.ix.filter fun e=>!seen.contains e.2.2).length ⟨[(1,.val (.int .i64 i)),(2,.val (.ptr (some (cb,0)))),(5,.val x2),(15,.val (.ptr (some (it,0))))],⟨P2,b,w'⟩⟩:=fun w' hw' =>
    ⟨_,hlt,seen++[e0.2.2],A++[e0.1],P2,x2,w',rfl,fun k o hk=>f2 _ _ (hpre1 _ _ hk) fun hh=>by have:=ah hk; omega,f2 _ _ g2 (fun hh cs e=>by cases e),f1,hsel,by omega,hw',rfl⟩
   have fin:=fun w' (hw':lo≤w')=>fin (n2 w') (by have:=(f4 w').2; omega)
   have hPl:P1.length≠it:=by omega
   have hci:((e0.2.1.sec:Int)=(i:Int)):=by omega
   unfold keyC at f5
   unfold PlU.val at hen
   refine Wp_x rfl ?_
   simp (disch:=omega) []
   refine Wp_x rfl ?_
   have f5':∀ w,aAppend 1 16 ⟨P1++[.cells 1 [.str e0.1]],b,w⟩ x (.slice (some (P.length,0)) 1 (some 1))=some (x2,⟨P2,b,n2 w⟩):=fun w=>by rw [← hP1l]; exact f5 w
   have hset:P.set it (.mapIter (some I.m) K.clock (seen++[e0.2.2]) K.clock)=P1:=rfl
   have hv:(entV e0).2.1 = .agg [.int .i64 e0.2.1.sec,.int .i64 e0.2.1.at_,.str e0.2.1.blob]:=rfl
   have hv1:(entV e0).1 = .str e0.1:=rfl
   have hv2:(entV e0).2.2=e0.2.2:=rfl
   rw [hv2,hset]
   generalize P1=P1 at *
   simp (disch:=omega) [-evExt,-aAppend,hen,f5',hci,hP1l]
   have:=fin (min w1 it) (by omega)
   unfold LoopN at this
   simpa using this
  ·have hsel:Sel K.ix i A (seen++[e0.2.2]):=by
    refine ⟨s4.1,fun k=>?_⟩
    rw [s4.2 k]
    constructor
    ·rintro ⟨e,h1,h2,h3,h4⟩
     exact ⟨e,h1,c8 _ h2,h3,h4⟩
    ·rintro ⟨e,h1,h2,h3,h4⟩
     rcases br.1 h2 with h2 | h2
     ·exact ⟨e,h1,h2,h3,h4⟩
     ·rw [bi] at h2
      exfalso
      obtain ⟨j1,hj1⟩:=gw.1 h1
      obtain ⟨j2,hj2⟩:=gw.1 h0
      have e3:j1=j2:=by
       have q1:(K.ix.map (·.2.2))[j1]? = some e.2.2:=by rw [bk,hj1]; rfl
       have q2:(K.ix.map (·.2.2))[j2]? = some e.2.2:=by rw [bk,hj2,h2]; rfl
       exact (List.getElem?_inj (ah q1) hx.t).1 (q1.trans q2.symm)
      subst e3
      rw [hj1] at hj2
      cases hj2
      exact c h3
   have fin:LoopN H1 lo it cb i b I.m K.clock K.ix (K.ix.filter fun e=>!seen.contains e.2.2).length ⟨[(1,.val (.int .i64 i)),(2,.val (.ptr (some (cb,0)))),(5,.val x),(15,.val (.ptr (some (it,0))))],⟨P1,b,min w1 it⟩⟩ :=
    ⟨_,hlt,seen++[e0.2.2],A,P1,x,min w1 it,rfl,hpre1,g2,fr1,hsel,by omega,by omega,rfl⟩
   have hci:¬ ((e0.2.1.sec:Int)=(i:Int)):=by omega
   unfold PlU.val at hen
   refine Wp_x rfl ?_
   simp (disch:=omega) []
   refine Wp_x rfl ?_
   have hset:P.set it (.mapIter (some I.m) K.clock (seen++[e0.2.2]) K.clock)=P1:=rfl
   have hv:(entV e0).2.1 = .agg [.int .i64 e0.2.1.sec,.int .i64 e0.2.1.at_,.str e0.2.1.blob]:=rfl
   have hv1:(entV e0).1 = .str e0.1:=rfl
   have hv2:(entV e0).2.2=e0.2.2:=rfl
   rw [hv2,hset]
   generalize P1=P1 at *
   simp (disch:=omega) [-evExt,-aAppend,hen,hci,hP1l]
   unfold LoopN at fin
   simpa using fin
end
end
end Go.Abs.AbsBlo

namespace Go.Abs.AbsBlb
open Go.Abs.Short
def plK (ix:List Ent) (k:Bs):PlU:=match findK k ix with
 | some x=>x.2
 | none=>⟨0,0,[]⟩
def recK (ix:List Ent) (k:Bs):RecU:=⟨1,0,k,(plK ix k).blob,0⟩
section
variable {H:List AObj} {b w:Nat} {I:SI} {F:Fl} {K:StU}
theorem ext_pl (h:H[I.m]? = some K.map) (k:Bs):evExt (.lookup (.one .s) (.agg [.int .i64 0,.int .i64 0,.str []]) false) [.map (some I.m),.str k] ⟨H,b,w⟩=some (.agg [.int .i64 (plK K.ix k).sec,.int .i64 (plK K.ix k).at_,.str (plK K.ix k).blob],⟨H,b,w⟩):=by
 have g2:H[I.m]? = some (.map (K.ix.map entV) K.clock):=h
 have hf:=findK_eq k K.ix
 have hi:isKey (.one .s) (.str k)=true:=rfl
 unfold evExt plK
 simp only [hi,if_true,entriesOf,Heap.get,g2,hf]
 cases findK k K.ix <;> rfl
theorem s627 (h:StA H I F K) {cb:Nat} (hc:H[cb]? = some (.cells 1 [.ptr (some (I.s,0))])) (x y:Bs):xCall T 627 [.str x,.str y,.ptr (some (cb,0))] ⟨H,b,w⟩=some (.int .i64 (cmpI (plK K.ix x).at_ (plK K.ix y).at_),⟨H,b,w⟩):=by
 have g1:=h.s
 unfold StU.cells at g1
 have he:=fun k w=>ext_pl (b:=b) (w:=w) h.m k
 have h638:=fun x y h=>s638 (x:=x) (y:=y) (h:=h)
 generalize hx:plK K.ix x=px at *
 generalize hy:plK K.ix y=py at *
 have hex:=fun w=>he x w
 have hey:=fun w=>he y w
 rw [hx] at hex
 rw [hy] at hey
 simp (disch:=omega) [-getElem?_pos,-getElem?_neg,-List.all_eq_true,qZ,qS,nltT,nltF,iltT,iltF,ileT,nleT,dj,ba t627,code627,-evExt,hc,g1,hex,hey,h638]
end
end Go.Abs.AbsBlb
namespace Go.Abs.AbsBlo
open Go.Abs.AbsBlb hiding T
open Go.Abs.Short
section
variable {H:List AObj} {b w:Nat} {I:SI} {F:Fl} {K:StU}
section
attribute [-simp] getElem?_pos getElem?_neg List.all_eq_true
attribute [local simp] qZ qS nltT nltF iltT iltF ileT nleT dj
theorem l617 {H0:List AObj} {N q cb:Nat} {L:List Bs} (h:StA H0 I F K) (hN:I.hi < N∧I.fi.fl < N) (hNl:N≤H0.length) (hb:b≤N) (hcb:H0[cb]? = some (.cells 1 [.ptr (some (I.s,0))])) (hq:H0[q]? = some (strsO L)) (hLn:L.length≤1000) (hbl:∀ k ∈ L,(plK K.ix k).blob.length≤1000000):∀ (j i w:Nat) (P:List AObj) (A:List RV) (x:AVal),i+j=L.length→A.length=i→(∀ (k:Nat) (o:AObj),H0[k]? = some o→(N≤k→∀ cs,o ≠ .cells 5 cs)→P[k]? = some o)→H0.length≤P.length→FRow N 5 RV.cells A P x→(∀ p ∈ A,p.new N P)→N≤w →
  ∃ (P':List AObj) (A':List RV) (x':AVal) (w':Nat),(∀ (k:Nat) (o:AObj),H0[k]? = some o→(N≤k→∀ cs,o ≠ .cells 5 cs)→P'[k]? = some o)∧FRow N 5 RV.cells (A++A') P' x'∧A'.map Prod.fst=(L.drop i).map (recK K.ix)∧(∀ p ∈ A++A',p.new N P')∧N≤w'∧∀ {β:Type} (k:AExit→St→Option β),
  xK T (.loop code617L0) ⟨[(2,.val (.ptr (some (cb,0)))),(8,.val x),(32,.val (.slice (some (q,0)) L.length none)),(33,.val (.int .i64 L.length)),(34,.val (.int .i64 i))],⟨P,b,w⟩⟩ (k:=⟨k⟩) =
   k (.exit 2) ⟨[(8,.val x')],⟨P',b,w'⟩⟩
 | 0,i,w,P,A,x,hi,hA,hp,hpl,hx,hn,hw=>by
  have hd:L.drop i=[]:=dx (by omega)
  refine ⟨P,[],x,w,hp,by rw [fg]; exact hx,by rw [hd]; rfl,by rw [fg]; exact hn,hw,fun k=>?_⟩
  rw [b9]
  simp (disch:=omega) [code617L0]
 | j+1,i,w,P,A,x,hi,hA,hp,hpl,hx,hn,hw=>by
  obtain ⟨c,hc⟩:∃ c,L[i]? = some c:=⟨_,aj (by omega)⟩
  have hd1:=ip hc
  have hcm:=bn hc
  have hPq:=hp _ _ hq fun _ cs e=>by simp [strsO] at e
  have hPc:=hp _ _ hcb fun _ cs e=>by simp at e
  have hI:I.s≤I.hi∧I.m≤I.hi:=by unfold SI.hi; omega
  have hPs:=hp _ _ h.s fun hh=>by omega
  have hPm:=hp _ _ h.m fun hh=>by omega
  have he:=fun w X=>ext_pl (b:=b) (w:=w) (H:=P++X) (I:=I) (K:=K) (by rw [ag (ah hPm)]; exact hPm) c
  have he0:=fun w=>ext_pl (b:=b) (w:=w) (H:=P) (I:=I) (K:=K) hPm c
  have hbc:=hbl c hcm
  have hg:(L.map AVal.str)[i]? = some (.str c):=by rw [bk,hc]; rfl
  have hml:(L.map AVal.str).length=L.length:=bj _
  let v:AVal:=.slice (some (P.length,0)) (plK K.ix c).blob.length none
  have hg0:(P++[AObj.cells 1 ((plK K.ix c).blob.map u8V)])[P.length]? = some (.cells 1 ((plK K.ix c).blob.map u8V)):=fp _ _
  have hvn:RV.new N (P++[AObj.cells 1 ((plK K.ix c).blob.map u8V)]) (recK K.ix c,v):=by
   refine ⟨⟨some (P.length,0),none,rfl,fun p o e=>?_,.inr ⟨P.length,0,rfl,SlB.whole hg0 rfl,ai _⟩⟩,fun q o n k e=>?_⟩
   ·simp only [dk,ji] at e
    rw [← e.1]; exact ah hg0
   ·have e:AVal.slice (some (P.length,0)) (plK K.ix c).blob.length none = .slice (some (q,o)) n k:=e
    simp only [AVal.slice.injEq,dk,ji] at e
    rw [← e.1.1]
    exact ⟨by omega,_,hg0⟩
  have fr1:=hx.monoE (P':=P++[AObj.cells 1 ((plK K.ix c).blob.map u8V)]) fun k cs _ ho=>by rw [ag (ah ho)]; exact ho
  obtain ⟨P4,x4,n4,f1,f2,f3,f4,f5⟩:=fr1.add' (b:=b) (by':=64) (fun _=>rfl) (by rw [ap]; omega) hb (by omega) (by omega) (recK K.ix c,v)
  have up:∀ (k:Nat) (o:AObj),P[k]? = some o→(N≤k→∀ cs,o ≠ .cells 5 cs)→P4[k]? = some o:=fun k o ho hh=>f2 k o (by rw [ag (ah ho)]; exact ho) hh
  have hnew:∀ p ∈ A++[(recK K.ix c,v)],RV.new N P4 p:=fun p hp4=>by
   rcases br.1 hp4 with h4 | h4
   ·exact (hn p h4).mono (by rw [ap] at f3; omega) fun k X hk ho=>up _ _ ho fun _ cs e=>by simp at e
   ·rw [bi.1 h4]
    exact hvn.mono f3 fun k X hk ho=>f2 _ _ ho fun _ cs e=>by simp at e
  obtain ⟨P',A',x',w',i1,i3,i4,i5,i6,i7⟩:=l617 h hN hNl hb hcb hq hLn hbl j (i+1) (n4 w) P4 _ x4 (by omega) (by rw [ap]; simp; omega) (fun k o ho hh=>up k o (hp k o ho hh) hh) (by rw [ap] at f3; omega) f1 hnew (by have:=(f4 w).2; omega)
  refine ⟨P',(recK K.ix c,v) :: A',x',w',i1,by rw [aw] at i3; exact i3,by rw [hd1,bc,bc,i4],fun p hp5=>i5 p (by rw [aw]; exact hp5),i6,fun k=>?_⟩
  have ih:=i7 k
  have e2:((i+1:Nat):Int)=(i:Int)+1:=by omega
  rw [e2] at ih
  rw [b9,← ih]
  have hm:(plK K.ix c).blob.map (fun b:UInt8=>AVal.int .u8 b.toNat)=(plK K.ix c).blob.map u8V:=rfl
  have hvd:v = .slice (some (P.length,0)) (plK K.ix c).blob.length none:=rfl
  rw [hvd] at f5
  unfold RV.cells recK RecU.cells at f5
  simp only [aw,ff,eh,ap,bv,dw,c6,a9] at f5
  unfold StU.cells at hPs
  unfold strsO at hPq
  generalize (plK K.ix c).blob.map u8V=Y at *
  generalize hpl:plK K.ix c=pl at *
  generalize L.map AVal.str=Z at *
  generalize ACode.loop code617L0=LL
  simp (disch:=omega) [code617L0,-aAppend,-evExt,hPq,hPc,hPs,he0,hg,hml,f5,hm,hbc]
end
end
end Go.Abs.AbsBlo

namespace Go.Abs.AbsBlo
open Go.Abs.AbsBlb hiding T
open Go.Abs.Short
def LiveOK (ix:List Ent) (i:Nat) (l:List RecU):Prop:=∃ ks:List Bs,l=ks.map (recK ix)∧ks.Nodup∧∀ k,k ∈ ks ↔ ∃ e ∈ ix,e.2.1.sec=i∧e.1=k
section
variable {E:Env} {kl:List Bs} {H:List AObj} {b:Nat} {I:SI} {F:Fl} {K:StU}
theorem so_few (h:SO kl H I F K):K.ix.length≤kl.length:=by
 have:=nodup_len (l':=kl) h.v.ix.k fun k hk=>by
  obtain ⟨e,he,rfl⟩:=cg.1 hk
  exact (h.v.en e he).2.2.1
 rwa [bj] at this
theorem so_pl (h:SO kl H I F K) (k:Bs):(plK K.ix k).blob.length≤4096:=by
 unfold plK
 split
 ·rename_i x hx
  obtain ⟨e,h1,h2,h3⟩:=findK_some hx
  rw [← h3]
  exact (h.v.en e (bn h1)).2.2.2
 ·exact eo _
theorem body617:code617.body = .seq (R [1,2] [o 2 (.box (t 0)),o 4 (.val (.const (.slice none 0 (some 0))))])
 (.seq (R [1,2,5] [o 5 (.val (.const (.slice none 0 (some 0))))])
 (.seq (.seq (R [1,2,5,15] [o 11 (.load none (t 2)),o 12 (.nilcheck (t 11)),o 13 (.faddr (t 12) 5),o 14 (.load none (t 13)),o 15 (.ext .mkiter [t 14])])
 (.after (.block 0 (.loop code617L1)) [2,5]))
 (.seq (R [2,5] [v 29 5,o 30 (.mkfunc 627 [] [t 2]),o 31 (.callg 628 [t 29,t 30])])
 (.seq (R [2,5,8] [o 8 (.val (.const (.slice none 0 (some 0))))])
 (.seq (.seq (R [2,8,32,33,34] [v 32 5,o 33 (.len .sl (t 32)),o 34 (.val (n 0))])
 (.after (.block 2 (.loop code617L0)) [8]))
 (.seq (R [4] [v 52 8,v 4 52])
 (.live [4] (.ret)))))))):=rfl
section
attribute [-simp] getElem?_pos getElem?_neg List.all_eq_true
attribute [local simp] qZ qS nltT nltF iltT iltF ileT nleT dj
theorem c617 (hT:Agrees E T) (hm:E.P.follows .mixedOrders=true) (hF:IsCode E 617 code617) (h:SO kl H I F K) (hkl:kl.length≤12) {i:Nat} (hi:i < F.n) (hb:b≤H.length) (w:Nat) :
  CallD E 617 [.ptr (some (I.s,0)),.int .i64 i] ⟨H,b,w⟩ fun v h'=>∃ H' A,h'=⟨H',b,w⟩∧Pre H H'∧FRow H.length 5 RV.cells A H' v∧(∀ p ∈ A,p.new H.length H')∧LiveOK K.ix i (A.map Prod.fst):=by
 have hfew:=so_few h
 have hnb:=h.a.fl.nb.1
 have hIhi:=h.a.hi
 have hIfl:=ah h.a.fl.f
 have g1:=h.a.s
 have gm:H[I.m]? = some (.map (K.ix.map entV) K.clock):=h.a.m
 unfold StU.cells at g1
 refine CallD.of_code hF rfl ?_
 rw [body617]
 have hen:enter 0 [AVal.ptr (some (I.s,0)),.int .i64 i]=[(0,.val (.ptr (some (I.s,0)))),(1,.val (.int .i64 i))]:=rfl
 have hsz:(⟨H,b,w⟩:Heap).size=H.length:=rfl
 rw [hen]
 simp only [hsz]
 refine CodeD.seq nofun (CodeD.run (e:=.normal) (st':=⟨[(1,.val (.int .i64 i)),(2,.val (.ptr (some (H.length,0))))],⟨H++[.cells 1 [.ptr (some (I.s,0))]],b,H.length⟩⟩) hT hm (fun k'=>by simp (disch:=omega) []) ?_)
 refine CodeD.seq nofun (CodeD.run (e:=.normal) (st':=⟨[(1,.val (.int .i64 i)),(2,.val (.ptr (some (H.length,0)))),(5,.val (.slice none 0 (some 0)))],⟨H++[.cells 1 [.ptr (some (I.s,0))]],b,H.length⟩⟩) hT hm (fun k'=>by simp (disch:=omega) []) ?_)
 refine CodeD.seq nofun ?_
 refine CodeD.seq nofun (CodeD.run (e:=.normal) (st':=⟨[(1,.val (.int .i64 i)),(2,.val (.ptr (some (H.length,0)))),(5,.val (.slice none 0 (some 0))),(15,.val (.ptr (some (H.length+1,0))))],⟨(H++[.cells 1 [.ptr (some (I.s,0))]])++[.mapIter (some I.m) K.clock [] K.clock],b,H.length⟩⟩) hT hm (fun k'=>by
  have gm2:∀ X,(H++X)[I.m]? = some (.map (K.ix.map entV) K.clock):=fun X=>by rw [ag (ah gm)]; exact gm
  have gs2:=fun X=>(ag (l₂:=X) (ah g1)).trans g1
  generalize K.ix.map entV=es at *
  simp (disch:=omega) [g1,gs2,gm2,evExt]) ?_)
 have hl1:(H++[AObj.cells 1 [.ptr (some (I.s,0))]]).length=H.length+1:=by simp
 have hm1:(H++[AObj.cells 1 [.ptr (some (I.s,0))]])[I.m]? = some K.map:=by rw [ag (ah h.a.m)]; exact h.a.m
 have hl2:=fun {w0:Nat} (hw:H.length≤w0)=>live_loop (lo:=H.length) (cb:=H.length) (it:=H.length+1) (b:=b) hm1 h.v.ix (by omega) (fun e he=>by have:=(h.v.en e he).1; omega) hl1.symm (by omega) (i:=i) (by omega) (by omega) hw
 refine CodeD.after (CodeD.block ((CodeD.of_wp hT hm (hl2 (ai _))).mono fun e st hq _=>?_))
 obtain ⟨rfl,A,P,x,w',p1,p2,p3,p4,p5,p6,rfl⟩:=hq
 simp only [blkE_e,if_true]
 have hk1:keepK [2,5] [(2,Slot.val (AVal.ptr (some (H.length,0)))),(5,Slot.val x)]=[(2,.val (.ptr (some (H.length,0)))),(5,.val x)]:=by simp
 rw [hk1]
 have hpre:Pre H P:=fun k o hk=>p1 _ _ (by rw [ag (ah hk)]; exact hk)
 have hsP:StA P I F K:=h.a.low (N:=H.length) ⟨hIhi,hIfl⟩ fun k o hk ho=>hpre k o ho
 have hcb:P[H.length]? = some (.cells 1 [.ptr (some (I.s,0))]):=p1 _ _ (fp _ _)
 have hAl:A.length≤K.ix.length:=by
  have:=nodup_len (l':=K.ix.map (·.1)) p3 fun k hk=>by
   obtain ⟨e,h1,-,h4⟩:=(p4 k).1 hk
   exact cg.2 ⟨e,h1,h4⟩
  rwa [bj] at this
 rcases p2 with ⟨rfl,rfl⟩ | ⟨hne,q,hq,rfl,hrow⟩
 ·have h628:=fun w=>dc sub (s628z (H:=P) (a:=none) (c:=some 0) (g:=627) (am:=[]) (cm:=[.ptr (some (H.length,0))]) (b:=b) (w:=w))
  refine CodeD.run (e:=.ret) (st':=⟨[(4,.val (.slice none 0 (some 0)))],⟨P,b,w'⟩⟩) hT hm (fun k'=>by simp (disch:=omega) [h628,b9,code617L0]) ?_
  refine ⟨_,_,?_,H,[],rfl,fun _ _ h=>h,.inl ⟨rfl,rfl⟩,(fun p hp=>by cases hp),[],rfl,by simp,fun k=>p4 k⟩
  have hw:¬ w' < H.length:=by omega
  simp [funcEnd,code617,resultsL,tupled,finish,AVal.under,Heap.size,hw]
 ·have hrow':P[q]? = some (strsO A):=by unfold strsO; rw [← keyC_flat]; exact hrow
  have hql:=ah hrow'
  have hset:∀ L k o,k≠q→P[k]? = some o→(P.set q (strsO L))[k]? = some o:=fun L k o hk ho=>by rw [aq (fun e=>hk e.symm)]; exact ho
  have hsq:∀ L,StA (P.set q (strsO L)) I F K:=fun L=>h.a.low (N:=H.length) ⟨hIhi,hIfl⟩ fun k o hk ho=>hset L k o (by omega) (hpre k o ho)
  obtain ⟨L',nx,q1,q2,q3⟩:=s628 (g:=627) (am:=[]) (cm:=[.ptr (some (H.length,0))]) (f:=fun x y=>cmpI (plK K.ix x).at_ (plK K.ix y).at_) (c:=none) (b:=b) (by omega) hql (L:=A) (by omega) rfl hrow' (fun L x y w=>by
   exact s627 (hsq L) (hset L _ _ (by omega) hcb) x y)
  have h628:=fun w=>dc sub (q3 w)
  have hLl:L'.length=A.length:=q1.length_eq
  have hqL:(P.set q (strsO L'))[q]? = some (strsO L'):=db hql
  obtain ⟨P',B,x',w2,i1,i2,i3,i4,i5,i6⟩:=l617 (b:=b) (hsq L') (N:=H.length) (q:=q) (cb:=H.length) (L:=L') ⟨hIhi,hIfl⟩ (by rw [av]; omega) hb (hset L' _ _ (by omega) hcb) hqL (by omega) (fun k _=>by have:=so_pl h k; omega) L'.length 0 (nx w') (P.set q (strsO L')) [] (.slice none 0 (some 0)) (by omega) rfl (fun k o ho _=>ho) (ai _) (.inl ⟨rfl,rfl⟩) (fun p hp=>by cases hp) (by have:=(q2 w').1; omega)
  rw [dz] at i3
  rw [eh] at i2 i4
  rw [hLl] at i6
  simp only [a9] at i6
  have hB:B≠[]:=fun e=>by
   rw [e] at i3
   have:=congrArg List.length i3
   rw [bj,bj,hLl] at this
   exact hne (bo this.symm)
  have hpre':Pre H P':=fun k o hk=>i1 k o (hset L' k o (by have:=ah hk; omega) (hpre k o hk)) fun hh=>by have:=ah hk; omega
  obtain ⟨H',B',x2,j1,j2,j3,j4,j5⟩:=rows_fin (b:=b) (fun y=>y) (fun _=>rfl) (fun _ _=>rfl) (fun n p o k c=>by simp [AVal.under]) hB i2 i4 hpre' i5
  refine CodeD.run (e:=.ret) (st':=⟨[(4,.val x')],⟨P',b,w2⟩⟩) hT hm (fun k'=>by
   have i6:=fun (k:AExit→St→Option Unit)=>i6 k
   simp (disch:=omega) [h628,i6]) ?_
  refine ⟨x2,⟨H',b,w⟩,?_,H',B',rfl,j1,j2,j4,L',by rw [j3,i3],q1.nodup_iff.2 p3,fun k=>(q1.mem_iff).trans (p4 k)⟩
  have:=j5 w
  simp only [funcEnd,code617,resultsL,result1,sgetH,sget]
  simp [-finish,tupled,this]
end
end
end Go.Abs.AbsBlo

namespace Go.Abs.AbsBlo
open Go.Abs.AbsBlb hiding T
open Go.Abs.Short
def d599:ACode:=.seq (.after (.region [⟨true,[0,0,0,6],[o 57 (.load none (t 1)),o 58 (.load none (t 1)),v 59 3,o 60 (.callg 100594 [t 58,t 59])]⟩,⟨false,[],[o 61 (.callg 578 [t 57,t 60]),u (.store 1 (t 2) (t 61))]⟩]) [2])
 (.live [2] (.ret))
def c599:ACode:=.seq (.seq (R [1,2,3,47] [v 46 5,o 47 (.callg 616 [t 46,n 16])])
 (.after (.block 0 (.after (.rangeFunc (t 47) 615 [1,2] [48] rcode615a rcode615b) [1,2,3])) [1,2,3]))
 d599
def b599:ACode:=.seq (.seq (.after (.region [⟨false,[],[v 31 5,o 32 (.len .sl (t 31)),o 33 (.bin .gtr (t 32) (n 0)),v 34 33]⟩,⟨true,[],[g 35 34 true (.load none (t 1)),g 36 34 true (.val (t 5)),g 37 34 true (.callg 579 [t 36])]⟩,⟨false,[],[g 38 34 true (.callg 597 [t 35,t 37]),g 39 34 true (.un .not (t 38)),o 40 (.pick (t 34) (t 39) F)]⟩]) [1,2,3,5,40])
 (.after (.cond (t 40) (.seq (R [1,2,3,5,6] [o 41 (.load none (t 1)),o 42 (.callg 598 [t 41]),v 6 42])
 (.seq (R [1,2,3,5,6,44] [v 43 6,o 44 (.bin .neq (t 43) (n 0))])
 (.after (.cond (t 44) (.seq (R [2] [v 45 6,u (.store 1 (t 2) (t 45))])
 (.live [2] (.ret))) (.skip)) [1,2,3,5]))) (.skip)) [1,2,3,5]))
 c599
theorem body599:code599.body = .seq (R [1,2] [o 1 (.box (t 0)),o 2 (.alloc 1 [.int .i64 0])])
 (.seq (R [1,2,3,4] [o 10 (.load none (t 1)),o 11 (.nilcheck (t 10)),o 12 (.faddr (t 11) 4),o 13 (.load none (t 12)),o 14 (.callg 5 [t 13]),v 9 14,o 15 (.extract (t 9) 0),o 16 (.extract (t 9) 1),v 3 15,v 4 16])
 (.seq (.seq (R [1,2,3,18] [v 17 4,o 18 (.un .not (t 17))])
 (.after (.cond (t 18) (.seq (R [2] [u (.store 1 (t 2) (n 10))])
 (.live [2] (.ret))) (.skip)) [1,2,3]))
 (.seq (.seq (R [1,2,3,24] [v 19 3,o 20 (.load none (t 1)),o 21 (.nilcheck (t 20)),o 22 (.faddr (t 21) 6),o 23 (.load none (t 22)),o 24 (.bin .eql (t 19) (t 23))])
 (.after (.cond (t 24) (R [1,2,3] [o 25 (.load none (t 1)),o 26 (.nilcheck (t 25)),o 27 (.faddr (t 26) 6),u (.store 1 (t 27) (.const (.int .i64 (-1))))]) (.skip)) [1,2,3]))
 (.seq (R [1,2,3,5] [o 28 (.load none (t 1)),v 29 3,o 30 (.callg 617 [t 28,t 29]),v 5 30])
 b599)))):=rfl
theorem perm_sum {l l':List Nat} (h:l.Perm l'):l.sum=l'.sum:=by
 induction h with
 | nil=>rfl
 | cons x _ ih=>rw [dt,dt,ih]
 | swap x y l=>rw [dt,dt,dt,dt]; omega
 | trans _ _ h1 h2=>exact h1.trans h2
theorem plK_eq {ix:List Ent} {e:Ent} (h:(ix.map (·.1)).Nodup) (he:e ∈ ix):plK ix e.1=e.2.1:=by
 unfold plK
 obtain ⟨j,hj⟩:=gw.1 he
 cases hf:findK e.1 ix with
 | none=>exact absurd rfl (findK_none hf e he)
 | some x =>
  obtain ⟨e',h1,h2,h3⟩:=findK_some hf
  have:=get_unique h h1 hj h2
  rw [this,hj] at h1
  cases h1
  exact h3.symm
theorem live_size {ix:List Ent} {clock i:Nat} {l:List RecU} (h:IxOK ix clock) (hl:LiveOK ix i l):sizes l=secSum i ix:=by
 obtain ⟨ks,rfl,h1,h2⟩:=hl
 have hp:ks.Perm ((ix.filter fun e=>decide (e.2.1.sec=i)).map (·.1)):=by
  refine (List.perm_ext_iff_of_nodup h1 ((List.filter_sublist.map _).nodup h.k)).2 fun k=>?_
  rw [h2 k,cg]
  constructor
  ·rintro ⟨e,h3,h4,h5⟩; exact ⟨e,eu.2 ⟨h3,by simpa using h4⟩,h5⟩
  ·rintro ⟨e,h3,h5⟩
   obtain ⟨h3,h4⟩:=eu.1 h3
   exact ⟨e,h3,by simpa using h4,h5⟩
 unfold sizes
 rw [List.map_map,perm_sum (hp.map _),List.map_map]
 have:∀ l:List Ent,(∀ e ∈ l,e ∈ ix)→((l.filter fun e=>decide (e.2.1.sec=i)).map ((RecU.size ∘ recK ix) ∘ (·.1))).sum=secSum i l:=by
  intro l
  induction l with
  | nil=>intro _; rfl
  | cons a l ih =>
   intro hl
   have ih:=ih fun e he=>hl e (bd _ he)
   have ha:(recK ix a.1).size=Ent.size a:=by
    unfold recK RecU.size Ent.size
    rw [plK_eq h.k (hl a (a7 ..))]
   unfold secSum at ih ⊢
   rw [bc,dt,← ih]
   by_cases c:a.2.1.sec=i
   ·rw [List.filter_cons_of_pos (by simpa using c),bc,dt,if_pos c]
    show (recK ix a.1).size+_=_
    rw [ha]
   ·rw [List.filter_cons_of_neg (by simpa using c),if_neg c,c6]
 exact this ix fun _ h=>h
theorem so_app {kl:List Bs} {H:List AObj} {I:SI} {F:Fl} {K:StU} (h:SO kl H I F K) (X:List AObj):AbsBlb.SO kl (H++X) I F K:=⟨h.a.app X,h.v⟩
section
variable {P:List AObj} {b w:Nat}
section
attribute [-simp] getElem?_pos getElem?_neg List.all_eq_true
attribute [local simp] qZ qS nltT nltF iltT iltF ileT nleT dj
theorem s616 {a:Option (Nat × Nat)} {n:Nat} {c:Option Nat} (ha:∀ p o,a=some (p,o)→p < P.length):xCall T 616 [.slice a n c,.int .i64 16] ⟨P,b,w⟩=some (.func 629 [] [.ptr (some (P.length,0)),.ptr (some (P.length+1,0))],⟨P++[.cells 1 [.slice a n c],.cells 1 [.int .i64 16]],b,w⟩):=by
 cases a with
 | none=>simp (disch:=omega) [ba (sub _ _ AbsBlb.t616),code616,jk,jl,idsC']
 | some p =>
  obtain ⟨p,o⟩:=p
  have:=ha p o rfl
  simp (disch:=omega) [ba (sub _ _ AbsBlb.t616),code616,jk,jl,idsC',this]
end
end
end Go.Abs.AbsBlo

namespace Go.Abs.AbsBlo
open Go.Abs.AbsBlb hiding T
open Go.Abs.Short
section
variable {P P2:List AObj} {b w:Nat}
section
attribute [-simp] getElem?_pos getElem?_neg List.all_eq_true
attribute [local simp] qZ qS nltT nltF iltT iltF ileT nleT dj
theorem s629z {c0 c1 lo:Nat} {a:Option (Nat × Nat)} {c:Option Nat} (h0:P[c0]? = some (.cells 1 [.slice a 0 c])) (h1:P[c1]? = some (.cells 1 [.int .i64 16])):xCall T 629 [.yield lo,.ptr (some (c0,0)),.ptr (some (c1,0))] ⟨P,b,w⟩=some (.tuple [],⟨P,b,w⟩):=by
 simp (disch:=omega) [ba (sub _ _ AbsBlb.t629),code629,b9,code629L0,h0,h1]
theorem s629 {c0 c1 lo q n W:Nat} {c:Option Nat} {C:List AVal} {st:LoopSt} {p:Option AExit} {sl:List (Nat × AVal)} (h0:P[c0]? = some (.cells 1 [.slice (some (q,0)) n c])) (h1:P[c1]? = some (.cells 1 [.int .i64 16])) (hlo:P[lo]? = some (.loop 615 st p sl)) (hq:P[q]? = some (.cells 5 C)) (hC:C.length=n*5) (hn:0 < n∧n≤16) (hc:n≤c.getD n)
  (h0':P2[c0]? = some (.cells 1 [.slice (some (q,0)) n c])) (h1':P2[c1]? = some (.cells 1 [.int .i64 16])) (hW:W < P.length) (hr:xCall T 615 [.ptr (some (lo,0)),.slice (some (q,0)) n (some n)] ⟨P,b,P.length⟩=some (.bool true,⟨P2,b,W⟩)) :
  xCall T 629 [.yield lo,.ptr (some (c0,0)),.ptr (some (c1,0))] ⟨P,b,w⟩=some (.tuple [],⟨P2,b,min w W⟩):=by
 obtain ⟨n1,n2⟩:=hn
 have e1:¬ ((n:Int)≤0):=by omega
 have e2:¬ ((16:Int) < n):=by omega
 have e3:¬ n=0:=by omega
 have e4:(if (n:Int) < 16 then (n:Int) else 16)=n:=by split <;> omega
 simp (disch:=omega) [ba (sub _ _ AbsBlb.t629),code629,b9,code629L0,h0,h1,hlo,hq,hC,h0',h1',hr,e1,e2,e3,e4,hc,hW,eszIs,n1,n2]
end
end
section
variable {kl:List Bs} {P:List AObj} {b w:Nat} {I:SI} {F:Fl} {K:StU}
theorem so_set (h:SO kl P I F K) {lo:Nat} (hI:I.hi < lo) (hf:I.fi.fl≠lo) (o:AObj):SO kl (P.set lo o) I F K:=by
 have i1:I.s≤I.hi∧I.sa≤I.hi∧I.m≤I.hi∧I.fi.fb≤I.hi∧I.fi.fw≤I.hi:=by unfold SI.hi; omega
 have up:∀ k o',k≠lo→P[k]? = some o'→(P.set lo o)[k]? = some o':=fun k o' hk ho=>by rw [aq (fun e=>hk e.symm)]; exact ho
 exact ⟨⟨h.a.fl.keep fun i o ho hi=>up i o (by rcases hi with rfl | rfl | rfl; exact hf; omega; omega) ho,up _ _ (by omega) h.a.s,up _ _ (by omega) h.a.r,up _ _ (by omega) h.a.m,h.a.ln,h.a.hd,h.a.ab,h.a.sb,h.a.tb⟩,h.v⟩
section
attribute [-simp] getElem?_pos getElem?_neg List.all_eq_true
attribute [local simp] qZ qS nltT nltF iltT iltF ileT nleT dj
theorem r615 (h:SO kl P I F K) (hb:I.lo b) (hbN:b≤P.length) {cb rc lo q hd:Nat} {A:List RV} (hlo:P[lo]? = some (.loop 615 .ready none [(1,.ptr (some (cb,0))),(2,.ptr (some (rc,0)))])) (hIlo:I.hi < lo) (hcb:P[cb]? = some (.cells 1 [.ptr (some (I.s,0))]))
  (hq:P[q]? = some (.cells 5 (A.flatMap RV.cells))) (hne:A≠[]) (hLn:A.length≤16) (hkl:∀ k ∈ kl,1≤k.length∧k.length≤64)
  (hL:∀ p ∈ A,BlobS I P p.2 p.1.blob∧p.1.key ∈ kl∧p.1.count=0∧(p.1.kind=1∧p.1.blob.length≤4096∨p.1.kind=2∧p.1.blob=[])) (hh:K.head=hd) (hfit:K.at_+sizes (A.map Prod.fst)+16≤F.z) :
  ∃ P' F' K' W,StF I P P'∧SO kl P' I F' K'∧FlE F F'∧K'.head=hd∧(∀ e ∈ K'.ix,(e ∈ K.ix∧e.1 ∉ A.map fun p=>p.1.key)∨((e.1 ∈ A.map fun p=>p.1.key)∧e.2.1.sec=hd))∧(W≤I.hi∧b≤W)∧P'[lo]? = some (.loop 615 .ready none [(1,.ptr (some (cb,0))),(2,.ptr (some (rc,0)))]) ∧
   xCall T 615 [.ptr (some (lo,0)),.slice (some (q,0)) A.length (some A.length)] ⟨P,b,P.length⟩=some (.bool true,⟨P',b,W⟩):=by
 have hhi:=h.a.hi
 have hI:I.s≤I.hi∧I.sa≤I.hi∧I.m≤I.hi∧I.fi.fb≤I.hi∧I.fi.fw≤I.hi:=by unfold SI.hi; omega
 obtain ⟨i1,i2,i3,i4,i5⟩:=hI
 have hlol:=ah hlo
 have hfl:I.fi.fl≠lo:=fun e=>by have:=h.a.fl.f; rw [e,hlo] at this; cases this
 let P1:=P.set lo (.loop 615 .busy none [(1,.ptr (some (cb,0))),(2,.ptr (some (rc,0)))])
 have up:∀ k o,k≠lo→P[k]? = some o→P1[k]? = some o:=fun k o hk ho=>by show (P.set _ _)[k]? = _; rw [aq (fun e=>hk e.symm)]; exact ho
 have hP1l:P1.length=P.length:=av
 have hA1:StA P1 I F K:=⟨h.a.fl.keep fun i o ho hi=>up i o (by rcases hi with rfl | rfl | rfl; exact hfl; omega; omega) ho,up _ _ (by omega) h.a.s,up _ _ (by omega) h.a.r,up _ _ (by omega) h.a.m,h.a.ln,h.a.hd,h.a.ab,h.a.sb,h.a.tb⟩
 have h1:SO kl P1 I F K:=⟨hA1,h.v⟩
 have hq1:P1[q]? = some (.cells 5 (A.flatMap RV.cells)):=up _ _ (fun e=>by rw [e,hlo] at hq; cases hq) hq
 have hcb1:P1[cb]? = some (.cells 1 [.ptr (some (I.s,0))]):=up _ _ (fun e=>by rw [e,hlo] at hcb; cases hcb) hcb
 have hL1:∀ p ∈ A,BlobS I P1 p.2 p.1.blob∧p.1.key ∈ kl∧p.1.count=0∧(p.1.kind=1∧p.1.blob.length≤4096∨p.1.kind=2∧p.1.blob=[]):=fun p hp=>by
  obtain ⟨⟨⟨a,d,e1,e2,e3⟩,e4⟩,e5⟩:=hL p hp
  refine ⟨⟨⟨a,d,e1,fun p o hp=>by rw [hP1l]; exact e2 p o hp,?_⟩,e4⟩,e5⟩
  rcases e3 with e3 | ⟨p',o',e6,e7,e8⟩
  ·exact .inl e3
  ·refine .inr ⟨p',o',e6,e7.mono fun x hx=>?_,e8⟩
   obtain ⟨-,X,hX,-⟩:=e7
   rw [hX] at hx
   cases hx
   exact up _ _ (fun e=>by rw [e,hlo] at hX; cases hX) hX
 obtain ⟨H2,F',K',nx,k1,k2,k3,k4,k5,-,-,k6,k7⟩:=q577 (lc:=some A.length) h1 hb (by rw [hP1l]; exact hbN) (Row.mk0 (fun _=>rfl) hq1) hne hLn hkl hL1 hh hfit
 have h577:=fun w=>dc sub (k7 w)
 have hlo1:P1[lo]? = some (.loop 615 .busy none [(1,.ptr (some (cb,0))),(2,.ptr (some (rc,0)))]):=ij hlo
 have hlo2:=k1.keep _ _ hlo1 (by omega) (by omega) (by omega) (by omega) (by omega)
 have hlen:=k1.len
 have hfin:SO kl (H2.set lo (.loop 615 .ready none [(1,.ptr (some (cb,0))),(2,.ptr (some (rc,0)))])) I F' K':=by
  have up2:∀ k o,k≠lo→H2[k]? = some o→(H2.set lo (.loop 615 .ready none [(1,.ptr (some (cb,0))),(2,.ptr (some (rc,0)))]))[k]? = some o:=fun k o hk ho=>by rw [aq (fun e=>hk e.symm)]; exact ho
  exact ⟨⟨k2.a.fl.keep fun i o ho hi=>up2 i o (by rcases hi with rfl | rfl | rfl; exact hfl; omega; omega) ho,up2 _ _ (by omega) k2.a.s,up2 _ _ (by omega) k2.a.r,up2 _ _ (by omega) k2.a.m,k2.a.ln,k2.a.hd,k2.a.ab,k2.a.sb,k2.a.tb⟩,k2.v⟩
 have hstf:StF I P (H2.set lo (.loop 615 .ready none [(1,.ptr (some (cb,0))),(2,.ptr (some (rc,0)))])):=⟨by rw [av]; omega,fun k o ho g1 g2 g3 g4 g5=>by
  by_cases c:k=lo
  ·subst c
   rw [hlo] at ho
   cases ho
   exact ij hlo2
  ·rw [aq (fun e=>c e.symm)]
   exact k1.keep k o (up k o c ho) g1 g2 g3 g4 g5⟩
 have hnx:=k6 lo
 refine ⟨_,F',K',nx lo,hstf,hfin,k3,k4,k5,by have:=hb.1; omega,ij hlo2,?_⟩
 have hP1:P.set lo (.loop 615 .busy none [(1,.ptr (some (cb,0))),(2,.ptr (some (rc,0)))])=P1:=rfl
 have hbl:b≤lo:=by have:=hb.1; omega
 have hH2l:lo < H2.length:=ah hlo2
 simp (disch:=omega) [xRoundK t615 rfl,round615,rcode615a,rcode615b,roundSlots,roundIn,roundOut,setArgs,ofCaps,hlo,hP1,hcb1,hP1l,h577,hlo2,hbl]
theorem e599 (h:SO kl P I F K) (hb:I.lo b) (hbN:b≤P.length) {cb rc i N hd:Nat} {A:List RV} {x:AVal} (hcb:P[cb]? = some (.cells 1 [.ptr (some (I.s,0))]))
  (hx:FRow N 5 RV.cells A P x) (hLn:A.length≤16) (hkl:∀ k ∈ kl,1≤k.length∧k.length≤64)
  (hL:∀ p ∈ A,BlobS I P p.2 p.1.blob∧p.1.key ∈ kl∧p.1.count=0∧(p.1.kind=1∧p.1.blob.length≤4096∨p.1.kind=2∧p.1.blob=[])) (hh:A≠[]→K.head=hd) (hfit:A≠[]→K.at_+sizes (A.map Prod.fst)+16≤F.z) (w:Nat) :
  ∃ P' F' K' w',StF I P P'∧SO kl P' I F' K'∧FlE F F'∧K'.head=K.head∧(∀ e ∈ K'.ix,(e ∈ K.ix∧e.1 ∉ A.map fun p=>p.1.key)∨((e.1 ∈ A.map fun p=>p.1.key)∧A≠[]∧e.2.1.sec=hd))∧(w'≤w∧min w b≤w')∧(A=[]→K'.ix=K.ix) ∧
   ∀ {β:Type} (k:AExit→St→Option β),xK T (.seq (R [1,2,3,47] [v 46 5,o 47 (.callg 616 [t 46,n 16])])
 (.after (.block 0 (.after (.rangeFunc (t 47) 615 [1,2] [48] rcode615a rcode615b) [1,2,3])) [1,2,3])) ⟨[(1,.val (.ptr (some (cb,0)))),(2,.val (.ptr (some (rc,0)))),(3,.val (.int .i64 i)),(5,.val x)],⟨P,b,w⟩⟩ (k:=⟨k⟩) =
    k .normal ⟨[(1,.val (.ptr (some (cb,0)))),(2,.val (.ptr (some (rc,0)))),(3,.val (.int .i64 i))],⟨P',b,w'⟩⟩:=by
 rcases hx with ⟨rfl,rfl⟩ | ⟨hne,q,hq,rfl,hrow⟩
 ·have h616:=fun w=>s616 (P:=P) (b:=b) (w:=w) (a:=none) (n:=0) (c:=some 0) (fun _ _ e=>by cases e)
  have h629:=fun X w=>s629z (P:=P++(.cells 1 [.slice none 0 (some 0)] :: .cells 1 [.int .i64 16] :: X)) (b:=b) (w:=w) (c0:=P.length) (c1:=P.length+1) (lo:=P.length+2) (a:=none) (c:=some 0) (fp _ _) (iw _ _ 1)
  refine ⟨P++[.cells 1 [.slice none 0 (some 0)],.cells 1 [.int .i64 16],.dead],F,K,min w (P.length+2),StF.refl.app _,so_app h _,.refl _,rfl,fun e he=>.inl ⟨he,by simp⟩,by omega,fun _=>rfl,fun k=>?_⟩
  have hl:P.length+2 < (P++[AObj.cells 1 [.slice none 0 (some 0)],.cells 1 [.int .i64 16],.loop 615 .ready none [(1,.ptr (some (cb,0))),(2,.ptr (some (rc,0)))]]).length:=by simp
  have hg:=iw P [AObj.cells 1 [.slice none 0 (some 0)],.cells 1 [.int .i64 16],.loop 615 .ready none [(1,.ptr (some (cb,0))),(2,.ptr (some (rc,0)))]] 2
  have hs:=set_k P [AObj.cells 1 [.slice none 0 (some 0)],.cells 1 [.int .i64 16],.loop 615 .ready none [(1,.ptr (some (cb,0))),(2,.ptr (some (rc,0)))]] 2 .dead
  simp (disch:=omega) [h616,h629,loopEnd,callVal,capsOf,hg,hs]
 ·have hhi:=h.a.hi
  have hfll:=ah h.a.fl.f
  have hI:I.s≤I.hi∧I.sa≤I.hi∧I.m≤I.hi∧I.fi.fb≤I.hi∧I.fi.fw≤I.hi:=by unfold SI.hi; omega
  have hql:=ah hrow
  have h616:=fun w=>s616 (P:=P) (b:=b) (w:=w) (a:=some (q,0)) (n:=A.length) (c:=none) (fun p o e=>by cases e; exact hql)
  have hX:=StF.refl (I:=I).app (H:=P) [AObj.cells 1 [.slice (some (q,0)) A.length none],.cells 1 [.int .i64 16],.loop 615 .ready none [(1,.ptr (some (cb,0))),(2,.ptr (some (rc,0)))]]
  have hSO:=so_app h [AObj.cells 1 [.slice (some (q,0)) A.length none],.cells 1 [.int .i64 16],.loop 615 .ready none [(1,.ptr (some (cb,0))),(2,.ptr (some (rc,0)))]]
  have hg0:=iw P [AObj.cells 1 [.slice (some (q,0)) A.length none],.cells 1 [.int .i64 16],.loop 615 .ready none [(1,.ptr (some (cb,0))),(2,.ptr (some (rc,0)))]] 0
  have hg1:=iw P [AObj.cells 1 [.slice (some (q,0)) A.length none],.cells 1 [.int .i64 16],.loop 615 .ready none [(1,.ptr (some (cb,0))),(2,.ptr (some (rc,0)))]] 1
  have hg2:=iw P [AObj.cells 1 [.slice (some (q,0)) A.length none],.cells 1 [.int .i64 16],.loop 615 .ready none [(1,.ptr (some (cb,0))),(2,.ptr (some (rc,0)))]] 2
  have hll:(P++[AObj.cells 1 [.slice (some (q,0)) A.length none],.cells 1 [.int .i64 16],.loop 615 .ready none [(1,.ptr (some (cb,0))),(2,.ptr (some (rc,0)))]]).length=P.length+3:=by simp
  have hpush:P++[AObj.cells 1 [.slice (some (q,0)) A.length none],.cells 1 [.int .i64 16],.loop 615 .ready none [(1,.ptr (some (cb,0))),(2,.ptr (some (rc,0)))]]=P++[AObj.cells 1 [.slice (some (q,0)) A.length none],.cells 1 [.int .i64 16],.loop 615 .ready none [(1,.ptr (some (cb,0))),(2,.ptr (some (rc,0)))]]:=rfl
  have hL2:=fun p hp=>(⟨(hL p hp).1.mono h.a hX,(hL p hp).2⟩:BlobS I _ p.2 p.1.blob∧_)
  have hqX:(P++[AObj.cells 1 [.slice (some (q,0)) A.length none],.cells 1 [.int .i64 16],.loop 615 .ready none [(1,.ptr (some (cb,0))),(2,.ptr (some (rc,0)))]])[q]? = some (.cells 5 (A.flatMap RV.cells)):=by rw [ag hql]; exact hrow
  have hcX:(P++[AObj.cells 1 [.slice (some (q,0)) A.length none],.cells 1 [.int .i64 16],.loop 615 .ready none [(1,.ptr (some (cb,0))),(2,.ptr (some (rc,0)))]])[cb]? = some (.cells 1 [.ptr (some (I.s,0))]):=by rw [ag (ah hcb)]; exact hcb
  rw [Nat.add_zero] at hg0
  generalize hPL:P++[AObj.cells 1 [.slice (some (q,0)) A.length none],.cells 1 [.int .i64 16],.loop 615 .ready none [(1,.ptr (some (cb,0))),(2,.ptr (some (rc,0)))]]=PL at *
  obtain ⟨P2,F',K',W,k1,k2,k3,k4,k5,k6,k7,k8⟩:=r615 hSO hb (by omega) (rc:=rc) hg2 (by omega) hcX hqX hne hLn hkl hL2 (hh hne) (hfit hne)
  have hc0:=k1.keep _ _ hg0 (by omega) (by omega) (by omega) (by omega) (by omega)
  have hc1:=k1.keep _ _ hg1 (by omega) (by omega) (by omega) (by omega) (by omega)
  have hlen:(A.flatMap RV.cells).length=A.length*5:=flat_len RV.cells 5 (fun _=>rfl) A
  have hpos:=List.length_pos_iff.2 hne
  have h629:=fun w=>s629 (w:=w) hg0 hg1 hg2 hqX hlen ⟨hpos,hLn⟩ (ai _) hc0 hc1 (by omega) k8
  refine ⟨P2.set (P.length+2) .dead,F',K',min (min w W) (P.length+2),?_,so_set k2 (by omega) (by omega) _,k3,by rw [k4,hh hne],fun e he=>(k5 e he).imp id fun q=>⟨q.1,hne,q.2⟩,by omega,fun e=>absurd e hne,fun k=>?_⟩
  ·exact ⟨by rw [av]; have:=hX.len; have:=k1.len; omega,fun k o ho g1 g2 g3 g4 g5=>by
    rw [aq (by have:=ah ho; omega)]
    exact k1.keep k o (hX.keep k o ho g1 g2 g3 g4 g5) g1 g2 g3 g4 g5⟩
  ·have hbl:b≤P.length+2:=by omega
   simp (disch:=omega) [h616,h629,loopEnd,callVal,capsOf,hPL,k7,hbl]
end
end
end Go.Abs.AbsBlo

namespace Go.Abs.AbsBlo
open Go.Abs.AbsBlb hiding T
open Go.Abs.Short
section
variable {kl:List Bs} {P:List AObj} {b w:Nat} {I:SI} {F:Fl} {K:StU}
theorem d599_run (h:SO kl P I F K) (hb:I.lo b) {cb rc i:Nat} (hcb:P[cb]? = some (.cells 1 [.ptr (some (I.s,0))])) (hrc:P[rc]? = some (.cells 1 [.int .i64 0])) (hIc:I.hi < cb∧I.hi < rc) (hi:i < F.n) (hh:K.head≠i) (hno:∀ e ∈ K.ix,e.2.1.sec≠i) (w:Nat) :
  ∃ P' F' K' w',StF I P P'∧SO kl P' I F' K'∧FlE F F'∧K'.ix=K.ix∧w'≤I.hi∧(w'≤w∧min w b≤w')∧P'[rc]? = some (.cells 1 [.int .i64 0])∧∀ {β:Type} (k:AExit→St→Option β),xK T d599 ⟨[(1,.val (.ptr (some (cb,0)))),(2,.val (.ptr (some (rc,0)))),(3,.val (.int .i64 i))],⟨P,b,w⟩⟩ (k:=⟨k⟩) =
   k .ret ⟨[(2,.val (.ptr (some (rc,0))))],⟨P',b,w'⟩⟩:=by
 have hI:I.s≤I.hi∧I.sa≤I.hi∧I.m≤I.hi∧I.fi.fb≤I.hi∧I.fi.fw≤I.hi:=by unfold SI.hi; omega
 obtain ⟨H1,F',K',n1,k1,k2,k3,k4,k5,k6⟩:=q594 h hb hi hh hno
 obtain ⟨H2,j1,j2,j3,j4⟩:=p578 (b:=b) k2.a hb
 have h594:=fun w=>dc sub (k6 w)
 have h578:=fun w=>dc sub (j4 w)
 have hcb1:=k1.keep _ _ hcb (by omega) (by omega) (by omega) (by omega) (by omega)
 have hrc1:=k1.keep _ _ hrc (by omega) (by omega) (by omega) (by omega) (by omega)
 have hrc2:=j1.keep _ _ hrc1 (by omega) (by omega) (by omega) (by omega) (by omega)
 have hset:H2.set rc (.cells 1 [.int .i64 0])=H2:=set_same hrc2
 have hbr:b≤rc:=by have:=hb.1; omega
 have hk5:=k5 P.length
 have hPl:I.hi < P.length:=h.a.hi
 have hl1:=k1.len
 have hcl:=ah hcb
 have hb0:=hb.1
 refine ⟨H2,F',K',min w (min (n1 P.length) I.s),k1.trans j1,⟨j2,k2.v⟩,k3,k4,by omega,by omega,hrc2,fun k=>?_⟩
 simp (disch:=omega) [-getElem?_pos,-getElem?_neg,-List.all_eq_true,qZ,qS,nltT,nltF,iltT,iltF,ileT,nleT,dj,d599,-rdIds,jr,js,im,hcb,hcb1,h594,h578,hrc1,hrc2,hset,hbr,hcl]
theorem live_rec {ix:List Ent} {i:Nat} {l:List RecU} {r:RecU} (h:LiveOK ix i l) (hr:r ∈ l):∃ e ∈ ix,e.2.1.sec=i∧e.1=r.key∧r=recK ix r.key:=by
 obtain ⟨ks,rfl,-,h2⟩:=h
 obtain ⟨k,hk,rfl⟩:=cg.1 hr
 obtain ⟨e,h3,h4,h5⟩:=(h2 k).1 hk
 exact ⟨e,h3,h4,h5,rfl⟩
theorem live_has {ix:List Ent} {i:Nat} {l:List RecU} (h:LiveOK ix i l) {e:Ent} (he:e ∈ ix) (hs:e.2.1.sec=i):∃ r ∈ l,r.key=e.1:=by
 obtain ⟨ks,rfl,-,h2⟩:=h
 exact ⟨_,cg.2 ⟨e.1,(h2 e.1).2 ⟨e,he,hs,rfl⟩,rfl⟩,rfl⟩
theorem live_blobs (h:SO kl P I F K) {N i:Nat} (hN:I.hi < N) {A:List RV} (hA:∀ p ∈ A,p.new N P) (hl:LiveOK K.ix i (A.map Prod.fst)):∀ p ∈ A,BlobS I P p.2 p.1.blob∧p.1.key ∈ kl∧p.1.count=0∧(p.1.kind=1∧p.1.blob.length≤4096∨p.1.kind=2∧p.1.blob=[]):=fun p hp=>by
 have hI:I.fi.fb≤I.hi∧I.fi.fw≤I.hi:=by unfold SI.hi; omega
 obtain ⟨e,h1,h2,h3,h4⟩:=live_rec hl (cg.2 ⟨p,hp,rfl⟩)
 obtain ⟨g1,g2⟩:=hA p hp
 refine ⟨⟨g1,fun q o n c e=>?_⟩,by rw [← h3]; exact (h.v.en e h1).2.2.1,by rw [h4]; rfl,.inl ⟨by rw [h4]; rfl,by rw [h4]; exact so_pl h _⟩⟩
 have:=(g2 q o n c e).1
 omega
theorem e_d599 (h:SO kl P I F K) (hb:I.lo b) (hbN:b≤P.length) (hkl:∀ k ∈ kl,1≤k.length∧k.length≤64) {cb rc i N:Nat} {A:List RV} {x:AVal} (hcb:P[cb]? = some (.cells 1 [.ptr (some (I.s,0))])) (hrc:P[rc]? = some (.cells 1 [.int .i64 0])) (hIc:I.hi < cb∧I.hi < rc)
  (hN:I.hi < N) (hx:FRow N 5 RV.cells A P x) (hLn:A.length≤16) (hA:∀ p ∈ A,p.new N P) (hl:LiveOK K.ix i (A.map Prod.fst)) (hi:i < F.n) (hh:K.head≠i) (hfit:A≠[]→∃ hd:Nat,K.head=hd∧K.at_+sizes (A.map Prod.fst)+16≤F.z) (w:Nat) :
  ∃ P' F' K' w',StF I P P'∧SO kl P' I F' K'∧FlE F F'∧w'≤I.hi∧(w'≤w∧min w b≤w')∧P'[rc]? = some (.cells 1 [.int .i64 0])∧∀ {β:Type} (k:AExit→St→Option β),xK T c599 ⟨[(1,.val (.ptr (some (cb,0)))),(2,.val (.ptr (some (rc,0)))),(3,.val (.int .i64 i)),(5,.val x)],⟨P,b,w⟩⟩ (k:=⟨k⟩) =
   k .ret ⟨[(2,.val (.ptr (some (rc,0))))],⟨P',b,w'⟩⟩:=by
 have hI:I.s≤I.hi∧I.sa≤I.hi∧I.m≤I.hi∧I.fi.fb≤I.hi∧I.fi.fw≤I.hi:=by unfold SI.hi; omega
 obtain ⟨P1,F1,K1,w1,k1,k2,k3,k4,k5,k6,k7,k8⟩:=e599 h hb hbN (rc:=rc) (i:=i) (hd:=K.head.toNat) hcb hx hLn hkl (live_blobs h hN hA hl) (fun hne=>by obtain ⟨hd,e,-⟩:=hfit hne; omega) (fun hne=>(hfit hne).choose_spec.2) w
 have hcb1:=k1.keep _ _ hcb (by omega) (by omega) (by omega) (by omega) (by omega)
 have hrc1:=k1.keep _ _ hrc (by omega) (by omega) (by omega) (by omega) (by omega)
 have hno:∀ e ∈ K1.ix,e.2.1.sec≠i:=fun e he hs=>by
  rcases k5 e he with ⟨g1,g2⟩ | ⟨g1,g2,g3⟩
  ·obtain ⟨r,hr,hk⟩:=live_has hl g1 hs
   obtain ⟨p,hp,rfl⟩:=cg.1 hr
   exact g2 (cg.2 ⟨p,hp,hk⟩)
  ·obtain ⟨hd,e1,-⟩:=hfit g2
   omega
 obtain ⟨P2,F2,K2,w2,j1,j2,j3,j4,j5,j6,j7,j8⟩:=d599_run k2 hb hcb1 hrc1 hIc (by rw [k3.n]; exact hi) (by rw [k4]; exact hh) hno w1
 refine ⟨P2,F2,K2,w2,k1.trans j1,j2,k3.trans j3,j5,by omega,j7,fun k=>?_⟩
 unfold c599
 have k8:=fun {β:Type} (k:AExit→St→Option β)=>k8 k
 rw [xK_seq,k8]
 simp only [nxK_n]
 exact j8 k
section
attribute [-simp] getElem?_pos getElem?_neg List.all_eq_true
attribute [local simp] qZ qS nltT nltF iltT iltF ileT nleT dj
theorem b599_run (h:SO kl P I F K) (hb:I.lo b) (hbN:b≤P.length) (hkl:∀ k ∈ kl,1≤k.length∧k.length≤64) {cb rc i N:Nat} {A:List RV} {x:AVal} (hcb:P[cb]? = some (.cells 1 [.ptr (some (I.s,0))])) (hrc:P[rc]? = some (.cells 1 [.int .i64 0])) (hIc:I.hi < cb∧I.hi < rc)
  (hN:I.hi < N) (hx:FRow N 5 RV.cells A P x) (hLn:A.length≤16) (hA:∀ p ∈ A,p.new N P) (hl:LiveOK K.ix i (A.map Prod.fst)) (hi:i < F.n) (hh:K.head≠i) (hu:(F.look i).st=2) (w:Nat) :
  (∃ P' F' K' w',StF I P P'∧SO kl P' I F' K'∧FlE F F'∧(w'≤I.hi∧min w b≤w')∧P'[rc]? = some (.cells 1 [.int .i64 0])∧∀ {β:Type} (k:AExit→St→Option β),xK T b599 ⟨[(1,.val (.ptr (some (cb,0)))),(2,.val (.ptr (some (rc,0)))),(3,.val (.int .i64 i)),(5,.val x)],⟨P,b,w⟩⟩ (k:=⟨k⟩) =
   k .ret ⟨[(2,.val (.ptr (some (rc,0))))],⟨P',b,w'⟩⟩) ∨
  (∀ {β:Type} (k:AExit→St→Option β),xK T b599 ⟨[(1,.val (.ptr (some (cb,0)))),(2,.val (.ptr (some (rc,0)))),(3,.val (.int .i64 i)),(5,.val x)],⟨P,b,w⟩⟩ (k:=⟨k⟩) =
   k .ret ⟨[(2,.val (.ptr (some (rc,0))))],⟨P.set rc (.cells 1 [.int .i64 10]),b,min w rc⟩⟩):=by
 have hI:I.s≤I.hi∧I.sa≤I.hi∧I.m≤I.hi∧I.fi.fb≤I.hi∧I.fi.fw≤I.hi:=by unfold SI.hi; omega
 have hsz:=live_size h.v.ix hl
 have hok:∀ p ∈ A,RV.ok P p:=fun p hp=>by
  obtain ⟨⟨g1,-⟩,g2,-,g3⟩:=live_blobs h hN hA hl p hp
  have:=(hkl _ g2).2
  refine ⟨g1,by omega,?_⟩
  rcases g3 with ⟨-,g3⟩ | ⟨-,g3⟩
  ·omega
  ·rw [g3]; exact eo _
 by_cases hne:A=[]
 ·subst hne
  obtain ⟨P',F',K',w',j1,j2,j3,j4,j5,j6,j7⟩:=e_d599 h hb hbN hkl hcb hrc hIc hN hx hLn hA hl hi hh (fun hne=>absurd rfl hne) w
  rcases hx with ⟨-,rfl⟩ | ⟨hne,-⟩
  ·refine .inl ⟨P',F',K',w',j1,j2,j3,⟨j4,j5.2⟩,j6,fun k=>?_⟩
   simp (disch:=omega) [b599,j7]
  ·exact absurd rfl hne
 ·have hroom:sizes (A.map Prod.fst)+28≤F.z:=by
   have hz:secSum i K.ix≠0:=fun e=>by
    obtain ⟨p,hp⟩:=List.exists_mem_of_ne_nil _ hne
    obtain ⟨e',h1,h2,-⟩:=live_rec hl (cg.2 ⟨p,hp,rfl⟩)
    have:=secSum_pos h1 h2
    unfold Ent.size at this
    omega
   have:=h.v.sz i hz
   rw [hsz]
   rw [if_neg hh] at this
   exact this
  have hx0:=hx
  rcases hx with ⟨e,-⟩ | ⟨-,q,hq,rfl,hrow⟩
  ·exact absurd e hne
  ·have hpos:=List.length_pos_iff.2 hne
   have h579:=fun w=>dc sub (s579 (H:=P) (b:=b) (w:=w) (L:=A) (a:=some (q,0)) (c:=none) (Row.mk0 (fun _=>rfl) hrow) hLn hne hok)
   have hzb:=h.a.fl.nb.2
   have h597:=fun w=>dc sub (s597 (b:=b) (w:=w) h.a (n:=sizes (A.map Prod.fst)+16) (by omega))
   have en:((sizes (A.map Prod.fst)+16:Nat):Int)=(sizes (A.map Prod.fst):Int)+16:=by omega
   by_cases hfit:K.head ≠ -1∧K.at_+(sizes (A.map Prod.fst)+16)≤F.z
   ·obtain ⟨hd,hhd⟩:∃ hd:Nat,K.head=hd:=by
     rcases h.v.hd with e | ⟨y,e,-⟩
     ·exact absurd e hfit.1
     ·exact ⟨y,e⟩
    obtain ⟨P',F',K',w',j1,j2,j3,j4,j5,j6,j7⟩:=e_d599 h hb hbN hkl hcb hrc hIc hN hx0 hLn hA hl hi hh (fun _=>⟨hd,hhd,by omega⟩) w
    have hfb:(!decide (K.head = -1) && decide (K.at_+(sizes (A.map Prod.fst)+16)≤F.z))=true:=by simp [hfit.1,hfit.2]
    rw [hfb] at h597
    refine .inl ⟨P',F',K',w',j1,j2,j3,⟨j4,j5.2⟩,j6,fun k=>?_⟩
    generalize ((sizes (A.map Prod.fst)+16:Nat):Int)=sn at *
    simp (disch:=omega) [b599,h579,h597,hcb,j7,hpos]
   ·have hfb:(!decide (K.head = -1) && decide (K.at_+(sizes (A.map Prod.fst)+16)≤F.z))=false:=by
     by_cases c1:K.head = -1
     ·simp [c1]
     ·have:¬ K.at_+(sizes (A.map Prod.fst)+16)≤F.z:=fun c2=>hfit ⟨c1,c2⟩
      simp [this]
    rw [hfb] at h597
    rcases q598 h hb with ⟨-,h598⟩ | ⟨P1,F1,K1,n1,k1,k2,k3,k4,k5,⟨hd,k6,k7,k8⟩,k9,k10,k11⟩
    ·have h598:=fun w=>dc sub (h598 w)
     have hbr:b≤rc:=by have:=hb.1; omega
     refine .inr fun k=>?_
     generalize ((sizes (A.map Prod.fst)+16:Nat):Int)=sn at *
     simp (disch:=omega) [b599,h579,h597,h598,hcb,hrc,hbr,hpos]
    ·have h598:=fun w=>dc sub (k11 w)
     have hcb1:=k1.keep _ _ hcb (by omega) (by omega) (by omega) (by omega) (by omega)
     have hrc1:=k1.keep _ _ hrc (by omega) (by omega) (by omega) (by omega) (by omega)
     have hx1:=hx0.mono (k1.above hN)
     have hA1:∀ p ∈ A,p.new N P1:=fun p hp=>(hA p hp).mono k1.len fun k X hk ho=>k1.above hN k _ hk ho
     have hl1:LiveOK K1.ix i (A.map Prod.fst):=by rw [k4]; exact hl
     have hhd1:K1.head≠i:=fun e=>k8 (by rw [show hd=i by omega]; exact hu)
     obtain ⟨P',F',K',w',j1,j2,j3,j4,j5,j6,j7⟩:=e_d599 k2 hb (by have:=k1.len; omega) hkl hcb1 hrc1 hIc hN hx1 hLn hA1 hl1 (by rw [k3.n]; exact hi) hhd1 (fun _=>⟨hd,k6,by rw [k5,k3.z]; omega⟩) (n1 w)
     refine .inl ⟨P',F',K',w',k1.trans j1,j2,k3.trans j3,⟨by omega,by have:=(k10 w).2; omega⟩,j6,fun k=>?_⟩
     generalize ((sizes (A.map Prod.fst)+16:Nat):Int)=sn at *
     simp (disch:=omega) [b599,h579,h597,h598,hcb,hcb1,hpos,j7]
end
end
end Go.Abs.AbsBlo

namespace Go.Abs.AbsBlo
open Go.Abs.AbsBlb hiding T
open Go.Abs.Short
def CleanQ (kl:List Bs) (H:List AObj) (I:SI) (F:Fl) (b w:Nat) (v:AVal) (h':Heap):Prop:=(v = .int .i64 10∧h'=⟨H,b,w⟩)∨∃ H' F' K' w',h'=⟨H',b,w'⟩∧StF I H H'∧SO kl H' I F' K'∧FlE F F'∧w'≤I.hi∧min w b≤w'∧(v = .int .i64 0∨v = .int .i64 10)
section
variable {E:Env} {kl:List Bs} {H:List AObj} {b:Nat} {I:SI} {F:Fl} {K:StU}
theorem fe599 {P:List AObj} {w w' rc:Nat} {v:Int} (hrc:P[rc]? = some (.cells 1 [.int .i64 v])):funcEnd code599 ⟨H,b,w⟩ (.ret,⟨[(2,.val (.ptr (some (rc,0))))],⟨P,b,w'⟩⟩)=some (.int .i64 v,if w' < H.length then ⟨P,b,min w w'⟩ else ⟨H,b,w⟩):=by
 by_cases c:w' < H.length
 ·simp [funcEnd,code599,resultsL,result1,loadAt,Opd.adr,Heap.get,hrc,tupled,finish,Heap.size,c]
 ·simp [funcEnd,code599,resultsL,result1,loadAt,Opd.adr,Heap.get,hrc,tupled,finish,Heap.size,c,AVal.under]
section
attribute [-simp] getElem?_pos getElem?_neg List.all_eq_true
attribute [local simp] qZ qS nltT nltF iltT iltF ileT nleT dj
theorem clean_ok (hT:Agrees E T) (hm:E.P.follows .mixedOrders=true) (hF:IsCode E 617 code617) (hF2:IsCode E 599 code599) (h:SO kl H I F K) (hkl:∀ k ∈ kl,1≤k.length∧k.length≤64) (hkn:kl.length≤12) (hb:I.lo b) (hbN:b≤H.length) (w:Nat) :
  CallD E 599 [.ptr (some (I.s,0))] ⟨H,b,w⟩ (CleanQ kl H I F b w):=by
 have hnb:=h.a.fl.nb.1
 have hIhi:=h.a.hi
 have hIfl:=ah h.a.fl.f
 have hI:I.s≤I.hi∧I.sa≤I.hi∧I.m≤I.hi∧I.fi.fb≤I.hi∧I.fi.fw≤I.hi:=by unfold SI.hi; omega
 refine CallD.of_code hF2 rfl ?_
 rw [body599]
 have hen:enter 0 [AVal.ptr (some (I.s,0))]=[(0,.val (.ptr (some (I.s,0))))]:=rfl
 have hsz:(⟨H,b,w⟩:Heap).size=H.length:=rfl
 rw [hen]
 simp only [hsz]
 refine CodeD.seq nofun (CodeD.run (e:=.normal) (st':=⟨[(1,.val (.ptr (some (H.length,0)))),(2,.val (.ptr (some (H.length+1,0))))],⟨H++[.cells 1 [.ptr (some (I.s,0))],.cells 1 [.int .i64 0]],b,H.length⟩⟩) hT hm (fun k'=>by simp (disch:=omega) []) ?_)
 have hM:=so_app h [.cells 1 [.ptr (some (I.s,0))],.cells 1 [.int .i64 0]]
 have hMl:(H++[AObj.cells 1 [.ptr (some (I.s,0))],.cells 1 [.int .i64 0]]).length=H.length+2:=by simp
 have hcb:=fp H [AObj.cells 1 [.ptr (some (I.s,0))],.cells 1 [.int .i64 0]]
 have hrc:=iw H [AObj.cells 1 [.ptr (some (I.s,0))],.cells 1 [.int .i64 0]] 1
 have hpre:StF I H (H++[AObj.cells 1 [.ptr (some (I.s,0))],.cells 1 [.int .i64 0]]):=StF.refl.app _
 generalize hMM:H++[AObj.cells 1 [.ptr (some (I.s,0))],.cells 1 [.int .i64 0]]=M at *
 have hR:Row M 3 Sec.cells K.secs (some (I.sa,0)):=Row.mk0 (fun _=>rfl) hM.a.r
 have hln:=h.v.ln
 have h5:=fun c w=>dc sub (s5 (os:=M) (b:=b) (w:=w) (c:=c) hR (by omega))
 have hlm:=least_m (fun x=>decide (x.st=2)) Sec.seq K.secs K.secs.length
 have gs:=hM.a.s
 unfold StU.cells at gs
 generalize least (fun x=>decide (x.st=2)) Sec.seq K.secs K.secs.length=p at *
 obtain ⟨i,ok⟩:=p
 refine CodeD.seq nofun (CodeD.run (e:=.normal) (st':=⟨[(1,.val (.ptr (some (H.length,0)))),(2,.val (.ptr (some (H.length+1,0)))),(3,.val (.int .i64 i)),(4,.val (.bool ok))],⟨M,b,H.length⟩⟩) hT hm (fun k'=>by simp (disch:=omega) [hcb,gs,h5]) ?_)
 have hbr:b≤H.length+1:=by omega
 cases ok with
 | false =>
  have hu:CodeD E (.seq (R [1,2,3,18] [v 17 4,o 18 (.un .not (t 17))])
 (.after (.cond (t 18) (.seq (R [2] [u (.store 1 (t 2) (n 10))])
 (.live [2] (.ret))) (.skip)) [1,2,3])) ⟨[(1,.val (.ptr (some (H.length,0)))),(2,.val (.ptr (some (H.length+1,0)))),(3,.val (.int .i64 i)),(4,.val (.bool false))],⟨M,b,H.length⟩⟩ (fun e st=>e = .ret∧st=⟨[(2,.val (.ptr (some (H.length+1,0))))],⟨M.set (H.length+1) (.cells 1 [.int .i64 10]),b,H.length⟩⟩) :=
   CodeD.run (e:=.ret) (st':=⟨[(2,.val (.ptr (some (H.length+1,0))))],⟨M.set (H.length+1) (.cells 1 [.int .i64 10]),b,H.length⟩⟩) hT hm (fun k'=>by simp (disch:=omega) [hrc,hbr]) ⟨rfl,rfl⟩
  refine CodeD.seq nofun (hu.mono fun e st hq _=>?_)
  obtain ⟨rfl,rfl⟩:=hq
  refine ⟨_,_,fe599 (db (by omega)),.inl ⟨rfl,?_⟩⟩
  rw [if_neg (by omega)]
 | true =>
  obtain ⟨y,hy,hyu⟩:=hlm rfl
  simp only at hy hyu
  have hi:i < F.n:=by rw [← hln]; exact ah hy
  have hu2:(F.look i).st=2:=by
   have:=h.v.lk i hi
   rw [hy] at this
   rw [← bz this]
   simpa using hyu
  refine CodeD.seq nofun (CodeD.run (e:=.normal) (st':=⟨[(1,.val (.ptr (some (H.length,0)))),(2,.val (.ptr (some (H.length+1,0)))),(3,.val (.int .i64 i))],⟨M,b,H.length⟩⟩) hT hm (fun k'=>by simp (disch:=omega) []) ?_)
  obtain ⟨M1,K1,w1,m1,m2,m3,m4,m5,m6,m7,m8⟩:∃ M1 K1 w1,SO kl M1 I F K1∧K1.head≠i∧StF I M M1∧M1.length=M.length∧w1≤H.length∧((M1=M∧w1=H.length)∨w1≤I.hi)∧(w1=I.s∨w1=H.length)∧∀ (k':AExit→St→Option Unit),xK T (.seq (R [1,2,3,24] [v 19 3,o 20 (.load none (t 1)),o 21 (.nilcheck (t 20)),o 22 (.faddr (t 21) 6),o 23 (.load none (t 22)),o 24 (.bin .eql (t 19) (t 23))])
 (.after (.cond (t 24) (R [1,2,3] [o 25 (.load none (t 1)),o 26 (.nilcheck (t 25)),o 27 (.faddr (t 26) 6),u (.store 1 (t 27) (.const (.int .i64 (-1))))]) (.skip)) [1,2,3])) ⟨[(1,.val (.ptr (some (H.length,0)))),(2,.val (.ptr (some (H.length+1,0)))),(3,.val (.int .i64 i))],⟨M,b,H.length⟩⟩ (k:=⟨k'⟩)=k' .normal ⟨[(1,.val (.ptr (some (H.length,0)))),(2,.val (.ptr (some (H.length+1,0)))),(3,.val (.int .i64 i))],⟨M1,b,w1⟩⟩:=by
   by_cases c:K.head=i
   ·have ho:=hM.a.own (K':={ K with head:=-1 }) rfl ⟨rfl,rfl⟩ (.inl rfl) hM.a.ab hM.a.sb hM.a.tb
    refine ⟨_,{ K with head:=-1 },I.s,⟨ho,none_inv h.v⟩,by show (-1:Int)≠i; omega,.own,av,by omega,.inr (by omega),.inl rfl,fun k'=>?_⟩
    have hbs:=hb.1
    have hci:(i:Int)=K.head:=c.symm
    simp only [StU.cells]
    have hmin:min H.length I.s=I.s:=by omega
    simp (disch:=omega) [hcb,gs,hci,hbs]
   ·have hci:¬ (i:Int)=K.head:=fun e=>c e.symm
    exact ⟨M,K,H.length,hM,c,.refl,rfl,by omega,.inl ⟨rfl,rfl⟩,.inr rfl,fun k'=>by simp (disch:=omega) [hcb,gs,hci]⟩
  refine CodeD.seq nofun (CodeD.run (e:=.normal) (st':=⟨[(1,.val (.ptr (some (H.length,0)))),(2,.val (.ptr (some (H.length+1,0)))),(3,.val (.int .i64 i))],⟨M1,b,w1⟩⟩) hT hm m8 ?_)
  have hcb1:=m3.keep _ _ hcb (by omega) (by omega) (by omega) (by omega) (by omega)
  have hrc1:=m3.keep _ _ hrc (by omega) (by omega) (by omega) (by omega) (by omega)
  have gs1:=m1.a.s
  unfold StU.cells at gs1
  refine CodeD.seq nofun (CodeD.after (CodeD.region hT hm ?_))
  refine OpsD.run (l:=[o 28 (.load none (t 1)),v 29 3]) (r:=[o 30 (.callg 617 [t 28,t 29]),v 5 30]) (s1:=[(29,.val (.int .i64 i)),(28,.val (.ptr (some (I.s,0)))),(1,.val (.ptr (some (H.length,0)))),(2,.val (.ptr (some (H.length+1,0)))),(3,.val (.int .i64 i))]) (h1:=⟨M1,b,w1⟩) (fun k'=>by simp (disch:=omega) [hcb1]) ?_
  refine OpsD.call (g:=617) (xs:=[t 28,t 29]) rfl rfl rfl (c617 hT hm hF m1 hkn hi (by omega) w1) fun vv hh hR'=>?_
  obtain ⟨P,A,rfl,p1,p2,p3,p4⟩:=hR'
  refine OpsD.run (l:=[v 5 30]) (r:=[]) (s1:=[(5,.val vv),(30,.val vv),(29,.val (.int .i64 i)),(28,.val (.ptr (some (I.s,0)))),(1,.val (.ptr (some (H.length,0)))),(2,.val (.ptr (some (H.length+1,0)))),(3,.val (.int .i64 i))]) (h1:=⟨P,b,w1⟩) (fun k'=>by simp (disch:=omega) []) (OpsD.done ?_)
  simp only []
  have hk1:keepK [1,2,3,5] [(5,Slot.val vv),(30,.val vv),(29,.val (.int .i64 i)),(28,.val (.ptr (some (I.s,0)))),(1,.val (.ptr (some (H.length,0)))),(2,.val (.ptr (some (H.length+1,0)))),(3,.val (.int .i64 i))]=[(1,.val (.ptr (some (H.length,0)))),(2,.val (.ptr (some (H.length+1,0)))),(3,.val (.int .i64 i)),(5,.val vv)]:=by simp
  rw [hk1]
  have hb0:=hb.1
  have hM1l:M1.length=H.length+2:=m4.trans hMl
  have hP:SO kl P I F K1:=⟨m1.a.low (N:=M1.length) ⟨by omega,by omega⟩ fun k o hk ho=>p1 k o ho,m1.v⟩
  have hPl:=p1.len
  have hstP:StF I M P:=⟨by omega,fun k o ho g1 g2 g3 g4 g5=>p1 k o (m3.keep k o ho g1 g2 g3 g4 g5)⟩
  have hAl:A.length≤12:=by
   obtain ⟨ks,e1,e2,e3⟩:=p4
   have h1:=nodup_len (l':=K1.ix.map (·.1)) e2 fun k hk=>by
    obtain ⟨e,g1,-,g4⟩:=(e3 k).1 hk
    exact cg.2 ⟨e,g1,g4⟩
   have h2:=congrArg List.length e1
   rw [bj,bj] at h2
   rw [bj] at h1
   have h3:=so_few m1
   omega
  rcases b599_run hP hb (by omega) hkl (p1 _ _ hcb1) (p1 _ _ hrc1) ⟨by omega,by omega⟩ (N:=M1.length) (by omega) p2 (by omega) p3 p4 hi m2 hu2 w1 with ⟨P',F',K',w',j1,j2,j3,j4,j5,j6⟩ | j6
  ·refine CodeD.run (e:=.ret) (st':=⟨[(2,.val (.ptr (some (H.length+1,0))))],⟨P',b,w'⟩⟩) hT hm (fun k'=>j6 k') ?_
   refine ⟨_,_,fe599 j5,.inr ⟨P',F',K',min w w',?_,hpre.trans (hstP.trans j1),j2,j3,by omega,by omega,.inl rfl⟩⟩
   rw [if_pos (by omega)]
  ·refine CodeD.run (e:=.ret) (st':=⟨[(2,.val (.ptr (some (H.length+1,0))))],⟨P.set (H.length+1) (.cells 1 [.int .i64 10]),b,min w1 (H.length+1)⟩⟩) hT hm (fun k'=>j6 k') ?_
   refine ⟨_,_,fe599 (db (by omega)),?_⟩
   rcases m6 with ⟨-,e1⟩ | e1
   ·refine .inl ⟨rfl,?_⟩
    rw [if_neg (by omega)]
   ·refine .inr ⟨P.set (H.length+1) (.cells 1 [.int .i64 10]),F,K1,min w w1,?_,⟨by rw [av]; have:=hpre.len; omega,fun k o ho g1 g2 g3 g4 g5=>?_⟩,so_set hP (by omega) (by omega) _,.refl _,by omega,by omega,.inr rfl⟩
    ·rw [if_pos (by omega)]
     congr 1
     omega
    ·rw [aq (by have:=ah ho; omega)]
     exact hstP.keep k o (hpre.keep k o ho g1 g2 g3 g4 g5) g1 g2 g3 g4 g5
end
end
end Go.Abs.AbsBlo

namespace Go.Abs.AbsBlo
open Go.Abs.AbsBlb hiding T
open Go.Abs.Short
def x580:ACode:=.after (.block 2 (.seq (R [0,1,5,12,13,17] [v 18 0,v 19 1,o 20 (.callg 597 [t 18,t 19]),v 17 20])
 (.after (.cond (t 17) (.seq (R [4] [o 4 (.val (n 0))])
 (.live [4] (.ret))) (.seq (.after (.region [⟨true,[],[v 22 0,o 23 (.nilcheck (t 22)),o 24 (.faddr (t 23) 4),o 25 (.load none (t 24)),v 26 0,o 27 (.nilcheck (t 26)),o 28 (.faddr (t 27) 1),o 29 (.faddr (t 28) 2),o 30 (.load none (t 29))]⟩,⟨false,[],[o 31 (.callg 0 [t 25,t 30]),o 32 (.bin .geq (t 31) (n 2)),v 21 32]⟩]) [0,1,5,12,13,21])
 (.after (.cond (t 21) (R [0,1,5,12,13] [v 33 0,o 34 (.mkfunc 598 [t 33] []),v 5 34]) (.skip)) [0,1,5,12,13]))) [0,1,5,12,13]))) [0,1,5,12,13]
def w580:ACode:=.seq (R [0,1,6,12,13,38] [v 37 6,o 38 (.bin .neq (t 37) (n 0))])
 (.after (.cond (t 38) (.seq (R [4] [v 39 6,v 4 39])
 (.live [4] (.ret))) (.skip)) [0,1,12,13])
def y580:ACode:=.seq (R [0,1,6,12,13] [v 35 5,o 36 (.call (t 35) []),v 6 36]) w580
theorem body580L:code580L0 = .live [0,1,12,13] (.seq (R [0,1,12,13,14] [o 14 (.bin .lss (t 13) (t 12))])
 (.seq (.after (.cond (t 14) (.skip) (.live [0,1] (.exit 0))) [0,1,12,13])
 (.seq (.after (.block 1 (.seq (R [0,1,5,12,13] [v 15 0,o 16 (.mkfunc 599 [t 15] []),v 5 16])
 (.seq x580
 y580))) [0,1,12,13])
 (R [0,1,12,13] [o 40 (.bin .add (t 13) (n 1)),v 13 40])))):=rfl
def z580:ACode:=.seq (.seq (R [43] [v 41 0,v 42 1,o 43 (.callg 597 [t 41,t 42])])
 (.after (.cond (t 43) (.seq (R [4] [o 4 (.val (n 0))])
 (.live [4] (.ret))) (.skip)) []))
 (.seq (R [4] [o 4 (.val (n 10))])
 (.live [4] (.ret)))
theorem body580:code580.body = .seq (R [0,1] [o 4 (.val (n 0))])
 (.seq (.seq (R [0,1,12,13] [v 7 0,o 8 (.nilcheck (t 7)),o 9 (.faddr (t 8) 4),o 10 (.load none (t 9)),o 11 (.len .sl (t 10)),o 12 (.bin .mul (n 4) (t 11)),o 13 (.val (n 0))])
 (.after (.block 0 (.loop code580L0)) [0,1]))
 z580):=rfl
def Fits (F:Fl) (K:StU) (n:Nat):Prop:=K.head ≠ -1∧K.at_+n≤F.z
def Good (F:Fl) (K:StU) (n:Nat):Prop:=¬ Fits F K n→2≤cnt (opn F.lim) K.secs K.secs.length∧(nextS F K).2=true∧K.seq≠4294967295∧12+n≤F.z
def RoomQ (kl:List Bs) (H:List AObj) (I:SI) (F:Fl) (K:StU) (b n w0:Nat) (v:AVal) (h':Heap):Prop :=
 ∃ H' F' K' w',h'=⟨H',b,w'⟩∧StF I H H'∧SO kl H' I F' K'∧FlE F F'∧b≤w'∧(w'≤I.hi∨(H'=H∧w'=w0))∧((v = .int .i64 0∧Fits F' K' n)∨v = .int .i64 10)∧(Good F K n→v = .int .i64 0∧K'.ix=K.ix)
def RoomS (kl:List Bs) (H:List AObj) (I:SI) (F:Fl) (K:StU) (b n i:Nat) (P:List AObj) (F1:Fl) (K1:StU) (w1:Nat):Prop :=
 StF I H P∧SO kl P I F1 K1∧FlE F F1∧b≤w1∧(w1≤I.hi∨(P=H∧w1=H.length))∧(Good F K n→(i=0∧F1=F∧K1=K)∨(K1.ix=K.ix∧Fits F1 K1 n))
def RoomJ (kl:List Bs) (H:List AObj) (I:SI) (F:Fl) (K:StU) (b n m k:Nat) (st:St):Prop :=
 ∃ i P F1 K1 w1,i≤m∧k=m - i∧RoomS kl H I F K b n i P F1 K1 w1∧st=⟨[(0,.val (.ptr (some (I.s,0)))),(1,.val (.int .i64 n)),(12,.val (.int .i64 m)),(13,.val (.int .i64 i))],⟨P,b,w1⟩⟩
def RoomL (kl:List Bs) (H:List AObj) (I:SI) (F:Fl) (K:StU) (b n m:Nat) (e:AExit) (st:St):Prop :=
 (e = .exit 0∧∃ P F1 K1 w1,RoomS kl H I F K b n m P F1 K1 w1∧st=⟨[(0,.val (.ptr (some (I.s,0)))),(1,.val (.int .i64 n))],⟨P,b,w1⟩⟩) ∨
 (e = .ret∧∃ v P w1,RoomQ kl H I F K b n H.length v ⟨P,b,w1⟩∧st=⟨[(4,.val v)],⟨P,b,w1⟩⟩)
section
variable {E:Env} {kl:List Bs} {H:List AObj} {b:Nat} {I:SI} {F:Fl} {K:StU}
def OpenQ (kl:List Bs) (H:List AObj) (I:SI) (F:Fl) (K:StU) (b w:Nat) (v:AVal) (h':Heap):Prop :=
 (v = .int .i64 10∧h'=⟨H,b,w⟩∧((nextS F K).2=false∨K.seq=4294967295))∨∃ H' F' K' w',h'=⟨H',b,w'⟩∧StF I H H'∧SO kl H' I F' K'∧FlE F F'∧w'≤I.hi∧min w b≤w'∧v = .int .i64 0∧K'.ix=K.ix∧K'.head ≠ -1∧K'.at_=12
theorem open_ok (hT:Agrees E T) (hm:E.P.follows .mixedOrders=true) (h:SO kl H I F K) (hb:I.lo b) (w:Nat):CallD E 598 [.ptr (some (I.s,0))] ⟨H,b,w⟩ (OpenQ kl H I F K b w):=by
 rcases q598 h hb with ⟨c,e⟩ | ⟨H',F',K',nx,k1,k2,k3,k4,k5,⟨i,k6,k7,k8⟩,k9,k10,k11⟩
 ·exact CallD.of_x hT hm (dc sub (e w)) (.inl ⟨rfl,rfl,c⟩)
 ·exact CallD.of_x hT hm (dc sub (k11 w)) (.inr ⟨H',F',K',nx w,rfl,k1,k2,k3,(k10 w).1,(k10 w).2,rfl,k4,by omega,k5⟩)
def StepQ (kl:List Bs) (H:List AObj) (I:SI) (F:Fl) (K:StU) (b w g:Nat) (v:AVal) (h':Heap):Prop:=CleanQ kl H I F b w v h'∧(g=598→OpenQ kl H I F K b w v h')
theorem step_ok (hT:Agrees E T) (hm:E.P.follows .mixedOrders=true) (hF:IsCode E 617 code617) (hF2:IsCode E 599 code599) (h:SO kl H I F K) (hkl:∀ k ∈ kl,1≤k.length∧k.length≤64) (hkn:kl.length≤12) (hb:I.lo b) (hbN:b≤H.length) (w:Nat) {g:Nat} (hg:g=598∨g=599) :
  CallD E g [.ptr (some (I.s,0))] ⟨H,b,w⟩ (StepQ kl H I F K b w g):=by
 rcases hg with rfl | rfl
 ·refine (open_ok hT hm h hb w).mono fun v h' hq=>⟨?_,fun _=>hq⟩
  rcases hq with ⟨e1,e2,-⟩ | ⟨H',F',K',w',e1,e2,e3,e4,e5,e6,e7,-⟩
  ·exact .inl ⟨e1,e2⟩
  ·exact .inr ⟨H',F',K',w',e1,e2,e3,e4,e5,e6,.inl e7⟩
 ·exact (clean_ok hT hm hF hF2 h hkl hkn hb hbN w).mono fun v h' hq=>⟨hq,fun e=>by cases e⟩
section
attribute [-simp] getElem?_pos getElem?_neg List.all_eq_true
attribute [local simp] qZ qS nltT nltF iltT iltF ileT nleT dj
theorem x580_run (h:SO kl H I F K) {n m i:Nat} (hn:n≤1000000000) (w:Nat) {x5:AVal}:∃ g:Nat,(g=598∨g=599)∧(2≤cnt (opn F.lim) K.secs K.secs.length→g=598) ∧
  (Fits F K n→∀ {β:Type} (k':AExit→St→Option β),xK T x580 ⟨[(0,.val (.ptr (some (I.s,0)))),(1,.val (.int .i64 n)),(5,.val (.func 599 [.ptr (some (I.s,0))] [])),(12,.val (.int .i64 m)),(13,.val (.int .i64 i))],⟨H,b,w⟩⟩ (k:=⟨k'⟩)=k' .ret ⟨[(4,.val (.int .i64 0))],⟨H,b,w⟩⟩) ∧
  (¬ Fits F K n→∀ {β:Type} (k':AExit→St→Option β),xK T x580 ⟨[(0,.val (.ptr (some (I.s,0)))),(1,.val (.int .i64 n)),(5,.val (.func 599 [.ptr (some (I.s,0))] [])),(12,.val (.int .i64 m)),(13,.val (.int .i64 i))],⟨H,b,w⟩⟩ (k:=⟨k'⟩)=k' .normal ⟨[(0,.val (.ptr (some (I.s,0)))),(1,.val (.int .i64 n)),(5,.val (.func g [.ptr (some (I.s,0))] [])),(12,.val (.int .i64 m)),(13,.val (.int .i64 i))],⟨H,b,w⟩⟩):=by
 have hft:Fits F K n→(!decide (K.head = -1) && decide (K.at_+n≤F.z))=true:=fun hf=>by
  simp [hf.1,hf.2]
 have hff:¬ Fits F K n→(!decide (K.head = -1) && decide (K.at_+n≤F.z))=false:=fun hf=>by
  by_cases c1:K.head = -1
  ·simp [c1]
  ·have:¬ K.at_+n≤F.z:=fun c2=>hf ⟨c1,c2⟩
   simp [this]
 have h597:=fun w=>dc sub (s597 (b:=b) (w:=w) h.a hn)
 have hR:Row H 3 Sec.cells K.secs (some (I.sa,0)):=Row.mk0 (fun _=>rfl) h.a.r
 have hln:=h.v.ln
 have hnb:=h.a.fl.nb.1
 have h0:=fun c w=>dc sub (s0 (os:=H) (b:=b) (w:=w) (c:=c) (lim:=F.lim) hR (by omega))
 have hcl:=cnt_le (opn F.lim) K.secs K.secs.length
 have gs:=h.a.s
 unfold StU.cells at gs
 generalize cnt (opn F.lim) K.secs K.secs.length=cn at *
 refine ⟨if 2≤cn then 598 else 599,by split <;> simp,fun e=>if_pos e,fun hf β k'=>?_,fun hf β k'=>?_⟩
 ·rw [hft hf] at h597
  simp (disch:=omega) [x580,h597]
 ·rw [hff hf] at h597
  by_cases c:2≤cn
  ·have ci:(2:Int)≤cn:=by omega
   simp (disch:=omega) [x580,h597,gs,h0,c,ci]
  ·have ci:¬ (2:Int)≤cn:=by omega
   simp (disch:=omega) [x580,h597,gs,h0,c,ci]
end
end
end Go.Abs.AbsBlo

namespace Go.Abs.AbsBlo
open Go.Abs.AbsBlb hiding T
open Go.Abs.Short
def i1:Opd:=n 1
section
variable {E:Env} {kl:List Bs} {H:List AObj} {b:Nat} {I:SI} {F:Fl} {K:StU}
section
attribute [-simp] getElem?_pos getElem?_neg List.all_eq_true
attribute [local simp] qZ qS nltT nltF iltT iltF ileT nleT dj
theorem room_loop (hT:Agrees E T) (hm:E.P.follows .mixedOrders=true) (hF:IsCode E 617 code617) (hF2:IsCode E 599 code599) (hkl:∀ k ∈ kl,1≤k.length∧k.length≤64) (hkn:kl.length≤12) (hb:I.lo b) (hbN:b≤H.length) (hIH:I.hi < H.length) {n m:Nat} (hn:n≤1000000000) (hmm:2≤m∧m≤1000) {st:St} {k:Nat} (h0:RoomJ kl H I F K b n m k st) :
  CodeD E (.loop code580L0) st (RoomL kl H I F K b n m):=by
 refine CodeD.loop (RoomJ kl H I F K b n m) (fun k st hJ=>?_) k st h0
 obtain ⟨i,P,F1,K1,w1,hi,rfl,⟨s1,s2,s3,s4,s5,s6⟩,rfl⟩:=hJ
 rw [body580L]
 refine CodeD.live ?_
 have hkk:keepK [0,1,12,13] [(0,Slot.val (AVal.ptr (some (I.s,0)))),(1,.val (.int .i64 n)),(12,.val (.int .i64 m)),(13,.val (.int .i64 i))]=[(0,.val (.ptr (some (I.s,0)))),(1,.val (.int .i64 n)),(12,.val (.int .i64 m)),(13,.val (.int .i64 i))]:=by simp
 simp only [hkk]
 have hPl:=s1.len
 by_cases c:i < m
 ·have ci:(i:Int) < m:=by omega
  refine CodeD.seq nofun (CodeD.run (e:=.normal) (st':=⟨[(0,.val (.ptr (some (I.s,0)))),(1,.val (.int .i64 n)),(12,.val (.int .i64 m)),(13,.val (.int .i64 i)),(14,.val (.bool true))],⟨P,b,w1⟩⟩) hT hm (fun k'=>by simp (disch:=omega) [ci]) ?_)
  refine CodeD.seq nofun (CodeD.run (e:=.normal) (st':=⟨[(0,.val (.ptr (some (I.s,0)))),(1,.val (.int .i64 n)),(12,.val (.int .i64 m)),(13,.val (.int .i64 i))],⟨P,b,w1⟩⟩) hT hm (fun k'=>by simp (disch:=omega) []) ?_)
  refine CodeD.seq nofun (CodeD.after (CodeD.block ?_))
  refine CodeD.seq nofun (CodeD.run (e:=.normal) (st':=⟨[(0,.val (.ptr (some (I.s,0)))),(1,.val (.int .i64 n)),(5,.val (.func 599 [.ptr (some (I.s,0))] [])),(12,.val (.int .i64 m)),(13,.val (.int .i64 i))],⟨P,b,w1⟩⟩) hT hm (fun k'=>by simp (disch:=omega) []) ?_)
  obtain ⟨g,hg,hg2,hft,hff⟩:=x580_run (b:=b) (m:=m) (i:=i) s2 hn w1 (x5:=.ptr none)
  by_cases hf:Fits F1 K1 n
  ·refine CodeD.seq nofun (CodeD.run (e:=.ret) (st':=⟨[(4,.val (.int .i64 0))],⟨P,b,w1⟩⟩) hT hm (fun k'=>hft hf k') ?_)
   refine .inr ⟨rfl,_,P,w1,⟨P,F1,K1,w1,rfl,s1,s2,s3,s4,s5,.inl ⟨rfl,hf⟩,fun hG=>⟨rfl,?_⟩⟩,rfl⟩
   rcases s6 hG with ⟨-,-,e⟩ | ⟨e,-⟩
   ·rw [e]
   ·exact e
  ·refine CodeD.seq nofun (CodeD.run (e:=.normal) (st':=⟨[(0,.val (.ptr (some (I.s,0)))),(1,.val (.int .i64 n)),(5,.val (.func g [.ptr (some (I.s,0))] [])),(12,.val (.int .i64 m)),(13,.val (.int .i64 i))],⟨P,b,w1⟩⟩) hT hm (fun k'=>hff hf k') ?_)
   unfold y580
   refine CodeD.seq nofun (CodeD.after (CodeD.region hT hm ?_))
   refine OpsD.run (l:=[v 35 5]) (r:=[o 36 (.call (t 35) []),v 6 36]) (s1:=[(35,.val (.func g [.ptr (some (I.s,0))] [])),(0,.val (.ptr (some (I.s,0)))),(1,.val (.int .i64 n)),(5,.val (.func g [.ptr (some (I.s,0))] [])),(12,.val (.int .i64 m)),(13,.val (.int .i64 i))]) (h1:=⟨P,b,w1⟩) (fun k'=>by simp (disch:=omega) []) ?_
   refine OpsD.callv (g:=g) (x:=t 35) (xs:=[]) (first:=[.ptr (some (I.s,0))]) (caps:=[]) (vs:=[]) rfl rfl rfl rfl (step_ok hT hm hF hF2 s2 hkl hkn hb (by omega) w1 hg) fun vv hh hR'=>?_
   obtain ⟨hq1,hq2⟩:=hR'
   have hhb:hh.base=b:=by
    rcases hq1 with ⟨-,rfl⟩ | ⟨H',F',K',w',rfl,-⟩ <;> rfl
   refine OpsD.run (l:=[v 6 36]) (r:=[]) (s1:=[(6,.val vv),(36,.val vv),(35,.val (.func g [.ptr (some (I.s,0))] [])),(0,.val (.ptr (some (I.s,0)))),(1,.val (.int .i64 n)),(5,.val (.func g [.ptr (some (I.s,0))] [])),(12,.val (.int .i64 m)),(13,.val (.int .i64 i))]) (h1:=hh) (fun k'=>by simp (disch:=omega) []) (OpsD.done ?_)
   simp only []
   have hk2:keepK [0,1,6,12,13] [(6,Slot.val vv),(36,.val vv),(35,.val (.func g [.ptr (some (I.s,0))] [])),(0,.val (.ptr (some (I.s,0)))),(1,.val (.int .i64 n)),(5,.val (.func g [.ptr (some (I.s,0))] [])),(12,.val (.int .i64 m)),(13,.val (.int .i64 i))]=[(0,.val (.ptr (some (I.s,0)))),(1,.val (.int .i64 n)),(6,.val vv),(12,.val (.int .i64 m)),(13,.val (.int .i64 i))]:=by simp
   rw [hk2]
   have hnG:Good F K n→i=0∧F1=F∧K1=K∧2≤cnt (opn F.lim) K.secs K.secs.length∧(nextS F K).2=true∧K.seq≠4294967295∧12+n≤F.z:=fun hG=>by
    rcases s6 hG with ⟨e1,e2,e3⟩ | ⟨-,e⟩
    ·subst e2; subst e3
     exact ⟨e1,rfl,rfl,hG hf⟩
    ·exact absurd e hf
   have hrest:∀ e:Int,vv = .int .i64 e→e≠0→∀ k':AExit→St→Option Unit,xK T w580 ⟨[(0,.val (.ptr (some (I.s,0)))),(1,.val (.int .i64 n)),(6,.val vv),(12,.val (.int .i64 m)),(13,.val (.int .i64 i))],hh⟩ (k:=⟨k'⟩)=k' .ret ⟨[(4,.val vv)],hh⟩:=fun e he hne k'=>by
    subst he
    obtain ⟨ho,hbb,hw⟩:=hh
    simp (disch:=omega) [w580,hne]
   have hgo:vv = .int .i64 0→∀ k':AExit→St→Option Unit,xK T w580 ⟨[(0,.val (.ptr (some (I.s,0)))),(1,.val (.int .i64 n)),(6,.val vv),(12,.val (.int .i64 m)),(13,.val (.int .i64 i))],hh⟩ (k:=⟨k'⟩)=k' .normal ⟨[(0,.val (.ptr (some (I.s,0)))),(1,.val (.int .i64 n)),(12,.val (.int .i64 m)),(13,.val (.int .i64 i))],hh⟩:=fun he k'=>by
    subst he
    obtain ⟨ho,hbb,hw⟩:=hh
    simp (disch:=omega) [w580]
   have hinc:∀ P w (k':AExit→St→Option Unit),xK T (R [0,1,12,13] [o 40 (.bin .add (t 13) i1),v 13 40]) ⟨[(0,.val (.ptr (some (I.s,0)))),(1,.val (.int .i64 n)),(12,.val (.int .i64 m)),(13,.val (.int .i64 i))],⟨P,b,w⟩⟩ (k:=⟨k'⟩)=k' .normal ⟨[(0,.val (.ptr (some (I.s,0)))),(1,.val (.int .i64 n)),(12,.val (.int .i64 m)),(13,.val (.int .i64 (i+1:Nat)))],⟨P,b,w⟩⟩:=fun P w k'=>by
    have e1:((i+1:Nat):Int)=(i:Int)+1:=by omega
    rw [e1]
    unfold i1
    simp (disch:=omega) []
   have hnext:∀ P2 F2 K2 w2,vv = .int .i64 0→hh=⟨P2,b,w2⟩→RoomS kl H I F K b n (i+1) P2 F2 K2 w2→CodeD E w580 ⟨[(0,.val (.ptr (some (I.s,0)))),(1,.val (.int .i64 n)),(6,.val vv),(12,.val (.int .i64 m)),(13,.val (.int .i64 i))],hh⟩ fun e st'=>match e with
     | .normal=>∃ P w,st'=⟨[(0,.val (.ptr (some (I.s,0)))),(1,.val (.int .i64 n)),(12,.val (.int .i64 m)),(13,.val (.int .i64 i))],⟨P,b,w⟩⟩∧∃ F2 K2,RoomS kl H I F K b n (i+1) P F2 K2 w
     | e=>False:=fun P2 F2 K2 w2 e1 e2 hS=>CodeD.run hT hm (hgo e1) ⟨P2,w2,by rw [e2],F2,K2,hS⟩
   have hN:(∃ P2 F2 K2 w2,vv = .int .i64 0∧hh=⟨P2,b,w2⟩∧RoomS kl H I F K b n (i+1) P2 F2 K2 w2)∨(vv = .int .i64 10∧∃ P2 w2,hh=⟨P2,b,w2⟩∧RoomQ kl H I F K b n H.length vv ⟨P2,b,w2⟩):=by
    by_cases c598:g=598
    ·rcases hq2 c598 with ⟨e1,e2,e3⟩ | ⟨P2,F2,K2,w2,e2,t1,t2,t3,t4,t5,e1,t6,t7,t8⟩
     ·refine .inr ⟨e1,P,w1,e2,P,F1,K1,w1,rfl,s1,s2,s3,s4,s5,.inr e1,fun hG=>?_⟩
      obtain ⟨g1,g2,g3,g4,g5,g6,g7⟩:=hnG hG
      rw [g2,g3] at e3
      rcases e3 with e3 | e3
      ·rw [g5] at e3; cases e3
      ·exact absurd e3 g6
     ·refine .inl ⟨P2,F2,K2,w2,e1,e2,s1.trans t1,t2,s3.trans t3,by omega,.inl t4,fun hG=>.inr ⟨?_,t7,?_⟩⟩
      ·obtain ⟨g1,g2,g3,g4,g5,g6,g7⟩:=hnG hG
       rw [t6,g3]
      ·obtain ⟨g1,g2,g3,g4,g5,g6,g7⟩:=hnG hG
       rw [t8,t3.z,g2]; omega
    ·have hnG':¬ Good F K n:=fun hG=>by
      obtain ⟨g1,g2,g3,g4,g5,g6,g7⟩:=hnG hG
      exact c598 (hg2 (by rw [g2,g3]; exact g4))
     rcases hq1 with ⟨e1,e2⟩ | ⟨P2,F2,K2,w2,e2,t1,t2,t3,t4,t5,t6⟩
     ·exact .inr ⟨e1,P,w1,e2,P,F1,K1,w1,rfl,s1,s2,s3,s4,s5,.inr e1,fun hG=>absurd hG hnG'⟩
     ·rcases t6 with e1 | e1
      ·exact .inl ⟨P2,F2,K2,w2,e1,e2,s1.trans t1,t2,s3.trans t3,by omega,.inl t4,fun hG=>absurd hG hnG'⟩
      ·exact .inr ⟨e1,P2,w2,e2,P2,F2,K2,w2,rfl,s1.trans t1,t2,s3.trans t3,by omega,.inl t4,.inr e1,fun hG=>absurd hG hnG'⟩
   rcases hN with ⟨P2,F2,K2,w2,e1,e2,hS⟩ | ⟨e1,P2,w2,e2,hQ⟩
   ·refine (hnext P2 F2 K2 w2 e1 e2 hS).mono fun e st' hq _=>?_
    cases e with
    | normal =>
     obtain ⟨P3,w3,rfl,F3,K3,hS3⟩:=hq
     simp only [blkE]
     have hk3:keepK [0,1,12,13] [(0,Slot.val (AVal.ptr (some (I.s,0)))),(1,.val (.int .i64 n)),(12,.val (.int .i64 m)),(13,.val (.int .i64 i))]=[(0,.val (.ptr (some (I.s,0)))),(1,.val (.int .i64 n)),(12,.val (.int .i64 m)),(13,.val (.int .i64 i))]:=by simp
     rw [hk3]
     refine CodeD.run hT hm (hinc P3 w3) ?_
     exact ⟨m - (i+1),by omega,i+1,P3,F3,K3,w3,by omega,rfl,hS3,rfl⟩
    | exit i=>exact hq.elim
    | ret=>exact hq.elim
   ·refine CodeD.run (e:=.ret) hT hm (hrest 10 e1 (by decide)) ?_
    exact .inr ⟨rfl,vv,P2,w2,hQ,by rw [e2]⟩
 ·obtain rfl:i=m:=by omega
  have ci:¬ (i:Int) < i:=by omega
  refine CodeD.seq nofun (CodeD.run (e:=.normal) (st':=⟨[(0,.val (.ptr (some (I.s,0)))),(1,.val (.int .i64 n)),(12,.val (.int .i64 i)),(13,.val (.int .i64 i)),(14,.val (.bool false))],⟨P,b,w1⟩⟩) hT hm (fun k'=>by simp (disch:=omega) [ci]) ?_)
  refine CodeD.seq nofun (CodeD.run (e:=.exit 0) (st':=⟨[(0,.val (.ptr (some (I.s,0)))),(1,.val (.int .i64 n))],⟨P,b,w1⟩⟩) hT hm (fun k'=>by simp (disch:=omega) []) ?_)
  exact .inl ⟨rfl,P,F1,K1,w1,⟨s1,s2,s3,s4,s5,s6⟩,rfl⟩
end
end
end Go.Abs.AbsBlo

namespace Go.Abs.AbsBlo
open Go.Abs.AbsBlb hiding T
open Go.Abs.Short
def RoomR (kl:List Bs) (H:List AObj) (I:SI) (F:Fl) (K:StU) (b n w:Nat) (v:AVal) (h':Heap):Prop :=
 ∃ H' F' K' w',h'=⟨H',b,w'⟩∧StF I H H'∧SO kl H' I F' K'∧FlE F F'∧min w b≤w'∧(w'≤I.hi∨(H'=H∧w'=w))∧((v = .int .i64 0∧Fits F' K' n)∨v = .int .i64 10)∧(Good F K n→v = .int .i64 0∧K'.ix=K.ix)
section
variable {E:Env} {kl:List Bs} {H:List AObj} {b:Nat} {I:SI} {F:Fl} {K:StU}
theorem fe580 {P:List AObj} {w w':Nat} {v:Int}:funcEnd code580 ⟨H,b,w⟩ (.ret,⟨[(4,.val (.int .i64 v))],⟨P,b,w'⟩⟩)=some (.int .i64 v,if w' < H.length then ⟨P,b,min w w'⟩ else ⟨H,b,w⟩):=by
 by_cases c:w' < H.length
 ·simp [funcEnd,code580,resultsL,result1,sget,tupled,finish,Heap.size,c]
 ·simp [funcEnd,code580,resultsL,result1,sget,tupled,finish,Heap.size,c,AVal.under]
theorem room_end {n w:Nat} {P:List AObj} {w1:Nat} {v:AVal} (hIH:I.hi < H.length) (h:RoomQ kl H I F K b n H.length v ⟨P,b,w1⟩) :
  ∃ h',funcEnd code580 ⟨H,b,w⟩ (.ret,⟨[(4,.val v)],⟨P,b,w1⟩⟩)=some (v,h')∧RoomR kl H I F K b n w v h':=by
 obtain ⟨H',F',K',w',e,s1,s2,s3,s4,s5,s6,s7⟩:=h
 cases e
 obtain ⟨x,rfl⟩:∃ x:Int,v = .int .i64 x:=by
  rcases s6 with ⟨rfl,-⟩ | rfl
  ·exact ⟨0,rfl⟩
  ·exact ⟨10,rfl⟩
 refine ⟨_,fe580,?_⟩
 rcases s5 with s5 | ⟨rfl,rfl⟩
 ·rw [if_pos (by omega)]
  exact ⟨P,F',K',min w w1,rfl,s1,s2,s3,by omega,.inl (by omega),s6,s7⟩
 ·rw [if_neg (by omega)]
  exact ⟨P,F',K',w,rfl,s1,s2,s3,cr _ _,.inr ⟨rfl,rfl⟩,s6,s7⟩
section
attribute [-simp] getElem?_pos getElem?_neg List.all_eq_true
attribute [local simp] qZ qS nltT nltF iltT iltF ileT nleT dj
theorem room_ok (hT:Agrees E T) (hm:E.P.follows .mixedOrders=true) (hF:IsCode E 617 code617) (hF2:IsCode E 599 code599) (hF3:IsCode E 580 code580) (h:SO kl H I F K) (hkl:∀ k ∈ kl,1≤k.length∧k.length≤64) (hkn:kl.length≤12) (hb:I.lo b) (hbN:b≤H.length) (hFn:0 < F.n) {n:Nat} (hn:n≤1000000000) (w:Nat) :
  CallD E 580 [.ptr (some (I.s,0)),.int .i64 n] ⟨H,b,w⟩ (RoomR kl H I F K b n w):=by
 have hIhi:=h.a.hi
 have hnb:=h.a.fl.nb.1
 have hln:=h.v.ln
 have gs:=h.a.s
 unfold StU.cells at gs
 refine CallD.of_code hF3 rfl ?_
 rw [body580]
 have hen:enter 0 [AVal.ptr (some (I.s,0)),.int .i64 n]=[(0,.val (.ptr (some (I.s,0)))),(1,.val (.int .i64 n))]:=rfl
 have hsz:(⟨H,b,w⟩:Heap).size=H.length:=rfl
 rw [hen]
 simp only [hsz]
 refine CodeD.seq nofun (CodeD.run (e:=.normal) (st':=⟨[(0,.val (.ptr (some (I.s,0)))),(1,.val (.int .i64 n))],⟨H,b,H.length⟩⟩) hT hm (fun k'=>by simp (disch:=omega) []) ?_)
 have e4:((4*K.secs.length:Nat):Int)=4*(K.secs.length:Int):=by omega
 refine CodeD.seq nofun ?_
 refine CodeD.seq nofun (CodeD.run (e:=.normal) (st':=⟨[(0,.val (.ptr (some (I.s,0)))),(1,.val (.int .i64 n)),(12,.val (.int .i64 (4*K.secs.length:Nat))),(13,.val (.int .i64 (0:Nat)))],⟨H,b,H.length⟩⟩) hT hm (fun k'=>by
  rw [e4]
  simp (disch:=omega) [gs]) ?_)
 refine CodeD.after (CodeD.block ((room_loop hT hm hF hF2 hkl hkn hb hbN hIhi hn (m:=4*K.secs.length) (k:=4*K.secs.length) ⟨by omega,by omega⟩ ⟨0,H,F,K,H.length,by omega,by omega,⟨.refl,h,.refl _,hbN,.inr ⟨rfl,rfl⟩,fun _=>.inl ⟨rfl,rfl,rfl⟩⟩,rfl⟩).mono fun e st hq _=>?_))
 rcases hq with ⟨rfl,P,F1,K1,w1,⟨s1,s2,s3,s4,s5,s6⟩,rfl⟩ | ⟨rfl,v,P,w1,hQ,rfl⟩
 ·simp only [blkE_e,if_true]
  have hk:keepK [0,1] [(0,Slot.val (AVal.ptr (some (I.s,0)))),(1,.val (.int .i64 n))]=[(0,.val (.ptr (some (I.s,0)))),(1,.val (.int .i64 n))]:=by simp
  rw [hk]
  have h597:=fun w=>dc sub (s597 (b:=b) (w:=w) s2.a hn)
  have hg:Good F K n→K1.ix=K.ix∧Fits F1 K1 n:=fun hG=>by
   rcases s6 hG with ⟨e,-⟩ | e
   ·omega
   ·exact e
  by_cases hf:Fits F1 K1 n
  ·have hft:(!decide (K1.head = -1) && decide (K1.at_+n≤F1.z))=true:=by simp [hf.1,hf.2]
   rw [hft] at h597
   refine CodeD.run (e:=.ret) (st':=⟨[(4,.val (.int .i64 0))],⟨P,b,w1⟩⟩) hT hm (fun k'=>by simp (disch:=omega) [z580,h597]) ?_
   obtain ⟨h',e1,e2⟩:=room_end (w:=w) hIhi (⟨P,F1,K1,w1,rfl,s1,s2,s3,s4,s5,.inl ⟨rfl,hf⟩,fun hG=>⟨rfl,(hg hG).1⟩⟩:RoomQ kl H I F K b n H.length (.int .i64 0) ⟨P,b,w1⟩)
   exact ⟨_,h',e1,e2⟩
  ·have hff:(!decide (K1.head = -1) && decide (K1.at_+n≤F1.z))=false:=by
    by_cases c1:K1.head = -1
    ·simp [c1]
    ·have:¬ K1.at_+n≤F1.z:=fun c2=>hf ⟨c1,c2⟩
     simp [this]
   rw [hff] at h597
   refine CodeD.run (e:=.ret) (st':=⟨[(4,.val (.int .i64 10))],⟨P,b,w1⟩⟩) hT hm (fun k'=>by simp (disch:=omega) [z580,h597]) ?_
   obtain ⟨h',e1,e2⟩:=room_end (w:=w) hIhi (⟨P,F1,K1,w1,rfl,s1,s2,s3,s4,s5,.inr rfl,fun hG=>absurd (hg hG).2 hf⟩:RoomQ kl H I F K b n H.length (.int .i64 10) ⟨P,b,w1⟩)
   exact ⟨_,h',e1,e2⟩
 ·simp only [blkE]
  obtain ⟨h',e1,e2⟩:=room_end (w:=w) hIhi hQ
  exact ⟨_,h',e1,e2⟩
end
end
end Go.Abs.AbsBlo

namespace Go.Abs.AbsBlo
open Go.Abs.AbsBlb hiding T
open Go.Abs.Short
def a549:ACode:=.after (.block 0 (.seq (R [0,5,6,15] [v 16 6,o 17 (.bin .neq (t 16) (n 0)),v 15 17])
 (.after (.cond (t 15) (.seq (R [4] [v 18 6,v 4 18])
 (.live [4] (.ret))) (.seq (.after (.region [⟨true,[],[v 20 5,o 21 (.callg 579 [t 20]),v 22 0,o 23 (.nilcheck (t 22)),o 24 (.faddr (t 23) 1),o 25 (.faddr (t 24) 1),o 26 (.load none (t 25)),o 27 (.bin .sub (t 26) (n 12)),o 28 (.bin .quo (t 27) (n 2))]⟩,⟨false,[],[o 29 (.bin .gtr (t 21) (t 28)),v 19 29]⟩]) [0,5,19])
 (.after (.cond (t 19) (.seq (R [4] [o 4 (.val (n 9))])
 (.live [4] (.ret))) (.skip)) [0,5]))) [0,5]))) [0,5]
def k549:ACode:=.seq (R [0,5,7,35] [v 34 7,o 35 (.bin .neq (t 34) (n 0))])
 (.after (.cond (t 35) (.seq (R [4] [v 36 7,v 4 36])
 (.live [4] (.ret))) (.skip)) [0,5])
def f549:ACode:=.seq (R [4] [v 37 0,v 38 0,v 39 5,o 40 (.callg 577 [t 38,t 39]),o 41 (.callg 578 [t 37,t 40]),v 4 41])
 (.live [4] (.ret))
theorem body549:code549.body = .seq (R [0,1] [o 4 (.val (n 0))])
 (.seq (.seq (R [0,1,9] [v 8 0,o 9 (.callg 561 [t 8])])
 (.after (.cond (t 9) (.seq (R [4] [o 4 (.val (n 5))])
 (.live [4] (.ret))) (.skip)) [0,1]))
 (.seq (R [0,5,6] [v 11 1,o 12 (.callg 581 [t 11]),v 10 12,o 13 (.extract (t 10) 0),o 14 (.extract (t 10) 1),v 5 13,v 6 14])
 (.seq a549
 (.seq (.seq (R [0,5,7] [v 30 0,v 31 5,o 32 (.callg 579 [t 31]),o 33 (.callg 580 [t 30,t 32]),v 7 33])
 k549)
 f549)))):=rfl
def GoodC (F:Fl) (K:StU) (L:List ChU):Prop:=¬ (L.foldl (fun S c=>addK S c.key) []).length < L.length∧sizes (L.map ChU.toR)+16≤(F.z - 12) / 2∧Good F K (sizes (L.map ChU.toR)+16)
def CommitQ (kl:List Bs) (H:List AObj) (I:SI) (F:Fl) (K:StU) (L:List ChU) (b w:Nat) (v:AVal) (h':Heap):Prop :=
 ∃ H' F' K' w' e,h'=⟨H',b,w'⟩∧StF I H H'∧SO kl H' I F' K'∧FlE F F'∧min w b≤w'∧(w'≤I.hi∨(H'=H∧w'=w))∧v = .int .i64 e ∧
  (GoodC F K L→e=0∧∃ K1 hd A,K1.ix=K.ix∧A.map Prod.fst=L.map ChU.toR∧K'.ix=(wroteK K1 hd A).ix)
section
variable {E:Env} {kl:List Bs} {H:List AObj} {b:Nat} {I:SI} {F:Fl} {K:StU}
theorem fe549 {P:List AObj} {w w':Nat} {v:Int}:funcEnd code549 ⟨H,b,w⟩ (.ret,⟨[(4,.val (.int .i64 v))],⟨P,b,w'⟩⟩)=some (.int .i64 v,if w' < H.length then ⟨P,b,min w w'⟩ else ⟨H,b,w⟩):=by
 by_cases c:w' < H.length
 ·simp [funcEnd,code549,resultsL,result1,sget,tupled,finish,Heap.size,c]
 ·simp [funcEnd,code549,resultsL,result1,sget,tupled,finish,Heap.size,c,AVal.under]
section
attribute [-simp] getElem?_pos getElem?_neg List.all_eq_true
attribute [local simp] qZ qS nltT nltF iltT iltF ileT nleT dj
theorem commit_ok (hT:Agrees E T) (hm:E.P.follows .mixedOrders=true) (hF:IsCode E 617 code617) (hF2:IsCode E 599 code599) (hF3:IsCode E 580 code580) (hF4:IsCode E 549 code549) (h:SO kl H I F K) (hkl:∀ k ∈ kl,1≤k.length∧k.length≤64) (hkn:kl.length≤12) (hb:I.lo b) (hbN:b≤H.length) (hFn:0 < F.n)
  {L:List ChU} {la:Option (Nat × Nat)} {lc:Option Nat} (hR:Row H 3 ChU.cells L la) (h0:L≠[]) (hLn:L.length≤16) (hL:∀ c ∈ L,c.fine H∧c.key ∈ kl) (w:Nat) :
  CallD E 549 [.ptr (some (I.s,0)),.slice la L.length lc] ⟨H,b,w⟩ (CommitQ kl H I F K L b w):=by
 have hIhi:=h.a.hi
 have hIfl:=ah h.a.fl.f
 have hI:I.s≤I.hi∧I.sa≤I.hi∧I.m≤I.hi∧I.fi.fb≤I.hi∧I.fi.fw≤I.hi:=by unfold SI.hi; omega
 have hnb:=h.a.fl.nb.2
 have hz:=h.v.gz
 refine CallD.of_code hF4 rfl ?_
 rw [body549]
 have hen:enter 0 [AVal.ptr (some (I.s,0)),.slice la L.length lc]=[(0,.val (.ptr (some (I.s,0)))),(1,.val (.slice la L.length lc))]:=rfl
 have hsz:(⟨H,b,w⟩:Heap).size=H.length:=rfl
 rw [hen]
 simp only [hsz]
 have h561:=fun w=>dc sub (s561 (b:=b) (w:=w) h.a)
 rw [h.v.dn] at h561
 have early:∀ (e:Int) (P:List AObj),¬ GoodC F K L→∃ v h',funcEnd code549 ⟨H,b,w⟩ (.ret,⟨[(4,.val (.int .i64 e))],⟨P,b,H.length⟩⟩)=some (v,h')∧CommitQ kl H I F K L b w v h':=fun e P hG=>by
  refine ⟨_,_,fe549,?_⟩
  rw [if_neg (by omega)]
  exact ⟨H,F,K,w,e,rfl,.refl,h,.refl _,cr _ _,.inr ⟨rfl,rfl⟩,rfl,fun g=>absurd g hG⟩
 refine CodeD.seq nofun (CodeD.run (e:=.normal) (st':=⟨[(0,.val (.ptr (some (I.s,0)))),(1,.val (.slice la L.length lc))],⟨H,b,H.length⟩⟩) hT hm (fun k'=>by simp (disch:=omega) []) ?_)
 refine CodeD.seq nofun (CodeD.run (e:=.normal) (st':=⟨[(0,.val (.ptr (some (I.s,0)))),(1,.val (.slice la L.length lc))],⟨H,b,H.length⟩⟩) hT hm (fun k'=>by simp (disch:=omega) [h561]) ?_)
 rcases p581 (b:=b) (lc:=lc) hR h0 hLn (fun c hc=>(hL c hc).1) hbN with ⟨hd,h581⟩ | ⟨hd,H1,A,x,hp,hx,hA,hnew,h581⟩
 ·have h581:=fun w=>dc sub (h581 w)
  refine CodeD.seq nofun (CodeD.run (e:=.normal) (st':=⟨[(0,.val (.ptr (some (I.s,0)))),(5,.val (.slice none 0 (some 0))),(6,.val (.int .i64 12))],⟨H,b,H.length⟩⟩) hT hm (fun k'=>by simp (disch:=omega) [h581]) ?_)
  refine CodeD.seq nofun (CodeD.run (e:=.ret) (st':=⟨[(4,.val (.int .i64 12))],⟨H,b,H.length⟩⟩) hT hm (fun k'=>by simp (disch:=omega) [a549]) ?_)
  exact early 12 H fun g=>g.1 hd
 ·have h581:=fun w=>dc sub (h581 w)
  refine CodeD.seq nofun (CodeD.run (e:=.normal) (st':=⟨[(0,.val (.ptr (some (I.s,0)))),(5,.val x),(6,.val (.int .i64 0))],⟨H1,b,H.length⟩⟩) hT hm (fun k'=>by simp (disch:=omega) [h581]) ?_)
  have hAne:A≠[]:=fun e=>by
   rw [e] at hA
   have:=congrArg List.length hA
   rw [bj,bj] at this
   exact h0 (bo this.symm)
  have hAl:A.length=L.length:=by
   have:=congrArg List.length hA
   rwa [bj,bj] at this
  rcases hx with ⟨e,-⟩ | ⟨-,q,hq,rfl,hrow⟩
  ·exact absurd e hAne
  ·have h1:SO kl H1 I F K:=⟨h.a.low (N:=H.length) ⟨hIhi,hIfl⟩ fun k o _ ho=>hp k o ho,h.v⟩
   have hpl:=hp.len
   have hrec:∀ p ∈ A,p.1.key ∈ kl∧p.1.count=0∧(p.1.kind=1∧p.1.blob.length≤4096∨p.1.kind=2∧p.1.blob=[]):=fun p hpA=>by
    have:p.1 ∈ A.map Prod.fst:=cg.2 ⟨p,hpA,rfl⟩
    rw [hA] at this
    obtain ⟨c,hc,e⟩:=cg.1 this
    obtain ⟨⟨-,-,-,-,g1⟩,g2⟩:=hL c hc
    rw [← e]
    unfold ChU.toR
    cases c.del
    ·exact ⟨g2,rfl,.inl ⟨rfl,g1⟩⟩
    ·exact ⟨g2,rfl,.inr ⟨rfl,rfl⟩⟩
   have hok:∀ p ∈ A,RV.ok H1 p:=fun p hpA=>by
    obtain ⟨g1,g2,g3⟩:=hrec p hpA
    have:=(hkl _ g1).2
    refine ⟨(hnew p hpA).1,by omega,?_⟩
    rcases g3 with ⟨-,g3⟩ | ⟨-,g3⟩
    ·omega
    ·rw [g3]; exact eo _
   have h579:=fun w=>dc sub (s579 (H:=H1) (b:=b) (w:=w) (L:=A) (a:=some (q,0)) (c:=none) (Row.mk0 (fun _=>rfl) hrow) (by omega) hAne hok)
   have hsl:=sizes_le hok
   rw [hA] at hsl h579
   have hzn:(0:Int)≤(((F.z - 12) / 2:Nat):Int)∧(((F.z - 12) / 2:Nat):Int)≤65536:=by omega
   have gs:=h1.a.s
   unfold StU.cells at gs
   have hq2:((F.z:Int) - 12).tdiv 2=(((F.z - 12) / 2:Nat):Int):=by
    rw [Int.tdiv_eq_ediv_of_nonneg (by omega)]; omega
   have hsm:sizes (L.map ChU.toR)≤48000000:=by omega
   by_cases hlong:sizes (L.map ChU.toR)+16≤(F.z - 12) / 2
   ·have hli:¬ ((((F.z - 12) / 2:Nat):Int) < ((sizes (L.map ChU.toR)+16:Nat):Int)):=by omega
    refine CodeD.seq nofun (CodeD.run (e:=.normal) (st':=⟨[(0,.val (.ptr (some (I.s,0)))),(5,.val (.slice (some (q,0)) A.length none))],⟨H1,b,H.length⟩⟩) hT hm (fun k'=>by
     generalize ((sizes (L.map ChU.toR)+16:Nat):Int)=sn at *
     generalize (((F.z - 12) / 2:Nat):Int)=zn at *
     simp (disch:=omega) [a549,h579,gs,hq2,hli]) ?_)
    refine CodeD.seq nofun ?_
    refine CodeD.seq nofun (CodeD.after (CodeD.region hT hm ?_))
    refine OpsD.run (l:=[v 30 0,v 31 5,o 32 (.callg 579 [t 31])]) (r:=[o 33 (.callg 580 [t 30,t 32]),v 7 33]) (s1:=[(32,.val (.int .i64 (sizes (L.map ChU.toR)+16:Nat))),(31,.val (.slice (some (q,0)) A.length none)),(30,.val (.ptr (some (I.s,0)))),(0,.val (.ptr (some (I.s,0)))),(5,.val (.slice (some (q,0)) A.length none))]) (h1:=⟨H1,b,H.length⟩) (fun k'=>by
     generalize ((sizes (L.map ChU.toR)+16:Nat):Int)=sn at *
     simp (disch:=omega) [h579]) ?_
    refine OpsD.call (g:=580) (xs:=[t 30,t 32]) rfl rfl rfl (room_ok hT hm hF hF2 hF3 h1 hkl hkn hb (by omega) hFn (n:=sizes (L.map ChU.toR)+16) (by omega) H.length) fun vv hh hR'=>?_
    obtain ⟨H2,F2,K2,w2,rfl,s1,s2,s3,s4,s5,s6,s7⟩:=hR'
    refine OpsD.run (l:=[v 7 33]) (r:=[]) (s1:=[(7,.val vv),(33,.val vv),(32,.val (.int .i64 (sizes (L.map ChU.toR)+16:Nat))),(31,.val (.slice (some (q,0)) A.length none)),(30,.val (.ptr (some (I.s,0)))),(0,.val (.ptr (some (I.s,0)))),(5,.val (.slice (some (q,0)) A.length none))]) (h1:=⟨H2,b,w2⟩) (fun k'=>by simp (disch:=omega) []) (OpsD.done ?_)
    simp only []
    have hk1:keepK [0,5,7] [(7,Slot.val vv),(33,.val vv),(32,.val (.int .i64 (sizes (L.map ChU.toR)+16:Nat))),(31,.val (.slice (some (q,0)) A.length none)),(30,.val (.ptr (some (I.s,0)))),(0,.val (.ptr (some (I.s,0)))),(5,.val (.slice (some (q,0)) A.length none))]=[(0,.val (.ptr (some (I.s,0)))),(5,.val (.slice (some (q,0)) A.length none)),(7,.val vv)]:=by simp
    rw [hk1]
    have hI1:StF I H H1:=⟨hpl,fun k o ho _ _ _ _ _=>hp k o ho⟩
    rcases s6 with ⟨rfl,hfit⟩ | rfl
    ·refine CodeD.run (e:=.normal) (st':=⟨[(0,.val (.ptr (some (I.s,0)))),(5,.val (.slice (some (q,0)) A.length none))],⟨H2,b,w2⟩⟩) hT hm (fun k'=>by simp (disch:=omega) [k549]) ?_
     have hrow2:=s1.above hIhi _ _ hq hrow
     have hnew2:∀ p ∈ A,p.new H.length H2:=fun p hpA=>(hnew p hpA).mono s1.len fun k X hk ho=>s1.above hIhi k _ hk ho
     obtain ⟨hd2,hhd⟩:∃ hd:Nat,K2.head=hd:=by
      rcases s2.v.hd with e | ⟨y,e,-⟩
      ·exact absurd e hfit.1
      ·exact ⟨y,e⟩
     obtain ⟨H3,F3,K3,n3,k1,k2,k3,k4,k5,k6,k7,k8,k9⟩:=q577 (b:=b) (lc:=none) s2 hb (by have:=s1.len; omega) (L:=A) (Row.mk0 (fun _=>rfl) hrow2) hAne (by omega) hkl (fun p hpA=>⟨⟨(hnew2 p hpA).1,fun qq o nn c e=>by have:=((hnew2 p hpA).2 qq o nn c e).1; omega⟩,hrec p hpA⟩) hhd (by rw [hA]; have:=hfit.2; omega)
     obtain ⟨H4,j1,j2,j3,j4⟩:=p578 (b:=b) k2.a hb
     have h577:=fun w=>dc sub (k9 w)
     have h578:=fun w=>dc sub (j4 w)
     have hb0:=hb.1
     have hn3:=k8 w2
     refine CodeD.run (e:=.ret) (st':=⟨[(4,.val (.int .i64 0))],⟨H4,b,min (n3 w2) I.s⟩⟩) hT hm (fun k'=>by simp (disch:=omega) [f549,h577,h578]) ?_
     refine ⟨_,_,fe549,?_⟩
     rw [if_pos (by omega)]
     refine ⟨H4,F3,K3,min w (min (n3 w2) I.s),0,rfl,((hI1.trans s1).trans k1).trans j1,⟨j2,k2.v⟩,s3.trans k3,by omega,.inl (by omega),rfl,fun hG=>⟨rfl,K2,hd2,A,(s7 hG.2.2).2,hA,k6⟩⟩
    ·refine CodeD.run (e:=.ret) (st':=⟨[(4,.val (.int .i64 10))],⟨H2,b,w2⟩⟩) hT hm (fun k'=>by simp (disch:=omega) [k549]) ?_
     refine ⟨_,_,fe549,?_⟩
     have hnG:¬ GoodC F K L:=fun hG=>by
      have:=(s7 hG.2.2).1
      cases this
     rcases s5 with s5 | ⟨rfl,rfl⟩
     ·rw [if_pos (by omega)]
      exact ⟨H2,F2,K2,min w w2,10,rfl,hI1.trans s1,s2,s3,by omega,.inl (by omega),rfl,fun g=>absurd g hnG⟩
     ·rw [if_neg (by omega)]
      exact ⟨H,F,K,w,10,rfl,.refl,h,.refl _,cr _ _,.inr ⟨rfl,rfl⟩,rfl,fun g=>absurd g hnG⟩
   ·have hli:((((F.z - 12) / 2:Nat):Int) < ((sizes (L.map ChU.toR)+16:Nat):Int)):=by omega
    refine CodeD.seq nofun (CodeD.run (e:=.ret) (st':=⟨[(4,.val (.int .i64 9))],⟨H1,b,H.length⟩⟩) hT hm (fun k'=>by
     generalize ((sizes (L.map ChU.toR)+16:Nat):Int)=sn at *
     generalize (((F.z - 12) / 2:Nat):Int)=zn at *
     simp (disch:=omega) [a549,h579,gs,hq2,hli]) ?_)
    exact early 9 H1 fun g=>hlong g.2.1
end
end
end Go.Abs.AbsBlo

namespace Go.Abs.AbsBlo
open Go.Abs.AbsBlb hiding T
open Go.Abs.Short
section
variable {H:List AObj} {b w:Nat}
theorem s567 {p o n:Nat} {c:Option Nat} {X:List AVal} (hp:H[p]? = some (.cells 1 X)) (hX:X[o]? = some (.int .u8 255)) (hn:0 < n∧n≤8192) :
  xCall T 567 [.slice (some (p,o)) 1 c,.int .i64 n] ⟨H,b,w⟩=some (.slice (some (H.length,0)) n (some n),⟨H++[.cells 1 ((List.replicate n (255:UInt8)).map u8V)],b,w⟩):=by
 rw [xLib_eq' T t567 _ _ (F:=repF)]
 have hr:List.replicate n (AVal.int .u8 255)=(List.replicate n (255:UInt8)).map u8V:=by rw [List.map_replicate]; rfl
 have e1:(0:Int) < n∧(n:Int)≤8192:=by omega
 unfold repF
 simp only [Heap.get,hp,hX,e1,and_self,if_true,Int.toNat_natCast,hr,bq,Heap.puts,List.foldl_nil,iy,Heap.push,Heap.size]
theorem s556 {n z lim:Nat} (hn:1≤n∧n≤64) (hz:64≤z∧z≤65536) (hl:1≤lim∧lim≤1048576) (hnz:n*z≤8192) :
  xCall T 556 [.agg [.int .i64 n,.int .i64 z,.int .i64 lim]] ⟨H,b,w⟩=some (.tuple [.ptr (some (H.length,0)),.int .i64 0],
   ⟨H++[.cells 9 [.int .i64 n,.int .i64 z,.int .i64 lim,.slice (some (H.length+1,0)) (n*z) (some (n*z)),.slice (some (H.length+2,0)) n (some n),.bool false,.int .i64 (-1),.int .i64 0,.int .u8 0],.cells 1 ((List.replicate (n*z) (255:UInt8)).map u8V),.cells 1 (List.replicate n (.int .i64 0))],b,w⟩):=by
 have h568:=fun (x lo hi:Int) P w=>dc sub (s568 (H:=P) (b:=b) (w:=w) (x:=x) (lo:=lo) (hi:=hi))
 have q1:((1:Int)≤n)∧((n:Int)≤64):=by omega
 have q2:((64:Int)≤z)∧((z:Int)≤65536):=by omega
 have q3:((1:Int)≤lim)∧((lim:Int)≤1048576):=by omega
 obtain ⟨q1a,q1b⟩:=q1
 obtain ⟨q2a,q2b⟩:=q2
 obtain ⟨q3a,q3b⟩:=q3
 have hmi:(n:Int)*(z:Int)=((n*z:Nat):Int):=(Int.natCast_mul n z).symm
 have hnz0:0 < n*z:=Nat.mul_pos (by omega) (by omega)
 have h567:=fun w=>s567 (H:=H++[.cells 1 [.int .u8 255]]) (b:=b) (w:=w) (p:=H.length) (o:=0) (c:=some 1) (n:=n*z) (X:=[.int .u8 255]) (fp _ _) rfl ⟨hnz0,hnz⟩
 have hids:AVal.idsL ((List.replicate (n*z) (255:UInt8)).map u8V)=[]:=ju _
 have hren:∀ g,AVal.renL g ((List.replicate (n*z) (255:UInt8)).map u8V)=(List.replicate (n*z) (255:UInt8)).map u8V:=fun g=>renL_u8 g _
 have hids2:AVal.idsL (List.replicate n (AVal.int .i64 0))=[]:=AbsBlb.idsL_none fun x hx=>by rw [List.eq_of_mem_replicate hx]; simp [AVal.ids]
 have hren2:∀ g,AVal.renL g (List.replicate n (AVal.int .i64 0))=List.replicate n (.int .i64 0):=fun g=>AbsBlb.renL_none fun x hx=>by rw [List.eq_of_mem_replicate hx]; simp [AVal.ren]
 simp only [ap,bv,dw,c6,aw,ff,eh] at h567
 generalize (List.replicate (n*z) (255:UInt8)).map u8V=Y at *
 generalize n*z=nz at *
 simp (maxSteps:=3000000) (disch:=omega) [-getElem?_pos,-getElem?_neg,-List.all_eq_true,qZ,qS,nltT,nltF,iltT,iltF,ileT,nleT,dj,-sget,sgetN,sgetH,sgetT,-rdIds,jr,js,im,ba t556,code556,h568,q1a,q1b,q2a,q2b,q3a,q3b,hmi,h567,jk,jl,idsC',hids,hren,hids2,hren2,ge]
end
end Go.Abs.AbsBlo

namespace Go.Abs.AbsBlo
open Go.Abs.AbsBlb hiding T
open Go.Abs.Short
def z0:Sec:=⟨0,0,0⟩
def mtC (fl n z lim m:Nat) (x:AVal):List AVal:=[.ptr (some (fl,0)),.int .i64 n,.int .i64 z,.int .i64 lim,x,.map (some m),.int .i64 (-1),.int .i64 0,.int .u32 0,.int .u32 0,.bool false]
structure MT (H P:List AObj) (fl n z lim c2 s m i:Nat) (x:AVal):Prop where
  pre:Pre H P
  hc:P[c2]? = some (.cells 1 [.ptr (some (s,0))])
  hs:P[s]? = some (.cells 11 (mtC fl n z lim m x))
  hm:P[m]? = some (.map [] 0)
  hx:FRow H.length 3 Sec.cells (List.replicate i z0) P x
  nc:H.length≤c2
  ns:H.length≤s
  nm:H.length≤m
section
variable {H:List AObj} {b:Nat} {fi:FI} {F:Fl}
theorem blank_look (h:FlA H fi F) (hb:∀ j,j < F.b.length→F.b[j]? = some 255) (hw:∀ i,i < F.n→F.w[i]? = some 0) {i:Nat} (hi:i < F.n):F.look i=z0:=by
  obtain ⟨h1,h2⟩:=h.sec_len hi
  unfold Fl.look
  rw [hw i hi,lookB_blank]
  · rfl
  · intro j hj
    rw [h1] at hj
    rw [Fl.sec_get hj]
    exact hb _ (by omega)
section
attribute [-simp] getElem?_pos getElem?_neg List.all_eq_true
attribute [local simp] qZ qS nltT nltF iltT iltF ileT nleT dj
theorem l555 (h:FlA H fi F) (hbk:∀ j,j < F.b.length→F.b[j]? = some 255) (hw:∀ i,i < F.n→F.w[i]? = some 0) (hz:12≤F.z) (hb:b≤H.length) {c2 s m:Nat}:∀ (j i:Nat) (P:List AObj) (x:AVal) (w:Nat),i+j=F.n→MT H P fi.fl F.n F.z F.lim c2 s m i x→H.length≤w →
    ∃ P' x' w',MT H P' fi.fl F.n F.z F.lim c2 s m F.n x'∧H.length≤w'∧∀ {β:Type} (k:AExit→St→Option β),
      xK T (.loop code555L0) ⟨[(0,.val (.ptr (some (fi.fl,0)))),(2,.val (.ptr (some (c2,0)))),(4,.val (.slice none 0 (some 0))),(22,.val (.int .i64 F.n)),(23,.val (.int .i64 i))],⟨P,b,w⟩⟩ (k:=⟨k⟩) =
        k (.exit 0) ⟨[(2,.val (.ptr (some (c2,0)))),(4,.val (.slice none 0 (some 0)))],⟨P',b,w'⟩⟩
  | 0,i,P,x,w,hi,hM,hw'=>by
    obtain rfl:i=F.n:=by omega
    refine ⟨P,x,w,hM,hw',fun k=>?_⟩
    rw [b9]
    simp (disch:=omega) [code555L0]
  | j+1,i,P,x,w,hi,hM,hw'=>by
    have hnb:=h.nb.1
    have hfP:FlA P fi F:=h.keep fun k o ho _=>hM.pre k o ho
    have hPl:=hM.pre.len
    have hlk:=blank_look h hbk hw (i:=i) (by omega)
    have h564:=fun w=>dc sub (s564 (b:=b) (w:=w) hfP (i:=i) (by omega) hz (by omega))
    rw [hlk] at h564
    have hzc:z0.cells=[.int .i64 0,.int .u32 0,.int .i64 0]:=rfl
    rw [hzc] at h564
    have hcl:=ah hM.hc
    have hsl:=ah hM.hs
    have hml:=ah hM.hm
    have hrep:List.replicate i z0++[z0]=List.replicate (i+1) z0:=(List.replicate_succ' ..).symm
    have hids:AVal.idsL ((List.replicate (i+1) z0).flatMap Sec.cells)=[]:=idsL_sec _
    have hne1:c2≠s:=fun e=>by have:=hM.hc; rw [e,hM.hs] at this; simp [mtC] at this
    have hne2:m≠s:=fun e=>by have:=hM.hm; rw [e,hM.hs] at this; simp [mtC] at this
    have e2:((i+1:Nat):Int)=(i:Int)+1:=by omega
    have g1:=hM.hc
    have g2:=hM.hs
    unfold mtC at g2
    have hsb:b≤s:=by have:=hM.ns; omega
    rcases hM.hx with ⟨e0,rfl⟩ | ⟨e0,q,hq,rfl,hrow⟩
    · have hi0:i=0:=by
        have:=congrArg List.length e0
        simpa using this
      subst hi0
      have happ:∀ w,aAppend 3 24 ⟨P++[.cells 3 z0.cells],b,w⟩ (.slice none 0 (some 0)) (.slice (some (P.length,0)) 1 (some 1))=some (.slice (some (P.length+1,0)) 1 none,⟨P++[.cells 3 z0.cells,.cells 3 z0.cells],b,w⟩):=fun w=>by
        have hz:rowOf 3 ⟨P++[.cells 3 z0.cells],b,w⟩ (.slice (some (P.length,0)) 1 (some 1))=some z0.cells:=rowOfC (by show (P++[AObj.cells 3 z0.cells])[P.length]? = _; rw [fp]; rfl) rfl
        unfold aAppend
        simp only [hz,rowOf0,aApp,alen]
        simp [Heap.push,Heap.size]
      obtain ⟨P',x',w',i1,i2,i3⟩:=l555 h hbk hw hz hb (c2:=c2) (s:=s) (m:=m) j 1 ((P++[AObj.cells 3 z0.cells,AObj.cells 3 z0.cells]).set s (.cells 11 (mtC fi.fl F.n F.z F.lim m (.slice (some (P.length+1,0)) 1 none)))) (.slice (some (P.length+1,0)) 1 none) (min w s) (by omega)
        ⟨fun k o hk=>by
          have:=ah hk
          have hns:=hM.ns
          rw [aq (by omega),ag (by omega)]; exact hM.pre k o hk,
         by rw [aq hne1.symm,ag hcl]; exact hM.hc,
         db (by rw [ap]; omega),
         by rw [aq hne2.symm,ag hml]; exact hM.hm,
         .inr ⟨by decide,P.length+1,by omega,rfl,by rw [aq (by omega),iw]; rfl⟩,hM.nc,hM.ns,hM.nm⟩ (by have:=hM.ns; omega)
      refine ⟨P',x',w',i1,i2,fun k=>?_⟩
      have ih:=i3 k
      have hn1:(1:Int)≤F.n:=by omega
      simp only [a9] at h564
      rw [b9,← ih]
      have hg3:(P++[AObj.cells 3 z0.cells,.cells 3 z0.cells])[P.length+1]? = some (.cells 3 z0.cells):=iw _ _ 1
      have hg4:=fun X=>(ag (l₂:=X) hsl).trans g2
      have hg5:=fun X=>(ag (l₂:=X) hcl).trans g1
      unfold mtC
      rw [hzc] at happ hg3 ⊢
      generalize ACode.loop code555L0=LL
      simp (disch:=omega) [code555L0,-aAppend,-sget,sgetN,sgetH,sgetT,-rdIds,jr,js,im,ge,h564,g1,g2,hg3,hg4,hg5,happ,hsb,hn1]
    · have hi0:0 < i:=by
        cases i with
        | zero=>exact absurd rfl e0
        | succ i=>omega
      simp only [bg] at g2
      have hql:=ah hrow
      have hqs:q≠s:=fun e=>by rw [e,hM.hs] at hrow; simp [mtC] at hrow
      have hqc:q≠c2:=fun e=>by rw [e,hM.hc] at hrow; simp at hrow
      have hqm:q≠m:=fun e=>by rw [e,hM.hm] at hrow; simp at hrow
      have hflen:((List.replicate i z0).flatMap Sec.cells).length=i*3:=by rw [flat_len Sec.cells 3 (fun _=>rfl)]; simp
      have hfl2:(List.replicate i z0).flatMap Sec.cells++z0.cells=(List.replicate (i+1) z0).flatMap Sec.cells:=by rw [← hrep,List.flatMap_append]; simp
      have happ:∀ w,aAppend 3 24 ⟨P++[.cells 3 z0.cells],b,w⟩ (.slice (some (q,0)) i none) (.slice (some (P.length,0)) 1 (some 1))=some (.slice (some (P.length+1,0)) (i+1) none,⟨P.set q .dead++[.cells 3 z0.cells,.cells 3 ((List.replicate (i+1) z0).flatMap Sec.cells)],b,min w q⟩):=fun w=>by
        have hz:rowOf 3 ⟨P++[.cells 3 z0.cells],b,w⟩ (.slice (some (P.length,0)) 1 (some 1))=some z0.cells:=rowOfC (by show (P++[AObj.cells 3 z0.cells])[P.length]? = _; rw [fp]; rfl) rfl
        have h5:(P++[AObj.cells 3 z0.cells])[q]? = some (.cells 3 ((List.replicate i z0).flatMap Sec.cells)):=by rw [ag hql]; exact hrow
        have hz1:rowOf 3 ⟨P++[.cells 3 z0.cells],b,w⟩ (.slice (some (q,0)) i none)=some ((List.replicate i z0).flatMap Sec.cells):=rowOfC h5 hflen
        have hr:rowIs ⟨P++[.cells 3 z0.cells],b,w⟩ q 3=true:=by
          unfold rowIs Heap.get
          simp only [h5]
          simp
        unfold aAppend
        simp only [hz,hz1,aApp,alen]
        have q1:¬ (1:Nat)=0:=by decide
        have q2:(i+1)*24≤140737488355328∧i+1≤9223372036854775807:=⟨by omega,by omega⟩
        have q3:¬ (none:Option Nat)=some i:=by simp
        have q4:(⟨P++[AObj.cells 3 z0.cells],b,w⟩:Heap).base≤q∧rowIs ⟨P++[AObj.cells 3 z0.cells],b,w⟩ q 3=true:=⟨by show b≤q; omega,hr⟩
        have hs:(P++[AObj.cells 3 z0.cells]).length=P.length+1:=by simp
        simp only [eq_false q1,eq_true q2,eq_false q3,eq_true q4,if_false,if_true]
        simp only [Heap.push,Heap.put,Heap.size,List.set_append_left _ _ hql,av,hs,hfl2,aw,ff,eh]
      have hl4:(P.set q .dead++[AObj.cells 3 z0.cells,.cells 3 ((List.replicate (i+1) z0).flatMap Sec.cells)]).length=P.length+2:=by simp
      have hl5:(P.set q AObj.dead).length=P.length:=av
      have up:∀ k o,k≠q→P[k]? = some o→(P.set q .dead++[AObj.cells 3 z0.cells,.cells 3 ((List.replicate (i+1) z0).flatMap Sec.cells)])[k]? = some o:=fun k o hk ho=>by
        rw [ag (by rw [hl5]; exact ah ho),aq (fun e=>hk e.symm)]; exact ho
      have hg3:(P.set q .dead++[AObj.cells 3 z0.cells,.cells 3 ((List.replicate (i+1) z0).flatMap Sec.cells)])[P.length+1]? = some (.cells 3 ((List.replicate (i+1) z0).flatMap Sec.cells)):=by
        rw [← hl5,iw]; rfl
      have hgq:(P.set q .dead++[AObj.cells 3 z0.cells,.cells 3 ((List.replicate (i+1) z0).flatMap Sec.cells)])[q]? = some .dead:=by
        rw [ag (by rw [hl5]; exact hql),db hql]
      have us:=up _ _ hqs.symm hM.hs
      have uc:=up _ _ hqc.symm hM.hc
      have um:=up _ _ hqm.symm hM.hm
      have upre:∀ k o,H[k]? = some o→(P.set q .dead++[AObj.cells 3 z0.cells,.cells 3 ((List.replicate (i+1) z0).flatMap Sec.cells)])[k]? = some o:=fun k o hk=>up k o (by have:=ah hk; omega) (hM.pre k o hk)
      obtain ⟨P',x',w',i1,i2,i3⟩:=l555 h hbk hw hz hb (c2:=c2) (s:=s) (m:=m) j (i+1) ((P.set q .dead++[AObj.cells 3 z0.cells,.cells 3 ((List.replicate (i+1) z0).flatMap Sec.cells)]).set s (.cells 11 (mtC fi.fl F.n F.z F.lim m (.slice (some (P.length+1,0)) (i+1) none)))) (.slice (some (P.length+1,0)) (i+1) none) (min (min w q) s) (by omega)
        ⟨fun k o hk=>by
          have:=ah hk
          have hns:=hM.ns
          rw [aq (by omega)]; exact upre k o hk,
         by rw [aq hne1.symm]; exact uc,
         db (by rw [hl4]; omega),
         by rw [aq hne2.symm]; exact um,
         .inr ⟨by simp,P.length+1,by omega,by rw [bg],by rw [aq (by omega)]; exact hg3⟩,hM.nc,hM.ns,hM.nm⟩ (by have:=hM.ns; omega)
      refine ⟨P',x',w',i1,i2,fun k=>?_⟩
      have ih:=i3 k
      rw [e2] at ih
      have hni:(i:Int) < F.n:=by omega
      have hqne:¬ q=P.length+1:=by omega
      rw [b9,← ih]
      have hg4:=fun X=>(ag (l₂:=X) hsl).trans g2
      have hg5:=fun X=>(ag (l₂:=X) hcl).trans g1
      have hg6:=fun X=>(ag (l₂:=X) hql).trans hrow
      unfold mtC at us ⊢
      rw [hzc] at happ hg3 us hl4 hgq ⊢
      generalize (List.replicate (i+1) z0).flatMap Sec.cells=Y at *
      generalize (List.replicate i z0).flatMap Sec.cells=Y0 at *
      generalize ACode.loop code555L0=LL
      simp (disch:=omega) [code555L0,-aAppend,-sget,sgetN,sgetH,sgetT,-rdIds,jr,js,im,ge,h564,g1,g2,hg3,hg4,hg5,hg6,happ,hsb,hni,hids,hl4,hgq,us,hqne,hqc,hqs]
end
end
end Go.Abs.AbsBlo

namespace Go.Abs.AbsBlo
open Go.Abs.AbsBlb hiding T
open Go.Abs.Short
theorem finish_cases2 {h0 h:Heap} {v:AVal} (hv:v.under h0.size=false) :
  (∃ w,finish h0 v h=(v,⟨h.objs,h.base,w⟩)∧(w=min h0.wmin h.wmin∨(w=h0.wmin∧h0.size≤h.wmin))) ∨
  (h0.size≤h.wmin∧∃ f I X,finish h0 v h=(v.ren f,⟨h0.objs++X,h0.base,h0.wmin⟩)∧Moves f I h0.size h.objs (h0.objs++X)∧(∀ j ∈ v.ids,h0.size≤j→I j)∧∀ i,i < h0.size→f i=i):=by
 unfold finish
 by_cases hw:h.wmin < h0.size
 ·rw [if_pos hw]; exact .inl ⟨_,rfl,.inl rfl⟩
 ·rw [if_neg hw,hv]
  simp only [bw,if_false]
  generalize hk:reach h h0.size 1000 v.ids []=k
  have hge:∀ i ∈ k,h0.size≤i:=by rw [← hk]; exact reach_ge _ _ _ (by simp)
  split
  ·rename_i hok
   refine .inr ⟨by omega,fun i=>if i < h0.size then i else h0.size+idxIn i k,fun i=>i ∈ k,_,rfl,⟨fun i obj hi ho=>?_,fun i obj hi ho j hj hn=>?_,fun i hi=>?_⟩,fun j hj hn=>?_,fun i hi=>if_pos hi⟩
   ·have h1:=hge i hi
    obtain ⟨h2,h3⟩:=idxIn_lt hi
    have h4:¬ i < h0.size:=by omega
    simp only [if_neg h4]
    have h5:h0.size=h0.objs.length:=rfl
    rw [h5,au (by omega),gg,bk,h3]
    have h6:h.get i=some obj:=ho
    simp only [bq,h6,df]
   ·rw [al] at hok
    have h6:h.get i=some obj:=ho
    have:=hok j (eg _ (da.2 ⟨i,hi,by rw [h6]; exact hj⟩))
    simp only [cd,decide_eq_true_eq] at this
    rcases this with h7 | h7
    ·omega
    ·simpa using h7
   ·show h0.size≤if i < h0.size then i else h0.size+idxIn i k
    rw [if_neg (by omega)]; omega
   ·rw [al] at hok
    have:=hok j (c8 _ hj)
    simp only [cd,decide_eq_true_eq] at this
    rcases this with h7 | h7
    ·omega
    ·simpa using h7
  ·exact .inl ⟨_,rfl,.inr ⟨rfl,by omega⟩⟩
theorem finish_any2 {O P:List AObj} {b w':Nat} {v:AVal} (hv:v.under O.length=false) (hw:O.length≤w') :
  (∀ w,finish ⟨O,b,w⟩ v ⟨P,b,w'⟩=(v,⟨P,b,w⟩)) ∨
  (∃ f I X,(∀ w,finish ⟨O,b,w⟩ v ⟨P,b,w'⟩=(v.ren f,⟨O++X,b,w⟩))∧Moves f I O.length P (O++X)∧(∀ j ∈ v.ids,O.length≤j→I j)∧∀ i,i < O.length→f i=i):=by
 rcases finish_cases2 (h0:=⟨O,b,0⟩) (h:=⟨P,b,w'⟩) hv with ⟨w1,e,-⟩ | ⟨-,f,I,X,e,hm,hi,hf⟩
 ·exact .inl fun w=>by rw [finish_w hw,e]
 ·exact .inr ⟨f,I,X,fun w=>by rw [finish_w hw,e],hm,hi,hf⟩
section
variable {H:List AObj} {b w:Nat} {fi:FI} {F:Fl}
section
attribute [-simp] getElem?_pos getElem?_neg List.all_eq_true
attribute [local simp] qZ qS nltT nltF iltT iltF ileT nleT dj
theorem s572 {g:Nat} {am cm:List AVal}:xCall T 572 [.slice none 0 (some 0),.func g am cm] ⟨H,b,w⟩=some (.tuple [],⟨H,b,w⟩):=by
 have h606:∀ w,xCall T 606 [.slice none 0 (some 0),.int .i64 0,.int .i64 0,.func g am cm] ⟨H,b,w⟩=some (.tuple [],⟨H,b,w⟩):=fun w=>by
  simp (disch:=omega) [ba (sub _ _ AbsBlb.t606),code606,b9,code606L1]
 have h590:∀ w,xCall T 590 [.slice none 0 (some 0),.int .i64 0,.func g am cm] ⟨H,b,w⟩=some (.tuple [],⟨H,b,w⟩):=fun w=>by
  simp (disch:=omega) [ba (sub _ _ AbsBlb.t590),code590,b9,code590L1,code590L2,h606]
 simp (disch:=omega) [ba (sub _ _ AbsBlb.t572),code572,h590]
theorem s570 {fl n z lim m s:Nat} {x:AVal} (hs:H[s]? = some (.cells 11 (mtC fl n z lim m x))) (hb:b≤s):xCall T 570 [.ptr (some (s,0)),.slice none 0 (some 0)] ⟨H,b,w⟩=some (.int .i64 0,⟨(H++[AObj.map [] 0]).set s (.cells 11 (mtC fl n z lim H.length x)),b,min w s⟩):=by
 have hsl:=ah hs
 unfold mtC at hs ⊢
 have hs2:=(ag (l₂:=[AObj.map [] 0]) hsl).trans hs
 have hs3:∀ o X,(H.set s o++X)[s]? = some o:=fun o X=>by rw [ag (by rw [av]; exact hsl),db hsl]
 have hs4:∀ o o' X,(H.set s o++X).set s o'=H.set s o'++X:=fun o o' X=>by rw [List.set_append_left _ _ (by rw [av]; exact hsl),List.set_set]
 have hs5:∀ o' X,(H++X).set s o'=H.set s o'++X:=fun o' X=>by rw [List.set_append_left _ _ hsl]
 rw [hs5]
 simp (disch:=omega) [ba t570,code570,b9,code570L0,hs,hs2,hb,hs3,hs4,hs5]
end
def K0 (n:Nat):StU:=⟨List.replicate n z0,[],0,-1,0,0,0,false⟩
theorem cnt_rep (lim:Int) (n:Nat):∀ i,i≤n→cnt (opn lim) (List.replicate n z0) i=i
 | 0,_=>rfl
 | i+1,hi=>by
  have ih:=cnt_rep lim n i (by omega)
  have hx:(List.replicate n z0)[i]? = some z0:=by rw [d7,if_pos (by omega)]
  have ho:opn lim z0=true:=by simp [opn,z0]
  simp only [cnt,hx,ho,if_true,ih]
theorem p555 (h:FlA H fi F) (hbk:∀ j,j < F.b.length→F.b[j]? = some 255) (hw:∀ i,i < F.n→F.w[i]? = some 0) (hz:12≤F.z) (hn0:0 < F.n) (hb:b≤H.length) :
  ∃ H' I,Pre H H'∧I.fi=fi∧H.length≤I.s∧H.length≤I.sa∧H.length≤I.m∧StA H' I F (K0 F.n)∧∀ w,xCall T 555 [.ptr (some (fi.fl,0))] ⟨H,b,w⟩=some (.tuple [.ptr (some (I.s,0)),.int .i64 0],⟨H',b,w⟩):=by
 have hnb:=h.nb.1
 have hfl:=ah h.f
 have h573:=fun X w=>dc sub (s573 (H:=H++X) (b:=b) (w:=w) (h.app X))
 have g0:=fp H [AObj.cells 1 [.ptr (some (H.length+2,0))],.map [] 0,.cells 11 (mtC fi.fl F.n F.z F.lim (H.length+1) (.slice none 0 (some 0)))]
 have gm:=iw H [AObj.cells 1 [.ptr (some (H.length+2,0))],.map [] 0,.cells 11 (mtC fi.fl F.n F.z F.lim (H.length+1) (.slice none 0 (some 0)))] 1
 have gs:=iw H [AObj.cells 1 [.ptr (some (H.length+2,0))],.map [] 0,.cells 11 (mtC fi.fl F.n F.z F.lim (H.length+1) (.slice none 0 (some 0)))] 2
 obtain ⟨P1,x1,w1,i1,i2,i3⟩:=l555 (b:=b) h hbk hw hz hb (c2:=H.length) (s:=H.length+2) (m:=H.length+1) F.n 0 (H++[AObj.cells 1 [.ptr (some (H.length+2,0))],.map [] 0,.cells 11 (mtC fi.fl F.n F.z F.lim (H.length+1) (.slice none 0 (some 0)))]) (.slice none 0 (some 0)) H.length (by omega)
  ⟨fun k o hk=>by rw [ag (ah hk)]; exact hk,g0,gs,gm,.inl ⟨rfl,rfl⟩,ai _,by omega,by omega⟩ (ai _)
 have hP1l:=i1.pre.len
 have hcl:=ah i1.hc
 have hsl:=ah i1.hs
 have h570:=fun w=>s570 (b:=b) (w:=w) i1.hs (by omega)
 have h572:=fun P w=>s572 (H:=P) (b:=b) (w:=w) (g:=571) (am:=[]) (cm:=[.ptr (some (H.length,0))])
 let P2:=(P1++[AObj.map [] 0]).set (H.length+2) (.cells 11 (mtC fi.fl F.n F.z F.lim P1.length x1))
 have hP2:(P1++[AObj.map [] 0]).set (H.length+2) (.cells 11 (mtC fi.fl F.n F.z F.lim P1.length x1))=P2:=rfl
 have up:∀ k o,k≠H.length+2→P1[k]? = some o→P2[k]? = some o:=fun k o hk ho=>by
  show ((P1++_).set _ _)[k]? = _
  rw [aq (fun e=>hk e.symm),ag (ah ho)]; exact ho
 have k0:P2[H.length]? = some (.cells 1 [.ptr (some (H.length+2,0))]):=up _ _ (by omega) i1.hc
 have ks:P2[H.length+2]? = some (.cells 11 (mtC fi.fl F.n F.z F.lim P1.length x1)):=db (by rw [ap]; omega)
 have km:P2[P1.length]? = some (.map [] 0):=by
  show ((P1++[AObj.map [] 0]).set _ _)[_]? = _
  rw [aq (by omega),fp]; rfl
 rcases i1.hx with ⟨e,-⟩ | ⟨-,q,hq,rfl,hrow⟩
 ·have:=congrArg List.length e
  simp at this
  omega
 ·rw [bg] at ks hP2 h570
  have hqs:q≠H.length+2:=fun e=>by rw [e,i1.hs] at hrow; simp [mtC] at hrow
  have kq:P2[q]? = some (.cells 3 ((List.replicate F.n z0).flatMap Sec.cells)):=up _ _ hqs hrow
  have hpre2:Pre H P2:=fun k o hk=>up k o (by have:=ah hk; omega) (i1.pre k o hk)
  have hset0:P2.set H.length (.cells 1 [.ptr (some (H.length+2,0))])=P2:=set_same k0
  have hR:Row P2 3 Sec.cells (List.replicate F.n z0) (some (q,0)):=Row.mk0 (fun _=>rfl) kq
  have h0:=fun c w=>dc sub (s0 (os:=P2) (b:=b) (w:=w) (c:=c) (lim:=F.lim) hR (by rw [bg]; omega))
  simp only [bg,cnt_rep F.lim F.n F.n (ai _)] at h0
  have hv:AVal.under H.length (.tuple [.ptr (some (H.length+2,0)),.int .i64 0])=false:=by simp [AVal.under,AVal.unders]
  have hx0:xCall T 555 [.ptr (some (fi.fl,0))]=fun h=>xCall T 555 [.ptr (some (fi.fl,0))] h:=rfl
  have hrun:∀ w,xCall T 555 [.ptr (some (fi.fl,0))] ⟨H,b,w⟩=some (finish ⟨H,b,w⟩ (.tuple [.ptr (some (H.length+2,0)),.int .i64 0]) ⟨P2,b,min (min w1 (H.length+2)) H.length⟩):=fun w=>by
   have ks':=ks
   have k1:=i1.hc
   unfold mtC at ks' g0 gs i3 
   simp only [a9] at i3
   have hne0:¬ (F.n=0):=by omega
   simp (disch:=omega) [-getElem?_pos,-getElem?_neg,-List.all_eq_true,qZ,qS,nltT,nltF,iltT,iltF,ileT,nleT,dj,ba t555,code555,-finish,h573,i3,h572,h570,hP2,k0,k1,ks',h0,hset0,hne0]
  have key:∀ (O:List AObj) (f:Nat→Nat),Pre H O→f fi.fl=fi.fl→O[f (H.length+2)]? = some ((AObj.cells 11 (mtC fi.fl F.n F.z F.lim P1.length (.slice (some (q,0)) F.n none))).ren f)→O[f q]? = some ((AObj.cells 3 ((List.replicate F.n z0).flatMap Sec.cells)).ren f)→O[f P1.length]? = some ((AObj.map [] 0).ren f)→StA O ⟨f (H.length+2),f q,none,f P1.length,fi⟩ F (K0 F.n):=fun O f hp hf o1 o2 o3=>by
   refine ⟨h.keep fun k o ho _=>hp k o ho,?_,?_,?_,bg,.inl rfl,eo _,by show 0 < 4294967296; decide,by show 0 < 4294967296; decide⟩
   ·rw [o1]
    simp [mtC,AObj.ren,AVal.renL,AVal.ren,hf,StU.cells,K0]
   ·rw [o2]
    show some (AObj.cells 3 (AVal.renL f _))=_
    rw [renL_sec]; rfl
   ·rw [o3]; rfl
  rcases finish_any2 (b:=b) (P:=P2) hv (w':=min (min w1 (H.length+2)) H.length) (by omega) with e | ⟨f,Ic,X,e,hm,hi,hf⟩
  ·refine ⟨P2,⟨H.length+2,q,none,P1.length,fi⟩,hpre2,rfl,by show H.length≤H.length+2; omega,hq,by show H.length≤P1.length; omega,?_,fun w=>by rw [hrun w,e w]⟩
   refine key P2 id hpre2 rfl ?_ ?_ ?_
   ·show P2[H.length+2]? = _
    rw [ks]
    simp [mtC,AObj.ren,AVal.renL,AVal.ren]
   ·show P2[q]? = _
    rw [kq]
    show _=some (AObj.cells 3 (AVal.renL id _))
    rw [renL_sec]
   ·show P2[P1.length]? = _
    rw [km]; rfl
  ·have hIs:Ic (H.length+2):=hi _ (by simp [AVal.ids,AVal.idsL]) (by omega)
   have hcl:=hm.cl _ _ hIs ks
   have hIq:Ic q:=hcl q (by simp [mtC,AObj.ids,AVal.idsL,AVal.ids]) hq
   have hIm:Ic P1.length:=hcl _ (by simp [mtC,AObj.ids,AVal.idsL,AVal.ids]) (by omega)
   refine ⟨H++X,⟨f (H.length+2),f q,none,f P1.length,fi⟩,fun k o hk=>by rw [ag (ah hk)]; exact hk,rfl,hm.up _ (by omega),hm.up _ hq,hm.up _ (by omega),?_,fun w=>by
    rw [hrun w,e w]
    simp [AVal.ren,AVal.renL]⟩
   exact key _ f (fun k o hk=>by rw [ag (ah hk)]; exact hk) (hf _ hfl) (hm.at' _ _ hIs ks) (hm.at' _ _ hIq kq) (hm.at' _ _ hIm km)
end
end Go.Abs.AbsBlo

namespace Go.Abs.AbsBlo
open Go.Abs.AbsBlb hiding T
open Go.Abs.Short
section
variable {H:List AObj} {b w:Nat} {I:SI} {F:Fl} {K:StU}
section
attribute [-simp] getElem?_pos getElem?_neg List.all_eq_true
attribute [local simp] qZ qS nltT nltF iltT iltF ileT nleT dj
theorem n555 (hb:b≤H.length):xCall T 555 [.ptr none] ⟨H,b,w⟩=some (.tuple [.ptr none,.int .i64 1],⟨H,b,w⟩):=by
 simp (disch:=omega) [ba t555,code555,hb]
theorem n561:xCall T 561 [.ptr none] ⟨H,b,w⟩=some (.bool true,⟨H,b,w⟩):=by
 simp (disch:=omega) [ba (sub _ _ AbsBlb.t561),code561]
theorem n482 {k:Bs}:xCall T 482 [.ptr none,.str k] ⟨H,b,w⟩=some (.tuple [.slice none 0 (some 0),.bool false],⟨H,b,w⟩):=by
 simp (disch:=omega) [ba (sub _ _ AbsBlb.t482),code482]
theorem n480 {k:Bs}:xCall T 480 [.ptr none,.str k] ⟨H,b,w⟩=some (.slice none 0 (some 0),⟨H,b,w⟩):=by
 simp (disch:=omega) [ba t480,code480]
theorem n549 {x:AVal}:xCall T 549 [.ptr none,x] ⟨H,b,w⟩=some (.int .i64 5,⟨H,b,w⟩):=by
 have h561:=fun w=>n561 (H:=H) (b:=b) (w:=w)
 simp (disch:=omega) [ba t549,code549,h561]
theorem n563:xCall T 563 [.ptr none] ⟨H,b,w⟩=some (.int .i64 0,⟨H,b,w⟩):=by
 simp (disch:=omega) [ba (sub _ _ AbsBlb.t563),code563]
theorem n560:xCall T 560 [.ptr none] ⟨H,b,w⟩=some (.slice none 0 (some 0),⟨H,b,w⟩):=by
 have h561:=fun w=>n561 (H:=H) (b:=b) (w:=w)
 simp (disch:=omega) [ba (sub _ _ AbsBlb.t560),code560,h561]
theorem n562:xCall T 562 [.ptr none] ⟨H,b,w⟩=some (.int .i64 0,⟨H,b,w⟩):=by
 refine xCallW t562 rfl ?_
 unfold code562
 refine ka (Wp_x rfl ?_)
 simp (disch:=omega) []
 refine ka (Wp_x rfl ?_)
 simp (disch:=omega) []
theorem s562 (h:StA H I F K) {k:Bs} {p:PlU} {t:Nat} (hx:K.ix=[(k,p,t)]) (ht:t < K.clock) (hk:k.length≤1000) (hbl:p.blob.length≤5000) (hb:b≤H.length):xCall T 562 [.ptr (some (I.s,0))] ⟨H,b,w⟩=some (.int .i64 ((32+k.length+p.blob.length:Nat):Int),⟨H,b,w⟩):=by
 have gs:=h.s
 have gm:H[I.m]? = some (.map [(.str k,p.val,t)] K.clock):=by
  have:=h.m
  unfold StU.map at this
  rw [hx] at this
  exact this
 unfold StU.cells at gs
 have hml:=ah gm
 have h589:=fun w (X:List AObj) (kk:Bs) (hkk:kk.length≤1000)=>dc sub (s589 (H:=H++X) (b:=b) (w:=w) (r:=⟨0,0,kk,[],0⟩) (a:=none) (c:=some 0) (show kk.length≤1000000 by omega) (by show 0≤1000000; decide))
 simp only [RecU.cells,RecU.size,dw,a9,Nat.add_zero] at h589
 have h589k:=fun w X=>h589 w X k hk
 have h589z:=fun w X=>h589 w X [] (by decide)
 simp only [dw,Nat.add_zero,a9] at h589z
 have ek:((16+k.length:Nat):Int)=16+(k.length:Int):=by omega
 rw [ek] at h589k
 have gi:∀ x:AObj,(H++[x])[H.length]? = some x:=fun x=>fp _ _
 have gm2:∀ X,(H++X)[I.m]? = some (.map [(.str k,p.val,t)] K.clock):=fun X=>by rw [ag hml]; exact gm
 have hset:∀ x y:AObj,(H++[x]).set H.length y=H++[y]:=fun x y=>set_k0 H [x] y
 refine xCallW t562 rfl ?_
 unfold code562
 refine ka (Wp_x rfl ?_)
 simp (disch:=omega) []
 refine ka (Wp_x rfl ?_)
 simp (disch:=omega) []
 refine ka (Wp_x rfl ?_)
 simp (disch:=omega) []
 refine ka (ka (Wp_x rfl ?_))
 simp (disch:=omega) [gs,gm,evExt]
 refine Wp_after (Wp_block (Wp_round ?_))
 unfold code562L0
 refine Wp_live ?_
 refine ka (Wp_after (ka ?_))
 refine Wp_next (m:=I.m) (i:=H.length) (since:=K.clock) (last:=K.clock) (clock:=K.clock) (seen:=[]) (es:=[(.str k,p.val,t)]) (by simp) (by show b≤_; exact hb) (gi _) (gm2 _) (fun e he=>?_) (ai _) (fun hall=>?_) (fun e he hne'=>?_)
 ·rw [bi] at he; subst he; exact ht
 ·exact absurd (hall _ (ct _)) (by simp)
 ·rw [bi] at he
  subst he
  have hen:∀ w,evExt .entry [.ptr (some (H.length,0))] ⟨H++[.mapIter (some I.m) K.clock [t] K.clock],b,w⟩=some (.tuple [.str k,p.val],⟨H++[.mapIter (some I.m) K.clock [t] K.clock],b,w⟩):=fun w=>by
   simp only [evExt,Heap.get,gi,gm2,List.getLast?_singleton,if_true]
   simp
  have hput:∀ w,(⟨H++[AObj.mapIter (some I.m) K.clock [] K.clock],b,w⟩:Heap).put H.length (.mapIter (some I.m) K.clock ([]++[t]) K.clock)=⟨H++[AObj.mapIter (some I.m) K.clock [t] K.clock],b,min w H.length⟩:=fun w=>by
   simp only [Heap.put,hset,eh]
  simp only [hput]
  unfold PlU.val at hen
  refine Wp_x rfl ?_
  simp (disch:=omega) []
  refine ka (Wp_x rfl ?_)
  simp (disch:=omega) []
  refine Wp_x rfl ?_
  simp (disch:=omega) [-evExt,hen,h589k,h589z]
  refine Wp_round ?_
  refine Wp_live ?_
  refine ka (Wp_after (ka ?_))
  refine Wp_next (m:=I.m) (i:=H.length) (since:=K.clock) (last:=K.clock) (clock:=K.clock) (seen:=[t]) (es:=[(.str k,p.val,t)]) (by simp) (by show b≤_; exact hb) (gi _) (gm2 _) (fun e he=>?_) (ai _) (fun hall=>?_) (fun e he hne2=>?_)
  ·rw [bi] at he; subst he; exact ht
  ·have hput2:∀ w,(⟨H++[AObj.mapIter (some I.m) K.clock [t] K.clock],b,w⟩:Heap).put H.length .dead=⟨H++[AObj.dead],b,min w H.length⟩:=fun w=>by
    simp only [Heap.put,hset]
   simp only [hput2]
   have en:((32+k.length+p.blob.length:Nat):Int)=16+(k.length:Int)+p.blob.length+16:=by omega
   refine Wp_x rfl ?_
   simp (disch:=omega) []
   refine Wp_x rfl ?_
   simp (disch:=omega) []
   refine ka (Wp_x rfl ?_)
   simp (disch:=omega) []
   refine Wp_x rfl ?_
   simp (disch:=omega) []
   omega
  ·rw [bi] at he
   subst he
   exact absurd (ct _) hne2
end
end
end Go.Abs.AbsBlo

namespace Go.Abs.AbsBlo
open Go.Abs.AbsBlb hiding T
open Go.Abs.Short
def F0 (n z lim:Nat):Fl:=⟨n,z,lim,List.replicate (n*z) 255,List.replicate n 0⟩
def newO (N n z lim:Nat):List AObj:=[.cells 9 [.int .i64 n,.int .i64 z,.int .i64 lim,.slice (some (N+1,0)) (n*z) (some (n*z)),.slice (some (N+2,0)) n (some n),.bool false,.int .i64 (-1),.int .i64 0,.int .u8 0],.cells 1 ((List.replicate (n*z) (255:UInt8)).map u8V),.cells 1 (List.replicate n (.int .i64 0))]
section
variable {E:Env} {H:List AObj} {b w:Nat} {kl:List Bs}
theorem flash0 {n z lim:Nat} (hn:1≤n∧n≤64) (hz:64≤z∧z≤65536) (hl:1≤lim∧lim≤1048576):FlA (H++newO H.length n z lim) ⟨H.length,H.length+1,H.length+2,some (n*z),some n⟩ (F0 n z lim):=by
 refine ⟨?_,?_,?_,bg,bg,⟨hn.2,hz.2⟩,hl.2,fun x hx=>?_,by show H.length+1≠H.length+2; omega,fun c hc=>?_,fun c hc=>?_⟩
 ·show (H++newO H.length n z lim)[H.length]? = _
  rw [fp]
  simp [newO,Fl.cells,F0]
 ·show (H++newO H.length n z lim)[H.length+1]? = _
  rw [iw]; rfl
 ·show (H++newO H.length n z lim)[H.length+2]? = _
  rw [iw]
  show some (AObj.cells 1 (List.replicate n (.int .i64 0)))=_
  show _=some (AObj.cells 1 ((List.replicate n 0).map natV))
  rw [List.map_replicate]; rfl
 ·have:x ∈ List.replicate n 0:=hx
  rw [List.eq_of_mem_replicate this]; exact eo _
 ·cases hc
  exact bg.symm
 ·cases hc
  exact bg.symm
theorem inv0 {fi:FI} {n z lim:Nat} (h:FlA H fi (F0 n z lim)) (hz:12≤z):AbsBlb.Inv kl (F0 n z lim) (K0 n):=by
 have hb:∀ j,j < (F0 n z lim).b.length→(F0 n z lim).b[j]? = some 255:=fun j hj=>by
  have hj:j < (List.replicate (n*z) (255:UInt8)).length:=hj
  rw [bg] at hj
  show (List.replicate (n*z) (255:UInt8))[j]? = _
  rw [d7,if_pos hj]
 have hw:∀ i,i < (F0 n z lim).n→(F0 n z lim).w[i]? = some 0:=fun i hi=>by
  have hi:i < n:=hi
  show (List.replicate n 0)[i]? = _
  rw [d7,if_pos hi]
 refine ⟨hz,bg,bg,bg,fun i hi=>?_,rfl,.inl rfl,⟨by simp [K0],by simp [K0],fun e he=>by cases he⟩,fun e he=>(by cases he),fun i hi=>absurd rfl hi⟩
 rw [blank_look h hb hw hi]
 have hi:i < n:=hi
 show (List.replicate n z0)[i]? = _
 rw [d7,if_pos hi]
theorem store0 {n z lim:Nat} (hn:1≤n∧n≤64) (hz:64≤z∧z≤65536) (hl:1≤lim∧lim≤1048576) (hnz:n*z≤8192) (hb:b≤H.length) :
  (∀ w,xCall T 556 [.agg [.int .i64 n,.int .i64 z,.int .i64 lim]] ⟨H,b,w⟩=some (.tuple [.ptr (some (H.length,0)),.int .i64 0],⟨H++newO H.length n z lim,b,w⟩)) ∧
  ∃ H' I,Pre (H++newO H.length n z lim) H'∧I.lo b∧I.fi=⟨H.length,H.length+1,H.length+2,some (n*z),some n⟩∧H.length≤I.s∧SO kl H' I (F0 n z lim) (K0 n) ∧
   ∀ w,xCall T 555 [.ptr (some (H.length,0))] ⟨H++newO H.length n z lim,b,w⟩=some (.tuple [.ptr (some (I.s,0)),.int .i64 0],⟨H',b,w⟩):=by
 refine ⟨fun w=>s556 hn hz hl hnz,?_⟩
 have hf:=flash0 (H:=H) hn hz hl
 have hll:(H++newO H.length n z lim).length=H.length+3:=by simp [newO]
 have hb':∀ j,j < (F0 n z lim).b.length→(F0 n z lim).b[j]? = some 255:=fun j hj=>by
  have hj:j < (List.replicate (n*z) (255:UInt8)).length:=hj
  rw [bg] at hj
  show (List.replicate (n*z) (255:UInt8))[j]? = _
  rw [d7,if_pos hj]
 have hw:∀ i,i < (F0 n z lim).n→(F0 n z lim).w[i]? = some 0:=fun i hi=>by
  have hi:i < n:=hi
  show (List.replicate n 0)[i]? = _
  rw [d7,if_pos hi]
 obtain ⟨H',I,k1,k2,k3,k4,k5,k6,k7⟩:=p555 (b:=b) hf hb' hw (by show 12≤z; omega) (by show 0 < n; omega) (by omega)
 refine ⟨H',I,k1,⟨by omega,by omega,by omega,by rw [k2]; show b≤H.length+1; omega,by rw [k2]; show b≤H.length+2; omega⟩,k2,by omega,⟨k6,inv0 hf (by omega)⟩,k7⟩
end
end Go.Abs.AbsBlo

namespace Go.Abs.AbsBlo
open Go.Abs.AbsBlb hiding T
open Go.Abs.Short
def f557:ACode:=.seq (R [2,3,4,5,6,7] [v 29 3,o 30 (.callg 482 [t 29,.const (.str [97])]),v 28 30,o 31 (.extract (t 28) 0),o 32 (.extract (t 28) 1),v 6 31,v 7 32])
 (.seq (R [2,3,4,5,6,7,9] [v 34 3,o 35 (.callg 482 [t 34,.const (.str [98])]),v 33 35,o 36 (.extract (t 33) 0),o 37 (.extract (t 33) 1),v 8 36,v 9 37])
 (.seq (R [2,3,4,5,6,7,9,11] [o 39 (.callg 555 [.const (.ptr none)]),v 38 39,o 40 (.extract (t 38) 0),o 41 (.extract (t 38) 1),v 10 40,v 11 41])
 (.seq (R [0] [v 42 2,o 43 (.bin .eql (t 42) (n 0)),v 44 43,g 45 44 true (.val (t 4)),g 46 44 true (.bin .eql (t 45) (n 0)),o 47 (.pick (t 44) (t 46) F),v 48 47,g 49 48 true (.val (t 5)),g 50 48 true (.bin .eql (t 49) (n 0)),o 51 (.pick (t 48) (t 50) F),v 52 51,g 53 52 true (.val (t 11)),g 54 52 true (.bin .eql (t 53) (n 1)),o 55 (.pick (t 52) (t 54) F),v 56 55,g 57 56 true (.val (t 7)),o 58 (.pick (t 56) (t 57) F),v 59 58,g 60 59 true (.val (t 9)),g 61 59 true (.un .not (t 60)),o 62 (.pick (t 59) (t 61) F),v 63 62,g 64 63 true (.val (t 6)),g 65 63 true (.conv .string (t 64)),g 66 63 true (.bin .eql (t 65) (.const (.str [120,121]))),o 67 (.pick (t 63) (t 66) F),v 68 67,g 69 68 true (.val (t 3)),g 70 68 true (.callg 562 [t 69]),g 71 68 true (.bin .eql (t 70) (n 35)),o 72 (.pick (t 68) (t 71) F),v 73 72,g 74 73 true (.val (t 3)),g 75 73 true (.callg 563 [t 74]),g 76 73 true (.bin .eql (t 75) (n 58)),o 77 (.pick (t 73) (t 76) F),v 0 77])
 (.live [0] (.ret)))))
theorem body557:code557.body = .seq (R [] [o 0 (.val F)])
 (.seq (R [1,2] [o 13 (.build [.int .i64 0,.int .i64 0,.int .i64 0] [(0,1,n 4),(1,1,n 128),(2,1,n 9)]),o 14 (.callg 556 [t 13]),v 12 14,o 15 (.extract (t 12) 0),o 16 (.extract (t 12) 1),v 1 15,v 2 16])
 (.seq (R [2,3,4] [v 18 1,o 19 (.callg 555 [t 18]),v 17 19,o 20 (.extract (t 17) 0),o 21 (.extract (t 17) 1),v 3 20,v 4 21])
 (.seq (R [2,3,4,5] [v 22 3,o 23 (.mkslice 1 2 [.int .u8 0,.int .u8 0] [(0,1,.const (.int .u8 120)),(1,1,.const (.int .u8 121))]),o 24 (.conv .same (t 23)),o 25 (.build [.bool false,.str [],.slice none 0 (some 0)] [(1,1,.const (.str [97])),(2,1,t 24)]),o 26 (.mkslice 3 1 [.bool false,.str [],.slice none 0 (some 0)] [(0,3,t 25)]),o 27 (.callg 549 [t 22,t 26]),v 5 27])
 f557))):=rfl
section
variable {E:Env} {H:List AObj} {b:Nat}
theorem fe557 {P:List AObj} {w w':Nat} (hw:H.length≤w'):funcEnd code557 ⟨H,b,w⟩ (.ret,⟨[(0,.val (.bool true))],⟨P,b,w'⟩⟩)=some (.bool true,⟨H,b,w⟩):=by
 have:¬ w' < H.length:=by omega
 simp [funcEnd,code557,resultsL,result1,sget,tupled,finish,Heap.size,this,AVal.under]
theorem good0:GoodC (F0 4 128 9) (K0 4) [⟨false,[97],[120,121],.slice none 0 none⟩]:=by
 refine ⟨by decide,by decide,fun _=>⟨by decide,by decide,by decide,by decide⟩⟩
section
attribute [-simp] getElem?_pos getElem?_neg List.all_eq_true
attribute [local simp] qZ qS nltT nltF iltT iltF ileT nleT dj
theorem c557 (hT:Agrees E T) (hm:E.P.follows .mixedOrders=true) (hF:IsCode E 617 code617) (hF2:IsCode E 599 code599) (hF3:IsCode E 580 code580) (hF4:IsCode E 549 code549) (hF5:IsCode E 557 code557) (hb:b=H.length) (w:Nat) :
  CallD E 557 [] ⟨H,b,w⟩ fun v h'=>v = .bool true∧h'=⟨H,b,w⟩:=by
 refine CallD.of_code hF5 rfl ?_
 rw [body557]
 have hen:enter 0 ([]:List AVal)=[]:=rfl
 have hsz:(⟨H,b,w⟩:Heap).size=H.length:=rfl
 rw [hen]
 simp only [hsz]
 obtain ⟨h556,H2,I,k1,k2,k3,k4,k5,h555⟩:=store0 (H:=H) (b:=b) (kl:=[[97]]) (n:=4) (z:=128) (lim:=9) (by decide) (by decide) (by decide) (by decide) (by omega)
 simp only [a9] at h556
 refine CodeD.seq nofun (CodeD.run (e:=.normal) (st':=⟨[],⟨H,b,H.length⟩⟩) hT hm (fun k'=>by simp (disch:=omega) []) ?_)
 refine CodeD.seq nofun (CodeD.run (e:=.normal) (st':=⟨[(1,.val (.ptr (some (H.length,0)))),(2,.val (.int .i64 0))],⟨H++AbsBlo.newO H.length 4 128 9,b,H.length⟩⟩) hT hm (fun k'=>by simp (disch:=omega) [h556]) ?_)
 refine CodeD.seq nofun (CodeD.run (e:=.normal) (st':=⟨[(2,.val (.int .i64 0)),(3,.val (.ptr (some (I.s,0)))),(4,.val (.int .i64 0))],⟨H2,b,H.length⟩⟩) hT hm (fun k'=>by simp (disch:=omega) [h555]) ?_)
 have hH2l:=k1.len
 have hHl:(H++AbsBlo.newO H.length 4 128 9).length=H.length+3:=by simp [AbsBlo.newO]
 have hbl2:b≤H2.length:=by omega
 have hMl:(H2++[AObj.cells 1 [.int .u8 120,.int .u8 121],.cells 3 [.bool false,.str [97],.slice (some (H2.length,0)) 2 (some 2)]]).length=H2.length+2:=by simp
 have hg0:=fp H2 [AObj.cells 1 [.int .u8 120,.int .u8 121],.cells 3 [.bool false,.str [97],.slice (some (H2.length,0)) 2 (some 2)]]
 have hg1:=iw H2 [AObj.cells 1 [.int .u8 120,.int .u8 121],.cells 3 [.bool false,.str [97],.slice (some (H2.length,0)) 2 (some 2)]] 1
 have hSM:=so_app k5 [AObj.cells 1 [.int .u8 120,.int .u8 121],.cells 3 [.bool false,.str [97],.slice (some (H2.length,0)) 2 (some 2)]]
 have hrun:∀ k:Slots→Heap→Option (Slots × Heap),opsK (xCall T) [v 22 3,o 23 (.mkslice 1 2 [.int .u8 0,.int .u8 0] [(0,1,.const (.int .u8 120)),(1,1,.const (.int .u8 121))]),o 24 (.conv .same (t 23)),o 25 (.build [.bool false,.str [],.slice none 0 (some 0)] [(1,1,.const (.str [97])),(2,1,t 24)]),o 26 (.mkslice 3 1 [.bool false,.str [],.slice none 0 (some 0)] [(0,3,t 25)])] [(2,.val (.int .i64 0)),(3,.val (.ptr (some (I.s,0)))),(4,.val (.int .i64 0))] ⟨H2,b,H.length⟩ (k:=⟨k⟩) =
   k [(26,.val (.slice (some (H2.length+1,0)) 1 (some 1))),(25,.val (.agg [.bool false,.str [97],.slice (some (H2.length,0)) 2 (some 2)])),(24,.val (.slice (some (H2.length,0)) 2 (some 2))),(23,.val (.slice (some (H2.length,0)) 2 (some 2))),(22,.val (.ptr (some (I.s,0)))),(2,.val (.int .i64 0)),(3,.val (.ptr (some (I.s,0)))),(4,.val (.int .i64 0))]
    ⟨H2++[AObj.cells 1 [.int .u8 120,.int .u8 121],.cells 3 [.bool false,.str [97],.slice (some (H2.length,0)) 2 (some 2)]],b,H.length⟩:=fun k=>by simp (disch:=omega) [hbl2]
 generalize hMM:H2++[AObj.cells 1 [.int .u8 120,.int .u8 121],.cells 3 [.bool false,.str [97],.slice (some (H2.length,0)) 2 (some 2)]]=M at *
 have hR:Row M 3 ChU.cells [⟨false,[97],[120,121],.slice (some (H2.length,0)) 2 (some 2)⟩] (some (H2.length+1,0)):=Row.mk0 (fun _=>rfl) (by rw [hg1]; rfl)
 have hfine:∀ c ∈ [(⟨false,[97],[120,121],.slice (some (H2.length,0)) 2 (some 2)⟩:ChU)],c.fine M∧c.key ∈ ([[97]]:List Bs):=fun c hc=>by
  rw [bi] at hc
  subst hc
  refine ⟨⟨⟨some (H2.length,0),some 2,rfl,fun p o e=>?_,.inr ⟨H2.length,0,rfl,SlB.whole hg0 rfl,ai _⟩⟩,⟨_,_,_,_,rfl⟩,by show 1≤1; decide,by show 1≤64; decide,by show 2≤4096; decide⟩,ct _⟩
  cases e
  omega
 have hcm:=commit_ok hT hm hF hF2 hF3 hF4 hSM (fun k hk=>by rw [bi] at hk; subst hk; decide) (by decide) k2 (by omega) (by decide) hR (List.cons_ne_nil _ _) (by show 1≤16; decide) hfine (lc:=some 1) H.length
 refine CodeD.seq nofun (CodeD.after (CodeD.region hT hm ?_))
 refine OpsD.run (r:=[o 27 (.callg 549 [t 22,t 26]),v 5 27]) hrun ?_
 refine OpsD.call (g:=549) (xs:=[t 22,t 26]) rfl rfl rfl hcm fun vv hh hR'=>?_
 obtain ⟨H3,F',K',w3,e,rfl,s1,s2,s3,s4,s5,rfl,s6⟩:=hR'
 obtain ⟨rfl,K1,hd,A,e1,e2,e3⟩:=s6 good0
 refine OpsD.run (l:=[v 5 27]) (r:=[]) (s1:=[(5,.val (.int .i64 0)),(27,.val (.int .i64 0)),(26,.val (.slice (some (H2.length+1,0)) 1 (some 1))),(25,.val (.agg [.bool false,.str [97],.slice (some (H2.length,0)) 2 (some 2)])),(24,.val (.slice (some (H2.length,0)) 2 (some 2))),(23,.val (.slice (some (H2.length,0)) 2 (some 2))),(22,.val (.ptr (some (I.s,0)))),(2,.val (.int .i64 0)),(3,.val (.ptr (some (I.s,0)))),(4,.val (.int .i64 0))]) (h1:=⟨H3,b,w3⟩) (fun k'=>by simp (disch:=omega) []) (OpsD.done ?_)
 simp only []
 have hk1:keepK [2,3,4,5] [(5,Slot.val (.int .i64 0)),(27,.val (.int .i64 0)),(26,.val (.slice (some (H2.length+1,0)) 1 (some 1))),(25,.val (.agg [.bool false,.str [97],.slice (some (H2.length,0)) 2 (some 2)])),(24,.val (.slice (some (H2.length,0)) 2 (some 2))),(23,.val (.slice (some (H2.length,0)) 2 (some 2))),(22,.val (.ptr (some (I.s,0)))),(2,.val (.int .i64 0)),(3,.val (.ptr (some (I.s,0)))),(4,.val (.int .i64 0))]=[(2,.val (.int .i64 0)),(3,.val (.ptr (some (I.s,0)))),(4,.val (.int .i64 0)),(5,.val (.int .i64 0))]:=by simp
 rw [hk1]
 obtain ⟨p,rfl⟩:∃ p,A=[p]:=by
  cases A with
  | nil =>
   have:=congrArg List.length e2
   simp at this
  | cons p A =>
   cases A with
   | nil=>exact ⟨p,rfl⟩
   | cons q A =>
    have:=congrArg List.length e2
    simp at this
 have hp1:p.1=⟨1,1,[97],[120,121],0⟩:=by
  have:p.1 :: []=_:=e2
  injection this
 have hix:K'.ix=[([97],⟨hd,K1.at_,[120,121]⟩,K1.clock)]:=by
  rw [e3]
  unfold wroteK founds founds
  show (StU.apply _ hd K1.at_ (p.1.at (K1.txn+1))).ix=_
  rw [hp1]
  have hx:K1.ix=[]:=e1
  unfold StU.apply RecU.at
  rw [if_neg (show ¬ (1=2) by decide)]
  unfold StU.put
  simp [hx,findK]
 have hck:K1.clock < K'.clock:=s2.v.ix.c ([97],⟨hd,K1.at_,[120,121]⟩,K1.clock) (by rw [hix]; exact ct _)
 have h482:=fun w=>dc sub (s482 (b:=b) (w:=w) s2.a (k:=[97]) (x:=(0,⟨hd,K1.at_,[120,121]⟩)) (by rw [hix]; rfl) (by show 2≤1000000; decide))
 have h482n:=fun X w=>dc sub (s482n (b:=b) (w:=w) (s2.a.app X) (k:=[98]) (by rw [hix]; rfl))
 have hH3l:=s1.len
 have h555n:=fun X w=>n555 (H:=H3++X) (b:=b) (w:=w) (by rw [ap]; omega)
 have h562:=fun X w=>s562 (b:=b) (w:=w) (s2.a.app X) hix hck (by decide) (by show 2≤5000; decide) (by rw [ap]; omega)
 have h563:=fun X w=>dc sub (s563 (b:=b) (w:=w) (s2.a.app X) s3.n s3.z)
 have hm1:([120,121]:Bs).map u8V=[.int .u8 120,.int .u8 121]:=rfl
 simp only [hm1,bv,dw,a9] at h482 h562
 refine CodeD.run (e:=.ret) (st':=⟨[(0,.val (.bool true))],⟨H3++[.cells 1 [.int .u8 120,.int .u8 121],.cells 1 []],b,w3⟩⟩) hT hm (fun k'=>by
  have hbo:bytesOf [.int .u8 120,.int .u8 121]=some [120,121]:=bytesOf_u8 [120,121]
  simp (disch:=omega) [f557,hbo,h482,h482n,h555n,h562,h563]) ?_
 exact ⟨_,_,fe557 (by omega),rfl,rfl⟩
end
end
end Go.Abs.AbsBlo

namespace Go.Abs.AbsBlo
open Go.Abs.AbsBlb hiding T
open Go.Abs.Short
def h565:ACode:=.seq (.after (.region [⟨false,[],[v 40 8,o 41 (.bin .lss (t 40) (n 20)),v 42 41]⟩,⟨true,[],[g 43 42 true (.val (t 7)),g 44 42 true (.nilcheck (t 43)),g 45 42 true (.faddr (t 44) 1),g 46 42 true (.load none (t 45)),g 47 42 true (.val (t 7)),g 48 42 true (.nilcheck (t 47)),g 49 42 true (.faddr (t 48) 0),g 50 42 true (.load none (t 49)),g 51 42 true (.len .sl (t 50))]⟩,⟨false,[],[g 52 42 true (.bin .lss (t 46) (t 51)),o 53 (.pick (t 42) (t 52) F)]⟩]) [3,5,7,8,53])
 (.after (.cond (t 53) (.skip) (.live [3,5] (.exit 0))) [3,5,7,8])
theorem body565L:code565L1 = .live [3,5,7,8] (.seq h565
 (.seq (.after (.block 1 (R [3,5,7,8] [v 56 5,v 57 7,o 58 (.callg 566 [t 57]),o 59 (.callg 549 [t 56,t 58])])) [3,5,7,8])
 (R [3,5,7,8] [v 54 8,o 55 (.bin .add (t 54) (n 1)),v 8 55]))):=rfl
def g565:ACode:=.seq (R [0,3,5,36] [v 31 4,o 32 (.bin .neq (t 31) (n 0)),v 33 32,g 34 33 false (.val (t 6)),g 35 33 false (.bin .neq (t 34) (n 0)),o 36 (.pick (t 33) Y (t 35))])
 (.after (.cond (t 36) (.seq (R [2] [o 2 (.val F)])
 (.live [2] (.ret))) (.skip)) [0,3,5])
def f565:ACode:=.seq (.seq (R [3,5,61,62,63] [v 60 5,o 61 (.callg 560 [t 60]),o 62 (.len .sl (t 61)),o 63 (.val (n 0))])
 (.after (.block 2 (.loop code565L0)) [5]))
 (.seq (R [5,13] [o 13 (.val (.const (.ptr none)))])
 (.seq (R [5,13,15] [v 83 13,o 84 (.callg 482 [t 83,.const (.str [97])]),v 82 84,o 85 (.extract (t 82) 0),o 86 (.extract (t 82) 1),v 14 85,v 15 86])
 (.seq (R [2] [v 87 5,o 88 (.callg 560 [t 87]),o 89 (.len .sl (t 88)),o 90 (.bin .eql (t 89) (n 5)),v 91 90,g 92 91 true (.val (t 15)),g 93 91 true (.un .not (t 92)),o 94 (.pick (t 91) (t 93) F),v 95 94,g 96 95 true (.val (t 13)),g 97 95 true (.callg 561 [t 96]),o 98 (.pick (t 95) (t 97) F),v 99 98,g 100 99 true (.val (t 13)),g 101 99 true (.callg 480 [t 100,.const (.str [])]),g 102 99 true (.len .sl (t 101)),g 103 99 true (.bin .eql (t 102) (n 0)),o 104 (.pick (t 99) (t 103) F),v 105 104,g 106 105 true (.val (t 13)),g 107 105 true (.callg 549 [t 106,.const (.slice none 0 (some 0))]),g 108 105 true (.bin .eql (t 107) (n 5)),o 109 (.pick (t 105) (t 108) F),v 110 109,g 111 110 true (.val (t 13)),g 112 110 true (.callg 562 [t 111]),g 113 110 true (.val (t 13)),g 114 110 true (.callg 563 [t 113]),g 115 110 true (.bin .add (t 112) (t 114)),g 116 110 true (.val (t 13)),g 117 110 true (.callg 560 [t 116]),g 118 110 true (.len .sl (t 117)),g 119 110 true (.bin .add (t 115) (t 118)),g 120 110 true (.bin .eql (t 119) (n 0)),o 121 (.pick (t 110) (t 120) F),v 2 121])
 (.live [2] (.ret)))))
theorem body565:code565.body = .seq (R [0] [o 2 (.val F)])
 (.seq (.seq (R [0,17] [o 16 (.callg 557 []),o 17 (.un .not (t 16))])
 (.after (.cond (t 17) (.seq (R [2] [o 2 (.val F)])
 (.live [2] (.ret))) (.skip)) [0]))
 (.seq (.seq (R [0,20] [v 18 0,o 19 (.len .sl (t 18)),o 20 (.bin .gtr (t 19) (n 200))])
 (.after (.cond (t 20) (.seq (R [2] [o 2 (.val Y)])
 (.live [2] (.ret))) (.skip)) [0]))
 (.seq (R [0,3,4] [o 22 (.build [.int .i64 0,.int .i64 0,.int .i64 0] [(0,1,n 5),(1,1,n 200),(2,1,n 100)]),o 23 (.callg 556 [t 22]),v 21 23,o 24 (.extract (t 21) 0),o 25 (.extract (t 21) 1),v 3 24,v 4 25])
 (.seq (R [0,3,4,5,6] [v 27 3,o 28 (.callg 555 [t 27]),v 26 28,o 29 (.extract (t 26) 0),o 30 (.extract (t 26) 1),v 5 29,v 6 30])
 (.seq g565
 (.seq (R [3,5,7] [v 37 0,o 38 (.build [.slice none 0 (some 0),.int .i64 0] [(0,1,t 37)]),o 39 (.box (t 38)),v 7 39])
 (.seq (.seq (R [3,5,7,8] [o 8 (.val (n 0))])
 (.after (.block 0 (.loop code565L1)) [3,5]))
 f565))))))):=rfl
def byteU (x:UInt8):List AVal:=[u8V x]
theorem byteU_flat:∀ L:Bs,L.flatMap byteU=L.map u8V
 | []=>rfl
 | x :: L=>by rw [d0,bc,byteU_flat L]; rfl
theorem has_byteU {os:List AObj} {b w:Nat} {d:Dat} {cs:List AVal} (h:Has ⟨os,b,w⟩ (.int .u8) d cs):∃ x:UInt8,cs=byteU x∧True:=by
 obtain ⟨n,_,rfl,h1,h2⟩:=h.int
 have e1:IntKind.u8.min=0:=rfl
 have e2:IntKind.u8.max=255:=rfl
 rw [e1] at h1
 rw [e2] at h2
 refine ⟨UInt8.ofNat n.toNat,?_,trivial⟩
 unfold byteU u8V
 have:((UInt8.ofNat n.toNat).toNat:Int)=n:=by
  rw [UInt8.toNat_ofNat']
  have:n.toNat % 2 ^ 8=n.toNat:=Nat.mod_eq_of_lt (by omega)
  rw [this]; omega
 rw [this]
theorem blob_in {os:List AObj} {b w:Nat} {d:Dat} {cs:List AVal} (hb:b≤os.length) (h:Has ⟨os,b,w⟩ (.slice (.int .u8)) d cs):∃ (a:Option (Nat × Nat)) (c:Option Nat) (B:Bs),cs=[.slice a B.length c]∧BlobV os (.slice a B.length c) B∧∀ p o,a=some (p,o)→p < b:=by
 have hc:cs=[.slice none 0 (some 0)]∨∃ i n,cs=[.slice (some (i,0)) n none]∧i < b:=by
  cases d <;> simp only [Has] at h
  ·exact .inl h
  ·obtain ⟨_,i,_,e,h2,_⟩:=h
   exact .inr ⟨i,_,e,h2⟩
 obtain ⟨a,L,c,rfl,hR,-,-,-,-⟩:=h.row fun d c h=>has_byteU h
 rcases hc with e | ⟨i,n,e,hi⟩
 ·simp only [List.cons.injEq,AVal.slice.injEq,and_true] at e
  obtain ⟨rfl,e2,rfl⟩:=e
  have hL:L=[]:=bo e2
  subst hL
  exact ⟨none,some 0,[],rfl,⟨none,some 0,rfl,fun p o e=>(by cases e),.inl rfl⟩,fun p o e=>by cases e⟩
 ·simp only [List.cons.injEq,AVal.slice.injEq,and_true] at e
  obtain ⟨rfl,rfl,rfl⟩:=e
  refine ⟨_,_,L,rfl,⟨some (i,0),none,rfl,fun p o e=>?_,?_⟩,fun p o e=>?_⟩
  ·cases e; omega
  ·by_cases h0:L=[]
   ·exact .inl h0
   ·right
    obtain ⟨p,o,cs,e1,e2,e3⟩:=hR.at' h0
    cases e1
    refine ⟨i,0,rfl,⟨rfl,cs,e2,?_⟩,ai _⟩
    have:=row_flat (e:=1) (f:=byteU) L 0 e3
    rw [Nat.mul_one] at this
    rw [this,byteU_flat]
  ·cases e; exact hi
section
variable {E:Env} {H:List AObj} {b:Nat} {I:SI} {F:Fl} {K:StU} {kl:List Bs}
section
attribute [-simp] getElem?_pos getElem?_neg List.all_eq_true
attribute [local simp] qZ qS nltT nltF iltT iltF ileT nleT dj
theorem l565 (h:SO kl H I F K) (hbN:b≤H.length) {q:Nat} (hq:H[q]? = some (.cells 3 (K.secs.flatMap Sec.cells))):∀ (j i w:Nat),i+j=F.n→∀ {β:Type} (k:AExit→St→Option β),
  xK T (.loop code565L0) ⟨[(3,.val (.ptr (some (I.fi.fl,0)))),(5,.val (.ptr (some (I.s,0)))),(61,.val (.slice (some (q,0)) F.n none)),(62,.val (.int .i64 F.n)),(63,.val (.int .i64 i))],⟨H,b,w⟩⟩ (k:=⟨k⟩) =
   k (.exit 2) ⟨[(5,.val (.ptr (some (I.s,0))))],⟨H,b,w⟩⟩
 | 0,i,w,hi,β,k=>by
  obtain rfl:i=F.n:=by omega
  rw [b9]
  simp (disch:=omega) [code565L0]
 | j+1,i,w,hi,β,k=>by
  have hnb:=h.a.fl.nb.1
  have hx:=h.v.lk i (by omega)
  have hlen:=sec_len K.secs
  rw [h.v.ln] at hlen
  have hpart:((K.secs.flatMap Sec.cells).drop (i*3)).take 3=(F.look i).cells:=flat_at Sec.cells 3 (fun _=>rfl) K.secs i _ hx |>.2
  have h564:=fun w=>dc sub (s564 (b:=b) (w:=w) h.a.fl (i:=i) (by omega) h.v.gz hbN)
  have ih:=l565 h hbN hq j (i+1) w (by omega) k
  have e2:((i+1:Nat):Int)=(i:Int)+1:=by omega
  rw [e2] at ih
  have hni:(i:Int) < F.n:=by omega
  have hni':i < F.n:=by omega
  rw [b9,← ih]
  have hcc:(F.look i).cells=[.int .i64 (F.look i).st,.int .u32 (F.look i).seq,.int .i64 (F.look i).er]:=rfl
  rw [hcc] at h564 hpart
  generalize (F.look i).st=s1 at *
  generalize (F.look i).seq=s2 at *
  generalize (F.look i).er=s3 at *
  generalize K.secs.flatMap Sec.cells=Y at *
  generalize ACode.loop code565L0=LL
  simp (disch:=omega) [code565L0,hq,h564,hni,hni',hlen,hpart,evEq,areKeys,CK.is,akeyL,akey1]
end
end
end Go.Abs.AbsBlo
