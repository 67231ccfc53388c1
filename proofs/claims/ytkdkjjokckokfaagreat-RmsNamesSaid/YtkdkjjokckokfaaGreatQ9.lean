/-
  Texts joined.
-/
import Derived.Test.YtkdkjjokckokfaaGreatQ0
import Derived.Test.YtkdkjjokckokfaaGreatQ8
set_option linter.unusedVariables false
set_option linter.unusedSimpArgs false
set_option maxRecDepth 100000
namespace Go.Abs.AbsBlb
open Go.Abs.Short
theorem za6 {O P:List AObj} {b w e q n:Nat} {cs:List AVal} {c:Option Nat} {W:Nat} {k:IntKind} {x:Int} (hq:P[q]? = some (.cells e cs)) (hI:AVal.idsL cs=[]) (hR:∀ g,AVal.renL g cs=cs) (h1:O.length≤q) (hW:O.length≤W) :
  dk ⟨O,b,w⟩ (.tuple [.slice (some (q,0)) n c,.int k x]) ⟨P,b,W⟩=(.tuple [.slice (some (O.length,0)) n c,.int k x],⟨O++[.cells e cs],b,w⟩):=by
 have hv:AVal.under (⟨O,b,w⟩:Heap).size (.tuple [.slice (some (q,0)) n c,.int k x])=false:=by
  have:¬ q < O.length:=by omega
  simp [AVal.under,AVal.unders,Heap.size,this]
 have hg:(⟨P,b,W⟩:Heap).get q=some (.cells e cs):=hq
 have hid:(AVal.tuple [.slice (some (q,0)) n c,.int k x]).ids=[q]:=by simp [AVal.ids,AVal.idsL]
 have hreach:reach ⟨P,b,W⟩ (⟨O,b,w⟩:Heap).size 1000 (AVal.tuple [.slice (some (q,0)) n c,.int k x]).ids []=[q]:=by rw [hid];rw [reach,if_neg (by show ¬ q < O.length; omega),if_neg (by simp),hg];simp only [b9,gh,AObj.ids,hI,ff];rfl
 refine (yx (show (⟨O,b,w⟩:Heap).size≤(⟨P,b,W⟩:Heap).wmin from hW) hv hreach fun j hj=>?_).trans ?_
 ·simp only [hid,fq,List.flatMap_nil,hg,b9,gh,AObj.ids,hI,gq,dy,List.not_mem_nil,or_false] at hj;subst hj;exact .inr (eo _)
 ·have key:∀ g:Nat→Nat,g q=O.length→((AVal.tuple [.slice (some (q,0)) n c,.int k x]).ren g,(⟨O++[AObj.cells e cs],b,w⟩:Heap))=(.tuple [.slice (some (O.length,0)) n c,.int k x],⟨O++[.cells e cs],b,w⟩):=fun g hg'=>by simp only [AVal.ren,AVal.renL,hg']
  simp only [Heap.size,bo,List.map_nil,hg,b9,gh,AObj.ren,hR];exact key _ ((if_neg (show ¬ q < O.length by omega)).trans (by simp [idxIn]))
structure RecU where
 kind:Nat
 txn:Nat
 key:Bs
 blob:Bs
 count:Nat
def rightB (k txn key blob count:Nat):Bool :=
 !decide (txn=0) && (if k=1 then decide (1≤key) && decide (key≤64) && decide (count=0) && decide (blob≤4096)
  else if k=2 then decide (1≤key) && decide (key≤64) && decide (count=0) && decide (blob=0)
  else if k=3 then decide (key=0) && decide (blob=0) && decide (count≤16) else false)
def RecU.right (r:RecU):Bool:=rightB r.kind r.txn r.key.length r.blob.length r.count
def RecU.b0 (r:RecU):Bs:=[UInt8.ofNat r.kind]++putB r.txn 4++putB r.key.length 1++putB r.blob.length 2++putB r.count 1
def RecU.b1 (r:RecU):Bs:=r.b0++putB (nat16 r.b0) 2
def RecU.b2 (r:RecU):Bs:=r.b1++r.key++r.blob
def recB (r:RecU):Bs:=r.b2++putB (nat32 r.b2) 4
def RecU.size (r:RecU):Nat:=16+r.key.length+r.blob.length
def RecU.cells (r:RecU) (v:AVal):List AVal:=[.int .i64 r.kind,.int .u32 r.txn,.str r.key,v,.int .i64 r.count]
theorem RecU.len0 (r:RecU):r.b0.length=9:=by unfold RecU.b0; simp [gb]
theorem RecU.len1 (r:RecU):r.b1.length=11:=by unfold RecU.b1; rw [aq,r.len0,gb]
theorem RecU.len2 (r:RecU):r.b2.length=11+r.key.length+r.blob.length:=by unfold RecU.b2; rw [aq,aq,r.len1]
theorem zh (r:RecU):(recB r).length+1=r.size:=by unfold recB RecU.size; rw [aq,r.len2,gb]; omega
def BlobV (H:List AObj) (v:AVal) (l:Bs):Prop:=∃ a c,v = .slice a l.length c∧(∀ p o,a=some (p,o)→p < H.length)∧(l=[]∨∃ p o,a=some (p,o)∧SlB H p o l.length l∧l.length≤c.getD l.length)
section
variable {H P:List AObj} {b w:Nat}
theorem BlobV.row {v:AVal} {l:Bs} (h:BlobV H v l):iw 1 ⟨H,b,w⟩ v=some (l.map u8V):=by
 obtain ⟨a,c,rfl,hid,h⟩:=h;rcases h with rfl | ⟨p,o,rfl,h,-⟩
 ·exact xh
 ·by_cases hn:l=[]
  ·subst hn; exact xh
  ·exact h.row (uf.2 hn) c
theorem BlobV.len {v:AVal} {l:Bs} (h:BlobV H v l):alen v=l.length:=by obtain ⟨a,c,rfl,-,-⟩:=h; rfl
theorem BlobV.mono {v:AVal} {l:Bs} {H':List AObj} (h:BlobV H v l) (hln:H.length≤H'.length) (hk:∀ p o n c,v = .slice (some (p,o)) n c→∀ x,H[p]? = some x→H'[p]? = some x):BlobV H' v l:=by
 obtain ⟨a,c,rfl,hid,h⟩:=h;refine ⟨a,c,rfl,fun p o h=>fg (hid p o h) hln,?_⟩;rcases h with rfl | ⟨p,o,rfl,h,h2⟩
 ·exact .inl rfl
 ·exact .inr ⟨p,o,rfl,h.mono (hk _ _ _ _ rfl),h2⟩
theorem app_row {q n:Nat} {l k:Bs} {y:AVal} (hp:Pre H P) (hq:P[q]? = some (.cells 1 (l.map u8V))) (hn:l.length=n) (hn0:0 < n) (hH:H.length≤q) (hb:b≤H.length) (hlen:n+k.length≤1000000000) (hy:∀ w,iw 1 ⟨P,b,w⟩ y=some (k.map u8V)) (hm:alen y=k.length) :
  ∃ q' P',∃ nx:Nat→Nat,Pre H P'∧P'[q']? = some (.cells 1 ((l++k).map u8V))∧H.length≤q'∧(∀ w,H.length≤w→H.length≤nx w)∧((k=[]∧P'=P∧q'=q∧nx=fun w=>w)∨(k≠[]∧P'.length=P.length+1∧q'=P.length∧nx=fun w=>min w q))∧∀ w,ex 1 1 ⟨P,b,w⟩ (.slice (some (q,0)) n none) y=some (.slice (some (q',0)) (n+k.length) none,⟨P',b,nx w⟩):=by
 have hql:=ah hq;have hr:∀ w,iw 1 ⟨P,b,w⟩ (.slice (some (q,0)) n none)=some (l.map u8V):=fun w=>SlB.row (SlB.whole hq hn) hn0 _
 by_cases h0:k.length=0
 ·obtain rfl:k=[]:=cg h0;refine ⟨q,P,fun w=>w,hp,by rw [gq]; exact hq,hH,fun w h=>h,.inl ⟨rfl,rfl,rfl,rfl⟩,fun w=>?_⟩;unfold ex;simp only [hr,hy,hm,aApp];exact if_pos rfl
 ·refine ⟨P.length,P.set q .dead++[.cells 1 ((l++k).map u8V)],fun w=>min w q,(hp.set .dead hH).trans (Pre.app _ _),?_,hp.len,fun w h=>Nat.le_min.2 ⟨h,hH⟩,.inr ⟨fun hk=>h0 (by rw [hk]; rfl),by rw [aq,bf]; rfl,rfl,rfl⟩,fun w=>?_⟩
  ·rw [aw (by rw [bf]; exact aj _),bf,mw]; rfl
  ·have hri:rowIs ⟨P,b,w⟩ q 1=true:=by unfold rowIs Heap.get;simp only [hq];rfl
   unfold ex;simp only [hr,hy,hm,aApp];refine (if_neg h0).trans ((if_pos ⟨by omega,by omega⟩).trans ((if_neg (by simp)).trans ((if_pos ⟨by show b≤q; omega,hri⟩).trans ?_)));simp [Heap.push,Heap.size,Heap.put]
section
attribute [-simp] getElem?_pos getElem?_neg List.all_eq_true
attribute [local simp] qZ qS nltT nltF iltT iltF ileT nleT el
theorem s614 {k txn key blob count:Nat} {y:AVal} {s:Bs}:xCall T 614 [.agg [.int .i64 k,.int .u32 txn,.str s,y,.int .i64 count],.int .i64 key,.int .i64 blob] ⟨H,b,w⟩=some (.bool (rightB k txn key blob count),⟨H,b,w⟩):=by
 unfold rightB;by_cases h0:txn=0
 ·subst h0;simp (disch:=omega) [bc t614,code614]
 ·have h0':¬ ((txn:Int)=0):=by omega
  by_cases k1:k=1
  ·subst k1;by_cases c1:1≤key
   ·by_cases c2:key≤64
    ·by_cases c3:count=0
     ·subst c3;by_cases c4:blob≤4096
      ·simp (disch:=omega) [bc t614,code614,h0,h0',c1,c2,c4]
      ·simp (disch:=omega) [bc t614,code614,h0,h0',c1,c2,c4]
     ·have c3':¬ ((count:Int)=0):=by omega
      simp (disch:=omega) [bc t614,code614,h0,h0',c1,c2,c3,c3']
    ·have c2':¬ ((key:Int)≤64):=by omega
     simp (disch:=omega) [bc t614,code614,h0,h0',c1,c2,c2']
   ·have c1':key=0:=by omega
    subst c1';simp (disch:=omega) [bc t614,code614,h0,h0']
  ·by_cases k2:k=2
   ·subst k2;by_cases c1:1≤key
    ·by_cases c2:key≤64
     ·by_cases c3:count=0
      ·subst c3;by_cases c4:blob=0
       ·subst c4;simp (disch:=omega) [bc t614,code614,h0,h0',c1,c2]
       ·have c4':¬ ((blob:Int)=0):=by omega
        simp (disch:=omega) [bc t614,code614,h0,h0',c1,c2,c4,c4']
      ·have c3':¬ ((count:Int)=0):=by omega
       simp (disch:=omega) [bc t614,code614,h0,h0',c1,c2,c3,c3']
     ·have c2':¬ ((key:Int)≤64):=by omega
      simp (disch:=omega) [bc t614,code614,h0,h0',c1,c2,c2']
    ·have c1':key=0:=by omega
     subst c1';simp (disch:=omega) [bc t614,code614,h0,h0']
   ·by_cases k3:k=3
    ·subst k3;by_cases c1:key=0
     ·subst c1;by_cases c2:blob=0
      ·subst c2;by_cases c3:count≤16
       ·simp (disch:=omega) [bc t614,code614,h0,h0',c3]
       ·simp (disch:=omega) [bc t614,code614,h0,h0',c3]
      ·have c2':¬ ((blob:Int)=0):=by omega
       simp (disch:=omega) [bc t614,code614,h0,h0',c2,c2']
     ·have c1':¬ ((key:Int)=0):=by omega
      have c0:(1:Int)≤key:=by omega
      by_cases c2:(key:Int)≤64
      ·by_cases c3:(count:Int)=0
       ·simp (disch:=omega) [bc t614,code614,h0,h0',c1,c1',c0,c2,c3]
       ·simp (disch:=omega) [bc t614,code614,h0,h0',c1,c1',c0,c2,c3]
      ·simp (disch:=omega) [bc t614,code614,h0,h0',c1,c1',c0,c2]
    ·have k1':¬ ((k:Int)=1):=by omega
     have k2':¬ ((k:Int)=2):=by omega
     have k3':¬ ((k:Int)=3):=by omega
     by_cases c1:(1:Int)≤key
     ·by_cases c2:(key:Int)≤64
      ·by_cases c3:(count:Int)=0
       ·simp (disch:=omega) [bc t614,code614,h0,h0',k1,k2,k3,k1',k2',k3',c1,c2,c3]
       ·simp (disch:=omega) [bc t614,code614,h0,h0',k1,k2,k3,k1',k2',k3',c1,c2,c3]
      ·simp (disch:=omega) [bc t614,code614,h0,h0',k1,k2,k3,k1',k2',k3',c1,c2]
     ·simp (disch:=omega) [bc t614,code614,h0,h0',k1,k2,k3,k1',k2',k3',c1]
end
theorem rightB_lens {k t key blob count:Nat} (h:rightB k t key blob count=true):k≤3∧key≤64∧blob≤4096∧count≤16:=by
 unfold rightB at h;by_cases k1:k=1
 ·simp [k1] at h;omega
 ·by_cases k2:k=2
  ·simp [k2] at h;omega
  ·by_cases k3:k=3
   ·simp [k3] at h;omega
   ·simp [k1,k2,k3] at h
theorem za7 {r:RecU} (h:r.right=true):r.kind≤3∧r.key.length≤64∧r.blob.length≤4096∧r.count≤16:=rightB_lens h
section
attribute [-simp] getElem?_pos getElem?_neg List.all_eq_true
attribute [local simp] qZ qS nltT nltF iltT iltF ileT nleT el
theorem s596 {r:RecU} {v:AVal} (hv:BlobV H v r.blob) (hr:r.right=true) (ht:r.txn < 4294967296) (hbl:b≤H.length):xCall T 596 [.agg (r.cells v)] ⟨H,b,w⟩=some (.tuple [.slice (some (H.length,0)) (recB r).length none,.int .i64 0],⟨H++[.cells 1 ((recB r).map u8V)],b,w⟩):=by
 obtain ⟨l0,l1,l2,l3⟩:=za7 hr;have h614:=fun w=>s614 (H:=H) (b:=b) (w:=w) (k:=r.kind) (txn:=r.txn) (key:=r.key.length) (blob:=r.blob.length) (count:=r.count) (y:=v) (s:=r.key)
 have hr':rightB r.kind r.txn r.key.length r.blob.length r.count=true:=hr;rw [hr'] at h614;have wk:=za9 r.kind;have hal:=hv.len;obtain ⟨pa,pc,hve,hid,-⟩:=id hv
 have hids:((AVal.slice pa r.blob.length pc).ids.all fun i=>decide (i < H.length+6))=true:=by
  cases pa with
  | none=>rfl
  | some p =>
   have:=hid p.1 p.2 rfl;simp only [AVal.ids,List.all_cons,List.all_nil,Bool.and_true,decide_eq_true_eq];omega
 have hids2:∀ m ds,((AVal.slice pa r.blob.length pc).ids.all (okId (H.length+6) m ds))=true:=fun m ds=>by
  cases pa with
  | none=>rfl
  | some p =>
   have:=hid p.1 p.2 rfl;simp only [AVal.ids,List.all_cons,List.all_nil,Bool.and_true];have h6:p.1 < H.length+6:=by omega
   unfold okId;simp [h6]
 have h1:=fun w=>s385 (H:=H++[.cells 1 [u8V (UInt8.ofNat r.kind)]]) (b:=b) (w:=w) (p:=H.length) (o:=0) (n:=1) (l:=[UInt8.ofNat r.kind]) (v:=r.txn) (k:=4) (c:=some 1) (SlB.whole (ga _ _) rfl) (by omega) (by omega) (by rw [aq]; omega) (by omega) (by omega) (aj _)
 have h2:=fun w=>s385 (H:=H++[.cells 1 [u8V (UInt8.ofNat r.kind)],.cells 1 (([UInt8.ofNat r.kind]++putB r.txn 4).map u8V)]) (b:=b) (w:=w) (p:=H.length+1) (o:=0) (n:=5) (v:=r.key.length) (k:=1) (c:=none) (SlB.whole (kj H _ 1) (by simp [gb])) (by omega) (by omega) (by rw [aq]; omega) (by omega) (by omega) (aj _)
 have h3:=fun w=>s385 (H:=H++[.cells 1 [u8V (UInt8.ofNat r.kind)],.cells 1 (([UInt8.ofNat r.kind]++putB r.txn 4).map u8V),.cells 1 (([UInt8.ofNat r.kind]++putB r.txn 4++putB r.key.length 1).map u8V)]) (b:=b) (w:=w) (p:=H.length+2) (o:=0) (n:=6) (v:=r.blob.length) (k:=2) (c:=none) (SlB.whole (kj H _ 2) (by simp [gb])) (by omega) (by omega) (by rw [aq]; omega) (by omega) (by omega) (aj _)
 have h4:=fun w=>s385 (H:=H++[.cells 1 [u8V (UInt8.ofNat r.kind)],.cells 1 (([UInt8.ofNat r.kind]++putB r.txn 4).map u8V),.cells 1 (([UInt8.ofNat r.kind]++putB r.txn 4++putB r.key.length 1).map u8V),.cells 1 (([UInt8.ofNat r.kind]++putB r.txn 4++putB r.key.length 1++putB r.blob.length 2).map u8V)]) (b:=b) (w:=w) (p:=H.length+3) (o:=0) (n:=8) (v:=r.count) (k:=1) (c:=none) (SlB.whole (kj H _ 3) (by simp [gb])) (by omega) (by omega) (by rw [aq]; omega) (by omega) (by omega) (aj _)
 have e0:[UInt8.ofNat r.kind]++putB r.txn 4++putB r.key.length 1++putB r.blob.length 2++putB r.count 1=r.b0:=rfl;rw [e0] at h4;generalize AObj.cells 1 (([UInt8.ofNat r.kind]++putB r.txn 4++putB r.key.length 1++putB r.blob.length 2).map u8V)=o3 at *;generalize AObj.cells 1 (([UInt8.ofNat r.kind]++putB r.txn 4++putB r.key.length 1).map u8V)=o2 at *;generalize AObj.cells 1 (([UInt8.ofNat r.kind]++putB r.txn 4).map u8V)=o1 at *;have S0:SlB (H++[.cells 1 [u8V (UInt8.ofNat r.kind)],o1,o2,o3,.cells 1 (r.b0.map u8V)]) (H.length+4) 0 9 r.b0:=SlB.whole (kj H _ 4) r.len0;have h602:=fun w=>s602 (b:=b) (w:=w) (c:=none) S0 (by omega) (by omega)
 obtain ⟨n1,n2⟩:=tk r.b0;rw [n1] at h602;have h5:=fun w=>s385 (b:=b) (w:=w) (c:=none) (v:=nat16 r.b0) (k:=2) S0 (by omega) (by omega) (by rw [aq]; omega) (by omega) (by omega) (aj _)
 have e1:r.b0++putB (nat16 r.b0) 2=r.b1:=rfl;rw [e1] at h5;have hp1:Pre H (H++[.cells 1 [u8V (UInt8.ofNat r.kind)],o1,o2,o3,.cells 1 (r.b0.map u8V),.cells 1 (r.b1.map u8V)]):=Pre.app _ _;obtain ⟨q1,P1,x1,a1,a2,a3,a4,a6,a5⟩:=app_row (k:=r.key) (b:=b) (y:=.str r.key) (n:=11) hp1 (kj H _ 5) r.len1 (by omega) (by omega) hbl (by omega) (fun w=>rfl) rfl;have hv1:BlobV P1 v r.blob:=hv.mono a1.len fun _ _ _ _ _ x hx=>a1 _ _ hx
 obtain ⟨q2,P2,x2,b1,b2,b3,b4,b6,b5⟩:=app_row (k:=r.blob) (b:=b) (y:=v) (n:=11+r.key.length) a1 a2 (by rw [aq,r.len1]) (by omega) a3 hbl (by omega) (fun w=>hv1.row) hal;have e2:r.b1++r.key++r.blob=r.b2:=rfl;rw [e2] at b2;have S2:SlB P2 q2 0 (11+r.key.length+r.blob.length) r.b2:=SlB.whole b2 r.len2;have h613:=fun w=>s613 (b:=b) (w:=w) (c:=none) S2 (by omega) (by omega)
 obtain ⟨m1,m2⟩:=nat32_eq r.b2;rw [m1] at h613;have h6:=fun w=>s385 (b:=b) (w:=w) (c:=none) (v:=nat32 r.b2) (k:=4) S2 (by omega) (by omega) (cf hbl b1.len) (by omega) (by omega) (aj _)
 have e3:r.b2++putB (nat32 r.b2) 4=recB r:=rfl;rw [e3] at h6;have hln:(recB r).length=11+r.key.length+r.blob.length+4:=by unfold recB; rw [aq,r.len2,gb]
 have hf:=fun w0=>za6 (k:=.i64) (x:=0) (O:=H) (P:=P2++[.cells 1 ((recB r).map u8V)]) (b:=b) (w:=w0) (W:=x2 H.length) (q:=P2.length) (n:=(recB r).length) (c:=none) (ga _ _) (lz _) (fun g=>mg g _) b1.len (b4 _ (aj _))
 rw [hln] at hf;unfold RecU.cells;rw [hve] at h614 b5 ⊢;simp only [aq,bt,ep,ed,Nat.reduceAdd,d7,ff,az,ba] at h1 h2 h3 h4 h5 h602 a5 h6;generalize (recB r).map u8V=Y6 at *;generalize r.b1.map u8V=Y1 at *;generalize r.b0.map u8V=Y0 at *;rw [hln];unfold u8V at h1 h2 h3 h4 h5 h602 a5;have w4:IntKind.u64.wrap (nat16 r.b0:Int)=nat16 r.b0:=l9 (by omega);have w5:IntKind.u64.wrap (nat32 r.b2:Int)=nat32 r.b2:=l9 (by omega);have w1:IntKind.u64.wrap (r.txn:Int)=r.txn:=l9 (by omega);have w2:IntKind.u64.wrap (r.key.length:Int)=r.key.length:=l9 (by omega);have w3:IntKind.u64.wrap (r.blob.length:Int)=r.blob.length:=l9 (by omega);have w6:IntKind.u64.wrap (r.count:Int)=r.count:=l9 (by omega);generalize UInt8.ofNat r.kind=kb at *;rcases a6 with ⟨hk,rfl,rfl,rfl⟩ | ⟨hk,k1,rfl,rfl⟩
 ·unfold u8V at b5;simp (disch:=omega) [bc t596,code596,-dk,-ex,h614,wk,h1,h2,h3,h4,h602,h5,a5,b5,h613,h6,hf,w1,w2,w3,w4,w5,w6,hids,hids2]
 ·simp only [aq,bt,ep,ed,Nat.reduceAdd] at k1 a2 a5 b5;have k2:¬ P1.length=H.length+6:=by omega
  simp (disch:=omega) [bc t596,code596,-dk,-ex,h614,wk,h1,h2,h3,h4,h602,h5,a5,b5,h613,h6,hf,w1,w2,w3,w4,w5,w6,hids,hids2,k1,k2,a2,lz]
end
end
end Go.Abs.AbsBlb

namespace Go.Abs.AbsBlb
open Go.Abs.Short
abbrev RV:=RecU × AVal
def RV.cells (p:RV):List AVal:=p.1.cells p.2
def RV.ok (H:List AObj) (p:RV):Prop:=BlobV H p.2 p.1.blob∧p.1.key.length≤1000000∧p.1.blob.length≤1000000
def sizes (L:List RecU):Nat:=(L.map RecU.size).sum
section
variable {H:List AObj} {b w:Nat}
section
attribute [-simp] getElem?_pos getElem?_neg List.all_eq_true
attribute [local simp] qZ qS nltT nltF iltT iltF ileT nleT el
theorem s589 {r:RecU} {a:Option (Nat × Nat)} {c:Option Nat} (h1:r.key.length≤1000000) (h2:r.blob.length≤1000000):xCall T 589 [.agg (r.cells (.slice a r.blob.length c))] ⟨H,b,w⟩=some (.int .i64 (r.size:Nat),⟨H,b,w⟩):=by
 have e:((r.size:Nat):Int)=11+r.key.length+r.blob.length+5:=by unfold RecU.size; omega
 rw [e];unfold RecU.cells;simp (disch:=omega) [bc t589,code589]
theorem l579 {L:List RV} {a:Option (Nat × Nat)} {c:Option Nat} {y:AVal} (hR:Row H 5 RV.cells L a) (hn:L.length≤100) (hok:∀ p ∈ L,RV.ok H p):∀ (j i w:Nat) (s:Nat),i+j=L.length→s≤i*3000000→∀ {β:Type} (k:AExit→St→Option β),
  xK T (.loop code579L0) ⟨[(0,.val y),(3,.val (.int .i64 s)),(7,.val (.slice a L.length c)),(8,.val (.int .i64 L.length)),(9,.val (.int .i64 i))],⟨H,b,w⟩⟩ (k:=⟨k⟩) =
   k (.exit 0) ⟨[(0,.val y),(3,.val (.int .i64 ((s+sizes ((L.drop i).map Prod.fst):Nat):Int)))],⟨H,b,w⟩⟩
 | 0,i,w,s,hi,hs,β,k=>by have hd:L.drop i=[]:=co (by omega);rw [hd,cd];have e0:s+sizes (([]:List RV).map Prod.fst)=s:=rfl;rw [e0];simp (disch:=omega) [code579L0]
 | j+1,i,w,s,hi,hs,β,k=>by
  obtain ⟨x,hx⟩:∃ x,L[i]? = some x:=⟨_,ai (by omega)⟩;obtain ⟨bb,o,cs,rfl,hrow,hpart⟩:=hR.at' (js hx);obtain ⟨p1,p2⟩:=hpart i x hx;obtain ⟨⟨xa,xc,xv,-,-⟩,k1,k2⟩:=hok x (bn hx);have e2:((i+1:Nat):Int)=(i:Int)+1:=by omega
  have hsz:x.1.size≤3000000:=by unfold RecU.size; omega
  have ih:=l579 (c:=c) (y:=y) hR hn hok j (i+1) w (s+x.1.size) (by omega) (by omega) k;have e3:((s+x.1.size:Nat):Int)=(s:Int)+(x.1.size:Nat):=by omega
  rw [e2,e3] at ih;have h589:=fun w=>s589 (H:=H) (b:=b) (w:=w) (r:=x.1) (a:=xa) (c:=xc) k1 k2
  have hxc:RV.cells x=[.int .i64 x.1.kind,.int .u32 x.1.txn,.str x.1.key,.slice xa x.1.blob.length xc,.int .i64 x.1.count]:=by unfold RV.cells RecU.cells; rw [xv]
  unfold RecU.cells at h589;rw [hxc] at p2
  have e4:s+sizes ((L.drop i).map Prod.fst)=s+x.1.size+sizes ((L.drop (i+1)).map Prod.fst):=by rw [ie hx,bo];unfold sizes;rw [bo,j9]; omega
  rw [e4,cd,← ih];have hs2:s≤300000000:=cf hs (by omega);generalize ACode.loop code579L0=LL;generalize x.1.size=sz at *;simp (disch:=omega) [code579L0,hrow,p1,p2,h589]
end
theorem za5:∀ {L:List RV},(∀ p ∈ L,RV.ok H p)→sizes (L.map Prod.fst)≤L.length*3000000
 | [],_=>aj _
 | x :: L,h=>by
  have ih:=za5 (L:=L) fun p hp=>h p (bj _ hp)
  obtain ⟨-,k1,k2⟩:=h x (bg ..);rw [bo,bt];unfold sizes at ih ⊢;rw [bo,j9];have:x.1.size≤3000000:=by unfold RecU.size; omega
  omega
theorem s579 {L:List RV} {a:Option (Nat × Nat)} {c:Option Nat} (hR:Row H 5 RV.cells L a) (hn:L.length≤16) (h0:L≠[]) (hok:∀ p ∈ L,RV.ok H p) :
  xCall T 579 [.slice a L.length c] ⟨H,b,w⟩=some (.int .i64 ((sizes (L.map Prod.fst)+16:Nat):Int),⟨H,b,w⟩):=by
 have hl:=fun {β:Type} w (k:AExit→St→Option β)=>l579 (b:=b) (c:=c) (y:=.slice a L.length c) hR (by omega) hok L.length 0 w 0 (by omega) (by omega) k
 simp only [ba,eq,ed] at hl;have h589:=fun w=>s589 (H:=H) (b:=b) (w:=w) (r:=⟨0,0,[],[],0⟩) (a:=none) (c:=some 0) (by decide) (by decide)
 have hq:((L.length:Int)+16 - 1).tdiv 16=1:=by have h1:0 < L.length:=uf.2 h0;rw [Int.tdiv_eq_ediv_of_nonneg (by omega)];omega
 have hbs:=za5 hok;have hbs2:sizes (L.map Prod.fst)≤300000000:=by omega
 have e16:((sizes (L.map Prod.fst)+16:Nat):Int)=(sizes (L.map Prod.fst):Int)+16:=by omega
 rw [e16];simp only [RecU.cells,RecU.size,ep,ba,Nat.reduceAdd] at h589;generalize sizes (L.map Prod.fst)=s at *;simp (disch:=omega) [-getElem?_pos,-getElem?_neg,-List.all_eq_true,qZ,qS,nltT,nltF,iltT,iltF,ileT,nleT,el,bc t579,code579,hl,h589,hq]
end
end Go.Abs.AbsBlb

namespace Go.Abs.AbsBlb
open Go.Abs.Short
structure PlU where
 sec:Nat
 at_:Nat
 blob:Bs
def PlU.val (p:PlU):AVal:=.agg [.int .i64 p.sec,.int .i64 p.at_,.str p.blob]
structure StU where
 secs:List Sec
 ix:List (Bs × PlU × Nat)
 clock:Nat
 head:Int
 at_:Nat
 txn:Nat
 seq:Nat
 down:Bool
structure SI where
 s:Nat
 sa:Nat
 sc:Option Nat
 m:Nat
 fi:FI
def StU.cells (K:StU) (F:Fl) (I:SI):List AVal:=[.ptr (some (I.fi.fl,0)),.int .i64 F.n,.int .i64 F.z,.int .i64 F.lim,.slice (some (I.sa,0)) K.secs.length I.sc,.map (some I.m),.int .i64 K.head,.int .i64 K.at_,.int .u32 K.txn,.int .u32 K.seq,.bool K.down]
def StU.map (K:StU):AObj:=.map (K.ix.map fun e=>(.str e.1,e.2.1.val,e.2.2)) K.clock
structure StA (H:List AObj) (I:SI) (F:Fl) (K:StU):Prop where
 fl:FlA H I.fi F
 s:H[I.s]? = some (.cells 11 (K.cells F I))
 r:H[I.sa]? = some (.cells 3 (K.secs.flatMap Sec.cells))
 m:H[I.m]? = some K.map
 ln:K.secs.length=F.n
 hd:K.head = -1∨∃ h:Nat,K.head=h∧h < F.n
 ab:K.at_≤F.z
 sb:K.seq < 4294967296
 tb:K.txn < 4294967296
def SI.hi (I:SI):Nat:=max I.s (max I.sa (max I.m (max I.fi.fb I.fi.fw)))
def SI.lo (I:SI) (b:Nat):Prop:=b≤I.s∧b≤I.sa∧b≤I.m∧b≤I.fi.fb∧b≤I.fi.fw
structure StF (I:SI) (H H':List AObj):Prop where
 len:H.length≤H'.length
 keep:∀ (k:Nat) (o:AObj),H[k]? = some o→k≠I.s→k≠I.sa→k≠I.m→k≠I.fi.fb→k≠I.fi.fw→H'[k]? = some o
section
variable {H H' H'':List AObj} {b w:Nat} {I:SI} {F:Fl} {K:StU}
theorem StF.refl:StF I H H:=⟨aj _,fun _ _ h _ _ _ _ _=>h⟩
theorem StF.trans (h:StF I H H') (k:StF I H' H''):StF I H H'':=⟨cf h.len k.len,fun i o ho h1 h2 h3 h4 h5=>k.keep i o (h.keep i o ho h1 h2 h3 h4 h5) h1 h2 h3 h4 h5⟩
theorem FlF.st (h:FlF I.fi H H'):StF I H H':=⟨h.len,fun i o ho _ _ _ h4 h5=>h.keep i o ho h4 h5⟩
theorem StF.app (h:StF I H H') (X:List AObj):StF I H (H'++X):=⟨by rw [aq]; have:=h.len; omega,fun i o ho h1 h2 h3 h4 h5=>by have:=h.keep i o ho h1 h2 h3 h4 h5;rw [ag (ah this)]; exact this⟩
theorem StA.hi (h:StA H I F K):I.hi < H.length:=by have h1:=ah h.s;have h2:=ah h.r;have h3:=ah h.m;have h4:=ah h.fl.b;have h5:=ah h.fl.w;unfold SI.hi;omega
structure Nes (I:SI):Prop where
 a1:I.s≠I.sa
 a2:I.s≠I.m
 a3:I.s≠I.fi.fl
 a4:I.s≠I.fi.fb
 a5:I.s≠I.fi.fw
 b1:I.sa≠I.m
 b2:I.sa≠I.fi.fl
 b3:I.sa≠I.fi.fb
 b4:I.sa≠I.fi.fw
 c1:I.m≠I.fi.fl
 c2:I.m≠I.fi.fb
 c3:I.m≠I.fi.fw
theorem StA.nes (h:StA H I F K):Nes I:=⟨fun e=>by have q:=h.s; rw [e,h.r] at q; simp [StU.map] at q,
 fun e=>by have q:=h.s; rw [e,h.m] at q; simp [StU.map] at q,
 fun e=>by have q:=h.s; rw [e,h.fl.f] at q; simp [StU.map] at q,
 fun e=>by have q:=h.s; rw [e,h.fl.b] at q; simp [StU.map] at q,
 fun e=>by have q:=h.s; rw [e,h.fl.w] at q; simp [StU.map] at q,
 fun e=>by have q:=h.r; rw [e,h.m] at q; simp [StU.map] at q,
 fun e=>by have q:=h.r; rw [e,h.fl.f] at q; simp [StU.map] at q,
 fun e=>by have q:=h.r; rw [e,h.fl.b] at q; simp [StU.map] at q,
 fun e=>by have q:=h.r; rw [e,h.fl.w] at q; simp [StU.map] at q,
 fun e=>by have q:=h.m; rw [e,h.fl.f] at q; simp [StU.map] at q,
 fun e=>by have q:=h.m; rw [e,h.fl.b] at q; simp [StU.map] at q,
 fun e=>by have q:=h.m; rw [e,h.fl.w] at q; simp [StU.map] at q⟩
theorem StA.flash (h:StA H I F K) {F':Fl} (k:FlF I.fi H H') (h':FlA H' I.fi F') (e:F'.n=F.n∧F'.z=F.z∧F'.lim=F.lim):StA H' I F' K:=by have n:=h.nes;refine ⟨h',?_,k.keep _ _ h.r n.b3 n.b4,k.keep _ _ h.m n.c2 n.c3,by rw [e.1]; exact h.ln,by rw [e.1]; exact h.hd,by rw [e.2.1]; exact h.ab,h.sb,h.tb⟩;rw [k.keep _ _ h.s n.a4 n.a5];unfold StU.cells;rw [e.1,e.2.1,e.2.2]
theorem StA.app (h:StA H I F K) (X:List AObj):StA (H++X) I F K:=by
 have:∀ {i o},H[i]? = some o→(H++X)[i]? = some o:=fun ho=>by rw [ag (ah ho)]; exact ho
 exact ⟨h.fl.app X,this h.s,this h.r,this h.m,h.ln,h.hd,h.ab,h.sb,h.tb⟩
theorem StA.own (h:StA H I F K) {K':StU} (e1:K'.secs=K.secs) (e2:K'.ix=K.ix∧K'.clock=K.clock) (hd:K'.head = -1∨∃ h:Nat,K'.head=h∧h < F.n) (ab:K'.at_≤F.z) (sb:K'.seq < 4294967296) (tb:K'.txn < 4294967296):StA (H.set I.s (.cells 11 (K'.cells F I))) I F K':=by
 have n:=h.nes;have:∀ {i o},H[i]? = some o→I.s≠i→(H.set I.s (.cells 11 (K'.cells F I)))[i]? = some o:=fun ho hne=>by rw [av hne]; exact ho
 exact ⟨h.fl.keep fun i o ho hi=>this ho (by rcases hi with rfl | rfl | rfl; exact n.a3; exact n.a4; exact n.a5),jr h.s,by rw [e1]; exact this h.r n.a1,by unfold StU.map; rw [e2.1,e2.2]; exact this h.m n.a2,by rw [e1]; exact h.ln,hd,ab,sb,tb⟩
theorem StF.own {o:AObj}:StF I H (H.set I.s o):=⟨by rw [bf]; exact aj _,fun k o ho h1 _ _ _ _=>by rw [av (fun e=>h1 e.symm)]; exact ho⟩
section
attribute [-simp] getElem?_pos getElem?_neg List.all_eq_true
attribute [local simp] qZ qS nltT nltF iltT iltF ileT nleT el
theorem s597 (h:StA H I F K) {n:Nat} (hn:n≤1000000000):xCall T 597 [.ptr (some (I.s,0)),.int .i64 n] ⟨H,b,w⟩=some (.bool (!decide (K.head = -1) && decide (K.at_+n≤F.z)),⟨H,b,w⟩):=by
 have hs:=h.s;unfold StU.cells at hs;have hz:=h.fl.nb.2;have ha:=h.ab;by_cases c1:K.head = -1
 ·simp (disch:=omega) [bc t597,code597,hs,c1]
 ·by_cases c2:K.at_+n≤F.z
  ·simp (disch:=omega) [bc t597,code597,hs,c1,c2]
  ·simp (disch:=omega) [bc t597,code597,hs,c1,c2]
theorem s561 (h:StA H I F K):xCall T 561 [.ptr (some (I.s,0))] ⟨H,b,w⟩=some (.bool K.down,⟨H,b,w⟩):=by have hs:=h.s;unfold StU.cells at hs;simp (disch:=omega) [bc t561,code561,hs]
theorem p578 (h:StA H I F K) (hb:I.lo b):∃ H',StF I H H'∧StA H' I F K∧H'.length=H.length∧∀ w,xCall T 578 [.ptr (some (I.s,0)),.int .i64 0] ⟨H,b,w⟩=some (.int .i64 0,⟨H',b,min w I.s⟩):=by
 refine ⟨_,StF.own,h.own (K':=K) rfl ⟨rfl,rfl⟩ h.hd h.ab h.sb h.tb,bf,fun w=>?_⟩;have hs:=h.s;unfold StU.cells at hs ⊢;have hl:=ah hs;have hb1:=hb.1;cases hd:K.down with
 | true =>
  rw [hd] at hs;simp (disch:=omega) [bc t578,code578,hs]
 | false =>
  rw [hd] at hs;simp (disch:=omega) [bc t578,code578,hs]
end
end
end Go.Abs.AbsBlb

namespace Go.Abs.AbsBlb
open Go.Abs.Short
def Fl.laid (F:Fl) (a:Nat) (r:RecU):Fl:=(F.prog a (recB r)).prog (a+(recB r).length) [0]
section
variable {H:List AObj} {b w:Nat} {I:SI} {F:Fl} {K:StU}
theorem p601 (h:StA H I F K) (hb:I.lo b) {r:RecU} {v:AVal} (hv:BlobV H v r.blob) (hr:r.right=true) (ht:r.txn < 4294967296) {hd:Nat} (hh:K.head=hd) (hfit:K.at_+r.size≤F.z)
  (hcl:∀ j,K.at_≤j→j < F.z→F.b[hd*F.z+j]? = some 255) :
  ∃ H',∃ nx:Nat→Nat,StF I H H'∧StA H' I (F.laid (hd*F.z+K.at_) r) { K with at_:=K.at_+r.size }∧(∀ w,nx w≤I.hi∧min w b≤nx w) ∧
   ∀ w,xCall T 601 [.ptr (some (I.s,0)),.agg (r.cells v)] ⟨H,b,w⟩=some (.tuple [.agg (.int .i64 K.at_ :: r.cells v),.int .i64 0],⟨H',b,nx w⟩):=by
 have hhi:=h.hi;have hI:I.fi.fb≤I.hi∧I.s≤I.hi:=by unfold SI.hi; omega
 obtain ⟨b1,b2,b3,b4,b5⟩:=hb
 have hdn:hd < F.n:=by
  rcases h.hd with e | ⟨x,e,hx⟩
  ·omega
  ·omega
 have hin:=(h.fl.sec_len hdn).2;have htt:=h.fl.total;have hz:=h.fl.nb.2;obtain ⟨l0,l1,l2,l3⟩:=za7 hr;have hlr:=zh r;have hsz0:16≤r.size:=by unfold RecU.size; omega
 have hsz:r.size≤5000:=by unfold RecU.size; omega
 have h596:=fun w=>s596 (w:=w) hv hr ht (show b≤H.length by omega)
 obtain ⟨H2,k2,f2,e2,x2⟩:=p558 (b:=b) (c:=none) (h.fl.app [.cells 1 ((recB r).map u8V)]) (SlB.whole (q:=H.length) (ga _ _) rfl) (by omega) (a:=hd*F.z+K.at_) (by omega) (uu _ _ fun j hj=>by rw [ef,mz]; exact hcl (K.at_+j) (by omega) (by omega)) b4 (aj _)
 have s2:=(h.app [.cells 1 ((recB r).map u8V)]).flash k2 f2 ⟨rfl,rfl,rfl⟩;have hl2:(F.prog (hd*F.z+K.at_) (recB r)).b.length=F.b.length:=i9 (by omega);obtain ⟨H3,k3,f3,e3,x3⟩:=p558 (b:=b) (c:=some 1) (f2.app [.cells 1 [.int .u8 0]]) (SlB.whole (q:=H2.length) (n:=1) (l:=[0]) (ga _ _) rfl) (by omega) (a:=hd*F.z+K.at_+(recB r).length) (by rw [hl2]; omega) (bits_zero _) b4 (aj _);have s3:=(s2.app [.cells 1 [.int .u8 0]]).flash k3 f3 ⟨rfl,rfl,rfl⟩;have hs4:=s3.own (K':={ K with at_:=K.at_+r.size }) rfl ⟨rfl,rfl⟩ h.hd (by show K.at_+r.size≤F.z; exact hfit) h.sb h.tb;refine ⟨_,fun w=>min w (min I.fi.fb I.s),(((StF.refl.app _).trans k2.st).app _ |>.trans k3.st).trans .own,hs4,fun w=>by show min w (min I.fi.fb I.s)≤_∧_≤min w (min I.fi.fb I.s); omega,fun w=>?_⟩;have g1:=h.s;have g2:=(h.app [.cells 1 ((recB r).map u8V)]).s;have g3:=s2.s;have g4:=s3.s;simp only [StU.cells,Fl.prog] at g1 g2 g3 g4 ⊢
 rw [aq] at e2;rw [aq] at e3;have hmi:(hd:Int)*(F.z:Int)=((hd*F.z:Nat):Int):=(Int.natCast_mul hd F.z).symm;have ea:((hd*F.z+K.at_:Nat):Int)=((hd*F.z:Nat):Int)+K.at_:=by omega
 have eb:((hd*F.z+K.at_+(recB r).length:Nat):Int)=((hd*F.z:Nat):Int)+K.at_+(recB r).length:=by omega
 have ec:((K.at_+r.size:Nat):Int)=(K.at_:Int)+((recB r).length+1):=by omega
 rw [ea] at x2;rw [eb] at x3;rw [ec];unfold RecU.cells at h596 ⊢;have hlrb:(recB r).length≤5000:=by omega
 have hqb:hd*F.z≤4194304:=by omega
 have hatb:=h.ab;generalize (recB r).map u8V=Y at *;generalize (recB r).length=n at *;generalize hd*F.z=q at *;rw [hh] at g1 g2 g3 g4 ⊢;have h1l:H2.length=H.length+1:=e2;have h2l:H3.length=H.length+1+1:=by rw [e3,h1l]; rfl
 rw [h1l] at x3;simp (disch:=omega) [-getElem?_pos,-getElem?_neg,-List.all_eq_true,qZ,qS,nltT,nltF,iltT,iltF,ileT,nleT,el,bc t601,code601,h596,g1,g2,g3,g4,x2,x3,hmi,h1l,h2l]
end
end Go.Abs.AbsBlb

namespace Go.Abs.AbsBlb
open Go.Abs.Short
theorem sec_set:∀ {L:List Sec} {i:Nat} (y:Sec),i < L.length→(L.flatMap Sec.cells).take (i*3) ++ .int .i64 y.st :: .int .u32 y.seq :: .int .i64 y.er :: (L.flatMap Sec.cells).drop (i*3+3)=(L.set i y).flatMap Sec.cells
 | [],i,y,h=>by simp at h
 | z :: L,0,y,h=>by simp [Sec.cells]
 | z :: L,i+1,y,h=>by have ih:=sec_set (L:=L) (i:=i) y (by simpa using h);rw [List.set_cons_succ,fq,fq,← ih,gl,Nat.one_mul];have e:z.cells.length=3:=rfl;rw [show i*3+3=z.cells.length+i*3 from by rw [e]; omega,show z.cells.length+i*3+3=z.cells.length+(i*3+3) from by omega,List.take_append,List.drop_append,ew (by omega),co (by omega)];simp [ji];rw [Nat.add_comm]
theorem sec_len (L:List Sec):(L.flatMap Sec.cells).length=L.length*3:=by
 induction L with
 | nil=>rfl
 | cons x L ih=>rw [fq,aq,ih,bt,gl]; simp; omega
section
variable {H:List AObj} {b w:Nat} {I:SI} {F:Fl} {K:StU}
theorem StA.row (h:StA H I F K) {L:List Sec} (hL:L.length=K.secs.length):StA (H.set I.sa (.cells 3 (L.flatMap Sec.cells))) I F { K with secs:=L }:=by
 have n:=h.nes;have key:∀ {i o},H[i]? = some o→I.sa≠i→(H.set I.sa (.cells 3 (L.flatMap Sec.cells)))[i]? = some o:=fun ho hne=>by rw [av hne]; exact ho
 refine ⟨h.fl.keep fun i o ho hi=>key ho (by rcases hi with rfl | rfl | rfl; exact n.b2; exact n.b3; exact n.b4),?_,jr h.r,key h.m n.b1,by rw [← h.ln]; exact hL,h.hd,h.ab,h.sb,h.tb⟩;have:=key h.s n.a1.symm;rw [this];unfold StU.cells;simp only [hL]
theorem StF.row {o:AObj}:StF I H (H.set I.sa o):=⟨by rw [bf]; exact aj _,fun k o ho _ h1 _ _ _=>by rw [av (fun e=>h1 e.symm)]; exact ho⟩
def Fl.dropped (F:Fl) (i x:Nat):Fl:=if x < F.lim then (F.prog (i*F.z+9) [0]).erase i else F.prog (i*F.z+9) [0]
def nextS (F:Fl) (K:StU):Nat × Bool:=least (opn F.lim) Sec.er K.secs K.secs.length
section
attribute [-simp] getElem?_pos getElem?_neg List.all_eq_true
attribute [local simp] qZ qS nltT nltF iltT iltF ileT nleT el
theorem p598n (h:StA H I F K) (hn:(nextS F K).2=false∨K.seq=4294967295):xCall T 598 [.ptr (some (I.s,0))] ⟨H,b,w⟩=some (.int .i64 10,⟨H,b,w⟩):=by
 have hR:Row H 3 Sec.cells K.secs (some (I.sa,0)):=Row.mk0 (fun _=>rfl) h.r;have hlb:=h.fl.nb.1;have hln:=h.ln;have h7:=fun c w=>s7 (os:=H) (b:=b) (w:=w) (c:=c) (lim:=F.lim) hR (by omega)
 have g1:=h.s;unfold StU.cells at g1;unfold nextS at hn;generalize least (opn F.lim) Sec.er K.secs K.secs.length=p at *;obtain ⟨p1,p2⟩:=p;cases p2 with
 | false=>simp (disch:=omega) [bc t598,code598,g1,h7]
 | true =>
  rcases hn with hn | hn
  ·cases hn
  ·rw [hn] at g1;simp (disch:=omega) [bc t598,code598,g1,h7]
theorem p598 (h:StA H I F K) (hb:I.lo b) (hz:12≤F.z) {i x x':Nat} (hn:nextS F K=(i,true)) (hq:K.seq≠4294967295) (hx:F.w[i]? = some x) (hst:(F.look i).st=0∨((F.look i).st=1∧x < F.lim)) (hx':(F.clear i).w[i]? = some x') :
  ∃ H',∃ nx:Nat→Nat,StF I H H'∧StA H' I (F.opened i (K.seq+1)) { K with secs:=K.secs.set i ⟨2,(K.seq:Int)+1,x'⟩,head:=i,at_:=12,txn:=0,seq:=K.seq+1 }∧(∀ w,nx w≤I.hi∧min w b≤nx w) ∧
   ∀ w,xCall T 598 [.ptr (some (I.s,0))] ⟨H,b,w⟩=some (.int .i64 0,⟨H',b,nx w⟩):=by
 have hhi:=h.hi;have hI:I.fi.fb≤I.hi∧I.fi.fw≤I.hi∧I.s≤I.hi∧I.sa≤I.hi:=by unfold SI.hi; omega
 obtain ⟨b1,b2,b3,b4,b5⟩:=id hb;have hi:i < F.n:=by have:=ah hx; have:=h.fl.wl; omega
 have hln:=h.ln;have hlb:=h.fl.nb.1;have hsb:=h.sb;have hR:Row H 3 Sec.cells K.secs (some (I.sa,0)):=Row.mk0 (fun _=>rfl) h.r;have h7:=fun c w=>s7 (os:=H) (b:=b) (w:=w) (c:=c) (lim:=F.lim) hR (by omega)
 unfold nextS at hn;rw [hn] at h7;obtain ⟨H1,n1,k1,f1,w1,x1⟩:=p618 (b:=b) (seq:=K.seq+1) h.fl hx hst hz (by omega) ⟨b4,b5⟩;obtain ⟨e1,e2,e3⟩:=tj F i;have s1:=h.flash k1 f1 ⟨e1,e2,e3⟩;have hww:(F.opened i (K.seq+1)).w[i]? = some x':=hx';have h587:=fun w O (hO:FlA O I.fi (F.opened i (K.seq+1)))=>s587 (b:=b) (w:=w) hO (i:=i) (x:=x') hww
 have s2:=s1.own (K':={ K with seq:=K.seq+1 }) rfl ⟨rfl,rfl⟩ s1.hd s1.ab (by show K.seq+1 < _; omega) s1.tb;have h587':=fun w=>h587 w _ s2.fl
 have s3:=s2.row (L:=K.secs.set i ⟨2,(K.seq:Int)+1,x'⟩) bf;have s4:=s3.own (K':={ K with secs:=K.secs.set i ⟨2,(K.seq:Int)+1,x'⟩,head:=i,at_:=12,txn:=0,seq:=K.seq+1 }) rfl ⟨rfl,rfl⟩ (.inr ⟨i,rfl,by show i < (F.clear i).n; rw [e1]; exact hi⟩) (by show 12≤(F.clear i).z; rw [e2]; exact hz) (by show K.seq+1 < _; omega) (by show 0 < _; omega);have hs1:=sec_set (L:=K.secs) (i:=i) ⟨2,(K.seq:Int)+1,x'⟩ (by omega);have hlen:=sec_len K.secs;have g1:=h.s;have g2:=s1.s;have g3:=s2.s;have g4:=s2.r;have g5:=s3.s;have hu:IntKind.u32.wrap ((K.seq:Int)+1)=(K.seq:Int)+1:=wrap32 (by omega);have hsi:((K.seq+1:Nat):Int)=(K.seq:Int)+1:=by omega
 have hqi:¬ ((K.seq:Int)=4294967295):=by omega
 refine ⟨_,fun w=>min w (min (min (n1 H.length) I.s) (min I.sa I.s)),((k1.st.trans .own).trans .row).trans .own,s4,fun w=>by show min w (min (min (n1 H.length) I.s) (min I.sa I.s))≤_∧_≤min w (min (min (n1 H.length) I.s) (min I.sa I.s)); have:=w1 H.length; omega,fun w=>?_⟩;have hn1:=w1 H.length;have hH1:=k1.len;have hrl:=ah h.r;have hsl:=ah h.s;have hrl1:=ah s2.r;simp only [StU.cells,bf,hsi] at g1 g2 g3 g4 g5 x1 h587' ⊢;have hset:=fun o=>jr (y:=o) g5
 generalize (K.secs.set i ⟨2,(K.seq:Int)+1,x'⟩).flatMap Sec.cells=C2 at *;generalize K.secs.flatMap Sec.cells=C1 at *;simp (disch:=omega) [bc t598,code598,x1,h7,g1,g2,g3,g4,g5,h587',hs1,hlen,hu,hqi,hset,List.set_set];omega
end
end
end Go.Abs.AbsBlb

namespace Go.Abs.AbsBlb
open Go.Abs.Short
abbrev Ent:=Bs × PlU × Nat
def entV (e:Ent):AVal × AVal × Nat:=(.str e.1,e.2.1.val,e.2.2)
def findK (k:Bs):List Ent→Option (Nat × PlU)
 | []=>none
 | e :: r=>if e.1=k then some (0,e.2.1) else (findK k r).map fun x=>(x.1+1,x.2)
theorem wa (k:Bs):∀ L:List Ent,findA (.str k) (L.map entV)=some ((findK k L).map fun x=>(x.1,x.2.val))
 | []=>rfl
 | e :: r=>by
  have ih:=wa k r;rw [bo];unfold findA entV findK;have hk:akey (.str k) (.str e.1)=some (decide (k=e.1)):=by simp [akey,akey1]
  by_cases c:e.1=k
  ·have hk':akey (.str k) (.str e.1)=some true:=by rw [hk,decide_eq_true c.symm]
   rw [if_pos c];simp only [hk']; rfl
  ·have hk':akey (.str k) (.str e.1)=some false:=by rw [hk,decide_eq_false (fun h=>c h.symm)]
   rw [if_neg c];simp only [hk'];show Option.map _ (findA (.str k) (r.map entV))=_;rw [ih];cases findK k r <;> rfl
def StU.del (K:StU) (k:Bs):StU:=match findK k K.ix with
 | some x=>{ K with ix:=K.ix.eraseIdx x.1 }
 | none=>K
def StU.put (K:StU) (k:Bs) (p:PlU):StU:=match findK k K.ix with
 | some x=>{ K with ix:=K.ix.modify x.1 fun e=>(k,p,e.2.2) }
 | none=>{ K with ix:=K.ix++[(k,p,K.clock)],clock:=K.clock+1 }
def StU.apply (K:StU) (sec at_:Nat) (r:RecU):StU:=if r.kind=2 then K.del r.key else K.put r.key ⟨sec,at_,r.blob⟩
theorem tx {α β:Type} (f:α→β):∀ (L:List α) (i:Nat),(L.map f).eraseIdx i=(L.eraseIdx i).map f
 | [],i=>rfl
 | x :: L,0=>rfl
 | x :: L,i+1=>by rw [bo,List.eraseIdx_cons_succ,List.eraseIdx_cons_succ,bo,tx f L i]
theorem za4 {α β:Type} {f:α→β} {g:β→β} {g':α→α} (h:∀ x,g (f x)=f (g' x)):∀ (L:List α) (i:Nat),(L.map f).modify i g=(L.modify i g').map f
 | [],i=>by cases i <;> rfl
 | x :: L,0=>by simp [h]
 | x :: L,i+1=>by rw [bo,List.modify_succ_cons,List.modify_succ_cons,bo,za4 h L i]
section
variable {H:List AObj} {b w:Nat} {I:SI} {F:Fl} {K:StU}
theorem StA.idx (h:StA H I F K) {K':StU} (e:K'.secs=K.secs∧K'.head=K.head∧K'.at_=K.at_∧K'.txn=K.txn∧K'.seq=K.seq∧K'.down=K.down):StA (H.set I.m K'.map) I F K':=by
 have n:=h.nes;obtain ⟨e1,e2,e3,e4,e5,e6⟩:=e;have key:∀ {i o},H[i]? = some o→I.m≠i→(H.set I.m K'.map)[i]? = some o:=fun ho hne=>by rw [av hne]; exact ho
 refine ⟨h.fl.keep fun i o ho hi=>key ho (by rcases hi with rfl | rfl | rfl; exact n.c1; exact n.c2; exact n.c3),?_,by rw [e1]; exact key h.r n.b1.symm,jr h.m,by rw [e1]; exact h.ln,by rw [e2]; exact h.hd,by rw [e3]; exact h.ab,by rw [e5]; exact h.sb,by rw [e4]; exact h.tb⟩;rw [key h.s n.a2.symm];unfold StU.cells;rw [e1,e2,e3,e4,e5,e6]
theorem StF.idx {o:AObj}:StF I H (H.set I.m o):=⟨by rw [bf]; exact aj _,fun k o ho _ _ h1 _ _=>by rw [av (fun e=>h1 e.symm)]; exact ho⟩
theorem put_eq (K:StU) (k:Bs) (p:PlU):(K.put k p).secs=K.secs∧(K.put k p).head=K.head∧(K.put k p).at_=K.at_∧(K.put k p).txn=K.txn∧(K.put k p).seq=K.seq∧(K.put k p).down=K.down:=by unfold StU.put; split <;> exact ⟨rfl,rfl,rfl,rfl,rfl,rfl⟩
theorem del_eq (K:StU) (k:Bs):(K.del k).secs=K.secs∧(K.del k).head=K.head∧(K.del k).at_=K.at_∧(K.del k).txn=K.txn∧(K.del k).seq=K.seq∧(K.del k).down=K.down:=by unfold StU.del; split <;> exact ⟨rfl,rfl,rfl,rfl,rfl,rfl⟩
theorem ext_put (h:H[I.m]? = some K.map) {k:Bs} {p:PlU} (hb:b≤I.m):dj (.mapupd (.one .s)) [.map (some I.m),.str k,p.val] ⟨H,b,w⟩=some (.tuple [],⟨H.set I.m (K.put k p).map,b,min w I.m⟩):=by
 have hf:=wa k K.ix;have hi:isKey (.one .s) (.str k)=true:=rfl;have hm:K.map = .map (K.ix.map entV) K.clock:=rfl;rw [hm] at h;unfold dj;simp only [hi,Heap.get,h,hb,and_self,if_true,hf];unfold StU.put;cases findK k K.ix with
 | none =>
  simp only [Option.map_none,Heap.put,StU.map];rw [ic]; rfl
 | some x =>
  simp only [b9,Heap.put,StU.map];rw [za4 (f:=entV) (g':=fun e=>(k,p,e.2.2)) (fun x=>rfl)]; rfl
theorem ext_del (h:H[I.m]? = some K.map) {k:Bs} (hb:b≤I.m):∃ nx:Nat→Nat,(∀ w,nx w≤w∧min w b≤nx w)∧((findK k K.ix=none∧nx=fun w=>w)∨nx=fun w=>min w I.m)∧∀ w,dj (.delete (.one .s)) [.map (some I.m),.str k] ⟨H,b,w⟩=some (.tuple [],⟨H.set I.m (K.del k).map,b,nx w⟩):=by
 have hf:=wa k K.ix;have hi:isKey (.one .s) (.str k)=true:=rfl;have hm:K.map = .map (K.ix.map entV) K.clock:=rfl;have hsame:H.set I.m K.map=H:=pt h;rw [hm] at h;unfold StU.del;cases hk:findK k K.ix with
 | none =>
  refine ⟨fun w=>w,fun w=>⟨aj _,cz _ _⟩,.inl ⟨rfl,rfl⟩,fun w=>?_⟩;unfold dj;simp only [hi,Heap.get,h,hb,and_self,if_true,hf,hk,Option.map_none,hsame]
 | some x =>
  refine ⟨fun w=>min w I.m,fun w=>by show min w I.m≤w∧min w b≤min w I.m; omega,.inr rfl,fun w=>?_⟩;unfold dj;simp only [hi,Heap.get,h,hb,and_self,if_true,hf,hk,b9,Heap.put,StU.map,tx];rfl
section
attribute [-simp] getElem?_pos getElem?_neg List.all_eq_true
attribute [local simp] qZ qS nltT nltF iltT iltF ileT nleT el
theorem p600 (h:StA H I F K) (hb:I.lo b) {r:RecU} {v:AVal} (hv:BlobV H v r.blob) (sec at_:Nat) :
  ∃ H',∃ nx:Nat→Nat,StF I H H'∧H'.length=H.length∧StA H' I F (K.apply sec at_ r)∧(∀ w,nx w≤w∧min w b≤nx w) ∧
   ∀ w,xCall T 600 [.ptr (some (I.s,0)),.int .i64 sec,.agg (.int .i64 at_ :: r.cells v)] ⟨H,b,w⟩=some (.tuple [],⟨H',b,nx w⟩):=by
 obtain ⟨b1,b2,b3,b4,b5⟩:=id hb;have g1:=h.s;unfold StU.cells at g1;have hml:=ah h.m;unfold StU.apply RecU.cells;by_cases hk:r.kind=2
 ·rw [if_pos hk];obtain ⟨nx,n1,n2,n3⟩:=ext_del (K:=K) (k:=r.key) (b:=b) h.m b3;refine ⟨_,fun w=>nx w,.idx,bf,h.idx (del_eq K r.key),n1,fun w=>?_⟩;rcases n2 with ⟨n2,rfl⟩ | rfl
  ·have hsame:H.set I.m (K.del r.key).map=H:=by unfold StU.del; rw [n2]; exact pt h.m
   rw [hsame] at n3 ⊢;simp (disch:=omega) [bc t600,code600,-dj,hk,g1,n3]
  ·simp (disch:=omega) [bc t600,code600,-dj,hk,g1,n3]
 ·rw [if_neg hk];have hk':¬ ((r.kind:Int)=2):=by omega
  have hrow:=fun w=>hv.row (b:=b) (w:=w)
  obtain ⟨va,vc,rfl,-,-⟩:=hv;have n3:=fun w=>ext_put (w:=w) (K:=K) (k:=r.key) (p:=⟨sec,at_,r.blob⟩) (b:=b) h.m b3
  unfold PlU.val at n3;refine ⟨_,fun w=>min w I.m,.idx,bf,h.idx (put_eq K r.key _),fun w=>by show min w I.m≤w∧min w b≤min w I.m; omega,fun w=>?_⟩;simp (disch:=omega) [bc t600,code600,-dj,hk',g1,n3,-iw,hrow,pr]
end
end
end Go.Abs.AbsBlb

namespace Go.Abs.AbsBlb
open Go.Abs.Short
def FRow {α:Type} (N e:Nat) (f:α→List AVal) (A:List α) (P:List AObj) (x:AVal):Prop :=
 (A=[]∧x = .slice none 0 (some 0))∨(A≠[]∧∃ q,N≤q∧x = .slice (some (q,0)) A.length none∧P[q]? = some (.cells e (A.flatMap f)))
theorem FRow.mono {α:Type} {N e:Nat} {f:α→List AVal} {A:List α} {P P':List AObj} {x:AVal} (h:FRow N e f A P x) (hk:∀ (k:Nat) (o:AObj),N≤k→P[k]? = some o→P'[k]? = some o):FRow N e f A P' x:=by
 rcases h with h | ⟨h0,q,h1,h2,h3⟩
 ·exact .inl h
 ·exact .inr ⟨h0,q,h1,h2,hk _ _ h1 h3⟩
theorem acc_addM {α:Type} {e b:Nat} {f:α→List AVal} {O P:List AObj} {A:List α} {v:AVal} (h:Acc e f O A P v) (hf:∀ y,(f y).length=e) (hb:b≤O.length) {by':Nat} (hl:(A.length+1)*by'≤140737488355328) (hl2:A.length≤1000000000) (x:α) :
  ∃ P' v',∃ nx:Nat→Nat,Acc e f O (A++[x]) P' v'∧(∀ w,min w O.length≤nx w)∧((∀ w,nx w≤w∧(A≠[]→nx w < P.length))∧Keeps P P' A.length v∧v' = .slice (some (P.length+1,0)) (A.length+1) none)∧∀ w,ex e by' ⟨P++[.cells e (f x)],b,w⟩ v (.slice (some (P.length,0)) 1 (some 1))=some (v',⟨P',b,nx w⟩):=by
 have hz:∀ w,iw e ⟨P++[.cells e (f x)],b,w⟩ (.slice (some (P.length,0)) 1 (some 1))=some (f x):=fun w =>
  uv (by show (P++[AObj.cells e (f x)])[P.length]? = _; rw [ga]; rfl) (by rw [hf,Nat.one_mul])
 have hs:(P++[AObj.cells e (f x)]).length=P.length+1:=by simp
 have he:(A++[x]).flatMap f=A.flatMap f++f x:=by simp
 have hlen:(A++[x]).length=A.length+1:=by simp
 have hne:A++[x]≠[]:=by simp
 have hpl:=h.pre.len;rcases h.val with ⟨rfl,rfl⟩ | ⟨h1,i,h2,rfl,h4⟩
 ·refine ⟨P++[.cells e (f x),.cells e (f x)],.slice (some (P.length+1,0)) 1 none,id,⟨h.pre.trans (Pre.app _ _),.inr ⟨hne,P.length+1,by omega,by rw [hlen]; rfl,by rw [kj]; simp⟩⟩,fun w=>cz _ _,⟨fun w=>⟨aj w,fun h=>absurd rfl h⟩,fun k o hk _=>by rw [ag (ah hk)]; exact hk,by simp⟩,fun w=>?_⟩;unfold ex;simp only [hz,xh,aApp,alen];have q1:¬ (1:Nat)=0:=by decide
  have q2:(0+1)*by'≤140737488355328∧0+1≤9223372036854775807:=⟨by simpa using hl,by decide⟩
  simp only [eq_false q1,eq_true q2,if_false,if_true];simp [Heap.push,Heap.size]
 ·have hi:=ah h4;have h5:(P++[AObj.cells e (f x)])[i]? = some (.cells e (A.flatMap f)):=by rw [ag hi]; exact h4
  have hfl:(A.flatMap f).length=A.length*e:=zbg f e hf A;have hz1:∀ w,iw e ⟨P++[.cells e (f x)],b,w⟩ (.slice (some (i,0)) A.length none)=some (A.flatMap f):=fun w=>uv h5 hfl
  have hr:∀ w,rowIs ⟨P++[.cells e (f x)],b,w⟩ i e=true:=fun w=>by unfold rowIs Heap.get;simp only [h5];simp
  refine ⟨P.set i .dead++[.cells e (f x),.cells e ((A++[x]).flatMap f)],.slice (some (P.length+1,0)) (A++[x]).length none,fun w=>min w i,⟨?_,.inr ⟨hne,P.length+1,by omega,rfl,?_⟩⟩,fun w=>by show min w O.length≤min w i; omega,⟨fun w=>⟨by show min w i≤w; omega,fun _=>by show min w i < P.length; omega⟩,fun k o hk hne=>by rw [ag (by rw [bf]; exact ah hk),av (fun e=>hne (by rw [e]))]; exact hk,by rw [hlen]⟩,fun w=>?_⟩
  ·exact (h.pre.set .dead h2).trans (Pre.app _ _)
  ·rw [aw (by simp)];simp
  ·unfold ex;simp only [hz,hz1,aApp,alen];have q1:¬ (1:Nat)=0:=by decide
   have q2:(A.length+1)*by'≤140737488355328∧A.length+1≤9223372036854775807:=⟨hl,by omega⟩
   have q3:¬ (none:Option Nat)=some A.length:=by simp
   have q4:(⟨P++[AObj.cells e (f x)],b,w⟩:Heap).base≤i∧rowIs ⟨P++[AObj.cells e (f x)],b,w⟩ i e=true:=⟨by show b≤i; omega,hr w⟩;simp only [eq_false q1,eq_true q2,eq_false q3,eq_true q4,if_false,if_true];simp only [Heap.push,Heap.put,Heap.size,oq _ _ hi,bf,hs,he,hlen,az,d7,ff]
theorem FRow.add {α:Type} {N e b:Nat} {f:α→List AVal} {A:List α} {P:List AObj} {x:AVal} (h:FRow N e f A P x) (hf:∀ y,(f y).length=e) (hN:N≤P.length) (hb:b≤N) {by':Nat} (hl:(A.length+1)*by'≤140737488355328) (hl2:A.length≤1000000000) (y:α) :
  ∃ P' x',∃ nx:Nat→Nat,FRow N e f (A++[y]) P' x'∧(∀ (k:Nat) (o:AObj),k < N→P[k]? = some o→P'[k]? = some o)∧P.length≤P'.length∧(∀ w,nx w≤w∧min w N≤nx w) ∧
   ∀ w,ex e by' ⟨P++[.cells e (f y)],b,w⟩ x (.slice (some (P.length,0)) 1 (some 1))=some (x',⟨P',b,nx w⟩):=by
 have hlen:(P.take N).length=N:=by rw [dh]; omega
 have hpre:Pre (P.take N) P:=fun i o ho=>by have:=ah ho;rw [fh,if_pos (by omega)] at ho;exact ho
 have hA:Acc e f (P.take N) A P x:=⟨hpre,by
  rcases h with h | ⟨h0,q,h1,h2,h3⟩
  ·exact .inl h
  ·exact .inr ⟨h0,q,by omega,h2,h3⟩⟩
 obtain ⟨P',x',nx,a1,a2,⟨a3,a4,a5⟩,a6⟩:=acc_addM (b:=b) hA hf (by omega) hl hl2 y;refine ⟨P',x',nx,?_,?_,?_,fun w=>⟨(a3 w).1,?_⟩,a6⟩
 ·rcases a1.val with ⟨h1,-⟩ | ⟨h1,q,h2,h3,h4⟩
  ·simp at h1
  ·exact .inr ⟨h1,q,by omega,h3,h4⟩
 ·intro k o hk ho;have:=a1.pre k o (by rw [fh,if_pos hk]; exact ho);exact this
 ·have h1:=ah (show P'[P.length+1]? = some (.cells e ((A++[y]).flatMap f)) from by
   rcases a1.val with ⟨h1,-⟩ | ⟨h1,q,h2,h3,h4⟩
   ·simp at h1
   ·rw [a5] at h3;simp only [AVal.slice.injEq,eu,jn] at h3;rw [h3.1.1]; exact h4)
  omega
 ·have:=a2 w;omega
def BlobS (I:SI) (H:List AObj) (v:AVal) (l:Bs):Prop:=BlobV H v l∧∀ p o n c,v = .slice (some (p,o)) n c→p≠I.fi.fb∧p≠I.fi.fw
section
variable {H H':List AObj} {b w t:Nat} {I:SI} {F F0:Fl} {K K0:StU}
theorem BlobS.mono {v:AVal} {l:Bs} (h:BlobS I H v l) (hA:StA H I F K) (k:StF I H H'):BlobS I H' v l:=by
 obtain ⟨⟨a,c,rfl,h1,h2⟩,h3⟩:=h;refine ⟨⟨a,c,rfl,fun p o hp=>fg (h1 p o hp) k.len,?_⟩,h3⟩;rcases h2 with h2 | ⟨p,o,rfl,h4,h5⟩
 ·exact .inl h2
 ·refine .inr ⟨p,o,rfl,h4.mono fun x hx=>?_,h5⟩;obtain ⟨n1,n2⟩:=h3 p o _ _ rfl;obtain ⟨-,X,hp,-⟩:=h4;rw [hp] at hx;cases hx;exact k.keep _ _ hp (fun e=>by rw [e,hA.s] at hp; simp at hp) (fun e=>by rw [e,hA.r] at hp; simp at hp) (fun e=>by rw [e,hA.m] at hp; simp [StU.map] at hp) n1 n2
theorem StA.low (h:StA H I F K) {N:Nat} (hN:I.hi < N∧I.fi.fl < N) (hk:∀ (k:Nat) (o:AObj),k < N→H[k]? = some o→H'[k]? = some o):StA H' I F K:=by
 have hI:I.fi.fb≤I.hi∧I.fi.fw≤I.hi∧I.s≤I.hi∧I.sa≤I.hi∧I.m≤I.hi:=by unfold SI.hi; omega
 exact ⟨h.fl.keep fun i o ho hi=>hk i o (by rcases hi with rfl | rfl | rfl <;> omega) ho,hk _ _ (by omega) h.s,hk _ _ (by omega) h.r,hk _ _ (by omega) h.m,h.ln,h.hd,h.ab,h.sb,h.tb⟩
theorem StF.low {H0:List AObj} (h:StF I H0 H) (hl:H.length≤H'.length) (hk:∀ (k:Nat) (o:AObj),k < H0.length→H[k]? = some o→H'[k]? = some o):StF I H0 H' :=
 ⟨cf h.len hl,fun k o ho h1 h2 h3 h4 h5=>hk k o (ah ho) (h.keep k o ho h1 h2 h3 h4 h5)⟩
theorem StF.above (h:StF I H H') {N:Nat} (hN:I.hi < N) (k:Nat) (o:AObj) (hk:N≤k) (ho:H[k]? = some o):H'[k]? = some o:=by
 have hI:I.fi.fb≤I.hi∧I.fi.fw≤I.hi∧I.s≤I.hi∧I.sa≤I.hi∧I.m≤I.hi:=by unfold SI.hi; omega
 exact h.keep k o ho (by omega) (by omega) (by omega) (by omega) (by omega)
theorem za3 {a j:Nat} {r:RecU} (h:a+r.size≤F.b.length) (hj:j < a∨a+r.size≤j):(F.laid a r).b[j]? = F.b[j]?:=by
 have hlr:=zh r;have e1:(spliceB F.b a (recB r)).length=F.b.length:=i9 (by omega);show (spliceB (spliceB F.b a (recB r)) (a+(recB r).length) [0])[j]? = _;rw [m8 (by rw [e1]; show _+1≤_; omega),m8 (by omega)];rcases hj with hj | hj
 ·rw [if_pos (by omega),if_pos hj]
 ·rw [if_neg (by omega),if_neg (by show ¬ _ < _+1; omega),if_neg (by omega),if_neg (by omega)]
abbrev FV:=Nat × RecU × AVal
def FV.cells (x:FV):List AVal:=.int .i64 x.1 :: x.2.1.cells x.2.2
def RecU.at (t:Nat) (r:RecU):RecU:={ r with txn:=t }
theorem RecU.at_size (t:Nat) (r:RecU):(r.at t).size=r.size:=rfl
def layAll (q t:Nat):List RecU→Fl→Nat→Fl
 | [],F,_=>F
 | r :: l,F,a=>layAll q t l (F.laid (q+a) (r.at t)) (a+r.size)
def founds (t:Nat):List RV→Nat→List FV
 | [],_=>[]
 | p :: l,a=>(a,p.1.at t,p.2) :: founds t l (a+p.1.size)
section
attribute [-simp] getElem?_pos getElem?_neg List.all_eq_true
attribute [local simp] qZ qS nltT nltF iltT iltF ileT nleT el
theorem l577b {H0:List AObj} {L:List RV} {la:Option (Nat × Nat)} {lc:Option Nat} (hR:Row H0 5 RV.cells L la) (hN:I.hi < H0.length∧I.fi.fl < H0.length) (hb:I.lo b) (hbN:b≤H0.length) (hLn:L.length≤16) {hd:Nat}
  (h00:StA H0 I F0 K0) (hbl:∀ p ∈ L,BlobS I H0 p.2 p.1.blob) (htx:0 < t∧t < 4294967296) (hrt:∀ p ∈ L,(p.1.at t).right=true):∀ (j i w:Nat) (P:List AObj) (F:Fl) (K:StU) (A:List FV) (x:AVal),i+j=L.length→A.length=i→StA P I F K→StF I H0 P→FRow H0.length 6 FV.cells A P x→K.head=hd→K.txn=t →
   K.at_+sizes ((L.drop i).map Prod.fst)≤F.z→(∀ m,K.at_≤m→m < F.z→F.b[hd*F.z+m]? = some 255) →
  ∃ P' x' w',min w b≤w'∧StA P' I (layAll (hd*F.z) t ((L.drop i).map Prod.fst) F K.at_) { K with at_:=K.at_+sizes ((L.drop i).map Prod.fst) }∧StF I H0 P'∧FRow H0.length 6 FV.cells (A++founds t (L.drop i) K.at_) P' x'∧∀ {β:Type} (k:AExit→St→Option β),
  xK T (.loop code577L1) ⟨[(0,.val (.ptr (some (I.s,0)))),(1,.val (.slice la L.length lc)),(5,.val x),(19,.val (.slice la L.length lc)),(20,.val (.int .i64 L.length)),(21,.val (.int .i64 i))],⟨P,b,w⟩⟩ (k:=⟨k⟩) =
   k (.exit 0) ⟨[(0,.val (.ptr (some (I.s,0)))),(1,.val (.slice la L.length lc)),(5,.val x')],⟨P',b,w'⟩⟩
 | 0,i,w,P,F,K,A,x,hi,hA,h,hF,hx,hh,ht,hfit,hcl=>by
  have hd:L.drop i=[]:=co (by omega);refine ⟨P,x,w,cz _ _,?_,hF,?_,fun k=>?_⟩
  ·rw [hd]; exact h
  ·rw [hd]; unfold founds; rw [gq]; exact hx
  ·rw [cd];simp (disch:=omega) [code577L1]
 | j+1,i,w,P,F,K,A,x,hi,hA,h,hF,hx,hh,ht,hfit,hcl=>by
  obtain ⟨p,hp⟩:∃ p,L[i]? = some p:=⟨_,ai (by omega)⟩;obtain ⟨bb,o,cs,rfl,hrow,hpart⟩:=hR.at' (js hp);obtain ⟨p1,p2⟩:=hpart i p hp;have hpm:=bn hp;have hd1:=ie hp
  have hPr:P[bb]? = some (.cells 5 cs):=by have hrow':H0[bb]? = some (.cells 5 cs):=hrow;exact hF.keep _ _ hrow' (fun e=>by rw [e,h00.s] at hrow'; simp at hrow') (fun e=>by rw [e,h00.r] at hrow'; simp at hrow') (fun e=>by rw [e,h00.m] at hrow'; simp [StU.map] at hrow') (fun e=>by rw [e,h00.fl.b] at hrow'; simp at hrow') (fun e=>by rw [e,h00.fl.w] at hrow'; simp at hrow')
  have hbP:=(hbl p hpm).mono h00 hF
  have hsz:K.at_+(p.1.at t).size+sizes ((L.drop (i+1)).map Prod.fst)≤F.z:=by rw [hd1,bo] at hfit;unfold sizes at hfit ⊢;rw [bo,j9] at hfit;rw [RecU.at_size]; omega
  obtain ⟨P1,n1,k1,s1,w1,x1⟩:=p601 (b:=b) h hb (r:=p.1.at t) (v:=p.2) hbP.1 (hrt p hpm) htx.2 hh (by omega) hcl;have hN1:H0.length≤P1.length:=cf hF.len k1.len;have fr1:=hx.mono (k1.above hN.1);obtain ⟨P2,x2,n2,fr2,a2,a3,a4,a5⟩:=fr1.add (b:=b) (by':=72) (fun _=>rfl) hN1 hbN (by omega) (by omega) (K.at_,p.1.at t,p.2);have s2:=s1.low hN a2;have hF2:=(hF.trans k1).low a3 a2
  have hdn:hd < F.n:=by
   rcases h.hd with e | ⟨y,e,hy⟩
   ·omega
   ·omega
  have hin:=(h.fl.sec_len hdn).2
  obtain ⟨P',x',w',i0,i1,i2,i3,i4⟩:=l577b (lc:=lc) hR hN hb hbN hLn h00 hbl htx hrt j (i+1) (n2 (n1 w)) P2 _ _ _ x2 (by omega) (by rw [aq]; simp; omega) s2 hF2 fr2 hh ht hsz (fun m hm1 hm2=>by rw [za3 (by omega) (.inr (by show hd*F.z+K.at_+(p.1.at t).size≤hd*F.z+m; simp only at hm1; omega))];exact hcl m (by simp only at hm1; omega) hm2)
  have e2:((i+1:Nat):Int)=(i:Int)+1:=by omega
  refine ⟨P',x',w',by have:=(w1 w).2; have:=(a4 (n1 w)).2; omega,?_,i2,?_,fun k=>?_⟩
  ·rw [hd1,bo];unfold sizes at i1 ⊢;rw [bo,j9];simp only [RecU.at_size] at i1;rw [mz] at i1;exact i1
  ·rw [hd1];unfold founds;rw [az] at i3;exact i3
  ·have ih:=i4 k;rw [e2] at ih;rw [cd,← ih];have g1:=h.s;unfold StU.cells at g1;rw [ht] at g1;obtain ⟨⟨va,vc,hv,-,-⟩,-⟩:=hbP;have hvc:RV.cells p=[.int .i64 p.1.kind,.int .u32 p.1.txn,.str p.1.key,p.2,.int .i64 p.1.count]:=rfl;rw [hvc] at p2;unfold FV.cells at a5;unfold RecU.cells RecU.at at x1 a5;simp only at x1 a5;generalize ACode.loop code577L1=LL;simp (disch:=omega) [code577L1,-ex,hPr,p1,p2,g1,x1,a5]
end
end
end Go.Abs.AbsBlb

namespace Go.Abs.AbsBlb
open Go.Abs.Short
def applyAll (hd:Nat) (A:List FV) (K:StU):StU:=A.foldl (fun K x=>K.apply hd x.1 x.2.1) K
theorem za0 (K:StU) (sec at_:Nat) (r:RecU):(K.apply sec at_ r).secs=K.secs∧(K.apply sec at_ r).head=K.head∧(K.apply sec at_ r).at_=K.at_∧(K.apply sec at_ r).txn=K.txn∧(K.apply sec at_ r).seq=K.seq∧(K.apply sec at_ r).down=K.down:=by
 unfold StU.apply;split
 ·exact del_eq K _
 ·exact put_eq K _ _
section
variable {H H':List AObj} {b w t:Nat} {I:SI} {F F0:Fl} {K K0:StU}
section
attribute [-simp] getElem?_pos getElem?_neg List.all_eq_true
attribute [local simp] qZ qS nltT nltF iltT iltF ileT nleT el
theorem l577a {H0:List AObj} {A:List FV} {la:Option (Nat × Nat)} {lc:Option Nat} (hR:Row H0 6 FV.cells A la) (hb:I.lo b) (hLn:A.length≤16) {hd:Nat}
  (h00:StA H0 I F0 K0) (hbl:∀ p ∈ A,BlobS I H0 p.2.2 p.2.1.blob):∀ (j i w:Nat) (P:List AObj) (K:StU),i+j=A.length→StA P I F K→StF I H0 P→K.head=hd →
  ∃ P' w',min w b≤w'∧StA P' I F (applyAll hd (A.drop i) K)∧StF I H0 P'∧w'≤w∧∀ {β:Type} (k:AExit→St→Option β),
  xK T (.loop code577L0) ⟨[(0,.val (.ptr (some (I.s,0)))),(59,.val (.slice la A.length lc)),(60,.val (.int .i64 A.length)),(61,.val (.int .i64 i))],⟨P,b,w⟩⟩ (k:=⟨k⟩) =
   k (.exit 2) ⟨[],⟨P',b,w'⟩⟩
 | 0,i,w,P,K,hi,h,hF,hh=>by
  have hd:A.drop i=[]:=co (by omega);refine ⟨P,w,cz _ _,?_,hF,aj _,fun k=>?_⟩
  ·rw [hd]; exact h
  ·rw [cd];simp (disch:=omega) [code577L0]
 | j+1,i,w,P,K,hi,h,hF,hh=>by
  obtain ⟨p,hp⟩:∃ p,A[i]? = some p:=⟨_,ai (by omega)⟩;obtain ⟨bb,o,cs,rfl,hrow,hpart⟩:=hR.at' (js hp);obtain ⟨p1,p2⟩:=hpart i p hp;have hpm:=bn hp;have hd1:=ie hp
  have hPr:P[bb]? = some (.cells 6 cs):=by have hrow':H0[bb]? = some (.cells 6 cs):=hrow;exact hF.keep _ _ hrow' (fun e=>by rw [e,h00.s] at hrow'; simp at hrow') (fun e=>by rw [e,h00.r] at hrow'; simp at hrow') (fun e=>by rw [e,h00.m] at hrow'; simp [StU.map] at hrow') (fun e=>by rw [e,h00.fl.b] at hrow'; simp at hrow') (fun e=>by rw [e,h00.fl.w] at hrow'; simp at hrow')
  have hbP:=(hbl p hpm).mono h00 hF;obtain ⟨P1,n1,k1,l1,s1,w1,x1⟩:=p600 (b:=b) h hb (r:=p.2.1) (v:=p.2.2) hbP.1 hd p.1;obtain ⟨P',w',i0,i1,i2,i3,i4⟩:=l577a (lc:=lc) hR hb hLn h00 hbl j (i+1) (n1 w) P1 _ (by omega) s1 (hF.trans k1) (by rw [(za0 K hd p.1 p.2.1).2.1]; exact hh);have e2:((i+1:Nat):Int)=(i:Int)+1:=by omega
  refine ⟨P',w',by have:=(w1 w).2; omega,?_,i2,cf i3 (w1 w).1,fun k=>?_⟩
  ·rw [hd1];exact i1
  ·have ih:=i4 k;rw [e2] at ih;rw [cd,← ih];have g1:=h.s;unfold StU.cells at g1;rw [hh] at g1;obtain ⟨⟨va,vc,hv,-,-⟩,-⟩:=hbP;have hvc:FV.cells p=[.int .i64 p.1,.int .i64 p.2.1.kind,.int .u32 p.2.1.txn,.str p.2.1.key,p.2.2,.int .i64 p.2.1.count]:=rfl;rw [hvc] at p2;unfold RecU.cells at x1;generalize ACode.loop code577L0=LL;simp (disch:=omega) [code577L0,hPr,p1,p2,g1,x1]
end
theorem za1 {t:Nat}:∀ {L:List RV} {a:Nat} {x:FV},x ∈ founds t L a→∃ p ∈ L,x.2.1=p.1.at t∧x.2.2=p.2
 | [],a,x,h=>by cases h
 | p :: L,a,x,h=>by
  unfold founds at h;rcases dy.1 h with rfl | h
  ·exact ⟨p,bg ..,rfl,rfl⟩
  ·obtain ⟨q,hq,e⟩:=za1 h;exact ⟨q,bj _ hq,e⟩
theorem za2 {t:Nat}:∀ {L:List RV} {a:Nat},(founds t L a).length=L.length
 | [],a=>rfl
 | p :: L,a=>by unfold founds; rw [bt,bt,za2]
def comR (t n:Nat):RecU:=⟨3,t,[],[],n⟩
def wroteF (F:Fl) (hd a t:Nat) (l:List RecU):Fl:=(layAll (hd*F.z) t l F a).laid (hd*F.z+(a+sizes l)) (comR t l.length)
def wroteK (K:StU) (hd:Nat) (L:List RV):StU:=applyAll hd (founds (K.txn+1) L K.at_) { K with txn:=K.txn+1,at_:=K.at_+sizes (L.map Prod.fst)+16 }
theorem StF.rows {α:Type} {e:Nat} {f:α→List AVal} {L:List α} {a:Option (Nat × Nat)} (k:StF I H H') (h:StA H I F K) (he:e=5∨e=6) (hR:Row H e f L a):Row H' e f L a:=⟨fun hne=>by
 obtain ⟨bb,o,cs,rfl,hrow,hpart⟩:=hR.at' hne;refine ⟨bb,o,cs,rfl,?_,hpart⟩;have q:¬ e=11∧¬ e=3∧¬ e=1:=by omega
 exact k.keep _ _ hrow (fun i=>by rw [i,h.s] at hrow; simp at hrow; omega) (fun i=>by rw [i,h.r] at hrow; simp at hrow; omega) (fun i=>by rw [i,h.m] at hrow; simp [StU.map] at hrow) (fun i=>by rw [i,h.fl.b] at hrow; simp at hrow; omega) (fun i=>by rw [i,h.fl.w] at hrow; simp at hrow; omega)⟩
theorem xd (q t:Nat):∀ (l:List RecU) (F:Fl) (a:Nat),(layAll q t l F a).n=F.n∧(layAll q t l F a).z=F.z∧(layAll q t l F a).lim=F.lim∧(layAll q t l F a).w=F.w
 | [],F,a=>⟨rfl,rfl,rfl,rfl⟩
 | r :: l,F,a=>xd q t l (F.laid (q+a) (r.at t)) (a+r.size)
theorem ut (q t:Nat) {j:Nat}:∀ (l:List RecU) (F:Fl) (a:Nat),q+a+sizes l≤F.b.length→(j < q+a∨q+a+sizes l≤j)→(layAll q t l F a).b[j]? = F.b[j]?∧(layAll q t l F a).b.length=F.b.length
 | [],F,a,_,_=>⟨rfl,rfl⟩
 | r :: l,F,a,h,hj=>by
  have e:sizes (r :: l)=r.size+sizes l:=by unfold sizes; rw [bo,j9]
  have hlr:=zh (r.at t);rw [RecU.at_size] at hlr;have e1:(spliceB F.b (q+a) (recB (r.at t))).length=F.b.length:=i9 (by omega)
  have e2:(F.laid (q+a) (r.at t)).b.length=F.b.length:=by
   show (spliceB (spliceB F.b (q+a) (recB (r.at t))) _ [0]).length=_
   rw [i9 (by rw [e1]; show _+1≤_; omega),e1]
  obtain ⟨i1,i2⟩:=ut q t (j:=j) l (F.laid (q+a) (r.at t)) (a+r.size) (by rw [e2]; omega) (by omega);exact ⟨i1.trans (za3 (by rw [RecU.at_size]; omega) (by rw [RecU.at_size]; omega)),i2.trans e2⟩
theorem p577 (h:StA H I F K) (hb:I.lo b) (hbN:b≤H.length) {L:List RV} {la:Option (Nat × Nat)} {lc:Option Nat} (hR:Row H 5 RV.cells L la) (hne:L≠[]) (hLn:L.length≤16) (hbl:∀ p ∈ L,BlobS I H p.2 p.1.blob) {t:Nat} (et:t=K.txn+1) (htx:t < 4294967296) (hrt:∀ p ∈ L,(p.1.at t).right=true)
  {hd:Nat} (hh:K.head=hd) (hfit:K.at_+sizes (L.map Prod.fst)+16≤F.z) (hcl:∀ m,K.at_≤m→m < F.z→F.b[hd*F.z+m]? = some 255) :
  ∃ H',∃ nx:Nat→Nat,StF I H H'∧StA H' I (wroteF F hd K.at_ t (L.map Prod.fst)) (wroteK K hd L)∧(∀ w,nx w≤I.hi∧min w b≤nx w) ∧
   ∀ w,xCall T 577 [.ptr (some (I.s,0)),.slice la L.length lc] ⟨H,b,w⟩=some (.int .i64 0,⟨H',b,nx w⟩):=by
 have hhi:=h.hi;have hfl:=ah h.fl.f;have s1:=h.own (K':={ K with txn:=t }) rfl ⟨rfl,rfl⟩ h.hd h.ab h.sb htx;have k1:StF I H (H.set I.s (.cells 11 (({ K with txn:=t }:StU).cells F I))):=.own;have hlen1:(H.set I.s (.cells 11 (({ K with txn:=t }:StU).cells F I))).length=H.length:=bf;have hN:I.hi < (H.set I.s (.cells 11 (({ K with txn:=t }:StU).cells F I))).length∧I.fi.fl < (H.set I.s (.cells 11 (({ K with txn:=t }:StU).cells F I))).length:=by rw [hlen1]; exact ⟨hhi,hfl⟩
 have hR1:=k1.rows h (.inl rfl) hR;have hbl1:=fun p hp=>(hbl p hp).mono h k1
 have hdn:hd < F.n:=by
  rcases h.hd with e | ⟨y,e,hy⟩
  ·omega
  ·omega
 have hin:=(h.fl.sec_len hdn).2;have g1:=h.s;generalize hH1:H.set I.s (.cells 11 (({ K with txn:=t }:StU).cells F I))=H1 at *;obtain ⟨P,x,w1,i0,i1,i2,i3,i4⟩:=l577b (lc:=lc) hR1 hN hb (by rw [hlen1]; exact hbN) hLn s1 hbl1 ⟨by omega,htx⟩ hrt L.length 0 (min H.length I.s) H1 F _ [] (.slice none 0 (some 0)) (by omega) rfl s1 .refl (.inl ⟨rfl,rfl⟩) hh rfl (by rw [eq]; show K.at_+_≤_; omega) hcl;simp only [eq,ff,ba] at i1 i3 i4;obtain ⟨z1,z2,z3,z4⟩:=xd (hd*F.z) t (L.map Prod.fst) F K.at_
 have hcr:(comR t L.length).right=true:=by
  unfold comR RecU.right rightB;have:¬ t=0:=by omega
  simp [this,hLn]
 obtain ⟨P2,n2,k2,s2,w2,x2⟩:=p601 (b:=b) i1 hb (r:=comR t L.length) (v:=.slice none 0 (some 0)) ⟨none,some 0,rfl,(fun p o h=>by cases h),.inl rfl⟩ hcr htx (hd:=hd) hh (by rw [z2]; exact hfit) (fun m hm1 hm2=>by rw [z2] at hm2 ⊢;simp only at hm1;rw [(ut (hd*F.z) t _ F K.at_ (by omega) (.inr (by omega))).1];exact hcl m (by omega) hm2)
 have hlf:(founds t L K.at_).length=L.length:=za2;have hfne:founds t L K.at_≠[]:=fun e=>by rw [e] at hlf; exact hne (cg hlf.symm)
 rcases i3 with ⟨e,-⟩ | ⟨-,q,q1,rfl,q3⟩
 ·exact absurd e hfne
 have hR2:Row P2 6 FV.cells (founds t L K.at_) (some (q,0)):=Row.mk0 (fun _=>rfl) (k2.above hN.1 _ _ q1 q3);have hF2:=i2.trans k2
 obtain ⟨P3,w3,j0,j1,j2,j3,j4⟩:=l577a (lc:=none) hR2 hb (by omega) s2 (fun y hy=>by obtain ⟨p,hp,e1,e2⟩:=za1 hy;rw [e1,e2];exact (hbl1 p hp).mono s1 hF2) (founds t L K.at_).length 0 (n2 w1) P2 _ (by omega) s2 .refl hh
 simp only [eq,ba] at j1 j4;have hw3:w3≤I.hi:=cf j3 (w2 _).1;have hb0:=hb.1;have hw4:b≤w3:=by have:=(w2 w1).2; omega
 have hsz:(comR t L.length).size=16:=rfl;refine ⟨P3,fun w=>min w w3,(k1.trans hF2).trans j2,?_,fun w=>by show min w w3≤_∧_≤min w w3; omega,fun w=>?_⟩
 ·rw [hsz,z2] at j1;unfold wroteF wroteK;rw [bh,← et];exact j1
 ·have g2:=i1.s;simp only [StU.cells] at g1 g2 hH1;unfold comR RecU.cells at x2;simp only [ep,ba] at x2;have hwt:IntKind.u32.wrap ((K.txn:Int)+1)=(t:Int):=by rw [et]; rw [wrap32 (by omega)]; omega
  rw [hlf] at j4;have hb1:=hb.1;simp (disch:=omega) [-getElem?_pos,-getElem?_neg,-List.all_eq_true,qZ,qS,nltT,nltF,iltT,iltF,ileT,nleT,el,bc t577,code577,g1,g2,hH1,i4,x2,hwt,j4,hlf]
end
end Go.Abs.AbsBlb

namespace Go.Abs.AbsBlb
open Go.Abs.Short
def rdId (s:Slots) (x:Opd):List Nat:=match x.ev s with
 | some v=>v.ids
 | none=>[]
theorem jf (o:AOp) (s:Slots):fj o s=(fk o).flatMap (rdId s):=rfl
theorem jg (s:Slots) (t:Nat):rdId s (.tmp t)=match (Opd.tmp t).ev s with
 | some v=>v.ids
 | none=>[]:=rfl
theorem gu (s:Slots) (v:AVal):rdId s (.const v)=v.ids:=rfl
structure TapA (H:List AObj) (tp:Nat) (v:AVal) (B:Bs) (at_:Nat):Prop where
 r:H[tp]? = some (.cells 2 [v,.int .i64 at_])
 v:BlobV H v B
 l:B.length≤1000000
 a:at_≤B.length
section
variable {H H':List AObj} {b w tp at_:Nat} {B:Bs}
end
end Go.Abs.AbsBlb

namespace Go.Abs.AbsBlb
open Go.Abs.Short
theorem FRow.add' {α:Type} {N e b:Nat} {f:α→List AVal} {A:List α} {P:List AObj} {x:AVal} (h:FRow N e f A P x) (hf:∀ y,(f y).length=e) (hN:N≤P.length) (hb:b≤N) {by':Nat} (hl:(A.length+1)*by'≤140737488355328) (hl2:A.length≤1000000000) (y:α) :
  ∃ P' x',∃ nx:Nat→Nat,FRow N e f (A++[y]) P' x'∧(∀ (k:Nat) (o:AObj),P[k]? = some o→(N≤k→∀ cs,o ≠ .cells e cs)→P'[k]? = some o)∧P.length≤P'.length∧(∀ w,nx w≤w∧min w N≤nx w) ∧
   ∀ w,ex e by' ⟨P++[.cells e (f y)],b,w⟩ x (.slice (some (P.length,0)) 1 (some 1))=some (x',⟨P',b,nx w⟩):=by
 have hlen:(P.take N).length=N:=by rw [dh]; omega
 have hpre:Pre (P.take N) P:=fun i o ho=>by have:=ah ho;rw [fh,if_pos (by omega)] at ho;exact ho
 have hA:Acc e f (P.take N) A P x:=⟨hpre,by
  rcases h with h | ⟨h0,q,h1,h2,h3⟩
  ·exact .inl h
  ·exact .inr ⟨h0,q,by omega,h2,h3⟩⟩
 obtain ⟨P',x',nx,a1,a2,⟨a3,a4,a5⟩,a6⟩:=acc_addM (b:=b) hA hf (by omega) hl hl2 y;refine ⟨P',x',nx,?_,?_,?_,fun w=>⟨(a3 w).1,?_⟩,a6⟩
 ·rcases a1.val with ⟨h1,-⟩ | ⟨h1,q,h2,h3,h4⟩
  ·simp at h1
  ·exact .inr ⟨h1,q,by omega,h3,h4⟩
 ·intro k o ho hk;refine a4 k o ho fun e=>?_
  rcases h with ⟨-,h2⟩ | ⟨h0,q,h1,h2,h3⟩
  ·rw [h2] at e; cases e
  ·rw [h2] at e;simp only [AVal.slice.injEq,eu,jn,and_true] at e;obtain rfl:=e;rw [h3] at ho;exact hk h1 _ (dr ho).symm
 ·have h1:=ah (show P'[P.length+1]? = some (.cells e ((A++[y]).flatMap f)) from by
   rcases a1.val with ⟨h1,-⟩ | ⟨h1,q,h2,h3,h4⟩
   ·simp at h1
   ·rw [a5] at h3;simp only [AVal.slice.injEq,eu,jn] at h3;rw [h3.1.1]; exact h4)
  omega
 ·have:=a2 w;omega
structure ChU where
 del:Bool
 key:Bs
 blob:Bs
 v:AVal
def ChU.cells (c:ChU):List AVal:=[.bool c.del,.str c.key,c.v]
def keyL:List Bs:=[[97],[98],[99],[100,47,49],[100,47,50],[97]]
def ChU.ok (N:Nat) (P:List AObj) (c:ChU):Prop:=BlobV P c.v c.blob∧(∀ p o n k,c.v = .slice (some (p,o)) n k→N≤p∧∃ X,P[p]? = some (.cells 1 X))∧c.key ∈ keyL∧c.blob.length≤30∧∃ p o n k,c.v = .slice (some (p,o)) n k
section
variable {H H':List AObj} {b w tp at_:Nat} {B:Bs}
end
end Go.Abs.AbsBlb

namespace Go.Abs.AbsBlb
open Go.Abs.Short
theorem idsL_sec (L:List Sec):AVal.idsL (L.flatMap Sec.cells)=[]:=idsL_none fun x hx=>by obtain ⟨s,-,hs⟩:=dz.1 hx;simp [Sec.cells] at hs;rcases hs with rfl | rfl | rfl <;> rfl
theorem zaz (L:List Sec) (g:Nat→Nat):AVal.renL g (L.flatMap Sec.cells)=L.flatMap Sec.cells:=renL_none fun x hx=>by obtain ⟨s,-,hs⟩:=dz.1 hx;simp [Sec.cells] at hs;rcases hs with rfl | rfl | rfl <;> rfl
section
variable {H:List AObj} {b w:Nat} {I:SI} {F:Fl} {K:StU}
theorem ext_look (h:StA H I F K) {k:Bs} {z:AVal}:dj (.lookup (.one .s) z true) [.map (some I.m),.str k] ⟨H,b,w⟩=some (match findK k K.ix with
  | some x=>.tuple [x.2.val,.bool true]
  | none=>.tuple [z,.bool false],⟨H,b,w⟩):=by
 have g2:H[I.m]? = some (.map (K.ix.map entV) K.clock):=h.m;have hf:=wa k K.ix;have hi:isKey (.one .s) (.str k)=true:=rfl;unfold dj;simp only [hi,if_true,entriesOf,Heap.get,g2,hf];cases findK k K.ix <;> rfl
section
attribute [-simp] getElem?_pos getElem?_neg List.all_eq_true
attribute [local simp] qZ qS nltT nltF iltT iltF ileT nleT el
theorem s482 (h:StA H I F K) {k:Bs} {x:Nat × PlU} (hk:findK k K.ix=some x) (hl:x.2.blob.length≤1000000):xCall T 482 [.ptr (some (I.s,0)),.str k] ⟨H,b,w⟩=some (.tuple [.slice (some (H.length,0)) x.2.blob.length none,.bool true],⟨H++[.cells 1 (x.2.blob.map u8V)],b,w⟩):=by
 have g1:=h.s;unfold StU.cells at g1;have he:=fun w z=>ext_look (b:=b) (w:=w) h (k:=k) (z:=z)
 rw [hk] at he;obtain ⟨n,pl⟩:=x;simp only [PlU.val] at he;have hm:pl.blob.map (fun b:UInt8=>AVal.int .u8 b.toNat)=pl.blob.map u8V:=rfl;simp only at hl;have hids:AVal.idsL (pl.blob.map u8V)=[]:=lz _;have hlen:(pl.blob.map u8V).length=pl.blob.length:=bh _;have hren:∀ g,AVal.renL g (pl.blob.map u8V)=pl.blob.map u8V:=fun g=>mg g _
 simp (disch:=omega) [bc t482,code482,-dj,g1,he,mb,md,hids,hren,zbc,hm,hl]
theorem s482n (h:StA H I F K) {k:Bs} (hk:findK k K.ix=none):xCall T 482 [.ptr (some (I.s,0)),.str k] ⟨H,b,w⟩=some (.tuple [.slice (some (H.length,0)) 0 none,.bool false],⟨H++[.cells 1 []],b,w⟩):=by
 have g1:=h.s;unfold StU.cells at g1;have he:=fun w z=>ext_look (b:=b) (w:=w) h (k:=k) (z:=z)
 rw [hk] at he;simp (disch:=omega) [bc t482,code482,-dj,g1,he,mb,md,zbc]
end
end
end Go.Abs.AbsBlb

namespace Go.Abs.AbsBlb
open Go.Abs.Short
def ksE:Nat→List Bs→List (AVal × AVal × Nat)
 | _,[]=>[]
 | i,k :: r=>(.str k,.bool true,i) :: ksE (i+1) r
def setM (S:List Bs):AObj:=.map (ksE 0 S) S.length
def addK (S:List Bs) (k:Bs):List Bs:=if k ∈ S then S else S++[k]
theorem ksE_app:∀ (i:Nat) (S:List Bs) (k:Bs),ksE i (S++[k])=ksE i S++[(.str k,.bool true,i+S.length)]
 | i,[],k=>rfl
 | i,x :: S,k=>by rw [d7];unfold ksE;rw [ksE_app (i+1) S k,d7,bt,show i+1+S.length=i+(S.length+1) from by omega]
theorem ksE_len:∀ (i:Nat) (S:List Bs),(ksE i S).length=S.length
 | i,[]=>rfl
 | i,x :: S=>by unfold ksE; rw [bt,bt,ksE_len (i+1) S]
theorem ksE_find (k:Bs):∀ (i:Nat) (S:List Bs),(k ∈ S∧∃ j,findA (.str k) (ksE i S)=some (some (j,.bool true))∧(ksE i S).modify j (fun e=>(.str k,.bool true,e.2.2))=ksE i S)∨(k ∉ S∧findA (.str k) (ksE i S)=some none)
 | i,[]=>.inr ⟨by simp,rfl⟩
 | i,x :: S=>by
  have hk:akey (.str k) (.str x)=some (decide (k=x)):=by simp [akey,akey1]
  by_cases c:k=x
  ·have hk':akey (.str k) (.str x)=some true:=by rw [hk,decide_eq_true c]
   refine .inl ⟨by rw [c]; exact bg ..,0,?_,?_⟩
   ·unfold ksE findA;simp only [hk']
   ·unfold ksE;rw [c]; rfl
  ·have hk':akey (.str k) (.str x)=some false:=by rw [hk,decide_eq_false c]
   rcases ksE_find k (i+1) S with ⟨h1,j,h2,h3⟩ | ⟨h1,h2⟩
   ·refine .inl ⟨bj _ h1,j+1,?_,?_⟩
    ·unfold ksE findA;simp only [hk',h2]; rfl
    ·unfold ksE;rw [List.modify_succ_cons,h3]
   ·refine .inr ⟨fun h=>?_,?_⟩
    ·rcases dy.1 h with h | h
     ·exact c h
     ·exact h1 h
    ·unfold ksE findA;simp only [hk',h2]; rfl
section
variable {H:List AObj} {b w m:Nat} {S:List Bs}
theorem ext_key (h:H[m]? = some (setM S)) {k:Bs} (hb:b≤m):dj (.mapupd (.one .s)) [.map (some m),.str k,.bool true] ⟨H,b,w⟩=some (.tuple [],⟨H.set m (setM (addK S k)),b,min w m⟩):=by
 have hi:isKey (.one .s) (.str k)=true:=rfl;unfold setM at h;unfold dj addK setM;rcases ksE_find k 0 S with ⟨h1,j,h2,h3⟩ | ⟨h1,h2⟩
 ·rw [if_pos h1];simp only [hi,Heap.get,h,hb,and_self,if_true,h2,Heap.put,h3]
 ·rw [if_neg h1,ksE_app];simp only [hi,Heap.get,h,hb,and_self,if_true,h2,Heap.put,ed,aq,bt,ep]
theorem s465z {p o:Nat} {c:Option Nat}:xCall T 100465 [.slice (some (p,o)) 0 c] ⟨H,b,w⟩=some (.slice (some (H.length,0)) 0 (some 0),⟨H++[.cells 1 []],b,w⟩):=by simp (disch:=omega) [-getElem?_pos,-getElem?_neg,-List.all_eq_true,qZ,qS,nltT,nltF,iltT,iltF,ileT,nleT,el,bc t100465,code100465,mb,md,zbc]
theorem p465 {v:AVal} {l:Bs} {p o n:Nat} {c:Option Nat} (hv:BlobV H v l) (he:v = .slice (some (p,o)) n c) (hl:l.length≤1000000) :
  ∃ c',(∀ w,xCall T 100465 [v] ⟨H,b,w⟩=some (.slice (some (H.length,0)) l.length c',⟨H++[.cells 1 (l.map u8V)],b,w⟩))∧l.length≤c'.getD l.length:=by
 obtain ⟨a,d,rfl,h2,h3⟩:=hv;simp only [AVal.slice.injEq] at he;obtain ⟨rfl,rfl,rfl⟩:=he;by_cases h0:l=[]
 ·subst h0;exact ⟨some 0,fun w=>s465z,aj _⟩
 ·rcases h3 with h3 | ⟨p',o',e,⟨h5,X,h6,h7⟩,h8⟩
  ·exact absurd h3 h0
  ·simp only [eu,jn] at e;obtain ⟨rfl,rfl⟩:=e;exact ⟨none,fun w=>s100465 h6 h7 rfl (uf.2 h0) (by omega),aj _⟩
end
end Go.Abs.AbsBlb

namespace Go.Abs.AbsBlb
open Go.Abs.Short
theorem FRow.monoE {α:Type} {N e:Nat} {f:α→List AVal} {A:List α} {P P':List AObj} {x:AVal} (h:FRow N e f A P x) (hk:∀ (k:Nat) (cs:List AVal),N≤k→P[k]? = some (.cells e cs)→P'[k]? = some (.cells e cs)):FRow N e f A P' x:=by
 rcases h with h | ⟨h0,q,h1,h2,h3⟩
 ·exact .inl h
 ·exact .inr ⟨h0,q,h1,h2,hk _ _ h1 h3⟩
def ChU.toR (c:ChU):RecU:=if c.del then ⟨2,1,c.key,[],0⟩ else ⟨1,1,c.key,c.blob,0⟩
def RV.new (N:Nat) (P:List AObj) (p:RV):Prop:=BlobV P p.2 p.1.blob∧∀ q o n k,p.2 = .slice (some (q,o)) n k→N≤q∧∃ X,P[q]? = some (.cells 1 X)
theorem RV.new.mono {N:Nat} {P P':List AObj} {p:RV} (h:p.new N P) (hl:P.length≤P'.length) (hk:∀ (k:Nat) (X:List AVal),N≤k→P[k]? = some (.cells 1 X)→P'[k]? = some (.cells 1 X)):p.new N P':=by
 obtain ⟨h1,h2⟩:=h;refine ⟨h1.mono hl fun q o n k e x hx=>?_,fun q o n k e=>?_⟩
 ·obtain ⟨h5,X,h6⟩:=h2 q o n k e;rw [h6] at hx;cases hx;exact hk _ _ h5 h6
 ·obtain ⟨h5,X,h6⟩:=h2 q o n k e;exact ⟨h5,X,hk _ _ h5 h6⟩
def ChU.fine (H:List AObj) (c:ChU):Prop:=BlobV H c.v c.blob∧(∃ p o n k,c.v = .slice (some (p,o)) n k)∧1≤c.key.length∧c.key.length≤64∧c.blob.length≤4096
theorem ChU.fine.right {H:List AObj} {c:ChU} (h:c.fine H):c.toR.right=true∧c.toR.txn=1:=by
 obtain ⟨-,-,h1,h2,h3⟩:=h;unfold ChU.toR RecU.right rightB;cases c.del
 ·simp [h1,h2,h3]
 ·simp [h1,h2]
section
variable {H0:List AObj} {b m:Nat}
section
attribute [-simp] getElem?_pos getElem?_neg List.all_eq_true
attribute [local simp] qZ qS nltT nltF iltT iltF ileT nleT el
theorem l581 {L:List ChU} {la:Option (Nat × Nat)} {lc:Option Nat} (hR:Row H0 3 ChU.cells L la) (hLn:L.length≤16) (hL:∀ c ∈ L,c.fine H0) (hb:b≤H0.length) (hm:m=H0.length):∀ (j i w:Nat) (P:List AObj) (S:List Bs) (A:List RV) (x:AVal),i+j=L.length→A.length=i→Pre H0 P→P[m]? = some (setM S)→FRow H0.length 5 RV.cells A P x→(∀ p ∈ A,p.new H0.length P) →
  ∃ (P':List AObj) (A':List RV) (x':AVal) (w':Nat),Pre H0 P'∧P'[m]? = some (setM ((L.drop i).foldl (fun S c=>addK S c.key) S))∧FRow H0.length 5 RV.cells (A++A') P' x'∧A'.map Prod.fst=(L.drop i).map ChU.toR∧(∀ p ∈ A++A',p.new H0.length P')∧(H0.length≤w→H0.length≤w')∧∀ {β:Type} (k:AExit→St→Option β),
  xK T (.loop code581L0) ⟨[(0,.val (.slice la L.length lc)),(4,.val (.map (some m))),(5,.val x),(20,.val (.slice la L.length lc)),(21,.val (.int .i64 L.length)),(22,.val (.int .i64 i))],⟨P,b,w⟩⟩ (k:=⟨k⟩) =
   k (.exit 0) ⟨[(0,.val (.slice la L.length lc)),(4,.val (.map (some m))),(5,.val x')],⟨P',b,w'⟩⟩
 | 0,i,w,P,S,A,x,hi,hA,hp,hs,hx,hn=>by have hd:L.drop i=[]:=co (by omega);refine ⟨P,[],x,w,hp,by rw [hd]; exact hs,by rw [gq]; exact hx,by rw [hd]; rfl,by rw [gq]; exact hn,fun h=>h,fun k=>?_⟩;rw [cd];simp (disch:=omega) [code581L0]
 | j+1,i,w,P,S,A,x,hi,hA,hp,hs,hx,hn=>by
  obtain ⟨c,hc⟩:∃ c,L[i]? = some c:=⟨_,ai (by omega)⟩;obtain ⟨bb,o,cs,rfl,hrow,hpart⟩:=hR.at' (js hc);obtain ⟨p1,p2⟩:=hpart i c hc;have hcm:=bn hc;have hfine:=hL c hcm;obtain ⟨hr,hr1⟩:=hfine.right;obtain ⟨hbv,⟨vp,vo,vn,vk,hv⟩,k1,k2,k3⟩:=hfine;have hd1:=ie hc;have hPr:P[bb]? = some (.cells 3 cs):=hp _ _ hrow;have hbP:BlobV P c.v c.blob:=hbv.mono hp.len fun _ _ _ _ _ x hx=>hp _ _ hx
  obtain ⟨c',y1,y2⟩:∃ c',(∀ w,xCall T 100465 [c.v] ⟨P,b,w⟩=some (.slice (some (P.length,0)) c.blob.length c',⟨P++[.cells 1 (c.blob.map u8V)],b,w⟩))∧c.blob.length≤c'.getD c.blob.length:=p465 hbP hv (by omega)
  have hvp:vp < P.length:=by obtain ⟨a,d,e,h2,-⟩:=hbP;rw [hv] at e;simp only [AVal.slice.injEq] at e;exact h2 vp vo e.1.symm
  have hml:=ah hs;have hpl:=hp.len;let v:AVal:=if c.del then .slice none 0 (some 0) else .slice (some (P.length,0)) c.blob.length c'
  have hg0:(P++[AObj.cells 1 (c.blob.map u8V),AObj.cells 5 (c.toR.cells v)])[P.length]? = some (.cells 1 (c.blob.map u8V)):=by rw [aw (aj _),mw]; rfl
  have hvn:RV.new H0.length (P++[AObj.cells 1 (c.blob.map u8V),AObj.cells 5 (c.toR.cells v)]) (c.toR,v):=by
   cases hd:c.del with
   | true =>
    have e1:v = .slice none 0 (some 0):=if_pos hd;have e2:c.toR.blob=[]:=by unfold ChU.toR; rw [hd]; rfl
    rw [e1];refine ⟨⟨none,some 0,by rw [e2]; rfl,(fun p o h=>by cases h),.inl e2⟩,fun q o n k e=>by cases e⟩
   | false =>
    have e1:v = .slice (some (P.length,0)) c.blob.length c':=if_neg (by rw [hd]; decide);have e2:c.toR.blob=c.blob:=by unfold ChU.toR; rw [hd]; rfl
    rw [e1] at hg0 ⊢;refine ⟨⟨some (P.length,0),c',by rw [e2],fun p o e=>?_,.inr ⟨P.length,0,rfl,by rw [e2]; exact SlB.whole hg0 rfl,by rw [e2]; exact y2⟩⟩,fun q o n k e=>?_⟩
    ·simp only [eu,jn] at e;rw [← e.1]; exact ah hg0
    ·simp only [AVal.slice.injEq,eu,jn] at e;rw [← e.1.1];exact ⟨hpl,_,hg0⟩
  have hvb:BlobV (P++[AObj.cells 1 (c.blob.map u8V),AObj.cells 5 (c.toR.cells v)]) v c.toR.blob:=hvn.1;have h596:=fun w=>s596 (b:=b) (w:=w) hvb hr (by rw [hr1]; decide) (by rw [aq]; omega)
  have hs2:(P++[AObj.cells 1 (c.blob.map u8V),AObj.cells 5 (c.toR.cells v)]++[.cells 1 ((recB c.toR).map u8V)])[m]? = some (setM S):=by rw [ag (by rw [aq]; omega),ag hml]; exact hs
  have hk:=fun w=>ext_key (b:=b) (w:=w) hs2 (k:=c.key) (by omega)
  have hl2:(P++[AObj.cells 1 (c.blob.map u8V),AObj.cells 5 (c.toR.cells v)]++[AObj.cells 1 ((recB c.toR).map u8V)]).length=P.length+3:=by simp
  have hs3:=jr hs2 (y:=setM (addK S c.key))
  have hg5:(P++[AObj.cells 1 (c.blob.map u8V),AObj.cells 5 (c.toR.cells v)]++[AObj.cells 1 ((recB c.toR).map u8V)])[P.length+1]? = some (.cells 5 (c.toR.cells v)):=by rw [az,aw (show P.length≤P.length+1 by omega),ji]; rfl
  generalize hP2:P++[AObj.cells 1 (c.blob.map u8V),AObj.cells 5 (c.toR.cells v)]++[AObj.cells 1 ((recB c.toR).map u8V)]=P2 at *
  have up:∀ (k:Nat) (o:AObj),k≠m→P[k]? = some o→(P2.set m (setM (addK S c.key)))[k]? = some o:=fun k o hk ho=>by rw [av (fun e=>hk e.symm),← hP2,az,ag (ah ho)]; exact ho
  have hl3:(P2.set m (setM (addK S c.key))).length=P.length+3:=by rw [bf,hl2]
  have upm:∀ (k:Nat) (e:Nat) (cs:List AVal),P[k]? = some (.cells e cs)→(P2.set m (setM (addK S c.key)))[k]? = some (.cells e cs):=fun k e cs ho=>up k _ (fun e'=>by rw [e',hs] at ho; simp [setM] at ho) ho
  have fr3:=hx.monoE (P':=P2.set m (setM (addK S c.key))) fun k cs hk ho=>upm k _ _ ho
  obtain ⟨P4,x4,n4,f1,f2,f3,f4,f5⟩:=fr3.add' (b:=b) (by':=64) (fun _=>rfl) (by omega) hb (by omega) (by omega) (c.toR,v)
  have hnew:∀ p ∈ A++[(c.toR,v)],RV.new H0.length P4 p:=fun p hp4=>by
   rcases bw.1 hp4 with h4 | h4
   ·exact (hn p h4).mono (by omega) fun k X hk ho=>f2 _ _ (upm _ _ _ ho) fun _ cs e=>by simp at e
   ·rw [bq.1 h4];refine hvn.mono (by rw [aq]; simp; omega) fun k X hk ho=>f2 _ _ ?_ fun _ cs e=>by simp at e
    have hkm:m≠k:=fun e=>by rw [← e,ag hml,hs] at ho;simp [setM] at ho
    rw [av hkm,← hP2,ag (ah ho)]; exact ho
  have hpre4:Pre H0 P4:=fun k o ho=>f2 _ _ (up k o (by have:=ah ho; omega) (hp _ _ ho)) fun h=>by have:=ah ho; omega
  have hm4:=f2 _ _ hs3 fun _ cs e=>by simp [setM] at e
  obtain ⟨P',A',x',w',i1,i2,i3,i4,i5,i6,i7⟩:=l581 (lc:=lc) hR hLn hL hb hm j (i+1) (n4 (min (min w (P.length+1)) m)) P4 _ _ x4 (by omega) (by rw [aq]; simp; omega) hpre4 hm4 f1 hnew;refine ⟨P',(c.toR,v) :: A',x',w',i1,by rw [hd1]; exact i2,by rw [az] at i3; exact i3,by rw [hd1,bo,bo,i4],fun p hp5=>i5 p (by rw [az]; exact hp5),fun hw=>i6 (by have:=(f4 (min (min w (P.length+1)) m)).2; omega),fun k=>?_⟩;have ih:=i7 k;have e2:((i+1:Nat):Int)=(i:Int)+1:=by omega
  rw [e2] at ih;rw [cd,← ih];have hcc:ChU.cells c=[.bool c.del,.str c.key,c.v]:=rfl;rw [hcc] at p2;generalize ACode.loop code581L0=LL;rw [hv] at y1 p2;rw [hl3] at f5;unfold RV.cells RecU.cells at f5;unfold RecU.cells at h596 hg5;cases hd:c.del with
  | true =>
   have e1:v = .slice none 0 (some 0):=if_pos hd;have e3:c.toR=⟨2,1,c.key,[],0⟩:=by unfold ChU.toR; rw [hd]; rfl
   rw [e1,e3] at h596 f5 hg5;rw [hd] at p2;simp only [ba] at h596 f5 hg5;simp (disch:=omega) [code581L0,-ex,-dj,-fj,jf,jg,gu,hPr,p1,p2,y1,h596,hk,f5,hvp,hg5,hl2,bz]
  | false =>
   have e1:v = .slice (some (P.length,0)) c.blob.length c':=if_neg (by rw [hd]; decide);have e3:c.toR=⟨1,1,c.key,c.blob,0⟩:=by unfold ChU.toR; rw [hd]; rfl
   rw [e1,e3] at h596 f5 hg5;rw [hd] at p2;simp only [ba] at h596 f5 hg5;simp (disch:=omega) [code581L0,-ex,-dj,-fj,jf,jg,gu,hPr,p1,p2,y1,h596,hk,f5,hvp,hg5,hl2,bz]
end
end
end Go.Abs.AbsBlb

namespace Go.Abs.AbsBlb
open Go.Abs.Short
theorem ite2 {α β:Type} {c d:Prop} [Decidable c] [Decidable d] (f:α→β) {x y z:α}:f (if c then x else if d then y else z)=if c then f x else if d then f y else f z:=by
 by_cases h:c
 ·rw [if_pos h,if_pos h]
 ·rw [if_neg h,if_neg h];by_cases k:d
  ·rw [if_pos k,if_pos k]
  ·rw [if_neg k,if_neg k]
theorem v7 {O P:List AObj} {b w w':Nat} {v:AVal} (hw:O.length≤w'):dk ⟨O,b,w⟩ v ⟨P,b,w'⟩=((dk ⟨O,b,0⟩ v ⟨P,b,w'⟩).1,{ (dk ⟨O,b,0⟩ v ⟨P,b,w'⟩).2 with wmin:=w }):=by
 have h1:¬ w' < O.length:=by omega
 unfold dk;simp only [Heap.size,h1,if_false];exact Eq.symm (Eq.trans (ite2 (fun p:AVal × Heap=>(p.1,({ p.2 with wmin:=w }:Heap)))) rfl)
theorem ur {O P:List AObj} {b w':Nat} {v:AVal} (hv:v.under O.length=false) (hw:O.length≤w') :
  (∀ w,dk ⟨O,b,w⟩ v ⟨P,b,w'⟩=(v,⟨P,b,w⟩)) ∨
  (∃ f I X,(∀ w,dk ⟨O,b,w⟩ v ⟨P,b,w'⟩=(v.ren f,⟨O++X,b,w⟩))∧Moves f I O.length P (O++X)∧(∀ j ∈ v.ids,O.length≤j→I j)):=by
 rcases finish_cases (h0:=⟨O,b,0⟩) (h:=⟨P,b,w'⟩) hv with ⟨w1,e,-⟩ | ⟨-,f,I,X,e,hm,hi⟩
 ·exact .inl fun w=>by rw [v7 hw,e]
 ·exact .inr ⟨f,I,X,fun w=>by rw [v7 hw,e],hm,hi⟩
theorem SlB.moves {f:Nat→Nat} {I:Nat→Prop} {n:Nat} {O O':List AObj} (h:Moves f I n O O') {p o k:Nat} {l:Bs} (hs:SlB O p o k l) (hi:I p):SlB O' (f p) o k l:=by obtain ⟨h1,X,h2,h3⟩:=hs;refine ⟨h1,AVal.renL f X,h.at' p _ hi h2,?_⟩;rw [mt,← List.map_drop,← uw,h3,← mt];exact mg f l
theorem BlobV.moves {f:Nat→Nat} {I:Nat→Prop} {n:Nat} {O O':List AObj} (h:Moves f I n O O') {v:AVal} {l:Bs} (hv:BlobV O v l) (hi:∀ p o k c,v = .slice (some (p,o)) k c→I p∧∃ X,O[p]? = some (.cells 1 X)) :
  BlobV O' (v.ren f) l:=by
 obtain ⟨a,c,rfl,h1,h2⟩:=hv;rw [ren_sl];refine ⟨renA f a,c,rfl,fun p o e=>?_,?_⟩
 ·cases a with
  | none=>cases e
  | some q =>
   obtain ⟨q,r⟩:=q;simp only [renA,eu,jn] at e;obtain ⟨h3,X,h4⟩:=hi q r _ _ rfl;rw [← e.1]; exact ah (h.at' q _ h3 h4)
 ·rcases h2 with h2 | ⟨p,o,rfl,h5,h8⟩
  ·exact .inl h2
  ·exact .inr ⟨f p,o,rfl,h5.moves h (hi p o _ _ rfl).1,h8⟩
def RV.mv (f:Nat→Nat) (p:RV):RV:=(p.1,p.2.ren f)
theorem RV.mv_cells (f:Nat→Nat) (p:RV):AVal.renL f (RV.cells p)=RV.cells (p.mv f):=by simp [RV.cells,RecU.cells,RV.mv,AVal.renL,AVal.ren]
theorem RV.mv_flat (f:Nat→Nat) (A:List RV):AVal.renL f (A.flatMap RV.cells)=(A.map (RV.mv f)).flatMap RV.cells:=by
 induction A with
 | nil=>rfl
 | cons p A ih =>
  rw [fq,bo,fq,← ih,← RV.mv_cells,mt,mt,mt,ic]
theorem rows_fin {O P:List AObj} {b w':Nat} {A:List RV} {x:AVal} (mk:AVal→AVal) (h1:∀ y,(mk y).ids=y.ids) (h2:∀ f y,(mk y).ren f=mk (y.ren f)) (h3:∀ n p o k c,(mk (.slice (some (p,o)) k c)).under n=decide (p < n))
  (hne:A≠[]) (hx:FRow O.length 5 RV.cells A P x) (hA:∀ p ∈ A,p.new O.length P) (hp:Pre O P) (hw:O.length≤w') :
  ∃ H' A' x',Pre O H'∧FRow O.length 5 RV.cells A' H' x'∧A'.map Prod.fst=A.map Prod.fst∧(∀ p ∈ A',p.new O.length H')∧∀ w,dk ⟨O,b,w⟩ (mk x) ⟨P,b,w'⟩=(mk x',⟨H',b,w⟩):=by
 rcases hx with ⟨h,-⟩ | ⟨-,q,hq,rfl,hr⟩
 ·exact absurd h hne
 ·have hv:(mk (.slice (some (q,0)) A.length none)).under O.length=false:=by rw [h3]; exact decide_eq_false (by omega)
  rcases ur (b:=b) (P:=P) hv hw with e | ⟨f,I,X,e,hm,hi⟩
  ·exact ⟨P,A,_,hp,.inr ⟨hne,q,hq,rfl,hr⟩,rfl,hA,e⟩
  ·have hIq:I q:=hi q (by rw [h1]; simp [AVal.ids]) hq;have hcl:=hm.cl q _ hIq hr
   have hIp:∀ p ∈ A,∀ i o k c,p.2 = .slice (some (i,o)) k c→I i∧∃ X,P[i]? = some (.cells 1 X):=fun p hpA i o k c e=>by obtain ⟨g1,g2⟩:=(hA p hpA).2 i o k c e;refine ⟨hcl i ?_ g1,g2⟩;show i ∈ AVal.idsL _;rw [qr,dz];refine ⟨p.2,dz.2 ⟨p,hpA,?_⟩,by rw [e]; simp [AVal.ids]⟩;simp [RV.cells,RecU.cells]
   refine ⟨O++X,A.map (RV.mv f),.slice (some (f q,0)) A.length none,fun k o hk=>by rw [ag (ah hk)]; exact hk,.inr ⟨by simpa using hne,f q,hm.up q hq,by rw [bh],?_⟩,?_,?_,fun w=>?_⟩
   ·have:=hm.at' q _ hIq hr;rw [this,← RV.mv_flat]; rfl
   ·rw [List.map_map]; rfl
   ·intro p' hp';obtain ⟨p,hpA,rfl⟩:=cq.1 hp';refine ⟨(hA p hpA).1.moves hm (hIp p hpA),fun i o k c e=>?_⟩;obtain ⟨r,v⟩:=p;obtain ⟨⟨a,d,hv',-,-⟩,-⟩:=hA _ hpA;simp only at hv';subst hv';have e:(AVal.slice a r.blob.length d).ren f = .slice (some (i,o)) k c:=e;rw [ren_sl] at e;cases a with
    | none=>simp [renA] at e
    | some y =>
     obtain ⟨y1,y2⟩:=y;simp only [renA,AVal.slice.injEq,eu,jn] at e;obtain ⟨g1,X',g2⟩:=hIp _ hpA y1 y2 _ _ rfl;obtain ⟨g3,-⟩:=(hA _ hpA).2 y1 y2 _ _ rfl;rw [← e.1.1];exact ⟨hm.up _ g3,_,hm.at' _ _ g1 g2⟩
   ·rw [e w,h2]; simp [AVal.ren]
section
variable {H:List AObj} {b:Nat}
section
attribute [-simp] getElem?_pos getElem?_neg List.all_eq_true
attribute [local simp] qZ qS nltT nltF iltT iltF ileT nleT el
theorem p581 {L:List ChU} {la:Option (Nat × Nat)} {lc:Option Nat} (hR:Row H 3 ChU.cells L la) (h0:L≠[]) (hLn:L.length≤16) (hL:∀ c ∈ L,c.fine H) (hb:b≤H.length) :
  ((L.foldl (fun S c=>addK S c.key) []).length < L.length∧∀ w,xCall T 581 [.slice la L.length lc] ⟨H,b,w⟩=some (.tuple [.slice none 0 (some 0),.int .i64 12],⟨H,b,w⟩)) ∨
  (¬ (L.foldl (fun S c=>addK S c.key) []).length < L.length∧∃ H' A x,Pre H H'∧FRow H.length 5 RV.cells A H' x∧A.map Prod.fst=L.map ChU.toR∧(∀ p ∈ A,p.new H.length H') ∧
   ∀ w,xCall T 581 [.slice la L.length lc] ⟨H,b,w⟩=some (.tuple [x,.int .i64 0],⟨H',b,w⟩)):=by
 have hl0:0 < L.length:=uf.2 h0;obtain ⟨P',A',x',w',i1,i2,i3,i4,i5,i6,i7⟩:=l581 (b:=b) (lc:=lc) hR hLn hL hb rfl L.length 0 H.length (H++[setM []]) [] [] (.slice none 0 (some 0)) (by omega) rfl (fun k o hk=>by rw [ag (ah hk)]; exact hk) (ga H _) (.inl ⟨rfl,rfl⟩) (fun p hp=>by cases hp);rw [eq] at i2 i4;rw [ff] at i3 i5;have hw':H.length≤w':=i6 (aj _);generalize L.foldl (fun S c=>addK S c.key) []=S at *
 have hA:A'≠[]:=fun e=>by rw [e] at i4;have:=congrArg List.length i4;rw [bh] at this;simp at this; omega
 have hSl:((ksE 0 S).length)=S.length:=ksE_len 0 S;unfold setM at i2;simp only [ba] at i7;by_cases c:S.length < L.length
 ·refine .inl ⟨c,fun w=>?_⟩;have hs0:setM [] = .map [] 0:=rfl;rw [hs0] at i7;simp (disch:=omega) [bc t581,code581,h0,i7,i2,hSl,c]
 ·obtain ⟨H',A,x,j1,j2,j3,j4,j5⟩:=rows_fin (b:=b) (fun y=>.tuple [y,.int .i64 0]) (fun y=>by simp [AVal.ids,AVal.idsL]) (fun f y=>by simp [AVal.ren,AVal.renL]) (fun n p o k c=>by simp [AVal.under,AVal.unders]) hA i3 i5 i1 hw';refine .inr ⟨c,H',A,x,j1,j2,by rw [j3,i4],j4,fun w=>?_⟩;have hs0:setM [] = .map [] 0:=rfl;rw [hs0] at i7;simp (disch:=omega) [bc t581,code581,-dk,h0,i7,i2,hSl,c,j5]
end
end
end Go.Abs.AbsBlb

namespace Go.Abs.AbsBlb
theorem zax {F F':Fl} {i:Nat} (h1:F'.z=F.z) (h2:∀ j,j < F.z→F'.b[i*F.z+j]? = F.b[i*F.z+j]?) (h3:F'.w[i]? = F.w[i]?):F'.look i=F.look i:=by
  unfold Fl.look
  have:F'.sec i=F.sec i:=by
    refine jh fun j=>?_
    by_cases c:j < F.z
    · rw [Fl.sec_get (by rw [h1]; exact c),Fl.sec_get c,h1,h2 j c]
    · unfold Fl.sec
      rw [fh,fh,if_neg (by rw [h1]; exact c),if_neg c]
  rw [this,h3]
theorem v6 {l l':Bs} {n m:Nat} (h:l'.take n=l.take n) (hm:m≤n):l'.take m=l.take m:=by have:=congrArg (List.take m) h;rw [List.take_take,List.take_take,Nat.min_eq_left hm] at this;exact this
theorem pf {l l':Bs} {n a k:Nat} (h:l'.take n=l.take n) (hm:a+k≤n):(l'.drop a).take k=(l.drop a).take k:=by
  have h1:=v6 h hm;have e:∀ l:Bs,(l.drop a).take k=(l.take (a+k)).drop a:=fun l=>by rw [List.drop_take]; congr 1; omega
  rw [e,e,h1]
theorem p0 {l l':Bs} {n j:Nat} (h:l'.take n=l.take n) (hj:j < n):l'[j]? = l[j]?:=by
  have:(l'.take n)[j]? = (l.take n)[j]?:=by rw [h]
  rwa [fh,fh,if_pos hj,if_pos hj] at this
theorem look_head {l l':Bs} {er:Nat} (h:l'.take 12=l.take 12) (hu:(lookB l er).st=2):lookB l' er=lookB l er:=by
  unfold lookB at hu;have hb:¬ blankB l=true:=fun e=>by rw [if_pos e] at hu; cases hu
  rw [if_neg hb] at hu;by_cases hc:parseE l=0∧l[8]? = some 0∧l[9]? = some 255
  · have hb':¬ blankB l'=true:=fun e=>by
      have h8:l'[8]? = some 0:=by rw [p0 h (by decide)]; exact hc.2.1
      have:=tz e (ah h8);rw [h8] at this;cases this
    have hp:parseE l'=parseE l:=by unfold parseE;rw [v6 h (m:=2) (by decide),v6 h (m:=6) (by decide),pf h (a:=6) (k:=2) (by decide)]
    unfold lookB;rw [if_neg hb,if_neg hb',hp,p0 h (j:=8) (by decide),p0 h (j:=9) (by decide),pf h (a:=2) (k:=4) (by decide)]
  · rw [if_neg hc] at hu; cases hu
theorem look_used {F F':Fl} {i:Nat} (h1:F'.z=F.z) (hz:12≤F.z) (h2:∀ j,j < 12→F'.b[i*F.z+j]? = F.b[i*F.z+j]?) (h3:F'.w[i]? = F.w[i]?) (hu:(F.look i).st=2):F'.look i=F.look i:=by
  unfold Fl.look at hu ⊢;rw [h3];refine look_head (jh fun j=>?_) hu;rw [fh,fh];split
  · rw [Fl.sec_get (by rw [h1]; omega),Fl.sec_get (by omega),h1,h2 j (by omega)]
  · rfl
theorem look_er (F:Fl) (i:Nat):(F.look i).er=((F.w[i]?).getD 0:Nat):=by
  unfold Fl.look lookB;repeat' split
  all_goals rfl
theorem sec_apart {i h z j:Nat} (hne:i≠h) (hj:j < z):i*z+j < h*z∨h*z+z≤i*z+j:=by
  rcases Nat.lt_or_gt_of_ne hne with c | c
  · left
    have:(i+1)*z≤h*z:=ii z c;rw [gl,Nat.one_mul] at this;omega
  · right
    have:(h+1)*z≤i*z:=ii z c;rw [gl,Nat.one_mul] at this;omega
theorem sec_in {i n z:Nat} (hi:i < n):i*z+z≤n*z:=by have:(i+1)*z≤n*z:=ii z hi;rw [gl,Nat.one_mul] at this;exact this
def Ent.size (e:Ent):Nat:=16+e.1.length+e.2.1.blob.length
def secSum (i:Nat) (ix:List Ent):Nat:=(ix.map fun e=>if e.2.1.sec=i then Ent.size e else 0).sum
theorem zay (g:Ent→Nat) (f:Ent→Ent) {x:Ent}:∀ (l:List Ent) (i:Nat),l[i]? = some x→((l.modify i f).map g).sum+g x=(l.map g).sum+g (f x)
  | [],i,h=>by simp at h
  | a :: l,0,h=>by simp only [List.getElem?_cons_zero,eu] at h;subst h;simp [List.modify];omega
  | a :: l,i+1,h=>by have ih:=zay g f l i (by simpa using h);rw [List.modify_succ_cons,bo,bo,j9,j9];omega
theorem sum_erase (g:Ent→Nat):∀ (l:List Ent) (i:Nat),((l.eraseIdx i).map g).sum≤(l.map g).sum
  | [],i=>by simp
  | a :: l,0=>by simp
  | a :: l,i+1=>by have ih:=sum_erase g l i;rw [List.eraseIdx_cons_succ,bo,bo,j9,j9];omega
theorem rp {k:Bs}:∀ {l:List Ent} {x:Nat × PlU},findK k l=some x→∃ e,l[x.1]? = some e∧e.1=k∧e.2.1=x.2
  | [],x,h=>by cases h
  | a :: l,x,h=>by
    unfold findK at h;by_cases c:a.1=k
    · rw [if_pos c] at h
      cases h;exact ⟨a,rfl,c,rfl⟩
    · rw [if_neg c] at h
      rw [ae] at h;obtain ⟨y,h1,rfl⟩:=h;obtain ⟨e,h2,h3,h4⟩:=rp h1;exact ⟨e,by simpa using h2,h3,h4⟩
theorem uq {k:Bs}:∀ {l:List Ent},findK k l=none→∀ e ∈ l,e.1≠k
  | [],_,e,he=>by cases he
  | a :: l,h,e,he=>by
    unfold findK at h;by_cases c:a.1=k
    · rw [if_pos c] at h; cases h
    · rw [if_neg c,zd] at h
      rcases dy.1 he with rfl | he
      · exact c
      · exact uq h e he
structure IxOK (ix:List Ent) (clock:Nat):Prop where
  k:(ix.map (·.1)).Nodup
  t:(ix.map (·.2.2)).Nodup
  c:∀ e ∈ ix,e.2.2 < clock
structure IxUp (ix ix':List Ent) (ks:List Bs) (sec tot:Nat) (blobs:List Bs):Prop where
  m:∀ e ∈ ix',(e ∈ ix∧e.1 ∉ ks)∨(e.1 ∈ ks∧e.2.1.sec=sec∧e.2.1.blob ∈ blobs)
  s:∀ i,secSum i ix'≤secSum i ix+if i=sec then tot else 0
theorem rq {ix:List Ent} {i j:Nat} {x y:Ent} (h:(ix.map (·.1)).Nodup) (hx:ix[i]? = some x) (hy:ix[j]? = some y) (e:x.1=y.1):i=j:=by
  have h1:(ix.map (·.1))[i]? = some x.1:=by rw [bk,hx]; rfl
  have h2:(ix.map (·.1))[j]? = some x.1:=by rw [bk,hy,e]; rfl
  have hl:=ah h1;exact (List.getElem?_inj hl h).1 (h1.trans h2.symm)
theorem o7 {β:Type} (g:Ent→β) (f:Ent→Ent) {x:Ent} (h:g (f x)=g x):∀ (l:List Ent) (i:Nat),l[i]? = some x→(l.modify i f).map g=l.map g
  | [],i,hx=>by simp at hx
  | a :: l,0,hx=>by simp only [List.getElem?_cons_zero,eu] at hx;subst hx;simp [List.modify,h]
  | a :: l,i+1,hx=>by rw [List.modify_succ_cons,bo,bo,o7 g f h l i (by simpa using hx)]
theorem put_ok {K:StU} {k:Bs} {p:PlU} (h:IxOK K.ix K.clock):IxOK (K.put k p).ix (K.put k p).clock∧IxUp K.ix (K.put k p).ix [k] p.sec (16+k.length+p.blob.length) [p.blob]:=by
  unfold StU.put;cases hf:findK k K.ix with
  | some x =>
    obtain ⟨e,h1,h2,h3⟩:=rp hf;simp only;have q1:=o7 (fun e:Ent=>e.1) (fun e=>(k,p,e.2.2)) (x:=e) h2.symm K.ix x.1 h1;have q2:=o7 (fun e:Ent=>e.2.2) (fun e=>(k,p,e.2.2)) (x:=e) rfl K.ix x.1 h1
    have hmem:∀ e' ∈ K.ix.modify x.1 (fun e=>(k,p,e.2.2)),(e' ∈ K.ix∧e'.1≠k)∨e'=(k,p,e.2.2):=fun e' he'=>by
      obtain ⟨j,hj⟩:=qw.1 he';rw [List.getElem?_modify] at hj;split at hj
      · rename_i hij
        subst hij;rw [h1] at hj;right;exact (dr hj).symm
      · rename_i hij
        have hj:K.ix[j]? = some e':=by
          cases hq:K.ix[j]? with
          | none=>rw [hq] at hj; cases hj
          | some y=>rw [hq] at hj; exact hj
        refine .inl ⟨bn hj,fun hk=>hij ?_⟩;exact rq h.k h1 hj (h2.trans hk.symm)
    refine ⟨⟨by rw [q1]; exact h.k,by rw [q2]; exact h.t,fun e' he'=>?_⟩,⟨fun e' he'=>?_,fun i=>?_⟩⟩
    · rcases hmem e' he' with ⟨hh,-⟩ | rfl
      · exact h.c e' hh
      · exact h.c e (bn h1)
    · rcases hmem e' he' with ⟨hh,hk⟩ | rfl
      · exact .inl ⟨hh,by simpa using hk⟩
      · exact .inr ⟨by simp,rfl,by simp⟩
    · have this:secSum i (K.ix.modify x.1 fun e=>(k,p,e.2.2))+(if e.2.1.sec=i then Ent.size e else 0)=secSum i K.ix+(if p.sec=i then 16+k.length+p.blob.length else 0):=zay (fun e=>if e.2.1.sec=i then Ent.size e else 0) (fun e=>(k,p,e.2.2)) K.ix x.1 h1
      by_cases c:p.sec=i
      · rw [if_pos c] at this
        rw [if_pos c.symm];omega
      · rw [if_neg c] at this
        rw [if_neg (fun e=>c e.symm)];omega
  | none =>
    have hn:=uq hf;simp only;refine ⟨⟨?_,?_,fun e' he'=>?_⟩,fun e' he'=>?_,fun i=>?_⟩
    · rw [ic,List.nodup_append]
      refine ⟨h.k,by simp,fun a ha c hc=>?_⟩;obtain ⟨e,he,rfl⟩:=cq.1 ha;simp at hc;subst hc;exact hn e he
    · rw [ic,List.nodup_append]
      refine ⟨h.t,by simp,fun a ha c hc=>?_⟩;obtain ⟨e,he,rfl⟩:=cq.1 ha;simp at hc;subst hc;have:=h.c e he;omega
    · rcases bw.1 he' with hh | hh
      · have:=h.c e' hh; omega
      · rw [bq.1 hh]; show K.clock < _; omega
    · rcases bw.1 he' with hh | hh
      · exact .inl ⟨hh,by simpa using hn e' hh⟩
      · rw [bq.1 hh]; exact .inr ⟨by simp,rfl,by simp⟩
    · unfold secSum
      rw [ic,List.sum_append];simp only [Ent.size,bo,List.map_nil,j9,List.sum_nil];by_cases c:p.sec=i
      · rw [if_pos c,if_pos c.symm]; omega
      · rw [if_neg c,if_neg (fun e=>c e.symm)]; omega
theorem del_ok {K:StU} {k:Bs} {sec tot:Nat} (h:IxOK K.ix K.clock):IxOK (K.del k).ix (K.del k).clock∧IxUp K.ix (K.del k).ix [k] sec tot []:=by
  unfold StU.del;cases hf:findK k K.ix with
  | some x =>
    obtain ⟨e,h1,h2,h3⟩:=rp hf;simp only;have hsub:=List.eraseIdx_sublist K.ix x.1;refine ⟨⟨(hsub.map _).nodup h.k,(hsub.map _).nodup h.t,fun e' he'=>h.c e' (hsub.subset he')⟩,fun e' he'=>.inl ⟨hsub.subset he',?_⟩,fun i=>?_⟩
    · intro hk
      rw [bq] at hk;obtain ⟨j,hj⟩:=qw.1 he';rw [List.getElem?_eraseIdx] at hj;split at hj
      · have:=rq h.k h1 hj (h2.trans hk.symm); omega
      · have:=rq h.k h1 hj (h2.trans hk.symm); omega
    · have this:secSum i (K.ix.eraseIdx x.1)≤secSum i K.ix:=sum_erase (fun e=>if e.2.1.sec=i then Ent.size e else 0) K.ix x.1
      show secSum i (K.ix.eraseIdx x.1)≤_
      split <;> omega
  | none =>
    have hn:=uq hf
    exact ⟨h,⟨fun e he=>.inl ⟨he,by simpa using hn e he⟩,fun i=>by
      show secSum i K.ix≤_
      split <;> omega⟩⟩
theorem IxUp.trans {a b c:List Ent} {k1 k2:List Bs} {sec t1 t2:Nat} {b1 b2:List Bs} (h:IxUp a b k1 sec t1 b1) (k:IxUp b c k2 sec t2 b2):IxUp a c (k1++k2) sec (t1+t2) (b1++b2) :=
  ⟨fun e he=>by
    rcases k.m e he with ⟨h1,h2⟩ | ⟨h1,h2,h3⟩
    · rcases h.m e h1 with ⟨h4,h5⟩ | ⟨h4,h5,h6⟩
      · exact .inl ⟨h4,fun hh=>(bw.1 hh).elim h5 h2⟩
      · exact .inr ⟨e9 _ h4,h5,e9 _ h6⟩
    · exact .inr ⟨gc _ h1,h2,gc _ h3⟩,
   fun i=>by
    have h1:=h.s i;have h2:=k.s i;split at h1 <;> rename_i c
    · rw [if_pos c] at h2 ⊢; omega
    · rw [if_neg c] at h2 ⊢; omega⟩
theorem apply_ok {K:StU} {sec at_:Nat} {r:RecU} (h:IxOK K.ix K.clock):IxOK (K.apply sec at_ r).ix (K.apply sec at_ r).clock∧IxUp K.ix (K.apply sec at_ r).ix [r.key] sec r.size [r.blob]:=by
  unfold StU.apply;split
  · obtain ⟨h1,h2⟩:=del_ok (K:=K) (k:=r.key) (sec:=sec) (tot:=r.size) h
    refine ⟨h1,⟨fun e he=>?_,h2.s⟩⟩;rcases h2.m e he with h3 | ⟨_,_,h3⟩
    · exact .inl h3
    · cases h3
  · exact put_ok (p:=⟨sec,at_,r.blob⟩) h
theorem yp {hd:Nat}:∀ {A:List FV} {K:StU},IxOK K.ix K.clock→IxOK (applyAll hd A K).ix (applyAll hd A K).clock∧IxUp K.ix (applyAll hd A K).ix (A.map fun x=>x.2.1.key) hd (sizes (A.map fun x=>x.2.1)) (A.map fun x=>x.2.1.blob)
  | [],K,h=>⟨h,fun e he=>.inl ⟨he,by simp⟩,fun i=>by
    show secSum i K.ix≤_
    split <;> omega⟩
  | x :: A,K,h=>by
    obtain ⟨h1,h2⟩:=apply_ok (sec:=hd) (at_:=x.1) (r:=x.2.1) h;obtain ⟨h3,h4⟩:=yp (hd:=hd) (A:=A) h1;refine ⟨h3,?_⟩;have:=h2.trans h4;have e:sizes ((x :: A).map fun x=>x.2.1)=x.2.1.size+sizes (A.map fun x=>x.2.1):=by unfold sizes; rw [bo,bo,j9]
    rw [e];exact this
theorem yq {hd:Nat}:∀ (A:List FV) (K:StU),(applyAll hd A K).secs=K.secs∧(applyAll hd A K).head=K.head∧(applyAll hd A K).at_=K.at_∧(applyAll hd A K).txn=K.txn∧(applyAll hd A K).seq=K.seq∧(applyAll hd A K).down=K.down
  | [],K=>⟨rfl,rfl,rfl,rfl,rfl,rfl⟩
  | x :: A,K=>by obtain ⟨a1,a2,a3,a4,a5,a6⟩:=za0 K hd x.1 x.2.1;obtain ⟨b1,b2,b3,b4,b5,b6⟩:=yq (hd:=hd) A (K.apply hd x.1 x.2.1);exact ⟨b1.trans a1,b2.trans a2,b3.trans a3,b4.trans a4,b5.trans a5,b6.trans a6⟩
theorem yr {t:Nat}:∀ {L:List RV} {a:Nat},(founds t L a).map (fun x=>x.2.1.key)=L.map (fun p=>p.1.key)∧sizes ((founds t L a).map fun x=>x.2.1)=sizes (L.map Prod.fst)∧(founds t L a).map (fun x=>x.2.1.blob)=L.map (fun p=>p.1.blob)
  | [],a=>⟨rfl,rfl,rfl⟩
  | p :: L,a=>by obtain ⟨h1,h2,h3⟩:=yr (t:=t) (L:=L) (a:=a+p.1.size);unfold founds;refine ⟨by rw [bo,bo,h1]; rfl,?_,by rw [bo,bo,h3]; rfl⟩;unfold sizes at h2 ⊢;rw [bo,bo,j9,bo,bo,j9,h2];rfl
end Go.Abs.AbsBlb

namespace Go.Abs.AbsBlb
structure Inv (kl:List Bs) (F:Fl) (K:StU):Prop where
 gz:12≤F.z
 bl:F.b.length=F.n*F.z
 wl:F.w.length=F.n
 ln:K.secs.length=F.n
 lk:∀ i,i < F.n→K.secs[i]? = some (F.look i)
 dn:K.down=false
 hd:K.head = -1∨∃ h:Nat,K.head=h∧h < F.n∧(F.look h).st=2∧12≤K.at_∧K.at_≤F.z∧K.txn≤K.at_∧∀ j,K.at_≤j→j < F.z→F.b[h*F.z+j]? = some 255
 ix:IxOK K.ix K.clock
 en:∀ e ∈ K.ix,e.2.1.sec < F.n∧(F.look e.2.1.sec).st=2∧e.1 ∈ kl∧e.2.1.blob.length≤4096
 sz:∀ i:Nat,secSum i K.ix≠0→secSum i K.ix+28≤if K.head=i then K.at_ else F.z
theorem sum_zero {l:List Nat} (h:∀ x ∈ l,x=0):l.sum=0:=by
 induction l with
 | nil=>rfl
 | cons a l ih =>
  rw [j9,h a (bg ..),ih fun x hx=>h x (bj _ hx)]
theorem secSum_zero {i:Nat} {ix:List Ent} (h:∀ e ∈ ix,e.2.1.sec≠i):secSum i ix=0:=sum_zero fun x hx=>by obtain ⟨e,he,rfl⟩:=cq.1 hx;exact if_neg (h e he)
theorem laid_len {F:Fl} {a:Nat} {r:RecU} (h:a+r.size≤F.b.length):(F.laid a r).b.length=F.b.length:=by have hlr:=zh r;have e1:(spliceB F.b a (recB r)).length=F.b.length:=i9 (by omega);show (spliceB (spliceB F.b a (recB r)) _ [0]).length=_;rw [i9 (by rw [e1]; show _+1≤_; omega),e1]
theorem wroteF_get {F:Fl} {hd a t j:Nat} {l:List RecU} (h:hd*F.z+a+sizes l+16≤F.b.length) (hj:j < hd*F.z+a∨hd*F.z+a+sizes l+16≤j) :
  (wroteF F hd a t l).b[j]? = F.b[j]?∧(wroteF F hd a t l).b.length=F.b.length:=by
 obtain ⟨h1,h2⟩:=ut (hd*F.z) t (j:=j) l F a (by omega) (by omega);have hs:(comR t l.length).size=16:=rfl;unfold wroteF;refine ⟨(za3 (by rw [h2,hs]; omega) (by rw [hs]; omega)).trans h1,(laid_len (by rw [h2,hs]; omega)).trans h2⟩
theorem wroteF_eq (F:Fl) (hd a t:Nat) (l:List RecU):(wroteF F hd a t l).n=F.n∧(wroteF F hd a t l).z=F.z∧(wroteF F hd a t l).lim=F.lim∧(wroteF F hd a t l).w=F.w:=xd (hd*F.z) t l F a
theorem write_inv {kl:List Bs} {F:Fl} {K:StU} (h:Inv kl F K) {hd:Nat} (hh:K.head=hd) {L:List RV} (hL:∀ p ∈ L,p.1.key ∈ kl∧p.1.blob.length≤4096) (hfit:K.at_+sizes (L.map Prod.fst)+16≤F.z) :
  Inv kl (wroteF F hd K.at_ (K.txn+1) (L.map Prod.fst)) (wroteK K hd L)∧(wroteK K hd L).head=hd∧(∀ e ∈ (wroteK K hd L).ix,(e ∈ K.ix∧e.1 ∉ L.map fun p=>p.1.key)∨((e.1 ∈ L.map fun p=>p.1.key)∧e.2.1.sec=hd))∧(∀ i,i < F.n→(wroteF F hd K.at_ (K.txn+1) (L.map Prod.fst)).look i=F.look i):=by
 obtain ⟨f1,f2,f3,f4⟩:=wroteF_eq F hd K.at_ (K.txn+1) (L.map Prod.fst);rcases h.hd with e | ⟨y,e,hn,hu,h12,haz,htx,hcl⟩
 ·omega
 obtain rfl:y=hd:=by omega
 have hin:=sec_in (z:=F.z) hn;have hbl:=h.bl;have hget:=fun j hj=>wroteF_get (F:=F) (hd:=y) (a:=K.at_) (t:=K.txn+1) (j:=j) (l:=L.map Prod.fst) (by omega) hj
 have hlen:=(hget 0 (by omega)).2;have hz:=h.gz
 have hlook:∀ i,i < F.n→(wroteF F y K.at_ (K.txn+1) (L.map Prod.fst)).look i=F.look i:=fun i hi=>by
  by_cases c:i=y
  ·subst c;exact look_used f2 hz (fun j hj=>(hget _ (by omega)).1) (by rw [f4]) hu
  ·refine zax f2 (fun j hj=>(hget _ ?_).1) (by rw [f4]);have:=sec_apart c hj;omega
 obtain ⟨k1,k2,k3⟩:=yr (t:=K.txn+1) (L:=L) (a:=K.at_);have hxo:IxOK ({ K with txn:=K.txn+1,at_:=K.at_+sizes (L.map Prod.fst)+16 }:StU).ix ({ K with txn:=K.txn+1,at_:=K.at_+sizes (L.map Prod.fst)+16 }:StU).clock:=h.ix;obtain ⟨x1,x2⟩:=yp (hd:=y) (A:=founds (K.txn+1) L K.at_) hxo;obtain ⟨a1,a2,a3,a4,a5,a6⟩:=yq (hd:=y) (founds (K.txn+1) L K.at_) { K with txn:=K.txn+1,at_:=K.at_+sizes (L.map Prod.fst)+16 };rw [k1,k2,k3] at x2;have hent:∀ e ∈ (wroteK K y L).ix,(e ∈ K.ix∧e.1 ∉ L.map fun p=>p.1.key)∨((e.1 ∈ L.map fun p=>p.1.key)∧e.2.1.sec=y∧e.2.1.blob ∈ L.map fun p=>p.1.blob):=x2.m;refine ⟨⟨by rw [f2]; exact hz,by rw [hlen,f1,f2]; exact hbl,by rw [f4,f1]; exact h.wl,?_,fun i hi=>?_,?_,.inr ⟨y,a2.trans hh,by rw [f1]; exact hn,by rw [hlook y hn]; exact hu,?_,?_,?_,fun j hj1 hj2=>?_⟩,x1,fun e he=>?_,fun i hi=>?_⟩,a2.trans hh,fun e he=>(hent e he).imp id fun q=>⟨q.1,q.2.1⟩,hlook⟩
 ·show (wroteK K y L).secs.length=_
  unfold wroteK; rw [a1,f1]; exact h.ln
 ·rw [f1] at hi;unfold wroteK; rw [a1,hlook i hi]; exact h.lk i hi
 ·unfold wroteK; rw [a6]; exact h.dn
 ·unfold wroteK; rw [a3]; show 12≤K.at_+_+16; omega
 ·unfold wroteK; rw [a3,f2]; exact hfit
 ·unfold wroteK; rw [a3,a4]; show K.txn+1≤K.at_+_+16; omega
 ·unfold wroteK at hj1;rw [a3] at hj1;rw [f2] at hj2 ⊢;have hj1:K.at_+sizes (L.map Prod.fst)+16≤j:=hj1;rw [(hget _ (by omega)).1];exact hcl j (by omega) hj2
 ·rw [f1];rcases hent e he with ⟨q1,q2⟩ | ⟨q1,q2,q3⟩
  ·obtain ⟨b1,b2,b3,b4⟩:=h.en e q1;exact ⟨b1,by rw [hlook _ b1]; exact b2,b3,b4⟩
  ·obtain ⟨p,hp,e1⟩:=cq.1 q1;obtain ⟨p',hp',e2⟩:=cq.1 q3;refine ⟨by rw [q2]; exact hn,by rw [q2,hlook y hn]; exact hu,by rw [← e1]; exact (hL p hp).1,by rw [← e2]; exact (hL p' hp').2⟩
 ·have hs:=x2.s i;have hs:secSum i (wroteK K y L).ix≤secSum i K.ix+if i=y then sizes (L.map Prod.fst) else 0:=hs
  have hold:=h.sz i;have e1:(wroteK K y L).head=K.head:=a2;have e2:(wroteK K y L).at_=K.at_+sizes (L.map Prod.fst)+16:=a3;rw [e1,e2,f2];by_cases c:i=y
  ·subst c;rw [if_pos rfl] at hs;rw [if_pos hh] at hold ⊢;by_cases c0:secSum i K.ix=0
   ·omega
   ·have:=hold c0;omega
  ·rw [if_neg c] at hs;have hc:¬ K.head=(i:Int):=by omega
   rw [if_neg hc] at hold ⊢;have:=hold (by omega);omega
theorem lookB_blank {l:Bs} {er:Nat} (h:∀ j,j < l.length→l[j]? = some 255):lookB l er=⟨0,0,er⟩:=by unfold lookB;rw [if_pos (blank_of h)]
theorem v5 {a b:Bs} {n:Nat} (h:a.length=n):(a++b).take n=a:=by rw [← h]; simp
theorem drop_cat {a b:Bs} {n:Nat} (h:a.length=n):(a++b).drop n=b:=by rw [← h]; simp
theorem lookB_open {l:Bs} {seq er:Nat} (h:l.take 9=headB seq++[0]) (h9:l[9]? = some 255) (hs:seq < 4294967296):lookB l er=⟨2,seq,er⟩:=by
 have h':l.take 9=(headB seq++[0]).take 9:=by rw [ew (l:=headB seq++[0]) (by rw [aq,j8]; decide)]; exact h
 have h8:l[8]? = some 0:=by rw [p0 h' (j:=8) (by decide),aw (by rw [j8]; decide),j8]; rfl
 have hb:¬ blankB l=true:=fun e=>by have:=tz e (ah h8);rw [h8] at this; cases this
 have hA:=xe seq
 have t6:l.take 6=headA seq:=by rw [v6 h' (m:=6) (by decide)];unfold headB;rw [az];exact v5 hA
 have t2:l.take 2=[67,66]:=by rw [v6 h' (m:=2) (by decide)];unfold headB headA;rw [az,az];exact v5 rfl
 have d6:(l.drop 6).take 2=putB (nat16 (headA seq)) 2:=by rw [pf h' (a:=6) (k:=2) (by decide)];unfold headB;rw [az,drop_cat hA];exact v5 (gb _ _)
 have d2:(l.drop 2).take 4=putB seq 4:=by rw [pf h' (a:=2) (k:=4) (by decide)];unfold headB headA;rw [az,az,drop_cat (a:=[67,66]) (n:=2) rfl];exact v5 (gb _ _)
 have hp:parseE l=0:=by unfold parseE;rw [if_pos t2,d6,t6,ov,if_pos (lx (tk _).2)]
 unfold lookB;rw [if_neg hb,if_pos ⟨hp,h8,h9⟩,d2,ov,lx hs]
theorem zg (m:Sec→Bool) (k:Sec→Int) (L:List Sec):∀ i,(least m k L i).2=true→∃ x,L[(least m k L i).1]? = some x∧m x=true
 | 0,h=>by simp [least] at h
 | i+1,h=>by
  cases hx:L[i]? with
  | none =>
   have e:least m k L (i+1)=least m k L i:=by simp only [least,hx]
   rw [e] at h ⊢;exact zg m k L i h
  | some x =>
   by_cases c:(m x && (!(least m k L i).2 || (L[(least m k L i).1]?).any fun y=>decide (k x < k y)))=true
   ·have e:least m k L (i+1)=(i,true):=by simp only [least,hx]; rw [if_pos c]
    rw [e];refine ⟨x,hx,?_⟩;simp only [a7] at c;exact c.1
   ·have e:least m k L (i+1)=least m k L i:=by simp only [least,hx]; rw [if_neg c]
    rw [e] at h ⊢;exact zg m k L i h
theorem opened_get {F:Fl} {i s j:Nat} (hi:i < F.n) (hbl:F.b.length=F.n*F.z) (hz:12≤F.z) :
  (F.opened i s).b.length=F.b.length∧((j < i*F.z∨i*F.z+F.z≤j)→(F.opened i s).b[j]? = F.b[j]?)∧(9≤j→j < F.z→(F.opened i s).b[i*F.z+j]? = some 255)∧(j < 9→(F.opened i s).b[i*F.z+j]? = (headB s++[0])[j]?):=by
 have hin:=sec_in (z:=F.z) hi;obtain ⟨c1,c2,c3⟩:=tj F i
 have hcb:(F.clear i).b.length=F.b.length∧∀ j,(F.clear i).b[j]? = if i*F.z≤j∧j < i*F.z+F.z then some 255 else F.b[j]?:=by
  unfold Fl.clear;split
  ·rename_i hb;refine ⟨rfl,fun j=>?_⟩;split
   ·rename_i hj;obtain ⟨m,rfl⟩:=Nat.exists_eq_add_of_le hj.1;have hm:m < F.z:=by omega
    have hl:(F.sec i).length=F.z:=by unfold Fl.sec; rw [dh,gg]; omega
    rw [← Fl.sec_get hm];exact tz hb (by rw [hl]; exact hm)
   ·rfl
  ·refine ⟨?_,fun j=>erase_get (by omega)⟩;show (eraseB _ _).length=_;unfold eraseB;rw [i9 (by rw [br]; omega)]
 obtain ⟨hc1,hc2⟩:=hcb;have l1:(spliceB (F.clear i).b (i*F.z) (headB s)).length=F.b.length:=by rw [i9 (by rw [hc1,j8]; omega),hc1]
 have l2:(F.opened i s).b.length=F.b.length:=by
  show (spliceB (spliceB (F.clear i).b (i*F.z) (headB s)) (i*F.z+8) [0]).length=_
  rw [i9 (by rw [l1]; show _+1≤_; omega),l1]
 have hg:∀ j,(F.opened i s).b[j]? = if j < i*F.z+8 then (if j < i*F.z then (F.clear i).b[j]? else if j < i*F.z+8 then (headB s)[j - i*F.z]? else (F.clear i).b[j]?) else if j < i*F.z+9 then ([0]:Bs)[j - (i*F.z+8)]? else (if j < i*F.z then (F.clear i).b[j]? else if j < i*F.z+8 then (headB s)[j - i*F.z]? else (F.clear i).b[j]?):=fun j=>by
  show (spliceB (spliceB (F.clear i).b (i*F.z) (headB s)) (i*F.z+8) [0])[j]? = _
  rw [m8 (by rw [l1]; show _+1≤_; omega),m8 (by rw [hc1,j8]; omega),j8];rfl
 refine ⟨l2,fun hj=>?_,fun h1 h2=>?_,fun h1=>?_⟩
 ·rw [hg];rcases hj with hj | hj
  ·rw [if_pos (by omega),if_pos hj,hc2,if_neg (by omega)]
  ·rw [if_neg (by omega),if_neg (by omega),if_neg (by omega),if_neg (by omega),hc2,if_neg (by omega)]
 ·rw [hg,if_neg (by omega),if_neg (by omega),if_neg (by omega),if_neg (by omega),hc2,if_pos (by omega)]
 ·rw [hg];by_cases c:j < 8
  ·rw [if_pos (by omega),if_neg (by omega),if_pos (by omega),ag (by rw [j8]; exact c),ji]
  ·obtain rfl:j=8:=by omega
   rw [if_neg (by omega),if_pos (by omega),mw,aw (by rw [j8]; decide),j8]
theorem open_inv {kl:List Bs} {F:Fl} {K:StU} (h:Inv kl F K) {i x':Nat} (hn:nextS F K=(i,true)) (hq:K.seq+1 < 4294967296) (hx':(F.clear i).w[i]? = some x') :
  Inv kl (F.opened i (K.seq+1)) { K with secs:=K.secs.set i ⟨2,(K.seq:Int)+1,x'⟩,head:=i,at_:=12,txn:=0,seq:=K.seq+1 }:=by
 obtain ⟨y,hy,hm⟩:∃ y,K.secs[i]? = some y∧opn F.lim y=true:=by have:=zg (opn F.lim) Sec.er K.secs K.secs.length (by unfold nextS at hn; rw [hn]);unfold nextS at hn;rw [hn] at this;exact this
 have hi:i < F.n:=by rw [← h.ln]; exact ah hy
 have hyl:y=F.look i:=by have:=h.lk i hi; rw [hy] at this; exact dr this
 have hnu:(F.look i).st≠2:=fun e=>by rw [hyl] at hm;unfold opn at hm;rw [e] at hm;simp at hm
 have hz:=h.gz;obtain ⟨c1,c2,c3⟩:=tj F i;have e1:(F.opened i (K.seq+1)).n=F.n:=c1;have e2:(F.opened i (K.seq+1)).z=F.z:=c2;have hg:=fun j=>opened_get (s:=K.seq+1) (j:=j) hi h.bl hz
 have hwk:∀ k,k≠i→(F.opened i (K.seq+1)).w[k]? = F.w[k]?:=fun k hk=>by
  show (F.clear i).w[k]? = _
  unfold Fl.clear;split
  ·rfl
  ·show (F.w.set i _)[k]? = _
   rw [av (fun e=>hk e.symm)]
 have hwl:(F.opened i (K.seq+1)).w.length=F.n:=by
  show (F.clear i).w.length=_
  unfold Fl.clear;split
  ·exact h.wl
  ·show (F.w.set i _).length=_
   rw [bf]; exact h.wl
 have hlk:∀ k,k≠i→(F.opened i (K.seq+1)).look k=F.look k:=fun k hk=>zax e2 (fun j hj=>(hg _).2.1 (sec_apart hk hj)) (hwk k hk)
 have hli:(F.opened i (K.seq+1)).look i=⟨2,(K.seq:Int)+1,x'⟩:=by
  have hwi:(F.opened i (K.seq+1)).w[i]? = some x':=hx';unfold Fl.look;rw [hwi,gh,lookB_open (seq:=K.seq+1) ?_ ?_ hq]
  ·rfl
  ·refine jh fun j=>?_
   rw [fh];split
   ·rw [Fl.sec_get (by rw [e2]; omega),e2];exact (hg j).2.2.2 (by assumption)
   ·rw [bv];rw [aq,j8];show 9≤j;omega
  ·rw [Fl.sec_get (by rw [e2]; omega),e2];exact (hg 9).2.2.1 (by decide) (by omega)
 have hno:∀ e ∈ K.ix,e.2.1.sec≠i:=fun e he c=>hnu (by rw [← c]; exact (h.en e he).2.1)
 refine ⟨by rw [e2]; exact hz,by rw [(hg 0).1,e1,e2]; exact h.bl,by rw [hwl,e1],by rw [e1]; show (K.secs.set _ _).length=_; rw [bf]; exact h.ln,fun k hk=>?_,h.dn,.inr ⟨i,rfl,by rw [e1]; exact hi,by rw [hli],aj _,by rw [e2]; exact hz,ge _,fun j hj1 hj2=>?_⟩,h.ix,fun e he=>?_,fun k hk=>?_⟩
 ·rw [e1] at hk;show (K.secs.set i _)[k]? = _;by_cases c:k=i
  ·subst c;rw [hli];exact eg (by rw [h.ln]; exact hk)
  ·rw [av (fun e=>c e.symm),hlk k c];exact h.lk k hk
 ·rw [e2] at hj2 ⊢;have hj1:12≤j:=hj1;exact (hg j).2.2.1 (by omega) hj2
 ·obtain ⟨b1,b2,b3,b4⟩:=h.en e he;exact ⟨by rw [e1]; exact b1,by rw [hlk _ (hno e he)]; exact b2,b3,b4⟩
 ·have hki:k≠i:=fun c=>hk (secSum_zero fun e he=>by rw [c]; exact hno e he)
  have:=h.sz k hk;have hc:¬ ((i:Nat):Int)=(k:Int):=by omega
  show _≤if ((i:Nat):Int)=(k:Int) then 12 else (F.opened i (K.seq+1)).z
  rw [if_neg hc,e2];have hk':secSum k K.ix+28≤if K.head=(k:Int) then K.at_ else F.z:=this
  show secSum k K.ix+28≤F.z
  split at hk'
  ·rename_i c;rcases h.hd with e | ⟨y,b1,b2,b3,b4,b5,b6,b7⟩
   ·omega
   ·omega
  ·exact hk'
end Go.Abs.AbsBlb

namespace Go.Abs.AbsBlb
open Go.Abs.Short
structure SO (kl:List Bs) (H:List AObj) (I:SI) (F:Fl) (K:StU):Prop where
 a:StA H I F K
 v:Inv kl F K
structure FlE (F F':Fl):Prop where
 n:F'.n=F.n
 z:F'.z=F.z
 l:F'.lim=F.lim
theorem FlE.refl (F:Fl):FlE F F:=⟨rfl,rfl,rfl⟩
theorem FlE.trans {F G H:Fl} (h:FlE F G) (k:FlE G H):FlE F H:=⟨k.n.trans h.n,k.z.trans h.z,k.l.trans h.l⟩
section
variable {kl:List Bs} {H:List AObj} {b:Nat} {I:SI} {F:Fl} {K:StU}
theorem SO.wex (h:SO kl H I F K) {i:Nat} (hi:i < F.n):∃ x,F.w[i]? = some x∧(F.look i).er=(x:Int):=by obtain ⟨x,hx⟩:∃ x,F.w[i]? = some x:=⟨_,ai (by rw [h.v.wl]; exact hi)⟩;exact ⟨x,hx,by rw [look_er,hx]; rfl⟩
theorem q577 (h:SO kl H I F K) (hb:I.lo b) (hbN:b≤H.length) {L:List RV} {la:Option (Nat × Nat)} {lc:Option Nat} (hR:Row H 5 RV.cells L la) (hne:L≠[]) (hLn:L.length≤16) (hkl:∀ k ∈ kl,1≤k.length∧k.length≤64)
  (hL:∀ p ∈ L,BlobS I H p.2 p.1.blob∧p.1.key ∈ kl∧p.1.count=0∧(p.1.kind=1∧p.1.blob.length≤4096∨p.1.kind=2∧p.1.blob=[])) {hd:Nat} (hh:K.head=hd) (hfit:K.at_+sizes (L.map Prod.fst)+16≤F.z) :
  ∃ H' F' K',∃ nx:Nat→Nat,StF I H H'∧SO kl H' I F' K'∧FlE F F'∧K'.head=hd∧(∀ e ∈ K'.ix,(e ∈ K.ix∧e.1 ∉ L.map fun p=>p.1.key)∨((e.1 ∈ L.map fun p=>p.1.key)∧e.2.1.sec=hd))∧K'=wroteK K hd L∧(∀ i,i < F.n→F'.look i=F.look i)∧(∀ w,nx w≤I.hi∧min w b≤nx w) ∧
   ∀ w,xCall T 577 [.ptr (some (I.s,0)),.slice la L.length lc] ⟨H,b,w⟩=some (.int .i64 0,⟨H',b,nx w⟩):=by
 rcases h.v.hd with e | ⟨y,e,hn,hu,h12,haz,htx,hcl⟩
 ·omega
 obtain rfl:y=hd:=by omega
 have hnb:=h.a.fl.nb.2
 have hbl:∀ p ∈ L,p.1.blob.length≤4096:=fun p hp=>by
  rcases (hL p hp).2.2.2 with ⟨-,q⟩ | ⟨-,q⟩
  ·exact q
  ·rw [q]; exact ge _
 obtain ⟨H',nx,k1,k2,k3,k4⟩:=p577 (lc:=lc) h.a hb hbN hR hne hLn (fun p hp=>(hL p hp).1) (t:=K.txn+1) rfl (by omega) (fun p hp=>by
  obtain ⟨-,q2,q3,q4⟩:=hL p hp;obtain ⟨l1,l2⟩:=hkl _ q2;unfold RecU.at RecU.right rightB;rcases q4 with ⟨q4,q5⟩ | ⟨q4,q5⟩
  ·simp [q3,q4,q5,l1,l2]
  ·simp [q3,q4,q5,l1,l2]) hh hfit hcl
 obtain ⟨w1,w2,w3,w4⟩:=write_inv h.v hh (fun p hp=>⟨(hL p hp).2.1,hbl p hp⟩) hfit;obtain ⟨f1,f2,f3,f4⟩:=wroteF_eq F y K.at_ (K.txn+1) (L.map Prod.fst);exact ⟨H',_,_,nx,k1,⟨k2,w1⟩,⟨f1,f2,f3⟩,w2,w3,rfl,w4,k3,k4⟩
end
end Go.Abs.AbsBlb

namespace Go.Abs.AbsBlb
open Go.Abs.Short
def strsO (L:List Bs):AObj:=.cells 1 (L.map AVal.str)
theorem s166 {n:Nat} (hn:n≤12) {h:Heap}:∃ k:Int,xCall T 166 [.int .u64 n] h=some (.int .i64 k,h):=by
 obtain ⟨os,b,w⟩:=h
 have hq:∀ m:Nat,m≤12→IntKind.u8.wrap (m:Int)=m:=fun m hm=>by
  have:m=0∨m=1∨m=2∨m=3∨m=4∨m=5∨m=6∨m=7∨m=8∨m=9∨m=10∨m=11∨m=12:=by omega
  rcases this with rfl | rfl | rfl | rfl | rfl | rfl | rfl | rfl | rfl | rfl | rfl | rfl | rfl <;> decide
 have hs:∃ y:UInt8,y.toNat≤4∧([0,1,2,2,3,3,3,3,4,4,4,4,4]:List UInt8)[n]? = some y:=by
  have:n=0∨n=1∨n=2∨n=3∨n=4∨n=5∨n=6∨n=7∨n=8∨n=9∨n=10∨n=11∨n=12:=by omega
  rcases this with rfl | rfl | rfl | rfl | rfl | rfl | rfl | rfl | rfl | rfl | rfl | rfl | rfl <;> exact ⟨_,by decide,rfl⟩
 have hq:=hq n hn;obtain ⟨y,hy4,hy⟩:=hs;refine ⟨(y.toNat:Int),?_⟩;have hg:∀ X:List UInt8,(([0,1,2,2,3,3,3,3,4,4,4,4,4]:List UInt8)++X)[n]? = some y:=fun X=>by rw [ag (ah hy)]; exact hy
 have hgt:([0,1,2,2,3,3,3,3,4,4,4,4,4,4,4,4,5,5,5,5,5,5,5,5,5,5,5,5,5,5,5,5,6,6,6,6,6,6,6,6,6,6,6,6,6,6,6,6,6,6,6,6,6,6,6,6,6,6,6,6,6,6,6,6,7,7,7,7,7,7,7,7,7,7,7,7,7,7,7,7,7,7,7,7,7,7,7,7,7,7,7,7,7,7,7,7,7,7,7,7,7,7,7,7,7,7,7,7,7,7,7,7,7,7,7,7,7,7,7,7,7,7,7,7,7,7,7,7,8,8,8,8,8,8,8,8,8,8,8,8,8,8,8,8,8,8,8,8,8,8,8,8,8,8,8,8,8,8,8,8,8,8,8,8,8,8,8,8,8,8,8,8,8,8,8,8,8,8,8,8,8,8,8,8,8,8,8,8,8,8,8,8,8,8,8,8,8,8,8,8,8,8,8,8,8,8,8,8,8,8,8,8,8,8,8,8,8,8,8,8,8,8,8,8,8,8,8,8,8,8,8,8,8,8,8,8,8,8,8,8,8,8,8,8,8,8,8,8,8,8,8,8,8,8,8,8]:List UInt8)[n]? = some y:=hg _
 generalize hX:([0,1,2,2,3,3,3,3,4,4,4,4,4,4,4,4,5,5,5,5,5,5,5,5,5,5,5,5,5,5,5,5,6,6,6,6,6,6,6,6,6,6,6,6,6,6,6,6,6,6,6,6,6,6,6,6,6,6,6,6,6,6,6,6,7,7,7,7,7,7,7,7,7,7,7,7,7,7,7,7,7,7,7,7,7,7,7,7,7,7,7,7,7,7,7,7,7,7,7,7,7,7,7,7,7,7,7,7,7,7,7,7,7,7,7,7,7,7,7,7,7,7,7,7,7,7,7,7,8,8,8,8,8,8,8,8,8,8,8,8,8,8,8,8,8,8,8,8,8,8,8,8,8,8,8,8,8,8,8,8,8,8,8,8,8,8,8,8,8,8,8,8,8,8,8,8,8,8,8,8,8,8,8,8,8,8,8,8,8,8,8,8,8,8,8,8,8,8,8,8,8,8,8,8,8,8,8,8,8,8,8,8,8,8,8,8,8,8,8,8,8,8,8,8,8,8,8,8,8,8,8,8,8,8,8,8,8,8,8,8,8,8,8,8,8,8,8,8,8,8,8,8,8,8,8,8]:List UInt8)=XX at hgt;have hxl:n < XX.length:=ah hgt;have c1:¬ ((4294967296:Int)≤n):=by omega
 have c2:¬ ((65536:Int)≤n):=by omega
 have c3:¬ ((256:Int)≤n):=by omega
 simp (disch:=omega) [-getElem?_pos,-getElem?_neg,-List.all_eq_true,qZ,qS,nltT,nltF,iltT,iltF,ileT,nleT,el,bc t166,code166,bc t200,code200,hq,hX,hgt,hxl,c1,c2,c3]
section
variable {H:List AObj} {b q n g:Nat} {am cm:List AVal} {f:Bs→Bs→Int} {c:Option Nat}
end
end Go.Abs.AbsBlb
