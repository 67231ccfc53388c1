/-
  Texts joined.
-/
import Derived.Test.YtfjiakbhdjcceaaGreatQ0
import Derived.Test.YtfjiakbhdjcceaaGreatQ8
import Derived.Test.YtfjiakbhdjcceaaGreatQ6
import Derived.Lib.MakeNoZero
import Derived.Test.YtfjiakbhdjcceaaGreatQ7
set_option linter.unusedVariables false
set_option linter.unusedSimpArgs false
set_option maxRecDepth 100000
namespace Go.Abs.AbsBlb
open Go.Abs.Short
structure SO (kl:List Bs) (H:List AObj) (I:SI) (F:Fl) (K:StU):Prop where
 a:StA H I F K
 v:Inv kl F K
structure FlE (F F':Fl):Prop where
 n:F'.n=F.n
 z:F'.z=F.z
 l:F'.lim=F.lim
theorem FlE.refl (F:Fl):FlE F F:=⟨rfl,rfl,rfl⟩
theorem FlE.trans {F G H:Fl} (h:FlE F G) (k:FlE G H):FlE F H:=⟨k.n.trans h.n,k.z.trans h.z,k.l.trans h.l⟩
section
variable {kl:List Bs} {H:List AObj} {b:Nat} {I:SI} {F:Fl} {K:StU}
theorem SO.wex (h:SO kl H I F K) {i:Nat} (hi:i < F.n):∃ x,F.w[i]? = some x∧(F.look i).er=(x:Int):=by obtain ⟨x,hx⟩:∃ x,F.w[i]? = some x:=⟨_,ai (by rw [h.v.wl]; exact hi)⟩;exact ⟨x,hx,by rw [look_er,hx]; rfl⟩
theorem q598 (h:SO kl H I F K) (hb:I.lo b):(((nextS F K).2=false∨K.seq=4294967295)∧∀ w,xCall T 598 [.ptr (some (I.s,0))] ⟨H,b,w⟩=some (.int .i64 10,⟨H,b,w⟩)) ∨
  (∃ H' F' K',∃ p:Nat→Nat,StF I H H'∧SO kl H' I F' K'∧FlE F F'∧K'.ix=K.ix∧K'.at_=12∧(∃ i:Nat,K'.head=i∧i < F.n∧(F.look i).st≠2)∧(∀ i,i < F.n→(F.look i).st=2→(F'.look i).st=2)∧(∀ w,p w≤I.hi∧min w b≤p w) ∧
   ∀ w,xCall T 598 [.ptr (some (I.s,0))] ⟨H,b,w⟩=some (.int .i64 0,⟨H',b,p w⟩)):=by
 by_cases c:(nextS F K).2=false∨K.seq=4294967295
 ·exact .inl ⟨c,fun w=>p598n h.a c⟩
 ·have c1:(nextS F K).2=true:=by cases V:(nextS F K).2 with
   | true=>rfl
   | false=>exact absurd (.inl V) c
  have c2:K.seq≠4294967295:=fun e=>c (.inr e)
  have W:=h.a.sb;obtain ⟨i,hi⟩:∃ i,nextS F K=(i,true):=⟨(nextS F K).1,by rw [← c1]⟩
  obtain ⟨y,J,hm⟩:∃ y,K.secs[i]? = some y∧opn F.lim y=true:=by have:=qi (opn F.lim) Sec.er K.secs K.secs.length (by unfold nextS at hi; rw [hi]);unfold nextS at hi;rw [hi] at this;exact this
  have d:i < F.n:=by rw [← h.v.ln]; exact ah J
  have B:y=F.look i:=by have:=h.v.lk i d; rw [J] at this; exact ce this
  obtain ⟨x,hx,X⟩:=h.wex d
  have C:(F.look i).st=0∨((F.look i).st=1∧x < F.lim):=by
   rw [B] at hm;unfold opn at hm;rw [X] at hm;simp only [c9,bc,decide_eq_true_eq] at hm;rcases hm with hm | ⟨hm,hl⟩
   ·exact .inl hm
   ·exact .inr ⟨hm,by omega⟩
  obtain ⟨D,j⟩:∃ D,(F.clear i).w[i]? = some D:=by
   refine ⟨_,ai ?_⟩;unfold Fl.clear;split
   ·rw [h.v.wl]; exact d
   ·show i < (F.w.set i _).length
    rw [az,h.v.wl]; exact d
  obtain ⟨H',p,k1,k2,k3,k4⟩:=p598 h.a hb h.v.gz hi c2 hx C j;obtain ⟨L,d2,d3⟩:=qv F i;have A:(F.look i).st≠2:=by omega
  refine .inr ⟨H',_,_,p,k1,⟨k2,zap h.v hi (by omega) j⟩,⟨L,d2,d3⟩,rfl,rfl,⟨i,rfl,d,A⟩,fun k N O=>?_,k3,k4⟩;have G:k≠i:=fun e=>A (by rw [← e]; exact O)
  have hv:=zap h.v hi (by omega) j;have e1:=hv.lk k (by show k < (F.clear i).n; rw [L]; exact N);have U:(K.secs.set i ⟨2,(K.seq:Int)+1,D⟩)[k]? = some ((F.opened i (K.seq+1)).look k):=e1;rw [aq (fun e=>G e.symm),h.v.lk k N] at U;rw [← ce U]; exact O
theorem q594 (h:SO kl H I F K) (hb:I.lo b) {i:Nat} (hi:i < F.n) (p:K.head≠i) (j:∀ e ∈ K.ix,e.2.1.sec≠i) :
  ∃ H' F' K',∃ d:Nat→Nat,StF I H H'∧SO kl H' I F' K'∧FlE F F'∧K'.ix=K.ix∧(∀ w,d w≤I.hi∧min w b≤d w) ∧
   ∀ w,xCall T 100594 [.ptr (some (I.s,0)),.int .i64 i] ⟨H,b,w⟩=some (.int .i64 0,⟨H',b,d w⟩):=by
 obtain ⟨x,hx,D⟩:=h.wex hi;obtain ⟨H',d,y,A,B,C⟩:=p594 h.a hb h.v.gz hx;refine ⟨H',_,_,d,y,⟨A,drop_inv h.v hx p j⟩,?_,rfl,B,C⟩;unfold Fl.dropped;split <;> exact ⟨rfl,rfl,rfl⟩
theorem q577 (h:SO kl H I F K) (hb:I.lo b) (D:b≤H.length) {L:List RV} {la:Option (Nat × Nat)} {lc:Option Nat} (hR:Row H 5 RV.cells L la) (G:L≠[]) (J:L.length≤16) (N:∀ k ∈ kl,1≤k.length∧k.length≤64)
  (C:∀ p ∈ L,BlobS I H p.2 p.1.blob∧p.1.key ∈ kl∧p.1.count=0∧(p.1.kind=1∧p.1.blob.length≤4096∨p.1.kind=2∧p.1.blob=[])) {hd:Nat} (W:K.head=hd) (d:K.at_+sizes (L.map Prod.fst)+16≤F.z) :
  ∃ H' F' K',∃ A:Nat→Nat,StF I H H'∧SO kl H' I F' K'∧FlE F F'∧K'.head=hd∧(∀ e ∈ K'.ix,(e ∈ K.ix∧e.1 ∉ L.map fun p=>p.1.key)∨((e.1 ∈ L.map fun p=>p.1.key)∧e.2.1.sec=hd))∧K'=wroteK K hd L∧(∀ i,i < F.n→F'.look i=F.look i)∧(∀ w,A w≤I.hi∧min w b≤A w) ∧
   ∀ w,xCall T 577 [.ptr (some (I.s,0)),.slice la L.length lc] ⟨H,b,w⟩=some (.int .i64 0,⟨H',b,A w⟩):=by
 rcases h.v.hd with e | ⟨y,e,hn,hu,a0,a6,aa,O⟩
 ·omega
 obtain rfl:y=hd:=by omega
 have ac:=h.a.fl.nb.2
 have U:∀ p ∈ L,p.1.blob.length≤4096:=fun p j=>by
  rcases (C p j).2.2.2 with ⟨-,q⟩ | ⟨-,q⟩
  ·exact q
  ·rw [q]; exact fk _
 obtain ⟨H',A,k1,k2,k3,k4⟩:=p577 (lc:=lc) h.a hb D hR G J (fun p j=>(C p j).1) (t:=K.txn+1) rfl (by omega) (fun p j=>by
  obtain ⟨-,q2,X,B⟩:=C p j;obtain ⟨l1,l2⟩:=N _ q2;unfold RecU.at RecU.right rightB;rcases B with ⟨B,V⟩ | ⟨B,V⟩
  ·simp [X,B,V,l1,l2]
  ·simp [X,B,V,l1,l2]) W d O
 obtain ⟨w1,w2,w3,w4⟩:=write_inv h.v W (fun p j=>⟨(C p j).2.1,U p j⟩) d;obtain ⟨f1,f2,f3,f4⟩:=wroteF_eq F y K.at_ (K.txn+1) (L.map Prod.fst);exact ⟨H',_,_,A,k1,⟨k2,w1⟩,⟨f1,f2,f3⟩,w2,w3,rfl,w4,k3,k4⟩
end
end Go.Abs.AbsBlb

namespace Go.Abs.AbsBlb
open Go.Abs.Short
def strsO (L:List Bs):AObj:=.cells 1 (L.map AVal.str)
theorem s217 {x:Int} {h:Heap}:xCall T 217 [.int .i64 x] h=some (.bool false,h):=by obtain ⟨os,b,w⟩:=h;simp (disch:=omega) [-getElem?_pos,-getElem?_neg,-List.all_eq_true,qZ,qS,nltT,nltF,iltT,iltF,ileT,nleT,di,bg t217,code217]
def cmpI (x y:Int):Int:=if x < y then -1 else if y < x then 1 else 0
section
attribute [-simp] getElem?_pos getElem?_neg List.all_eq_true
attribute [local simp] qZ qS nltT nltF iltT iltF ileT nleT di
theorem s638 {x y:Int} {h:Heap}:xCall T 638 [.int .i64 x,.int .i64 y] h=some (.int .i64 (cmpI x y),h):=by
 obtain ⟨os,b,w⟩:=h;have e:=fun x h=>s217 (x:=x) (h:=h)
 unfold cmpI;by_cases c:x < y
 ·simp (disch:=omega) [bg t638,code638,e,c]
 ·by_cases d:y < x
  ·simp (disch:=omega) [bg t638,code638,e,c,d]
  ·simp (disch:=omega) [bg t638,code638,e,c,d]
theorem s166 {n:Nat} (A:n≤12) {h:Heap}:∃ k:Int,xCall T 166 [.int .u64 n] h=some (.int .i64 k,h):=by
 obtain ⟨os,b,w⟩:=h
 have e:∀ m:Nat,m≤12→IntKind.u8.wrap (m:Int)=m:=fun m hm=>by
  have:m=0∨m=1∨m=2∨m=3∨m=4∨m=5∨m=6∨m=7∨m=8∨m=9∨m=10∨m=11∨m=12:=by omega
  rcases this with rfl | rfl | rfl | rfl | rfl | rfl | rfl | rfl | rfl | rfl | rfl | rfl | rfl <;> decide
 have hs:∃ y:UInt8,y.toNat≤4∧([0,1,2,2,3,3,3,3,4,4,4,4,4]:List UInt8)[n]? = some y:=by
  have:n=0∨n=1∨n=2∨n=3∨n=4∨n=5∨n=6∨n=7∨n=8∨n=9∨n=10∨n=11∨n=12:=by omega
  rcases this with rfl | rfl | rfl | rfl | rfl | rfl | rfl | rfl | rfl | rfl | rfl | rfl | rfl <;> exact ⟨_,by decide,rfl⟩
 have e:=e n A;obtain ⟨y,B,p⟩:=hs;refine ⟨(y.toNat:Int),?_⟩;have C:∀ X:List UInt8,(([0,1,2,2,3,3,3,3,4,4,4,4,4]:List UInt8)++X)[n]? = some y:=fun X=>by rw [ag (ah p)]; exact p
 have d:([0,1,2,2,3,3,3,3,4,4,4,4,4,4,4,4,5,5,5,5,5,5,5,5,5,5,5,5,5,5,5,5,6,6,6,6,6,6,6,6,6,6,6,6,6,6,6,6,6,6,6,6,6,6,6,6,6,6,6,6,6,6,6,6,7,7,7,7,7,7,7,7,7,7,7,7,7,7,7,7,7,7,7,7,7,7,7,7,7,7,7,7,7,7,7,7,7,7,7,7,7,7,7,7,7,7,7,7,7,7,7,7,7,7,7,7,7,7,7,7,7,7,7,7,7,7,7,7,8,8,8,8,8,8,8,8,8,8,8,8,8,8,8,8,8,8,8,8,8,8,8,8,8,8,8,8,8,8,8,8,8,8,8,8,8,8,8,8,8,8,8,8,8,8,8,8,8,8,8,8,8,8,8,8,8,8,8,8,8,8,8,8,8,8,8,8,8,8,8,8,8,8,8,8,8,8,8,8,8,8,8,8,8,8,8,8,8,8,8,8,8,8,8,8,8,8,8,8,8,8,8,8,8,8,8,8,8,8,8,8,8,8,8,8,8,8,8,8,8,8,8,8,8,8,8,8]:List UInt8)[n]? = some y:=C _
 generalize D:([0,1,2,2,3,3,3,3,4,4,4,4,4,4,4,4,5,5,5,5,5,5,5,5,5,5,5,5,5,5,5,5,6,6,6,6,6,6,6,6,6,6,6,6,6,6,6,6,6,6,6,6,6,6,6,6,6,6,6,6,6,6,6,6,7,7,7,7,7,7,7,7,7,7,7,7,7,7,7,7,7,7,7,7,7,7,7,7,7,7,7,7,7,7,7,7,7,7,7,7,7,7,7,7,7,7,7,7,7,7,7,7,7,7,7,7,7,7,7,7,7,7,7,7,7,7,7,7,8,8,8,8,8,8,8,8,8,8,8,8,8,8,8,8,8,8,8,8,8,8,8,8,8,8,8,8,8,8,8,8,8,8,8,8,8,8,8,8,8,8,8,8,8,8,8,8,8,8,8,8,8,8,8,8,8,8,8,8,8,8,8,8,8,8,8,8,8,8,8,8,8,8,8,8,8,8,8,8,8,8,8,8,8,8,8,8,8,8,8,8,8,8,8,8,8,8,8,8,8,8,8,8,8,8,8,8,8,8,8,8,8,8,8,8,8,8,8,8,8,8,8,8,8,8,8,8]:List UInt8)=XX at d;have j:n < XX.length:=ah d;have c1:¬ ((4294967296:Int)≤n):=by omega
 have c2:¬ ((65536:Int)≤n):=by omega
 have c3:¬ ((256:Int)≤n):=by omega
 simp (disch:=omega) [bg t166,code166,bg t200,code200,e,D,d,j,c1,c2,c3]
end
section
variable {H:List AObj} {b q n g:Nat} {am cm:List AVal} {f:Bs→Bs→Int} {c:Option Nat}
section
attribute [-simp] getElem?_pos getElem?_neg List.all_eq_true
attribute [local simp] qZ qS nltT nltF iltT iltF ileT nleT di
theorem l646a (U:b≤q) (e:q < H.length) (hn:n≤1000000)
  (hc:∀ (L:List Bs) (x y:Bs) (w:Nat),xCall T g (am ++ .str x :: .str y :: cm) ⟨H.set q (strsO L),b,w⟩=some (.int .i64 (f x y),⟨H.set q (strsO L),b,w⟩)) {i:Nat} :
  ∀ (j:Nat) (L:List Bs) (w:Nat),j < n→L.length=n→∃ L' w',L'.Perm L∧min w q≤w'∧w'≤w∧∀ {β:Type} (k:AExit→St→Option β),
  xK T (.loop code646L0) ⟨[(0,.val (.slice (some (q,0)) n c)),(1,.val (.int .i64 0)),(2,.val (.int .i64 n)),(3,.val (.func g am cm)),(8,.val (.int .i64 i)),(9,.val (.int .i64 j))],⟨H.set q (strsO L),b,w⟩⟩ (k:=⟨k⟩) =
   k (.exit 2) ⟨[(0,.val (.slice (some (q,0)) n c)),(1,.val (.int .i64 0)),(2,.val (.int .i64 n)),(3,.val (.func g am cm)),(8,.val (.int .i64 i))],⟨H.set q (strsO L'),b,w'⟩⟩
 | 0,L,w,hj,C=>by refine ⟨L,w,.refl _,cr _ _,aj _,fun k=>?_⟩;rw [b9];simp (disch:=omega) [code646L0]
 | j+1,L,w,hj,C=>by
  obtain ⟨x,hx⟩:∃ x,L[j+1]? = some x:=⟨_,ai (by omega)⟩;obtain ⟨y,V⟩:∃ y,L[j]? = some y:=⟨_,ai (by omega)⟩;have hg:∀ L,(H.set q (strsO L))[q]? = some (.cells 1 (L.map AVal.str)):=fun L=>bj e
  have gx:(L.map AVal.str)[j+1]? = some (.str x):=by rw [bp,hx]; rfl
  have gy:(L.map AVal.str)[j]? = some (.str y):=by rw [bp,V]; rfl
  have p:=fun w=>hc L x y w
  have ej:((j+1:Nat):Int)=(j:Int)+1:=by omega
  by_cases d:f x y < 0
  ·let O:=(L.set (j+1) y).set j x
   have hp:O.Perm L:=by
    have:=@List.set_set_perm _ L (j+1) j (by omega) (by omega);have e1:L[j+1]=x:=by rw [ai (by omega)] at hx; exact ce hx
    have e2:L[j]=y:=by rw [ai (by omega)] at V; exact ce V
    rw [e1,e2] at this;exact this
   obtain ⟨L',w',p1,p2,p3,p4⟩:=l646a (i:=i) U e hn hc j O (min (min w q) q) (by omega) (by rw [hp.length_eq]; exact C);refine ⟨L',w',p1.trans hp,by omega,by omega,fun k=>?_⟩;rw [b9,← p4 k];have A:(L.map AVal.str).length=n:=by rw [a7]; exact C
   have D:(L.map AVal.str).set (j+1) (.str y)=(L.set (j+1) y).map AVal.str:=by rw [List.map_set]
   have G:((L.set (j+1) y).map AVal.str).set j (.str x)=O.map AVal.str:=by rw [← List.map_set]
   rw [← lh _ (by rw [a7]; omega)] at D;rw [← lh _ (by rw [a7,az]; omega)] at G
   have J:AVal.idsL ((L.set (j+1) y).map AVal.str)=[]:=idsL_none fun v hv=>by obtain ⟨z,-,rfl⟩:=bt.1 hv;simp [AVal.ids]
   have N:((L.set (j+1) y).map AVal.str).length=n:=by rw [a7,az]; exact C
   have B:∀ o,(H.set q o)[q]? = some o:=fun o=>bj e
   have W:∀ o X,(H.set q o).set q X=H.set q X:=fun o X=>List.set_set ..
   generalize a0:O=M1 at *;rw [show ∀ M,strsO M = .cells 1 (M.map AVal.str) from fun _=>rfl] at p ⊢;rw [show ∀ M,strsO M = .cells 1 (M.map AVal.str) from fun _=>rfl];generalize (L.set (j+1) y).map AVal.str=Y1 at *;generalize L.map AVal.str=Y at *;generalize M1.map AVal.str=Y2 at *;generalize ACode.loop code646L0=LL;simp (disch:=omega) [-sget,zq,vj,zr,-ew,lq,lr,jf,code646L0,ex,benign,again,AVal.eqb,B,W,gx,gy,p,A,N,D,G,J,ej,d]
  ·refine ⟨L,w,.refl _,cr _ _,aj _,fun k=>?_⟩;rw [b9];have A:(L.map AVal.str).length=n:=by rw [a7]; exact C
   rw [show ∀ M,strsO M = .cells 1 (M.map AVal.str) from fun _=>rfl] at p ⊢;have B:∀ o,(H.set q o)[q]? = some o:=fun o=>bj e
   generalize L.map AVal.str=Y at *;generalize ACode.loop code646L0=LL;simp (disch:=omega) [code646L0,B,gx,gy,p,A,ej,d]
theorem l646b (e:b≤q) (j:q < H.length) (B:n≤1000000)
  (hc:∀ (L:List Bs) (x y:Bs) (w:Nat),xCall T g (am ++ .str x :: .str y :: cm) ⟨H.set q (strsO L),b,w⟩=some (.int .i64 (f x y),⟨H.set q (strsO L),b,w⟩)) :
  ∀ (d i:Nat) (L:List Bs) (w:Nat),i+d=n∨(n≤i∧d=0)→L.length=n→∃ L' w',L'.Perm L∧min w q≤w'∧w'≤w∧∀ {β:Type} (k:AExit→St→Option β),
  xK T (.loop code646L1) ⟨[(0,.val (.slice (some (q,0)) n c)),(1,.val (.int .i64 0)),(2,.val (.int .i64 n)),(3,.val (.func g am cm)),(8,.val (.int .i64 i))],⟨H.set q (strsO L),b,w⟩⟩ (k:=⟨k⟩) =
   k (.exit 0) ⟨[],⟨H.set q (strsO L'),b,w'⟩⟩
 | 0,i,L,w,hd,p=>by
  refine ⟨L,w,.refl _,cr _ _,aj _,fun k=>?_⟩;have:¬ ((i:Int) < n):=by omega
  rw [b9];simp (disch:=omega) [code646L1,this]
 | d+1,i,L,w,hd,p=>by
  obtain ⟨D,w1,C,V,W,G⟩:=l646a (c:=c) e j B hc (i:=i) i L w (by omega) p;obtain ⟨L',w',J,X,q3,N⟩:=l646b e j B hc d (i+1) D w1 (by omega) (by rw [C.length_eq]; exact p);refine ⟨L',w',J.trans C,by omega,by omega,fun k=>?_⟩;rw [b9,← N k];have O:((i+1:Nat):Int)=(i:Int)+1:=by omega
  rw [O];have A:(i:Int) < n:=by omega
  have U:i≤1000000:=by omega
  generalize ACode.loop code646L1=LL;simp (disch:=omega) [code646L1,G,A]
theorem s628 (A:b≤q) (B:q < H.length) {L:List Bs} (O:L.length≤12) (h0:L.length=n) (J:H[q]? = some (strsO L))
  (hc:∀ (L:List Bs) (x y:Bs) (w:Nat),xCall T g (am ++ .str x :: .str y :: cm) ⟨H.set q (strsO L),b,w⟩=some (.int .i64 (f x y),⟨H.set q (strsO L),b,w⟩)) :
  ∃ L',∃ C:Nat→Nat,L'.Perm L∧(∀ w,min w q≤C w∧C w≤w)∧∀ w,xCall T 628 [.slice (some (q,0)) n c,.func g am cm] ⟨H,b,w⟩=some (.tuple [],⟨H.set q (strsO L'),b,C w⟩):=by
 obtain ⟨L',w',N,U,V,p⟩:=l646b (c:=c) A B (by omega) hc (n - 1) 1 L H.length (by omega) h0;have hs:H.set q (strsO L)=H:=np J;rw [hs] at p;simp only [bf] at p;have W:(H.set q (strsO L')).length=H.length:=az;by_cases hw:w' < H.length
 ·have d:∀ w,xCall T 646 [.slice (some (q,0)) n c,.int .i64 0,.int .i64 n,.func g am cm] ⟨H,b,w⟩=some (.tuple [],⟨H.set q (strsO L'),b,min w w'⟩):=fun w=>by simp (disch:=omega) [bg t646,code646,p,hw]
  have e:∀ l w,xCall T 637 [.slice (some (q,0)) n c,.int .i64 0,.int .i64 n,.int .i64 l,.func g am cm] ⟨H,b,w⟩=some (.tuple [],⟨H.set q (strsO L'),b,min w w'⟩):=fun l w=>by
   have j:(n:Int)≤12:=by omega
   simp (disch:=omega) [bg t637,code637,b9,code637L0,d,j,hw]
  obtain ⟨k,D⟩:=s166 (n:=n) (h:=⟨H,b,H.length⟩) (by omega);refine ⟨L',fun w=>min w w',N,fun w=>by show min w q≤min w w'∧min w w'≤w; omega,fun w=>?_⟩;have G:IntKind.u64.wrap (n:Int)=n:=n9 (by omega);simp (disch:=omega) [bg t628,code628,e,D,G,hw]
 ·have d:∀ w,xCall T 646 [.slice (some (q,0)) n c,.int .i64 0,.int .i64 n,.func g am cm] ⟨H,b,w⟩=some (.tuple [],⟨H,b,w⟩):=fun w=>by simp (disch:=omega) [bg t646,code646,p,hw]
  have e:∀ l w,xCall T 637 [.slice (some (q,0)) n c,.int .i64 0,.int .i64 n,.int .i64 l,.func g am cm] ⟨H,b,w⟩=some (.tuple [],⟨H,b,w⟩):=fun l w=>by
   have j:(n:Int)≤12:=by omega
   simp (disch:=omega) [bg t637,code637,b9,code637L0,d,j,hw]
  obtain ⟨k,D⟩:=s166 (n:=n) (h:=⟨H,b,H.length⟩) (by omega);refine ⟨L,fun w=>w,.refl _,fun w=>by show min w q≤w∧w≤w; omega,fun w=>?_⟩;have G:IntKind.u64.wrap (n:Int)=n:=n9 (by omega);rw [hs];simp (disch:=omega) [bg t628,code628,e,D,G,hw]
theorem s628z {a:Option (Nat × Nat)} {g:Nat} {am cm:List AVal} {c:Option Nat} {w:Nat}:xCall T 628 [.slice a 0 c,.func g am cm] ⟨H,b,w⟩=some (.tuple [],⟨H,b,w⟩):=by
 have d:∀ w,xCall T 646 [.slice a 0 c,.int .i64 0,.int .i64 0,.func g am cm] ⟨H,b,w⟩=some (.tuple [],⟨H,b,w⟩):=fun w=>by simp (disch:=omega) [bg t646,code646,b9,code646L1]
 have e:∀ l w,xCall T 637 [.slice a 0 c,.int .i64 0,.int .i64 0,.int .i64 l,.func g am cm] ⟨H,b,w⟩=some (.tuple [],⟨H,b,w⟩):=fun l w=>by simp (disch:=omega) [bg t637,code637,b9,code637L0,d]
 obtain ⟨k,j⟩:=s166 (n:=0) (h:=⟨H,b,H.length⟩) (by omega);simp only [bf] at j;have p:IntKind.u64.wrap 0=0:=by decide
 simp (disch:=omega) [bg t628,code628,e,j,p]
end
end
end Go.Abs.AbsBlb

namespace Go.Abs
section
variable {E:Env} {T:Nat→Option AFunc}
def CallD (E:Env) (g:Nat) (args:List AVal) (h:Heap) (R:AVal→Heap→Prop):Prop :=
  ∀ f,E.gid f=some g→∀ (μ:MM) (w:World) (args':Array Value),VRels E μ args args'.toList→Rel E μ h w→CallsIn (F0 none) 0 E.P f args' w fun e w'=>∃ v h',R v h'∧Evol h h'∧Ends E μ w v h' e w'
def CodeD (E:Env) (c:ACode) (st:St) (Q:AExit→St→Prop):Prop :=
  ∀ (nt:Nat) (hint:Hint) (code:Code),co E nt false hint code=some c→(∀ p ∈ c.rounds,E.rnd p.1=some p.2)→∀ (lo:Nat) (μ0:MM) (w0:World) (ds:List Deferred) (a:Act) (w:World) (Qm:Exit→Act→World→Prop),At E lo nt μ0 w0 ds st.s st.h a w →
    (∀ e st',Q e st'→Evol st.h st'.h→∀ a' w',At E lo nt μ0 w0 ds st'.s st'.h a' w'→Qm e.toX a' w')→code.wpIn (F0 none) 0 E.P Qm a w
theorem CodeD.of_x (A:Agrees E T) (hm:E.P.follows .mixedOrders=true) {c:ACode} {st st':St} {e:AExit} {Q:AExit→St→Prop} (h:im T c st=some (e,st')) (B:Q e st'):CodeD E c st Q:=by intro nt hint code j p lo μ0 w0 ds a w C y D;obtain ⟨n,d⟩:=(dh T _ _ _).1 h;exact pu (oe A hm n) (ki T n) A.gid hm false (fun _=>rfl) n hint code c j (fun _=>p) st e st' d a w C y (D e st' B (nk (ki T n) n _ _ _ _ d))
theorem CodeD.of_wp (A:Agrees E T) (hm:E.P.follows .mixedOrders=true) {c:ACode} {st:St} {Q:AExit→St→Prop} (h:Wp T c st Q):CodeD E c st Q:=by intro nt hint code e j lo μ0 w0 ds a w C p D;obtain ⟨n,l,h1,_,G⟩:=h;exact zbd (oe A hm n) (ki T n) A.gid hm false (fun _=>rfl) n hint code c e (fun _=>j) st l h1 a w C p fun y B J w' d=>D y.1 y.2 (G y B) (yk (ki T n) n _ _ _ h1 y B) J w' d
theorem CodeD.mono {c:ACode} {st:St} {Q y:AExit→St→Prop} (h:CodeD E c st Q) (A:∀ e st',Q e st'→Evol st.h st'.h→y e st'):CodeD E c st y :=
  fun nt hint code d j lo μ0 w0 ds a w B p C=>h nt hint code d j lo μ0 w0 ds a w B p fun e st' h1 h2=>C e st' (A e st' h1 h2) h2
theorem inv_seq {nt:Nat} {hint:Hint} {code:Code} {a b:ACode} (h:co E nt false hint code=some (.seq a b)) (j:∀ d x,a ≠ .next d x):∃ ha hb x y,code = .seq x y∧co E nt false ha x=some a∧co E nt false hb y=some b:=by
  cases hint with
  | seq ha hb =>
    cases code <;> simp only [co,reduceCtorEq] at h
    rename_i x y;split at h
    · rename_i p q h1 h2; cases h; exact ⟨_,_,_,_,rfl,h1,h2⟩
    · cases h
  | next =>
    obtain ⟨d,y,r,e⟩:=l8 h;cases e;exact absurd rfl (j d y)
  | live l a=>simp only [co,ae] at h; obtain ⟨_,_,h⟩:=h; cases h
  | after a l=>simp only [co,ae] at h; obtain ⟨_,_,h⟩:=h; cases h
  | stuck=>simp only [co] at h; cases h
  | leaf=>cases code <;> simp only [co] at h <;> cases h
  | reg s l=>cases code <;> simp only [co,ae,reduceCtorEq] at h; obtain ⟨_,_,h⟩:=h; cases h
  | cond a b =>
    cases code <;> simp only [co,reduceCtorEq] at h
    split at h <;> cases h
  | block a=>cases code <;> simp only [co,ae,reduceCtorEq] at h; obtain ⟨_,_,h⟩:=h; cases h
  | loop a=>cases code <;> simp only [co,ae,reduceCtorEq] at h; obtain ⟨_,_,h⟩:=h; cases h
  | rangeFunc g c a b =>
    cases code <;> simp only [co,reduceCtorEq] at h
    split at h
    · split at h <;> cases h
    · cases h
theorem CodeD.seq {a b:ACode} {st:St} {Q:AExit→St→Prop} (D:∀ d x,a ≠ .next d x) (h:CodeD E a st fun e st'=>match e with | .normal=>CodeD E b st' Q | e=>Q e st'):CodeD E (.seq a b) st Q:=by
  intro nt hint code G B lo μ0 w0 ds t w W J L;obtain ⟨ha,hb,x,y,rfl,h1,h2⟩:=inv_seq G D;apply wpIn_seq;refine h nt ha x h1 (fun p N=>B p (by simp [ACode.rounds,N])) lo μ0 w0 ds t w _ J fun e st' O A X w' j=>?_
  cases e with
  | normal=>exact O nt hb y h2 (fun p N=>B p (by simp [ACode.rounds,N])) lo μ0 w0 ds X w' W j fun e2 U V C=>L e2 U V (A.trans C)
  | exit i=>exact L _ _ O A _ _ j
  | ret=>exact L _ _ O A _ _ j
theorem inv_block {nt:Nat} {hint:Hint} {code:Code} {id:Nat} {a:ACode} (h:co E nt false hint code=some (.block id a)):∃ ha x,code = .block id x∧co E nt false ha x=some a:=by
  cases hint with
  | block ha =>
    cases code <;> simp only [co,ae,reduceCtorEq] at h
    obtain ⟨_,h1,h⟩:=h; cases h; exact ⟨_,_,rfl,h1⟩
  | next=>obtain ⟨d,y,r,e⟩:=l8 h; cases e
  | live l a=>simp only [co,ae] at h; obtain ⟨_,_,h⟩:=h; cases h
  | after a l=>simp only [co,ae] at h; obtain ⟨_,_,h⟩:=h; cases h
  | stuck=>simp only [co] at h; cases h
  | leaf=>cases code <;> simp only [co] at h <;> cases h
  | reg s l=>cases code <;> simp only [co,ae,reduceCtorEq] at h; obtain ⟨_,_,h⟩:=h; cases h
  | seq a b =>
    cases code <;> simp only [co,reduceCtorEq] at h
    split at h <;> cases h
  | cond a b =>
    cases code <;> simp only [co,reduceCtorEq] at h
    split at h <;> cases h
  | loop a=>cases code <;> simp only [co,ae,reduceCtorEq] at h; obtain ⟨_,_,h⟩:=h; cases h
  | rangeFunc g c a b =>
    cases code <;> simp only [co,reduceCtorEq] at h
    split at h
    · split at h <;> cases h
    · cases h
theorem inv_loop {nt:Nat} {hint:Hint} {code:Code} {a:ACode} (h:co E nt false hint code=some (.loop a)):∃ ha x,code = .loop x∧co E nt false ha x=some a:=by
  cases hint with
  | loop ha =>
    cases code <;> simp only [co,ae,reduceCtorEq] at h
    obtain ⟨_,h1,h⟩:=h; cases h; exact ⟨_,_,rfl,h1⟩
  | next=>obtain ⟨d,y,r,e⟩:=l8 h; cases e
  | live l a=>simp only [co,ae] at h; obtain ⟨_,_,h⟩:=h; cases h
  | after a l=>simp only [co,ae] at h; obtain ⟨_,_,h⟩:=h; cases h
  | stuck=>simp only [co] at h; cases h
  | leaf=>cases code <;> simp only [co] at h <;> cases h
  | reg s l=>cases code <;> simp only [co,ae,reduceCtorEq] at h; obtain ⟨_,_,h⟩:=h; cases h
  | seq a b =>
    cases code <;> simp only [co,reduceCtorEq] at h
    split at h <;> cases h
  | cond a b =>
    cases code <;> simp only [co,reduceCtorEq] at h
    split at h <;> cases h
  | block a=>cases code <;> simp only [co,ae,reduceCtorEq] at h; obtain ⟨_,_,h⟩:=h; cases h
  | rangeFunc g c a b =>
    cases code <;> simp only [co,reduceCtorEq] at h
    split at h
    · split at h <;> cases h
    · cases h
theorem inv_live {nt:Nat} {hint:Hint} {code:Code} {l:List Nat} {a:ACode} (h:co E nt false hint code=some (.live l a)):∃ ha,co E nt false ha code=some a:=by
  cases hint with
  | live l a=>simp only [co,ae] at h; obtain ⟨_,h1,h⟩:=h; cases h; exact ⟨_,h1⟩
  | next=>obtain ⟨d,y,r,e⟩:=l8 h; cases e
  | after a l=>simp only [co,ae] at h; obtain ⟨_,_,h⟩:=h; cases h
  | stuck=>simp only [co] at h; cases h
  | leaf=>cases code <;> simp only [co] at h <;> cases h
  | reg s l=>cases code <;> simp only [co,ae,reduceCtorEq] at h; obtain ⟨_,_,h⟩:=h; cases h
  | seq a b =>
    cases code <;> simp only [co,reduceCtorEq] at h
    split at h <;> cases h
  | cond a b =>
    cases code <;> simp only [co,reduceCtorEq] at h
    split at h <;> cases h
  | block a=>cases code <;> simp only [co,ae,reduceCtorEq] at h; obtain ⟨_,_,h⟩:=h; cases h
  | loop a=>cases code <;> simp only [co,ae,reduceCtorEq] at h; obtain ⟨_,_,h⟩:=h; cases h
  | rangeFunc g c a b =>
    cases code <;> simp only [co,reduceCtorEq] at h
    split at h
    · split at h <;> cases h
    · cases h
theorem inv_after {nt:Nat} {hint:Hint} {code:Code} {l:List Nat} {a:ACode} (h:co E nt false hint code=some (.after a l)):∃ ha,co E nt false ha code=some a:=by
  cases hint with
  | after a l=>simp only [co,ae] at h; obtain ⟨_,h1,h⟩:=h; cases h; exact ⟨_,h1⟩
  | next=>obtain ⟨d,y,r,e⟩:=l8 h; cases e
  | live l a=>simp only [co,ae] at h; obtain ⟨_,_,h⟩:=h; cases h
  | stuck=>simp only [co] at h; cases h
  | leaf=>cases code <;> simp only [co] at h <;> cases h
  | reg s l=>cases code <;> simp only [co,ae,reduceCtorEq] at h; obtain ⟨_,_,h⟩:=h; cases h
  | seq a b =>
    cases code <;> simp only [co,reduceCtorEq] at h
    split at h <;> cases h
  | cond a b =>
    cases code <;> simp only [co,reduceCtorEq] at h
    split at h <;> cases h
  | block a=>cases code <;> simp only [co,ae,reduceCtorEq] at h; obtain ⟨_,_,h⟩:=h; cases h
  | loop a=>cases code <;> simp only [co,ae,reduceCtorEq] at h; obtain ⟨_,_,h⟩:=h; cases h
  | rangeFunc g c a b =>
    cases code <;> simp only [co,reduceCtorEq] at h
    split at h
    · split at h <;> cases h
    · cases h
theorem CodeD.block {id:Nat} {c:ACode} {st:St} {Q:AExit→St→Prop} (h:CodeD E c st fun e st'=>Q (blkE id e) st'):CodeD E (.block id c) st Q:=by
  intro nt hint code p y lo μ0 w0 ds u w L A D;obtain ⟨ha,x,rfl,h1⟩:=inv_block p;apply wpIn_block;refine h nt ha x h1 y lo μ0 w0 ds u w _ A fun e st' G B J w' d=>?_
  have:=D _ _ G B J w' d;cases e with
  | normal=>exact this
  | ret=>exact this
  | exit j =>
    simp only [AExit.toX,Exit.inBlock];simp only [blkE] at this;split
    · rename_i C; rw [if_pos C] at this; exact this
    · rename_i C; rw [if_neg C] at this; exact this
theorem CodeD.live {l:List Nat} {c:ACode} {st:St} {Q:AExit→St→Prop} (h:CodeD E c ⟨keepK l st.s,st.h⟩ Q):CodeD E (.live l c) st Q:=by rw [pr] at h;intro nt hint code d e lo μ0 w0 ds u w p j y;obtain ⟨ha,h1⟩:=inv_live d;exact h nt ha code h1 e lo μ0 w0 ds u w p (j.keep l) y
theorem CodeD.after {l:List Nat} {c:ACode} {st:St} {Q:AExit→St→Prop} (h:CodeD E c st fun e st'=>match e with | .normal=>Q .normal ⟨keepK l st'.s,st'.h⟩ | e=>Q e st'):CodeD E (.after c l) st Q:=by
  intro nt hint code y A lo μ0 w0 ds u w D B C;obtain ⟨ha,h1⟩:=inv_after y;refine h nt ha code h1 A lo μ0 w0 ds u w _ B fun e st' p j G w' d=>?_
  cases e with
  | normal =>
    simp only at p;rw [pr] at p;exact C _ _ p j _ _ (d.keep l)
  | exit i=>exact C _ _ p j _ _ d
  | ret=>exact C _ _ p j _ _ d
theorem CodeD.loop {c:ACode} {Q:AExit→St→Prop} (Inv:Nat→St→Prop) (step:∀ k st,Inv k st→CodeD E c st fun e st'=>match e with | .normal=>∃ j,j < k∧Inv j st' | e=>Q e st') (k:Nat) (st:St) (h0:Inv k st):CodeD E (.loop c) st Q:=by
  intro nt hint code C D lo μ0 w0 ds u w U G O;obtain ⟨ha,x,rfl,h1⟩:=inv_loop C
  have key:∀ (n k:Nat) (d:St) (a:Act) (w:World),k < n→Inv k d→Evol st.h d.h→At E lo nt μ0 w0 ds d.s d.h a w→Code.roundsIn (F0 none) 0 E.P x U n a w:=by
    intro n;induction n with
    | zero=>intro k d a w V; omega
    | succ n ih =>
      intro k d a w V hi A B;rw [roundsIn_succ];refine step k d hi nt ha x h1 D lo μ0 w0 ds a w _ B fun e J L p W w' y=>?_
      cases e with
      | normal =>
        obtain ⟨j,X,N⟩:=L;exact ih j J W w' (by omega) N (A.trans p) y
      | exit i=>exact O _ _ L (A.trans p) _ _ y
      | ret=>exact O _ _ L (A.trans p) _ _ y
  exact wpIn_loop_rounds (k+1) (key (k+1) k st u w (by omega) h0 (Evol.refl _) G)
inductive OpsD (E:Env) (T:Nat→Option AFunc) (K:Slots→Heap→Prop):List AOper→Slots→Heap→Prop
  | done {s:Slots} {h:Heap}:K s h→OpsD E T K [] s h
  | op {o:AOper} {r:List AOper} {s s1:Slots} {h h1:Heap}:dy (xCall T) o s h=some (s1,h1)→OpsD E T K r s1 h1→OpsD E T K (o :: r) s h
  | call {o:AOper} {r:List AOper} {s:Slots} {h:Heap} {g:Nat} {xs:List Opd} {vs:List AVal} {R:AVal→Heap→Prop}:o.guard=none→o.op = .callg g xs→evs s xs=some vs→CallD E g vs h R→(∀ v h',R v h'→OpsD E T K r (a9 o.dst (.val v) s) h')→OpsD E T K (o :: r) s h
  | callv {o:AOper} {r:List AOper} {s:Slots} {h:Heap} {g:Nat} {x:Opd} {xs:List Opd} {first caps vs:List AVal} {R:AVal→Heap→Prop}:o.guard=none→o.op = .call x xs→x.ev s=some (.func g first caps)→evs s xs=some vs→CallD E g (first++vs++caps) h R→(∀ v h',R v h'→OpsD E T K r (a9 o.dst (.val v) s) h')→OpsD E T K (o :: r) s h
  | noZero {o:AOper} {r:List AOper} {s:Slots} {h:Heap} {x:Opd} {n:Nat}:o.guard=none→o.op = .ext (.pure (.prim .noZero)) [x]→x.ev s=some (.int .i64 n)→n≤140737488355328 →
      (∀ bs:List UInt8,bs.length=n→OpsD E T K r (a9 o.dst (.val (.slice (some (h.size,0)) n none)) s) (h.push (.cells 1 (bs.map fun b=>.int .u8 b.toNat))))→OpsD E T K (o :: r) s h
theorem OpsD.ops {K:Slots→Heap→Prop}:∀ {l r:List AOper} {s s1:Slots} {h h1:Heap},evOps (xCall T) l s h=some (s1,h1)→OpsD E T K r s1 h1→OpsD E T K (l++r) s h
  | [],r,s,s1,h,h1,e,k=>by simp only [evOps] at e; cases e; exact k
  | o :: l,r,s,s1,h,h1,e,k=>by
    simp only [evOps] at e;split at e;case h_2=>cases e
    rename_i j h2 d;exact .op d (OpsD.ops e k)
section
variable {lo nt:Nat} {μ0:MM} {w0:World} {ds:List Deferred} {s:Slots} {h:Heap} {a:Act} {w:World} {ops:Array Oper} {Q:Exit→Act→World→Prop}
theorem run_soundD (hg:GidOK E) {loc:Bool} {o:Oper} {O:AOper} {g:Nat} {xs:List Opd} {vs:List AVal} {R:AVal→Heap→Prop} (A:kr E nt ops loc o=some O) (p:O.op = .callg g xs) (V:O.guard=none) (W:evs s xs=some vs) (X:CallD E g vs h R)
    (a0:At E lo nt μ0 w0 ds s h a w) {next:Act→World→Prop} (hn:∀ v h',R v h'→Evol h h'→∀ a' w',At E lo nt μ0 w0 ds (a9 O.dst (.val v) s) h' a' w'→next a' w') :
    if Region.wanted o (yielded ops a.tmps) then o.wpIn (F0 none) 0 E.P a w next Q else next (a.put o.dst Go.undef) w:=by
  unfold kr at A;split at A;case isFalse=>cases A
  rename_i U;simp only [bc,c9,ep] at U;have hd:∀ t,o.dst=some t→t < nt:=fun t ht=>by have:=U.1; rw [ht] at this; simpa using this
  split at A
  case h_2 =>
    exfalso;split at A;case h_2=>cases A
    cases A;cases V
  rename_i a6;cases A;have hw:Region.wanted o (yielded ops a.tmps)=true:=by simp [Region.wanted,a6]
  rw [if_pos hw];simp only at p hn
  have d:cOp E loc o.op=some (.callg g xs):=by
    cases G:cOp E loc o.op with
    | some ao=>rw [cOpS,G] at p; simpa using p
    | none=>rw [cOpS,G] at p; simp at p
  obtain ⟨μ,ν,k1,k2,k3,k4,k5,k6⟩:=a0;have aa:∀ c,o.op ≠ .defer c:=fun c ac=>by rw [ac] at d; simp [cOp] at d
  refine ⟨fun _ _=>trivial,?_⟩;rw [Oper.semAt_eq _ _ _ aa]
  have B:∃ c,o.op = .call c∧cCall E c=some (.callg g xs):=by
    cases ho:o.op with
    | call c=>exact ⟨c,rfl,by rw [ho] at d; simpa only [cOp] using d⟩
    | makeFunc fn x1 x2 =>
      rw [ho] at d;exfalso;cases fn <;> simp only [cOp] at d <;> (try (cases d; done))
      split at d <;> cases d
    | makeMap t hint =>
      rw [ho] at d;exfalso
      cases hint with
         | none=>simp [cOp] at d
         | some y =>
           cases y with
           | const v=>cases v <;> simp only [cOp] at d <;> first | (cases d; done) | (split at d <;> cases d)
           | _=>simp [cOp] at d
    | _ =>
      rw [ho] at d;exfalso;simp only [cOp,cBin,cConv,cEq] at d;repeat' split at d
      all_goals first
        | (cases d; done)
        | (rw [ae] at d; obtain ⟨_,_,d⟩:=d; first | (cases d; done) | (split at d <;> cases d))
  obtain ⟨c,B,j⟩:=B;unfold cCall at j;split at j
  · rename_i f J
    split at j
    case h_2 =>
      exfalso;rw [ae] at j;obtain ⟨_,_,j⟩:=j;cases j
    case h_3=>cases j
    rename_i g' aZ L ad;cases j;have D:=jr k3 ad W
    have N:(execOp a.eval o).run E.P w = .ok (.enter f (c.args.map a.eval)) w:=by have:=jd hg L (c.args.map a.eval) w;simp [execOp,B,resolve,J,Act.eval,Deferred.ofValue,invoke,this]
    rw [N,Oper.uponIn_enter];refine ⟨fun U=>by simp [F0,Fence.wide] at U,?_⟩;refine CallsIn.mono (F:=F0 none) (n:=0) (X f L μ w (c.args.map a.eval) (by simpa using D) k2) fun e w' he=>?_
    obtain ⟨v,h',hR,C,v',μ',rfl,j1,j2,j3⟩:=he;refine hn v h' hR C _ _ ⟨μ',ν,?_,j3,?_,by rw [nu]; exact k4,by rw [li]; exact k5,de k6 j1.size⟩
    · exact k1.trans (j1.weaken (aj _) fun b hb _=>hb.elim) C.wmin
    · rw [ig]
      exact ((k3.step j1 fun b _ hb=>hb).setVal (fun y hy=>by rw [k4]; exact hd y hy) j2).congr fun t=>ir _ _ _ _
  · exfalso
    split at j;case h_2=>cases j
    cases j
  · exfalso
    repeat' split at j
    all_goals first
      | (cases j; done)
      | (rw [ae] at j; obtain ⟨_,_,j⟩:=j; cases j)
  · cases j
theorem run_soundV (hg:GidOK E) {loc:Bool} {o:Oper} {U:AOper} {g:Nat} {x:Opd} {xs:List Opd} {first caps vs:List AVal} {R:AVal→Heap→Prop} (A:kr E nt ops loc o=some U) (p:U.op = .call x xs) (W:U.guard=none) (X:x.ev s=some (.func g first caps)) (a0:evs s xs=some vs) (a6:CallD E g (first++vs++caps) h R)
    (aa:At E lo nt μ0 w0 ds s h a w) {next:Act→World→Prop} (hn:∀ v h',R v h'→Evol h h'→∀ a' w',At E lo nt μ0 w0 ds (a9 U.dst (.val v) s) h' a' w'→next a' w') :
    if Region.wanted o (yielded ops a.tmps) then o.wpIn (F0 none) 0 E.P a w next Q else next (a.put o.dst Go.undef) w:=by
  unfold kr at A;split at A;case isFalse=>cases A
  rename_i V;simp only [bc,c9,ep] at V;have hd:∀ t,o.dst=some t→t < nt:=fun t ht=>by have:=V.1; rw [ht] at this; simpa using this
  split at A
  case h_2 =>
    exfalso;split at A;case h_2=>cases A
    cases A;cases W
  rename_i ac;cases A;have hw:Region.wanted o (yielded ops a.tmps)=true:=by simp [Region.wanted,ac]
  rw [if_pos hw];simp only at p hn
  have d:cOp E loc o.op=some (.call x xs):=by
    cases G:cOp E loc o.op with
    | some ao=>rw [cOpS,G] at p; simpa using p
    | none=>rw [cOpS,G] at p; simp at p
  obtain ⟨μ,ν,k1,k2,k3,k4,k5,k6⟩:=aa;have ad:∀ c,o.op ≠ .defer c:=fun c al=>by rw [al] at d; simp [cOp] at d
  refine ⟨fun _ _=>trivial,?_⟩;rw [Oper.semAt_eq _ _ _ ad]
  have B:∃ c,o.op = .call c∧cCall E c=some (.call x xs):=by
    cases ho:o.op with
    | call c=>exact ⟨c,rfl,by rw [ho] at d; simpa only [cOp] using d⟩
    | makeFunc fn x1 x2 =>
      rw [ho] at d;exfalso;cases fn <;> simp only [cOp] at d <;> (try (cases d; done))
      split at d <;> cases d
    | makeMap t hint =>
      rw [ho] at d;exfalso
      cases hint with
         | none=>simp [cOp] at d
         | some y =>
           cases y with
           | const v=>cases v <;> simp only [cOp] at d <;> first | (cases d; done) | (split at d <;> cases d)
           | _=>simp [cOp] at d
    | _ =>
      rw [ho] at d;exfalso;simp only [cOp,cBin,cConv,cEq] at d;repeat' split at d
      all_goals first
        | (cases d; done)
        | (rw [ae] at d; obtain ⟨_,_,d⟩:=d; first | (cases d; done) | (split at d <;> cases d))
  obtain ⟨c,B,j⟩:=B;unfold cCall at j;split at j
  · exfalso
    split at j
    case h_2 =>
      rw [ae] at j;obtain ⟨_,_,j⟩:=j;cases j
    case h_3=>cases j
    cases j
  · rename_i y ax J
    split at j;case h_2=>cases j
    rename_i y' aZ hy an;cases j;have D:=jr k3 an a0;have L:=cd k3 hy X;simp only [VRel] at L;obtain ⟨N,f',c',q1,q2,q3,q4⟩:=L
    have O:(execOp a.eval o).run E.P w = .ok (.enter N (f'++c.args.map a.eval++c')) w:=by have:=jd hg q2 (f'++(c.args.map a.eval++c')) w;simp [execOp,B,resolve,J,q1,Deferred.ofValue,invoke,this]
    rw [O,Oper.uponIn_enter];refine ⟨fun V=>by simp [F0,Fence.wide] at V,?_⟩;refine CallsIn.mono (F:=F0 none) (n:=0) (a6 N q2 μ w (f'++c.args.map a.eval++c') (by simpa using (q3.append D).append q4) k2) fun e w' he=>?_
    obtain ⟨v,h',hR,C,v',μ',rfl,j1,j2,j3⟩:=he;refine hn v h' hR C _ _ ⟨μ',ν,?_,j3,?_,by rw [nu]; exact k4,by rw [li]; exact k5,de k6 j1.size⟩
    · exact k1.trans (j1.weaken (aj _) fun b hb _=>hb.elim) C.wmin
    · rw [ig]
      exact ((k3.step j1 fun b _ hb=>hb).setVal (fun y hy=>by rw [k4]; exact hd y hy) j2).congr fun t=>ir _ _ _ _
  · exfalso
    repeat' split at j
    all_goals first
      | (cases j; done)
      | (rw [ae] at j; obtain ⟨_,_,j⟩:=j; cases j)
  · cases j
theorem mnz_find {fn:Func} (h:fn.name = "internal/bytealg.MakeNoZero"):Extern.find fn=some (Extern.BytealgMakeNoZero.makeNoZero fn.params fn.resultTypes):=by
  have h1:Extern.allGenericRows.lookup "internal/bytealg.MakeNoZero" = none:=by kernel_rfl
  have h2:Extern.allTypedRows.lookup "internal/bytealg.MakeNoZero" = some Extern.BytealgMakeNoZero.makeNoZero:=by kernel_rfl
  unfold Extern.find;simp only [h,h1,h2];rfl
theorem mnz_next {fn:Func} (h:fn.name = "internal/bytealg.MakeNoZero") (ho:fn.origin = ""):Extern.findNext fn=none:=by
  have h1:Extern.allNextRows.lookup "internal/bytealg.MakeNoZero" = none:=by kernel_rfl
  have d:Extern.allNextRows.lookup "" = none:=by kernel_rfl
  unfold Extern.findNext;simp only [h,ho,h1,d];rfl
theorem zt:∀ (n t:Nat) (d:Array Value),∃ ds:List UInt8,ds.length=n∧(Extern.BytealgMakeNoZero.digits n t d).toList=d.toList++ds.map fun b=>.int .u8 b.toNat
  | 0,_,d=>⟨[],rfl,by simp [Extern.BytealgMakeNoZero.digits]⟩
  | n+1,t,d=>by
    obtain ⟨ds,h1,h2⟩:=zt n (t / 256) (d.push (.int .u8 (Int.ofNat (t % 256))));refine ⟨UInt8.ofNat (t % 256) :: ds,by simp [h1],?_⟩;rw [Extern.BytealgMakeNoZero.digits,h2];have:(UInt8.ofNat (t % 256)).toNat=t % 256:=by simp
    simp [this]
theorem run_mnz {P:Program} (w:World) (ps:Array TypeId) (t e:TypeId) (j:P.underlying t=some (.slice e)) (n:Nat) (p:n≤281474976710656) :
    ∃ (cs:Array Value) (ds:List UInt8),(Extern.BytealgMakeNoZero.makeNoZero ps #[t] #[.int .i64 n]).run P w = .ok (.slice (some ⟨w.heap.size,0,none⟩) n cs.size) (w.drew.drew.alloc (.cells cs e))∧n≤cs.size∧(n≤maxLen→cs.size≤maxLen)∧cs.toList=ds.map fun b=>.int .u8 b.toNat:=by
  have d:Extern.BytealgMakeNoZero.makeNoZero ps #[t] #[.int .i64 n] =
      (do
        let .slice elem ← underlying t | stuck "bytealg.MakeNoZero: slice type expected"
        if (n:Int) < 0 || (n:Int) > 2 ^ 48 then runtimePanic (.error "makeslice: len out of range")
        let cap ← choose (.appendCap (n:Int).toNat 0 elem)
        askRoom cap
        let bytes ← choose (.extern "internal/bytealg.MakeNoZero.bytes" 0)
        let a ← newRow elem (Extern.BytealgMakeNoZero.digits cap bytes #[])
        pure (.slice (some a) (n:Int).toNat cap)):=rfl
  obtain ⟨ds,h1,h2⟩:=zt (grownCap w n 0 e) ((Question.extern "internal/bytealg.MakeNoZero.bytes" 0).cut (w.tape (w.drawn+1) (.extern "internal/bytealg.MakeNoZero.bytes" 0))) #[];refine ⟨Extern.BytealgMakeNoZero.digits (grownCap w n 0 e) ((Question.extern "internal/bytealg.MakeNoZero.bytes" 0).cut (w.tape (w.drawn+1) (.extern "internal/bytealg.MakeNoZero.bytes" 0))) #[],ds,?_,?_,?_,by simpa using h2⟩
  · rw [d]
    have h1:¬ (n:Int) < 0:=by omega
    have h2:¬ (281474976710656:Int) < (n:Int):=by omega
    simp [run_underlying j,h1,h2,Question.forced,newRow,Lib.size_digits,grownCap]
  · rw [Lib.size_digits]
    simpa using grownCap_ge w n 0 e
  · intro hm
    rw [Lib.size_digits];simpa using grownCap_le_maxLen w n 0 e hm
theorem run_noZero {loc:Bool} {o:Oper} {o':AOper} {x:Opd} {n:Nat} (C:kr E nt ops loc o=some o') (p:o'.op = .ext (.pure (.prim .noZero)) [x]) (ac:o'.guard=none) (hx:x.ev s=some (.int .i64 n)) (cy:n≤140737488355328)
    (ad:At E lo nt μ0 w0 ds s h a w) {next:Act→World→Prop} (hn:∀ bs:List UInt8,bs.length=n→Evol h (h.push (.cells 1 (bs.map fun b=>.int .u8 b.toNat)))→∀ V w',At E lo nt μ0 w0 ds (a9 o'.dst (.val (.slice (some (h.size,0)) n none)) s) (h.push (.cells 1 (bs.map fun b=>.int .u8 b.toNat))) V w'→next V w') :
    if Region.wanted o (yielded ops a.tmps) then o.wpIn (F0 none) 0 E.P a w next Q else next (a.put o.dst Go.undef) w:=by
  unfold kr at C;split at C;case isFalse=>cases C
  rename_i hh;simp only [bc,c9,ep] at hh;have hd:∀ t,o.dst=some t→t < nt:=fun t ht=>by have:=hh.1; rw [ht] at this; simpa using this
  split at C
  case h_2 =>
    exfalso;split at C;case h_2=>cases C
    cases C;cases ac
  rename_i al;cases C;have hw:Region.wanted o (yielded ops a.tmps)=true:=by simp [Region.wanted,al]
  rw [if_pos hw];simp only at p hn
  have d:cOp E loc o.op=some (.ext (.pure (.prim .noZero)) [x]):=by
    cases W:cOp E loc o.op with
    | some ao=>rw [cOpS,W] at p; simpa using p
    | none=>rw [cOpS,W] at p; simp at p
  obtain ⟨μ,ν,k1,k2,k3,k4,k5,k6⟩:=ad;have an:∀ c,o.op ≠ .defer c:=fun c ax=>by rw [ax] at d; simp [cOp] at d
  refine ⟨fun _ _=>trivial,?_⟩;rw [Oper.semAt_eq _ _ _ an]
  have L:∃ c,o.op = .call c∧cCall E c=some (.ext (.pure (.prim .noZero)) [x]):=by
    cases ho:o.op with
    | call c=>exact ⟨c,rfl,by rw [ho] at d; simpa only [cOp] using d⟩
    | makeFunc fn x1 x2 =>
      rw [ho] at d;exfalso;cases fn <;> simp only [cOp] at d <;> (try (cases d; done))
      split at d <;> cases d
    | makeMap t hint =>
      rw [ho] at d;exfalso
      cases hint with
         | none=>simp [cOp] at d
         | some y =>
           cases y with
           | const v=>cases v <;> simp only [cOp] at d <;> first | (cases d; done) | (split at d <;> cases d)
           | _=>simp [cOp] at d
    | _ =>
      rw [ho] at d;exfalso;simp only [cOp,cBin,cConv,cEq] at d;repeat' split at d
      all_goals first
        | (cases d; done)
        | (rw [ae] at d; obtain ⟨_,_,d⟩:=d; first | (cases d; done) | (split at d <;> cases d))
  obtain ⟨c,L,j⟩:=L;unfold cCall at j;split at j
  · rename_i f X
    split at j;case h_1=>exfalso; cases j
    case h_3=>cases j
    rename_i aZ d6 ay;rw [ae] at j;obtain ⟨k,D,j⟩:=j;cases j;have b5:evs s [x]=some [.int .i64 n]:=by unfold evs; rw [hx]; rfl
    have B:=jr k3 ay b5;unfold primOf at D;split at D;case h_2=>cases D
    rename_i fn b6;split at D;case isFalse=>cases D
    rename_i a0;split at D
    · cases D
    split at D
    · cases D
    split at D;case isFalse=>cases D
    rename_i b7;obtain ⟨G,A⟩:=b7;unfold isRow at A;split at A;case h_2=>cases A
    rename_i t ht;split at A;case h_2=>cases A
    rename_i e bb;simp only [bc,decide_eq_true_eq] at A
    have bm:fn.resultTypes = #[t]:=by
      have h1:=A.2;apply Array.ext
      · simpa using h1
      · intro i h2 h3
        simp at h3;subst h3;rw [lf (by omega)] at ht;simpa using ce ht
    have bx:(fn.name == "runtime.NumGoroutine")=false:=by rw [G]; decide
    simp only [VRels,VRel] at B;obtain ⟨v1,vr,e1,c4,c5⟩:=B;subst c4
    have B:c.args.map a.eval = #[.int .i64 n]:=by apply Array.ext';simp only [Array.toList_map];rw [e1,c5]
    have J:(execOp a.eval o).run E.P w=(callFunc f (c.args.map a.eval)).run E.P w:=by simp [execOp,L,resolve,X,Act.eval,Deferred.ofValue,invoke]
    obtain ⟨cs,U,q1,q2,q3,q4⟩:=run_mnz (P:=E.P) w fn.params t e bb n (by omega);have ci:cs.size≤9223372036854775807:=q3 (by unfold maxLen; omega);have d8:cs.size=U.length:=by have:=congrArg List.length q4; simpa using this
    rw [B,run_callFunc_extern b6 bx a0.1 (mnz_next G a0.2) (mnz_find G),bm,q1] at J;have a6:h.size=μ.length:=k2.len.symm
    have O:OpDone E lo ν.ds μ w a o.dst ((execOp a.eval o).run E.P w) (.val (.slice (some (h.size,0)) n none)) s (h.push (.cells 1 ((U.take n).map fun b=>.int .u8 b.toNat))):=by
      rw [a6];refine lw k3 k2 (fun y hy=>by rw [k4]; exact hd y hy) _ (.cells cs e) ⟨w.heap.size,0,cs.size,1⟩ rfl J rfl rfl rfl rfl ?_ (ol rfl q2 (fun k D=>by cases D) (by simp) ci);refine ⟨⟨w.heap.size,0,cs.size,1⟩,cs,e,(0,0),by simp,rfl,by simp,rfl,by simp; omega,fun k v D=>?_,fun _=>⟨aj _,fun off _=>by simp⟩⟩;simp only [bp,ae] at D;obtain ⟨b,N,rfl⟩:=D;refine ⟨rfl,.int .u8 b.toNat,?_,by simp only [VRel]⟩
      have cp:U[k]? = some b:=by
        rw [eo] at N;split at N
        · exact N
        · cases N
      rw [dq,← lm,q4,bp,cp]; rfl
    obtain ⟨v,w1,μ',ν',d1,d2,d3,d4,d5⟩:=O;have cv:(U.take n).length=n:=by rw [db]; omega
    have aa:=Evol.push h (.cells 1 ((U.take n).map fun b=>.int .u8 b.toNat));have cx:∀ V w',At E lo nt μ0 w0 ds (a9 o.dst (.val (.slice (some (h.size,0)) n none)) s) (h.push (.cells 1 ((U.take n).map fun b=>.int .u8 b.toNat))) V w'→next V w':=hn _ cv aa
    rcases d2 with d2 | ⟨rfl,d2⟩
    · rw [d2,Oper.uponIn_value]
      refine cx _ _ ⟨μ',ν',?_,d4,?_,by rw [nu]; exact k4,by rw [li,d1]; exact k5,de k6 d3.size⟩
      · exact k1.trans d3 aa.wmin
      · rw [ig] at d5 ⊢
        exact d5.congr fun t=>ir _ _ _ _
    · rw [d2] at J
      cases J
  · exfalso
    split at j;case h_2=>cases j
    cases j
  · exfalso
    repeat' split at j
    all_goals first
      | (cases j; done)
      | (rw [ae] at j; obtain ⟨_,_,j⟩:=j; cases j)
  · cases j
theorem opD_sound (B:Agrees E T) (hm:E.P.follows .mixedOrders=true) {loc:Bool} {o:Oper} {J:AOper} {r:List AOper} {K:Slots→Heap→Prop} (d:kr E nt ops loc o=some J) (D:OpsD E T K (J :: r) s h)
    (j:At E lo nt μ0 w0 ds s h a w) {next:Act→World→Prop} (C:∀ s1 h1,OpsD E T K r s1 h1→Evol h h1→∀ L w',At E lo nt μ0 w0 ds s1 h1 L w'→next L w') :
    if Region.wanted o (yielded ops a.tmps) then o.wpIn (F0 none) 0 E.P a w next Q else next (a.put o.dst Go.undef) w:=by
  cases D with
  | op e k =>
    obtain ⟨n,e⟩:=pt T e;exact pz (oe B hm n) (ki T n) B.gid d e j (C _ _ k (me (ki T n) e))
  | call h1 h2 p y A=>exact run_soundD B.gid d h2 h1 p y j fun v h' G=>C _ _ (A v h' G)
  | callv h1 h2 p y A N=>exact run_soundV B.gid d h2 h1 p y A j fun v h' G=>C _ _ (N v h' G)
  | noZero h1 h2 p y A=>exact run_noZero d h2 h1 p y j fun bs hb=>C _ _ (A bs hb)
theorem zb3 (G:Agrees E T) (hm:E.P.follows .mixedOrders=true) {y:List Nat} {K:Slots→Heap→Prop} {h0:Heap} (J:∀ L h',K L h'→Evol h0 h'→∀ B w',At E lo nt μ0 w0 ds L h' B w'→Q .normal B w'):∀ (l:List Oper) (i:Nat) (aZ:List AOper) (s:Slots) (h:Heap) (a:Act) (w:World),
    ops.toList.drop i=l→ll E nt ops y i l=some aZ→OpsD E T K aZ s h→Evol h0 h→At E lo nt μ0 w0 ds s h a w→wpOpsIn (F0 none) 0 E.P ops Q (List.range' i l.length) a w
  | [],i,aZ,s,h,a,w,_,d,j,h0,p=>by
    simp only [ll] at d; cases d;cases j with
    | done k=>exact J _ _ k h0 _ _ p
  | o :: l,i,aZ,s,h,a,w,hd,d,j,h0,p=>by
    simp only [ll] at d;split at d;case h_2=>cases d
    rename_i N aZ' ho C;cases d
    have hi:ops[i]? = some o:=by have:=congrArg (fun l=>l[0]?) hd;simpa using this
    have D:ops.toList.drop (i+1)=l:=by have:=congrArg List.tail hd;simpa using this
    simp only [cq,List.range'_succ,wpOpsIn,hi];have:=opD_sound (Q:=Q) G hm ho j p fun s1 h1 k e B w' A=>zb3 G hm J l (i+1) aZ' s1 h1 B w' D C k (h0.trans e) A
    split
    · rename_i hw; rw [if_pos hw] at this; exact this
    · rename_i hw; rw [if_neg hw] at this; exact ⟨fun _ _=>trivial,this⟩
theorem seqD_any (hT:Agrees E T) (hm:E.P.follows .mixedOrders=true) {N:List Nat} {aZ:List AOper} (O:ll E nt ops N 0 ops.toList=some aZ) (hb:edgesBack ops=true) {K:Slots→Heap→Prop} {h0:Heap} :
    ∀ (n p:Nat) (s:Slots) (h:Heap) (d:Array Bool) (a:Act) (w:World),p+n≤aZ.length→(∀ x,x≤n→p+x < aZ.length→waits (befs ops.toList []) (p+x)=true) →
    OpsD E T K ((aZ.drop p).take n) s h→Evol h0 h→Exact ops d p→At E lo nt μ0 w0 ds s h a w →
    (∀ s1 h1,K s1 h1→Evol h0 h1→∀ A a' w',Exact ops A (p+n)→At E lo nt μ0 w0 ds s1 h1 a' w'→wpAnyIn (F0 none) 0 E.P .any ops Q (ops.size - (p+n)) A a' w')→wpAnyIn (F0 none) 0 E.P .any ops Q (ops.size - p) d a w
  | 0,p,s,h,d,a,w,_,_,B,h0,y,D,U=>by
    rw [List.take_zero] at B;cases B with
    | done k=>exact U _ _ k h0 d a w y D
  | n+1,p,s,h,d,a,w,V,hw,B,h0,y,D,U=>by
    obtain ⟨q1,q2⟩:=kj _ _ _ O;have W:p < ops.size:=by rw [q1] at V; simp at V; omega
    have X:ops[p]? = some ops[p]:=by simp [W]
    obtain ⟨o',G,al⟩:=q2 p ops[p] (by simp [W])
    have J:aZ.drop p=o' :: aZ.drop (p+1):=by have a0:=ah G;rw [vh a0];congr 1;rw [ai a0] at G;exact ce G
    rw [J,List.take_succ_cons] at B;have C:=m9 (ops:=ops) ops.toList [] (by simp) (fun k i U=>by simp at U);have L:=kz ops.toList [];have an:ops.size - p=(ops.size - (p+1))+1:=by omega
    rw [an];refine ⟨fun hr=>?_,fun i hi=>?_⟩
    · have h3:=qc hb y.1 hr p W
      rw [y.2 p W] at h3;simp at h3
    · obtain ⟨oi,k1,k2,k3⟩:=ot y.1 hi
      have a6:i < ops.size:=ah (l:=ops.toList) (by simpa using k1)
      have ax:p≤i:=by have:=y.2 i a6;rw [k2] at this;simpa using this
      have aa:p=i:=by
        rcases bh p i with h4 | h4
        · exfalso
          have ac:=ui (hw 1 (by omega) (by rw [q1]; simp; omega)) (j:=i) (i:=p) (by rw [L]; simpa using a6) (by omega) (by omega);have hl:=ij (y.down hb) (C _ _ ac) fun o e ho he ao=>by rw [k1] at ho; cases ho; exact k3 e he ao
          rw [y.2 p W] at hl;simp at hl
        · omega
      subst aa;rw [X] at k1; cases k1;refine xg X (opD_sound hT hm al B D fun s1 h1 k e a' w' ad=>?_);have e1:p+1+n=p+(n+1):=by omega
      refine seqD_any hT hm O hb n (p+1) s1 h1 _ a' w' (by omega) (fun x hx hl=>?_) k (h0.trans e) y.next ad ?_
      · have:=hw (x+1) (by omega) (by omega)
        rwa [show p+1+x=p+(x+1) by omega]
      · rw [e1]; exact U
end
theorem inv_region {nt:Nat} {hint:Hint} {code:Code} {B:List Seg} (h:co E nt false hint code=some (.region B)):∃ p A id ops j,code = .region id ops j∧cRegion E nt p A ops j=some B:=by
  cases hint with
  | reg s l =>
    cases code <;> simp only [co,ae,reduceCtorEq] at h
    obtain ⟨_,h1,h⟩:=h; cases h; exact ⟨_,_,_,_,_,rfl,h1⟩
  | next=>obtain ⟨d,y,r,e⟩:=l8 h; cases e
  | live l a=>simp only [co,ae] at h; obtain ⟨_,_,h⟩:=h; cases h
  | after a l=>simp only [co,ae] at h; obtain ⟨_,_,h⟩:=h; cases h
  | stuck=>simp only [co] at h; cases h
  | leaf=>cases code <;> simp only [co] at h <;> cases h
  | seq a b =>
    cases code <;> simp only [co,reduceCtorEq] at h
    split at h <;> cases h
  | cond a b =>
    cases code <;> simp only [co,reduceCtorEq] at h
    split at h <;> cases h
  | block a=>cases code <;> simp only [co,ae,reduceCtorEq] at h; obtain ⟨_,_,h⟩:=h; cases h
  | loop a=>cases code <;> simp only [co,ae,reduceCtorEq] at h; obtain ⟨_,_,h⟩:=h; cases h
  | rangeFunc g c a b =>
    cases code <;> simp only [co,reduceCtorEq] at h
    split at h
    · split at h <;> cases h
    · cases h
theorem CodeD.region (hT:Agrees E T) (hm:E.P.follows .mixedOrders=true) {l:List AOper} {st:St} {Q:AExit→St→Prop} (hl:OpsD E T (fun s h=>Q .normal ⟨s,h⟩) l st.s st.h):CodeD E (.region [⟨false,[],l⟩]) st Q:=by
  intro nt hint code U ac lo μ0 w0 ds a w Qm C hn;obtain ⟨D,aa,id,ops,G,rfl,d⟩:=inv_region U;unfold cRegion at d;split at d;case h_2=>cases d
  rename_i aZ A;split at d
  · rename_i hd
    subst hd;split at d;case isFalse=>cases d
    rename_i V;simp only [bc] at V;apply wpIn_region_any hm
    have j:At E lo nt μ0 w0 ds st.s st.h a { w with drawn:=w.drawn+1 }:=by obtain ⟨μ,ν,W,O,k3,k4,k5,k6⟩:=C;exact ⟨μ,ν,W.heap rfl rfl rfl rfl,O.same rfl rfl rfl,k3.heap rfl,k4,k5,k6⟩
    obtain ⟨q1,_⟩:=kj _ _ _ A;simp only [gd] at q1;cases D with
    | nil =>
      unfold splitSegs at d;split at d
      · cases d
      · cases d
      · rename_i e _; cases e
    | cons x r =>
      obtain ⟨q,n⟩:=x;simp only [splitSegs] at d;split at d;case isFalse=>cases d
      rw [ae] at d;obtain ⟨ad,p,X⟩:=d;injection X with a0 a6;injection a0 with e1 e2 e3;subst e1;subst a6;cases r with
      | cons x r =>
        obtain ⟨q',n'⟩:=x;simp only [splitSegs] at p;split at p
        · rw [ae] at p
          obtain ⟨_,_,X⟩:=p;cases X
        · cases p
      | nil =>
        have J:=V.2;simp only [segsOk,bc,decide_eq_true_eq,beq_iff_eq] at J;obtain ⟨⟨a2,a3⟩,a5⟩:=J;refine seqD_any (h0:=st.h) hT hm A V.1 n 0 st.s st.h _ a _ (by omega) (fun x hx al=>?_) (by simpa [e3] using hl) (Evol.refl _) ⟨by simp,fun i hi=>by simp [hi]⟩ j fun s1 h1 k e L a' w' y B=>?_
        · rw [ap] at a3
          exact a3 x (dc.2 (by omega))
        · have hp:0+n=ops.size:=by omega
          rw [hp,qh];rw [hp] at y;refine ⟨?_,hn _ _ k e _ _ B⟩;apply List.eq_nil_iff_forall_not_mem.2;intro i hi;obtain ⟨o,W,O,_⟩:=ot y.1 hi;have N:i < ops.size:=ah (l:=ops.toList) (by simpa using W);rw [y.2 i N] at O;simp [N] at O
  · rename_i hd
    have:G=false:=by simpa using hd
    subst this;cases d;apply wpIn_region;have:=zb3 (Q:=Qm) (h0:=st.h) hT hm (fun s' h' k e a' w' j=>hn .normal ⟨s',h'⟩ k e a' w' j) ops.toList 0 l st.s st.h a w rfl A hl (Evol.refl _) C;rw [List.range_eq_range'];simpa using this
def IsCode (E:Env) (g:Nat) (af:AFunc):Prop:=∀ f,E.gid f=some g→∃ fn hint closed,E.P.funcs[f]? = some fn∧uo E closed hint fn=some af∧RndOK E af.body.rounds
theorem CallD.of_code {g:Nat} {af:AFunc} (hF:IsCode E g af) {args:List AVal} {h:Heap} {R:AVal→Heap→Prop} (hl:args.length=af.nargs)
    (hb:CodeD E af.body ⟨enter 0 args,{ h with wmin:=h.size }⟩ fun e st=>∃ v h',funcEnd af h (e,st)=some (v,h')∧R v h'):CallD E g args h R:=by
  intro f A μ w args' ha hr;obtain ⟨fn,hint,closed,hf,j,G⟩:=hF f A;unfold uo at j;split at j;case h_2=>cases j
  rename_i c y;split at j;case h_2=>cases j
  rename_i ac rs J L;split at j;case isFalse=>cases j
  rename_i a0;cases j;simp only at hl;have a6:args'.size=args.length:=by have:=ha.length; simp at this; exact this.symm
  have N:At E w.heap.size fn.ntmps μ w [] (enter 0 args) { h with wmin:=h.size } { tmps:=args'++Array.replicate (fn.ntmps - args'.size) undef,defers:=[] } w:=by
    refine ⟨μ,⟨fun _=>0,[]⟩,Step.refl _ _ _ _,hr.same rfl rfl rfl,?_,?_,rfl,aj _⟩
    · have d:∀ (t:Nat) (x:Slot),sget (enter 0 args) t=some x→∃ v,x = .val v∧args[t]? = some v:=fun t x hx=>by rw [x6] at hx;simp at hx;obtain ⟨v,h1,h2⟩:=hx;exact ⟨v,h2.symm,h1⟩
      constructor
      · intro t v hv
        obtain ⟨v1,e,h1⟩:=d t _ hv;cases e;obtain ⟨v',h2,O⟩:=ha.get h1;refine ⟨v',?_,O⟩;have aa:=ah h1;rw [s9 (by omega)];simpa using h2
      · intro t hx; obtain ⟨_,e,_⟩:=d t _ hx; cases e
      · intro t cs hx; obtain ⟨_,e,_⟩:=d t _ hx; cases e
      · intro t t' o cs hx; obtain ⟨_,e,_⟩:=d t _ hx; cases e
      · intro t t' cs cs' _ hx; obtain ⟨_,e,_⟩:=d t _ hx; cases e
      · intro t cs i m hx; obtain ⟨_,e,_⟩:=d t _ hx; cases e
      · intro r hr; cases hr
      · intro r hr; cases hr
      · exact ⟨List.nodup_nil,hr.tab.1⟩
    · simp; omega
  refine callsIn_of_wp_marks hf y trivial ?_;refine hb fn.ntmps hint c J G.of w.heap.size μ w [] _ w _ N fun e st' hq p W w' B=>?_
  obtain ⟨v,h',D,hR⟩:=hq;have C:Evol h h':=sm p D
  have key:((resultsL st'.s st'.h rs).map fun vs=>dj h (tupled vs) st'.h)=some (v,h')→LeavesInM (F0 none) 0 E.P fn W.tmps (fun e w'=>∃ v h',R v h'∧Evol h h'∧Ends E μ w v h' e w') W.defers .returning w':=by intro h2;rw [ae] at h2;obtain ⟨vs,h2,O⟩:=h2;obtain ⟨μ1,X,k1,k2,k3,k4,k5,k6⟩:=B;rw [k5,gt];refine ru L h2 (fun v' w2 r2 U V=>?_) X.ds X.v w' k1 k2 k3;obtain ⟨μ2,s1,s2,s3⟩:=rt rfl hr U V r2 p;rw [O] at s1 s2 s3;exact ⟨v,h',hR,C,v',μ2,rfl,s1,s2,s3⟩
  cases e with
  | normal=>exact key D
  | ret=>exact key D
  | exit id=>simp [funcEnd] at D
theorem CallD.of_x (j:Agrees E T) (hm:E.P.follows .mixedOrders=true) {g:Nat} {args:List AVal} {h h':Heap} {v:AVal} {R:AVal→Heap→Prop} (e:xCall T g args h=some (v,h')) (p:R v h'):CallD E g args h R:=by intro f y μ w args' ha hr;obtain ⟨n,d⟩:=(jx T _ _ _ _).1 e;exact CallsIn.mono (F:=F0 none) (n:=0) ((oe j hm n).fn g args h v h' d f y μ w args' ha hr) fun e w' A=>⟨v,h',p,ki T n _ _ _ _ _ d,A⟩
theorem CallD.mono {g:Nat} {args:List AVal} {h:Heap} {R d:AVal→Heap→Prop} (hd:CallD E g args h R) (e:∀ v h',R v h'→d v h'):CallD E g args h d :=
  fun f j μ w args' ha hr=>CallsIn.mono (F:=F0 none) (n:=0) (hd f j μ w args' ha hr) fun _ _ ⟨v,h',h1,h2,p⟩=>⟨v,h',e v h' h1,h2,p⟩
theorem LibOK.of_calls {f g:Nat} {fn:Func} {F:List AVal→Heap→Option (AVal × List (Nat × AObj) × List AObj)} (d:E.gid f=some g) (name:fn.name ≠ "runtime.NumGoroutine") (body:fn.body.isSome=true)
    (run:∀ args h v ps xs,F args h=some (v,ps,xs)→CallD E g args h fun v' h'=>v'=v∧h'=h.puts ps xs):LibOK E f fn F :=
  ⟨name,body,fun args h v ps xs e μ w args' ha hr=>by refine callsIn_wide.1 (CallsIn.mono (F:=F0 none) (n:=0) (run args h v ps xs e f d μ w args' ha hr) fun e w' ⟨v',h',⟨j,p⟩,_,y⟩=>?_);rw [← j,← p];exact y⟩
end
end Go.Abs

namespace Go.Abs
def AgreesX (E:Env) (T:Nat→Option AFunc):Prop:=∃ T',(∀ g f,T g=some f→T' g=some f)∧Agrees E T'
section
variable {E:Env} {T:Nat→Option AFunc}
theorem Agrees.x (h:Agrees E T):AgreesX E T:=⟨T,fun _ _ h=>h,h⟩
theorem AgreesX.sub {T0:Nat→Option AFunc} (hs:∀ g f,T0 g=some f→T g=some f) (h:AgreesX E T):AgreesX E T0:=by obtain ⟨d,h1,h2⟩:=h;exact ⟨d,fun g f e=>h1 g f (hs g f e),h2⟩
theorem xCall_le {d:Nat→Option AFunc} (hs:∀ g f,T g=some f→d g=some f):CallLe (xCall T) (xCall d):=fun _ _ _ _ hr=>cf hs hr
theorem OpsD.up {p:Nat→Option AFunc} (hs:∀ g f,T g=some f→p g=some f) {K:Slots→Heap→Prop} {l:List AOper} {s:Slots} {h:Heap} (y:OpsD E T K l s h):OpsD E p K l s h:=by
 induction y with
 | done k=>exact .done k
 | op e _ ih=>exact .op (kv (xCall_le hs) _ _ _ _ e) ih
 | call h1 h2 d j _ ih=>exact .call h1 h2 d j ih
 | callv h1 h2 d j A _ ih=>exact .callv h1 h2 d j A ih
 | noZero h1 h2 d j _ ih=>exact .noZero h1 h2 d j ih
theorem CodeD.regionX (d:AgreesX E T) (hm:E.P.follows .mixedOrders=true) {l:List AOper} {st:St} {Q:AExit→St→Prop} (e:OpsD E T (fun s h=>Q .normal ⟨s,h⟩) l st.s st.h):CodeD E (.region [⟨false,[],l⟩]) st Q:=by obtain ⟨j,hs,d⟩:=d;exact CodeD.region d hm (e.up hs)
theorem CallD.of_xX (d:AgreesX E T) (hm:E.P.follows .mixedOrders=true) {g:Nat} {args:List AVal} {h h':Heap} {v:AVal} {R:AVal→Heap→Prop} (e:xCall T g args h=some (v,h')) (j:R v h'):CallD E g args h R:=by obtain ⟨p,hs,d⟩:=d;exact CallD.of_x d hm (cf hs e) j
theorem CodeD.of_xX (d:AgreesX E T) (hm:E.P.follows .mixedOrders=true) {c:ACode} {st st':St} {e:AExit} {Q:AExit→St→Prop} (h:im T c st=some (e,st')) (j:Q e st'):CodeD E c st Q:=by obtain ⟨p,hs,d⟩:=d;obtain ⟨n,y⟩:=(dh T _ _ _).1 h;exact CodeD.of_x d hm ((dh p _ _ _).2 ⟨n,jn (sq hs n) (aj n) _ _ _ y⟩) j
theorem CodeD.of_kX (d:AgreesX E T) (hm:E.P.follows .mixedOrders=true) {c:ACode} {st:St} {Q:AExit→St→Prop} (h:xK T c st (k:=⟨fun e st=>okIf (Q e st)⟩)=some ()):CodeD E c st Q:=by
 unfold xK at h;cases hx:im T c st with
 | none=>rw [hx] at h; cases h
 | some p =>
  rw [hx] at h;exact CodeD.of_xX d hm hx (okIf_iff.1 h)
theorem CodeD.of_wpX (d:AgreesX E T) (hm:E.P.follows .mixedOrders=true) {c:ACode} {st:St} {Q:AExit→St→Prop} (h:Wp T c st Q):CodeD E c st Q:=by obtain ⟨j,hs,d⟩:=d;obtain ⟨n,l,h1,h2,e⟩:=h;exact CodeD.of_wp d hm ⟨n,l,x7 (sq hs n) (aj n) _ _ _ h1,h2,e⟩
end
end Go.Abs

namespace Go.Abs
def repF:List AVal→Heap→Option (AVal × List (Nat × AObj) × List AObj)
 | [.slice (some (p,o)) 1 _,.int .i64 n],h=>match h.get p with
  | some (.cells 1 X)=>match X[o]? with
   | some (.int .u8 255)=>if 0 < n∧n≤262144 then some (.slice (some (h.size,0)) n.toNat (some n.toNat),[],[.cells 1 (List.replicate n.toNat (.int .u8 255))]) else none
   | _=>none
  | _=>none
 | _,_=>none
end Go.Abs

namespace Go.Abs.AbsBlo
open Go.Abs.Short
-- base: AbsBlb
def code88:AFunc:=⟨false,false,2,8,[.tmp 4],
 S (R [0,1] [o 4 (.val F)])
 (S (R [4] [v 5 0,v 6 1,o 7 (.callg 140 [t 5,t 6]),v 4 7])
 (Z [4])),none⟩
def code140:AFunc:=⟨false,false,2,18,[.tmp 4],
 S (R [0,1] [o 4 (.val F)])
 (S (R [4] [v 5 0,o 6 (.len .str (t 5)),v 7 1,o 8 (.len .str (t 7)),o 9 (Bt .geq 6 8),v 10 9,g 11 10 true (Vl 0),g 12 10 true (Vl 1),g 13 10 true (.len .str (t 12)),g 14 10 true (.slice .str (t 11) none (some (t 13)) none),g 15 10 true (Vl 1),g 16 10 true (Bt .eql 14 15),o 17 (.pick (t 10) (t 16) F),v 4 17])
 (Z [4])),none⟩
def code142L0:ACode :=
 .live [0,1,7,8] (S (R [0,1,7,8,9] [o 9 (Bt .lss 8 7)])
 (S (.after (.cond (t 9) (.skip) (.live [] (.exit 0))) [0,1,7,8])
 (S (.after (.block 1 (S (R [0,1,5,7,8] [v 10 8,v 5 10])
 (S (R [0,1,5,7,8,16] [v 11 1,v 12 0,v 13 5,o 14 (.iaddr 1 (t 12) (t 13)),o 15 (Lq 14),o 16 (.call (t 11) [t 15])])
 (.after (.cond (t 16) (S (R [4] [v 17 5,v 4 17])
 (Z [4])) (.skip)) [0,1,7,8])))) [0,1,7,8])
 (R [0,1,7,8] [o 18 (Bn .add 8 1),v 8 18]))))
def code142:AFunc:=⟨false,false,2,19,[.tmp 4],
 S (R [0,1] [o 4 (.val (n 0))])
 (S (S (R [0,1,7,8] [v 6 0,o 7 (Sl 6),o 8 (.val (n 0))])
 (.after (.block 0 (.loop code142L0)) []))
 (S (R [4] [o 4 (.val (.const (.int .i64 (-1))))])
 (Z [4]))),none⟩
def code480:AFunc:=⟨false,false,2,17,[.tmp 4],
 S (R [0,3] [o 3 (.box (t 1)),o 4 (.val (.const (.slice none 0 (some 0))))])
 (S (S (R [0,3,7] [v 6 0,o 7 (.eqnil .ptr false (t 6) (.const (.ptr none)))])
 (.after (.cond (t 7) (S (R [4] [o 4 (.val (.const (.slice none 0 (some 0))))])
 (Z [4])) (.skip)) [0,3]))
 (S (R [3,5] [v 8 0,o 9 (.nilcheck (t 8)),o 10 (Fa 9 5),o 11 (Lq 10),o 12 (.callg 496 [t 11]),o 13 (.callg 497 [t 12]),v 5 13])
 (S (R [4] [v 14 5,o 15 (.mkfunc 494 [] [t 3]),o 16 (.callg 495 [t 14,t 15]),v 4 16])
 (Z [4])))),none⟩
def code494:AFunc:=⟨false,false,2,8,[.tmp 3],
 S (R [0,1] [o 3 (.val F)])
 (S (R [3] [v 4 0,o 5 (Lq 1),o 6 (.callg 88 [t 4,t 5]),o 7 (.un .not (t 6)),v 3 7])
 (Z [3])),none⟩
def code495L0:ACode :=
 .live [0,1,5,6] (S (S (R [0,1,5,6,19] [v 16 6,v 17 0,o 18 (Sl 17),o 19 (Bt .lss 16 18)])
 (.after (.cond (t 19) (.skip) (.live [0,5] (.exit 0))) [0,1,5,6]))
 (S (.after (.block 1 (S (R [0,1,5,6,7] [v 22 0,v 23 6,o 24 (.iaddr 1 (t 22) (t 23)),o 25 (Lq 24),v 7 25])
 (S (R [0,1,5,6,7,29] [v 26 1,v 27 7,o 28 (.call (t 26) [t 27]),o 29 (.un .not (t 28))])
 (.after (.cond (t 29) (S (R [0,1,5,6] [v 30 0,v 31 5,v 32 7,o 33 (.iaddr 1 (t 30) (t 31)),u (.store 1 (t 33) (t 32))])
 (R [0,1,5,6] [v 34 5,o 35 (Bn .add 34 1),v 5 35])) (.skip)) [0,1,5,6])))) [0,1,5,6])
 (R [0,1,5,6] [v 20 6,o 21 (Bn .add 20 1),v 6 21])))
def code495:AFunc:=⟨false,false,2,42,[.tmp 4],
 S (R [0,1] [o 4 (.val (.const (.slice none 0 (some 0))))])
 (S (R [0,1,5] [v 8 0,v 9 1,o 10 (.callg 142 [t 8,t 9]),v 5 10])
 (S (S (R [0,1,5,12] [v 11 5,o 12 (.bin .eql (t 11) (.const (.int .i64 (-1))))])
 (.after (.cond (t 12) (S (R [4] [v 13 0,v 4 13])
 (Z [4])) (.skip)) [0,1,5]))
 (S (S (R [0,1,5,6] [v 14 5,o 15 (Bn .add 14 1),v 6 15])
 (.after (.block 0 (.loop code495L0)) [0,5]))
 (S (R [0,5] [v 36 0,v 37 5,o 38 (.slice (.sl 1) (t 36) (some (t 37)) none none),u (.ext (.clear 1 [.str []]) [t 38])])
 (S (R [4] [v 39 0,v 40 5,o 41 (.slice (.sl 1) (t 39) none (some (t 40)) none),v 4 41])
 (Z [4])))))),none⟩
def code496:AFunc:=⟨false,false,1,4,[.tmp 2],
 S (R [1] [o 1 (.box (t 0)),o 2 (.val (.const (.nilFunc)))])
 (S (R [2] [o 3 (.mkfunc 507 [] [t 1]),v 2 3])
 (Z [2])),none⟩
def code497:AFunc:=⟨false,false,1,9,[.tmp 2],
 S (R [0] [o 2 (.val (.const (.slice none 0 (some 0))))])
 (S (R [3] [v 4 0,o 5 (.callg 506 [t 4]),v 3 5])
 (S (R [3] [v 6 3,o 7 (.callg 505 [t 6])])
 (S (R [2] [v 8 3,v 2 8])
 (Z [2])))),none⟩
def code505:AFunc:=⟨false,false,1,11,[],
 S (R [0,2] [v 3 0,o 4 (Sl 3),v 2 4])
 (R [] [v 5 0,v 6 2,v 7 2,o 8 (.conv (.int .u64) (t 7)),o 9 (.callg 166 [t 8]),o 10 (.callg 513 [t 5,n 0,t 6,t 9])]),none⟩
def code506:AFunc:=⟨false,false,1,5,[.tmp 2],
 S (R [0] [o 2 (.val (.const (.slice none 0 (some 0))))])
 (S (R [2] [v 3 0,o 4 (.callg 512 [.const (.slice none 0 (some 0)),t 3]),v 2 4])
 (Z [2])),none⟩
def code507L0:ACode :=
 .live [0,5] (S (.after (S (.next (some 6) (t 5)) (.region [⟨false,[],[o 7 (Xt 6 0)]⟩])) [0,5,7])
 (S (.after (.cond (t 7) (.skip) (.live [] (.exit 0))) [0,5])
 (.after (.block 1 (S (R [0,3,5] [o 8 (.ext .entry [t 5]),o 9 (Xt 8 0),v 3 9])
 (S (R [0,5,13] [v 10 0,v 11 3,o 12 (.call (t 10) [t 11]),o 13 (.un .not (t 12))])
 (.after (.cond (t 13) (Z []) (.skip)) [0,5])))) [0,5])))
def code507:AFunc:=⟨false,true,2,14,[],
 S (R [0,5] [o 4 (Lq 1),o 5 (.ext .mkiter [t 4])])
 (.after (.block 0 (.loop code507L0)) []),none⟩
def rcode522a:ACode :=
 R [2,5] [v 5 7]
def rcode522b:ACode :=
 .after (.block 1 (R [] [o 8 (Lq 2),v 9 5,o 10 (.mkslice 1 1 [.str []] [(0,1,t 9)]),o 11 (.append 1 16 (t 8) (t 10)),u (.store 1 (t 2) (t 11))])) []
def round522:ARound:=⟨[7],rcode522a,rcode522b⟩
def code522:AFunc:=⟨false,false,0,0,[],.skip,some (.round round522)⟩
def code512:AFunc:=⟨false,false,2,13,[.tmp 4],
 S (R [1,2] [o 2 (.box (t 0)),o 4 (.val (.const (.slice none 0 (some 0))))])
 (S (S (R [2,6] [v 6 1])
 (.after (.block 0 (.after (.rangeFunc (t 6) 522 [2] [7] rcode522a rcode522b) [2])) [2]))
 (S (R [4] [o 12 (Lq 2),v 4 12])
 (Z [4]))),none⟩
def code513L0:ACode :=
 .live [0,1,2,3,8,9] (.after (.block 1 (S (R [0,1,2,3,8,9,10] [v 19 2,v 20 1,o 21 (Bt .sub 19 20),v 10 21])
 (S (S (R [0,1,2,3,8,9,10,23] [v 22 10,o 23 (Bn .leq 22 12)])
 (.after (.cond (t 23) (S (R [] [v 24 0,v 25 1,v 26 2,o 27 (.callg 531 [t 24,t 25,t 26])])
 (Z [])) (.skip)) [0,1,2,3,8,9,10]))
 (S (S (R [0,1,2,3,8,9,10,29] [v 28 3,o 29 (Bn .eql 28 0)])
 (.after (.cond (t 29) (S (R [] [v 30 0,v 31 1,v 32 2,o 33 (.nextStr F)])
 (Z [])) (.skip)) [0,1,2,3,8,9,10]))
 (S (S (R [0,1,2,3,8,9,10,35] [v 34 8,o 35 (.un .not (t 34))])
 (.after (.cond (t 35) (S (R [0,1,2,3,8,9,10] [v 36 0,v 37 1,v 38 2,o 39 (.nextStr F)])
 (R [0,1,2,3,8,9,10] [v 40 3,o 41 (Bn .sub 40 1),v 3 41])) (.skip)) [0,1,2,3,8,9,10]))
 (S (R [0,1,2,3,8,9,10,11,12] [v 43 0,v 44 1,v 45 2,o 46 (.nextStr F),v 42 46,o 47 (Xt 42 0),o 48 (Xt 42 1),v 11 47,v 12 48])
 (S (S (R [0,1,2,3,8,9,10,11,12,50] [v 49 12,o 50 (Bn .eql 49 2)])
 (.after (.cond (t 50) (S (R [0,1,2,3,8,9,10,11] [v 51 0,v 52 1,v 53 2,o 54 (.nextStr F)])
 (S (R [0,1,2,3,8,9,10,11] [v 55 2,o 56 (Bn .sub 55 1),v 57 11,v 58 1,o 59 (Bt .sub 57 58),o 60 (Bt .sub 56 59),v 11 60])
 (R [0,1,2,3,8,9,10,11,12] [o 12 (.val (n 1))]))) (.skip)) [0,1,2,3,8,9,10,11,12]))
 (S (S (R [0,1,2,3,8,9,10,11,68] [v 61 8,v 62 61,g 63 62 true (Vl 9),o 64 (.pick (t 62) (t 63) F),v 65 64,g 66 65 true (Vl 12),g 67 65 true (Bn .eql 66 1),o 68 (.pick (t 65) (t 67) F)])
 (.after (.cond (t 68) (S (R [0,1,2,3,8,9,10,11,72] [v 69 0,v 70 1,v 71 2,o 72 (.nextStr F)])
 (.after (.cond (t 72) (Z []) (.skip)) [0,1,2,3,8,9,10,11])) (.skip)) [0,1,2,3,8,9,10,11]))
 (S (S (.after (.region [⟨false,[],[v 73 1,o 74 (Bn .gtr 73 0),v 75 74]⟩,⟨true,[],[g 76 75 true (Vl 0),g 77 75 true (Vl 1),g 78 75 true (Bn .sub 77 1),g 79 75 true (.iaddr 1 (t 76) (t 78)),g 80 75 true (Lq 79),g 81 75 true (Vl 0),g 82 75 true (Vl 11),g 83 75 true (.iaddr 1 (t 81) (t 82)),g 84 75 true (Lq 83)]⟩,⟨false,[],[g 85 75 true (.callg 525 [t 80,t 84]),g 86 75 true (.un .not (t 85)),o 87 (.pick (t 75) (t 86) F)]⟩]) [0,1,2,3,8,9,10,11,87])
 (.after (.cond (t 87) (S (R [0,2,3,8,9,13] [v 88 0,v 89 1,v 90 2,v 91 11,o 92 (.nextStr F),v 13 92])
 (S (R [0,1,2,3,8,9] [v 93 13,v 1 93])
 (.live [0,1,2,3,8,9] (.exit 1)))) (.skip)) [0,1,2,3,10,11]))
 (S (R [0,1,2,3,10,14,15] [v 95 0,v 96 1,v 97 2,v 98 11,o 99 (.nextStr F),v 94 99,o 100 (Xt 94 0),o 101 (Xt 94 1),v 14 100,v 15 101])
 (S (R [0,1,2,3,9,10,14] [v 102 15,v 9 102])
 (S (R [0,1,2,3,9,10,14,16,17] [v 103 14,v 104 1,o 105 (Bt .sub 103 104),v 106 2,v 107 14,o 108 (Bt .sub 106 107),v 16 105,v 17 108])
 (S (R [0,1,2,3,9,14,16,17,18] [v 109 10,o 110 (Bn .quo 109 8),v 18 110])
 (S (R [0,1,2,3,9,14,16,17,18,113] [v 111 16,v 112 17,o 113 (Bt .lss 111 112)])
 (.after (.cond (t 113) (S (R [0,1,2,3,8,9,14] [v 114 16,v 115 18,o 116 (Bt .geq 114 115),v 8 116])
 (S (R [0,2,3,8,9,14] [v 117 0,v 118 1,v 119 14,v 120 3,o 121 (.callg 513 [t 117,t 118,t 119,t 120])])
 (R [0,1,2,3,8,9] [v 122 14,o 123 (Bn .add 122 1),v 1 123]))) (S (R [0,1,2,3,8,9,14] [v 124 17,v 125 18,o 126 (Bt .geq 124 125),v 8 126])
 (S (R [0,1,3,8,9,14] [v 127 0,v 128 14,o 129 (Bn .add 128 1),v 130 2,v 131 3,o 132 (.callg 513 [t 127,t 129,t 130,t 131])])
 (R [0,1,2,3,8,9] [v 133 14,v 2 133])))) [0,1,2,3,8,9]))))))))))))))) [0,1,2,3,8,9])
def code513:AFunc:=⟨false,false,4,134,[],
 S (R [0,1,2,3,8] [o 8 (.val Y)])
 (S (R [0,1,2,3,8,9] [o 9 (.val Y)])
 (.after (.block 0 (.loop code513L0)) [])),none⟩
def code525:AFunc:=⟨false,false,2,17,[.tmp 4],
 S (R [0,1] [o 4 (.val F)])
 (S (R [4] [v 5 0,o 6 (.callg 542 [t 5]),v 7 6,g 8 7 true (Vl 1),g 9 7 true (.callg 542 [t 8]),g 10 7 true (.un .not (t 9)),o 11 (.pick (t 7) (t 10) F),v 12 11,g 13 12 false (Vl 0),g 14 12 false (Vl 1),g 15 12 false (Bt .lss 13 14),o 16 (.pick (t 12) Y (t 15)),v 4 16])
 (Z [4])),none⟩
def code531L0:ACode :=
 .live [0,1,2,6,7] (S (S (.after (.region [⟨true,[],[v 16 7,v 17 1]⟩,⟨false,[],[o 18 (Bt .gtr 16 17),v 19 18]⟩,⟨true,[],[g 20 19 true (Vl 0),g 21 19 true (Vl 7),g 22 19 true (.iaddr 1 (t 20) (t 21)),g 23 19 true (Lq 22),g 24 19 true (Vl 0),g 25 19 true (Vl 7),g 26 19 true (Bn .sub 25 1),g 27 19 true (.iaddr 1 (t 24) (t 26)),g 28 19 true (Lq 27)]⟩,⟨false,[],[g 29 19 true (.callg 525 [t 23,t 28]),o 30 (.pick (t 19) (t 29) F)]⟩]) [0,1,2,6,7,30])
 (.after (.cond (t 30) (.skip) (.live [0,1,2,6] (.exit 2))) [0,1,2,6,7]))
 (S (.after (.block 3 (.after (.region [⟨true,[0,0,0,0,8,0,0,64,224,480,0,0,3072,7168,16355,32739],[v 33 0,v 34 7,v 35 0,v 36 7,o 37 (Bn .sub 36 1),v 38 0,v 39 7,o 40 (Bn .sub 39 1),o 41 (.iaddr 1 (t 38) (t 40)),o 42 (Lq 41),v 43 0,v 44 7,o 45 (.iaddr 1 (t 43) (t 44)),o 46 (Lq 45),o 47 (.iaddr 1 (t 33) (t 34)),u (.ext (.hstore 1) [t 47,t 42])]⟩,⟨false,[],[o 48 (.iaddr 1 (t 35) (t 37)),u (.store 1 (t 48) (t 46))]⟩]) [0,1,2,6,7])) [0,1,2,6,7])
 (R [0,1,2,6,7] [v 31 7,o 32 (Bn .sub 31 1),v 7 32])))
def code531L1:ACode :=
 .live [0,1,2,6] (S (S (R [0,1,2,6,12] [v 10 6,v 11 2,o 12 (Bt .lss 10 11)])
 (.after (.cond (t 12) (.skip) (.live [] (.exit 0))) [0,1,2,6]))
 (S (.after (.block 1 (S (R [0,1,2,6,7] [v 15 6,v 7 15])
 (.after (.block 2 (.loop code531L0)) [0,1,2,6]))) [0,1,2,6])
 (R [0,1,2,6] [v 13 6,o 14 (Bn .add 13 1),v 6 14])))
def code531:AFunc:=⟨false,false,3,49,[],
 S (R [0,1,2,6] [v 8 1,o 9 (Bn .add 8 1),v 6 9])
 (.after (.block 0 (.loop code531L1)) []),none⟩
def code542:AFunc:=⟨false,false,1,6,[.tmp 2],
 S (R [0] [o 2 (.val F)])
 (S (R [2] [v 3 0,v 4 0,o 5 (Bt .neq 3 4),v 2 5])
 (Z [2])),none⟩
def code549:AFunc:=⟨false,false,2,42,[.tmp 4],
 S (R [0,1] [o 4 (.val (n 0))])
 (S (S (R [0,1,9] [v 8 0,o 9 (.callg 561 [t 8])])
 (.after (.cond (t 9) (S (R [4] [o 4 (.val (n 5))])
 (Z [4])) (.skip)) [0,1]))
 (S (R [0,5,6] [v 11 1,o 12 (.callg 581 [t 11]),v 10 12,o 13 (Xt 10 0),o 14 (Xt 10 1),v 5 13,v 6 14])
 (S (.after (.block 0 (S (R [0,5,6,15] [v 16 6,o 17 (Bn .neq 16 0),v 15 17])
 (.after (.cond (t 15) (S (R [4] [v 18 6,v 4 18])
 (Z [4])) (S (.after (.region [⟨true,[],[v 20 5,o 21 (.callg 579 [t 20]),v 22 0,o 23 (.nilcheck (t 22)),o 24 (Fa 23 1),o 25 (Fa 24 1),o 26 (Lq 25),o 27 (Bn .sub 26 12),o 28 (Bn .quo 27 2)]⟩,⟨false,[],[o 29 (Bt .gtr 21 28),v 19 29]⟩]) [0,5,19])
 (.after (.cond (t 19) (S (R [4] [o 4 (.val (n 9))])
 (Z [4])) (.skip)) [0,5]))) [0,5]))) [0,5])
 (S (S (R [0,5,7] [v 30 0,v 31 5,o 32 (.callg 579 [t 31]),o 33 (.callg 580 [t 30,t 32]),v 7 33])
 (S (R [0,5,7,35] [v 34 7,o 35 (Bn .neq 34 0)])
 (.after (.cond (t 35) (S (R [4] [v 36 7,v 4 36])
 (Z [4])) (.skip)) [0,5])))
 (S (R [4] [v 37 0,v 38 0,v 39 5,o 40 (.callg 577 [t 38,t 39]),o 41 (.callg 578 [t 37,t 40]),v 4 41])
 (Z [4])))))),none⟩
def code555L0:ACode :=
 .live [0,2,4,22,23] (S (R [0,2,4,22,23,24] [o 24 (Bt .lss 23 22)])
 (S (.after (.cond (t 24) (.skip) (.live [2,4] (.exit 0))) [0,2,4,22,23])
 (S (.after (.block 1 (S (R [0,2,4,5,22,23] [v 25 23,v 5 25])
 (S (R [0,2,4,5,6,7,22,23] [v 27 0,v 28 5,o 29 (.callg 564 [t 27,t 28]),v 26 29,o 30 (Xt 26 0),o 31 (Xt 26 1),o 6 (.lalloc [.int .i64 0,.int .u32 0,.int .i64 0]),u (.store 3 (t 6) (t 30)),v 7 31])
 (S (S (R [0,2,4,5,6,7,22,23,33] [v 32 7,o 33 (Bn .neq 32 0)])
 (.after (.cond (t 33) (S (R [2,3] [v 34 7,u (.store 1 (t 2) (.const (.ptr none))),v 3 34])
 (Z [2,3])) (.skip)) [0,2,4,5,6,22,23]))
 (S (.after (.region [⟨true,[0,0,2,6,14,0,32,126],[o 35 (Lq 2),o 36 (Lq 2),o 37 (.nilcheck (t 36)),o 38 (Fa 37 4),o 39 (Lq 38),o 40 (.load (some 3) (t 6)),o 41 (.mkslice 3 1 [.int .i64 0,.int .u32 0,.int .i64 0] [(0,3,t 40)]),o 42 (.append 3 24 (t 39) (t 41))]⟩,⟨false,[],[o 43 (.nilcheck (t 35)),o 44 (Fa 43 4),u (.store 1 (t 44) (t 42))]⟩]) [0,2,4,5,6,22,23])
 (S (R [0,2,4,5,22,23,47] [o 45 (Fa 6 0),o 46 (Lq 45),o 47 (Bn .eql 46 2)])
 (.after (.cond (t 47) (R [0,2,4,22,23] [v 48 4,v 49 5,o 50 (.mkslice 1 1 [.int .i64 0] [(0,1,t 49)]),o 51 (.append 1 8 (t 48) (t 50)),v 4 51]) (.skip)) [0,2,4,22,23]))))))) [0,2,4,22,23])
 (R [0,2,4,22,23] [o 52 (Bn .add 23 1),v 23 52]))))
def code555:AFunc:=⟨false,false,1,85,[.cell 2 none,.tmp 3],
 S (R [0,2] [o 2 (.alloc 1 [.ptr none]),o 3 (.val (n 0))])
 (S (S (R [0,2,11] [v 10 0,o 11 (.eqnil .ptr false (t 10) (.const (.ptr none)))])
 (.after (.cond (t 11) (S (R [2,3] [u (.store 1 (t 2) (.const (.ptr none))),o 3 (.val (n 1))])
 (Z [2,3])) (.skip)) [0,2]))
 (S (R [0,2] [v 12 0,v 13 0,o 14 (.callg 573 [t 13]),o 15 (.ext .mkmap []),o 16 (.build [.ptr none,.int .i64 0,.int .i64 0,.int .i64 0,.slice none 0 (some 0),.map none,.int .i64 0,.int .i64 0,.int .u32 0,.int .u32 0,.bool false] [(0,1,t 12),(1,3,t 14),(5,1,t 15),(6,1,.const (.int .i64 (-1)))]),o 17 (.box (t 16)),u (.store 1 (t 2) (t 17))])
 (S (R [0,2,4] [o 4 (.val (.const (.slice none 0 (some 0))))])
 (S (S (R [0,2,4,22,23] [o 18 (Lq 2),o 19 (.nilcheck (t 18)),o 20 (Fa 19 1),o 21 (Fa 20 0),o 22 (Lq 21),o 23 (.val (n 0))])
 (.after (.block 0 (.loop code555L0)) [2,4]))
 (S (R [2,4] [v 53 4,o 54 (.mkfunc 571 [] [t 2]),o 55 (.callg 572 [t 53,t 54])])
 (S (S (R [2,4,8] [o 56 (Lq 2),v 57 4,o 58 (.callg 570 [t 56,t 57]),v 8 58])
 (S (R [2,4,8,60] [v 59 8,o 60 (Bn .neq 59 0)])
 (.after (.cond (t 60) (S (R [2,3] [v 61 8,u (.store 1 (t 2) (.const (.ptr none))),v 3 61])
 (Z [2,3])) (.skip)) [2,4])))
 (S (S (.after (.region [⟨true,[],[o 62 (Lq 2),o 63 (.nilcheck (t 62)),o 64 (Fa 63 4),o 65 (Lq 64),o 66 (Lq 2),o 67 (.nilcheck (t 66)),o 68 (Fa 67 1),o 69 (Fa 68 2),o 70 (Lq 69)]⟩,⟨false,[],[o 71 (.callg 0 [t 65,t 70]),o 72 (Bn .eql 71 0),v 73 72,g 74 73 true (Vl 4),g 75 73 true (Sl 74),g 76 73 true (Bn .gtr 75 1),o 77 (.pick (t 73) (t 76) F)]⟩]) [2,4,77])
 (.after (.cond (t 77) (S (R [2,9] [o 78 (Lq 2),v 79 4,o 80 (.nextStr F),v 9 80])
 (S (R [2,9,82] [v 81 9,o 82 (Bn .neq 81 0)])
 (.after (.cond (t 82) (S (R [2,3] [v 83 9,u (.store 1 (t 2) (.const (.ptr none))),v 3 83])
 (Z [2,3])) (.skip)) [2]))) (.skip)) [2]))
 (S (R [2,3] [o 84 (Lq 2),u (.store 1 (t 2) (t 84)),o 3 (.val (n 0))])
 (Z [2,3]))))))))),none⟩
def code556:AFunc:=⟨false,false,1,33,[.tmp 2,.tmp 3],
 S (R [1] [o 1 (.lbox (t 0)),o 2 (.val (.const (.ptr none))),o 3 (.val (n 0))])
 (S (S (R [1,19] [o 4 (Fa 1 0),o 5 (Lq 4),o 6 (.callg 568 [t 5,n 1,n 64]),o 7 (.un .not (t 6)),v 8 7,g 9 8 false (Fa 1 1),g 10 8 false (Lq 9),g 11 8 false (.callg 568 [t 10,n 64,n 65536]),g 12 8 false (.un .not (t 11)),o 13 (.pick (t 8) Y (t 12)),v 14 13,g 15 14 false (Fa 1 2),g 16 14 false (Lq 15),g 17 14 false (.callg 568 [t 16,n 1,n 1048576]),g 18 14 false (.un .not (t 17)),o 19 (.pick (t 14) Y (t 18))])
 (.after (.cond (t 19) (S (R [2,3] [o 2 (.val (.const (.ptr none))),o 3 (.val (n 1))])
 (Z [2,3])) (.skip)) [1]))
 (S (.after (.region [⟨true,[0,0,0,4,0,16,60,126,0,256,768],[o 20 (.load (some 3) (t 1)),o 21 (.mkslice 1 1 [.int .u8 0] [(0,1,.const (.int .u8 255))]),o 22 (Fa 1 0),o 23 (Lq 22),o 24 (Fa 1 1),o 25 (Lq 24),o 26 (Bt .mul 23 25),o 27 (.callg 567 [t 21,t 26]),o 28 (Fa 1 0),o 29 (Lq 28),o 30 (.make 1 8 [.int .i64 0] (t 29) (t 29))]⟩,⟨false,[],[o 31 (.build [.int .i64 0,.int .i64 0,.int .i64 0,.slice none 0 (some 0),.slice none 0 (some 0),.bool false,.int .i64 0,.int .i64 0,.int .u8 0] [(0,3,t 20),(3,1,t 27),(4,1,t 30),(6,1,.const (.int .i64 (-1)))]),o 32 (.box (t 31)),v 2 32,o 3 (.val (n 0))]⟩]) [2,3])
 (Z [2,3]))),none⟩
def code557:AFunc:=⟨true,false,0,78,[.tmp 0],
 S (R [] [o 0 (.val F)])
 (S (R [1,2] [o 13 (.build [.int .i64 0,.int .i64 0,.int .i64 0] [(0,1,n 4),(1,1,n 128),(2,1,n 9)]),o 14 (.callg 556 [t 13]),v 12 14,o 15 (Xt 12 0),o 16 (Xt 12 1),v 1 15,v 2 16])
 (S (R [2,3,4] [v 18 1,o 19 (.callg 555 [t 18]),v 17 19,o 20 (Xt 17 0),o 21 (Xt 17 1),v 3 20,v 4 21])
 (S (R [2,3,4,5] [v 22 3,o 23 (.mkslice 1 2 [.int .u8 0,.int .u8 0] [(0,1,.const (.int .u8 120)),(1,1,.const (.int .u8 121))]),o 24 (.conv .same (t 23)),o 25 (.build [.bool false,.str [],.slice none 0 (some 0)] [(1,1,Ks [97]),(2,1,t 24)]),o 26 (.mkslice 3 1 [.bool false,.str [],.slice none 0 (some 0)] [(0,3,t 25)]),o 27 (.callg 549 [t 22,t 26]),v 5 27])
 (S (R [2,3,4,5,6,7] [v 29 3,o 30 (.callg 482 [t 29,Ks [97]]),v 28 30,o 31 (Xt 28 0),o 32 (Xt 28 1),v 6 31,v 7 32])
 (S (R [2,3,4,5,6,7,9] [v 34 3,o 35 (.callg 482 [t 34,Ks [98]]),v 33 35,o 36 (Xt 33 0),o 37 (Xt 33 1),v 8 36,v 9 37])
 (S (R [2,3,4,5,6,7,9,11] [o 39 (.callg 555 [.const (.ptr none)]),v 38 39,o 40 (Xt 38 0),o 41 (Xt 38 1),v 10 40,v 11 41])
 (S (R [0] [v 42 2,o 43 (Bn .eql 42 0),v 44 43,g 45 44 true (Vl 4),g 46 44 true (Bn .eql 45 0),o 47 (.pick (t 44) (t 46) F),v 48 47,g 49 48 true (Vl 5),g 50 48 true (Bn .eql 49 0),o 51 (.pick (t 48) (t 50) F),v 52 51,g 53 52 true (Vl 11),g 54 52 true (Bn .eql 53 1),o 55 (.pick (t 52) (t 54) F),v 56 55,g 57 56 true (Vl 7),o 58 (.pick (t 56) (t 57) F),v 59 58,g 60 59 true (Vl 9),g 61 59 true (.un .not (t 60)),o 62 (.pick (t 59) (t 61) F),v 63 62,g 64 63 true (Vl 6),g 65 63 true (.conv .string (t 64)),g 66 63 true (.bin .eql (t 65) (Ks [120,121])),o 67 (.pick (t 63) (t 66) F),v 68 67,g 69 68 true (Vl 3),g 70 68 true (.callg 562 [t 69]),g 71 68 true (Bn .eql 70 35),o 72 (.pick (t 68) (t 71) F),v 73 72,g 74 73 true (Vl 3),g 75 73 true (.callg 563 [t 74]),g 76 73 true (Bn .eql 75 58),o 77 (.pick (t 73) (t 76) F),v 0 77])
 (Z [0])))))))),none⟩
def code562L0:ACode :=
 .live [3,12] (S (.after (S (.next (some 13) (t 12)) (.region [⟨false,[],[o 14 (Xt 13 0)]⟩])) [3,12,14])
 (S (.after (.cond (t 14) (.skip) (.live [3] (.exit 0))) [3,12])
 (.after (.block 1 (S (R [3,4,5,12] [o 15 (.ext .entry [t 12]),o 16 (Xt 15 0),o 17 (Xt 15 1),o 5 (.lalloc [.int .i64 0,.int .i64 0,.str []]),v 4 16,u (.store 3 (t 5) (t 17))])
 (.after (.region [⟨true,[],[v 18 3,v 19 4,o 20 (.build [.int .i64 0,.int .u32 0,.str [],.slice none 0 (some 0),.int .i64 0] [(2,1,t 19)]),o 21 (.callg 589 [t 20]),o 22 (Fa 5 2),o 23 (Lq 22),o 24 (.len .str (t 23)),o 25 (Bt .add 21 24),o 26 (.build [.int .i64 0,.int .u32 0,.str [],.slice none 0 (some 0),.int .i64 0] []),o 27 (.callg 589 [t 26]),o 28 (Bt .add 25 27)]⟩,⟨false,[],[o 29 (Bt .add 18 28),v 3 29]⟩]) [3,12]))) [3,12])))
def code562:AFunc:=⟨false,true,1,31,[.tmp 2],
 S (R [0] [o 2 (.val (n 0))])
 (S (S (R [0,7] [v 6 0,o 7 (.eqnil .ptr false (t 6) (.const (.ptr none)))])
 (.after (.cond (t 7) (S (R [2] [o 2 (.val (n 0))])
 (Z [2])) (.skip)) [0]))
 (S (R [0,3] [o 3 (.val (n 0))])
 (S (S (R [3,12] [v 8 0,o 9 (.nilcheck (t 8)),o 10 (Fa 9 5),o 11 (Lq 10),o 12 (.ext .mkiter [t 11])])
 (.after (.block 0 (.loop code562L0)) [3]))
 (S (R [2] [v 30 3,v 2 30])
 (Z [2]))))),none⟩
def code567:AFunc:=⟨false,false,0,0,[],.skip,some (.lib Go.Abs.repF)⟩
def code570L0:ACode :=
 .live [0,18,19,20] (S (R [0,18,19,20,21] [o 21 (Bt .lss 20 19)])
 (S (.after (.cond (t 21) (.skip) (.live [] (.exit 0))) [0,18,19,20])
 (S (.after (.block 1 (S (R [0,6,18,19,20] [o 22 (.iaddr 1 (t 18) (t 20)),o 23 (Lq 22),v 6 23])
 (S (R [0,7,18,19,20] [v 24 0,v 25 6,o 26 (.nextStr F),v 7 26])
 (S (R [0,7,18,19,20,28] [v 27 7,o 28 (Bn .neq 27 0)])
 (.after (.cond (t 28) (S (R [4] [v 29 7,v 4 29])
 (Z [4])) (.skip)) [0,18,19,20]))))) [0,18,19,20])
 (R [0,18,19,20] [o 30 (Bn .add 20 1),v 20 30]))))
def code570:AFunc:=⟨false,false,2,31,[.tmp 4],
 S (R [0,1] [o 4 (.val (n 0))])
 (S (R [0,1] [v 8 0,v 9 0,v 10 0,o 11 (.ext .mkmap []),o 12 (.nilcheck (t 8)),o 13 (Fa 12 5),u (.store 1 (t 13) (t 11)),o 14 (.nilcheck (t 9)),o 15 (Fa 14 6),u (.store 1 (t 15) (.const (.int .i64 (-1)))),o 16 (.nilcheck (t 10)),o 17 (Fa 16 9),u (.store 1 (t 17) (.const (.int .u32 0)))])
 (S (S (R [0,18,19,20] [v 18 1,o 19 (Sl 18),o 20 (.val (n 0))])
 (.after (.block 0 (.loop code570L0)) []))
 (S (R [4] [o 4 (.val (n 0))])
 (Z [4])))),none⟩
def code580L0:ACode :=
 .live [0,1,12,13] (S (R [0,1,12,13,14] [o 14 (Bt .lss 13 12)])
 (S (.after (.cond (t 14) (.skip) (.live [0,1] (.exit 0))) [0,1,12,13])
 (S (.after (.block 1 (S (R [0,1,5,12,13] [v 15 0,o 16 (.mkfunc 599 [t 15] []),v 5 16])
 (S (.after (.block 2 (S (R [0,1,5,12,13,17] [v 18 0,v 19 1,o 20 (.callg 597 [t 18,t 19]),v 17 20])
 (.after (.cond (t 17) (S (R [4] [o 4 (.val (n 0))])
 (Z [4])) (S (.after (.region [⟨true,[],[v 22 0,o 23 (.nilcheck (t 22)),o 24 (Fa 23 4),o 25 (Lq 24),v 26 0,o 27 (.nilcheck (t 26)),o 28 (Fa 27 1),o 29 (Fa 28 2),o 30 (Lq 29)]⟩,⟨false,[],[o 31 (.callg 0 [t 25,t 30]),o 32 (Bn .geq 31 2),v 21 32]⟩]) [0,1,5,12,13,21])
 (.after (.cond (t 21) (R [0,1,5,12,13] [v 33 0,o 34 (.mkfunc 598 [t 33] []),v 5 34]) (.skip)) [0,1,5,12,13]))) [0,1,5,12,13]))) [0,1,5,12,13])
 (S (R [0,1,6,12,13] [v 35 5,o 36 (.call (t 35) []),v 6 36])
 (S (R [0,1,6,12,13,38] [v 37 6,o 38 (Bn .neq 37 0)])
 (.after (.cond (t 38) (S (R [4] [v 39 6,v 4 39])
 (Z [4])) (.skip)) [0,1,12,13])))))) [0,1,12,13])
 (R [0,1,12,13] [o 40 (Bn .add 13 1),v 13 40]))))
def code580:AFunc:=⟨false,false,2,44,[.tmp 4],
 S (R [0,1] [o 4 (.val (n 0))])
 (S (S (R [0,1,12,13] [v 7 0,o 8 (.nilcheck (t 7)),o 9 (Fa 8 4),o 10 (Lq 9),o 11 (Sl 10),o 12 (.bin .mul (n 4) (t 11)),o 13 (.val (n 0))])
 (.after (.block 0 (.loop code580L0)) [0,1]))
 (S (S (R [43] [v 41 0,v 42 1,o 43 (.callg 597 [t 41,t 42])])
 (.after (.cond (t 43) (S (R [4] [o 4 (.val (n 0))])
 (Z [4])) (.skip)) []))
 (S (R [4] [o 4 (.val (n 10))])
 (Z [4])))),none⟩
def rcode615a:ACode :=
 R [1,2,7] [v 7 48]
def rcode615b:ACode :=
 .after (.block 1 (S (R [1,2,8] [o 49 (Lq 1),v 50 7,o 51 (.callg 577 [t 49,t 50]),v 8 51])
 (S (R [1,2,8,53] [v 52 8,o 53 (Bn .neq 52 0)])
 (.after (.cond (t 53) (S (R [] [o 54 (Lq 1),v 55 8,o 56 (.callg 578 [t 54,t 55]),u (.store 1 (t 2) (t 56))])
 (Z [])) (.skip)) [])))) []
def round615:ARound:=⟨[48],rcode615a,rcode615b⟩
def code615:AFunc:=⟨false,false,0,0,[],.skip,some (.round round615)⟩
def code599:AFunc:=⟨false,false,1,62,[.cell 2 none],
 S (R [1,2] [o 1 (.box (t 0)),o 2 (.alloc 1 [.int .i64 0])])
 (S (R [1,2,3,4] [o 10 (Lq 1),o 11 (.nilcheck (t 10)),o 12 (Fa 11 4),o 13 (Lq 12),o 14 (.callg 5 [t 13]),v 9 14,o 15 (Xt 9 0),o 16 (Xt 9 1),v 3 15,v 4 16])
 (S (S (R [1,2,3,18] [v 17 4,o 18 (.un .not (t 17))])
 (.after (.cond (t 18) (S (R [2] [u (.store 1 (t 2) (n 10))])
 (Z [2])) (.skip)) [1,2,3]))
 (S (S (R [1,2,3,24] [v 19 3,o 20 (Lq 1),o 21 (.nilcheck (t 20)),o 22 (Fa 21 6),o 23 (Lq 22),o 24 (Bt .eql 19 23)])
 (.after (.cond (t 24) (R [1,2,3] [o 25 (Lq 1),o 26 (.nilcheck (t 25)),o 27 (Fa 26 6),u (.store 1 (t 27) (.const (.int .i64 (-1))))]) (.skip)) [1,2,3]))
 (S (R [1,2,3,5] [o 28 (Lq 1),v 29 3,o 30 (.callg 617 [t 28,t 29]),v 5 30])
 (S (S (.after (.region [⟨false,[],[v 31 5,o 32 (Sl 31),o 33 (Bn .gtr 32 0),v 34 33]⟩,⟨true,[],[g 35 34 true (Lq 1),g 36 34 true (Vl 5),g 37 34 true (.callg 579 [t 36])]⟩,⟨false,[],[g 38 34 true (.callg 597 [t 35,t 37]),g 39 34 true (.un .not (t 38)),o 40 (.pick (t 34) (t 39) F)]⟩]) [1,2,3,5,40])
 (.after (.cond (t 40) (S (R [1,2,3,5,6] [o 41 (Lq 1),o 42 (.callg 598 [t 41]),v 6 42])
 (S (R [1,2,3,5,6,44] [v 43 6,o 44 (Bn .neq 43 0)])
 (.after (.cond (t 44) (S (R [2] [v 45 6,u (.store 1 (t 2) (t 45))])
 (Z [2])) (.skip)) [1,2,3,5]))) (.skip)) [1,2,3,5]))
 (S (S (R [1,2,3,47] [v 46 5,o 47 (.callg 616 [t 46,n 16])])
 (.after (.block 0 (.after (.rangeFunc (t 47) 615 [1,2] [48] rcode615a rcode615b) [1,2,3])) [1,2,3]))
 (S (.after (.region [⟨true,[0,0,0,6],[o 57 (Lq 1),o 58 (Lq 1),v 59 3,o 60 (.callg 100594 [t 58,t 59])]⟩,⟨false,[],[o 61 (.callg 578 [t 57,t 60]),u (.store 1 (t 2) (t 61))]⟩]) [2])
 (Z [2])))))))),none⟩
def code617L0:ACode :=
 .live [2,8,32,33,34] (S (R [2,8,32,33,34,35] [o 35 (Bt .lss 34 33)])
 (S (.after (.cond (t 35) (.skip) (.live [8] (.exit 2))) [2,8,32,33,34])
 (S (.after (.block 3 (S (R [2,8,10,32,33,34] [o 36 (.iaddr 1 (t 32) (t 34)),o 37 (Lq 36),v 10 37])
 (R [2,8,32,33,34] [v 38 8,v 39 10,o 40 (Lq 2),o 41 (.nilcheck (t 40)),o 42 (Fa 41 5),o 43 (Lq 42),v 44 10,o 45 (.ext (.lookup (.one .s) (.agg [.int .i64 0,.int .i64 0,.str []]) false) [t 43,t 44]),o 46 (.field (t 45) 2 none),o 47 (.conv .bytes (t 46)),o 48 (.build [.int .i64 0,.int .u32 0,.str [],.slice none 0 (some 0),.int .i64 0] [(0,1,n 1),(2,1,t 39),(3,1,t 47)]),o 49 (.mkslice 5 1 [.int .i64 0,.int .u32 0,.str [],.slice none 0 (some 0),.int .i64 0] [(0,5,t 48)]),o 50 (.append 5 64 (t 38) (t 49)),v 8 50]))) [2,8,32,33,34])
 (R [2,8,32,33,34] [o 51 (Bn .add 34 1),v 34 51]))))
def code617L1:ACode :=
 .live [1,2,5,15] (S (.after (S (.next (some 16) (t 15)) (.region [⟨false,[],[o 17 (Xt 16 0)]⟩])) [1,2,5,15,17])
 (S (.after (.cond (t 17) (.skip) (.live [2,5] (.exit 0))) [1,2,5,15])
 (.after (.block 1 (S (R [1,2,5,6,7,15] [o 18 (.ext .entry [t 15]),o 19 (Xt 18 0),o 20 (Xt 18 1),o 7 (.lalloc [.int .i64 0,.int .i64 0,.str []]),v 6 19,u (.store 3 (t 7) (t 20))])
 (S (R [1,2,5,6,15,24] [o 21 (Fa 7 0),o 22 (Lq 21),v 23 1,o 24 (Bt .eql 22 23)])
 (.after (.cond (t 24) (R [1,2,5,15] [v 25 5,v 26 6,o 27 (.mkslice 1 1 [.str []] [(0,1,t 26)]),o 28 (.append 1 16 (t 25) (t 27)),v 5 28]) (.skip)) [1,2,5,15])))) [1,2,5,15])))
def code617:AFunc:=⟨false,true,2,53,[.tmp 4],
 S (R [1,2] [o 2 (.box (t 0)),o 4 (.val (.const (.slice none 0 (some 0))))])
 (S (R [1,2,5] [o 5 (.val (.const (.slice none 0 (some 0))))])
 (S (S (R [1,2,5,15] [o 11 (Lq 2),o 12 (.nilcheck (t 11)),o 13 (Fa 12 5),o 14 (Lq 13),o 15 (.ext .mkiter [t 14])])
 (.after (.block 0 (.loop code617L1)) [2,5]))
 (S (R [2,5] [v 29 5,o 30 (.mkfunc 627 [] [t 2]),o 31 (.callg 628 [t 29,t 30])])
 (S (R [2,5,8] [o 8 (.val (.const (.slice none 0 (some 0))))])
 (S (S (R [2,8,32,33,34] [v 32 5,o 33 (Sl 32),o 34 (.val (n 0))])
 (.after (.block 2 (.loop code617L0)) [8]))
 (S (R [4] [v 52 8,v 4 52])
 (Z [4]))))))),none⟩
def T:Nat→Option AFunc:=fun g=>match AbsBlb.T g with
 | some f=>some f
 | none=>List.lookup g [(88,code88),(140,code140),(142,code142),(480,code480),(494,code494),(495,code495),(496,code496),(497,code497),(505,code505),(506,code506),(507,code507),(522,code522),(512,code512),(513,code513),(525,code525),(531,code531),(542,code542),(549,code549),(555,code555),(556,code556),(557,code557),(562,code562),(567,code567),(570,code570),(580,code580),(615,code615),(599,code599),(617,code617)]
theorem sub:∀ g f,AbsBlb.T g=some f→T g=some f:=fun g f h=>by unfold T; rw [h]
theorem t88:T 88=some code88:=rfl
theorem t140:T 140=some code140:=rfl
theorem t142:T 142=some code142:=rfl
theorem t480:T 480=some code480:=rfl
theorem t494:T 494=some code494:=rfl
theorem t495:T 495=some code495:=rfl
theorem t496:T 496=some code496:=rfl
theorem t497:T 497=some code497:=rfl
theorem t505:T 505=some code505:=rfl
theorem t506:T 506=some code506:=rfl
theorem t507:T 507=some code507:=rfl
theorem t522:T 522=some code522:=rfl
theorem t512:T 512=some code512:=rfl
theorem t513:T 513=some code513:=rfl
theorem t525:T 525=some code525:=rfl
theorem t531:T 531=some code531:=rfl
theorem t542:T 542=some code542:=rfl
theorem t549:T 549=some code549:=rfl
theorem t555:T 555=some code555:=rfl
theorem t556:T 556=some code556:=rfl
theorem t557:T 557=some code557:=rfl
theorem t562:T 562=some code562:=rfl
theorem t567:T 567=some code567:=rfl
theorem t570:T 570=some code570:=rfl
theorem t580:T 580=some code580:=rfl
theorem t615:T 615=some code615:=rfl
theorem t599:T 599=some code599:=rfl
theorem t617:T 617=some code617:=rfl
end Go.Abs.AbsBlo

namespace Go.Abs.AbsBlo
open Go.Abs.AbsBlb hiding T
open Go.Abs.Short
theorem CodeD.run {E:Env} {T:Nat→Option AFunc} (d:AgreesX E T) (hm:E.P.follows .mixedOrders=true) {c:ACode} {st st':St} {e:AExit} {Q:AExit→St→Prop} (h:∀ k':AExit→St→Option Unit,xK T c st (k:=⟨k'⟩)=k' e st') (j:Q e st'):CodeD E c st Q :=
 CodeD.of_kX d hm (by rw [h]; exact okIf_iff.2 j)
theorem OpsD.run {E:Env} {T:Nat→Option AFunc} {K:Slots→Heap→Prop} {l r:List AOper} {s s1:Slots} {h h1:Heap} (e:∀ k:Slots→Heap→Option (Slots × Heap),opsK (xCall T) l s h (k:=⟨k⟩)=k s1 h1) (hr:OpsD E T K r s1 h1):OpsD E T K (l++r) s h:=by
 refine OpsD.ops (s1:=s1) (h1:=h1) ?_ hr;have:=e fun s h=>some (s,h)
 unfold opsK at this;cases hx:evOps (xCall T) l s h with
 | none=>rw [hx] at this; cases this
 | some p=>rw [hx] at this; exact this
def keyC (k:Bs):List AVal:=[.str k]
theorem xp:∀ A:List Bs,A.flatMap keyC=A.map AVal.str
 | []=>rfl
 | a :: A=>by rw [d0,xp A]; rfl
theorem filt_lt {α:Type} {p e:α→Bool}:∀ {l:List α},(∀ x ∈ l,e x=true→p x=true)→(∃ x ∈ l,p x=true∧e x=false)→(l.filter e).length < (l.filter p).length
 | [],_,⟨x,hx,_⟩=>by cases hx
 | a :: l,h,⟨x,hx,h1,h2⟩=>by
  have y:(l.filter e).length≤(l.filter p).length:=by
   have:∀ {l:List α},(∀ x ∈ l,e x=true→p x=true)→(l.filter e).length≤(l.filter p).length:=by
    intro l;induction l with
    | nil=>intro _; simp
    | cons a l j =>
     intro h;have j:=j fun x hx=>h x (bd _ hx)
     by_cases c:e a=true
     ·rw [List.filter_cons_of_pos c,List.filter_cons_of_pos (h a (a8 ..) c)]; simp; exact j
     ·rw [List.filter_cons_of_neg c];by_cases d:p a=true
      ·rw [List.filter_cons_of_pos d]; simp; omega
      ·rw [List.filter_cons_of_neg d]; exact j
   exact this fun x hx=>h x (bd _ hx)
  rcases cj.1 hx with rfl | hx
  ·rw [List.filter_cons_of_neg (by rw [h2]; decide),List.filter_cons_of_pos h1]; simp; omega
  ·have j:=filt_lt (l:=l) (fun x hx=>h x (bd _ hx)) ⟨x,hx,h1,h2⟩;by_cases c:e a=true
   ·rw [List.filter_cons_of_pos c,List.filter_cons_of_pos (h a (a8 ..) c)]; simp; exact j
   ·rw [List.filter_cons_of_neg c];by_cases d:p a=true
    ·rw [List.filter_cons_of_pos d]; simp; omega
    ·rw [List.filter_cons_of_neg d]; exact j
theorem vt:∀ {ix:List Ent} {e:Ent},(ix.map (·.2.2)).Nodup→e ∈ ix→(ix.map entV).find? (fun x=>x.2.2 == e.2.2)=some (entV e)
 | a :: ix,e,j,d=>by
  rw [bi,List.nodup_cons] at j;rw [bi];rcases cj.1 d with rfl | d
  ·rw [List.find?_cons_of_pos (by simp [entV])]
  ·rw [List.find?_cons_of_neg,vt j.2 d];have:a.2.2≠e.2.2:=fun h=>j.1 (bt.2 ⟨e,d,h.symm⟩)
   simpa [entV] using this
theorem oa {α:Type} [DecidableEq α]:∀ {l l':List α},l.Nodup→(∀ x ∈ l,x ∈ l')→l.length≤l'.length
 | [],_,_,_=>fk _
 | a :: l,l',d,h=>by
  have d:=List.nodup_cons.1 d;have j:=oa (l':=l'.erase a) d.2 fun x hx=>(List.mem_erase_of_ne (fun e=>by subst e; exact d.1 hx)).2 (h x (bd _ hx))
  have ha:=h a (a8 ..);rw [List.length_erase_of_mem ha] at j;have:=List.length_pos_of_mem ha;rw [cq]; omega
def Sel (ix:List Ent) (i:Nat) (A:List Bs) (seen:List Nat):Prop:=A.Nodup∧∀ k,k ∈ A ↔ ∃ e ∈ ix,e.2.2 ∈ seen∧e.2.1.sec=i∧e.1=k
def LoopQ (H1:List AObj) (lo it cb i b:Nat) (ix:List Ent) (e:AExit) (st:St):Prop :=
 e = .exit 0∧∃ A P x w',Pre H1 P∧FRow it 1 keyC A P x∧A.Nodup∧(∀ k,k ∈ A ↔ ∃ e ∈ ix,e.2.1.sec=i∧e.1=k)∧it+1≤P.length∧lo≤w'∧st=⟨[(2,.val (.ptr (some (cb,0)))),(5,.val x)],⟨P,b,w'⟩⟩
def LoopJ (H1:List AObj) (lo it cb i b m0 clock:Nat) (ix:List Ent) (m:Nat) (st:St):Prop:=∃ seen A P x w',m=(ix.filter fun e=>!seen.contains e.2.2).length∧Pre H1 P∧P[it]? = some (.mapIter (some m0) clock seen clock)∧FRow it 1 keyC A P x∧Sel ix i A seen∧it+1≤P.length∧lo≤w' ∧
  st=⟨[(1,.val (.int .i64 i)),(2,.val (.ptr (some (cb,0)))),(5,.val x),(15,.val (.ptr (some (it,0))))],⟨P,b,w'⟩⟩
def LoopN (H1:List AObj) (lo it cb i b m0 clock:Nat) (ix:List Ent) (m:Nat) (st:St):Prop:=∃ j,j < m∧LoopJ H1 lo it cb i b m0 clock ix j st
section
variable {H:List AObj} {b w:Nat} {I:SI} {F:Fl} {K:StU}
section
attribute [-simp] getElem?_pos getElem?_neg List.all_eq_true
attribute [local simp] qZ qS nltT nltF iltT iltF ileT nleT di
theorem live_loop {H1:List AObj} {lo it cb:Nat} (hI:H1[I.m]? = some K.map) (hx:IxOK K.ix K.clock) (ci:K.ix.length≤1000) (b5:∀ e ∈ K.ix,e.2.1.sec≤1000000) (a6:it=H1.length) (hb:b≤it) {i w0:Nat} (hi:i≤1000000) (cp:lo≤it) (b6:lo≤w0) :
  Wp T (.loop code617L1) ⟨[(1,.val (.int .i64 i)),(2,.val (.ptr (some (cb,0)))),(5,.val (.slice none 0 (some 0))),(15,.val (.ptr (some (it,0))))],⟨H1++[.mapIter (some I.m) K.clock [] K.clock],b,w0⟩⟩ (LoopQ H1 lo it cb i b K.ix):=by
 refine Wp_loop (LoopJ H1 lo it cb i b I.m K.clock K.ix) (fun m st hJ=>?_) _ _ ⟨[],[],_,_,w0,rfl,fun k o B=>by rw [ag (ah B)]; exact B,by rw [a6]; exact gc _ _,.inl ⟨rfl,rfl⟩,⟨by simp,fun k=>by simp⟩,by simp [a6],b6,rfl⟩;obtain ⟨seen,A,P,x,w1,rfl,s1,s2,s3,V,s5,s6,rfl⟩:=hJ;have cv:I.m < it:=by have:=ah hI; omega
 have aa:P[I.m]? = some K.map:=s1 _ _ hI;have c4:=ah s2;unfold code617L1;refine zae ?_;refine na (ul (na ?_));refine zaf (m:=I.m) (i:=it) (since:=K.clock) (last:=K.clock) (clock:=K.clock) (seen:=seen) (es:=K.ix.map entV) (by simp) (by show b≤_; exact hb) s2 aa (fun e he=>?_) (aj _) (fun ac=>?_) (fun e he ad=>?_)
 ·obtain ⟨d,h0,rfl⟩:=bt.1 he;exact hx.c d h0
 ·have b7:∀ k,k ∈ A ↔ ∃ e ∈ K.ix,e.2.1.sec=i∧e.1=k:=fun k=>by
   rw [V.2 k];constructor
   ·rintro ⟨e,h1,-,h2,G⟩; exact ⟨e,h1,h2,G⟩
   ·rintro ⟨e,h1,h2,G⟩; exact ⟨e,h1,ac _ (bt.2 ⟨e,h1,rfl⟩),h2,G⟩
  have C:LoopQ H1 lo it cb i b K.ix (.exit 0) ⟨[(2,.val (.ptr (some (cb,0)))),(5,.val x)],⟨P.set it .dead,b,min w1 it⟩⟩:=⟨rfl,A,P.set it .dead,x,min w1 it,fun k o B=>by
   rw [aq (by have:=ah B; omega)]; exact s1 _ _ B,s3.monoE fun k o B ho=>by
   rw [aq (fun e=>by rw [← e,s2] at ho; cases ho)]; exact ho,V.1,b7,by rw [az]; exact s5,by omega,rfl⟩
  refine Wp_x rfl ?_;simp (disch:=omega) [];refine Wp_x rfl ?_;simp (disch:=omega) [C]
 ·obtain ⟨d,h0,rfl⟩:=bt.1 he;have al:d.2.2 ∉ seen:=ad;have bb:=vt hx.t h0
  have cx:A.length≤K.ix.length:=by
   have:=oa (l':=K.ix.map (·.1)) V.1 fun k B=>by obtain ⟨e,h1,-,-,J⟩:=(V.2 k).1 B;exact bt.2 ⟨e,h1,J⟩
   rwa [a7] at this
  let p:=P.set it (.mapIter (some I.m) K.clock (seen++[d.2.2]) K.clock)
  have L:p.length=P.length:=az;have g1:∀ k o,k≠it→P[k]? = some o→p[k]? = some o:=fun k o B ho=>by show (P.set _ _)[k]? = _; rw [aq (fun e=>B e.symm)]; exact ho
  have g2:p[it]? = some (.mapIter (some I.m) K.clock (seen++[d.2.2]) K.clock):=ke s2;have an:p[I.m]? = some (.map (K.ix.map entV) K.clock):=g1 _ _ (by omega) aa;have N:Pre H1 p:=fun k o B=>g1 _ _ (by have:=ah B; omega) (s1 _ _ B)
  have ao:FRow it 1 keyC A p x:=s3.monoE fun k o B ho=>g1 _ _ (fun e=>by rw [e,s2] at ho; cases ho) ho
  have ax:(K.ix.filter fun e=>!(seen++[d.2.2]).contains e.2.2).length < (K.ix.filter fun e=>!seen.contains e.2.2).length:=filt_lt (fun y _ hy=>by simp only [ep,sy,bz,bk,decide_eq_false_iff_not,not_or] at hy ⊢;exact hy.1) ⟨d,h0,by simpa using al,by simp⟩
  have W:∀ w,ct .entry [.ptr (some (it,0))] ⟨p,b,w⟩=some (.tuple [.str d.1,d.2.1.val],⟨p,b,w⟩):=fun w=>by simp only [ct,Heap.get,g2,an,List.getLast?_append,List.getLast?_singleton,Option.some_or,if_true,bb,b8]; rfl
  have c5:=b5 d h0;by_cases c:d.2.1.sec=i
  ·obtain ⟨P2,x2,n2,f1,f2,f3,f4,f5⟩:=ao.add' (b:=b) (by':=16) (fun _=>rfl) (by omega) (by omega) (by omega) (by omega) d.1
   have O:Sel K.ix i (A++[d.1]) (seen++[d.2.2]):=by
    refine ⟨?_,fun k=>?_⟩
    ·rw [z7];refine ⟨V.1,by simp,fun a ha y hy=>?_⟩;rw [bk] at hy;subst hy;obtain ⟨e,h1,h2,-,J⟩:=(V.2 a).1 ha;intro hh;obtain ⟨j1,D⟩:=ga.1 h1;obtain ⟨j2,j⟩:=ga.1 h0;have:=od hx.k D j (J.trans hh);subst this;rw [D] at j;cases j;exact al h2
    ·rw [bz,bk,V.2 k];constructor
     ·rintro (⟨e,h1,h2,G,J⟩ | rfl)
      ·exact ⟨e,h1,dr _ h2,G,J⟩
      ·exact ⟨d,h0,by simp,c,rfl⟩
     ·rintro ⟨e,h1,h2,G,J⟩;rcases bz.1 h2 with h2 | h2
      ·exact .inl ⟨e,h1,h2,G,J⟩
      ·rw [bk] at h2;right;obtain ⟨j1,D⟩:=ga.1 h1;obtain ⟨j2,j⟩:=ga.1 h0
       have e3:j1=j2:=by
        have q1:(K.ix.map (·.2.2))[j1]? = some e.2.2:=by rw [bp,D]; rfl
        have q2:(K.ix.map (·.2.2))[j2]? = some e.2.2:=by rw [bp,j,h2]; rfl
        exact (List.getElem?_inj (ah q1) hx.t).1 (q1.trans q2.symm)
       subst e3;rw [D] at j;cases j;exact J.symm
   have C:∀ w',lo≤w'→LoopN H1 lo it cb i b I.m K.clock K.ix (K.ix.filter fun e=>!seen.contains e.2.2).length ⟨[(1,.val (.int .i64 i)),(2,.val (.ptr (some (cb,0)))),(5,.val x2),(15,.val (.ptr (some (it,0))))],⟨P2,b,w'⟩⟩:=fun w' ay =>
    ⟨_,ax,seen++[d.2.2],A++[d.1],P2,x2,w',rfl,fun k o B=>f2 _ _ (N _ _ B) fun hh=>by have:=ah B; omega,f2 _ _ g2 (fun hh cs e=>by cases e),f1,O,by omega,ay,rfl⟩
   have C:=fun w' (ay:lo≤w')=>C (n2 w') (by have:=(f4 w').2; omega)
   have cy:p.length≠it:=by omega
   have X:((d.2.1.sec:Int)=(i:Int)):=by omega
   unfold keyC at f5;unfold PlU.val at W;refine Wp_x rfl ?_;simp (disch:=omega) [];refine Wp_x rfl ?_;have bm:∀ w,d7 1 16 ⟨p++[.cells 1 [.str d.1]],b,w⟩ x (.slice (some (P.length,0)) 1 (some 1))=some (x2,⟨P2,b,n2 w⟩):=fun w=>by rw [← L]; exact f5 w
   have U:P.set it (.mapIter (some I.m) K.clock (seen++[d.2.2]) K.clock)=p:=rfl;have hv:(entV d).2.1 = .agg [.int .i64 d.2.1.sec,.int .i64 d.2.1.at_,.str d.2.1.blob]:=rfl;have bx:(entV d).1 = .str d.1:=rfl;have a0:(entV d).2.2=d.2.2:=rfl;rw [a0,U];generalize p=p at *;simp (disch:=omega) [-ct,-d7,W,bm,X,L];have:=C (min w1 it) (by omega);unfold LoopN at this;simpa using this
  ·have O:Sel K.ix i A (seen++[d.2.2]):=by
    refine ⟨V.1,fun k=>?_⟩;rw [V.2 k];constructor
    ·rintro ⟨e,h1,h2,G,J⟩;exact ⟨e,h1,dr _ h2,G,J⟩
    ·rintro ⟨e,h1,h2,G,J⟩;rcases bz.1 h2 with h2 | h2
     ·exact ⟨e,h1,h2,G,J⟩
     ·rw [bk] at h2;exfalso;obtain ⟨j1,D⟩:=ga.1 h1;obtain ⟨j2,j⟩:=ga.1 h0
      have e3:j1=j2:=by
       have q1:(K.ix.map (·.2.2))[j1]? = some e.2.2:=by rw [bp,D]; rfl
       have q2:(K.ix.map (·.2.2))[j2]? = some e.2.2:=by rw [bp,j,h2]; rfl
       exact (List.getElem?_inj (ah q1) hx.t).1 (q1.trans q2.symm)
      subst e3;rw [D] at j;cases j;exact c G
   have C:LoopN H1 lo it cb i b I.m K.clock K.ix (K.ix.filter fun e=>!seen.contains e.2.2).length ⟨[(1,.val (.int .i64 i)),(2,.val (.ptr (some (cb,0)))),(5,.val x),(15,.val (.ptr (some (it,0))))],⟨p,b,min w1 it⟩⟩ :=
    ⟨_,ax,seen++[d.2.2],A,p,x,min w1 it,rfl,N,g2,ao,O,by omega,by omega,rfl⟩
   have X:¬ ((d.2.1.sec:Int)=(i:Int)):=by omega
   unfold PlU.val at W;refine Wp_x rfl ?_;simp (disch:=omega) [];refine Wp_x rfl ?_;have U:P.set it (.mapIter (some I.m) K.clock (seen++[d.2.2]) K.clock)=p:=rfl;have hv:(entV d).2.1 = .agg [.int .i64 d.2.1.sec,.int .i64 d.2.1.at_,.str d.2.1.blob]:=rfl;have bx:(entV d).1 = .str d.1:=rfl;have a0:(entV d).2.2=d.2.2:=rfl;rw [a0,U];generalize p=p at *;simp (disch:=omega) [-ct,-d7,W,X,L];unfold LoopN at C;simpa using C
end
end
end Go.Abs.AbsBlo

namespace Go.Abs.AbsBlb
open Go.Abs.Short
def plK (ix:List Ent) (k:Bs):PlU:=match findK k ix with
 | some x=>x.2
 | none=>⟨0,0,[]⟩
def recK (ix:List Ent) (k:Bs):RecU:=⟨1,0,k,(plK ix k).blob,0⟩
section
variable {H:List AObj} {b w:Nat} {I:SI} {F:Fl} {K:StU}
theorem ext_pl (h:H[I.m]? = some K.map) (k:Bs):ct (.lookup (.one .s) (.agg [.int .i64 0,.int .i64 0,.str []]) false) [.map (some I.m),.str k] ⟨H,b,w⟩=some (.agg [.int .i64 (plK K.ix k).sec,.int .i64 (plK K.ix k).at_,.str (plK K.ix k).blob],⟨H,b,w⟩):=by have d:H[I.m]? = some (.map (K.ix.map entV) K.clock):=h;have e:=ti k K.ix;have hi:isKey (.one .s) (.str k)=true:=rfl;unfold ct plK;simp only [hi,if_true,entriesOf,Heap.get,d,e];cases findK k K.ix <;> rfl
theorem s627 (h:StA H I F K) {cb:Nat} (hc:H[cb]? = some (.cells 1 [.ptr (some (I.s,0))])) (x y:Bs):xCall T 627 [.str x,.str y,.ptr (some (cb,0))] ⟨H,b,w⟩=some (.int .i64 (cmpI (plK K.ix x).at_ (plK K.ix y).at_),⟨H,b,w⟩):=by
 have p:=h.s;unfold StU.cells at p;have A:=fun k w=>ext_pl (b:=b) (w:=w) h.m k
 have d:=fun x y h=>s638 (x:=x) (y:=y) (h:=h)
 generalize hx:plK K.ix x=px at *;generalize B:plK K.ix y=py at *;have e:=fun w=>A x w
 have j:=fun w=>A y w
 rw [hx] at e;rw [B] at j;simp (disch:=omega) [-getElem?_pos,-getElem?_neg,-List.all_eq_true,qZ,qS,nltT,nltF,iltT,iltF,ileT,nleT,di,bg t627,code627,-ct,hc,p,e,j,d]
end
end Go.Abs.AbsBlb
namespace Go.Abs.AbsBlo
open Go.Abs.AbsBlb hiding T
open Go.Abs.Short
section
variable {H:List AObj} {b w:Nat} {I:SI} {F:Fl} {K:StU}
section
attribute [-simp] getElem?_pos getElem?_neg List.all_eq_true
attribute [local simp] qZ qS nltT nltF iltT iltF ileT nleT di
theorem l617 {H0:List AObj} {N q cb:Nat} {L:List Bs} (h:StA H0 I F K) (hN:I.hi < N∧I.fi.fl < N) (a0:N≤H0.length) (hb:b≤N) (D:H0[cb]? = some (.cells 1 [.ptr (some (I.s,0))])) (hq:H0[q]? = some (strsO L)) (a6:L.length≤1000) (G:∀ k ∈ L,(plK K.ix k).blob.length≤1000000):∀ (j i w:Nat) (P:List AObj) (A:List RV) (x:AVal),i+j=L.length→A.length=i→(∀ (k:Nat) (o:AObj),H0[k]? = some o→(N≤k→∀ cs,o ≠ .cells 5 cs)→P[k]? = some o)→H0.length≤P.length→FRow N 5 RV.cells A P x→(∀ p ∈ A,p.new N P)→N≤w →
  ∃ (P':List AObj) (J:List RV) (x':AVal) (w':Nat),(∀ (k:Nat) (o:AObj),H0[k]? = some o→(N≤k→∀ cs,o ≠ .cells 5 cs)→P'[k]? = some o)∧FRow N 5 RV.cells (A++J) P' x'∧J.map Prod.fst=(L.drop i).map (recK K.ix)∧(∀ p ∈ A++J,p.new N P')∧N≤w'∧∀ {β:Type} (k:AExit→St→Option β),
  xK T (.loop code617L0) ⟨[(2,.val (.ptr (some (cb,0)))),(8,.val x),(32,.val (.slice (some (q,0)) L.length none)),(33,.val (.int .i64 L.length)),(34,.val (.int .i64 i))],⟨P,b,w⟩⟩ (k:=⟨k⟩) =
   k (.exit 2) ⟨[(8,.val x')],⟨P',b,w'⟩⟩
 | 0,i,w,P,A,x,hi,hA,d,O,hx,hn,hw=>by have hd:L.drop i=[]:=dk (by omega);refine ⟨P,[],x,w,d,by rw [gt]; exact hx,by rw [hd]; rfl,by rw [gt]; exact hn,hw,fun k=>?_⟩;rw [b9];simp (disch:=omega) [code617L0]
 | j+1,i,w,P,A,x,hi,hA,d,O,hx,hn,hw=>by
  obtain ⟨c,hc⟩:∃ c,L[i]? = some c:=⟨_,ai (by omega)⟩;have aa:=iy hc;have ac:=br hc;have U:=d _ _ hq fun _ cs e=>by simp [strsO] at e
  have ad:=d _ _ D fun _ cs e=>by simp at e
  have hI:I.s≤I.hi∧I.m≤I.hi:=by unfold SI.hi; omega
  have V:=d _ _ h.s fun C=>by omega
  have y:=d _ _ h.m fun C=>by omega
  have he:=fun w X=>ext_pl (b:=b) (w:=w) (H:=P++X) (I:=I) (K:=K) (by rw [ag (ah y)]; exact y) c
  have al:=fun w=>ext_pl (b:=b) (w:=w) (H:=P) (I:=I) (K:=K) y c
  have an:=G c ac;have hg:(L.map AVal.str)[i]? = some (.str c):=by rw [bp,hc]; rfl
  have ao:(L.map AVal.str).length=L.length:=a7 _;let v:AVal:=.slice (some (P.length,0)) (plK K.ix c).blob.length none
  have B:(P++[AObj.cells 1 ((plK K.ix c).blob.map u8V)])[P.length]? = some (.cells 1 ((plK K.ix c).blob.map u8V)):=gc _ _
  have ax:RV.new N (P++[AObj.cells 1 ((plK K.ix c).blob.map u8V)]) (recK K.ix c,v):=by
   refine ⟨⟨some (P.length,0),none,rfl,fun p o e=>?_,.inr ⟨P.length,0,rfl,SlB.whole B rfl,aj _⟩⟩,fun q o n k e=>?_⟩
   ·simp only [fq,pb] at e;rw [← e.1]; exact ah B
   ·have e:AVal.slice (some (P.length,0)) (plK K.ix c).blob.length none = .slice (some (q,o)) n k:=e;simp only [AVal.slice.injEq,fq,pb] at e;rw [← e.1.1];exact ⟨by omega,_,B⟩
  have ay:=hx.monoE (P':=P++[AObj.cells 1 ((plK K.ix c).blob.map u8V)]) fun k cs _ ho=>by rw [ag (ah ho)]; exact ho
  obtain ⟨P4,x4,n4,f1,f2,f3,f4,f5⟩:=ay.add' (b:=b) (by':=64) (fun _=>rfl) (by rw [au]; omega) hb (by omega) (by omega) (recK K.ix c,v);have up:∀ (k:Nat) (o:AObj),P[k]? = some o→(N≤k→∀ cs,o ≠ .cells 5 cs)→P4[k]? = some o:=fun k o ho C=>f2 k o (by rw [ag (ah ho)]; exact ho) C
  have W:∀ p ∈ A++[(recK K.ix c,v)],RV.new N P4 p:=fun p b5=>by
   rcases bz.1 b5 with h4 | h4
   ·exact (hn p h4).mono (by rw [au] at f3; omega) fun k X hk ho=>up _ _ ho fun _ cs e=>by simp at e
   ·rw [bk.1 h4];exact ax.mono f3 fun k X hk ho=>f2 _ _ ho fun _ cs e=>by simp at e
  obtain ⟨P',J,x',w',i1,i3,i4,i5,i6,i7⟩:=l617 h hN a0 hb D hq a6 G j (i+1) (n4 w) P4 _ x4 (by omega) (by rw [au]; simp; omega) (fun k o ho C=>up k o (d k o ho C) C) (by rw [au] at f3; omega) f1 W (by have:=(f4 w).2; omega);refine ⟨P',(recK K.ix c,v) :: J,x',w',i1,by rw [ba] at i3; exact i3,by rw [aa,bi,bi,i4],fun p b6=>i5 p (by rw [ba]; exact b6),i6,fun k=>?_⟩;have ih:=i7 k;have e2:((i+1:Nat):Int)=(i:Int)+1:=by omega
  rw [e2] at ih;rw [b9,← ih];have hm:(plK K.ix c).blob.map (fun b:UInt8=>AVal.int .u8 b.toNat)=(plK K.ix c).blob.map u8V:=rfl;have b7:v = .slice (some (P.length,0)) (plK K.ix c).blob.length none:=rfl;rw [b7] at f5;unfold RV.cells recK RecU.cells at f5;simp only [ba,fh,dw,au,cq,eq,dq,bf] at f5;unfold StU.cells at V;unfold strsO at U;generalize (plK K.ix c).blob.map u8V=Y at *;generalize O:plK K.ix c=pl at *;generalize L.map AVal.str=Z at *;generalize ACode.loop code617L0=LL;simp (disch:=omega) [code617L0,-d7,-ct,U,ad,V,al,hg,ao,f5,hm,an]
end
end
end Go.Abs.AbsBlo

namespace Go.Abs.AbsBlo
open Go.Abs.AbsBlb hiding T
open Go.Abs.Short
def LiveOK (ix:List Ent) (i:Nat) (l:List RecU):Prop:=∃ ks:List Bs,l=ks.map (recK ix)∧ks.Nodup∧∀ k,k ∈ ks ↔ ∃ e ∈ ix,e.2.1.sec=i∧e.1=k
section
variable {E:Env} {kl:List Bs} {H:List AObj} {b:Nat} {I:SI} {F:Fl} {K:StU}
theorem so_few (h:SO kl H I F K):K.ix.length≤kl.length:=by
 have:=oa (l':=kl) h.v.ix.k fun k d=>by obtain ⟨e,j,rfl⟩:=bt.1 d;exact (h.v.en e j).2.2.1
 rwa [a7] at this
theorem so_pl (h:SO kl H I F K) (k:Bs):(plK K.ix k).blob.length≤4096:=by
 unfold plK;split
 ·rename_i x hx;obtain ⟨e,h1,h2,d⟩:=mr hx;rw [← d];exact (h.v.en e (br h1)).2.2.2
 ·exact fk _
theorem body617:code617.body = .seq (R [1,2] [o 2 (.box (t 0)),o 4 (.val (.const (.slice none 0 (some 0))))])
 (.seq (R [1,2,5] [o 5 (.val (.const (.slice none 0 (some 0))))])
 (.seq (.seq (R [1,2,5,15] [o 11 (.load none (t 2)),o 12 (.nilcheck (t 11)),o 13 (.faddr (t 12) 5),o 14 (.load none (t 13)),o 15 (.ext .mkiter [t 14])])
 (.after (.block 0 (.loop code617L1)) [2,5]))
 (.seq (R [2,5] [v 29 5,o 30 (.mkfunc 627 [] [t 2]),o 31 (.callg 628 [t 29,t 30])])
 (.seq (R [2,5,8] [o 8 (.val (.const (.slice none 0 (some 0))))])
 (.seq (.seq (R [2,8,32,33,34] [v 32 5,o 33 (.len .sl (t 32)),o 34 (.val (n 0))])
 (.after (.block 2 (.loop code617L0)) [8]))
 (.seq (R [4] [v 52 8,v 4 52])
 (.live [4] (.ret)))))))):=rfl
section
attribute [-simp] getElem?_pos getElem?_neg List.all_eq_true
attribute [local simp] qZ qS nltT nltF iltT iltF ileT nleT di
theorem c617 (V:AgreesX E T) (hm:E.P.follows .mixedOrders=true) (hF:IsCode E 617 code617) (h:SO kl H I F K) (bx:kl.length≤12) {i:Nat} (hi:i < F.n) (hb:b≤H.length) (w:Nat) :
  CallD E 617 [.ptr (some (I.s,0)),.int .i64 i] ⟨H,b,w⟩ fun v h'=>∃ H' A,h'=⟨H',b,w⟩∧Pre H H'∧FRow H.length 5 RV.cells A H' v∧(∀ p ∈ A,p.new H.length H')∧LiveOK K.ix i (A.map Prod.fst):=by
 have bm:=so_few h;have c4:=h.a.fl.nb.1;have C:=h.a.hi;have D:=ah h.a.fl.f;have g1:=h.a.s;have gm:H[I.m]? = some (.map (K.ix.map entV) K.clock):=h.a.m;unfold StU.cells at g1;refine CallD.of_code hF rfl ?_;rw [body617];have ad:enter 0 [AVal.ptr (some (I.s,0)),.int .i64 i]=[(0,.val (.ptr (some (I.s,0)))),(1,.val (.int .i64 i))]:=rfl;have al:(⟨H,b,w⟩:Heap).size=H.length:=rfl;rw [ad];simp only [al];refine CodeD.seq nofun (CodeD.run (e:=.normal) (st':=⟨[(1,.val (.int .i64 i)),(2,.val (.ptr (some (H.length,0))))],⟨H++[.cells 1 [.ptr (some (I.s,0))]],b,H.length⟩⟩) V hm (fun k'=>by simp (disch:=omega) []) ?_);refine CodeD.seq nofun (CodeD.run (e:=.normal) (st':=⟨[(1,.val (.int .i64 i)),(2,.val (.ptr (some (H.length,0)))),(5,.val (.slice none 0 (some 0)))],⟨H++[.cells 1 [.ptr (some (I.s,0))]],b,H.length⟩⟩) V hm (fun k'=>by simp (disch:=omega) []) ?_);refine CodeD.seq nofun ?_
 refine CodeD.seq nofun (CodeD.run (e:=.normal) (st':=⟨[(1,.val (.int .i64 i)),(2,.val (.ptr (some (H.length,0)))),(5,.val (.slice none 0 (some 0))),(15,.val (.ptr (some (H.length+1,0))))],⟨(H++[.cells 1 [.ptr (some (I.s,0))]])++[.mapIter (some I.m) K.clock [] K.clock],b,H.length⟩⟩) V hm (fun k'=>by
  have an:∀ X,(H++X)[I.m]? = some (.map (K.ix.map entV) K.clock):=fun X=>by rw [ag (ah gm)]; exact gm
  have ao:=fun X=>(ag (l₂:=X) (ah g1)).trans g1
  generalize K.ix.map entV=es at *;simp (disch:=omega) [g1,ao,an,ct]) ?_)
 have ax:(H++[AObj.cells 1 [.ptr (some (I.s,0))]]).length=H.length+1:=by simp
 have ay:(H++[AObj.cells 1 [.ptr (some (I.s,0))]])[I.m]? = some K.map:=by rw [ag (ah h.a.m)]; exact h.a.m
 have b5:=fun {w0:Nat} (hw:H.length≤w0)=>live_loop (lo:=H.length) (cb:=H.length) (it:=H.length+1) (b:=b) ay h.v.ix (by omega) (fun e he=>by have:=(h.v.en e he).1; omega) ax.symm (by omega) (i:=i) (by omega) (by omega) hw
 refine CodeD.after (CodeD.block ((CodeD.of_wpX V hm (b5 (aj _))).mono fun e st hq _=>?_));obtain ⟨rfl,A,P,x,w',p1,p2,p3,p4,p5,p6,rfl⟩:=hq;simp only [xy,if_true];have b6:keepK [2,5] [(2,Slot.val (AVal.ptr (some (H.length,0)))),(5,Slot.val x)]=[(2,.val (.ptr (some (H.length,0)))),(5,.val x)]:=by simp
 rw [b6];have G:Pre H P:=fun k o j=>p1 _ _ (by rw [ag (ah j)]; exact j)
 have c5:StA P I F K:=h.a.low (N:=H.length) ⟨C,D⟩ fun k o j ho=>G k o ho
 have W:P[H.length]? = some (.cells 1 [.ptr (some (I.s,0))]):=p1 _ _ (gc _ _)
 have ci:A.length≤K.ix.length:=by
  have:=oa (l':=K.ix.map (·.1)) p3 fun k j=>by obtain ⟨e,h1,-,h4⟩:=(p4 k).1 j;exact bt.2 ⟨e,h1,h4⟩
  rwa [a7] at this
 rcases p2 with ⟨rfl,rfl⟩ | ⟨b7,q,hq,rfl,a0⟩
 ·have J:=fun w=>cf sub (s628z (H:=P) (a:=none) (c:=some 0) (g:=627) (am:=[]) (cm:=[.ptr (some (H.length,0))]) (b:=b) (w:=w))
  refine CodeD.run (e:=.ret) (st':=⟨[(4,.val (.slice none 0 (some 0)))],⟨P,b,w'⟩⟩) V hm (fun k'=>by simp (disch:=omega) [J,b9,code617L0]) ?_;refine ⟨_,_,?_,H,[],rfl,fun _ _ h=>h,.inl ⟨rfl,rfl⟩,(fun p hp=>by cases hp),[],rfl,by simp,fun k=>p4 k⟩;have hw:¬ w' < H.length:=by omega
  simp [funcEnd,code617,resultsL,tupled,dj,AVal.under,Heap.size,hw]
 ·have O:P[q]? = some (strsO A):=by unfold strsO; rw [← xp]; exact a0
  have a6:=ah O;have d:∀ L k o,k≠q→P[k]? = some o→(P.set q (strsO L))[k]? = some o:=fun L k o j ho=>by rw [aq (fun e=>j e.symm)]; exact ho
  have aa:∀ L,StA (P.set q (strsO L)) I F K:=fun L=>h.a.low (N:=H.length) ⟨C,D⟩ fun k o j ho=>d L k o (by omega) (G k o ho)
  obtain ⟨L',nx,q1,q2,q3⟩:=s628 (g:=627) (am:=[]) (cm:=[.ptr (some (H.length,0))]) (f:=fun x y=>cmpI (plK K.ix x).at_ (plK K.ix y).at_) (c:=none) (b:=b) (by omega) a6 (L:=A) (by omega) rfl O (fun L x y w=>by exact s627 (aa L) (d L _ _ (by omega) W) x y)
  have J:=fun w=>cf sub (q3 w)
  have ac:L'.length=A.length:=q1.length_eq;have bb:(P.set q (strsO L'))[q]? = some (strsO L'):=bj a6;obtain ⟨P',B,x',w2,i1,i2,i3,i4,i5,i6⟩:=l617 (b:=b) (aa L') (N:=H.length) (q:=q) (cb:=H.length) (L:=L') ⟨C,D⟩ (by rw [az]; omega) hb (d L' _ _ (by omega) W) bb (by omega) (fun k _=>by have:=so_pl h k; omega) L'.length 0 (nx w') (P.set q (strsO L')) [] (.slice none 0 (some 0)) (by omega) rfl (fun k o ho _=>ho) (aj _) (.inl ⟨rfl,rfl⟩) (fun p hp=>by cases hp) (by have:=(q2 w').1; omega);rw [ff] at i3;rw [dw] at i2 i4;rw [ac] at i6;simp only [bf] at i6
  have hB:B≠[]:=fun e=>by rw [e] at i3;have:=congrArg List.length i3;rw [a7,a7,ac] at this;exact b7 (bn this.symm)
  have U:Pre H P':=fun k o j=>i1 k o (d L' k o (by have:=ah j; omega) (G k o j)) fun hh=>by have:=ah j; omega
  obtain ⟨H',B',x2,j1,j2,j3,j4,j5⟩:=rows_fin (b:=b) (fun y=>y) (fun _=>rfl) (fun _ _=>rfl) (fun n p o k c=>by simp [AVal.under]) hB i2 i4 U i5
  refine CodeD.run (e:=.ret) (st':=⟨[(4,.val x')],⟨P',b,w2⟩⟩) V hm (fun k'=>by
   have i6:=fun (k:AExit→St→Option Unit)=>i6 k
   simp (disch:=omega) [J,i6]) ?_
  refine ⟨x2,⟨H',b,w⟩,?_,H',B',rfl,j1,j2,j4,L',by rw [j3,i3],q1.nodup_iff.2 p3,fun k=>(q1.mem_iff).trans (p4 k)⟩;have:=j5 w;simp only [funcEnd,code617,resultsL,result1,vj,sget];simp [-dj,tupled,this]
end
end
end Go.Abs.AbsBlo

namespace Go.Abs.AbsBlo
open Go.Abs.AbsBlb hiding T
open Go.Abs.Short
def d599:ACode:=.seq (.after (.region [⟨true,[0,0,0,6],[o 57 (.load none (t 1)),o 58 (.load none (t 1)),v 59 3,o 60 (.callg 100594 [t 58,t 59])]⟩,⟨false,[],[o 61 (.callg 578 [t 57,t 60]),u (.store 1 (t 2) (t 61))]⟩]) [2])
 (.live [2] (.ret))
def c599:ACode:=.seq (.seq (R [1,2,3,47] [v 46 5,o 47 (.callg 616 [t 46,n 16])])
 (.after (.block 0 (.after (.rangeFunc (t 47) 615 [1,2] [48] rcode615a rcode615b) [1,2,3])) [1,2,3]))
 d599
def b599:ACode:=.seq (.seq (.after (.region [⟨false,[],[v 31 5,o 32 (.len .sl (t 31)),o 33 (.bin .gtr (t 32) (n 0)),v 34 33]⟩,⟨true,[],[g 35 34 true (.load none (t 1)),g 36 34 true (.val (t 5)),g 37 34 true (.callg 579 [t 36])]⟩,⟨false,[],[g 38 34 true (.callg 597 [t 35,t 37]),g 39 34 true (.un .not (t 38)),o 40 (.pick (t 34) (t 39) F)]⟩]) [1,2,3,5,40])
 (.after (.cond (t 40) (.seq (R [1,2,3,5,6] [o 41 (.load none (t 1)),o 42 (.callg 598 [t 41]),v 6 42])
 (.seq (R [1,2,3,5,6,44] [v 43 6,o 44 (.bin .neq (t 43) (n 0))])
 (.after (.cond (t 44) (.seq (R [2] [v 45 6,u (.store 1 (t 2) (t 45))])
 (.live [2] (.ret))) (.skip)) [1,2,3,5]))) (.skip)) [1,2,3,5]))
 c599
theorem body599:code599.body = .seq (R [1,2] [o 1 (.box (t 0)),o 2 (.alloc 1 [.int .i64 0])])
 (.seq (R [1,2,3,4] [o 10 (.load none (t 1)),o 11 (.nilcheck (t 10)),o 12 (.faddr (t 11) 4),o 13 (.load none (t 12)),o 14 (.callg 5 [t 13]),v 9 14,o 15 (.extract (t 9) 0),o 16 (.extract (t 9) 1),v 3 15,v 4 16])
 (.seq (.seq (R [1,2,3,18] [v 17 4,o 18 (.un .not (t 17))])
 (.after (.cond (t 18) (.seq (R [2] [u (.store 1 (t 2) (n 10))])
 (.live [2] (.ret))) (.skip)) [1,2,3]))
 (.seq (.seq (R [1,2,3,24] [v 19 3,o 20 (.load none (t 1)),o 21 (.nilcheck (t 20)),o 22 (.faddr (t 21) 6),o 23 (.load none (t 22)),o 24 (.bin .eql (t 19) (t 23))])
 (.after (.cond (t 24) (R [1,2,3] [o 25 (.load none (t 1)),o 26 (.nilcheck (t 25)),o 27 (.faddr (t 26) 6),u (.store 1 (t 27) (.const (.int .i64 (-1))))]) (.skip)) [1,2,3]))
 (.seq (R [1,2,3,5] [o 28 (.load none (t 1)),v 29 3,o 30 (.callg 617 [t 28,t 29]),v 5 30])
 b599)))):=rfl
theorem zan {l l':List Nat} (h:l.Perm l'):l.sum=l'.sum:=by
 induction h with
 | nil=>rfl
 | cons x _ ih=>rw [dz,dz,ih]
 | swap x y l=>rw [dz,dz,dz,dz]; omega
 | trans _ _ h1 h2=>exact h1.trans h2
theorem plK_eq {ix:List Ent} {e:Ent} (h:(ix.map (·.1)).Nodup) (d:e ∈ ix):plK ix e.1=e.2.1:=by
 unfold plK;obtain ⟨j,p⟩:=ga.1 d;cases y:findK e.1 ix with
 | none=>exact absurd rfl (oc y e d)
 | some x =>
  obtain ⟨B,h1,h2,A⟩:=mr y;have:=od h h1 p h2;rw [this,p] at h1;cases h1;exact A.symm
theorem xm {ix:List Ent} {clock i:Nat} {l:List RecU} (h:IxOK ix clock) (j:LiveOK ix i l):sizes l=secSum i ix:=by
 obtain ⟨ks,rfl,h1,h2⟩:=j
 have B:ks.Perm ((ix.filter fun e=>decide (e.2.1.sec=i)).map (·.1)):=by
  refine (List.perm_ext_iff_of_nodup h1 ((List.filter_sublist.map _).nodup h.k)).2 fun k=>?_
  rw [h2 k,bt];constructor
  ·rintro ⟨e,d,y,A⟩; exact ⟨e,gj.2 ⟨d,by simpa using y⟩,A⟩
  ·rintro ⟨e,d,A⟩;obtain ⟨d,y⟩:=gj.1 d;exact ⟨e,d,by simpa using y,A⟩
 unfold sizes;rw [ut,zan (B.map _),ut]
 have:∀ l:List Ent,(∀ e ∈ l,e ∈ ix)→((l.filter fun e=>decide (e.2.1.sec=i)).map ((RecU.size ∘ recK ix) ∘ (·.1))).sum=secSum i l:=by
  intro l;induction l with
  | nil=>intro _; rfl
  | cons a l p =>
   intro j;have p:=p fun e C=>j e (bd _ C)
   have ha:(recK ix a.1).size=Ent.size a:=by unfold recK RecU.size Ent.size;rw [plK_eq h.k (j a (a8 ..))]
   unfold secSum at p ⊢;rw [bi,dz,← p];by_cases c:a.2.1.sec=i
   ·rw [List.filter_cons_of_pos (by simpa using c),bi,dz,if_pos c];show (recK ix a.1).size+_=_;rw [ha]
   ·rw [List.filter_cons_of_neg (by simpa using c),if_neg c,dq]
 exact this ix fun _ h=>h
theorem qm {kl:List Bs} {H:List AObj} {I:SI} {F:Fl} {K:StU} (h:SO kl H I F K) (X:List AObj):AbsBlb.SO kl (H++X) I F K:=⟨h.a.app X,h.v⟩
section
variable {P:List AObj} {b w:Nat}
section
attribute [-simp] getElem?_pos getElem?_neg List.all_eq_true
attribute [local simp] qZ qS nltT nltF iltT iltF ileT nleT di
theorem s616 {a:Option (Nat × Nat)} {n:Nat} {c:Option Nat} (ha:∀ p o,a=some (p,o)→p < P.length):xCall T 616 [.slice a n c,.int .i64 16] ⟨P,b,w⟩=some (.func 629 [] [.ptr (some (P.length,0)),.ptr (some (P.length+1,0))],⟨P++[.cells 1 [.slice a n c],.cells 1 [.int .i64 16]],b,w⟩):=by
 cases a with
 | none=>simp (disch:=omega) [bg (sub _ _ AbsBlb.t616),code616,jz,j9,wj]
 | some p =>
  obtain ⟨p,o⟩:=p;have:=ha p o rfl;simp (disch:=omega) [bg (sub _ _ AbsBlb.t616),code616,jz,j9,wj,this]
end
end
end Go.Abs.AbsBlo

namespace Go.Abs.AbsBlo
open Go.Abs.AbsBlb hiding T
def blL (k:Bs) (l:List Ent):Option Bs:=(findK k l).map fun x=>x.2.blob
def blobK (K:StU) (k:Bs):Option Bs:=blL k K.ix
def Told (K K':StU):Prop:=∀ k,blobK K' k=blobK K k
theorem Told.refl (K:StU):Told K K:=fun _=>rfl
theorem Told.trans {K1 d e:StU} (h:Told K1 d) (h2:Told d e):Told K1 e:=fun k=>(h2 k).trans (h k)
theorem Told.of_ix {K K':StU} (h:K'.ix=K.ix):Told K K':=fun k=>by unfold blobK; rw [h]
theorem pq (k:Bs) (e:Ent) (l:List Ent):blL k (e :: l)=if e.1=k then some e.2.1.blob else blL k l:=by
 unfold blL;conv=>lhs; unfold findK
 split
 ·rfl
 ·rw [Option.map_map];cases findK k l <;> rfl
theorem blL_app {k k':Bs} {p:PlU} {c:Nat}:∀ {l:List Ent},findK k l=none→blL k' (l++[(k,p,c)])=if k'=k then some p.blob else blL k' l
 | [],_=>by
  rw [dw,pq];by_cases e:k=k'
  ·rw [if_pos e,if_pos e.symm]
  ·rw [if_neg e,if_neg (fun f=>e f.symm)]
 | a :: l,h=>by
  unfold findK at h;by_cases c1:a.1=k
  ·rw [if_pos c1] at h; cases h
  ·rw [if_neg c1,Option.map_eq_none_iff] at h;rw [fh,pq,pq,blL_app h];by_cases e:a.1=k'
   ·rw [if_pos e,if_neg (fun f=>c1 (by rw [e,f])),if_pos e]
   ·rw [if_neg e,if_neg e]
theorem blL_mod {k k':Bs} {p:PlU}:∀ {l:List Ent} {x:Nat × PlU},findK k l=some x→blL k' (l.modify x.1 fun e=>(k,p,e.2.2))=if k'=k then some p.blob else blL k' l
 | [],_,h=>by cases h
 | a :: l,x,h=>by
  unfold findK at h;by_cases c1:a.1=k
  ·rw [if_pos c1] at h;cases h;rw [List.modify_zero_cons,pq,pq];by_cases e:k=k'
   ·rw [if_pos e,if_pos e.symm]
   ·rw [if_neg e,if_neg (fun f=>e f.symm),if_neg (fun f=>e (by rw [← c1,f]))]
  ·rw [if_neg c1] at h;obtain ⟨y,h1,rfl⟩:=ae.1 h;rw [List.modify_succ_cons,pq,pq,blL_mod h1];by_cases e:a.1=k'
   ·rw [if_pos e,if_neg (fun f=>c1 (by rw [e,f])),if_pos e]
   ·rw [if_neg e,if_neg e]
theorem blobK_put (K:StU) (k:Bs) (p:PlU) (k':Bs):blobK (K.put k p) k'=if k'=k then some p.blob else blobK K k':=by
 unfold blobK StU.put;split
 ·next x h=>exact blL_mod h
 ·next h=>exact blL_app h
theorem told_put {K:StU} {k:Bs} {p:PlU} (h:blobK K k=some p.blob):Told K (K.put k p):=fun k'=>by
 rw [blobK_put];split
 ·next e=>rw [e,h]
 ·rfl
theorem told_all {hd t:Nat}:∀ (A:List RV) (at_:Nat) (K:StU),(∀ p ∈ A,p.1.kind=1∧blobK K p.1.key=some p.1.blob)→Told K (applyAll hd (founds t A at_) K)
 | [],_,K,_=>Told.refl K
 | p :: A,at_,K,h=>by
  obtain ⟨h1,h2⟩:=h p (a8 ..)
  have j:K.apply hd at_ (p.1.at t)=K.put p.1.key ⟨hd,at_,p.1.blob⟩:=by
   unfold StU.apply
   rw [if_neg (show ¬ (p.1.at t).kind=2 from fun e=>by have e:p.1.kind=2:=e;omega)]
   rfl
  have d:Told K (K.put p.1.key ⟨hd,at_,p.1.blob⟩):=told_put h2
  have y:=told_all (hd:=hd) (t:=t) A (at_+p.1.size) (K.put p.1.key ⟨hd,at_,p.1.blob⟩) (fun q B=>by obtain ⟨C,D⟩:=h q (bd _ B);exact ⟨C,by rw [d,D]⟩)
  unfold founds applyAll;rw [jw,j];exact d.trans y
theorem vq {K:StU} {i hd:Nat} {A:List RV} (d:LiveOK K.ix i (A.map Prod.fst)):Told K (wroteK K hd A):=by
 unfold wroteK;refine (Told.of_ix rfl:Told K { K with txn:=K.txn+1,at_:=K.at_+sizes (A.map Prod.fst)+16 }).trans (told_all A _ _ fun p j=>?_);obtain ⟨ks,y,-,B⟩:=d;have hm:p.1 ∈ A.map Prod.fst:=bt.2 ⟨p,j,rfl⟩;rw [y] at hm;obtain ⟨k,C,e⟩:=bt.1 hm;rw [← e];refine ⟨rfl,?_⟩;obtain ⟨en,D,-,G⟩:=(B k).1 C;show (findK k K.ix).map (fun x=>x.2.blob)=some (plK K.ix k).blob;unfold plK;cases J:findK k K.ix with
 | some x=>rfl
 | none=>exact absurd G (oc J en D)
end Go.Abs.AbsBlo

namespace Go.Abs.AbsBlo
open Go.Abs.AbsBlb hiding T
open Go.Abs.Short
section
variable {P P2:List AObj} {b w:Nat}
section
attribute [-simp] getElem?_pos getElem?_neg List.all_eq_true
attribute [local simp] qZ qS nltT nltF iltT iltF ileT nleT di
theorem s629z {c0 c1 lo:Nat} {a:Option (Nat × Nat)} {c:Option Nat} (h0:P[c0]? = some (.cells 1 [.slice a 0 c])) (h1:P[c1]? = some (.cells 1 [.int .i64 16])):xCall T 629 [.yield lo,.ptr (some (c0,0)),.ptr (some (c1,0))] ⟨P,b,w⟩=some (.tuple [],⟨P,b,w⟩):=by simp (disch:=omega) [bg (sub _ _ AbsBlb.t629),code629,b9,code629L0,h0,h1]
theorem s629 {c0 c1 lo q n W:Nat} {c:Option Nat} {C:List AVal} {st:LoopSt} {p:Option AExit} {sl:List (Nat × AVal)} (h0:P[c0]? = some (.cells 1 [.slice (some (q,0)) n c])) (h1:P[c1]? = some (.cells 1 [.int .i64 16])) (d:P[lo]? = some (.loop 615 st p sl)) (y:P[q]? = some (.cells 5 C)) (A:C.length=n*5) (B:0 < n∧n≤16) (hc:n≤c.getD n)
  (e:P2[c0]? = some (.cells 1 [.slice (some (q,0)) n c])) (j:P2[c1]? = some (.cells 1 [.int .i64 16])) (D:W < P.length) (hr:xCall T 615 [.ptr (some (lo,0)),.slice (some (q,0)) n (some n)] ⟨P,b,P.length⟩=some (.bool true,⟨P2,b,W⟩)) :
  xCall T 629 [.yield lo,.ptr (some (c0,0)),.ptr (some (c1,0))] ⟨P,b,w⟩=some (.tuple [],⟨P2,b,min w W⟩):=by
 obtain ⟨G,J⟩:=B;have L:¬ ((n:Int)≤0):=by omega
 have N:¬ ((16:Int) < n):=by omega
 have O:¬ n=0:=by omega
 have U:(if (n:Int) < 16 then (n:Int) else 16)=n:=by split <;> omega
 simp (disch:=omega) [bg (sub _ _ AbsBlb.t629),code629,b9,code629L0,h0,h1,d,y,A,e,j,hr,L,N,O,U,hc,D,eszIs,G,J]
end
end
section
variable {kl:List Bs} {P:List AObj} {b w:Nat} {I:SI} {F:Fl} {K:StU}
theorem so_set (h:SO kl P I F K) {lo:Nat} (y:I.hi < lo) (j:I.fi.fl≠lo) (o:AObj):SO kl (P.set lo o) I F K:=by
 have i1:I.s≤I.hi∧I.sa≤I.hi∧I.m≤I.hi∧I.fi.fb≤I.hi∧I.fi.fw≤I.hi:=by unfold SI.hi; omega
 have up:∀ k d,k≠lo→P[k]? = some d→(P.set lo o)[k]? = some d:=fun k d p ho=>by rw [aq (fun e=>p e.symm)]; exact ho
 exact ⟨⟨h.a.fl.keep fun i o ho hi=>up i o (by rcases hi with rfl | rfl | rfl; exact j; omega; omega) ho,up _ _ (by omega) h.a.s,up _ _ (by omega) h.a.r,up _ _ (by omega) h.a.m,h.a.ln,h.a.hd,h.a.ab,h.a.sb,h.a.tb⟩,h.v⟩
section
attribute [-simp] getElem?_pos getElem?_neg List.all_eq_true
attribute [local simp] qZ qS nltT nltF iltT iltF ileT nleT di
theorem r615 (h:SO kl P I F K) (hb:I.lo b) (ac:b≤P.length) {cb rc lo q hd:Nat} {A:List RV} (j:P[lo]? = some (.loop 615 .ready none [(1,.ptr (some (cb,0))),(2,.ptr (some (rc,0)))])) (b7:I.hi < lo) (J:P[cb]? = some (.cells 1 [.ptr (some (I.s,0))]))
  (hq:P[q]? = some (.cells 5 (A.flatMap RV.cells))) (ad:A≠[]) (al:A.length≤16) (an:∀ k ∈ kl,1≤k.length∧k.length≤64)
  (hL:∀ p ∈ A,BlobS I P p.2 p.1.blob∧p.1.key ∈ kl∧p.1.count=0∧(p.1.kind=1∧p.1.blob.length≤4096∨p.1.kind=2∧p.1.blob=[])) (hh:K.head=hd) (L:K.at_+sizes (A.map Prod.fst)+16≤F.z) :
  ∃ P' F' K' W,StF I P P'∧SO kl P' I F' K'∧FlE F F'∧K'.head=hd∧(∀ e ∈ K'.ix,(e ∈ K.ix∧e.1 ∉ A.map fun p=>p.1.key)∨((e.1 ∈ A.map fun p=>p.1.key)∧e.2.1.sec=hd))∧K'=wroteK K hd A∧(W≤I.hi∧b≤W)∧P'[lo]? = some (.loop 615 .ready none [(1,.ptr (some (cb,0))),(2,.ptr (some (rc,0)))]) ∧
   xCall T 615 [.ptr (some (lo,0)),.slice (some (q,0)) A.length (some A.length)] ⟨P,b,P.length⟩=some (.bool true,⟨P',b,W⟩):=by
 have c4:=h.a.hi;have hI:I.s≤I.hi∧I.sa≤I.hi∧I.m≤I.hi∧I.fi.fb≤I.hi∧I.fi.fw≤I.hi:=by unfold SI.hi; omega
 obtain ⟨i1,i2,i3,i4,i5⟩:=hI;have bb:=ah j;have N:I.fi.fl≠lo:=fun e=>by have:=h.a.fl.f; rw [e,j] at this; cases this
 let D:=P.set lo (.loop 615 .busy none [(1,.ptr (some (cb,0))),(2,.ptr (some (rc,0)))])
 have up:∀ k o,k≠lo→P[k]? = some o→D[k]? = some o:=fun k o hk ho=>by show (P.set _ _)[k]? = _; rw [aq (fun e=>hk e.symm)]; exact ho
 have B:D.length=P.length:=az;have ao:StA D I F K:=⟨h.a.fl.keep fun i o ho hi=>up i o (by rcases hi with rfl | rfl | rfl; exact N; omega; omega) ho,up _ _ (by omega) h.a.s,up _ _ (by omega) h.a.r,up _ _ (by omega) h.a.m,h.a.ln,h.a.hd,h.a.ab,h.a.sb,h.a.tb⟩;have h1:SO kl D I F K:=⟨ao,h.v⟩;have ax:D[q]? = some (.cells 5 (A.flatMap RV.cells)):=up _ _ (fun e=>by rw [e,j] at hq; cases hq) hq;have O:D[cb]? = some (.cells 1 [.ptr (some (I.s,0))]):=up _ _ (fun e=>by rw [e,j] at J; cases J) J
 have ay:∀ p ∈ A,BlobS I D p.2 p.1.blob∧p.1.key ∈ kl∧p.1.count=0∧(p.1.kind=1∧p.1.blob.length≤4096∨p.1.kind=2∧p.1.blob=[]):=fun p hp=>by
  obtain ⟨⟨⟨a,d,e1,e2,e3⟩,e4⟩,e5⟩:=hL p hp;refine ⟨⟨⟨a,d,e1,fun p o hp=>by rw [B]; exact e2 p o hp,?_⟩,e4⟩,e5⟩;rcases e3 with e3 | ⟨p',o',e6,e7,e8⟩
  ·exact .inl e3
  ·refine .inr ⟨p',o',e6,e7.mono fun x hx=>?_,e8⟩;obtain ⟨-,X,hX,-⟩:=e7;rw [hX] at hx;cases hx;exact up _ _ (fun e=>by rw [e,j] at hX; cases hX) hX
 obtain ⟨U,F',K',nx,k1,C,k3,k4,k5,kw,-,k6,k7⟩:=q577 (lc:=some A.length) h1 hb (by rw [B]; exact ac) (Row.mk0 (fun _=>rfl) ax) ad al an ay hh L;have V:=fun w=>cf sub (k7 w)
 have a0:D[lo]? = some (.loop 615 .busy none [(1,.ptr (some (cb,0))),(2,.ptr (some (rc,0)))]):=ke j;have y:=k1.keep _ _ a0 (by omega) (by omega) (by omega) (by omega) (by omega);have bm:=k1.len
 have a6:SO kl (U.set lo (.loop 615 .ready none [(1,.ptr (some (cb,0))),(2,.ptr (some (rc,0)))])) I F' K':=by
  have G:∀ k o,k≠lo→U[k]? = some o→(U.set lo (.loop 615 .ready none [(1,.ptr (some (cb,0))),(2,.ptr (some (rc,0)))]))[k]? = some o:=fun k o hk ho=>by rw [aq (fun e=>hk e.symm)]; exact ho
  exact ⟨⟨C.a.fl.keep fun i o ho hi=>G i o (by rcases hi with rfl | rfl | rfl; exact N; omega; omega) ho,G _ _ (by omega) C.a.s,G _ _ (by omega) C.a.r,G _ _ (by omega) C.a.m,C.a.ln,C.a.hd,C.a.ab,C.a.sb,C.a.tb⟩,C.v⟩
 have aa:StF I P (U.set lo (.loop 615 .ready none [(1,.ptr (some (cb,0))),(2,.ptr (some (rc,0)))])):=⟨by rw [az]; omega,fun k o ho g1 g2 g3 g4 g5=>by
  by_cases c:k=lo
  ·subst c;rw [j] at ho;cases ho;exact ke y
  ·rw [aq (fun e=>c e.symm)];exact k1.keep k o (up k o c ho) g1 g2 g3 g4 g5⟩
 have c5:=k6 lo;refine ⟨_,F',K',nx lo,aa,a6,k3,k4,k5,kw,by have:=hb.1; omega,ke y,?_⟩;have b5:P.set lo (.loop 615 .busy none [(1,.ptr (some (cb,0))),(2,.ptr (some (rc,0)))])=D:=rfl;have b6:b≤lo:=by have:=hb.1; omega
 have bx:lo < U.length:=ah y;simp (disch:=omega) [xRoundK t615 rfl,round615,rcode615a,rcode615b,nd,mg,roundOut,setArgs,ofCaps,j,b5,O,B,V,y,b6]
theorem e599 (h:SO kl P I F K) (hb:I.lo b) (b7:b≤P.length) {cb rc i N hd:Nat} {A:List RV} {x:AVal} (D:P[cb]? = some (.cells 1 [.ptr (some (I.s,0))]))
  (hx:FRow N 5 RV.cells A P x) (G:A.length≤16) (aa:∀ k ∈ kl,1≤k.length∧k.length≤64)
  (hL:∀ p ∈ A,BlobS I P p.2 p.1.blob∧p.1.key ∈ kl∧p.1.count=0∧(p.1.kind=1∧p.1.blob.length≤4096∨p.1.kind=2∧p.1.blob=[])) (hh:A≠[]→K.head=hd) (J:A≠[]→K.at_+sizes (A.map Prod.fst)+16≤F.z) (w:Nat) :
  ∃ P' F' K' w',StF I P P'∧SO kl P' I F' K'∧FlE F F'∧K'.head=K.head∧(∀ e ∈ K'.ix,(e ∈ K.ix∧e.1 ∉ A.map fun p=>p.1.key)∨((e.1 ∈ A.map fun p=>p.1.key)∧A≠[]∧e.2.1.sec=hd))∧(w'≤w∧min w b≤w')∧((A=[]→K'=K)∧(A≠[]→K'=wroteK K hd A)) ∧
   ∀ {β:Type} (k:AExit→St→Option β),xK T (.seq (R [1,2,3,47] [v 46 5,o 47 (.callg 616 [t 46,n 16])])
 (.after (.block 0 (.after (.rangeFunc (t 47) 615 [1,2] [48] rcode615a rcode615b) [1,2,3])) [1,2,3])) ⟨[(1,.val (.ptr (some (cb,0)))),(2,.val (.ptr (some (rc,0)))),(3,.val (.int .i64 i)),(5,.val x)],⟨P,b,w⟩⟩ (k:=⟨k⟩) =
    k .normal ⟨[(1,.val (.ptr (some (cb,0)))),(2,.val (.ptr (some (rc,0)))),(3,.val (.int .i64 i))],⟨P',b,w'⟩⟩:=by
 rcases hx with ⟨rfl,rfl⟩ | ⟨d,q,hq,rfl,B⟩
 ·have j:=fun w=>s616 (P:=P) (b:=b) (w:=w) (a:=none) (n:=0) (c:=some 0) (fun _ _ e=>by cases e)
  have y:=fun X w=>s629z (P:=P++(.cells 1 [.slice none 0 (some 0)] :: .cells 1 [.int .i64 16] :: X)) (b:=b) (w:=w) (c0:=P.length) (c1:=P.length+1) (lo:=P.length+2) (a:=none) (c:=some 0) (gc _ _) (jv _ _ 1)
  refine ⟨P++[.cells 1 [.slice none 0 (some 0)],.cells 1 [.int .i64 16],.dead],F,K,min w (P.length+2),StF.refl.app _,qm h _,.refl _,rfl,fun e he=>.inl ⟨he,by simp⟩,by omega,⟨fun _=>rfl,fun h=>absurd rfl h⟩,fun k=>?_⟩;have hl:P.length+2 < (P++[AObj.cells 1 [.slice none 0 (some 0)],.cells 1 [.int .i64 16],.loop 615 .ready none [(1,.ptr (some (cb,0))),(2,.ptr (some (rc,0)))]]).length:=by simp
  have hg:=jv P [AObj.cells 1 [.slice none 0 (some 0)],.cells 1 [.int .i64 16],.loop 615 .ready none [(1,.ptr (some (cb,0))),(2,.ptr (some (rc,0)))]] 2;have hs:=set_k P [AObj.cells 1 [.slice none 0 (some 0)],.cells 1 [.int .i64 16],.loop 615 .ready none [(1,.ptr (some (cb,0))),(2,.ptr (some (rc,0)))]] 2 .dead;simp (disch:=omega) [j,y,loopEnd,callVal,capsOf,hg,hs]
 ·have bb:=h.a.hi;have b6:=ah h.a.fl.f;have hI:I.s≤I.hi∧I.sa≤I.hi∧I.m≤I.hi∧I.fi.fb≤I.hi∧I.fi.fw≤I.hi:=by unfold SI.hi; omega
  have L:=ah B;have j:=fun w=>s616 (P:=P) (b:=b) (w:=w) (a:=some (q,0)) (n:=A.length) (c:=none) (fun p o e=>by cases e; exact L)
  have hX:=StF.refl (I:=I).app (H:=P) [AObj.cells 1 [.slice (some (q,0)) A.length none],.cells 1 [.int .i64 16],.loop 615 .ready none [(1,.ptr (some (cb,0))),(2,.ptr (some (rc,0)))]];have ac:=qm h [AObj.cells 1 [.slice (some (q,0)) A.length none],.cells 1 [.int .i64 16],.loop 615 .ready none [(1,.ptr (some (cb,0))),(2,.ptr (some (rc,0)))]];have C:=jv P [AObj.cells 1 [.slice (some (q,0)) A.length none],.cells 1 [.int .i64 16],.loop 615 .ready none [(1,.ptr (some (cb,0))),(2,.ptr (some (rc,0)))]] 0;have O:=jv P [AObj.cells 1 [.slice (some (q,0)) A.length none],.cells 1 [.int .i64 16],.loop 615 .ready none [(1,.ptr (some (cb,0))),(2,.ptr (some (rc,0)))]] 1;have U:=jv P [AObj.cells 1 [.slice (some (q,0)) A.length none],.cells 1 [.int .i64 16],.loop 615 .ready none [(1,.ptr (some (cb,0))),(2,.ptr (some (rc,0)))]] 2
  have bm:(P++[AObj.cells 1 [.slice (some (q,0)) A.length none],.cells 1 [.int .i64 16],.loop 615 .ready none [(1,.ptr (some (cb,0))),(2,.ptr (some (rc,0)))]]).length=P.length+3:=by simp
  have ad:P++[AObj.cells 1 [.slice (some (q,0)) A.length none],.cells 1 [.int .i64 16],.loop 615 .ready none [(1,.ptr (some (cb,0))),(2,.ptr (some (rc,0)))]]=P++[AObj.cells 1 [.slice (some (q,0)) A.length none],.cells 1 [.int .i64 16],.loop 615 .ready none [(1,.ptr (some (cb,0))),(2,.ptr (some (rc,0)))]]:=rfl;have al:=fun p hp=>(⟨(hL p hp).1.mono h.a hX,(hL p hp).2⟩:BlobS I _ p.2 p.1.blob∧_)
  have V:(P++[AObj.cells 1 [.slice (some (q,0)) A.length none],.cells 1 [.int .i64 16],.loop 615 .ready none [(1,.ptr (some (cb,0))),(2,.ptr (some (rc,0)))]])[q]? = some (.cells 5 (A.flatMap RV.cells)):=by rw [ag L]; exact B
  have an:(P++[AObj.cells 1 [.slice (some (q,0)) A.length none],.cells 1 [.int .i64 16],.loop 615 .ready none [(1,.ptr (some (cb,0))),(2,.ptr (some (rc,0)))]])[cb]? = some (.cells 1 [.ptr (some (I.s,0))]):=by rw [ag (ah D)]; exact D
  rw [qg] at C;generalize ao:P++[AObj.cells 1 [.slice (some (q,0)) A.length none],.cells 1 [.int .i64 16],.loop 615 .ready none [(1,.ptr (some (cb,0))),(2,.ptr (some (rc,0)))]]=PL at *;obtain ⟨P2,F',K',W,k1,k2,k3,k4,k5,kw,k6,k7,k8⟩:=r615 ac hb (by omega) (rc:=rc) U (by omega) an V d G aa al (hh d) (J d);have ax:=k1.keep _ _ C (by omega) (by omega) (by omega) (by omega) (by omega);have ay:=k1.keep _ _ O (by omega) (by omega) (by omega) (by omega) (by omega);have a0:(A.flatMap RV.cells).length=A.length*5:=za5 RV.cells 5 (fun _=>rfl) A;have a6:=kg.2 d;have y:=fun w=>s629 (w:=w) C O U V a0 ⟨a6,G⟩ (aj _) ax ay (by omega) k8
  refine ⟨P2.set (P.length+2) .dead,F',K',min (min w W) (P.length+2),?_,so_set k2 (by omega) (by omega) _,k3,by rw [k4,hh d],fun e he=>(k5 e he).imp id fun q=>⟨q.1,d,q.2⟩,by omega,⟨fun e=>absurd e d,fun _=>kw⟩,fun k=>?_⟩
  ·exact ⟨by rw [az]; have:=hX.len; have:=k1.len; omega,fun k o ho g1 g2 g3 g4 g5=>by rw [aq (by have:=ah ho; omega)];exact k1.keep k o (hX.keep k o ho g1 g2 g3 g4 g5) g1 g2 g3 g4 g5⟩
  ·have b5:b≤P.length+2:=by omega
   simp (disch:=omega) [j,y,loopEnd,callVal,capsOf,ao,k7,b5]
end
end
end Go.Abs.AbsBlo

namespace Go.Abs.AbsBlo
open Go.Abs.AbsBlb hiding T
open Go.Abs.Short
section
variable {kl:List Bs} {P:List AObj} {b w:Nat} {I:SI} {F:Fl} {K:StU}
theorem d599_run (h:SO kl P I F K) (hb:I.lo b) {cb rc i:Nat} (p:P[cb]? = some (.cells 1 [.ptr (some (I.s,0))])) (G:P[rc]? = some (.cells 1 [.int .i64 0])) (W:I.hi < cb∧I.hi < rc) (hi:i < F.n) (X:K.head≠i) (J:∀ e ∈ K.ix,e.2.1.sec≠i) (w:Nat) :
  ∃ P' F' K' w',StF I P P'∧SO kl P' I F' K'∧FlE F F'∧K'.ix=K.ix∧w'≤I.hi∧(w'≤w∧min w b≤w')∧P'[rc]? = some (.cells 1 [.int .i64 0])∧∀ {β:Type} (k:AExit→St→Option β),xK T d599 ⟨[(1,.val (.ptr (some (cb,0)))),(2,.val (.ptr (some (rc,0)))),(3,.val (.int .i64 i))],⟨P,b,w⟩⟩ (k:=⟨k⟩) =
   k .ret ⟨[(2,.val (.ptr (some (rc,0))))],⟨P',b,w'⟩⟩:=by
 have hI:I.s≤I.hi∧I.sa≤I.hi∧I.m≤I.hi∧I.fi.fb≤I.hi∧I.fi.fw≤I.hi:=by unfold SI.hi; omega
 obtain ⟨H1,F',K',n1,D,U,k3,k4,k5,k6⟩:=q594 h hb hi X J;obtain ⟨L,V,j2,j3,j4⟩:=p578 (b:=b) U.a hb;have y:=fun w=>cf sub (k6 w)
 have A:=fun w=>cf sub (j4 w)
 have B:=D.keep _ _ p (by omega) (by omega) (by omega) (by omega) (by omega);have j:=D.keep _ _ G (by omega) (by omega) (by omega) (by omega) (by omega);have d:=V.keep _ _ j (by omega) (by omega) (by omega) (by omega) (by omega);have C:L.set rc (.cells 1 [.int .i64 0])=L:=np d;have N:b≤rc:=by have:=hb.1; omega
 have a0:=k5 P.length;have a6:I.hi < P.length:=h.a.hi;have aa:=D.len;have O:=ah p;have ac:=hb.1;refine ⟨L,F',K',min w (min (n1 P.length) I.s),D.trans V,⟨j2,U.v⟩,k3,k4,by omega,by omega,d,fun k=>?_⟩;simp (disch:=omega) [-getElem?_pos,-getElem?_neg,-List.all_eq_true,qZ,qS,nltT,nltF,iltT,iltF,ileT,nleT,di,d599,-ew,lq,lr,jf,p,B,y,A,j,d,C,N,O]
theorem zam {ix:List Ent} {i:Nat} {l:List RecU} {r:RecU} (h:LiveOK ix i l) (hr:r ∈ l):∃ e ∈ ix,e.2.1.sec=i∧e.1=r.key∧r=recK ix r.key:=by obtain ⟨ks,rfl,-,h2⟩:=h;obtain ⟨k,d,rfl⟩:=bt.1 hr;obtain ⟨e,j,p,y⟩:=(h2 k).1 d;exact ⟨e,j,p,y,rfl⟩
theorem live_has {ix:List Ent} {i:Nat} {l:List RecU} (h:LiveOK ix i l) {e:Ent} (d:e ∈ ix) (hs:e.2.1.sec=i):∃ r ∈ l,r.key=e.1:=by obtain ⟨ks,rfl,-,h2⟩:=h;exact ⟨_,bt.2 ⟨e.1,(h2 e.1).2 ⟨e,d,hs,rfl⟩,rfl⟩,rfl⟩
theorem rp (h:SO kl P I F K) {N i:Nat} (J:I.hi < N) {A:List RV} (y:∀ p ∈ A,p.new N P) (B:LiveOK K.ix i (A.map Prod.fst)):∀ p ∈ A,BlobS I P p.2 p.1.blob∧p.1.key ∈ kl∧p.1.count=0∧(p.1.kind=1∧p.1.blob.length≤4096∨p.1.kind=2∧p.1.blob=[]):=fun p j=>by
 have L:I.fi.fb≤I.hi∧I.fi.fw≤I.hi:=by unfold SI.hi; omega
 obtain ⟨e,h1,h2,C,d⟩:=zam B (bt.2 ⟨p,j,rfl⟩);obtain ⟨D,G⟩:=y p j;refine ⟨⟨D,fun q o n c e=>?_⟩,by rw [← C]; exact (h.v.en e h1).2.2.1,by rw [d]; rfl,.inl ⟨by rw [d]; rfl,by rw [d]; exact so_pl h _⟩⟩;have:=(G q o n c e).1;omega
theorem e_d599 (h:SO kl P I F K) (hb:I.lo b) (J:b≤P.length) (L:∀ k ∈ kl,1≤k.length∧k.length≤64) {cb rc i N:Nat} {A:List RV} {x:AVal} (B:P[cb]? = some (.cells 1 [.ptr (some (I.s,0))])) (O:P[rc]? = some (.cells 1 [.int .i64 0])) (U:I.hi < cb∧I.hi < rc)
  (hN:I.hi < N) (hx:FRow N 5 RV.cells A P x) (V:A.length≤16) (hA:∀ p ∈ A,p.new N P) (W:LiveOK K.ix i (A.map Prod.fst)) (hi:i < F.n) (hh:K.head≠i) (d:A≠[]→∃ hd:Nat,K.head=hd∧K.at_+sizes (A.map Prod.fst)+16≤F.z) (w:Nat) :
  ∃ P' F' K' w',StF I P P'∧SO kl P' I F' K'∧FlE F F'∧Told K K'∧w'≤I.hi∧(w'≤w∧min w b≤w')∧P'[rc]? = some (.cells 1 [.int .i64 0])∧∀ {β:Type} (k:AExit→St→Option β),xK T c599 ⟨[(1,.val (.ptr (some (cb,0)))),(2,.val (.ptr (some (rc,0)))),(3,.val (.int .i64 i)),(5,.val x)],⟨P,b,w⟩⟩ (k:=⟨k⟩) =
   k .ret ⟨[(2,.val (.ptr (some (rc,0))))],⟨P',b,w'⟩⟩:=by
 have hI:I.s≤I.hi∧I.sa≤I.hi∧I.m≤I.hi∧I.fi.fb≤I.hi∧I.fi.fw≤I.hi:=by unfold SI.hi; omega
 obtain ⟨P1,F1,K1,w1,X,k2,k3,k4,k5,k6,k7,k8⟩:=e599 h hb J (rc:=rc) (i:=i) (hd:=K.head.toNat) B hx V L (rp h hN hA W) (fun j=>by obtain ⟨hd,e,-⟩:=d j; omega) (fun j=>(d j).choose_spec.2) w;have C:=X.keep _ _ B (by omega) (by omega) (by omega) (by omega) (by omega);have D:=X.keep _ _ O (by omega) (by omega) (by omega) (by omega) (by omega)
 have a0:∀ e ∈ K1.ix,e.2.1.sec≠i:=fun e he hs=>by
  rcases k5 e he with ⟨g1,g2⟩ | ⟨g1,g2,g3⟩
  ·obtain ⟨r,hr,hk⟩:=live_has W g1 hs;obtain ⟨p,hp,rfl⟩:=bt.1 hr;exact g2 (bt.2 ⟨p,hp,hk⟩)
  ·obtain ⟨hd,e1,-⟩:=d g2;omega
 obtain ⟨P2,F2,K2,w2,j1,j2,j3,j4,j5,j6,j7,j8⟩:=d599_run k2 hb C D U (by rw [k3.n]; exact hi) (by rw [k4]; exact hh) a0 w1
 have y:Told K K2:=by
  refine Told.trans ?_ (Told.of_ix j4);by_cases G:A=[]
  ·rw [k7.1 G]; exact Told.refl K
  ·rw [k7.2 G];exact vq W
 refine ⟨P2,F2,K2,w2,X.trans j1,j2,k3.trans j3,y,j5,by omega,j7,fun k=>?_⟩;unfold c599;have k8:=fun {β:Type} (k:AExit→St→Option β)=>k8 k
 rw [xK_seq,k8];simp only [nxK_n];exact j8 k
section
attribute [-simp] getElem?_pos getElem?_neg List.all_eq_true
attribute [local simp] qZ qS nltT nltF iltT iltF ileT nleT di
theorem b599_run (h:SO kl P I F K) (hb:I.lo b) (aa:b≤P.length) (O:∀ k ∈ kl,1≤k.length∧k.length≤64) {cb rc i N:Nat} {A:List RV} {x:AVal} (D:P[cb]? = some (.cells 1 [.ptr (some (I.s,0))])) (U:P[rc]? = some (.cells 1 [.int .i64 0])) (a0:I.hi < cb∧I.hi < rc)
  (hN:I.hi < N) (hx:FRow N 5 RV.cells A P x) (V:A.length≤16) (hA:∀ p ∈ A,p.new N P) (hl:LiveOK K.ix i (A.map Prod.fst)) (hi:i < F.n) (hh:K.head≠i) (hu:(F.look i).st=2) (w:Nat) :
  (∃ P' F' K' w',StF I P P'∧SO kl P' I F' K'∧FlE F F'∧Told K K'∧(w'≤I.hi∧min w b≤w')∧P'[rc]? = some (.cells 1 [.int .i64 0])∧∀ {β:Type} (k:AExit→St→Option β),xK T b599 ⟨[(1,.val (.ptr (some (cb,0)))),(2,.val (.ptr (some (rc,0)))),(3,.val (.int .i64 i)),(5,.val x)],⟨P,b,w⟩⟩ (k:=⟨k⟩) =
   k .ret ⟨[(2,.val (.ptr (some (rc,0))))],⟨P',b,w'⟩⟩) ∨
  (∀ {β:Type} (k:AExit→St→Option β),xK T b599 ⟨[(1,.val (.ptr (some (cb,0)))),(2,.val (.ptr (some (rc,0)))),(3,.val (.int .i64 i)),(5,.val x)],⟨P,b,w⟩⟩ (k:=⟨k⟩) =
   k .ret ⟨[(2,.val (.ptr (some (rc,0))))],⟨P.set rc (.cells 1 [.int .i64 10]),b,min w rc⟩⟩):=by
 have hI:I.s≤I.hi∧I.sa≤I.hi∧I.m≤I.hi∧I.fi.fb≤I.hi∧I.fi.fw≤I.hi:=by unfold SI.hi; omega
 have ao:=xm h.v.ix hl
 have ax:∀ p ∈ A,RV.ok P p:=fun p hp=>by
  obtain ⟨⟨g1,-⟩,g2,-,g3⟩:=rp h hN hA hl p hp;have:=(O _ g2).2;refine ⟨g1,by omega,?_⟩;rcases g3 with ⟨-,g3⟩ | ⟨-,g3⟩
  ·omega
  ·rw [g3]; exact fk _
 by_cases d:A=[]
 ·subst d;obtain ⟨P',F',K',w',j1,j2,j3,jt,j4,j5,j6,j7⟩:=e_d599 h hb aa O D U a0 hN hx V hA hl hi hh (fun d=>absurd rfl d) w;rcases hx with ⟨-,rfl⟩ | ⟨d,-⟩
  ·refine .inl ⟨P',F',K',w',j1,j2,j3,jt,⟨j4,j5.2⟩,j6,fun k=>?_⟩;simp (disch:=omega) [b599,j7]
  ·exact absurd rfl d
 ·have ay:sizes (A.map Prod.fst)+28≤F.z:=by
   have hz:secSum i K.ix≠0:=fun e=>by obtain ⟨p,hp⟩:=vg _ d;obtain ⟨e',h1,h2,-⟩:=zam hl (bt.2 ⟨p,hp,rfl⟩);have:=zao h1 h2;unfold Ent.size at this;omega
   have:=h.v.sz i hz;rw [ao];rw [if_neg hh] at this;exact this
  have ac:=hx;rcases hx with ⟨e,-⟩ | ⟨-,q,hq,rfl,ad⟩
  ·exact absurd e d
  ·have G:=kg.2 d;have J:=fun w=>cf sub (s579 (H:=P) (b:=b) (w:=w) (L:=A) (a:=some (q,0)) (c:=none) (Row.mk0 (fun _=>rfl) ad) V d ax)
   have c5:=h.a.fl.nb.2;have j:=fun w=>cf sub (s597 (b:=b) (w:=w) h.a (n:=sizes (A.map Prod.fst)+16) (by omega))
   have en:((sizes (A.map Prod.fst)+16:Nat):Int)=(sizes (A.map Prod.fst):Int)+16:=by omega
   by_cases C:K.head ≠ -1∧K.at_+(sizes (A.map Prod.fst)+16)≤F.z
   ·obtain ⟨hd,b5⟩:∃ hd:Nat,K.head=hd:=by
     rcases h.v.hd with e | ⟨y,e,-⟩
     ·exact absurd e C.1
     ·exact ⟨y,e⟩
    obtain ⟨P',F',K',w',j1,j2,j3,jt,j4,j5,j6,j7⟩:=e_d599 h hb aa O D U a0 hN ac V hA hl hi hh (fun _=>⟨hd,b5,by omega⟩) w;have a6:(!decide (K.head = -1) && decide (K.at_+(sizes (A.map Prod.fst)+16)≤F.z))=true:=by simp [C.1,C.2]
    rw [a6] at j;refine .inl ⟨P',F',K',w',j1,j2,j3,jt,⟨j4,j5.2⟩,j6,fun k=>?_⟩;generalize ((sizes (A.map Prod.fst)+16:Nat):Int)=sn at *;simp (disch:=omega) [b599,J,j,D,j7,G]
   ·have a6:(!decide (K.head = -1) && decide (K.at_+(sizes (A.map Prod.fst)+16)≤F.z))=false:=by
     by_cases c1:K.head = -1
     ·simp [c1]
     ·have:¬ K.at_+(sizes (A.map Prod.fst)+16)≤F.z:=fun c2=>C ⟨c1,c2⟩
      simp [this]
    rw [a6] at j;rcases q598 h hb with ⟨-,B⟩ | ⟨P1,F1,K1,n1,k1,k2,k3,k4,k5,⟨hd,k6,k7,k8⟩,k9,b6,b7⟩
    ·have B:=fun w=>cf sub (B w)
     have bb:b≤rc:=by have:=hb.1; omega
     refine .inr fun k=>?_
     generalize ((sizes (A.map Prod.fst)+16:Nat):Int)=sn at *;simp (disch:=omega) [b599,J,j,B,D,U,bb,G]
    ·have B:=fun w=>cf sub (b7 w)
     have W:=k1.keep _ _ D (by omega) (by omega) (by omega) (by omega) (by omega);have al:=k1.keep _ _ U (by omega) (by omega) (by omega) (by omega) (by omega);have bm:=ac.mono (k1.above hN);have bx:∀ p ∈ A,p.new N P1:=fun p hp=>(hA p hp).mono k1.len fun k X hk ho=>k1.above hN k _ hk ho
     have c4:LiveOK K1.ix i (A.map Prod.fst):=by rw [k4]; exact hl
     have an:K1.head≠i:=fun e=>k8 (by rw [show hd=i by omega]; exact hu)
     obtain ⟨P',F',K',w',j1,j2,j3,jt,j4,j5,j6,j7⟩:=e_d599 k2 hb (by have:=k1.len; omega) O W al a0 hN bm V bx c4 (by rw [k3.n]; exact hi) an (fun _=>⟨hd,k6,by rw [k5,k3.z]; omega⟩) (n1 w);refine .inl ⟨P',F',K',w',k1.trans j1,j2,k3.trans j3,(Told.of_ix k4).trans jt,⟨by omega,by have:=(b6 w).2; omega⟩,j6,fun k=>?_⟩;generalize ((sizes (A.map Prod.fst)+16:Nat):Int)=sn at *;simp (disch:=omega) [b599,J,j,B,D,W,G,j7]
end
end
end Go.Abs.AbsBlo
