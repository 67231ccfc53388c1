/-
  Texts joined.
-/
import Derived.Test.YtilleokmbhmieaaGreatP0
import Derived.Test.YtilleokmbhmieaaGreatP7
set_option linter.unusedVariables false
set_option linter.unusedSimpArgs false
set_option maxRecDepth 100000
namespace Go.Abs
variable {α:Type} {e:Nat} {f:α→List AVal} {O P:List AObj} {A:List α} {v:AVal} {b:Nat}
structure Acc (e:Nat) (f:α→List AVal) (O:List AObj) (A:List α) (P:List AObj) (v:AVal):Prop where
 pre:Pre O P
 val:(A=[]∧v = .slice none 0 (some 0))∨(A≠[]∧∃ i,O.length≤i∧v = .slice (some (i,0)) A.length none∧P[i]? = some (.cells e (A.flatMap f)))
def newV (n:Nat) (A:List α):AVal:=if A=[] then .slice none 0 (some 0) else .slice (some (n,0)) A.length none
def newO (e:Nat) (f:α→List AVal) (O:List AObj) (A:List α):List AObj:=if A=[] then O else O++[.cells e (A.flatMap f)]
def Keeps (P P':List AObj) (n:Nat) (v:AVal):Prop:=∀ (k:Nat) (o:AObj),P[k]? = some o→v ≠ .slice (some (k,0)) n none→P'[k]? = some o
theorem idsL_none {L:List AVal} (h:∀ x ∈ L,x.ids=[]):AVal.idsL L=[]:=by
 rw [idsL_flat,List.flatMap_eq_nil_iff]; exact h
theorem renL_none {g:Nat→Nat} {L:List AVal} (h:∀ x ∈ L,x.ren g=x):AVal.renL g L=L:=by
 rw [renL_map]
 conv=>rhs; rw [← List.map_id L]
 exact List.map_congr_left h
end Go.Abs

namespace Go.Abs.AbsBlb
open Go.Abs.Short
section
variable {H:List AObj} {b w:Nat}
def byteB (v k i:Nat):UInt8:=UInt8.ofNat (v / 2 ^ (8*(k - 1 - i)))
def putB (v k:Nat):Bs:=(List.range k).map (byteB v k)
theorem jp (v k:Nat):(putB v k).length=k:=by unfold putB; rw [bj,jo]
def PS (H:List AObj) (p o n:Nat) (l:Bs) (v k i:Nat) (P:List AObj) (x:AVal):Prop :=
 Pre H P∧((i=0∧x = .slice (some (p,o)) n (some n))∨∃ q,H.length≤q∧x = .slice (some (q,0)) (n+i) none∧P[q]? = some (.cells 1 ((l++(putB v k).take i).map u8V)))
theorem SlB.row {p o n:Nat} {l:Bs} (h:SlB H p o n l) (hn:0 < n) (c:Option Nat):rowOf 1 ⟨H,b,w⟩ (.slice (some (p,o)) n c)=some (l.map u8V):=by
 obtain ⟨hl,X,hp,hX⟩:=h
 have hnn:¬ n=0:=by omega
 unfold rowOf
 simp only [Heap.get,hp,hnn,if_false,Nat.mul_one]
 have:o+n≤X.length:=by
  have:=congrArg List.length hX
  rw [dg,fh,bj] at this
  omega
 simp [this,hX]
theorem SlB.mono {H':List AObj} {p o n:Nat} {l:Bs} (h:SlB H p o n l) (hk:∀ o,H[p]? = some o→H'[p]? = some o):SlB H' p o n l:=by
 obtain ⟨hl,X,hp,hX⟩:=h
 exact ⟨hl,X,hk _ hp,hX⟩
theorem SlB.whole {q n:Nat} {l:Bs} (h:H[q]? = some (.cells 1 (l.map u8V))) (hn:l.length=n):SlB H q 0 n l:=by
 refine ⟨hn,_,h,?_⟩
 rw [dz,dm (by rw [bj]; omega)]
theorem PS.add {p o n v k i:Nat} {l:Bs} {P:List AObj} {x:AVal} (hl:SlB H p o n l) (hn:0 < n) (hb:n+k≤1000000000) (hbl:b≤H.length) (hi:i < k) (h:PS H p o n l v k i P x) :
  ∃ P' x',∃ nx:Nat→Nat,PS H p o n l v k (i+1) P' x'∧(∀ w,H.length≤w→H.length≤nx w)∧∀ w,aAppend 1 1 ⟨P++[.cells 1 [u8V (byteB v k i)]],b,w⟩ x (.slice (some (P.length,0)) 1 (some 1))=some (x',⟨P',b,nx w⟩):=by
 obtain ⟨hp,h⟩:=h
 have hg:(putB v k)[i]? = some (byteB v k i):=by
  unfold putB
  rw [bk,aj (by rw [jo]; exact hi),List.getElem_range]; rfl
 have ht:(putB v k).take (i+1)=(putB v k).take i++[byteB v k i]:=by
  rw [List.take_add_one,hg]; rfl
 have hone:∀ w,rowOf 1 ⟨P++[.cells 1 [u8V (byteB v k i)]],b,w⟩ (.slice (some (P.length,0)) 1 (some 1))=some [u8V (byteB v k i)]:=fun w=>by
  have:=SlB.row (H:=P++[.cells 1 [u8V (byteB v k i)]]) (b:=b) (w:=w) (SlB.whole (l:=[byteB v k i]) (q:=P.length) (n:=1) (fp _ _) rfl) (by omega) (some 1)
  exact this
 rcases h with ⟨rfl,rfl⟩ | ⟨q,hq,rfl,hr0⟩
 ·refine ⟨P++[.cells 1 [u8V (byteB v k 0)],.cells 1 ((l++(putB v k).take 1).map u8V)],_,fun w=>w,⟨hp.trans (Pre.app _ _),.inr ⟨P.length+1,by have:=hp.len; omega,rfl,iw _ _ 1⟩⟩,fun w hw=>hw,fun w=>?_⟩
  have hr:rowOf 1 ⟨P++[.cells 1 [u8V (byteB v k 0)]],b,w⟩ (.slice (some (p,o)) n (some n))=some (l.map u8V):=SlB.row (hl.mono fun o ho=>by
   rw [ag (dq (ah ho) hp.len)]; exact hp _ _ ho) hn _
  unfold aAppend
  rw [c6] at ht
  simp only [hr,hone,alen,aApp]
  rw [if_neg (show ¬ (1=0) by decide),if_pos ⟨by omega,by omega⟩]
  simp [Heap.push,Heap.size,ht]
 ·have hql:=ah hr0
  refine ⟨(P.set q .dead)++[.cells 1 [u8V (byteB v k i)],.cells 1 ((l++(putB v k).take (i+1)).map u8V)],_,fun w=>min w q,⟨(hp.set .dead hq).trans (Pre.app _ _),.inr ⟨P.length+1,Nat.le_succ_of_le hp.len,rfl,by rw [au (by rw [av]; exact Nat.le_succ _),av,gg]; rfl⟩⟩,fun w hw=>Nat.le_min.2 ⟨hw,hq⟩,fun w=>?_⟩
  ·have hr:rowOf 1 ⟨P++[.cells 1 [u8V (byteB v k i)]],b,w⟩ (.slice (some (q,0)) (n+i) none)=some ((l++(putB v k).take i).map u8V):=SlB.row (SlB.whole (by rw [ag hql]; exact hr0) (by have:=hl.1; have:=jp v k; rw [ap,dg]; omega)) (by omega) _
   unfold aAppend
   simp only [hr,hone,alen,aApp]
   have hri:rowIs ⟨P++[.cells 1 [u8V (byteB v k i)]],b,w⟩ q 1=true:=by
    unfold rowIs Heap.get
    simp only [ag hql,hr0]
    rfl
   refine (if_neg (show ¬ (1=0) by decide)).trans ((if_pos ⟨by omega,by omega⟩).trans ((if_neg (by simp)).trans ((if_pos ⟨by show b≤q; omega,hri⟩).trans ?_)))
   simp [Heap.push,Heap.size,Heap.put,List.set_append_left _ _ hql,ht]
   omega
theorem wrapU {x:Int} (h:0≤x∧x < 18446744073709551616):IntKind.u64.wrap x=x:=by
 unfold IntKind.wrap
 show (if (false && _)=true then _ else (x % 2 ^ 64))=_
 simp
 omega
theorem wrap_ofNat (m:Nat):IntKind.u8.wrap (m:Int)=((UInt8.ofNat m).toNat:Int):=by
 unfold IntKind.wrap
 show (if (false && _)=true then _ else ((m:Int) % 2 ^ 8))=_
 rw [UInt8.toNat_ofNat']
 simp
theorem fdiv_pow (v e:Nat):(v:Int).fdiv (2 ^ e)=((v / 2 ^ e:Nat):Int):=by
 rw [Int.fdiv_eq_ediv_of_nonneg _ (Int.le_of_lt (Int.pow_pos (by decide))),Int.natCast_ediv,Int.natCast_pow]; rfl
theorem byte_eq {v k i:Nat} (hi:i < k) (hk:k≤8):IntKind.u8.wrap ((v:Int).fdiv (2 ^ min (8*((k:Int) - 1 - i)).toNat IntKind.u64.bits))=((byteB v k i).toNat:Int):=by
 have h1:min (8*((k:Int) - 1 - i)).toNat IntKind.u64.bits=8*(k - 1 - i):=by
  show min _ 64=_
  omega
 rw [h1,fdiv_pow,wrap_ofNat]
 rfl
section
attribute [-simp] getElem?_pos getElem?_neg List.all_eq_true
attribute [local simp] qZ qS nltT nltF iltT iltF ileT nleT dj
theorem l385 {p o n v k:Nat} {l:Bs} (hl:SlB H p o n l) (hn:0 < n) (hb:n+k≤1000000000) (hbl:b≤H.length) (hk:k≤8) (hv:v < 18446744073709551616):∀ (j i w:Nat) (P:List AObj) (x:AVal),i+j=k→PS H p o n l v k i P x→H.length≤w →
  ∃ P' x' w',PS H p o n l v k k P' x'∧H.length≤w'∧∀ {β:Type} (k':AExit→St→Option β),
  xK T (.loop code385L0) ⟨[(0,.val x),(1,.val (.int .u64 v)),(2,.val (.int .i64 k)),(18,.val (.int .i64 k)),(19,.val (.int .i64 i))],⟨P,b,w⟩⟩ (k:=⟨k'⟩) =
   k' (.exit 0) ⟨[(0,.val x')],⟨P',b,w'⟩⟩
 | 0,i,w,P,x,hi,h,hw=>by
  obtain rfl:i=k:=by omega
  refine ⟨P,x,w,h,hw,fun k'=>?_⟩
  rw [b9]
  simp (disch:=omega) [code385L0]
 | j+1,i,w,P,x,hi,h,hw=>by
  obtain ⟨P1,x1,nx,h1,h2,h3⟩:=PS.add hl hn hb hbl (by omega) h
  obtain ⟨P2,x2,w2,i1,i2,i3⟩:=l385 hl hn hb hbl hk hv j (i+1) (nx w) P1 x1 (by omega) h1 (h2 w hw)
  refine ⟨P2,x2,w2,i1,i2,fun k'=>?_⟩
  have e2:((i+1:Nat):Int)=(i:Int)+1:=by omega
  have ih:=i3 k'
  rw [e2] at ih
  have hby:=byte_eq (v:=v) (i:=i) (by omega) hk
  rw [b9,← ih]
  generalize ACode.loop code385L0=LL
  unfold u8V at h3
  simp (disch:=omega) [code385L0,-aAppend,wrapU,hby,h3]
theorem s411 {k:Int}:xCall T 411 [.int .i64 k] ⟨H,b,w⟩=some (.bool (decide (1≤k) && decide (k≤8)),⟨H,b,w⟩):=by
 by_cases h1:1≤k
 ·by_cases h2:k≤8
  ·simp (disch:=omega) [ba t411,code411,h1,h2]
  ·simp (disch:=omega) [ba t411,code411,h1,h2]
 ·simp (disch:=omega) [ba t411,code411,h1]
theorem s385 {p o n v k:Nat} {l:Bs} {c:Option Nat} (hl:SlB H p o n l) (hn:0 < n) (hb:n+k≤1000000000) (hbl:b≤H.length) (hk:0 < k∧k≤8) (hv:v < 18446744073709551616) (hc:n≤c.getD n) :
  xCall T 385 [.slice (some (p,o)) n c,.int .u64 v,.int .i64 k] ⟨H,b,w⟩=some (.slice (some (H.length,0)) (n+k) none,⟨H++[.cells 1 ((l++putB v k).map u8V)],b,w⟩):=by
 have h411:=fun w=>s411 (H:=H) (b:=b) (w:=w) (k:=(k:Int))
 have q1:(1:Int)≤k:=by omega
 have q2:(k:Int)≤8:=by omega
 obtain ⟨P,x,w',i1,i2,i3⟩:=l385 hl hn hb hbl hk.2 hv k 0 H.length H (.slice (some (p,o)) n (some n)) (by omega) ⟨Pre.refl _,.inl ⟨rfl,rfl⟩⟩ (ai _)
 obtain ⟨hp,i1⟩:=i1
 rcases i1 with ⟨rfl,-⟩ | ⟨q,hq,rfl,hr⟩
 ·omega
 ·rw [dm (by rw [jp]; omega)] at hr
  have hf:=fun w0=>jw (O:=H) (P:=P) (b:=b) (w:=w0) (W:=w') (q:=q) (n:=n+k) (c:=none) hr (ju _) (fun g=>renL_u8 g _) hq i2
  obtain ⟨hll,X,hpp,hX⟩:=hl
  simp only [a9] at i3
  generalize (l++putB v k).map u8V=Y at *
  simp (disch:=omega) [ba t385,code385,-finish,h411,q1,q2,hpp,hc,i3,hf]
end
end
end Go.Abs.AbsBlb

namespace Go.Abs.AbsBlb
open Go.Abs.Short
def upG (v:Nat) (c:UInt8):Nat:=v*256+c.toNat
def getB (l:Bs):Nat:=l.foldl upG 0
theorem getB_lt:∀ (l:Bs) (v e:Nat),v < 256 ^ e→l.foldl upG v < 256 ^ (e+l.length)
 | [],v,e,h=>h
 | c :: l,v,e,h=>by
  rw [iy,bv,show e+(l.length+1)=(e+1)+l.length from by omega]
  apply getB_lt l
  have:c.toNat < 256:=c.toNat_lt
  unfold upG
  rw [Nat.pow_succ]
  omega
theorem or_add {v c:Nat} (hv:v < 72057594037927936) (hc:c < 256):orI .u64 (IntKind.u64.wrap ((v:Int)*2 ^ min 8 IntKind.u64.bits)) c=((v*256+c:Nat):Int):=by
 have h1:IntKind.u64.wrap ((v:Int)*2 ^ min 8 IntKind.u64.bits)=((v*256:Nat):Int):=by
  show IntKind.u64.wrap ((v:Int)*2 ^ 8)=_
  rw [wrapU (by omega)]
  omega
 rw [h1]
 have h2:(BitVec.ofInt 64 ((v*256:Nat):Int) ||| BitVec.ofInt 64 ((c:Nat):Int)).toNat=v*256+c:=by
  rw [BitVec.toNat_or,BitVec.ofInt_natCast,BitVec.ofInt_natCast,BitVec.toNat_ofNat,BitVec.toNat_ofNat,Nat.mod_eq_of_lt (by omega),Nat.mod_eq_of_lt (by omega),show v*256=v*2 ^ 8 from rfl,← Nat.shiftLeft_eq,Nat.shiftLeft_add_eq_or_of_lt (by omega)]
 unfold orI
 show IntKind.u64.wrap ((BitVec.ofInt 64 ((v*256:Nat):Int) ||| BitVec.ofInt 64 ((c:Nat):Int)).toNat:Int)=_
 rw [h2,wrapU (by omega)]
theorem put_succ (v k:Nat):putB v (k+1)=putB (v / 256) k++[UInt8.ofNat v]:=by
 unfold putB
 rw [List.range_succ,List.map_append]
 congr 1
 ·apply List.map_congr_left
  intro i hi
  have hi:=ce.1 hi
  unfold byteB
  rw [Nat.div_div_eq_div_mul,show k+1 - 1 - i=(k - 1 - i)+1 from by omega,Nat.mul_add,Nat.pow_add,Nat.mul_comm (2 ^ _)]
 ·unfold byteB
  simp
theorem getB_put:∀ (k v:Nat),getB (putB v k)=v % 256 ^ k
 | 0,v=>by
  show 0=_
  rw [Nat.pow_zero,Nat.mod_one]
 | k+1,v=>by
  rw [put_succ]
  unfold getB
  rw [List.foldl_append]
  show upG (getB (putB (v / 256) k)) _=_
  rw [getB_put k (v / 256),Nat.pow_succ,Nat.mul_comm (256 ^ k),Nat.mod_mul]
  unfold upG
  rw [UInt8.toNat_ofNat']
  omega
section
variable {H:List AObj} {b w:Nat}
section
attribute [-simp] getElem?_pos getElem?_neg List.all_eq_true
attribute [local simp] qZ qS nltT nltF iltT iltF ileT nleT dj
theorem l500 {p o n:Nat} {c:Option Nat} {l:Bs} (hl:SlB H p o n l) (hn:0 < n) (hb:n≤8):∀ (j i w v:Nat),i+j=n→v < 256 ^ i→∀ {β:Type} (k:AExit→St→Option β),
  xK T (.loop code500L0) ⟨[(8,.val (.int .u64 v)),(36,.val (.slice (some (p,o)) n c)),(37,.val (.int .i64 n)),(38,.val (.int .i64 i))],⟨H,b,w⟩⟩ (k:=⟨k⟩) =
   k (.exit 1) ⟨[(8,.val (.int .u64 ((l.drop i).foldl upG v:Nat)))],⟨H,b,w⟩⟩
 | 0,i,w,v,hi,hv,β,k=>by
  have hd:l.drop i=[]:=dx (by have:=hl.1; omega)
  rw [hd,b9]
  simp only [List.foldl_nil]
  simp (disch:=omega) [code500L0]
 | j+1,i,w,v,hi,hv,β,k=>by
  obtain ⟨x,hx⟩:∃ x,l[i]? = some x:=⟨_,aj (by have:=hl.1; omega)⟩
  obtain ⟨X,hp,g1⟩:=hl.get hx
  have hxl:=ah g1
  have hx256:x.toNat < 256:=x.toNat_lt
  have e2:((i+1:Nat):Int)=(i:Int)+1:=by omega
  have ih:=l500 (c:=c) hl hn hb j (i+1) w (upG v x) (by omega) (by unfold upG; rw [Nat.pow_succ]; omega) k
  rw [e2] at ih
  have hv2:v < 72057594037927936:=dq hv (b8 (Nat.pow_le_pow_right (by decide) (show i≤7 by omega)) (by decide))
  have hor:=or_add hv2 hx256
  have hwx:IntKind.u64.wrap (x.toNat:Int)=x.toNat:=wrapU (by omega)
  rw [ip hx,iy,b9,← ih]
  generalize ACode.loop code500L0=LL
  simp (disch:=omega) [code500L0,hp,g1,hxl,aBits_or,hwx,hor]
  unfold upG
  rfl
theorem s500 {p o n a k:Nat} {c:Option Nat} {l:Bs} (hl:SlB H p o n l) (hc:n≤c.getD n) (hb:n≤1000000000) (hk:0 < k∧k≤8) (ha:a+k≤n) :
  xCall T 500 [.slice (some (p,o)) n c,.int .i64 a,.int .i64 k] ⟨H,b,w⟩=some (.tuple [.int .u64 (getB ((l.drop a).take k):Nat),.int .i64 0],⟨H,b,w⟩):=by
 have h411:=fun w=>s411 (H:=H) (b:=b) (w:=w) (k:=(k:Int))
 have q1:(1:Int)≤k:=by omega
 have q2:(k:Int)≤8:=by omega
 have hs:SlB H p (o+a) k ((l.drop a).take k):=by
  obtain ⟨hll,X,hp,hX⟩:=hl
  refine ⟨by rw [dg,fh]; omega,X,hp,?_⟩
  rw [List.map_take,List.map_drop,← hX,List.drop_take,List.take_take,g9,Nat.min_eq_left (by omega)]
 have h0:=fun (c:Option Nat) {β:Type} w (k':AExit→St→Option β)=>l500 (b:=b) (c:=c) hs hk.1 hk.2 k 0 w 0 (by omega) (by decide) k'
 simp only [a9,dz] at h0
 have hg:((l.drop a).take k).foldl upG 0=getB ((l.drop a).take k):=rfl
 rw [hg] at h0
 obtain ⟨hll,X,hp,hX⟩:=hl
 have q3:¬ (n:Int) - a < k:=by omega
 have q4:¬ (n:Int) < a:=by omega
 have q5:k≤n - a:=by omega
 cases c with
 | none =>
  simp (disch:=omega) [ba t500,code500,h411,q1,q2,q3,q4,q5,hp,h0]
 | some cc =>
  have q6:¬ cc=a:=by simp at hc; omega
  have q7:k≤cc - a:=by simp at hc; omega
  simp only [df] at hc
  simp (disch:=omega) [ba t500,code500,h411,q1,q2,q3,q4,q5,hp,h0,q6,q7]
end
end
end Go.Abs.AbsBlb

namespace Go.Abs.AbsBlb
open Go.Abs.Short
theorem xor_u16 (x y:Int):∃ m:Nat,m < 65536∧xorI .u16 x y=m:=by
 refine ⟨(BitVec.ofInt 16 x ^^^ BitVec.ofInt 16 y).toNat,(BitVec.ofInt 16 x ^^^ BitVec.ofInt 16 y).isLt,?_⟩
 have h:(BitVec.ofInt 16 x ^^^ BitVec.ofInt 16 y).toNat < 65536:=(BitVec.ofInt 16 x ^^^ BitVec.ofInt 16 y).isLt
 show IntKind.u16.wrap ((BitVec.ofInt 16 x ^^^ BitVec.ofInt 16 y).toNat:Int)=_
 generalize (BitVec.ofInt 16 x ^^^ BitVec.ofInt 16 y).toNat=m at *
 unfold IntKind.wrap
 show (if (false && _)=true then _ else ((m:Int) % 2 ^ 16))=_
 simp
 omega
theorem xor_u32 (x y:Int):∃ m:Nat,m < 4294967296∧xorI .u32 x y=m:=by
 refine ⟨(BitVec.ofInt 32 x ^^^ BitVec.ofInt 32 y).toNat,(BitVec.ofInt 32 x ^^^ BitVec.ofInt 32 y).isLt,?_⟩
 have h:(BitVec.ofInt 32 x ^^^ BitVec.ofInt 32 y).toNat < 4294967296:=(BitVec.ofInt 32 x ^^^ BitVec.ofInt 32 y).isLt
 show IntKind.u32.wrap ((BitVec.ofInt 32 x ^^^ BitVec.ofInt 32 y).toNat:Int)=_
 generalize (BitVec.ofInt 32 x ^^^ BitVec.ofInt 32 y).toNat=m at *
 unfold IntKind.wrap
 show (if (false && _)=true then _ else ((m:Int) % 2 ^ 32))=_
 simp
 omega
def nat16 (l:Bs):Nat:=(sum16 l).toNat
def nat32 (l:Bs):Nat:=(sum32 l).toNat
theorem fold16:∀ (l:Bs) (s:Int),(∃ m:Nat,m < 65536∧s=m)→∃ m:Nat,m < 65536∧l.foldl up16 s=m
 | [],s,h=>h
 | c :: l,s,h=>fold16 l _ (xor_u16 ..)
theorem nat16_eq (l:Bs):sum16 l=nat16 l∧nat16 l < 65536:=by
 obtain ⟨m,h1,h2⟩:=fold16 l 65535 ⟨65535,by decide,rfl⟩
 have h3:sum16 l=m:=h2
 unfold nat16
 rw [h3]
 exact ⟨rfl,h1⟩
theorem nat32_eq (l:Bs):sum32 l=nat32 l∧nat32 l < 4294967296:=by
 obtain ⟨m,h1,h2⟩:=xor_u32 IntKind.u32.max (l.foldl up32 4294967295)
 have h3:sum32 l=m:=h2
 unfold nat32
 rw [h3]
 exact ⟨rfl,h1⟩
def headA (seq:Nat):Bs:=[67,66]++putB seq 4
def headB (seq:Nat):Bs:=headA seq++putB (nat16 (headA seq)) 2
theorem len_headA (s:Nat):(headA s).length=6:=by unfold headA; rw [ap,jp]; rfl
theorem g8 (s:Nat):(headB s).length=8:=by unfold headB; rw [ap,jp,len_headA]
section
variable {H:List AObj} {b w:Nat}
theorem s604:xCall T 604 [] ⟨H,b,w⟩=some (.agg [.int .u8 67,.int .u8 66],⟨H,b,w⟩):=by
 simp (disch:=omega) [-getElem?_pos,-getElem?_neg,-List.all_eq_true,qZ,qS,nltT,nltF,iltT,iltF,ileT,nleT,dj,ba t604,code604]
theorem bytesOf_u8:∀ l:Bs,bytesOf (l.map u8V)=some l
 | []=>rfl
 | x :: l=>by
  rw [bc]
  unfold u8V bytesOf
  have:=bytesOf_u8 l
  unfold u8V at this
  rw [this]
  simp
section
attribute [-simp] getElem?_pos getElem?_neg List.all_eq_true
attribute [local simp] qZ qS nltT nltF iltT iltF ileT nleT dj
theorem s619 {p o n q r m:Nat} {c d:Option Nat} {l k:Bs} (hl:SlB H p o n l) (hk:SlB H q r m k) (hn:0 < n) (hm:0 < m):xCall T 619 [.slice (some (p,o)) n c,.slice (some (q,r)) m d] ⟨H,b,w⟩=some (.bool (decide (l=k)),⟨H,b,w⟩):=by
 have h1:=fun w=>hl.row (b:=b) (w:=w) hn c
 have h2:=fun w=>hk.row (b:=b) (w:=w) hm d
 simp (disch:=omega) [ba t619,code619,-rowOf,h1,h2,bytesOf_u8]
theorem s630 {seq:Nat} (hs:seq < 4294967296) (hbl:b≤H.length):xCall T 630 [.int .u32 seq] ⟨H,b,w⟩=some (.slice (some (H.length,0)) 8 none,⟨H++[.cells 1 ((headB seq).map u8V)],b,w⟩):=by
 have h604:=fun w=>s604 (H:=H) (b:=b) (w:=w)
 have h1:=fun w=>s385 (H:=H++[.cells 1 [.int .u8 67,.int .u8 66]]) (b:=b) (w:=w) (p:=H.length) (o:=0) (n:=2) (l:=[67,66]) (v:=seq) (k:=4) (c:=some 2) (SlB.whole (fp _ _) rfl) (by omega) (by omega) (by rw [ap]; omega) (by omega) (by omega) (ai _)
 have hA:SlB (H++[.cells 1 [.int .u8 67,.int .u8 66],.cells 1 ((headA seq).map u8V)]) (H.length+1) 0 6 (headA seq):=SlB.whole (iw _ _ 1) (len_headA _)
 have h2:=fun w=>s602 (b:=b) (w:=w) (c:=none) hA (by omega) (by omega)
 obtain ⟨n1,n2⟩:=nat16_eq (headA seq)
 rw [n1] at h2
 have h3:=fun w=>s385 (b:=b) (w:=w) (c:=none) (v:=nat16 (headA seq)) (k:=2) hA (by omega) (by omega) (by rw [ap]; omega) (by omega) (by omega) (ai _)
 have hB:headA seq++putB (nat16 (headA seq)) 2=headB seq:=rfl
 rw [hB,aw] at h3
 rw [aw] at h1
 have hAA:([67,66]:Bs)++putB seq 4=headA seq:=rfl
 rw [hAA] at h1
 have hw1:IntKind.u64.wrap (seq:Int)=seq:=wrapU (by omega)
 have hw2:IntKind.u64.wrap (nat16 (headA seq):Int)=nat16 (headA seq):=wrapU (by omega)
 simp only [ap,bv,dw,c6,Nat.reduceAdd,ff,eh,a9] at h1 h2 h3
 have hf:=fun w0=>jw (O:=H) (P:=H++[.cells 1 [.int .u8 67,.int .u8 66],.cells 1 ((headA seq).map u8V),.cells 1 ((headB seq).map u8V)]) (b:=b) (w:=w0) (W:=H.length) (q:=H.length+2) (n:=8) (c:=none) (iw H _ 2) (ju _) (fun g=>renL_u8 g _) (by omega) (ai _)
 generalize (headB seq).map u8V=Y at *
 generalize (headA seq).map u8V=Y' at *
 simp (disch:=omega) [ba t630,code630,-finish,h604,h1,h2,h3,hw1,hw2,hf]
end
theorem SlB.sub {p o n a k:Nat} {l:Bs} (hl:SlB H p o n l) (ha:a+k≤n):SlB H p (o+a) k ((l.drop a).take k):=by
 obtain ⟨hll,X,hp,hX⟩:=hl
 refine ⟨by rw [dg,fh]; omega,X,hp,?_⟩
 rw [List.map_take,List.map_drop,← hX,List.drop_take,List.take_take,g9,Nat.min_eq_left (by omega)]
theorem s603 {p o n q r m:Nat} {c d:Option Nat} {l k:Bs} (hl:SlB H p o n l) (hk:SlB H q r m k) (hm:0 < m) (hnm:m≤n) (hc:n≤c.getD n):xCall T 603 [.slice (some (p,o)) n c,.slice (some (q,r)) m d] ⟨H,b,w⟩=some (.bool (decide (l.take m=k)),⟨H,b,w⟩):=by
 have h1:=fun (c:Option Nat) w=>s619 (b:=b) (w:=w) (c:=c) (d:=d) (hl.sub (a:=0) (k:=m) (by omega)) hk hm hm
 rw [dz,Nat.add_zero] at h1
 obtain ⟨hll,X,hp,hX⟩:=hl
 have q1:¬ n < m:=by omega
 have q2:m≤c.getD n:=by omega
 simp (disch:=omega) [-getElem?_pos,-getElem?_neg,-List.all_eq_true,qZ,qS,nltT,nltF,iltT,iltF,ileT,nleT,dj,ba t603,code603,h1,hp,q1,q2,hnm]
def parseE (l:Bs):Nat:=if l.take 2=[67,66] then (if getB ((l.drop 6).take 2)=nat16 (l.take 6) then 0 else 7) else 8
def parseV (l:Bs):List AVal:=if parseE l=0 then [.int .u32 (getB ((l.drop 2).take 4):Nat),.bool (decide (l[8]? = some 0)),.bool (!decide (l[9]? = some 255))] else [.int .u32 0,.bool false,.bool false]
theorem wrap16 {x:Int} (h:0≤x∧x < 65536):IntKind.u16.wrap x=x:=by
 unfold IntKind.wrap
 show (if (false && _)=true then _ else (x % 2 ^ 16))=_
 simp
 omega
theorem wrap32 {x:Int} (h:0≤x∧x < 4294967296):IntKind.u32.wrap x=x:=by
 unfold IntKind.wrap
 show (if (false && _)=true then _ else (x % 2 ^ 32))=_
 simp
 omega
theorem u8_255 (x:UInt8):((x.toNat:Int)=255)=(x=255):=by
 apply propext
 constructor
 ·intro h
  have h1:x.toNat=255:=by omega
  exact UInt8.toNat_inj.1 h1
 ·rintro rfl; rfl
section
attribute [-simp] getElem?_pos getElem?_neg List.all_eq_true
attribute [local simp] qZ qS nltT nltF iltT iltF ileT nleT dj
theorem s586 {p o n:Nat} {c:Option Nat} {l:Bs} (hl:SlB H p o n l) (hn:12≤n) (hb:n≤1000000000) (hc:n≤c.getD n) (hbl:b≤H.length):xCall T 586 [.slice (some (p,o)) n c] ⟨H,b,w⟩=some (.tuple [.agg (parseV l),.int .i64 (parseE l)],⟨H,b,w⟩):=by
 have h604:=fun w=>s604 (H:=H) (b:=b) (w:=w)
 have hM:SlB (H++[.cells 1 [.int .u8 67,.int .u8 66]]) H.length 0 2 [67,66]:=SlB.whole (fp _ _) rfl
 have hl':SlB (H++[.cells 1 [.int .u8 67,.int .u8 66]]) p o n l:=hl.mono fun o ho=>by rw [ag (ah ho)]; exact ho
 have h603:=fun d w=>s603 (b:=b) (w:=w) (d:=d) hl' hM (by omega) (by omega) hc
 have hA:=s500 (b:=b) (w:=H.length) (c:=c) (a:=6) (k:=2) hl' hc hb (by omega) (by omega)
 have hB:=s500 (b:=b) (w:=H.length) (c:=c) (a:=2) (k:=4) hl' hc hb (by omega) (by omega)
 have hC:=fun (c:Option Nat) w=>s602 (b:=b) (w:=w) (c:=c) (hl'.sub (a:=0) (k:=6) (by omega)) (by omega) (by omega)
 rw [dz,Nat.add_zero,(nat16_eq _).1] at hC
 have g2:getB ((l.drop 6).take 2) < 65536:=by
  have:=getB_lt ((l.drop 6).take 2) 0 0 (by decide)
  rw [dg,fh,Nat.min_eq_left (by have:=hl.1; omega)] at this
  exact this
 have g4:getB ((l.drop 2).take 4) < 4294967296:=by
  have:=getB_lt ((l.drop 2).take 4) 0 0 (by decide)
  rw [dg,fh,Nat.min_eq_left (by have:=hl.1; omega)] at this
  exact this
 have w2:=wrap16 (x:=(getB ((l.drop 6).take 2):Int)) (by omega)
 have w4:=wrap32 (x:=(getB ((l.drop 2).take 4):Int)) (by omega)
 obtain ⟨x8,hx8⟩:∃ x,l[8]? = some x:=⟨_,aj (by have:=hl.1; omega)⟩
 obtain ⟨x9,hx9⟩:∃ x,l[9]? = some x:=⟨_,aj (by have:=hl.1; omega)⟩
 obtain ⟨X,hp,k8⟩:=hl.get hx8
 obtain ⟨X',hp',k9⟩:=hl.get hx9
 rw [hp] at hp'
 obtain rfl:X=X':=by simpa using hp'
 have z8:=u8_zero x8
 have z9:=u8_255 x9
 have y8:=ah k8
 have y9:=ah k9
 have q1:¬ n < 12:=by omega
 have hm16:=(nat16_eq (l.take 6)).2
 have wm:=wrap16 (x:=(nat16 (l.take 6):Int)) (by omega)
 have hpl:=ah hp
 have hpx:(H++[AObj.cells 1 [.int .u8 67,.int .u8 66]])[p]? = some (.cells 1 X):=by rw [ag hpl]; exact hp
 have q2:6≤c.getD n:=by omega
 simp only [a9] at hA hB hC h603
 unfold parseV parseE
 rw [hx8,hx9]
 by_cases c1:l.take 2=[67,66]
 ·rw [if_pos c1]
  by_cases c2:getB ((l.drop 6).take 2)=nat16 (l.take 6)
  ·rw [if_pos c2]
   generalize getB ((l.drop 6).take 2)=v2 at *
   generalize getB ((l.drop 2).take 4)=v4 at *
   generalize nat16 (l.take 6)=m at *
   simp (disch:=omega) [ba t586,code586,h604,h603,hA,hB,hC,w2,wm,w4,c1,c2,hp,k8,k9,y8,y9,z8,z9,q1,q2,hbl,hpx]
   exact ⟨fun h=>UInt8.toNat_inj.1 h,fun h=>h ▸ rfl⟩
  ·rw [if_neg c2]
   generalize getB ((l.drop 6).take 2)=v2 at *
   generalize getB ((l.drop 2).take 4)=v4 at *
   generalize nat16 (l.take 6)=m at *
   have c3:¬ ((v2:Int)=m):=by omega
   simp (disch:=omega) [ba t586,code586,h604,h603,hA,hB,hC,w2,w4,c1,c3,hp,k8,k9,y8,y9,z8,z9,q1,q2,hbl,hpx]
 ·rw [if_neg c1]
  simp (disch:=omega) [ba t586,code586,h604,h603,c1,q1,hbl]
end
end
end Go.Abs.AbsBlb

namespace Go.Abs.AbsBlb
structure Sec where
 st:Int
 seq:Int
 er:Int
def Sec.cells (s:Sec):List AVal:=[.int .i64 s.st,.int .u32 s.seq,.int .i64 s.er]
@[simp] theorem Sec.len (s:Sec):s.cells.length=3:=rfl
@[simp] theorem Sec.take3 (s:Sec):s.cells.take 3=s.cells:=rfl
def opn (lim:Int) (x:Sec):Bool:=decide (x.st=0) || (decide (x.st=1) && decide (x.er < lim))
variable {os:List AObj} {b w:Nat}
theorem s22 {lim:Int} {x:Sec} {p:Nat} (hp:os[p]? = some (.cells 1 [.int .i64 lim])) :
  xCall T 22 [.agg x.cells,.ptr (some (p,0))] ⟨os,b,w⟩=some (.bool (opn lim x),⟨os,b,w⟩):=by
 by_cases h0:x.st=0
 ·simp [xCall_eq T t22,code22,Sec.cells,opn,hp,h0]
 ·by_cases h1:x.st=1
  ·simp [xCall_eq T t22,code22,Sec.cells,opn,hp,h0,h1]
  ·simp [xCall_eq T t22,code22,Sec.cells,opn,hp,h0,h1]
theorem s13 {lim:Int}:xCall T 13 [.int .i64 lim] ⟨os,b,w⟩=some (.func 22 [] [.ptr (some (os.length,0))],⟨os++[.cells 1 [.int .i64 lim]],b,w⟩):=by
 simp [xCall_eq T t13,code13,jk,jl]
theorem s15 {x:Sec}:xCall T 15 [.agg x.cells] ⟨os,b,w⟩=some (.int .i64 x.er,⟨os,b,w⟩):=by
 simp [xCall_eq T t15,code15,Sec.cells]
theorem s18 {x:Sec}:xCall T 18 [.agg x.cells] ⟨os,b,w⟩=some (.bool (decide (x.st=2)),⟨os,b,w⟩):=by
 simp [xCall_eq T t18,code18,Sec.cells]
theorem s19 {x:Sec}:xCall T 19 [.agg x.cells] ⟨os,b,w⟩=some (.int .u32 x.seq,⟨os,b,w⟩):=by
 simp [xCall_eq T t19,code19,Sec.cells]
def least (m:Sec→Bool) (k:Sec→Int) (L:List Sec):Nat→Nat × Bool
 | 0=>(0,false)
 | i+1=>match L[i]? with
  | some x=>if m x && (!(least m k L i).2 || (L[(least m k L i).1]?).any fun y=>decide (k x < k y)) then (i,true) else least m k L i
  | none=>least m k L i
theorem least_lt (m:Sec→Bool) (k:Sec→Int) (L:List Sec):∀ i,i≤L.length→(least m k L i).2=true→(least m k L i).1 < L.length
 | 0,_,h=>by simp [least] at h
 | i+1,hi,h=>by
  simp only [least] at h ⊢
  split
  ·split
   ·show i < _; omega
   ·rename_i hx hc
    rw [hx] at h
    simp only at h
    rw [if_neg hc] at h
    exact least_lt m k L i (by omega) h
  ·rename_i hx
   rw [hx] at h
   exact least_lt m k L i (by omega) h
def stL (v mf kf:AVal) (n:Nat) (os:List AObj) (b w:Nat) (i:Nat) (p:Nat × Bool):St :=
 ⟨[(0,.val v),(1,.val mf),(2,.val kf),(8,.val (.int .i64 p.1)),(9,.val (.bool p.2)),(12,.val v),(13,.val (.int .i64 n)),(14,.val (.int .i64 i))],⟨os,b,w⟩⟩
section
attribute [-simp] getElem?_pos getElem?_neg List.all_eq_true
attribute [local simp] qZ qS nltT nltF iltT iltF ileT nleT dj
theorem l14 {kd:IntKind} {m:Sec→Bool} {k:Sec→Int} {L:List Sec} {a:Option (Nat × Nat)} {c:Option Nat} {gm gk:Nat} {am ak cm ck:List AVal} (hR:Row os 3 Sec.cells L a) (hn:L.length≤1000000000)
  (hm:∀ (x:Sec) (w:Nat),xCall T gm (am ++ .agg x.cells :: cm) ⟨os,b,w⟩=some (.bool (m x),⟨os,b,w⟩))
  (hk:∀ (x:Sec) (w:Nat),xCall T gk (ak ++ .agg x.cells :: ck) ⟨os,b,w⟩=some (.int kd (k x),⟨os,b,w⟩)):∀ (j i w:Nat),i+j=L.length→∀ {β:Type} (k':AExit→St→Option β),
  xK T (.loop code14L0) (stL (.slice a L.length c) (.func gm am cm) (.func gk ak ck) L.length os b w i (least m k L i)) (k:=⟨k'⟩) =
   k' (.exit 0) ⟨[(8,.val (.int .i64 (least m k L L.length).1)),(9,.val (.bool (least m k L L.length).2))],⟨os,b,w⟩⟩
 | 0,i,w,hi,β,k'=>by
  obtain rfl:i=L.length:=by omega
  rw [b9]
  generalize least m k L L.length=p
  unfold stL
  simp (disch:=omega) [code14L0]
 | j+1,i,w,hi,β,k'=>by
  obtain ⟨x,hx⟩:∃ x,L[i]? = some x:=⟨_,aj (by omega)⟩
  obtain ⟨bb,o,cs,rfl,hrow,hpart⟩:=hR.at' (ne_of_get hx)
  obtain ⟨p1,p2⟩:=hpart i x hx
  have hlt:=least_lt m k L i (by omega)
  have e2:((i+1:Nat):Int)=(i:Int)+1:=by omega
  have ih:=l14 (c:=c) hR hn hm hk j (i+1) w (by omega) k'
  rw [b9,← ih]
  unfold stL
  rw [e2]
  have hls:least m k L (i+1)=if m x && (!(least m k L i).2 || (L[(least m k L i).1]?).any fun y=>decide (k x < k y)) then (i,true) else least m k L i:=by
   rw [least,hx]
  rw [hls]
  generalize ACode.loop code14L0=LL
  generalize least m k L i=p at hlt
  obtain ⟨at_,f⟩:=p
  by_cases hmx:m x=true
  ·cases f with
   | false =>
    simp (disch:=omega) [code14L0,hrow,p1,p2,hm,hk,hmx]
   | true =>
    have hat:=hlt rfl
    simp only at hat
    obtain ⟨y,hy⟩:∃ y,L[at_]? = some y:=⟨_,aj hat⟩
    obtain ⟨q1,q2⟩:=hpart at_ y hy
    by_cases hlt:k x < k y
    ·simp (disch:=omega) [code14L0,hrow,p1,p2,q1,q2,hm,hk,hmx,hy,hlt]
    ·simp (disch:=omega) [code14L0,hrow,p1,p2,q1,q2,hm,hk,hmx,hy,hlt]
  ·simp (disch:=omega) [code14L0,hrow,p1,p2,hm,hk,hmx]
theorem s14 {m:Sec→Bool} {k:Sec→Int} {L:List Sec} {a:Option (Nat × Nat)} {c:Option Nat} {gm gk:Nat} {am ak cm ck:List AVal} (hR:Row os 3 Sec.cells L a) (hn:L.length≤1000000000)
  (hm:∀ (x:Sec) (w:Nat),xCall T gm (am ++ .agg x.cells :: cm) ⟨os,b,w⟩=some (.bool (m x),⟨os,b,w⟩))
  (hk:∀ (x:Sec) (w:Nat),xCall T gk (ak ++ .agg x.cells :: ck) ⟨os,b,w⟩=some (.int .i64 (k x),⟨os,b,w⟩)) :
  xCall T 14 [.slice a L.length c,.func gm am cm,.func gk ak ck] ⟨os,b,w⟩=some (.tuple [.int .i64 (least m k L L.length).1,.bool (least m k L L.length).2],⟨os,b,w⟩):=by
 have h0:=fun {β:Type} (k':AExit→St→Option β)=>l14 (c:=c) hR hn hm hk L.length 0 os.length (by omega) k'
 simp only [stL,a9,least] at h0
 generalize least m k L L.length=p at *
 simp (disch:=omega) [ba t14,code14,h0]
theorem s17 {m:Sec→Bool} {k:Sec→Int} {L:List Sec} {a:Option (Nat × Nat)} {c:Option Nat} {gm gk:Nat} {am ak cm ck:List AVal} (hR:Row os 3 Sec.cells L a) (hn:L.length≤1000000000)
  (hm:∀ (x:Sec) (w:Nat),xCall T gm (am ++ .agg x.cells :: cm) ⟨os,b,w⟩=some (.bool (m x),⟨os,b,w⟩))
  (hk:∀ (x:Sec) (w:Nat),xCall T gk (ak ++ .agg x.cells :: ck) ⟨os,b,w⟩=some (.int .u32 (k x),⟨os,b,w⟩)) :
  xCall T 17 [.slice a L.length c,.func gm am cm,.func gk ak ck] ⟨os,b,w⟩=some (.tuple [.int .i64 (least m k L L.length).1,.bool (least m k L L.length).2],⟨os,b,w⟩):=by
 have h0:=fun {β:Type} (k':AExit→St→Option β)=>l14 (c:=c) hR hn hm hk L.length 0 os.length (by omega) k'
 simp only [stL,a9,least] at h0
 generalize least m k L L.length=p at *
 have e:code17L0=code14L0:=rfl
 simp (disch:=omega) [ba t17,code17,e,h0]
theorem s7 {lim:Int} {L:List Sec} {a:Option (Nat × Nat)} {c:Option Nat} (hR:Row os 3 Sec.cells L a) (hn:L.length≤1000000000) :
  xCall T 7 [.slice a L.length c,.int .i64 lim] ⟨os,b,w⟩=some (.tuple [.int .i64 (least (opn lim) Sec.er L L.length).1,.bool (least (opn lim) Sec.er L L.length).2],⟨os,b,w⟩):=by
 have h1:=fun w=>s14 (os:=os++[.cells 1 [.int .i64 lim]]) (b:=b) (w:=w) (c:=c) (m:=opn lim) (k:=Sec.er) (gm:=22) (gk:=15) (am:=[]) (ak:=[]) (cm:=[.ptr (some (os.length,0))]) (ck:=[]) (hR.ext _) hn
  (fun x w=>s22 (by simp)) (fun x w=>s15)
 generalize least (opn lim) Sec.er L L.length=p at *
 simp (disch:=omega) [ba t7,code7,s13,h1]
theorem s5 {L:List Sec} {a:Option (Nat × Nat)} {c:Option Nat} (hR:Row os 3 Sec.cells L a) (hn:L.length≤1000000000) :
  xCall T 5 [.slice a L.length c] ⟨os,b,w⟩=some (.tuple [.int .i64 (least (fun x=>decide (x.st=2)) Sec.seq L L.length).1,.bool (least (fun x=>decide (x.st=2)) Sec.seq L L.length).2],⟨os,b,w⟩):=by
 have h1:=fun w=>s17 (os:=os) (b:=b) (w:=w) (c:=c) (m:=fun x=>decide (x.st=2)) (k:=Sec.seq) (gm:=18) (gk:=19) (am:=[]) (ak:=[]) (cm:=[]) (ck:=[]) hR hn
  (fun x w=>s18) (fun x w=>s19)
 generalize least (fun x=>decide (x.st=2)) Sec.seq L L.length=p at *
 simp (disch:=omega) [ba t5,code5,h1]
end
def cnt (m:Sec→Bool) (L:List Sec):Nat→Nat
 | 0=>0
 | i+1=>match L[i]? with
  | some x=>if m x then cnt m L i+1 else cnt m L i
  | none=>cnt m L i
theorem cnt_le (m:Sec→Bool) (L:List Sec):∀ i,cnt m L i≤i
 | 0=>ai _
 | i+1=>by
  have:=cnt_le m L i
  simp only [cnt]
  split
  ·split <;> omega
  ·omega
section
attribute [-simp] getElem?_pos getElem?_neg List.all_eq_true
attribute [local simp] qZ qS nltT nltF iltT iltF ileT nleT dj
theorem lfree {m:Sec→Bool} {L:List Sec} {a:Option (Nat × Nat)} {c:Option Nat} {gm:Nat} {am cm:List AVal} (hR:Row os 3 Sec.cells L a) (hn:L.length≤1000000000)
  (hm:∀ (x:Sec) (w:Nat),xCall T gm (am ++ .agg x.cells :: cm) ⟨os,b,w⟩=some (.bool (m x),⟨os,b,w⟩)):∀ (j i w:Nat),i+j=L.length→∀ {β:Type} (k':AExit→St→Option β),
  xK T (.loop code0L0) ⟨[(5,.val (.int .i64 (cnt m L i))),(6,.val (.func gm am cm)),(11,.val (.slice a L.length c)),(12,.val (.int .i64 L.length)),(13,.val (.int .i64 i))],⟨os,b,w⟩⟩ (k:=⟨k'⟩) =
   k' (.exit 0) ⟨[(5,.val (.int .i64 (cnt m L L.length)))],⟨os,b,w⟩⟩
 | 0,i,w,hi,β,k'=>by
  obtain rfl:i=L.length:=by omega
  rw [b9]
  simp (disch:=omega) [code0L0]
 | j+1,i,w,hi,β,k'=>by
  obtain ⟨x,hx⟩:∃ x,L[i]? = some x:=⟨_,aj (by omega)⟩
  obtain ⟨bb,o,cs,rfl,hrow,hpart⟩:=hR.at' (ne_of_get hx)
  obtain ⟨p1,p2⟩:=hpart i x hx
  have hc:=cnt_le m L i
  have e2:((i+1:Nat):Int)=(i:Int)+1:=by omega
  have ih:=lfree (c:=c) hR hn hm j (i+1) w (by omega) k'
  have hls:cnt m L (i+1)=if m x then cnt m L i+1 else cnt m L i:=by rw [cnt,hx]
  rw [hls,e2] at ih
  rw [b9,← ih]
  generalize ACode.loop code0L0=LL
  generalize cnt m L i=p at hc
  by_cases hmx:m x=true
  ·simp (disch:=omega) [code0L0,hrow,p1,p2,hm,hmx]
  ·simp (disch:=omega) [code0L0,hrow,p1,p2,hm,hmx]
theorem s0 {lim:Int} {L:List Sec} {a:Option (Nat × Nat)} {c:Option Nat} (hR:Row os 3 Sec.cells L a) (hn:L.length≤1000000000) :
  xCall T 0 [.slice a L.length c,.int .i64 lim] ⟨os,b,w⟩=some (.int .i64 (cnt (opn lim) L L.length),⟨os,b,w⟩):=by
 have h0:=fun {β:Type} (k':AExit→St→Option β)=>lfree (os:=os++[.cells 1 [.int .i64 lim]]) (b:=b) (c:=c) (gm:=22) (am:=[]) (cm:=[.ptr (some (os.length,0))]) (m:=opn lim) (hR.ext _) hn (fun x w=>s22 (by simp)) L.length 0 os.length (by omega) k'
 simp only [cnt,a9] at h0
 simp (disch:=omega) [ba t0,code0,s13,h0]
end
end Go.Abs.AbsBlb

namespace Go.Abs.AbsBlb
open Go.Abs.Short
def blankB (l:Bs):Bool:=l.all fun c=>decide (c=255)
def lookB (l:Bs) (er:Nat):Sec :=
 if blankB l then ⟨0,0,er⟩ else if parseE l=0∧l[8]? = some 0∧l[9]? = some 255 then ⟨2,(getB ((l.drop 2).take 4):Nat),er⟩ else ⟨1,0,er⟩
def Fl.sec (F:Fl) (i:Nat):Bs:=(F.b.drop (i*F.z)).take F.z
def Fl.look (F:Fl) (i:Nat):Sec:=lookB (F.sec i) ((F.w[i]?).getD 0)
section
variable {H:List AObj} {b w:Nat}
section
attribute [-simp] getElem?_pos getElem?_neg List.all_eq_true
attribute [local simp] qZ qS nltT nltF iltT iltF ileT nleT dj
theorem s585 {x:UInt8}:xCall T 585 [.int .u8 x.toNat] ⟨H,b,w⟩=some (.bool (!decide (x=255)),⟨H,b,w⟩):=by
 have h:=u8_255 x
 simp (disch:=omega) [ba t585,code585,h]
theorem l176 {p o n:Nat} {c:Option Nat} {l:Bs} (hl:SlB H p o n l) (hb:n≤1000000000):∀ (j i w:Nat),i+j=n →
  ∃ m:Nat,∀ {β:Type} (k:AExit→St→Option β),
  xK T (.loop code176L0) ⟨[(0,.val (.slice (some (p,o)) n c)),(1,.val (.func 585 [] [])),(7,.val (.int .i64 n)),(8,.val (.int .i64 i))],⟨H,b,w⟩⟩ (k:=⟨k⟩) =
   if blankB (l.drop i) then k (.exit 0) ⟨[],⟨H,b,w⟩⟩ else k .ret ⟨[(4,.val (.int .i64 m))],⟨H,b,w⟩⟩
 | 0,i,w,hi=>⟨0,fun k=>by
  have hd:l.drop i=[]:=dx (by have:=hl.1; omega)
  rw [hd,b9]
  simp only [blankB,List.all_nil,if_true]
  simp (disch:=omega) [code176L0]⟩
 | j+1,i,w,hi=>by
  obtain ⟨x,hx⟩:∃ x,l[i]? = some x:=⟨_,aj (by have:=hl.1; omega)⟩
  obtain ⟨X,hp,g1⟩:=hl.get hx
  have hxl:=ah g1
  have e2:((i+1:Nat):Int)=(i:Int)+1:=by omega
  have h585:=fun w=>s585 (H:=H) (b:=b) (w:=w) (x:=x)
  have hbl:blankB (l.drop i)=(decide (x=255) && blankB (l.drop (i+1))):=by
   rw [ip hx]; rfl
  by_cases hc:x=255
  ·obtain ⟨m,hm⟩:=l176 (c:=c) hl hb j (i+1) w (by omega)
   refine ⟨m,fun k=>?_⟩
   have ih:=hm k
   rw [e2] at ih
   rw [hbl,b9]
   simp only [hc,decide_true,Bool.true_and]
   rw [← ih]
   rw [hc] at h585
   have g1':X[o+i]? = some (.int .u8 (255:UInt8).toNat):=by rw [← hc]; exact g1
   generalize ((255:UInt8).toNat:Int)=q at *
   generalize ACode.loop code176L0=LL
   simp (disch:=omega) [code176L0,hp,g1',hxl,h585]
  ·refine ⟨i,fun k=>?_⟩
   rw [hbl,b9]
   simp only [hc,decide_false,Bool.false_and]
   generalize (x.toNat:Int)=q at *
   simp (disch:=omega) [code176L0,hp,g1,hxl,h585,hc]
theorem s145 {p o n:Nat} {c:Option Nat} {l:Bs} (hl:SlB H p o n l) (hb:n≤1000000000):xCall T 145 [.slice (some (p,o)) n c,.func 585 [] []] ⟨H,b,w⟩=some (.bool (!blankB l),⟨H,b,w⟩):=by
 have h176:∃ m:Int,(0≤m)=(blankB l=false)∧∀ w,xCall T 176 [.slice (some (p,o)) n c,.func 585 [] []] ⟨H,b,w⟩=some (.int .i64 m,⟨H,b,w⟩):=by
  obtain ⟨m,hm⟩:=l176 (b:=b) (c:=c) hl hb n 0 H.length (by omega)
  simp only [a9,dz] at hm
  by_cases hc:blankB l=true
  ·refine ⟨-1,by rw [hc]; decide,fun w=>?_⟩
   simp only [eq_true hc,if_true] at hm
   simp (disch:=omega) [ba t176,code176,hm]
  ·refine ⟨m,by simp [hc],fun w=>?_⟩
   simp only [eq_false hc,if_false] at hm
   simp (disch:=omega) [ba t176,code176,hm]
 obtain ⟨m,e,hm⟩:=h176
 simp (disch:=omega) [ba t145,code145,hm,e]
end
end
section
variable {H:List AObj} {b w:Nat} {I:FI} {F:Fl}
theorem FlA.sec_len (h:FlA H I F) {i:Nat} (hi:i < F.n):(F.sec i).length=F.z∧i*F.z+F.z≤F.b.length:=by
 have hin:i*F.z+F.z≤F.b.length:=by
  rw [h.bl]
  calc i*F.z+F.z=(i+1)*F.z:=by rw [Nat.succ_mul]
   _≤F.n*F.z:=fj _ (by omega)
 refine ⟨?_,hin⟩
 unfold Fl.sec
 rw [dg,fh]; omega
section
attribute [-simp] getElem?_pos getElem?_neg List.all_eq_true
attribute [local simp] qZ qS nltT nltF iltT iltF ileT nleT dj
theorem s564 (h:FlA H I F) {i:Nat} (hi:i < F.n) (hz:12≤F.z) (hbl:b≤H.length):xCall T 564 [.ptr (some (I.fl,0)),.int .i64 i] ⟨H,b,w⟩=some (.tuple [.agg (F.look i).cells,.int .i64 0],⟨H,b,w⟩):=by
 obtain ⟨hsl,hin⟩:=h.sec_len hi
 have hzb:=h.nb.2
 have hnb:=h.nb.1
 have ht:=h.total
 have hfl:=ah h.f
 obtain ⟨x,hx⟩:∃ x,F.w[i]? = some x:=⟨_,aj (by have:=h.wl; omega)⟩
 have keepA:∀ Y,FlA (H++Y) I F:=fun Y=>h.keep fun i o ho _=>by rw [ag (ah ho)]; exact ho
 have h573:=fun Y w=>s573 (b:=b) (w:=w) (keepA Y)
 have h587:=fun Y w=>s587 (b:=b) (w:=w) (keepA Y) hx
 have h588:=fun Y w=>s588 (b:=b) (w:=w) (a:=i*F.z) (n:=F.z) (keepA Y) (by omega) (by omega) (by omega) hin
 have hS:∀ Z Y,SlB (H++Z :: AObj.cells 1 ((F.sec i).map u8V) :: Y) (H.length+1) 0 F.z (F.sec i):=fun Z Y=>SlB.whole (iw H (Z :: AObj.cells 1 ((F.sec i).map u8V) :: Y) 1) hsl
 have h586:=fun Z Y w=>s586 (b:=b) (w:=w) (c:=none) (hS Z Y) hz (by omega) (ai _) (by rw [ap]; omega)
 have h145:=fun Z Y w=>s145 (b:=b) (w:=w) (c:=none) (hS Z Y) (by omega)
 have hsec:(F.b.drop (i*F.z)).take F.z=F.sec i:=rfl
 rw [hsec] at h588
 have hmi:(i:Int)*(F.z:Int)=((i*F.z:Nat):Int):=(Int.natCast_mul i F.z).symm
 have q1:¬ ((F.n:Int)≤i):=by omega
 have hpar:∃ v4 d8 d9,parseV (F.sec i)=[.int .u32 v4,.bool d8,.bool d9]∧(parseE (F.sec i)=0→v4=(getB (((F.sec i).drop 2).take 4):Nat)∧d8=decide ((F.sec i)[8]? = some 0)∧d9 = !decide ((F.sec i)[9]? = some 255)):=by
  unfold parseV
  split
  ·exact ⟨_,_,_,rfl,fun _=>⟨rfl,rfl,rfl⟩⟩
  ·rename_i hc
   exact ⟨_,_,_,rfl,fun h=>absurd h hc⟩
 obtain ⟨v4,d8,d9,hpv,hpz⟩:=hpar
 rw [hpv] at h586
 have hlook:F.look i=lookB (F.sec i) x:=by unfold Fl.look; rw [hx]; rfl
 have hbq:i*F.z≤1000000000:=by omega
 rw [hlook]
 unfold lookB
 generalize (F.sec i).map u8V=Y at *
 generalize i*F.z=q at *
 by_cases c1:blankB (F.sec i)=true
 ·rw [if_pos c1]
  simp (disch:=omega) [ba t564,code564,h573,h588,h587,h586,h145,c1,hmi,q1,hbl,Sec.cells]
 ·rw [if_neg c1]
  by_cases c2:parseE (F.sec i)=0
  ·obtain ⟨rfl,rfl,rfl⟩:=hpz c2
   rw [c2] at h586
   simp only [c2,true_and]
   generalize ((getB (((F.sec i).drop 2).take 4):Nat):Int)=v4 at *
   by_cases c3:(F.sec i)[8]? = some 0
   ·by_cases c4:(F.sec i)[9]? = some 255
    ·rw [if_pos ⟨c3,c4⟩]
     simp (disch:=omega) [ba t564,code564,h573,h588,h587,h586,h145,c1,c3,c4,hmi,q1,hbl,Sec.cells]
    ·rw [if_neg (fun h=>c4 h.2)]
     simp (disch:=omega) [ba t564,code564,h573,h588,h587,h586,h145,c1,c3,c4,hmi,q1,hbl,Sec.cells]
   ·rw [if_neg (fun h=>c3 h.1)]
    simp (disch:=omega) [ba t564,code564,h573,h588,h587,h586,h145,c1,c3,hmi,q1,hbl,Sec.cells]
  ·rw [if_neg (fun h=>c2 h.1)]
   have c2':¬ ((parseE (F.sec i):Int)=0):=by omega
   generalize (parseE (F.sec i):Int)=e at *
   simp (disch:=omega) [ba t564,code564,h573,h588,h587,h586,h145,c1,c2',hmi,q1,hbl,Sec.cells]
end
end
end Go.Abs.AbsBlb

namespace Go.Abs.AbsBlb
open Go.Abs.Short
def Fl.prog (F:Fl) (a:Nat) (l:Bs):Fl:={ F with b:=spliceB F.b a l }
def Fl.erase (F:Fl) (i:Nat):Fl:={ F with b:=eraseB F i,w:=F.w.set i ((F.w[i]?).getD 0+1) }
structure FlF (I:FI) (H H':List AObj):Prop where
 len:H.length≤H'.length
 keep:∀ (k:Nat) (o:AObj),H[k]? = some o→k≠I.fb→k≠I.fw→H'[k]? = some o
section
variable {H H' H'':List AObj} {b w:Nat} {I:FI} {F:Fl}
theorem FlF.refl:FlF I H H:=⟨ai _,fun _ _ h _ _=>h⟩
theorem FlF.trans (h:FlF I H H') (k:FlF I H' H''):FlF I H H'':=⟨b8 h.len k.len,fun i o ho h1 h2=>k.keep i o (h.keep i o ho h1 h2) h1 h2⟩
theorem FlF.app (h:FlF I H H') (X:List AObj):FlF I H (H'++X):=⟨by rw [ap]; have:=h.len; omega,fun i o ho h1 h2=>by
 have:=h.keep i o ho h1 h2
 rw [ag (ah this)]; exact this⟩
theorem FlA.app (h:FlA H I F) (Y:List AObj):FlA (H++Y) I F:=h.keep fun i o ho _=>by rw [ag (ah ho)]; exact ho
theorem p558 (h:FlA H I F) {p o n a:Nat} {c:Option Nat} {l:Bs} (hl:SlB H p o n l) (hn:0 < n) (hin:a+n≤F.b.length) (hok:bitsOk l (F.b.drop a)=true) (hbw:b≤I.fb) (hc:n≤c.getD n) :
  ∃ H',FlF I H H'∧FlA H' I (F.prog a l)∧H'.length=H.length∧∀ w,xCall T 558 [.ptr (some (I.fl,0)),.int .i64 a,.slice (some (p,o)) n c] ⟨H,b,w⟩=some (.int .i64 0,⟨H',b,min w I.fb⟩):=by
 obtain ⟨hll,X,hp,hX⟩:=hl
 have ht:=h.total
 refine ⟨H.set I.fb (.cells 1 ((spliceB F.b a l).map u8V)),⟨by rw [av]; exact ai _,fun k o ho h1 _=>by rw [aq (fun e=>h1 e.symm)]; exact ho⟩,?_,av,fun w=>?_⟩
 ·have hsl:(spliceB F.b a l).length=F.b.length:=fm (by rw [hll]; exact hin)
  refine ⟨?_,ij h.b,?_,by unfold Fl.prog; simp only; rw [hsl]; exact h.bl,h.wl,h.nb,h.lb,h.wb,h.ne,fun c hc=>by unfold Fl.prog; simp only; rw [hsl]; exact h.cbo c hc,h.cwo⟩
  ·rw [aq (fun e=>h.nes.1 e.symm),h.f]
   unfold Fl.cells Fl.prog
   simp only [hsl]
  ·rw [aq h.ne,h.w]; rfl
 ·rw [s558 h hp hX hll hn (by omega) (by omega) hbw hc,if_pos hin,if_pos hok]
theorem p611 (h:FlA H I F) {i x:Nat} (hx:F.w[i]? = some x) (hlt:x < F.lim) (hz:0 < F.z) (hbw:b≤I.fb∧b≤I.fw) :
  ∃ H',FlF I H H'∧FlA H' I (F.erase i)∧H'.length=H.length∧∀ w,xCall T 611 [.ptr (some (I.fl,0)),.int .i64 i] ⟨H,b,w⟩=some (.int .i64 0,⟨H',b,min w (min I.fw I.fb)⟩):=by
 have hi:i < F.n:=by have:=ah hx; have:=h.wl; omega
 obtain ⟨hsl,hin⟩:=h.sec_len hi
 have hlb:=h.lb
 refine ⟨(H.set I.fw (.cells 1 ((F.w.set i (x+1)).map natV))).set I.fb (.cells 1 ((eraseB F i).map u8V)),⟨by rw [av,av]; exact ai _,fun k o ho h1 h2=>by rw [aq (fun e=>h1 e.symm),aq (fun e=>h2 e.symm)]; exact ho⟩,?_,by rw [av,av],fun w=>?_⟩
 ·have hel:(eraseB F i).length=F.b.length:=fm (by rw [bg]; exact hin)
  have hwe:F.w.set i ((F.w[i]?).getD 0+1)=F.w.set i (x+1):=by rw [hx]; rfl
  unfold Fl.erase
  rw [hwe]
  refine ⟨?_,?_,?_,by simp only; rw [hel]; exact h.bl,by simp only; rw [av]; exact h.wl,h.nb,h.lb,?_,h.ne,fun c hc=>by simp only; rw [hel]; exact h.cbo c hc,fun c hc=>by simp only; rw [av]; exact h.cwo c hc⟩
  ·rw [aq (fun e=>h.nes.1 e.symm),aq (fun e=>h.nes.2 e.symm),h.f]
   unfold Fl.cells
   simp only [hel,av]
  ·exact ij (by rw [aq (fun e=>h.ne e.symm)]; exact h.b)
  ·rw [aq h.ne]; exact ij h.w
  ·intro y hy
   rcases List.mem_or_eq_of_mem_set hy with h1 | h1
   ·exact h.wb y h1
   ·omega
 ·rw [s611 h hx hz hbw,if_neg (by omega)]
theorem bits_zero (own:Bs):bitsOk [0] own=true:=by
 cases own with
 | nil=>rfl
 | cons x r =>
  show (decide ((0:UInt8) &&& ~~~x=0) && true)=true
  simp
theorem bits_blank:∀ (l own:Bs),(∀ j,j < l.length→own[j]? = some 255)→bitsOk l own=true
 | [],own,h=>rfl
 | x :: l,[],h=>rfl
 | x :: l,y :: own,h=>by
  have h0:y=255:=by simpa using h 0 (by simp)
  subst h0
  have ih:=bits_blank l own fun j hj=>by
   have:=h (j+1) (by rw [bv]; omega)
   simpa using this
  unfold bitsOk at ih ⊢
  rw [List.zip_cons_cons,List.all_cons,ih]
  have:(x &&& ~~~(255:UInt8))=0:=by
   rw [show ~~~(255:UInt8)=0 from rfl]; simp
  simp [this]
theorem blank_get {l:Bs} {j:Nat} (h:blankB l=true) (hj:j < l.length):l[j]? = some 255:=by
 obtain ⟨x,hx⟩:∃ x,l[j]? = some x:=⟨_,aj hj⟩
 have:=al.1 h x (bn hx)
 rw [hx,of_decide_eq_true this]
theorem blank_of {l:Bs} (h:∀ j,j < l.length→l[j]? = some 255):blankB l=true:=by
 apply al.2
 intro x hx
 obtain ⟨j,hj⟩:=fk hx
 have:=h j (ah hj)
 rw [hj] at this
 simpa using this
def Fl.clear (F:Fl) (i:Nat):Fl:=if blankB (F.sec i) then F else F.erase i
def Fl.opened (F:Fl) (i seq:Nat):Fl:=((F.clear i).prog (i*F.z) (headB seq)).prog (i*F.z+8) [0]
theorem jd {B:Bs} {a j:Nat} {l:Bs} (h:a+l.length≤B.length):(spliceB B a l)[j]? = if j < a then B[j]? else if j < a+l.length then l[j - a]? else B[j]?:=by
 unfold spliceB
 have hta:(B.take a).length=a:=by rw [dg]; omega
 by_cases c1:j < a
 ·rw [if_pos c1,aw,ag (by omega),dp,if_pos c1]
 ·rw [if_neg c1]
  by_cases c2:j < a+l.length
  ·rw [if_pos c2,ag (by rw [ap]; omega),au (by omega),hta]
  ·rw [if_neg c2,au (by rw [ap]; omega),cq,ap,hta]
   congr 1; omega
theorem Fl.sec_get {F:Fl} {i j:Nat} (hj:j < F.z):(F.sec i)[j]? = F.b[i*F.z+j]?:=by
 unfold Fl.sec
 rw [dp,if_pos hj,cq]
theorem erase_get {F:Fl} {i j:Nat} (hin:i*F.z+F.z≤F.b.length):(F.erase i).b[j]? = if i*F.z≤j∧j < i*F.z+F.z then some 255 else F.b[j]?:=by
 show (spliceB F.b (i*F.z) (List.replicate F.z 255))[j]? = _
 rw [jd (by rw [bg]; exact hin),bg]
 by_cases c1:j < i*F.z
 ·rw [if_pos c1,if_neg (by omega)]
 ·rw [if_neg c1]
  by_cases c2:j < i*F.z+F.z
  ·rw [if_pos c2,if_pos ⟨by omega,c2⟩,d7,if_pos (by omega)]
  ·rw [if_neg c2,if_neg (by omega)]
theorem clear_get (h:FlA H I F) {i j:Nat} (hi:i < F.n):(F.clear i).b[j]? = if i*F.z≤j∧j < i*F.z+F.z then some 255 else F.b[j]?:=by
 obtain ⟨hsl,hin⟩:=h.sec_len hi
 unfold Fl.clear
 split
 ·rename_i hb
  split
  ·rename_i hj
   have h1:=blank_get hb (j:=j - i*F.z) (by omega)
   rw [Fl.sec_get (by omega)] at h1
   rw [← h1]; congr 1; omega
  ·rfl
 ·exact erase_get hin
theorem clear_eq (F:Fl) (i:Nat):(F.clear i).n=F.n∧(F.clear i).z=F.z∧(F.clear i).lim=F.lim:=by
 unfold Fl.clear
 split <;> exact ⟨rfl,rfl,rfl⟩
theorem open_tail {H1:List AObj} (h:FlA H I F) {i seq:Nat} (hi:i < F.n) (hz:12≤F.z) (hs:seq < 4294967296) (hbw:b≤I.fb) (k1:FlF I H H1) (h1:FlA H1 I (F.clear i)) :
  ∃ H2 H3,FlF I H H3∧FlA H3 I (F.opened i seq)∧(∀ w,xCall T 573 [.ptr (some (I.fl,0))] ⟨H1,b,w⟩=some (.agg [.int .i64 F.n,.int .i64 F.z,.int .i64 F.lim],⟨H1,b,w⟩)) ∧
   (∀ w,xCall T 630 [.int .u32 seq] ⟨H1,b,w⟩=some (.slice (some (H1.length,0)) 8 none,⟨H1++[.cells 1 ((headB seq).map u8V)],b,w⟩)) ∧
   (∀ w,xCall T 558 [.ptr (some (I.fl,0)),.int .i64 (i*F.z:Nat),.slice (some (H1.length,0)) 8 none] ⟨H1++[.cells 1 ((headB seq).map u8V)],b,w⟩=some (.int .i64 0,⟨H2,b,min w I.fb⟩)) ∧
   (∀ w,xCall T 558 [.ptr (some (I.fl,0)),.int .i64 ((i*F.z:Nat)+8),.slice (some (H2.length,0)) 1 (some 1)] ⟨H2++[.cells 1 [.int .u8 0]],b,w⟩=some (.int .i64 0,⟨H3,b,min w I.fb⟩)):=by
 obtain ⟨e1,e2,e3⟩:=clear_eq F i
 have hfb:=ah h1.b
 obtain ⟨hsl,hin⟩:=h1.sec_len (i:=i) (by rw [e1]; exact hi)
 rw [e2] at hin
 have hbl:b≤H1.length:=by omega
 have a1:=h1.app [.cells 1 ((headB seq).map u8V)]
 have q1:bitsOk (headB seq) ((F.clear i).b.drop (i*F.z))=true:=bits_blank _ _ fun j hj=>by
  rw [g8] at hj
  rw [cq,clear_get h hi,if_pos (by omega)]
 obtain ⟨H2,k2,h2,l2,x2⟩:=p558 (b:=b) (c:=none) a1 (SlB.whole (q:=H1.length) (fp _ _) (g8 seq)) (by omega) (a:=i*F.z) (by omega) q1 hbw (ai _)
 have a2:=h2.app [.cells 1 [.int .u8 0]]
 have hl2:((F.clear i).prog (i*F.z) (headB seq)).b.length=(F.clear i).b.length:=fm (by rw [g8]; omega)
 obtain ⟨H3,k3,h3,l3,x3⟩:=p558 (b:=b) (c:=some 1) a2 (SlB.whole (q:=H2.length) (n:=1) (l:=[0]) (fp _ _) rfl) (by omega) (a:=i*F.z+8) (by rw [hl2]; omega) (bits_zero _) hbw (ai _)
 refine ⟨H2,H3,?_,h3,?_,fun w=>s630 hs hbl,x2,?_⟩
 ·exact ((k1.app _).trans k2 |>.app _).trans k3
 ·intro w
  have:=s573 (b:=b) (w:=w) h1
  rw [e1,e2,e3] at this
  exact this
 ·exact x3
section
attribute [-simp] getElem?_pos getElem?_neg List.all_eq_true
attribute [local simp] qZ qS nltT nltF iltT iltF ileT nleT dj
theorem p618 (h:FlA H I F) {i seq x:Nat} (hx:F.w[i]? = some x) (hst:(F.look i).st=0∨((F.look i).st=1∧x < F.lim)) (hz:12≤F.z) (hs:seq < 4294967296) (hbw:b≤I.fb∧b≤I.fw) :
  ∃ H',∃ nx:Nat→Nat,FlF I H H'∧FlA H' I (F.opened i seq)∧(∀ w,nx w≤I.fb∧min w b≤nx w)∧∀ w,xCall T 618 [.ptr (some (I.fl,0)),.int .i64 i,.int .u32 seq] ⟨H,b,w⟩=some (.int .i64 0,⟨H',b,nx w⟩):=by
 have hi:i < F.n:=by have:=ah hx; have:=h.wl; omega
 have hfb:=ah h.b
 have hfw:=ah h.w
 have hbl:b≤H.length:=by omega
 have h564:=fun w=>s564 (w:=w) h hi hz hbl
 have hmi:(i:Int)*(F.z:Int)=((i*F.z:Nat):Int):=(Int.natCast_mul i F.z).symm
 have hin:=(h.sec_len hi).2
 have ht:=h.total
 have hbl2:blankB (F.sec i)=true ↔ (F.look i).st=0:=by
  unfold Fl.look lookB
  constructor
  ·intro hb; rw [if_pos hb]
  ·intro h0
   apply Classical.byContradiction
   intro hb
   rw [if_neg hb] at h0
   split at h0 <;> cases h0
 rcases hst with hst | ⟨hst,hlt⟩
 ·have hcl:F.clear i=F:=by unfold Fl.clear; rw [if_pos (hbl2.2 hst)]
  obtain ⟨H2,H3,k3,h3,x1,x2,x3,x4⟩:=open_tail (H1:=H) (b:=b) h hi hz hs hbw.1 FlF.refl (by rw [hcl]; exact h)
  refine ⟨H3,fun w=>min w I.fb,k3,h3,fun w=>by show min w I.fb≤_∧_≤min w I.fb; omega,fun w=>?_⟩
  have hl3:=k3.len
  unfold Sec.cells at h564
  rw [hst] at h564
  generalize (F.look i).seq=y1 at *
  generalize (F.look i).er=y2 at *
  generalize (headB seq).map u8V=Y at *
  generalize i*F.z=q at *
  simp (disch:=omega) [ba t618,code618,h564,x1,x2,x3,x4,hmi]
 ·have hcl:F.clear i=F.erase i:=by
   unfold Fl.clear
   rw [if_neg (fun hb=>by rw [hbl2.1 hb] at hst; cases hst)]
  obtain ⟨H1,k1,h1,l1,x0⟩:=p611 (b:=b) h hx hlt (by omega) hbw
  obtain ⟨H2,H3,k3,h3,x1,x2,x3,x4⟩:=open_tail (H1:=H1) (b:=b) h hi hz hs hbw.1 k1 (by rw [hcl]; exact h1)
  refine ⟨H3,fun w=>min w (min I.fw I.fb),k3,h3,fun w=>by show min w (min I.fw I.fb)≤_∧_≤min w (min I.fw I.fb); omega,fun w=>?_⟩
  have hl3:=k3.len
  unfold Sec.cells at h564
  rw [hst] at h564
  generalize (F.look i).seq=y1 at *
  generalize (F.look i).er=y2 at *
  generalize (headB seq).map u8V=Y at *
  generalize i*F.z=q at *
  simp (disch:=omega) [ba t618,code618,h564,x0,x1,x2,x3,x4,hmi]
theorem p612 (h:FlA H I F) {i:Nat} (hi:i < F.n) (hz:12≤F.z) (hbw:b≤I.fb∧b≤I.fw) :
  ∃ H',∃ nx:Nat→Nat,FlF I H H'∧FlA H' I (F.prog (i*F.z+9) [0])∧(∀ w,nx w≤I.fb∧min w b≤nx w)∧∀ w,xCall T 612 [.ptr (some (I.fl,0)),.int .i64 i] ⟨H,b,w⟩=some (.int .i64 0,⟨H',b,nx w⟩):=by
 have hfb:=ah h.b
 have hin:=(h.sec_len hi).2
 have ht:=h.total
 have hmi:(i:Int)*(F.z:Int)=((i*F.z:Nat):Int):=(Int.natCast_mul i F.z).symm
 have h573:=fun w=>s573 (b:=b) (w:=w) h
 obtain ⟨H3,k3,h3,l3,x3⟩:=p558 (b:=b) (c:=some 1) (h.app [.cells 1 [.int .u8 0]]) (SlB.whole (q:=H.length) (n:=1) (l:=[0]) (fp _ _) rfl) (by omega) (a:=i*F.z+9) (by omega) (bits_zero _) hbw.1 (ai _)
 refine ⟨H3,fun w=>min w I.fb,(FlF.refl.app _).trans k3,h3,fun w=>by show min w I.fb≤_∧_≤min w I.fb; omega,fun w=>?_⟩
 have q1:¬ ((F.n:Int)≤i):=by omega
 have e9:((i*F.z+9:Nat):Int)=((i*F.z:Nat):Int)+9:=by omega
 rw [e9] at x3
 generalize i*F.z=q at *
 simp (disch:=omega) [ba t612,code612,h573,x3,hmi,q1]
end
end
end Go.Abs.AbsBlb

namespace Go.Abs.AbsBlb
open Go.Abs.Short
theorem finish_tup {O P:List AObj} {b w e q n:Nat} {cs:List AVal} {c:Option Nat} {W:Nat} {k:IntKind} {x:Int} (hq:P[q]? = some (.cells e cs)) (hI:AVal.idsL cs=[]) (hR:∀ g,AVal.renL g cs=cs) (h1:O.length≤q) (hW:O.length≤W) :
  finish ⟨O,b,w⟩ (.tuple [.slice (some (q,0)) n c,.int k x]) ⟨P,b,W⟩=(.tuple [.slice (some (O.length,0)) n c,.int k x],⟨O++[.cells e cs],b,w⟩):=by
 have hv:AVal.under (⟨O,b,w⟩:Heap).size (.tuple [.slice (some (q,0)) n c,.int k x])=false:=by
  have:¬ q < O.length:=by omega
  simp [AVal.under,AVal.unders,Heap.size,this]
 have hg:(⟨P,b,W⟩:Heap).get q=some (.cells e cs):=hq
 have hid:(AVal.tuple [.slice (some (q,0)) n c,.int k x]).ids=[q]:=by
  simp [AVal.ids,AVal.idsL]
 have hreach:reach ⟨P,b,W⟩ (⟨O,b,w⟩:Heap).size 1000 (AVal.tuple [.slice (some (q,0)) n c,.int k x]).ids []=[q]:=by
  rw [hid]
  rw [reach,if_neg (by show ¬ q < O.length; omega),if_neg (by simp),hg]
  simp only [bq,df,AObj.ids,hI,eh]
  rfl
 refine (finish_keep (show (⟨O,b,w⟩:Heap).size≤(⟨P,b,W⟩:Heap).wmin from hW) hv hreach fun j hj=>?_).trans ?_
 ·simp only [hid,d0,List.flatMap_nil,hg,bq,df,AObj.ids,hI,fg,c9,List.not_mem_nil,or_false] at hj
  subst hj
  exact .inr (ct _)
 ·have key:∀ g:Nat→Nat,g q=O.length→((AVal.tuple [.slice (some (q,0)) n c,.int k x]).ren g,(⟨O++[AObj.cells e cs],b,w⟩:Heap))=(.tuple [.slice (some (O.length,0)) n c,.int k x],⟨O++[.cells e cs],b,w⟩):=fun g hg'=>by
   simp only [AVal.ren,AVal.renL,hg']
  simp only [Heap.size,bc,List.map_nil,hg,bq,df,AObj.ren,hR]
  exact key _ ((if_neg (show ¬ q < O.length by omega)).trans (by simp [idxIn]))
structure RecU where
 kind:Nat
 txn:Nat
 key:Bs
 blob:Bs
 count:Nat
def rightB (k txn key blob count:Nat):Bool :=
 !decide (txn=0) && (if k=1 then decide (1≤key) && decide (key≤64) && decide (count=0) && decide (blob≤4096)
  else if k=2 then decide (1≤key) && decide (key≤64) && decide (count=0) && decide (blob=0)
  else if k=3 then decide (key=0) && decide (blob=0) && decide (count≤16) else false)
def RecU.right (r:RecU):Bool:=rightB r.kind r.txn r.key.length r.blob.length r.count
def RecU.b0 (r:RecU):Bs:=[UInt8.ofNat r.kind]++putB r.txn 4++putB r.key.length 1++putB r.blob.length 2++putB r.count 1
def RecU.b1 (r:RecU):Bs:=r.b0++putB (nat16 r.b0) 2
def RecU.b2 (r:RecU):Bs:=r.b1++r.key++r.blob
def recB (r:RecU):Bs:=r.b2++putB (nat32 r.b2) 4
def RecU.size (r:RecU):Nat:=16+r.key.length+r.blob.length
def RecU.cells (r:RecU) (v:AVal):List AVal:=[.int .i64 r.kind,.int .u32 r.txn,.str r.key,v,.int .i64 r.count]
theorem RecU.len0 (r:RecU):r.b0.length=9:=by unfold RecU.b0; simp [jp]
theorem RecU.len1 (r:RecU):r.b1.length=11:=by unfold RecU.b1; rw [ap,r.len0,jp]
theorem RecU.len2 (r:RecU):r.b2.length=11+r.key.length+r.blob.length:=by unfold RecU.b2; rw [ap,ap,r.len1]
theorem len_rec (r:RecU):(recB r).length+1=r.size:=by unfold recB RecU.size; rw [ap,r.len2,jp]; omega
def BlobV (H:List AObj) (v:AVal) (l:Bs):Prop:=∃ a c,v = .slice a l.length c∧(∀ p o,a=some (p,o)→p < H.length)∧(l=[]∨∃ p o,a=some (p,o)∧SlB H p o l.length l∧l.length≤c.getD l.length)
section
variable {H P:List AObj} {b w:Nat}
theorem BlobV.row {v:AVal} {l:Bs} (h:BlobV H v l):rowOf 1 ⟨H,b,w⟩ v=some (l.map u8V):=by
 obtain ⟨a,c,rfl,hid,h⟩:=h
 rcases h with rfl | ⟨p,o,rfl,h,-⟩
 ·exact rowOf0
 ·by_cases hn:l=[]
  ·subst hn; exact rowOf0
  ·exact h.row (List.length_pos_iff.2 hn) c
theorem BlobV.len {v:AVal} {l:Bs} (h:BlobV H v l):alen v=l.length:=by
 obtain ⟨a,c,rfl,-,-⟩:=h; rfl
theorem BlobV.mono {v:AVal} {l:Bs} {H':List AObj} (h:BlobV H v l) (hln:H.length≤H'.length) (hk:∀ p o n c,v = .slice (some (p,o)) n c→∀ x,H[p]? = some x→H'[p]? = some x):BlobV H' v l:=by
 obtain ⟨a,c,rfl,hid,h⟩:=h
 refine ⟨a,c,rfl,fun p o h=>dq (hid p o h) hln,?_⟩
 rcases h with rfl | ⟨p,o,rfl,h,h2⟩
 ·exact .inl rfl
 ·exact .inr ⟨p,o,rfl,h.mono (hk _ _ _ _ rfl),h2⟩
theorem app_row {q n:Nat} {l k:Bs} {y:AVal} (hp:Pre H P) (hq:P[q]? = some (.cells 1 (l.map u8V))) (hn:l.length=n) (hn0:0 < n) (hH:H.length≤q) (hb:b≤H.length) (hlen:n+k.length≤1000000000) (hy:∀ w,rowOf 1 ⟨P,b,w⟩ y=some (k.map u8V)) (hm:alen y=k.length) :
  ∃ q' P',∃ nx:Nat→Nat,Pre H P'∧P'[q']? = some (.cells 1 ((l++k).map u8V))∧H.length≤q'∧(∀ w,H.length≤w→H.length≤nx w)∧((k=[]∧P'=P∧q'=q∧nx=fun w=>w)∨(k≠[]∧P'.length=P.length+1∧q'=P.length∧nx=fun w=>min w q))∧∀ w,aAppend 1 1 ⟨P,b,w⟩ (.slice (some (q,0)) n none) y=some (.slice (some (q',0)) (n+k.length) none,⟨P',b,nx w⟩):=by
 have hql:=ah hq
 have hr:∀ w,rowOf 1 ⟨P,b,w⟩ (.slice (some (q,0)) n none)=some (l.map u8V):=fun w=>SlB.row (SlB.whole hq hn) hn0 _
 by_cases h0:k.length=0
 ·obtain rfl:k=[]:=bo h0
  refine ⟨q,P,fun w=>w,hp,by rw [fg]; exact hq,hH,fun w h=>h,.inl ⟨rfl,rfl,rfl,rfl⟩,fun w=>?_⟩
  unfold aAppend
  simp only [hr,hy,hm,aApp]
  exact if_pos rfl
 ·refine ⟨P.length,P.set q .dead++[.cells 1 ((l++k).map u8V)],fun w=>min w q,(hp.set .dead hH).trans (Pre.app _ _),?_,hp.len,fun w h=>Nat.le_min.2 ⟨h,hH⟩,.inr ⟨fun hk=>h0 (by rw [hk]; rfl),by rw [ap,av]; rfl,rfl,rfl⟩,fun w=>?_⟩
  ·rw [au (by rw [av]; exact ai _),av,Nat.sub_self]; rfl
  ·have hri:rowIs ⟨P,b,w⟩ q 1=true:=by
    unfold rowIs Heap.get
    simp only [hq]
    rfl
   unfold aAppend
   simp only [hr,hy,hm,aApp]
   refine (if_neg h0).trans ((if_pos ⟨by omega,by omega⟩).trans ((if_neg (by simp)).trans ((if_pos ⟨by show b≤q; omega,hri⟩).trans ?_)))
   simp [Heap.push,Heap.size,Heap.put]
section
attribute [-simp] getElem?_pos getElem?_neg List.all_eq_true
attribute [local simp] qZ qS nltT nltF iltT iltF ileT nleT dj
theorem s614 {k txn key blob count:Nat} {y:AVal} {s:Bs}:xCall T 614 [.agg [.int .i64 k,.int .u32 txn,.str s,y,.int .i64 count],.int .i64 key,.int .i64 blob] ⟨H,b,w⟩=some (.bool (rightB k txn key blob count),⟨H,b,w⟩):=by
 unfold rightB
 by_cases h0:txn=0
 ·subst h0
  simp (disch:=omega) [ba t614,code614]
 ·have h0':¬ ((txn:Int)=0):=by omega
  by_cases k1:k=1
  ·subst k1
   by_cases c1:1≤key
   ·by_cases c2:key≤64
    ·by_cases c3:count=0
     ·subst c3
      by_cases c4:blob≤4096
      ·simp (disch:=omega) [ba t614,code614,h0,h0',c1,c2,c4]
      ·simp (disch:=omega) [ba t614,code614,h0,h0',c1,c2,c4]
     ·have c3':¬ ((count:Int)=0):=by omega
      simp (disch:=omega) [ba t614,code614,h0,h0',c1,c2,c3,c3']
    ·have c2':¬ ((key:Int)≤64):=by omega
     simp (disch:=omega) [ba t614,code614,h0,h0',c1,c2,c2']
   ·have c1':key=0:=by omega
    subst c1'
    simp (disch:=omega) [ba t614,code614,h0,h0']
  ·by_cases k2:k=2
   ·subst k2
    by_cases c1:1≤key
    ·by_cases c2:key≤64
     ·by_cases c3:count=0
      ·subst c3
       by_cases c4:blob=0
       ·subst c4
        simp (disch:=omega) [ba t614,code614,h0,h0',c1,c2]
       ·have c4':¬ ((blob:Int)=0):=by omega
        simp (disch:=omega) [ba t614,code614,h0,h0',c1,c2,c4,c4']
      ·have c3':¬ ((count:Int)=0):=by omega
       simp (disch:=omega) [ba t614,code614,h0,h0',c1,c2,c3,c3']
     ·have c2':¬ ((key:Int)≤64):=by omega
      simp (disch:=omega) [ba t614,code614,h0,h0',c1,c2,c2']
    ·have c1':key=0:=by omega
     subst c1'
     simp (disch:=omega) [ba t614,code614,h0,h0']
   ·by_cases k3:k=3
    ·subst k3
     by_cases c1:key=0
     ·subst c1
      by_cases c2:blob=0
      ·subst c2
       by_cases c3:count≤16
       ·simp (disch:=omega) [ba t614,code614,h0,h0',c3]
       ·simp (disch:=omega) [ba t614,code614,h0,h0',c3]
      ·have c2':¬ ((blob:Int)=0):=by omega
       simp (disch:=omega) [ba t614,code614,h0,h0',c2,c2']
     ·have c1':¬ ((key:Int)=0):=by omega
      have c0:(1:Int)≤key:=by omega
      by_cases c2:(key:Int)≤64
      ·by_cases c3:(count:Int)=0
       ·simp (disch:=omega) [ba t614,code614,h0,h0',c1,c1',c0,c2,c3]
       ·simp (disch:=omega) [ba t614,code614,h0,h0',c1,c1',c0,c2,c3]
      ·simp (disch:=omega) [ba t614,code614,h0,h0',c1,c1',c0,c2]
    ·have k1':¬ ((k:Int)=1):=by omega
     have k2':¬ ((k:Int)=2):=by omega
     have k3':¬ ((k:Int)=3):=by omega
     by_cases c1:(1:Int)≤key
     ·by_cases c2:(key:Int)≤64
      ·by_cases c3:(count:Int)=0
       ·simp (disch:=omega) [ba t614,code614,h0,h0',k1,k2,k3,k1',k2',k3',c1,c2,c3]
       ·simp (disch:=omega) [ba t614,code614,h0,h0',k1,k2,k3,k1',k2',k3',c1,c2,c3]
      ·simp (disch:=omega) [ba t614,code614,h0,h0',k1,k2,k3,k1',k2',k3',c1,c2]
     ·simp (disch:=omega) [ba t614,code614,h0,h0',k1,k2,k3,k1',k2',k3',c1]
end
theorem rightB_lens {k t key blob count:Nat} (h:rightB k t key blob count=true):k≤3∧key≤64∧blob≤4096∧count≤16:=by
 unfold rightB at h
 by_cases k1:k=1
 ·simp [k1] at h
  omega
 ·by_cases k2:k=2
  ·simp [k2] at h
   omega
  ·by_cases k3:k=3
   ·simp [k3] at h
    omega
   ·simp [k1,k2,k3] at h
theorem right_lens {r:RecU} (h:r.right=true):r.kind≤3∧r.key.length≤64∧r.blob.length≤4096∧r.count≤16:=rightB_lens h
section
attribute [-simp] getElem?_pos getElem?_neg List.all_eq_true
attribute [local simp] qZ qS nltT nltF iltT iltF ileT nleT dj
theorem s596 {r:RecU} {v:AVal} (hv:BlobV H v r.blob) (hr:r.right=true) (ht:r.txn < 4294967296) (hbl:b≤H.length):xCall T 596 [.agg (r.cells v)] ⟨H,b,w⟩=some (.tuple [.slice (some (H.length,0)) (recB r).length none,.int .i64 0],⟨H++[.cells 1 ((recB r).map u8V)],b,w⟩):=by
 obtain ⟨l0,l1,l2,l3⟩:=right_lens hr
 have h614:=fun w=>s614 (H:=H) (b:=b) (w:=w) (k:=r.kind) (txn:=r.txn) (key:=r.key.length) (blob:=r.blob.length) (count:=r.count) (y:=v) (s:=r.key)
 have hr':rightB r.kind r.txn r.key.length r.blob.length r.count=true:=hr
 rw [hr'] at h614
 have wk:=wrap_ofNat r.kind
 have hal:=hv.len
 obtain ⟨pa,pc,hve,hid,-⟩:=id hv
 have hids:((AVal.slice pa r.blob.length pc).ids.all fun i=>decide (i < H.length+6))=true:=by
  cases pa with
  | none=>rfl
  | some p =>
   have:=hid p.1 p.2 rfl
   simp only [AVal.ids,List.all_cons,List.all_nil,Bool.and_true,decide_eq_true_eq]
   omega
 have hids2:∀ m ds,((AVal.slice pa r.blob.length pc).ids.all (okId (H.length+6) m ds))=true:=fun m ds=>by
  cases pa with
  | none=>rfl
  | some p =>
   have:=hid p.1 p.2 rfl
   simp only [AVal.ids,List.all_cons,List.all_nil,Bool.and_true]
   have h6:p.1 < H.length+6:=by omega
   unfold okId
   simp [h6]
 have h1:=fun w=>s385 (H:=H++[.cells 1 [u8V (UInt8.ofNat r.kind)]]) (b:=b) (w:=w) (p:=H.length) (o:=0) (n:=1) (l:=[UInt8.ofNat r.kind]) (v:=r.txn) (k:=4) (c:=some 1) (SlB.whole (fp _ _) rfl) (by omega) (by omega) (by rw [ap]; omega) (by omega) (by omega) (ai _)
 have h2:=fun w=>s385 (H:=H++[.cells 1 [u8V (UInt8.ofNat r.kind)],.cells 1 (([UInt8.ofNat r.kind]++putB r.txn 4).map u8V)]) (b:=b) (w:=w) (p:=H.length+1) (o:=0) (n:=5) (v:=r.key.length) (k:=1) (c:=none) (SlB.whole (iw H _ 1) (by simp [jp])) (by omega) (by omega) (by rw [ap]; omega) (by omega) (by omega) (ai _)
 have h3:=fun w=>s385 (H:=H++[.cells 1 [u8V (UInt8.ofNat r.kind)],.cells 1 (([UInt8.ofNat r.kind]++putB r.txn 4).map u8V),.cells 1 (([UInt8.ofNat r.kind]++putB r.txn 4++putB r.key.length 1).map u8V)]) (b:=b) (w:=w) (p:=H.length+2) (o:=0) (n:=6) (v:=r.blob.length) (k:=2) (c:=none) (SlB.whole (iw H _ 2) (by simp [jp])) (by omega) (by omega) (by rw [ap]; omega) (by omega) (by omega) (ai _)
 have h4:=fun w=>s385 (H:=H++[.cells 1 [u8V (UInt8.ofNat r.kind)],.cells 1 (([UInt8.ofNat r.kind]++putB r.txn 4).map u8V),.cells 1 (([UInt8.ofNat r.kind]++putB r.txn 4++putB r.key.length 1).map u8V),.cells 1 (([UInt8.ofNat r.kind]++putB r.txn 4++putB r.key.length 1++putB r.blob.length 2).map u8V)]) (b:=b) (w:=w) (p:=H.length+3) (o:=0) (n:=8) (v:=r.count) (k:=1) (c:=none) (SlB.whole (iw H _ 3) (by simp [jp])) (by omega) (by omega) (by rw [ap]; omega) (by omega) (by omega) (ai _)
 have e0:[UInt8.ofNat r.kind]++putB r.txn 4++putB r.key.length 1++putB r.blob.length 2++putB r.count 1=r.b0:=rfl
 rw [e0] at h4
 generalize AObj.cells 1 (([UInt8.ofNat r.kind]++putB r.txn 4++putB r.key.length 1++putB r.blob.length 2).map u8V)=o3 at *
 generalize AObj.cells 1 (([UInt8.ofNat r.kind]++putB r.txn 4++putB r.key.length 1).map u8V)=o2 at *
 generalize AObj.cells 1 (([UInt8.ofNat r.kind]++putB r.txn 4).map u8V)=o1 at *
 have S0:SlB (H++[.cells 1 [u8V (UInt8.ofNat r.kind)],o1,o2,o3,.cells 1 (r.b0.map u8V)]) (H.length+4) 0 9 r.b0:=SlB.whole (iw H _ 4) r.len0
 have h602:=fun w=>s602 (b:=b) (w:=w) (c:=none) S0 (by omega) (by omega)
 obtain ⟨n1,n2⟩:=nat16_eq r.b0
 rw [n1] at h602
 have h5:=fun w=>s385 (b:=b) (w:=w) (c:=none) (v:=nat16 r.b0) (k:=2) S0 (by omega) (by omega) (by rw [ap]; omega) (by omega) (by omega) (ai _)
 have e1:r.b0++putB (nat16 r.b0) 2=r.b1:=rfl
 rw [e1] at h5
 have hp1:Pre H (H++[.cells 1 [u8V (UInt8.ofNat r.kind)],o1,o2,o3,.cells 1 (r.b0.map u8V),.cells 1 (r.b1.map u8V)]):=Pre.app _ _
 obtain ⟨q1,P1,x1,a1,a2,a3,a4,a6,a5⟩:=app_row (k:=r.key) (b:=b) (y:=.str r.key) (n:=11) hp1 (iw H _ 5) r.len1 (by omega) (by omega) hbl (by omega) (fun w=>rfl) rfl
 have hv1:BlobV P1 v r.blob:=hv.mono a1.len fun _ _ _ _ _ x hx=>a1 _ _ hx
 obtain ⟨q2,P2,x2,b1,b2,b3,b4,b6,b5⟩:=app_row (k:=r.blob) (b:=b) (y:=v) (n:=11+r.key.length) a1 a2 (by rw [ap,r.len1]) (by omega) a3 hbl (by omega) (fun w=>hv1.row) hal
 have e2:r.b1++r.key++r.blob=r.b2:=rfl
 rw [e2] at b2
 have S2:SlB P2 q2 0 (11+r.key.length+r.blob.length) r.b2:=SlB.whole b2 r.len2
 have h613:=fun w=>s613 (b:=b) (w:=w) (c:=none) S2 (by omega) (by omega)
 obtain ⟨m1,m2⟩:=nat32_eq r.b2
 rw [m1] at h613
 have h6:=fun w=>s385 (b:=b) (w:=w) (c:=none) (v:=nat32 r.b2) (k:=4) S2 (by omega) (by omega) (b8 hbl b1.len) (by omega) (by omega) (ai _)
 have e3:r.b2++putB (nat32 r.b2) 4=recB r:=rfl
 rw [e3] at h6
 have hln:(recB r).length=11+r.key.length+r.blob.length+4:=by unfold recB; rw [ap,r.len2,jp]
 have hf:=fun w0=>finish_tup (k:=.i64) (x:=0) (O:=H) (P:=P2++[.cells 1 ((recB r).map u8V)]) (b:=b) (w:=w0) (W:=x2 H.length) (q:=P2.length) (n:=(recB r).length) (c:=none) (fp _ _) (ju _) (fun g=>renL_u8 g _) b1.len (b4 _ (ai _))
 rw [hln] at hf
 unfold RecU.cells
 rw [hve] at h614 b5 ⊢
 simp only [ap,bv,dw,c6,Nat.reduceAdd,ff,eh,aw,a9] at h1 h2 h3 h4 h5 h602 a5 h6
 generalize (recB r).map u8V=Y6 at *
 generalize r.b1.map u8V=Y1 at *
 generalize r.b0.map u8V=Y0 at *
 rw [hln]
 unfold u8V at h1 h2 h3 h4 h5 h602 a5
 have w4:IntKind.u64.wrap (nat16 r.b0:Int)=nat16 r.b0:=wrapU (by omega)
 have w5:IntKind.u64.wrap (nat32 r.b2:Int)=nat32 r.b2:=wrapU (by omega)
 have w1:IntKind.u64.wrap (r.txn:Int)=r.txn:=wrapU (by omega)
 have w2:IntKind.u64.wrap (r.key.length:Int)=r.key.length:=wrapU (by omega)
 have w3:IntKind.u64.wrap (r.blob.length:Int)=r.blob.length:=wrapU (by omega)
 have w6:IntKind.u64.wrap (r.count:Int)=r.count:=wrapU (by omega)
 generalize UInt8.ofNat r.kind=kb at *
 rcases a6 with ⟨hk,rfl,rfl,rfl⟩ | ⟨hk,k1,rfl,rfl⟩
 ·unfold u8V at b5
  simp (disch:=omega) [ba t596,code596,-finish,-aAppend,h614,wk,h1,h2,h3,h4,h602,h5,a5,b5,h613,h6,hf,w1,w2,w3,w4,w5,w6,hids,hids2]
 ·simp only [ap,bv,dw,c6,Nat.reduceAdd] at k1 a2 a5 b5
  have k2:¬ P1.length=H.length+6:=by omega
  simp (disch:=omega) [ba t596,code596,-finish,-aAppend,h614,wk,h1,h2,h3,h4,h602,h5,a5,b5,h613,h6,hf,w1,w2,w3,w4,w5,w6,hids,hids2,k1,k2,a2,ju]
end
end
end Go.Abs.AbsBlb

namespace Go.Abs.AbsBlb
open Go.Abs.Short
abbrev RV:=RecU × AVal
def RV.cells (p:RV):List AVal:=p.1.cells p.2
def RV.ok (H:List AObj) (p:RV):Prop:=BlobV H p.2 p.1.blob∧p.1.key.length≤1000000∧p.1.blob.length≤1000000
def sizes (L:List RecU):Nat:=(L.map RecU.size).sum
section
variable {H:List AObj} {b w:Nat}
section
attribute [-simp] getElem?_pos getElem?_neg List.all_eq_true
attribute [local simp] qZ qS nltT nltF iltT iltF ileT nleT dj
theorem s589 {r:RecU} {a:Option (Nat × Nat)} {c:Option Nat} (h1:r.key.length≤1000000) (h2:r.blob.length≤1000000):xCall T 589 [.agg (r.cells (.slice a r.blob.length c))] ⟨H,b,w⟩=some (.int .i64 (r.size:Nat),⟨H,b,w⟩):=by
 have e:((r.size:Nat):Int)=11+r.key.length+r.blob.length+5:=by unfold RecU.size; omega
 rw [e]
 unfold RecU.cells
 simp (disch:=omega) [ba t589,code589]
theorem l579 {L:List RV} {a:Option (Nat × Nat)} {c:Option Nat} {y:AVal} (hR:Row H 5 RV.cells L a) (hn:L.length≤100) (hok:∀ p ∈ L,RV.ok H p):∀ (j i w:Nat) (s:Nat),i+j=L.length→s≤i*3000000→∀ {β:Type} (k:AExit→St→Option β),
  xK T (.loop code579L0) ⟨[(0,.val y),(3,.val (.int .i64 s)),(7,.val (.slice a L.length c)),(8,.val (.int .i64 L.length)),(9,.val (.int .i64 i))],⟨H,b,w⟩⟩ (k:=⟨k⟩) =
   k (.exit 0) ⟨[(0,.val y),(3,.val (.int .i64 ((s+sizes ((L.drop i).map Prod.fst):Nat):Int)))],⟨H,b,w⟩⟩
 | 0,i,w,s,hi,hs,β,k=>by
  have hd:L.drop i=[]:=dx (by omega)
  rw [hd,b9]
  have e0:s+sizes (([]:List RV).map Prod.fst)=s:=rfl
  rw [e0]
  simp (disch:=omega) [code579L0]
 | j+1,i,w,s,hi,hs,β,k=>by
  obtain ⟨x,hx⟩:∃ x,L[i]? = some x:=⟨_,aj (by omega)⟩
  obtain ⟨bb,o,cs,rfl,hrow,hpart⟩:=hR.at' (ne_of_get hx)
  obtain ⟨p1,p2⟩:=hpart i x hx
  obtain ⟨⟨xa,xc,xv,-,-⟩,k1,k2⟩:=hok x (bn hx)
  have e2:((i+1:Nat):Int)=(i:Int)+1:=by omega
  have hsz:x.1.size≤3000000:=by unfold RecU.size; omega
  have ih:=l579 (c:=c) (y:=y) hR hn hok j (i+1) w (s+x.1.size) (by omega) (by omega) k
  have e3:((s+x.1.size:Nat):Int)=(s:Int)+(x.1.size:Nat):=by omega
  rw [e2,e3] at ih
  have h589:=fun w=>s589 (H:=H) (b:=b) (w:=w) (r:=x.1) (a:=xa) (c:=xc) k1 k2
  have hxc:RV.cells x=[.int .i64 x.1.kind,.int .u32 x.1.txn,.str x.1.key,.slice xa x.1.blob.length xc,.int .i64 x.1.count]:=by
   unfold RV.cells RecU.cells; rw [xv]
  unfold RecU.cells at h589
  rw [hxc] at p2
  have e4:s+sizes ((L.drop i).map Prod.fst)=s+x.1.size+sizes ((L.drop (i+1)).map Prod.fst):=by
   rw [ip hx,bc]
   unfold sizes
   rw [bc,dt]; omega
  rw [e4,b9,← ih]
  have hs2:s≤300000000:=b8 hs (by omega)
  generalize ACode.loop code579L0=LL
  generalize x.1.size=sz at *
  simp (disch:=omega) [code579L0,hrow,p1,p2,h589]
end
theorem sizes_le:∀ {L:List RV},(∀ p ∈ L,RV.ok H p)→sizes (L.map Prod.fst)≤L.length*3000000
 | [],_=>ai _
 | x :: L,h=>by
  have ih:=sizes_le (L:=L) fun p hp=>h p (bd _ hp)
  obtain ⟨-,k1,k2⟩:=h x (a7 ..)
  rw [bc,bv]
  unfold sizes at ih ⊢
  rw [bc,dt]
  have:x.1.size≤3000000:=by unfold RecU.size; omega
  omega
theorem s579 {L:List RV} {a:Option (Nat × Nat)} {c:Option Nat} (hR:Row H 5 RV.cells L a) (hn:L.length≤16) (h0:L≠[]) (hok:∀ p ∈ L,RV.ok H p) :
  xCall T 579 [.slice a L.length c] ⟨H,b,w⟩=some (.int .i64 ((sizes (L.map Prod.fst)+16:Nat):Int),⟨H,b,w⟩):=by
 have hl:=fun {β:Type} w (k:AExit→St→Option β)=>l579 (b:=b) (c:=c) (y:=.slice a L.length c) hR (by omega) hok L.length 0 w 0 (by omega) (by omega) k
 simp only [a9,dz,c6] at hl
 have h589:=fun w=>s589 (H:=H) (b:=b) (w:=w) (r:=⟨0,0,[],[],0⟩) (a:=none) (c:=some 0) (by decide) (by decide)
 have hq:((L.length:Int)+16 - 1).tdiv 16=1:=by
  have h1:0 < L.length:=List.length_pos_iff.2 h0
  rw [Int.tdiv_eq_ediv_of_nonneg (by omega)]
  omega
 have hbs:=sizes_le hok
 have hbs2:sizes (L.map Prod.fst)≤300000000:=by omega
 have e16:((sizes (L.map Prod.fst)+16:Nat):Int)=(sizes (L.map Prod.fst):Int)+16:=by omega
 rw [e16]
 simp only [RecU.cells,RecU.size,dw,a9,Nat.reduceAdd] at h589
 generalize sizes (L.map Prod.fst)=s at *
 simp (disch:=omega) [-getElem?_pos,-getElem?_neg,-List.all_eq_true,qZ,qS,nltT,nltF,iltT,iltF,ileT,nleT,dj,ba t579,code579,hl,h589,hq]
end
end Go.Abs.AbsBlb

namespace Go.Abs.AbsBlb
open Go.Abs.Short
structure PlU where
 sec:Nat
 at_:Nat
 blob:Bs
def PlU.val (p:PlU):AVal:=.agg [.int .i64 p.sec,.int .i64 p.at_,.str p.blob]
structure StU where
 secs:List Sec
 ix:List (Bs × PlU × Nat)
 clock:Nat
 head:Int
 at_:Nat
 txn:Nat
 seq:Nat
 down:Bool
structure SI where
 s:Nat
 sa:Nat
 sc:Option Nat
 m:Nat
 fi:FI
def StU.cells (K:StU) (F:Fl) (I:SI):List AVal:=[.ptr (some (I.fi.fl,0)),.int .i64 F.n,.int .i64 F.z,.int .i64 F.lim,.slice (some (I.sa,0)) K.secs.length I.sc,.map (some I.m),.int .i64 K.head,.int .i64 K.at_,.int .u32 K.txn,.int .u32 K.seq,.bool K.down]
def StU.map (K:StU):AObj:=.map (K.ix.map fun e=>(.str e.1,e.2.1.val,e.2.2)) K.clock
structure StA (H:List AObj) (I:SI) (F:Fl) (K:StU):Prop where
 fl:FlA H I.fi F
 s:H[I.s]? = some (.cells 11 (K.cells F I))
 r:H[I.sa]? = some (.cells 3 (K.secs.flatMap Sec.cells))
 m:H[I.m]? = some K.map
 ln:K.secs.length=F.n
 hd:K.head = -1∨∃ h:Nat,K.head=h∧h < F.n
 ab:K.at_≤F.z
 sb:K.seq < 4294967296
 tb:K.txn < 4294967296
def SI.hi (I:SI):Nat:=max I.s (max I.sa (max I.m (max I.fi.fb I.fi.fw)))
def SI.lo (I:SI) (b:Nat):Prop:=b≤I.s∧b≤I.sa∧b≤I.m∧b≤I.fi.fb∧b≤I.fi.fw
structure StF (I:SI) (H H':List AObj):Prop where
 len:H.length≤H'.length
 keep:∀ (k:Nat) (o:AObj),H[k]? = some o→k≠I.s→k≠I.sa→k≠I.m→k≠I.fi.fb→k≠I.fi.fw→H'[k]? = some o
section
variable {H H' H'':List AObj} {b w:Nat} {I:SI} {F:Fl} {K:StU}
theorem StF.refl:StF I H H:=⟨ai _,fun _ _ h _ _ _ _ _=>h⟩
theorem StF.trans (h:StF I H H') (k:StF I H' H''):StF I H H'':=⟨b8 h.len k.len,fun i o ho h1 h2 h3 h4 h5=>k.keep i o (h.keep i o ho h1 h2 h3 h4 h5) h1 h2 h3 h4 h5⟩
theorem FlF.st (h:FlF I.fi H H'):StF I H H':=⟨h.len,fun i o ho _ _ _ h4 h5=>h.keep i o ho h4 h5⟩
theorem StF.app (h:StF I H H') (X:List AObj):StF I H (H'++X):=⟨by rw [ap]; have:=h.len; omega,fun i o ho h1 h2 h3 h4 h5=>by
 have:=h.keep i o ho h1 h2 h3 h4 h5
 rw [ag (ah this)]; exact this⟩
theorem StA.hi (h:StA H I F K):I.hi < H.length:=by
 have h1:=ah h.s
 have h2:=ah h.r
 have h3:=ah h.m
 have h4:=ah h.fl.b
 have h5:=ah h.fl.w
 unfold SI.hi
 omega
structure Nes (I:SI):Prop where
 a1:I.s≠I.sa
 a2:I.s≠I.m
 a3:I.s≠I.fi.fl
 a4:I.s≠I.fi.fb
 a5:I.s≠I.fi.fw
 b1:I.sa≠I.m
 b2:I.sa≠I.fi.fl
 b3:I.sa≠I.fi.fb
 b4:I.sa≠I.fi.fw
 c1:I.m≠I.fi.fl
 c2:I.m≠I.fi.fb
 c3:I.m≠I.fi.fw
theorem StA.nes (h:StA H I F K):Nes I:=⟨fun e=>by have q:=h.s; rw [e,h.r] at q; simp [StU.map] at q,
 fun e=>by have q:=h.s; rw [e,h.m] at q; simp [StU.map] at q,
 fun e=>by have q:=h.s; rw [e,h.fl.f] at q; simp [StU.map] at q,
 fun e=>by have q:=h.s; rw [e,h.fl.b] at q; simp [StU.map] at q,
 fun e=>by have q:=h.s; rw [e,h.fl.w] at q; simp [StU.map] at q,
 fun e=>by have q:=h.r; rw [e,h.m] at q; simp [StU.map] at q,
 fun e=>by have q:=h.r; rw [e,h.fl.f] at q; simp [StU.map] at q,
 fun e=>by have q:=h.r; rw [e,h.fl.b] at q; simp [StU.map] at q,
 fun e=>by have q:=h.r; rw [e,h.fl.w] at q; simp [StU.map] at q,
 fun e=>by have q:=h.m; rw [e,h.fl.f] at q; simp [StU.map] at q,
 fun e=>by have q:=h.m; rw [e,h.fl.b] at q; simp [StU.map] at q,
 fun e=>by have q:=h.m; rw [e,h.fl.w] at q; simp [StU.map] at q⟩
theorem StA.flash (h:StA H I F K) {F':Fl} (k:FlF I.fi H H') (h':FlA H' I.fi F') (e:F'.n=F.n∧F'.z=F.z∧F'.lim=F.lim):StA H' I F' K:=by
 have n:=h.nes
 refine ⟨h',?_,k.keep _ _ h.r n.b3 n.b4,k.keep _ _ h.m n.c2 n.c3,by rw [e.1]; exact h.ln,by rw [e.1]; exact h.hd,by rw [e.2.1]; exact h.ab,h.sb,h.tb⟩
 rw [k.keep _ _ h.s n.a4 n.a5]
 unfold StU.cells
 rw [e.1,e.2.1,e.2.2]
theorem StA.app (h:StA H I F K) (X:List AObj):StA (H++X) I F K:=by
 have:∀ {i o},H[i]? = some o→(H++X)[i]? = some o:=fun ho=>by rw [ag (ah ho)]; exact ho
 exact ⟨h.fl.app X,this h.s,this h.r,this h.m,h.ln,h.hd,h.ab,h.sb,h.tb⟩
theorem StA.own (h:StA H I F K) {K':StU} (e1:K'.secs=K.secs) (e2:K'.ix=K.ix∧K'.clock=K.clock) (hd:K'.head = -1∨∃ h:Nat,K'.head=h∧h < F.n) (ab:K'.at_≤F.z) (sb:K'.seq < 4294967296) (tb:K'.txn < 4294967296):StA (H.set I.s (.cells 11 (K'.cells F I))) I F K':=by
 have n:=h.nes
 have:∀ {i o},H[i]? = some o→I.s≠i→(H.set I.s (.cells 11 (K'.cells F I)))[i]? = some o:=fun ho hne=>by rw [aq hne]; exact ho
 exact ⟨h.fl.keep fun i o ho hi=>this ho (by rcases hi with rfl | rfl | rfl; exact n.a3; exact n.a4; exact n.a5),ij h.s,by rw [e1]; exact this h.r n.a1,by unfold StU.map; rw [e2.1,e2.2]; exact this h.m n.a2,by rw [e1]; exact h.ln,hd,ab,sb,tb⟩
theorem StF.own {o:AObj}:StF I H (H.set I.s o):=⟨by rw [av]; exact ai _,fun k o ho h1 _ _ _ _=>by rw [aq (fun e=>h1 e.symm)]; exact ho⟩
section
attribute [-simp] getElem?_pos getElem?_neg List.all_eq_true
attribute [local simp] qZ qS nltT nltF iltT iltF ileT nleT dj
theorem s597 (h:StA H I F K) {n:Nat} (hn:n≤1000000000):xCall T 597 [.ptr (some (I.s,0)),.int .i64 n] ⟨H,b,w⟩=some (.bool (!decide (K.head = -1) && decide (K.at_+n≤F.z)),⟨H,b,w⟩):=by
 have hs:=h.s
 unfold StU.cells at hs
 have hz:=h.fl.nb.2
 have ha:=h.ab
 by_cases c1:K.head = -1
 ·simp (disch:=omega) [ba t597,code597,hs,c1]
 ·by_cases c2:K.at_+n≤F.z
  ·simp (disch:=omega) [ba t597,code597,hs,c1,c2]
  ·simp (disch:=omega) [ba t597,code597,hs,c1,c2]
theorem s561 (h:StA H I F K):xCall T 561 [.ptr (some (I.s,0))] ⟨H,b,w⟩=some (.bool K.down,⟨H,b,w⟩):=by
 have hs:=h.s
 unfold StU.cells at hs
 simp (disch:=omega) [ba t561,code561,hs]
theorem p578 (h:StA H I F K) (hb:I.lo b):∃ H',StF I H H'∧StA H' I F K∧H'.length=H.length∧∀ w,xCall T 578 [.ptr (some (I.s,0)),.int .i64 0] ⟨H,b,w⟩=some (.int .i64 0,⟨H',b,min w I.s⟩):=by
 refine ⟨_,StF.own,h.own (K':=K) rfl ⟨rfl,rfl⟩ h.hd h.ab h.sb h.tb,av,fun w=>?_⟩
 have hs:=h.s
 unfold StU.cells at hs ⊢
 have hl:=ah hs
 have hb1:=hb.1
 cases hd:K.down with
 | true =>
  rw [hd] at hs
  simp (disch:=omega) [ba t578,code578,hs]
 | false =>
  rw [hd] at hs
  simp (disch:=omega) [ba t578,code578,hs]
end
end
end Go.Abs.AbsBlb

namespace Go.Abs.AbsBlb
open Go.Abs.Short
def Fl.laid (F:Fl) (a:Nat) (r:RecU):Fl:=(F.prog a (recB r)).prog (a+(recB r).length) [0]
section
variable {H:List AObj} {b w:Nat} {I:SI} {F:Fl} {K:StU}
theorem p601 (h:StA H I F K) (hb:I.lo b) {r:RecU} {v:AVal} (hv:BlobV H v r.blob) (hr:r.right=true) (ht:r.txn < 4294967296) {hd:Nat} (hh:K.head=hd) (hfit:K.at_+r.size≤F.z)
  (hcl:∀ j,K.at_≤j→j < F.z→F.b[hd*F.z+j]? = some 255) :
  ∃ H',∃ nx:Nat→Nat,StF I H H'∧StA H' I (F.laid (hd*F.z+K.at_) r) { K with at_:=K.at_+r.size }∧(∀ w,nx w≤I.hi∧min w b≤nx w) ∧
   ∀ w,xCall T 601 [.ptr (some (I.s,0)),.agg (r.cells v)] ⟨H,b,w⟩=some (.tuple [.agg (.int .i64 K.at_ :: r.cells v),.int .i64 0],⟨H',b,nx w⟩):=by
 have hhi:=h.hi
 have hI:I.fi.fb≤I.hi∧I.s≤I.hi:=by unfold SI.hi; omega
 obtain ⟨b1,b2,b3,b4,b5⟩:=hb
 have hdn:hd < F.n:=by
  rcases h.hd with e | ⟨x,e,hx⟩
  ·omega
  ·omega
 have hin:=(h.fl.sec_len hdn).2
 have htt:=h.fl.total
 have hz:=h.fl.nb.2
 obtain ⟨l0,l1,l2,l3⟩:=right_lens hr
 have hlr:=len_rec r
 have hsz0:16≤r.size:=by unfold RecU.size; omega
 have hsz:r.size≤5000:=by unfold RecU.size; omega
 have h596:=fun w=>s596 (w:=w) hv hr ht (show b≤H.length by omega)
 obtain ⟨H2,k2,f2,e2,x2⟩:=p558 (b:=b) (c:=none) (h.fl.app [.cells 1 ((recB r).map u8V)]) (SlB.whole (q:=H.length) (fp _ _) rfl) (by omega) (a:=hd*F.z+K.at_) (by omega) (bits_blank _ _ fun j hj=>by
  rw [cq,jj]; exact hcl (K.at_+j) (by omega) (by omega)) b4 (ai _)
 have s2:=(h.app [.cells 1 ((recB r).map u8V)]).flash k2 f2 ⟨rfl,rfl,rfl⟩
 have hl2:(F.prog (hd*F.z+K.at_) (recB r)).b.length=F.b.length:=fm (by omega)
 obtain ⟨H3,k3,f3,e3,x3⟩:=p558 (b:=b) (c:=some 1) (f2.app [.cells 1 [.int .u8 0]]) (SlB.whole (q:=H2.length) (n:=1) (l:=[0]) (fp _ _) rfl) (by omega) (a:=hd*F.z+K.at_+(recB r).length) (by rw [hl2]; omega) (bits_zero _) b4 (ai _)
 have s3:=(s2.app [.cells 1 [.int .u8 0]]).flash k3 f3 ⟨rfl,rfl,rfl⟩
 have hs4:=s3.own (K':={ K with at_:=K.at_+r.size }) rfl ⟨rfl,rfl⟩ h.hd (by show K.at_+r.size≤F.z; exact hfit) h.sb h.tb
 refine ⟨_,fun w=>min w (min I.fi.fb I.s),(((StF.refl.app _).trans k2.st).app _ |>.trans k3.st).trans .own,hs4,fun w=>by show min w (min I.fi.fb I.s)≤_∧_≤min w (min I.fi.fb I.s); omega,fun w=>?_⟩
 have g1:=h.s
 have g2:=(h.app [.cells 1 ((recB r).map u8V)]).s
 have g3:=s2.s
 have g4:=s3.s
 simp only [StU.cells,Fl.prog] at g1 g2 g3 g4 ⊢
 rw [ap] at e2
 rw [ap] at e3
 have hmi:(hd:Int)*(F.z:Int)=((hd*F.z:Nat):Int):=(Int.natCast_mul hd F.z).symm
 have ea:((hd*F.z+K.at_:Nat):Int)=((hd*F.z:Nat):Int)+K.at_:=by omega
 have eb:((hd*F.z+K.at_+(recB r).length:Nat):Int)=((hd*F.z:Nat):Int)+K.at_+(recB r).length:=by omega
 have ec:((K.at_+r.size:Nat):Int)=(K.at_:Int)+((recB r).length+1):=by omega
 rw [ea] at x2
 rw [eb] at x3
 rw [ec]
 unfold RecU.cells at h596 ⊢
 have hlrb:(recB r).length≤5000:=by omega
 have hqb:hd*F.z≤4194304:=by omega
 have hatb:=h.ab
 generalize (recB r).map u8V=Y at *
 generalize (recB r).length=n at *
 generalize hd*F.z=q at *
 rw [hh] at g1 g2 g3 g4 ⊢
 have h1l:H2.length=H.length+1:=e2
 have h2l:H3.length=H.length+1+1:=by rw [e3,h1l]; rfl
 rw [h1l] at x3
 simp (disch:=omega) [-getElem?_pos,-getElem?_neg,-List.all_eq_true,qZ,qS,nltT,nltF,iltT,iltF,ileT,nleT,dj,ba t601,code601,h596,g1,g2,g3,g4,x2,x3,hmi,h1l,h2l]
end
end Go.Abs.AbsBlb

namespace Go.Abs.AbsBlb
open Go.Abs.Short
theorem sec_set:∀ {L:List Sec} {i:Nat} (y:Sec),i < L.length→(L.flatMap Sec.cells).take (i*3) ++ .int .i64 y.st :: .int .u32 y.seq :: .int .i64 y.er :: (L.flatMap Sec.cells).drop (i*3+3)=(L.set i y).flatMap Sec.cells
 | [],i,y,h=>by simp at h
 | z :: L,0,y,h=>by simp [Sec.cells]
 | z :: L,i+1,y,h=>by
  have ih:=sec_set (L:=L) (i:=i) y (by simpa using h)
  rw [List.set_cons_succ,d0,d0,← ih,dr,Nat.one_mul]
  have e:z.cells.length=3:=rfl
  rw [show i*3+3=z.cells.length+i*3 from by rw [e]; omega,show z.cells.length+i*3+3=z.cells.length+(i*3+3) from by omega,List.take_append,List.drop_append,dm (by omega),dx (by omega)]
  simp [gg]
  rw [Nat.add_comm]
theorem sec_len (L:List Sec):(L.flatMap Sec.cells).length=L.length*3:=by
 induction L with
 | nil=>rfl
 | cons x L ih=>rw [d0,ap,ih,bv,dr]; simp; omega
section
variable {H:List AObj} {b w:Nat} {I:SI} {F:Fl} {K:StU}
theorem StA.row (h:StA H I F K) {L:List Sec} (hL:L.length=K.secs.length):StA (H.set I.sa (.cells 3 (L.flatMap Sec.cells))) I F { K with secs:=L }:=by
 have n:=h.nes
 have key:∀ {i o},H[i]? = some o→I.sa≠i→(H.set I.sa (.cells 3 (L.flatMap Sec.cells)))[i]? = some o:=fun ho hne=>by rw [aq hne]; exact ho
 refine ⟨h.fl.keep fun i o ho hi=>key ho (by rcases hi with rfl | rfl | rfl; exact n.b2; exact n.b3; exact n.b4),?_,ij h.r,key h.m n.b1,by rw [← h.ln]; exact hL,h.hd,h.ab,h.sb,h.tb⟩
 have:=key h.s n.a1.symm
 rw [this]
 unfold StU.cells
 simp only [hL]
theorem StF.row {o:AObj}:StF I H (H.set I.sa o):=⟨by rw [av]; exact ai _,fun k o ho _ h1 _ _ _=>by rw [aq (fun e=>h1 e.symm)]; exact ho⟩
def Fl.dropped (F:Fl) (i x:Nat):Fl:=if x < F.lim then (F.prog (i*F.z+9) [0]).erase i else F.prog (i*F.z+9) [0]
def dropS (F:Fl) (x:Nat):Sec:=if x < F.lim then ⟨0,0,(x:Int)+1⟩ else ⟨1,0,x⟩
section
attribute [-simp] getElem?_pos getElem?_neg List.all_eq_true
attribute [local simp] qZ qS nltT nltF iltT iltF ileT nleT dj
theorem p594 (h:StA H I F K) (hb:I.lo b) (hz:12≤F.z) {i x:Nat} (hx:F.w[i]? = some x) :
  ∃ H',∃ nx:Nat→Nat,StF I H H'∧StA H' I (F.dropped i x) { K with secs:=K.secs.set i (dropS F x) }∧(∀ w,nx w≤I.hi∧min w b≤nx w) ∧
   ∀ w,xCall T 100594 [.ptr (some (I.s,0)),.int .i64 i] ⟨H,b,w⟩=some (.int .i64 0,⟨H',b,nx w⟩):=by
 have hhi:=h.hi
 have hI:I.fi.fb≤I.hi∧I.fi.fw≤I.hi∧I.s≤I.hi∧I.sa≤I.hi:=by unfold SI.hi; omega
 obtain ⟨b1,b2,b3,b4,b5⟩:=id hb
 have hi:i < F.n:=by have:=ah hx; have:=h.fl.wl; omega
 have hln:=h.ln
 have hin:=(h.fl.sec_len hi).2
 obtain ⟨H1,n1,k1,f1,w1,x1⟩:=p612 (b:=b) h.fl hi hz ⟨b4,b5⟩
 have s1:=h.flash k1 f1 ⟨rfl,rfl,rfl⟩
 have h587:=fun w=>s587 (b:=b) (w:=w) f1 (i:=i) (x:=x) hx
 have s2:=s1.row (L:=K.secs.set i ⟨1,0,x⟩) av
 have hs1:=sec_set (L:=K.secs) (i:=i) ⟨1,0,x⟩ (by omega)
 have g1:=h.s
 have g2:=s1.s
 have g3:=s1.r
 have hfl:=s2.fl
 have hlen:=sec_len K.secs
 unfold Fl.dropped dropS
 by_cases hlt:x < F.lim
 ·rw [if_pos hlt,if_pos hlt]
  obtain ⟨H3,k3,f3,e3,x3⟩:=p611 (b:=b) hfl (i:=i) (x:=x) hx hlt (by show 0 < F.z; omega) ⟨b4,b5⟩
  have s3:=s2.flash k3 f3 ⟨rfl,rfl,rfl⟩
  have s4:=s3.row (L:=K.secs.set i ⟨0,0,(x:Int)+1⟩) (by rw [av,av])
  have hw3:((F.prog (i*F.z+9) [0]).erase i).w[i]? = some (x+1):=by
   show (F.w.set i ((F.w[i]?).getD 0+1))[i]? = _
   rw [hx]
   exact db (ah hx)
  have h587':=fun w=>s587 (b:=b) (w:=w) s3.fl (i:=i) hw3
  have hs3:=sec_set (L:=K.secs.set i ⟨1,0,x⟩) (i:=i) ⟨0,0,(x:Int)+1⟩ (by rw [av]; omega)
  have hlen3:=sec_len (K.secs.set i ⟨1,0,x⟩)
  have g4:=s2.s
  have g5:=s3.s
  have g6:=s3.r
  rw [List.set_set] at hs3
  refine ⟨_,fun w=>min w (min (min (min (n1 H.length) I.sa) (min I.fi.fw I.fi.fb)) I.sa),((k1.st.trans .row).trans k3.st).trans .row,s4,fun w=>by show min w (min (min (min (n1 H.length) I.sa) (min I.fi.fw I.fi.fb)) I.sa)≤_∧_≤min w (min (min (min (n1 H.length) I.sa) (min I.fi.fw I.fi.fb)) I.sa); have:=w1 H.length; omega,fun w=>?_⟩
  have hn1:=w1 H.length
  simp only [StU.cells,av] at g1 g2 g4 g5 hlen3
  simp only [av] at *
  have hH1:=k1.len
  have hH3:=e3
  have hxi:((x+1:Nat):Int)=(x:Int)+1:=by omega
  rw [hxi] at h587'
  generalize (K.secs.set i ⟨0,0,(x:Int)+1⟩).flatMap Sec.cells=C3 at *
  generalize (K.secs.set i ⟨1,0,x⟩).flatMap Sec.cells=C2 at *
  generalize K.secs.flatMap Sec.cells=C1 at *
  simp (disch:=omega) [ba t100594,code100594,x1,h587,g1,g2,g3,g4,g5,g6,x3,h587',hs1,hs3,hlen,hlen3]
 ·rw [if_neg hlt,if_neg hlt]
  have h611:=fun w=>s611 (b:=b) (w:=w) hfl (i:=i) (x:=x) hx (by show 0 < F.z; omega) ⟨b4,b5⟩
  have hl2:(F.prog (i*F.z+9) [0]).lim≤x:=by show F.lim≤x; omega
  simp only [eq_true hl2,if_true] at h611
  refine ⟨_,fun w=>min w (min (n1 H.length) I.sa),k1.st.trans .row,s2,fun w=>by show min w (min (n1 H.length) I.sa)≤_∧_≤min w (min (n1 H.length) I.sa); have:=w1 H.length; omega,fun w=>?_⟩
  have hn1:=w1 H.length
  have g4:=s2.s
  simp only [StU.cells,av] at g1 g2 g4
  have hH1:=k1.len
  generalize (K.secs.set i ⟨1,0,x⟩).flatMap Sec.cells=C2 at *
  generalize K.secs.flatMap Sec.cells=C1 at *
  simp (disch:=omega) [ba t100594,code100594,x1,h587,g1,g2,g3,g4,h611,hs1,hlen]
end
def nextS (F:Fl) (K:StU):Nat × Bool:=least (opn F.lim) Sec.er K.secs K.secs.length
section
attribute [-simp] getElem?_pos getElem?_neg List.all_eq_true
attribute [local simp] qZ qS nltT nltF iltT iltF ileT nleT dj
theorem p598n (h:StA H I F K) (hn:(nextS F K).2=false∨K.seq=4294967295):xCall T 598 [.ptr (some (I.s,0))] ⟨H,b,w⟩=some (.int .i64 10,⟨H,b,w⟩):=by
 have hR:Row H 3 Sec.cells K.secs (some (I.sa,0)):=Row.mk0 (fun _=>rfl) h.r
 have hlb:=h.fl.nb.1
 have hln:=h.ln
 have h7:=fun c w=>s7 (os:=H) (b:=b) (w:=w) (c:=c) (lim:=F.lim) hR (by omega)
 have g1:=h.s
 unfold StU.cells at g1
 unfold nextS at hn
 generalize least (opn F.lim) Sec.er K.secs K.secs.length=p at *
 obtain ⟨p1,p2⟩:=p
 cases p2 with
 | false=>simp (disch:=omega) [ba t598,code598,g1,h7]
 | true =>
  rcases hn with hn | hn
  ·cases hn
  ·rw [hn] at g1
   simp (disch:=omega) [ba t598,code598,g1,h7]
theorem p598 (h:StA H I F K) (hb:I.lo b) (hz:12≤F.z) {i x x':Nat} (hn:nextS F K=(i,true)) (hq:K.seq≠4294967295) (hx:F.w[i]? = some x) (hst:(F.look i).st=0∨((F.look i).st=1∧x < F.lim)) (hx':(F.clear i).w[i]? = some x') :
  ∃ H',∃ nx:Nat→Nat,StF I H H'∧StA H' I (F.opened i (K.seq+1)) { K with secs:=K.secs.set i ⟨2,(K.seq:Int)+1,x'⟩,head:=i,at_:=12,txn:=0,seq:=K.seq+1 }∧(∀ w,nx w≤I.hi∧min w b≤nx w) ∧
   ∀ w,xCall T 598 [.ptr (some (I.s,0))] ⟨H,b,w⟩=some (.int .i64 0,⟨H',b,nx w⟩):=by
 have hhi:=h.hi
 have hI:I.fi.fb≤I.hi∧I.fi.fw≤I.hi∧I.s≤I.hi∧I.sa≤I.hi:=by unfold SI.hi; omega
 obtain ⟨b1,b2,b3,b4,b5⟩:=id hb
 have hi:i < F.n:=by have:=ah hx; have:=h.fl.wl; omega
 have hln:=h.ln
 have hlb:=h.fl.nb.1
 have hsb:=h.sb
 have hR:Row H 3 Sec.cells K.secs (some (I.sa,0)):=Row.mk0 (fun _=>rfl) h.r
 have h7:=fun c w=>s7 (os:=H) (b:=b) (w:=w) (c:=c) (lim:=F.lim) hR (by omega)
 unfold nextS at hn
 rw [hn] at h7
 obtain ⟨H1,n1,k1,f1,w1,x1⟩:=p618 (b:=b) (seq:=K.seq+1) h.fl hx hst hz (by omega) ⟨b4,b5⟩
 obtain ⟨e1,e2,e3⟩:=clear_eq F i
 have s1:=h.flash k1 f1 ⟨e1,e2,e3⟩
 have hww:(F.opened i (K.seq+1)).w[i]? = some x':=hx'
 have h587:=fun w O (hO:FlA O I.fi (F.opened i (K.seq+1)))=>s587 (b:=b) (w:=w) hO (i:=i) (x:=x') hww
 have s2:=s1.own (K':={ K with seq:=K.seq+1 }) rfl ⟨rfl,rfl⟩ s1.hd s1.ab (by show K.seq+1 < _; omega) s1.tb
 have h587':=fun w=>h587 w _ s2.fl
 have s3:=s2.row (L:=K.secs.set i ⟨2,(K.seq:Int)+1,x'⟩) av
 have s4:=s3.own (K':={ K with secs:=K.secs.set i ⟨2,(K.seq:Int)+1,x'⟩,head:=i,at_:=12,txn:=0,seq:=K.seq+1 }) rfl ⟨rfl,rfl⟩ (.inr ⟨i,rfl,by show i < (F.clear i).n; rw [e1]; exact hi⟩) (by show 12≤(F.clear i).z; rw [e2]; exact hz) (by show K.seq+1 < _; omega) (by show 0 < _; omega)
 have hs1:=sec_set (L:=K.secs) (i:=i) ⟨2,(K.seq:Int)+1,x'⟩ (by omega)
 have hlen:=sec_len K.secs
 have g1:=h.s
 have g2:=s1.s
 have g3:=s2.s
 have g4:=s2.r
 have g5:=s3.s
 have hu:IntKind.u32.wrap ((K.seq:Int)+1)=(K.seq:Int)+1:=wrap32 (by omega)
 have hsi:((K.seq+1:Nat):Int)=(K.seq:Int)+1:=by omega
 have hqi:¬ ((K.seq:Int)=4294967295):=by omega
 refine ⟨_,fun w=>min w (min (min (n1 H.length) I.s) (min I.sa I.s)),((k1.st.trans .own).trans .row).trans .own,s4,fun w=>by show min w (min (min (n1 H.length) I.s) (min I.sa I.s))≤_∧_≤min w (min (min (n1 H.length) I.s) (min I.sa I.s)); have:=w1 H.length; omega,fun w=>?_⟩
 have hn1:=w1 H.length
 have hH1:=k1.len
 have hrl:=ah h.r
 have hsl:=ah h.s
 have hrl1:=ah s2.r
 simp only [StU.cells,av,hsi] at g1 g2 g3 g4 g5 x1 h587' ⊢
 have hset:=fun o=>ij (y:=o) g5
 generalize (K.secs.set i ⟨2,(K.seq:Int)+1,x'⟩).flatMap Sec.cells=C2 at *
 generalize K.secs.flatMap Sec.cells=C1 at *
 simp (disch:=omega) [ba t598,code598,x1,h7,g1,g2,g3,g4,g5,h587',hs1,hlen,hu,hqi,hset,List.set_set]
 omega
end
end
end Go.Abs.AbsBlb

namespace Go.Abs.AbsBlb
open Go.Abs.Short
abbrev Ent:=Bs × PlU × Nat
def entV (e:Ent):AVal × AVal × Nat:=(.str e.1,e.2.1.val,e.2.2)
def findK (k:Bs):List Ent→Option (Nat × PlU)
 | []=>none
 | e :: r=>if e.1=k then some (0,e.2.1) else (findK k r).map fun x=>(x.1+1,x.2)
theorem findK_eq (k:Bs):∀ L:List Ent,findA (.str k) (L.map entV)=some ((findK k L).map fun x=>(x.1,x.2.val))
 | []=>rfl
 | e :: r=>by
  have ih:=findK_eq k r
  rw [bc]
  unfold findA entV findK
  have hk:akey (.str k) (.str e.1)=some (decide (k=e.1)):=by simp [akey,akey1]
  by_cases c:e.1=k
  ·have hk':akey (.str k) (.str e.1)=some true:=by rw [hk,decide_eq_true c.symm]
   rw [if_pos c]
   simp only [hk']; rfl
  ·have hk':akey (.str k) (.str e.1)=some false:=by rw [hk,decide_eq_false (fun h=>c h.symm)]
   rw [if_neg c]
   simp only [hk']
   show Option.map _ (findA (.str k) (r.map entV))=_
   rw [ih]
   cases findK k r <;> rfl
def StU.del (K:StU) (k:Bs):StU:=match findK k K.ix with
 | some x=>{ K with ix:=K.ix.eraseIdx x.1 }
 | none=>K
def StU.put (K:StU) (k:Bs) (p:PlU):StU:=match findK k K.ix with
 | some x=>{ K with ix:=K.ix.modify x.1 fun e=>(k,p,e.2.2) }
 | none=>{ K with ix:=K.ix++[(k,p,K.clock)],clock:=K.clock+1 }
def StU.apply (K:StU) (sec at_:Nat) (r:RecU):StU:=if r.kind=2 then K.del r.key else K.put r.key ⟨sec,at_,r.blob⟩
theorem erase_map {α β:Type} (f:α→β):∀ (L:List α) (i:Nat),(L.map f).eraseIdx i=(L.eraseIdx i).map f
 | [],i=>rfl
 | x :: L,0=>rfl
 | x :: L,i+1=>by
  rw [bc,List.eraseIdx_cons_succ,List.eraseIdx_cons_succ,bc,erase_map f L i]
theorem modify_map {α β:Type} {f:α→β} {g:β→β} {g':α→α} (h:∀ x,g (f x)=f (g' x)):∀ (L:List α) (i:Nat),(L.map f).modify i g=(L.modify i g').map f
 | [],i=>by cases i <;> rfl
 | x :: L,0=>by simp [h]
 | x :: L,i+1=>by
  rw [bc,List.modify_succ_cons,List.modify_succ_cons,bc,modify_map h L i]
section
variable {H:List AObj} {b w:Nat} {I:SI} {F:Fl} {K:StU}
theorem StA.idx (h:StA H I F K) {K':StU} (e:K'.secs=K.secs∧K'.head=K.head∧K'.at_=K.at_∧K'.txn=K.txn∧K'.seq=K.seq∧K'.down=K.down):StA (H.set I.m K'.map) I F K':=by
 have n:=h.nes
 obtain ⟨e1,e2,e3,e4,e5,e6⟩:=e
 have key:∀ {i o},H[i]? = some o→I.m≠i→(H.set I.m K'.map)[i]? = some o:=fun ho hne=>by rw [aq hne]; exact ho
 refine ⟨h.fl.keep fun i o ho hi=>key ho (by rcases hi with rfl | rfl | rfl; exact n.c1; exact n.c2; exact n.c3),?_,by rw [e1]; exact key h.r n.b1.symm,ij h.m,by rw [e1]; exact h.ln,by rw [e2]; exact h.hd,by rw [e3]; exact h.ab,by rw [e5]; exact h.sb,by rw [e4]; exact h.tb⟩
 rw [key h.s n.a2.symm]
 unfold StU.cells
 rw [e1,e2,e3,e4,e5,e6]
theorem StF.idx {o:AObj}:StF I H (H.set I.m o):=⟨by rw [av]; exact ai _,fun k o ho _ _ h1 _ _=>by rw [aq (fun e=>h1 e.symm)]; exact ho⟩
theorem put_eq (K:StU) (k:Bs) (p:PlU):(K.put k p).secs=K.secs∧(K.put k p).head=K.head∧(K.put k p).at_=K.at_∧(K.put k p).txn=K.txn∧(K.put k p).seq=K.seq∧(K.put k p).down=K.down:=by
 unfold StU.put; split <;> exact ⟨rfl,rfl,rfl,rfl,rfl,rfl⟩
theorem del_eq (K:StU) (k:Bs):(K.del k).secs=K.secs∧(K.del k).head=K.head∧(K.del k).at_=K.at_∧(K.del k).txn=K.txn∧(K.del k).seq=K.seq∧(K.del k).down=K.down:=by
 unfold StU.del; split <;> exact ⟨rfl,rfl,rfl,rfl,rfl,rfl⟩
theorem ext_put (h:H[I.m]? = some K.map) {k:Bs} {p:PlU} (hb:b≤I.m):evExt (.mapupd (.one .s)) [.map (some I.m),.str k,p.val] ⟨H,b,w⟩=some (.tuple [],⟨H.set I.m (K.put k p).map,b,min w I.m⟩):=by
 have hf:=findK_eq k K.ix
 have hi:isKey (.one .s) (.str k)=true:=rfl
 have hm:K.map = .map (K.ix.map entV) K.clock:=rfl
 rw [hm] at h
 unfold evExt
 simp only [hi,Heap.get,h,hb,and_self,if_true,hf]
 unfold StU.put
 cases findK k K.ix with
 | none =>
  simp only [Option.map_none,Heap.put,StU.map]
  rw [List.map_append]; rfl
 | some x =>
  simp only [bq,Heap.put,StU.map]
  rw [modify_map (f:=entV) (g':=fun e=>(k,p,e.2.2)) (fun x=>rfl)]; rfl
theorem ext_del (h:H[I.m]? = some K.map) {k:Bs} (hb:b≤I.m):∃ nx:Nat→Nat,(∀ w,nx w≤w∧min w b≤nx w)∧((findK k K.ix=none∧nx=fun w=>w)∨nx=fun w=>min w I.m)∧∀ w,evExt (.delete (.one .s)) [.map (some I.m),.str k] ⟨H,b,w⟩=some (.tuple [],⟨H.set I.m (K.del k).map,b,nx w⟩):=by
 have hf:=findK_eq k K.ix
 have hi:isKey (.one .s) (.str k)=true:=rfl
 have hm:K.map = .map (K.ix.map entV) K.clock:=rfl
 have hsame:H.set I.m K.map=H:=set_same h
 rw [hm] at h
 unfold StU.del
 cases hk:findK k K.ix with
 | none =>
  refine ⟨fun w=>w,fun w=>⟨ai _,cr _ _⟩,.inl ⟨rfl,rfl⟩,fun w=>?_⟩
  unfold evExt
  simp only [hi,Heap.get,h,hb,and_self,if_true,hf,hk,Option.map_none,hsame]
 | some x =>
  refine ⟨fun w=>min w I.m,fun w=>by show min w I.m≤w∧min w b≤min w I.m; omega,.inr rfl,fun w=>?_⟩
  unfold evExt
  simp only [hi,Heap.get,h,hb,and_self,if_true,hf,hk,bq,Heap.put,StU.map,erase_map]
  rfl
section
attribute [-simp] getElem?_pos getElem?_neg List.all_eq_true
attribute [local simp] qZ qS nltT nltF iltT iltF ileT nleT dj
theorem p600 (h:StA H I F K) (hb:I.lo b) {r:RecU} {v:AVal} (hv:BlobV H v r.blob) (sec at_:Nat) :
  ∃ H',∃ nx:Nat→Nat,StF I H H'∧H'.length=H.length∧StA H' I F (K.apply sec at_ r)∧(∀ w,nx w≤w∧min w b≤nx w) ∧
   ∀ w,xCall T 600 [.ptr (some (I.s,0)),.int .i64 sec,.agg (.int .i64 at_ :: r.cells v)] ⟨H,b,w⟩=some (.tuple [],⟨H',b,nx w⟩):=by
 obtain ⟨b1,b2,b3,b4,b5⟩:=id hb
 have g1:=h.s
 unfold StU.cells at g1
 have hml:=ah h.m
 unfold StU.apply RecU.cells
 by_cases hk:r.kind=2
 ·rw [if_pos hk]
  obtain ⟨nx,n1,n2,n3⟩:=ext_del (K:=K) (k:=r.key) (b:=b) h.m b3
  refine ⟨_,fun w=>nx w,.idx,av,h.idx (del_eq K r.key),n1,fun w=>?_⟩
  rcases n2 with ⟨n2,rfl⟩ | rfl
  ·have hsame:H.set I.m (K.del r.key).map=H:=by
    unfold StU.del; rw [n2]; exact set_same h.m
   rw [hsame] at n3 ⊢
   simp (disch:=omega) [ba t600,code600,-evExt,hk,g1,n3]
  ·simp (disch:=omega) [ba t600,code600,-evExt,hk,g1,n3]
 ·rw [if_neg hk]
  have hk':¬ ((r.kind:Int)=2):=by omega
  have hrow:=fun w=>hv.row (b:=b) (w:=w)
  obtain ⟨va,vc,rfl,-,-⟩:=hv
  have n3:=fun w=>ext_put (w:=w) (K:=K) (k:=r.key) (p:=⟨sec,at_,r.blob⟩) (b:=b) h.m b3
  unfold PlU.val at n3
  refine ⟨_,fun w=>min w I.m,.idx,av,h.idx (put_eq K r.key _),fun w=>by show min w I.m≤w∧min w b≤min w I.m; omega,fun w=>?_⟩
  simp (disch:=omega) [ba t600,code600,-evExt,hk',g1,n3,-rowOf,hrow,bytesOf_u8]
end
end
end Go.Abs.AbsBlb

namespace Go.Abs.AbsBlb
open Go.Abs.Short
def FRow {α:Type} (N e:Nat) (f:α→List AVal) (A:List α) (P:List AObj) (x:AVal):Prop :=
 (A=[]∧x = .slice none 0 (some 0))∨(A≠[]∧∃ q,N≤q∧x = .slice (some (q,0)) A.length none∧P[q]? = some (.cells e (A.flatMap f)))
theorem FRow.mono {α:Type} {N e:Nat} {f:α→List AVal} {A:List α} {P P':List AObj} {x:AVal} (h:FRow N e f A P x) (hk:∀ (k:Nat) (o:AObj),N≤k→P[k]? = some o→P'[k]? = some o):FRow N e f A P' x:=by
 rcases h with h | ⟨h0,q,h1,h2,h3⟩
 ·exact .inl h
 ·exact .inr ⟨h0,q,h1,h2,hk _ _ h1 h3⟩
theorem acc_addM {α:Type} {e b:Nat} {f:α→List AVal} {O P:List AObj} {A:List α} {v:AVal} (h:Acc e f O A P v) (hf:∀ y,(f y).length=e) (hb:b≤O.length) {by':Nat} (hl:(A.length+1)*by'≤140737488355328) (hl2:A.length≤1000000000) (x:α) :
  ∃ P' v',∃ nx:Nat→Nat,Acc e f O (A++[x]) P' v'∧(∀ w,min w O.length≤nx w)∧((∀ w,nx w≤w∧(A≠[]→nx w < P.length))∧Keeps P P' A.length v∧v' = .slice (some (P.length+1,0)) (A.length+1) none)∧∀ w,aAppend e by' ⟨P++[.cells e (f x)],b,w⟩ v (.slice (some (P.length,0)) 1 (some 1))=some (v',⟨P',b,nx w⟩):=by
 have hz:∀ w,rowOf e ⟨P++[.cells e (f x)],b,w⟩ (.slice (some (P.length,0)) 1 (some 1))=some (f x):=fun w =>
  rowOfC (by show (P++[AObj.cells e (f x)])[P.length]? = _; rw [fp]; rfl) (by rw [hf,Nat.one_mul])
 have hs:(P++[AObj.cells e (f x)]).length=P.length+1:=by simp
 have he:(A++[x]).flatMap f=A.flatMap f++f x:=by simp
 have hlen:(A++[x]).length=A.length+1:=by simp
 have hne:A++[x]≠[]:=by simp
 have hpl:=h.pre.len
 rcases h.val with ⟨rfl,rfl⟩ | ⟨h1,i,h2,rfl,h4⟩
 ·refine ⟨P++[.cells e (f x),.cells e (f x)],.slice (some (P.length+1,0)) 1 none,id,⟨h.pre.trans (Pre.app _ _),.inr ⟨hne,P.length+1,by omega,by rw [hlen]; rfl,by rw [iw]; simp⟩⟩,fun w=>cr _ _,⟨fun w=>⟨ai w,fun h=>absurd rfl h⟩,fun k o hk _=>by rw [ag (ah hk)]; exact hk,by simp⟩,fun w=>?_⟩
  unfold aAppend
  simp only [hz,rowOf0,aApp,alen]
  have q1:¬ (1:Nat)=0:=by decide
  have q2:(0+1)*by'≤140737488355328∧0+1≤9223372036854775807:=⟨by simpa using hl,by decide⟩
  simp only [eq_false q1,eq_true q2,if_false,if_true]
  simp [Heap.push,Heap.size]
 ·have hi:=ah h4
  have h5:(P++[AObj.cells e (f x)])[i]? = some (.cells e (A.flatMap f)):=by rw [ag hi]; exact h4
  have hfl:(A.flatMap f).length=A.length*e:=flat_len f e hf A
  have hz1:∀ w,rowOf e ⟨P++[.cells e (f x)],b,w⟩ (.slice (some (i,0)) A.length none)=some (A.flatMap f):=fun w=>rowOfC h5 hfl
  have hr:∀ w,rowIs ⟨P++[.cells e (f x)],b,w⟩ i e=true:=fun w=>by
   unfold rowIs Heap.get
   simp only [h5]
   simp
  refine ⟨P.set i .dead++[.cells e (f x),.cells e ((A++[x]).flatMap f)],.slice (some (P.length+1,0)) (A++[x]).length none,fun w=>min w i,⟨?_,.inr ⟨hne,P.length+1,by omega,rfl,?_⟩⟩,fun w=>by show min w O.length≤min w i; omega,⟨fun w=>⟨by show min w i≤w; omega,fun _=>by show min w i < P.length; omega⟩,fun k o hk hne=>by
   rw [ag (by rw [av]; exact ah hk),aq (fun e=>hne (by rw [e]))]; exact hk,by rw [hlen]⟩,fun w=>?_⟩
  ·exact (h.pre.set .dead h2).trans (Pre.app _ _)
  ·rw [au (by simp)]
   simp
  ·unfold aAppend
   simp only [hz,hz1,aApp,alen]
   have q1:¬ (1:Nat)=0:=by decide
   have q2:(A.length+1)*by'≤140737488355328∧A.length+1≤9223372036854775807:=⟨hl,by omega⟩
   have q3:¬ (none:Option Nat)=some A.length:=by simp
   have q4:(⟨P++[AObj.cells e (f x)],b,w⟩:Heap).base≤i∧rowIs ⟨P++[AObj.cells e (f x)],b,w⟩ i e=true:=⟨by show b≤i; omega,hr w⟩
   simp only [eq_false q1,eq_true q2,eq_false q3,eq_true q4,if_false,if_true]
   simp only [Heap.push,Heap.put,Heap.size,List.set_append_left _ _ hi,av,hs,he,hlen,aw,ff,eh]
theorem FRow.add {α:Type} {N e b:Nat} {f:α→List AVal} {A:List α} {P:List AObj} {x:AVal} (h:FRow N e f A P x) (hf:∀ y,(f y).length=e) (hN:N≤P.length) (hb:b≤N) {by':Nat} (hl:(A.length+1)*by'≤140737488355328) (hl2:A.length≤1000000000) (y:α) :
  ∃ P' x',∃ nx:Nat→Nat,FRow N e f (A++[y]) P' x'∧(∀ (k:Nat) (o:AObj),k < N→P[k]? = some o→P'[k]? = some o)∧P.length≤P'.length∧(∀ w,nx w≤w∧min w N≤nx w) ∧
   ∀ w,aAppend e by' ⟨P++[.cells e (f y)],b,w⟩ x (.slice (some (P.length,0)) 1 (some 1))=some (x',⟨P',b,nx w⟩):=by
 have hlen:(P.take N).length=N:=by rw [dg]; omega
 have hpre:Pre (P.take N) P:=fun i o ho=>by
  have:=ah ho
  rw [dp,if_pos (by omega)] at ho
  exact ho
 have hA:Acc e f (P.take N) A P x:=⟨hpre,by
  rcases h with h | ⟨h0,q,h1,h2,h3⟩
  ·exact .inl h
  ·exact .inr ⟨h0,q,by omega,h2,h3⟩⟩
 obtain ⟨P',x',nx,a1,a2,⟨a3,a4,a5⟩,a6⟩:=acc_addM (b:=b) hA hf (by omega) hl hl2 y
 refine ⟨P',x',nx,?_,?_,?_,fun w=>⟨(a3 w).1,?_⟩,a6⟩
 ·rcases a1.val with ⟨h1,-⟩ | ⟨h1,q,h2,h3,h4⟩
  ·simp at h1
  ·exact .inr ⟨h1,q,by omega,h3,h4⟩
 ·intro k o hk ho
  have:=a1.pre k o (by rw [dp,if_pos hk]; exact ho)
  exact this
 ·have h1:=ah (show P'[P.length+1]? = some (.cells e ((A++[y]).flatMap f)) from by
   rcases a1.val with ⟨h1,-⟩ | ⟨h1,q,h2,h3,h4⟩
   ·simp at h1
   ·rw [a5] at h3
    simp only [AVal.slice.injEq,dk,ji] at h3
    rw [h3.1.1]; exact h4)
  omega
 ·have:=a2 w
  omega
def BlobS (I:SI) (H:List AObj) (v:AVal) (l:Bs):Prop:=BlobV H v l∧∀ p o n c,v = .slice (some (p,o)) n c→p≠I.fi.fb∧p≠I.fi.fw
section
variable {H H':List AObj} {b w t:Nat} {I:SI} {F F0:Fl} {K K0:StU}
theorem BlobS.mono {v:AVal} {l:Bs} (h:BlobS I H v l) (hA:StA H I F K) (k:StF I H H'):BlobS I H' v l:=by
 obtain ⟨⟨a,c,rfl,h1,h2⟩,h3⟩:=h
 refine ⟨⟨a,c,rfl,fun p o hp=>dq (h1 p o hp) k.len,?_⟩,h3⟩
 rcases h2 with h2 | ⟨p,o,rfl,h4,h5⟩
 ·exact .inl h2
 ·refine .inr ⟨p,o,rfl,h4.mono fun x hx=>?_,h5⟩
  obtain ⟨n1,n2⟩:=h3 p o _ _ rfl
  obtain ⟨-,X,hp,-⟩:=h4
  rw [hp] at hx
  cases hx
  exact k.keep _ _ hp (fun e=>by rw [e,hA.s] at hp; simp at hp) (fun e=>by rw [e,hA.r] at hp; simp at hp) (fun e=>by rw [e,hA.m] at hp; simp [StU.map] at hp) n1 n2
theorem StA.low (h:StA H I F K) {N:Nat} (hN:I.hi < N∧I.fi.fl < N) (hk:∀ (k:Nat) (o:AObj),k < N→H[k]? = some o→H'[k]? = some o):StA H' I F K:=by
 have hI:I.fi.fb≤I.hi∧I.fi.fw≤I.hi∧I.s≤I.hi∧I.sa≤I.hi∧I.m≤I.hi:=by unfold SI.hi; omega
 exact ⟨h.fl.keep fun i o ho hi=>hk i o (by rcases hi with rfl | rfl | rfl <;> omega) ho,hk _ _ (by omega) h.s,hk _ _ (by omega) h.r,hk _ _ (by omega) h.m,h.ln,h.hd,h.ab,h.sb,h.tb⟩
theorem StF.low {H0:List AObj} (h:StF I H0 H) (hl:H.length≤H'.length) (hk:∀ (k:Nat) (o:AObj),k < H0.length→H[k]? = some o→H'[k]? = some o):StF I H0 H' :=
 ⟨b8 h.len hl,fun k o ho h1 h2 h3 h4 h5=>hk k o (ah ho) (h.keep k o ho h1 h2 h3 h4 h5)⟩
theorem StF.above (h:StF I H H') {N:Nat} (hN:I.hi < N) (k:Nat) (o:AObj) (hk:N≤k) (ho:H[k]? = some o):H'[k]? = some o:=by
 have hI:I.fi.fb≤I.hi∧I.fi.fw≤I.hi∧I.s≤I.hi∧I.sa≤I.hi∧I.m≤I.hi:=by unfold SI.hi; omega
 exact h.keep k o ho (by omega) (by omega) (by omega) (by omega) (by omega)
theorem laid_get {a j:Nat} {r:RecU} (h:a+r.size≤F.b.length) (hj:j < a∨a+r.size≤j):(F.laid a r).b[j]? = F.b[j]?:=by
 have hlr:=len_rec r
 have e1:(spliceB F.b a (recB r)).length=F.b.length:=fm (by omega)
 show (spliceB (spliceB F.b a (recB r)) (a+(recB r).length) [0])[j]? = _
 rw [jd (by rw [e1]; show _+1≤_; omega),jd (by omega)]
 rcases hj with hj | hj
 ·rw [if_pos (by omega),if_pos hj]
 ·rw [if_neg (by omega),if_neg (by show ¬ _ < _+1; omega),if_neg (by omega),if_neg (by omega)]
abbrev FV:=Nat × RecU × AVal
def FV.cells (x:FV):List AVal:=.int .i64 x.1 :: x.2.1.cells x.2.2
def RecU.at (t:Nat) (r:RecU):RecU:={ r with txn:=t }
theorem RecU.at_size (t:Nat) (r:RecU):(r.at t).size=r.size:=rfl
def layAll (q t:Nat):List RecU→Fl→Nat→Fl
 | [],F,_=>F
 | r :: l,F,a=>layAll q t l (F.laid (q+a) (r.at t)) (a+r.size)
def founds (t:Nat):List RV→Nat→List FV
 | [],_=>[]
 | p :: l,a=>(a,p.1.at t,p.2) :: founds t l (a+p.1.size)
section
attribute [-simp] getElem?_pos getElem?_neg List.all_eq_true
attribute [local simp] qZ qS nltT nltF iltT iltF ileT nleT dj
theorem l577b {H0:List AObj} {L:List RV} {la:Option (Nat × Nat)} {lc:Option Nat} (hR:Row H0 5 RV.cells L la) (hN:I.hi < H0.length∧I.fi.fl < H0.length) (hb:I.lo b) (hbN:b≤H0.length) (hLn:L.length≤16) {hd:Nat}
  (h00:StA H0 I F0 K0) (hbl:∀ p ∈ L,BlobS I H0 p.2 p.1.blob) (htx:0 < t∧t < 4294967296) (hrt:∀ p ∈ L,(p.1.at t).right=true):∀ (j i w:Nat) (P:List AObj) (F:Fl) (K:StU) (A:List FV) (x:AVal),i+j=L.length→A.length=i→StA P I F K→StF I H0 P→FRow H0.length 6 FV.cells A P x→K.head=hd→K.txn=t →
   K.at_+sizes ((L.drop i).map Prod.fst)≤F.z→(∀ m,K.at_≤m→m < F.z→F.b[hd*F.z+m]? = some 255) →
  ∃ P' x' w',min w b≤w'∧StA P' I (layAll (hd*F.z) t ((L.drop i).map Prod.fst) F K.at_) { K with at_:=K.at_+sizes ((L.drop i).map Prod.fst) }∧StF I H0 P'∧FRow H0.length 6 FV.cells (A++founds t (L.drop i) K.at_) P' x'∧∀ {β:Type} (k:AExit→St→Option β),
  xK T (.loop code577L1) ⟨[(0,.val (.ptr (some (I.s,0)))),(1,.val (.slice la L.length lc)),(5,.val x),(19,.val (.slice la L.length lc)),(20,.val (.int .i64 L.length)),(21,.val (.int .i64 i))],⟨P,b,w⟩⟩ (k:=⟨k⟩) =
   k (.exit 0) ⟨[(0,.val (.ptr (some (I.s,0)))),(1,.val (.slice la L.length lc)),(5,.val x')],⟨P',b,w'⟩⟩
 | 0,i,w,P,F,K,A,x,hi,hA,h,hF,hx,hh,ht,hfit,hcl=>by
  have hd:L.drop i=[]:=dx (by omega)
  refine ⟨P,x,w,cr _ _,?_,hF,?_,fun k=>?_⟩
  ·rw [hd]; exact h
  ·rw [hd]; unfold founds; rw [fg]; exact hx
  ·rw [b9]
   simp (disch:=omega) [code577L1]
 | j+1,i,w,P,F,K,A,x,hi,hA,h,hF,hx,hh,ht,hfit,hcl=>by
  obtain ⟨p,hp⟩:∃ p,L[i]? = some p:=⟨_,aj (by omega)⟩
  obtain ⟨bb,o,cs,rfl,hrow,hpart⟩:=hR.at' (ne_of_get hp)
  obtain ⟨p1,p2⟩:=hpart i p hp
  have hpm:=bn hp
  have hd1:=ip hp
  have hPr:P[bb]? = some (.cells 5 cs):=by
   have hrow':H0[bb]? = some (.cells 5 cs):=hrow
   exact hF.keep _ _ hrow' (fun e=>by rw [e,h00.s] at hrow'; simp at hrow') (fun e=>by rw [e,h00.r] at hrow'; simp at hrow') (fun e=>by rw [e,h00.m] at hrow'; simp [StU.map] at hrow') (fun e=>by rw [e,h00.fl.b] at hrow'; simp at hrow') (fun e=>by rw [e,h00.fl.w] at hrow'; simp at hrow')
  have hbP:=(hbl p hpm).mono h00 hF
  have hsz:K.at_+(p.1.at t).size+sizes ((L.drop (i+1)).map Prod.fst)≤F.z:=by
   rw [hd1,bc] at hfit
   unfold sizes at hfit ⊢
   rw [bc,dt] at hfit
   rw [RecU.at_size]; omega
  obtain ⟨P1,n1,k1,s1,w1,x1⟩:=p601 (b:=b) h hb (r:=p.1.at t) (v:=p.2) hbP.1 (hrt p hpm) htx.2 hh (by omega) hcl
  have hN1:H0.length≤P1.length:=b8 hF.len k1.len
  have fr1:=hx.mono (k1.above hN.1)
  obtain ⟨P2,x2,n2,fr2,a2,a3,a4,a5⟩:=fr1.add (b:=b) (by':=72) (fun _=>rfl) hN1 hbN (by omega) (by omega) (K.at_,p.1.at t,p.2)
  have s2:=s1.low hN a2
  have hF2:=(hF.trans k1).low a3 a2
  have hdn:hd < F.n:=by
   rcases h.hd with e | ⟨y,e,hy⟩
   ·omega
   ·omega
  have hin:=(h.fl.sec_len hdn).2
  obtain ⟨P',x',w',i0,i1,i2,i3,i4⟩:=l577b (lc:=lc) hR hN hb hbN hLn h00 hbl htx hrt j (i+1) (n2 (n1 w)) P2 _ _ _ x2 (by omega) (by rw [ap]; simp; omega) s2 hF2 fr2 hh ht hsz (fun m hm1 hm2=>by
   rw [laid_get (by omega) (.inr (by show hd*F.z+K.at_+(p.1.at t).size≤hd*F.z+m; simp only at hm1; omega))]
   exact hcl m (by simp only at hm1; omega) hm2)
  have e2:((i+1:Nat):Int)=(i:Int)+1:=by omega
  refine ⟨P',x',w',by have:=(w1 w).2; have:=(a4 (n1 w)).2; omega,?_,i2,?_,fun k=>?_⟩
  ·rw [hd1,bc]
   unfold sizes at i1 ⊢
   rw [bc,dt]
   simp only [RecU.at_size] at i1
   rw [jj] at i1
   exact i1
  ·rw [hd1]
   unfold founds
   rw [aw] at i3
   exact i3
  ·have ih:=i4 k
   rw [e2] at ih
   rw [b9,← ih]
   have g1:=h.s
   unfold StU.cells at g1
   rw [ht] at g1
   obtain ⟨⟨va,vc,hv,-,-⟩,-⟩:=hbP
   have hvc:RV.cells p=[.int .i64 p.1.kind,.int .u32 p.1.txn,.str p.1.key,p.2,.int .i64 p.1.count]:=rfl
   rw [hvc] at p2
   unfold FV.cells at a5
   unfold RecU.cells RecU.at at x1 a5
   simp only at x1 a5
   generalize ACode.loop code577L1=LL
   simp (disch:=omega) [code577L1,-aAppend,hPr,p1,p2,g1,x1,a5]
end
end
end Go.Abs.AbsBlb

namespace Go.Abs.AbsBlb
open Go.Abs.Short
def applyAll (hd:Nat) (A:List FV) (K:StU):StU:=A.foldl (fun K x=>K.apply hd x.1 x.2.1) K
theorem apply_eq (K:StU) (sec at_:Nat) (r:RecU):(K.apply sec at_ r).secs=K.secs∧(K.apply sec at_ r).head=K.head∧(K.apply sec at_ r).at_=K.at_∧(K.apply sec at_ r).txn=K.txn∧(K.apply sec at_ r).seq=K.seq∧(K.apply sec at_ r).down=K.down:=by
 unfold StU.apply
 split
 ·exact del_eq K _
 ·exact put_eq K _ _
section
variable {H H':List AObj} {b w t:Nat} {I:SI} {F F0:Fl} {K K0:StU}
section
attribute [-simp] getElem?_pos getElem?_neg List.all_eq_true
attribute [local simp] qZ qS nltT nltF iltT iltF ileT nleT dj
theorem l577a {H0:List AObj} {A:List FV} {la:Option (Nat × Nat)} {lc:Option Nat} (hR:Row H0 6 FV.cells A la) (hb:I.lo b) (hLn:A.length≤16) {hd:Nat}
  (h00:StA H0 I F0 K0) (hbl:∀ p ∈ A,BlobS I H0 p.2.2 p.2.1.blob):∀ (j i w:Nat) (P:List AObj) (K:StU),i+j=A.length→StA P I F K→StF I H0 P→K.head=hd →
  ∃ P' w',min w b≤w'∧StA P' I F (applyAll hd (A.drop i) K)∧StF I H0 P'∧w'≤w∧∀ {β:Type} (k:AExit→St→Option β),
  xK T (.loop code577L0) ⟨[(0,.val (.ptr (some (I.s,0)))),(59,.val (.slice la A.length lc)),(60,.val (.int .i64 A.length)),(61,.val (.int .i64 i))],⟨P,b,w⟩⟩ (k:=⟨k⟩) =
   k (.exit 2) ⟨[],⟨P',b,w'⟩⟩
 | 0,i,w,P,K,hi,h,hF,hh=>by
  have hd:A.drop i=[]:=dx (by omega)
  refine ⟨P,w,cr _ _,?_,hF,ai _,fun k=>?_⟩
  ·rw [hd]; exact h
  ·rw [b9]
   simp (disch:=omega) [code577L0]
 | j+1,i,w,P,K,hi,h,hF,hh=>by
  obtain ⟨p,hp⟩:∃ p,A[i]? = some p:=⟨_,aj (by omega)⟩
  obtain ⟨bb,o,cs,rfl,hrow,hpart⟩:=hR.at' (ne_of_get hp)
  obtain ⟨p1,p2⟩:=hpart i p hp
  have hpm:=bn hp
  have hd1:=ip hp
  have hPr:P[bb]? = some (.cells 6 cs):=by
   have hrow':H0[bb]? = some (.cells 6 cs):=hrow
   exact hF.keep _ _ hrow' (fun e=>by rw [e,h00.s] at hrow'; simp at hrow') (fun e=>by rw [e,h00.r] at hrow'; simp at hrow') (fun e=>by rw [e,h00.m] at hrow'; simp [StU.map] at hrow') (fun e=>by rw [e,h00.fl.b] at hrow'; simp at hrow') (fun e=>by rw [e,h00.fl.w] at hrow'; simp at hrow')
  have hbP:=(hbl p hpm).mono h00 hF
  obtain ⟨P1,n1,k1,l1,s1,w1,x1⟩:=p600 (b:=b) h hb (r:=p.2.1) (v:=p.2.2) hbP.1 hd p.1
  obtain ⟨P',w',i0,i1,i2,i3,i4⟩:=l577a (lc:=lc) hR hb hLn h00 hbl j (i+1) (n1 w) P1 _ (by omega) s1 (hF.trans k1) (by rw [(apply_eq K hd p.1 p.2.1).2.1]; exact hh)
  have e2:((i+1:Nat):Int)=(i:Int)+1:=by omega
  refine ⟨P',w',by have:=(w1 w).2; omega,?_,i2,b8 i3 (w1 w).1,fun k=>?_⟩
  ·rw [hd1]
   exact i1
  ·have ih:=i4 k
   rw [e2] at ih
   rw [b9,← ih]
   have g1:=h.s
   unfold StU.cells at g1
   rw [hh] at g1
   obtain ⟨⟨va,vc,hv,-,-⟩,-⟩:=hbP
   have hvc:FV.cells p=[.int .i64 p.1,.int .i64 p.2.1.kind,.int .u32 p.2.1.txn,.str p.2.1.key,p.2.2,.int .i64 p.2.1.count]:=rfl
   rw [hvc] at p2
   unfold RecU.cells at x1
   generalize ACode.loop code577L0=LL
   simp (disch:=omega) [code577L0,hPr,p1,p2,g1,x1]
end
theorem founds_mem {t:Nat}:∀ {L:List RV} {a:Nat} {x:FV},x ∈ founds t L a→∃ p ∈ L,x.2.1=p.1.at t∧x.2.2=p.2
 | [],a,x,h=>by cases h
 | p :: L,a,x,h=>by
  unfold founds at h
  rcases c9.1 h with rfl | h
  ·exact ⟨p,a7 ..,rfl,rfl⟩
  ·obtain ⟨q,hq,e⟩:=founds_mem h
   exact ⟨q,bd _ hq,e⟩
theorem founds_len {t:Nat}:∀ {L:List RV} {a:Nat},(founds t L a).length=L.length
 | [],a=>rfl
 | p :: L,a=>by unfold founds; rw [bv,bv,founds_len]
def comR (t n:Nat):RecU:=⟨3,t,[],[],n⟩
def wroteF (F:Fl) (hd a t:Nat) (l:List RecU):Fl:=(layAll (hd*F.z) t l F a).laid (hd*F.z+(a+sizes l)) (comR t l.length)
def wroteK (K:StU) (hd:Nat) (L:List RV):StU:=applyAll hd (founds (K.txn+1) L K.at_) { K with txn:=K.txn+1,at_:=K.at_+sizes (L.map Prod.fst)+16 }
theorem StF.rows {α:Type} {e:Nat} {f:α→List AVal} {L:List α} {a:Option (Nat × Nat)} (k:StF I H H') (h:StA H I F K) (he:e=5∨e=6) (hR:Row H e f L a):Row H' e f L a:=⟨fun hne=>by
 obtain ⟨bb,o,cs,rfl,hrow,hpart⟩:=hR.at' hne
 refine ⟨bb,o,cs,rfl,?_,hpart⟩
 have q:¬ e=11∧¬ e=3∧¬ e=1:=by omega
 exact k.keep _ _ hrow (fun i=>by rw [i,h.s] at hrow; simp at hrow; omega) (fun i=>by rw [i,h.r] at hrow; simp at hrow; omega) (fun i=>by rw [i,h.m] at hrow; simp [StU.map] at hrow) (fun i=>by rw [i,h.fl.b] at hrow; simp at hrow; omega) (fun i=>by rw [i,h.fl.w] at hrow; simp at hrow; omega)⟩
theorem layAll_eq (q t:Nat):∀ (l:List RecU) (F:Fl) (a:Nat),(layAll q t l F a).n=F.n∧(layAll q t l F a).z=F.z∧(layAll q t l F a).lim=F.lim∧(layAll q t l F a).w=F.w
 | [],F,a=>⟨rfl,rfl,rfl,rfl⟩
 | r :: l,F,a=>layAll_eq q t l (F.laid (q+a) (r.at t)) (a+r.size)
theorem layAll_get (q t:Nat) {j:Nat}:∀ (l:List RecU) (F:Fl) (a:Nat),q+a+sizes l≤F.b.length→(j < q+a∨q+a+sizes l≤j)→(layAll q t l F a).b[j]? = F.b[j]?∧(layAll q t l F a).b.length=F.b.length
 | [],F,a,_,_=>⟨rfl,rfl⟩
 | r :: l,F,a,h,hj=>by
  have e:sizes (r :: l)=r.size+sizes l:=by unfold sizes; rw [bc,dt]
  have hlr:=len_rec (r.at t)
  rw [RecU.at_size] at hlr
  have e1:(spliceB F.b (q+a) (recB (r.at t))).length=F.b.length:=fm (by omega)
  have e2:(F.laid (q+a) (r.at t)).b.length=F.b.length:=by
   show (spliceB (spliceB F.b (q+a) (recB (r.at t))) _ [0]).length=_
   rw [fm (by rw [e1]; show _+1≤_; omega),e1]
  obtain ⟨i1,i2⟩:=layAll_get q t (j:=j) l (F.laid (q+a) (r.at t)) (a+r.size) (by rw [e2]; omega) (by omega)
  exact ⟨i1.trans (laid_get (by rw [RecU.at_size]; omega) (by rw [RecU.at_size]; omega)),i2.trans e2⟩
theorem p577 (h:StA H I F K) (hb:I.lo b) (hbN:b≤H.length) {L:List RV} {la:Option (Nat × Nat)} {lc:Option Nat} (hR:Row H 5 RV.cells L la) (hne:L≠[]) (hLn:L.length≤16) (hbl:∀ p ∈ L,BlobS I H p.2 p.1.blob) {t:Nat} (et:t=K.txn+1) (htx:t < 4294967296) (hrt:∀ p ∈ L,(p.1.at t).right=true)
  {hd:Nat} (hh:K.head=hd) (hfit:K.at_+sizes (L.map Prod.fst)+16≤F.z) (hcl:∀ m,K.at_≤m→m < F.z→F.b[hd*F.z+m]? = some 255) :
  ∃ H',∃ nx:Nat→Nat,StF I H H'∧StA H' I (wroteF F hd K.at_ t (L.map Prod.fst)) (wroteK K hd L)∧(∀ w,nx w≤I.hi∧min w b≤nx w) ∧
   ∀ w,xCall T 577 [.ptr (some (I.s,0)),.slice la L.length lc] ⟨H,b,w⟩=some (.int .i64 0,⟨H',b,nx w⟩):=by
 have hhi:=h.hi
 have hfl:=ah h.fl.f
 have s1:=h.own (K':={ K with txn:=t }) rfl ⟨rfl,rfl⟩ h.hd h.ab h.sb htx
 have k1:StF I H (H.set I.s (.cells 11 (({ K with txn:=t }:StU).cells F I))):=.own
 have hlen1:(H.set I.s (.cells 11 (({ K with txn:=t }:StU).cells F I))).length=H.length:=av
 have hN:I.hi < (H.set I.s (.cells 11 (({ K with txn:=t }:StU).cells F I))).length∧I.fi.fl < (H.set I.s (.cells 11 (({ K with txn:=t }:StU).cells F I))).length:=by rw [hlen1]; exact ⟨hhi,hfl⟩
 have hR1:=k1.rows h (.inl rfl) hR
 have hbl1:=fun p hp=>(hbl p hp).mono h k1
 have hdn:hd < F.n:=by
  rcases h.hd with e | ⟨y,e,hy⟩
  ·omega
  ·omega
 have hin:=(h.fl.sec_len hdn).2
 have g1:=h.s
 generalize hH1:H.set I.s (.cells 11 (({ K with txn:=t }:StU).cells F I))=H1 at *
 obtain ⟨P,x,w1,i0,i1,i2,i3,i4⟩:=l577b (lc:=lc) hR1 hN hb (by rw [hlen1]; exact hbN) hLn s1 hbl1 ⟨by omega,htx⟩ hrt L.length 0 (min H.length I.s) H1 F _ [] (.slice none 0 (some 0)) (by omega) rfl s1 .refl (.inl ⟨rfl,rfl⟩) hh rfl (by rw [dz]; show K.at_+_≤_; omega) hcl
 simp only [dz,eh,a9] at i1 i3 i4
 obtain ⟨z1,z2,z3,z4⟩:=layAll_eq (hd*F.z) t (L.map Prod.fst) F K.at_
 have hcr:(comR t L.length).right=true:=by
  unfold comR RecU.right rightB
  have:¬ t=0:=by omega
  simp [this,hLn]
 obtain ⟨P2,n2,k2,s2,w2,x2⟩:=p601 (b:=b) i1 hb (r:=comR t L.length) (v:=.slice none 0 (some 0)) ⟨none,some 0,rfl,(fun p o h=>by cases h),.inl rfl⟩ hcr htx (hd:=hd) hh (by rw [z2]; exact hfit) (fun m hm1 hm2=>by
  rw [z2] at hm2 ⊢
  simp only at hm1
  rw [(layAll_get (hd*F.z) t _ F K.at_ (by omega) (.inr (by omega))).1]
  exact hcl m (by omega) hm2)
 have hlf:(founds t L K.at_).length=L.length:=founds_len
 have hfne:founds t L K.at_≠[]:=fun e=>by rw [e] at hlf; exact hne (bo hlf.symm)
 rcases i3 with ⟨e,-⟩ | ⟨-,q,q1,rfl,q3⟩
 ·exact absurd e hfne
 have hR2:Row P2 6 FV.cells (founds t L K.at_) (some (q,0)):=Row.mk0 (fun _=>rfl) (k2.above hN.1 _ _ q1 q3)
 have hF2:=i2.trans k2
 obtain ⟨P3,w3,j0,j1,j2,j3,j4⟩:=l577a (lc:=none) hR2 hb (by omega) s2 (fun y hy=>by
  obtain ⟨p,hp,e1,e2⟩:=founds_mem hy
  rw [e1,e2]
  exact (hbl1 p hp).mono s1 hF2) (founds t L K.at_).length 0 (n2 w1) P2 _ (by omega) s2 .refl hh
 simp only [dz,a9] at j1 j4
 have hw3:w3≤I.hi:=b8 j3 (w2 _).1
 have hb0:=hb.1
 have hw4:b≤w3:=by have:=(w2 w1).2; omega
 have hsz:(comR t L.length).size=16:=rfl
 refine ⟨P3,fun w=>min w w3,(k1.trans hF2).trans j2,?_,fun w=>by show min w w3≤_∧_≤min w w3; omega,fun w=>?_⟩
 ·rw [hsz,z2] at j1
  unfold wroteF wroteK
  rw [bj,← et]
  exact j1
 ·have g2:=i1.s
  simp only [StU.cells] at g1 g2 hH1
  unfold comR RecU.cells at x2
  simp only [dw,a9] at x2
  have hwt:IntKind.u32.wrap ((K.txn:Int)+1)=(t:Int):=by rw [et]; rw [wrap32 (by omega)]; omega
  rw [hlf] at j4
  have hb1:=hb.1
  simp (disch:=omega) [-getElem?_pos,-getElem?_neg,-List.all_eq_true,qZ,qS,nltT,nltF,iltT,iltF,ileT,nleT,dj,ba t577,code577,g1,g2,hH1,i4,x2,hwt,j4,hlf]
end
end Go.Abs.AbsBlb

namespace Go.Abs.AbsBlb
open Go.Abs.Short
def rdId (s:Slots) (x:Opd):List Nat:=match x.ev s with
 | some v=>v.ids
 | none=>[]
theorem jr (o:AOp) (s:Slots):rdIds o s=(heapOpds o).flatMap (rdId s):=rfl
theorem js (s:Slots) (t:Nat):rdId s (.tmp t)=match (Opd.tmp t).ev s with
 | some v=>v.ids
 | none=>[]:=rfl
theorem im (s:Slots) (v:AVal):rdId s (.const v)=v.ids:=rfl
structure TapA (H:List AObj) (tp:Nat) (v:AVal) (B:Bs) (at_:Nat):Prop where
 r:H[tp]? = some (.cells 2 [v,.int .i64 at_])
 v:BlobV H v B
 l:B.length≤1000000
 a:at_≤B.length
def nextN (B:Bs) (at_ n:Nat):Nat:=if 2≤n∧at_ < B.length then ((B[at_]?).getD 0).toNat % n else 0
def nextA (B:Bs) (at_ n:Nat):Nat:=if 2≤n∧at_ < B.length then at_+1 else at_
section
variable {H H':List AObj} {b w tp at_:Nat} {B:Bs}
theorem BlobV.low {v:AVal} {l:Bs} {N:Nat} (h:BlobV H v l) (hl:H.length≤H'.length) (hN:∀ p o n c,v = .slice (some (p,o)) n c→p < N) (hk:∀ (k:Nat) (o:AObj),k < N→H[k]? = some o→H'[k]? = some o):BlobV H' v l :=
 h.mono hl fun p o n c e x hx=>hk _ _ (hN p o n c e) hx
theorem TapA.low {v:AVal} {N:Nat} (h:TapA H tp v B at_) (hl:H.length≤H'.length) (hN:tp < N∧∀ p o n c,v = .slice (some (p,o)) n c→p < N) (hk:∀ (k:Nat) (o:AObj),k < N→H[k]? = some o→H'[k]? = some o):TapA H' tp v B at_ :=
 ⟨hk _ _ hN.1 h.r,h.v.low hl hN.2 hk,h.l,h.a⟩
section
attribute [-simp] getElem?_pos getElem?_neg List.all_eq_true
attribute [local simp] qZ qS nltT nltF iltT iltF ileT nleT dj
theorem p100102 {v:AVal} (h:TapA H tp v B at_) (hb:b≤tp) (n:Nat) (hn:n≤1000000) :
  ∃ H',∃ nx:Nat→Nat,TapA H' tp v B (nextA B at_ n)∧(∀ (k:Nat) (o:AObj),H[k]? = some o→k≠tp→H'[k]? = some o)∧H'.length=H.length∧((H'=H∧nx=fun w=>w)∨nx=fun w=>min w tp) ∧
   ∀ w,xCall T 100102 [.ptr (some (tp,0)),.int .i64 n] ⟨H,b,w⟩=some (.int .i64 (nextN B at_ n:Nat),⟨H',b,nx w⟩):=by
 obtain ⟨h1,hv,h4,h5⟩:=id h
 obtain ⟨a,c,rfl,h2,h3⟩:=id hv
 have htl:=ah h1
 unfold nextA nextN
 by_cases c1:2≤n
 ·by_cases c2:at_ < B.length
  ·rw [if_pos ⟨c1,c2⟩,if_pos ⟨c1,c2⟩]
   rcases h3 with rfl | ⟨p,o,rfl,h6,h7⟩
   ·simp at c2
   ·obtain ⟨x,hx⟩:∃ x,B[at_]? = some x:=⟨_,aj c2⟩
    obtain ⟨X,hp,g1⟩:=h6.get hx
    have hxl:=ah g1
    have hne:tp≠p:=fun e=>by rw [e,hp] at h1; simp at h1
    have hx256:x.toNat < 256:=x.toNat_lt
    have hmod:(x.toNat:Int).tmod n=((x.toNat % n:Nat):Int):=by rw [Int.tmod_eq_emod_of_nonneg (by omega)]; rfl
    refine ⟨H.set tp (.cells 2 [.slice (some (p,o)) B.length c,.int .i64 ((at_+1:Nat):Int)]),fun w=>min w tp,⟨ij h1,⟨some (p,o),c,rfl,fun p' o' e=>by rw [av]; exact h2 p' o' e,.inr ⟨p,o,rfl,h6.mono fun y hy=>by rw [aq hne]; exact hy,h7⟩⟩,h4,by omega⟩,fun k y hk hne=>by rw [aq (fun e=>hne e.symm)]; exact hk,av,Or.inr rfl,fun w=>?_⟩
    rw [hx,df]
    have e2:((at_+1:Nat):Int)=(at_:Int)+1:=by omega
    have hpl:p < H.length:=ah hp
    rw [e2]
    have hn0:¬ (n:Int)=0:=by omega
    have hg2:(H.set tp (.cells 2 [.slice (some (p,o)) B.length c,.int .i64 ((at_:Int)+1)]))[p]? = some (.cells 1 X):=by rw [aq hne]; exact hp
    have hg3:(H.set tp (.cells 2 [.slice (some (p,o)) B.length c,.int .i64 ((at_:Int)+1)]))[tp]? = some (.cells 2 [.slice (some (p,o)) B.length c,.int .i64 ((at_:Int)+1)]):=ij h1
    have c3:¬ B.length≤at_:=by omega
    simp (disch:=omega) [ba t100102,code100102,h1,hg2,hg3,g1,hxl,hmod,hn0,c3,show ¬ n=0 from by omega]
  ·rw [if_neg (fun h=>c2 h.2),if_neg (fun h=>c2 h.2)]
   refine ⟨H,fun w=>w,h,fun _ _ h _=>h,rfl,Or.inl ⟨rfl,rfl⟩,fun w=>?_⟩
   simp (disch:=omega) [ba t100102,code100102,h1]
 ·rw [if_neg (fun h=>c1 h.1),if_neg (fun h=>c1 h.1)]
  refine ⟨H,fun w=>w,h,fun _ _ h _=>h,rfl,Or.inl ⟨rfl,rfl⟩,fun w=>?_⟩
  simp (disch:=omega) [ba t100102,code100102,h1]
theorem l566a {v:AVal} {N q n:Nat} {c:Option Nat} {k0:Bool} {key:Bs} {y3 y4:AVal} (hN:tp < N∧∀ p o n c,v = .slice (some (p,o)) n c→p < N) (hq:N≤q) (hb:b≤tp∧b≤N) (hn:n≤100):∀ (j i w at_:Nat) (P:List AObj) (X:Bs),i+j=n→TapA P tp v B at_→P[q]? = some (.cells 1 (X.map u8V))→X.length=n →
  ∃ (P':List AObj) (X':Bs) (at' w':Nat),TapA P' tp v B at'∧at_≤at'∧P'[q]? = some (.cells 1 (X'.map u8V))∧X'.length=n∧(∀ (k:Nat) (o:AObj),P[k]? = some o→k≠tp→k≠q→P'[k]? = some o)∧P'.length=P.length∧(w'≤w∧min w b≤w')∧∀ {β:Type} (k:AExit→St→Option β),
  xK T (.loop code566L0) ⟨[(0,.val (.ptr (some (tp,0)))),(3,.val y3),(4,.val y4),(5,.var [.bool k0,.str key,.slice (some (q,0)) n c]),(33,.val (.int .i64 n)),(34,.val (.int .i64 i))],⟨P,b,w⟩⟩ (k:=⟨k⟩) =
   k (.exit 2) ⟨[(0,.val (.ptr (some (tp,0)))),(3,.val y3),(4,.val y4),(5,.var [.bool k0,.str key,.slice (some (q,0)) n c])],⟨P',b,w'⟩⟩
 | 0,i,w,at_,P,X,hi,h,hX,hl=>by
  refine ⟨P,X,at_,w,h,ai _,hX,hl,fun _ _ h _ _=>h,rfl,⟨ai _,cr _ _⟩,fun k=>?_⟩
  rw [b9]
  simp (disch:=omega) [code566L0]
 | j+1,i,w,at_,P,X,hi,h,hX,hl=>by
  obtain ⟨P1,n1,a1,a2,a3,a4,a5⟩:=p100102 (b:=b) h hb.1 256 (by decide)
  have hX1:=a2 _ _ hX (by omega)
  have hql:=ah hX1
  have hwm:IntKind.u8.wrap (nextN B at_ 256:Int)=((UInt8.ofNat (nextN B at_ 256)).toNat:Int):=wrap_ofNat _
  obtain ⟨P',X',at',w',i1,i2,i3,i4,i5,i6,i7,i8⟩:=l566a (c:=c) (k0:=k0) (key:=key) (y3:=y3) (y4:=y4) hN hq hb hn j (i+1) (min (n1 w) q) (nextA B at_ 256) (P1.set q (.cells 1 ((X.set i (UInt8.ofNat (nextN B at_ 256))).map u8V))) (X.set i (UInt8.ofNat (nextN B at_ 256))) (by omega)
   (a1.low (by rw [av]; exact ai _) hN fun k o hk ho=>by rw [aq (by omega)]; exact ho) (ij hX1) (by rw [av]; exact hl)
  have hn1:n1 w≤w∧min w b≤n1 w:=by
   rcases a4 with ⟨-,rfl⟩ | rfl
   ·exact ⟨ai _,cr _ _⟩
   ·show min w tp≤w∧_≤min w tp; omega
  refine ⟨P',X',at',w',i1,b8 (by unfold nextA; split <;> omega) i2,i3,i4,fun k o ho h1 h2=>i5 k o (by rw [aq (fun e=>h2 e.symm)]; exact a2 k o ho h1) h1 h2,by rw [i6,av,a3],⟨b8 i7.1 (by omega),by omega⟩,fun k=>?_⟩
  have ih:=i8 k
  have e2:((i+1:Nat):Int)=(i:Int)+1:=by omega
  rw [e2] at ih
  rw [b9,← ih]
  have hms:(X.map u8V).set i (.int .u8 (UInt8.ofNat (nextN B at_ 256)).toNat)=(X.set i (UInt8.ofNat (nextN B at_ 256))).map u8V:=by rw [List.map_set]; rfl
  rw [← jv _ (by rw [bj]; omega)] at hms
  have hXl:(X.map u8V).length=n:=by rw [bj]; exact hl
  generalize (X.set i (UInt8.ofNat (nextN B at_ 256))).map u8V=Y' at *
  generalize X.map u8V=Y at *
  generalize (UInt8.ofNat (nextN B at_ 256))=ub at *
  simp only [a9] at a5
  generalize ACode.loop code566L0=LL
  rcases a4 with ⟨rfl,rfl⟩ | rfl
  ·simp (disch:=omega) [code566L0,-rdIds,jr,js,im,a5,hwm,hX1,hms,hXl]
  ·have htl:tp < P.length:=ah h.r
   simp (disch:=omega) [code566L0,-rdIds,jr,js,im,a5,hwm,hX1,hms,hXl,a3]
end
end
end Go.Abs.AbsBlb

namespace Go.Abs.AbsBlb
open Go.Abs.Short
theorem FRow.add' {α:Type} {N e b:Nat} {f:α→List AVal} {A:List α} {P:List AObj} {x:AVal} (h:FRow N e f A P x) (hf:∀ y,(f y).length=e) (hN:N≤P.length) (hb:b≤N) {by':Nat} (hl:(A.length+1)*by'≤140737488355328) (hl2:A.length≤1000000000) (y:α) :
  ∃ P' x',∃ nx:Nat→Nat,FRow N e f (A++[y]) P' x'∧(∀ (k:Nat) (o:AObj),P[k]? = some o→(N≤k→∀ cs,o ≠ .cells e cs)→P'[k]? = some o)∧P.length≤P'.length∧(∀ w,nx w≤w∧min w N≤nx w) ∧
   ∀ w,aAppend e by' ⟨P++[.cells e (f y)],b,w⟩ x (.slice (some (P.length,0)) 1 (some 1))=some (x',⟨P',b,nx w⟩):=by
 have hlen:(P.take N).length=N:=by rw [dg]; omega
 have hpre:Pre (P.take N) P:=fun i o ho=>by
  have:=ah ho
  rw [dp,if_pos (by omega)] at ho
  exact ho
 have hA:Acc e f (P.take N) A P x:=⟨hpre,by
  rcases h with h | ⟨h0,q,h1,h2,h3⟩
  ·exact .inl h
  ·exact .inr ⟨h0,q,by omega,h2,h3⟩⟩
 obtain ⟨P',x',nx,a1,a2,⟨a3,a4,a5⟩,a6⟩:=acc_addM (b:=b) hA hf (by omega) hl hl2 y
 refine ⟨P',x',nx,?_,?_,?_,fun w=>⟨(a3 w).1,?_⟩,a6⟩
 ·rcases a1.val with ⟨h1,-⟩ | ⟨h1,q,h2,h3,h4⟩
  ·simp at h1
  ·exact .inr ⟨h1,q,by omega,h3,h4⟩
 ·intro k o ho hk
  refine a4 k o ho fun e=>?_
  rcases h with ⟨-,h2⟩ | ⟨h0,q,h1,h2,h3⟩
  ·rw [h2] at e; cases e
  ·rw [h2] at e
   simp only [AVal.slice.injEq,dk,ji,and_true] at e
   obtain rfl:=e
   rw [h3] at ho
   exact hk h1 _ (bz ho).symm
 ·have h1:=ah (show P'[P.length+1]? = some (.cells e ((A++[y]).flatMap f)) from by
   rcases a1.val with ⟨h1,-⟩ | ⟨h1,q,h2,h3,h4⟩
   ·simp at h1
   ·rw [a5] at h3
    simp only [AVal.slice.injEq,dk,ji] at h3
    rw [h3.1.1]; exact h4)
  omega
 ·have:=a2 w
  omega
structure ChU where
 del:Bool
 key:Bs
 blob:Bs
 v:AVal
def ChU.cells (c:ChU):List AVal:=[.bool c.del,.str c.key,c.v]
def keyL:List Bs:=[[97],[98],[99],[100,47,49],[100,47,50],[97]]
def lenL:List Nat:=[0,3,9,30]
def ChU.ok (N:Nat) (P:List AObj) (c:ChU):Prop:=BlobV P c.v c.blob∧(∀ p o n k,c.v = .slice (some (p,o)) n k→N≤p∧∃ X,P[p]? = some (.cells 1 X))∧c.key ∈ keyL∧c.blob.length≤30∧∃ p o n k,c.v = .slice (some (p,o)) n k
section
variable {H H':List AObj} {b w tp at_:Nat} {B:Bs}
theorem ChU.ok.mono {N:Nat} {P P':List AObj} {c:ChU} (h:c.ok N P) (hl:P.length≤P'.length) (hk:∀ (k:Nat) (X:List AVal),N≤k→P[k]? = some (.cells 1 X)→P'[k]? = some (.cells 1 X)):c.ok N P':=by
 obtain ⟨h1,h2,h3,h4⟩:=h
 refine ⟨h1.mono hl fun p o n k e x hx=>?_,fun p o n k e=>?_,h3,h4⟩
 ·obtain ⟨h5,X,h6⟩:=h2 p o n k e
  rw [h6] at hx
  cases hx
  exact hk _ _ h5 h6
 ·obtain ⟨h5,X,h6⟩:=h2 p o n k e
  exact ⟨h5,X,hk _ _ h5 h6⟩
theorem next_lt {n:Nat} (hn:0 < n):nextN B at_ n < n:=by
 unfold nextN
 split
 ·exact Nat.mod_lt _ hn
 ·exact hn
section
attribute [-simp] getElem?_pos getElem?_neg List.all_eq_true
attribute [local simp] qZ qS nltT nltF iltT iltF ileT nleT dj
theorem l566b {v:AVal} {N:Nat} {H0:List AObj} (hN:tp < N∧∀ p o n c,v = .slice (some (p,o)) n c→p < N) (hb:b≤tp∧b≤N) (h0:N=H0.length):∀ (j w at_:Nat) (P:List AObj) (A:List ChU) (x:AVal),A.length+j≤4→TapA P tp v B at_→FRow N 3 ChU.cells A P x→N≤P.length→(∀ (k:Nat) (o:AObj),H0[k]? = some o→k≠tp→P[k]? = some o)→(∀ c ∈ A,c.ok N P) →
  ∃ (P':List AObj) (A':List ChU) (x':AVal) (at' w':Nat),TapA P' tp v B at'∧at_≤at'∧FRow N 3 ChU.cells (A++A') P' x'∧A'.length=j∧N≤P'.length∧(∀ (k:Nat) (o:AObj),H0[k]? = some o→k≠tp→P'[k]? = some o)∧(∀ c ∈ A++A',c.ok N P')∧(w'≤w∧min w b≤w')∧∀ {β:Type} (k:AExit→St→Option β),
  xK T (.loop code566L1) ⟨[(0,.val (.ptr (some (tp,0)))),(3,.val x),(4,.val (.int .i64 j))],⟨P,b,w⟩⟩ (k:=⟨k⟩) =
   k (.exit 0) ⟨[(3,.val x')],⟨P',b,w'⟩⟩
 | 0,w,at_,P,A,x,hj,h,hx,hP,hF,hA=>by
  refine ⟨P,[],x,at_,w,h,ai _,by rw [fg]; exact hx,rfl,hP,hF,by rw [fg]; exact hA,⟨ai _,cr _ _⟩,fun k=>?_⟩
  rw [b9]
  simp (disch:=omega) [code566L1]
 | j+1,w,at_,P,A,x,hj,h,hx,hP,hF,hA=>by
  obtain ⟨P1,n1,a1,a2,a3,a4,a5⟩:=p100102 (b:=b) h hb.1 5 (by decide)
  have t1:=a1.low (H':=P1++[.cells 1 (keyL.map AVal.str)]) (by rw [ap]; omega) hN fun k o hk ho=>by rw [ag (ah ho)]; exact ho
  obtain ⟨P2,n2,c1,c2,c3,c4,c5⟩:=p100102 (b:=b) t1 hb.1 6 (by decide)
  have hk2:=c2 _ _ (fp P1 [.cells 1 (keyL.map AVal.str)]) (by omega)
  have t2:=c1.low (H':=P2++[.cells 1 (lenL.map natV)]) (by rw [ap]; omega) hN fun k o hk ho=>by rw [ag (ah ho)]; exact ho
  obtain ⟨P3,n3,d1,d2,d3,d4,d5⟩:=p100102 (b:=b) t2 hb.1 4 (by decide)
  have hk3:=d2 _ _ (fp P2 [.cells 1 (lenL.map natV)]) (by rw [ap] at c3; omega)
  obtain ⟨key,hkey⟩:∃ key,keyL[nextN B (nextA B at_ 5) 6]? = some key:=⟨_,aj (next_lt (n:=6) (by decide))⟩
  obtain ⟨n,hn⟩:∃ n,lenL[nextN B (nextA B (nextA B at_ 5) 6) 4]? = some n:=⟨_,aj (next_lt (n:=4) (by decide))⟩
  have hn30:n≤30:=by
   have:=bn hn
   simp [lenL] at this
   omega
  have hkm:=bn hkey
  rw [ap] at c3 d3
  have l1:P1.length=P.length:=a3
  have l2:P2.length=P.length+1:=by rw [c3,l1]; rfl
  have l3:P3.length=P.length+2:=by rw [d3,l2]; rfl
  have t3:=d1.low (H':=P3++[.cells 1 ((List.replicate n (0:UInt8)).map u8V)]) (by rw [ap]; omega) hN fun k o hk ho=>by rw [ag (ah ho)]; exact ho
  obtain ⟨P4,X4,at4,w4,e1,e2,e3,e4,e5,e6,e7,e8⟩:=l566a (b:=b) (c:=some n) (k0:=decide (nextN B at_ 5=4)) (key:=key) (y3:=x) (y4:=.int .i64 (j+1:Nat)) hN (q:=P3.length) (by omega) hb (by omega) n 0 (n3 (n2 (n1 w))) _ _ (List.replicate n 0) (by omega) t3 (fp _ _) bg
  have up:∀ (k:Nat) (o:AObj),k≠tp→P[k]? = some o→P4[k]? = some o:=fun k o hk ho=>by
   have hkl:=ah ho
   have q1:=a2 k o ho hk
   have q2:=c2 k o (by rw [ag (ah q1)]; exact q1) hk
   have q3:=d2 k o (by rw [ag (ah q2)]; exact q2) hk
   exact e5 k o (by rw [ag (ah q3)]; exact q3) hk (by omega)
  have fr4:=hx.mono fun k o hk ho=>up k o (by omega) ho
  rw [ap] at e6
  have l4:P4.length=P.length+3:=by rw [e6,l3]; rfl
  obtain ⟨P5,x5,n5,f1,f2,f3,f4,f5⟩:=fr4.add' (b:=b) (by':=48) (fun _=>rfl) (by omega) hb.2 (by omega) (by omega) ⟨decide (nextN B at_ 5=4),key,X4,.slice (some (P3.length,0)) n (some n)⟩
  have t5:=e1.low f3 hN fun k o hk ho=>f2 k o ho fun h=>by omega
  have hnew:(⟨decide (nextN B at_ 5=4),key,X4,.slice (some (P3.length,0)) n (some n)⟩:ChU).ok N P5:=by
   have hq:=f2 _ _ e3 fun _ cs e=>by simp at e
   refine ⟨⟨some (P3.length,0),some n,by rw [e4],fun p o e=>?_,?_⟩,fun p o n' k e=>?_,hkm,by rw [e4]; exact hn30,_,_,_,_,rfl⟩
   ·simp only [dk,ji] at e
    rw [← e.1]; exact ah hq
   ·refine .inr ⟨P3.length,0,rfl,SlB.whole hq rfl,?_⟩
    rw [e4]; exact ai _
   ·simp only [AVal.slice.injEq,dk,ji] at e
    rw [← e.1.1]
    exact ⟨by omega,_,hq⟩
  obtain ⟨P',A',x',at',w',i1,i2,i3,i4,i5,i6,i7,i8,i9⟩:=l566b hN hb h0 j (n5 w4) at4 P5 _ x5 (by rw [ap]; simp; omega) t5 f1 (by omega) (fun k o ho hk=>f2 k o (up k o hk (hF k o ho hk)) fun h=>by have:=ah ho; omega) (fun c hc=>by
   rcases br.1 hc with hc | hc
   ·exact (hA c hc).mono (by omega) fun k X hk ho=>f2 _ _ (up _ _ (by omega) ho) fun _ cs e=>by simp at e
   ·rw [bi.1 hc]; exact hnew)
  refine ⟨P',_ :: A',x',at',w',i1,b8 ?_ i2,by rw [aw] at i3; exact i3,by rw [bv,i4],i5,i6,fun c hc=>i7 c (by rw [aw]; exact hc),?_,fun k=>?_⟩
  ·refine b8 ?_ e2
   unfold nextA
   repeat' split
   all_goals omega
  ·have g1:n1 w≤w∧min w b≤n1 w:=by
    rcases a4 with ⟨-,rfl⟩ | rfl
    ·exact ⟨ai _,cr _ _⟩
    ·show min w tp≤w∧_≤min w tp; omega
   have g2:n2 (n1 w)≤n1 w∧min (n1 w) b≤n2 (n1 w):=by
    rcases c4 with ⟨-,rfl⟩ | rfl
    ·exact ⟨ai _,cr _ _⟩
    ·show min (n1 w) tp≤n1 w∧_≤min (n1 w) tp; omega
   have g3:n3 (n2 (n1 w))≤n2 (n1 w)∧min (n2 (n1 w)) b≤n3 (n2 (n1 w)):=by
    rcases d4 with ⟨-,rfl⟩ | rfl
    ·exact ⟨ai _,cr _ _⟩
    ·show min (n2 (n1 w)) tp≤n2 (n1 w)∧_≤min (n2 (n1 w)) tp; omega
   have g4:=f4 w4
   omega
  ·have ih:=i9 k
   rw [b9,← ih]
   generalize ACode.loop code566L1=LL
   simp only [a9] at a5 c5 d5 e8
   have ek:keyL.map AVal.str=[.str [97],.str [98],.str [99],.str [100,47,49],.str [100,47,50],.str [97]]:=rfl
   have el:lenL.map natV=[.int .i64 0,.int .i64 3,.int .i64 9,.int .i64 30]:=rfl
   have gk:(keyL.map AVal.str)[nextN B (nextA B at_ 5) 6]? = some (.str key):=by rw [bk,hkey]; rfl
   have gl:(lenL.map natV)[nextN B (nextA B (nextA B at_ 5) 6) 4]? = some (.int .i64 n):=by rw [bk,hn]; rfl
   have y6:=next_lt (B:=B) (at_:=nextA B at_ 5) (n:=6) (by decide)
   have y4:=next_lt (B:=B) (at_:=nextA B (nextA B at_ 5) 6) (n:=4) (by decide)
   have em:(List.replicate n (0:UInt8)).map u8V=List.replicate n (.int .u8 0):=by
    rw [List.map_replicate]; rfl
   have e41:((nextN B at_ 5:Nat):Int)=4 ↔ nextN B at_ 5=4:=by omega
   rw [ek] at c5 hk2 gk
   rw [el] at d5 hk3 gl
   rw [em] at e8
   unfold ChU.cells at f5
   have ej:((j+1:Nat):Int)=(j:Int)+1:=by omega
   rw [ej] at e8 ⊢
   generalize nextN B at_ 5=v5 at *
   generalize nextN B (nextA B at_ 5) 6=v6 at *
   generalize nextN B (nextA B (nextA B at_ 5) 6) 4=v4 at *
   simp (disch:=omega) [code566L1,-aAppend,a5,c5,d5,hk2,hk3,gk,gl,y6,y4,e8,f5,e41]
theorem p566 {v:AVal} (h:TapA H tp v B at_) (hat:at_ < B.length) (hv:∀ p o n c,v = .slice (some (p,o)) n c→p < H.length) (hb:b≤tp) :
  ∃ (P':List AObj) (A:List ChU) (x':AVal) (at':Nat) (nx:Nat→Nat),TapA P' tp v B at'∧at_ < at'∧FRow H.length 3 ChU.cells A P' x'∧1≤A.length∧A.length≤2∧H.length≤P'.length∧(∀ (k:Nat) (o:AObj),H[k]? = some o→k≠tp→P'[k]? = some o)∧(∀ c ∈ A,c.ok H.length P')∧(∀ w,nx w≤tp∧min w b≤nx w) ∧
   ∀ w,xCall T 566 [.ptr (some (tp,0))] ⟨H,b,w⟩=some (x',⟨P',b,nx w⟩):=by
 have htl:=ah h.r
 obtain ⟨P1,n1,a1,a2,a3,a4,a5⟩:=p100102 (b:=b) h hb 4 (by decide)
 have hna:nextA B at_ 4=at_+1:=by unfold nextA; rw [if_pos ⟨by decide,hat⟩]
 have hn1:n1 H.length≤tp∧b≤n1 H.length:=by
  rcases a4 with ⟨rfl,rfl⟩ | rfl
  ·exfalso
   have e1:=a1.r
   rw [h.r,hna] at e1
   simp at e1
   omega
  ·show min H.length tp≤tp∧b≤min H.length tp; omega
 have hlt:=next_lt (B:=B) (at_:=at_) (n:=4) (by decide)
 obtain ⟨P',A,x',at',w',i1,i2,i3,i4,i5,i6,i7,i8,i9⟩:=l566b (b:=b) (v:=v) (N:=H.length) ⟨htl,hv⟩ ⟨hb,by omega⟩ rfl (1+nextN B at_ 4 / 2) (n1 H.length) (nextA B at_ 4) P1 [] (.slice none 0 (some 0)) (by simp; omega) a1 (.inl ⟨rfl,rfl⟩) (by omega) (fun k o ho hk=>a2 k o ho hk) (fun c hc=>by cases hc)
 rw [eh] at i3 i7
 have hq:((nextN B at_ 4:Nat):Int).tdiv 2=((nextN B at_ 4 / 2:Nat):Int):=by
  rw [Int.tdiv_eq_ediv_of_nonneg (by omega)]; omega
 have e1:((1+nextN B at_ 4 / 2:Nat):Int)=1+((nextN B at_ 4 / 2:Nat):Int):=by omega
 rw [e1] at i9
 refine ⟨P',A,x',at',fun w=>min w w',i1,by omega,i3,by omega,by omega,i5,i6,i7,fun w=>by show min w w'≤tp∧min w b≤min w w'; omega,fun w=>?_⟩
 have hwl:w' < H.length:=by omega
 have hb2:nextN B at_ 4 / 2≤2:=by omega
 simp only [a9] at a5
 generalize nextN B at_ 4 / 2=m at *
 generalize nextN B at_ 4=v5 at *
 simp (disch:=omega) [ba t566,code566,a5,hq,i9]
end
end
end Go.Abs.AbsBlb

namespace Go.Abs.AbsBlb
open Go.Abs.Short
theorem idsL_sec (L:List Sec):AVal.idsL (L.flatMap Sec.cells)=[]:=idsL_none fun x hx=>by
 obtain ⟨s,-,hs⟩:=da.1 hx
 simp [Sec.cells] at hs
 rcases hs with rfl | rfl | rfl <;> rfl
theorem renL_sec (L:List Sec) (g:Nat→Nat):AVal.renL g (L.flatMap Sec.cells)=L.flatMap Sec.cells:=renL_none fun x hx=>by
 obtain ⟨s,-,hs⟩:=da.1 hx
 simp [Sec.cells] at hs
 rcases hs with rfl | rfl | rfl <;> rfl
section
variable {H:List AObj} {b w:Nat} {I:SI} {F:Fl} {K:StU}
section
attribute [-simp] getElem?_pos getElem?_neg List.all_eq_true
attribute [local simp] qZ qS nltT nltF iltT iltF ileT nleT dj
theorem s584 {p:Nat} {c:Option Nat} {L:List Sec} (hp:H[p]? = some (.cells 3 (L.flatMap Sec.cells))) (hn:0 < L.length) (hb:L.length≤1000) :
  xCall T 584 [.slice (some (p,0)) L.length c] ⟨H,b,w⟩=some (.slice (some (H.length,0)) L.length none,⟨H++[.cells 3 (L.flatMap Sec.cells)],b,w⟩):=by
 have hpl:=ah hp
 have hrow:∀ Y w,rowOf 3 ⟨H++Y,b,w⟩ (.slice (some (p,0)) L.length c)=some (L.flatMap Sec.cells):=fun Y w =>
  rowOfC (by show (H++Y)[p]? = _; rw [ag hpl]; exact hp) (sec_len L)
 have hz:∀ Y w,rowOf 3 ⟨H++Y,b,w⟩ (.slice (some (H.length,0)) 0 (some 0))=some []:=fun Y w=>rowOf0
 have e1:∀ w,aAppend 3 24 ⟨H++[.cells 3 []],b,w⟩ (.slice (some (H.length,0)) 0 (some 0)) (.slice (some (p,0)) L.length c)=some (.slice (some (H.length+1,0)) L.length none,⟨H++[.cells 3 [],.cells 3 (L.flatMap Sec.cells)],b,w⟩):=fun w=>by
  unfold aAppend
  simp only [hz,hrow,aApp,alen]
  have q0:¬ L.length=0:=by omega
  have q2:(0+L.length)*24≤140737488355328∧0+L.length≤9223372036854775807:=⟨by omega,by omega⟩
  simp only [eq_false q0,eq_true q2,if_false,if_true]
  simp [Heap.push,Heap.size]
 have hf:=fun w0=>jw (O:=H) (P:=H++[.cells 3 [],.cells 3 (L.flatMap Sec.cells)]) (b:=b) (w:=w0) (W:=H.length) (q:=H.length+1) (n:=L.length) (c:=none) (iw H _ 1) (idsL_sec L) (fun g=>renL_sec L g) (by omega) (ai _)
 generalize L.flatMap Sec.cells=Y at *
 simp (disch:=omega) [ba t584,code584,-aAppend,-finish,e1,hf]
theorem s560 (h:StA H I F K) (hd:K.down=false) (hn:0 < F.n):xCall T 560 [.ptr (some (I.s,0))] ⟨H,b,w⟩=some (.slice (some (H.length,0)) K.secs.length none,⟨H++[.cells 3 (K.secs.flatMap Sec.cells)],b,w⟩):=by
 have h561:=fun w=>s561 (b:=b) (w:=w) h
 rw [hd] at h561
 have hln:=h.ln
 have hnb:=h.fl.nb.1
 have h584:=fun c w=>s584 (b:=b) (w:=w) (c:=c) h.r (by omega) (by omega)
 have g1:=h.s
 unfold StU.cells at g1
 have hf:=fun w0=>jw (O:=H) (P:=H++[.cells 3 (K.secs.flatMap Sec.cells)]) (b:=b) (w:=w0) (W:=H.length) (q:=H.length) (n:=K.secs.length) (c:=none) (fp H _) (idsL_sec K.secs) (fun g=>renL_sec K.secs g) (ai _) (ai _)
 generalize K.secs.flatMap Sec.cells=Y at *
 simp (disch:=omega) [ba t560,code560,-finish,h561,h584,g1,hf]
theorem s563 (h:StA H I F K) (hn:F.n=4) (hz:F.z=128):xCall T 563 [.ptr (some (I.s,0))] ⟨H,b,w⟩=some (.int .i64 58,⟨H,b,w⟩):=by
 have g1:=h.s
 unfold StU.cells at g1
 rw [hn,hz] at g1
 simp (disch:=omega) [ba t563,code563,g1]
end
theorem ext_look (h:StA H I F K) {k:Bs} {z:AVal}:evExt (.lookup (.one .s) z true) [.map (some I.m),.str k] ⟨H,b,w⟩=some (match findK k K.ix with
  | some x=>.tuple [x.2.val,.bool true]
  | none=>.tuple [z,.bool false],⟨H,b,w⟩):=by
 have g2:H[I.m]? = some (.map (K.ix.map entV) K.clock):=h.m
 have hf:=findK_eq k K.ix
 have hi:isKey (.one .s) (.str k)=true:=rfl
 unfold evExt
 simp only [hi,if_true,entriesOf,Heap.get,g2,hf]
 cases findK k K.ix <;> rfl
section
attribute [-simp] getElem?_pos getElem?_neg List.all_eq_true
attribute [local simp] qZ qS nltT nltF iltT iltF ileT nleT dj
theorem s482 (h:StA H I F K) {k:Bs} {x:Nat × PlU} (hk:findK k K.ix=some x) (hl:x.2.blob.length≤1000000):xCall T 482 [.ptr (some (I.s,0)),.str k] ⟨H,b,w⟩=some (.tuple [.slice (some (H.length,0)) x.2.blob.length none,.bool true],⟨H++[.cells 1 (x.2.blob.map u8V)],b,w⟩):=by
 have g1:=h.s
 unfold StU.cells at g1
 have he:=fun w z=>ext_look (b:=b) (w:=w) h (k:=k) (z:=z)
 rw [hk] at he
 obtain ⟨n,pl⟩:=x
 simp only [PlU.val] at he
 have hm:pl.blob.map (fun b:UInt8=>AVal.int .u8 b.toNat)=pl.blob.map u8V:=rfl
 simp only at hl
 have hids:AVal.idsL (pl.blob.map u8V)=[]:=ju _
 have hlen:(pl.blob.map u8V).length=pl.blob.length:=bj _
 have hren:∀ g,AVal.renL g (pl.blob.map u8V)=pl.blob.map u8V:=fun g=>renL_u8 g _
 simp (disch:=omega) [ba t482,code482,-evExt,g1,he,jk,jl,hids,hren,idsC',hm,hl]
theorem s482n (h:StA H I F K) {k:Bs} (hk:findK k K.ix=none):xCall T 482 [.ptr (some (I.s,0)),.str k] ⟨H,b,w⟩=some (.tuple [.slice (some (H.length,0)) 0 none,.bool false],⟨H++[.cells 1 []],b,w⟩):=by
 have g1:=h.s
 unfold StU.cells at g1
 have he:=fun w z=>ext_look (b:=b) (w:=w) h (k:=k) (z:=z)
 rw [hk] at he
 simp (disch:=omega) [ba t482,code482,-evExt,g1,he,jk,jl,idsC']
end
end
end Go.Abs.AbsBlb

namespace Go.Abs.AbsBlb
open Go.Abs.Short
def ksE:Nat→List Bs→List (AVal × AVal × Nat)
 | _,[]=>[]
 | i,k :: r=>(.str k,.bool true,i) :: ksE (i+1) r
def setM (S:List Bs):AObj:=.map (ksE 0 S) S.length
def addK (S:List Bs) (k:Bs):List Bs:=if k ∈ S then S else S++[k]
theorem ksE_app:∀ (i:Nat) (S:List Bs) (k:Bs),ksE i (S++[k])=ksE i S++[(.str k,.bool true,i+S.length)]
 | i,[],k=>rfl
 | i,x :: S,k=>by
  rw [ff]
  unfold ksE
  rw [ksE_app (i+1) S k,ff,bv,show i+1+S.length=i+(S.length+1) from by omega]
theorem ksE_len:∀ (i:Nat) (S:List Bs),(ksE i S).length=S.length
 | i,[]=>rfl
 | i,x :: S=>by unfold ksE; rw [bv,bv,ksE_len (i+1) S]
theorem ksE_find (k:Bs):∀ (i:Nat) (S:List Bs),(k ∈ S∧∃ j,findA (.str k) (ksE i S)=some (some (j,.bool true))∧(ksE i S).modify j (fun e=>(.str k,.bool true,e.2.2))=ksE i S)∨(k ∉ S∧findA (.str k) (ksE i S)=some none)
 | i,[]=>.inr ⟨by simp,rfl⟩
 | i,x :: S=>by
  have hk:akey (.str k) (.str x)=some (decide (k=x)):=by simp [akey,akey1]
  by_cases c:k=x
  ·have hk':akey (.str k) (.str x)=some true:=by rw [hk,decide_eq_true c]
   refine .inl ⟨by rw [c]; exact a7 ..,0,?_,?_⟩
   ·unfold ksE findA
    simp only [hk']
   ·unfold ksE
    rw [c]; rfl
  ·have hk':akey (.str k) (.str x)=some false:=by rw [hk,decide_eq_false c]
   rcases ksE_find k (i+1) S with ⟨h1,j,h2,h3⟩ | ⟨h1,h2⟩
   ·refine .inl ⟨bd _ h1,j+1,?_,?_⟩
    ·unfold ksE findA
     simp only [hk',h2]; rfl
    ·unfold ksE
     rw [List.modify_succ_cons,h3]
   ·refine .inr ⟨fun h=>?_,?_⟩
    ·rcases c9.1 h with h | h
     ·exact c h
     ·exact h1 h
    ·unfold ksE findA
     simp only [hk',h2]; rfl
section
variable {H:List AObj} {b w m:Nat} {S:List Bs}
theorem ext_key (h:H[m]? = some (setM S)) {k:Bs} (hb:b≤m):evExt (.mapupd (.one .s)) [.map (some m),.str k,.bool true] ⟨H,b,w⟩=some (.tuple [],⟨H.set m (setM (addK S k)),b,min w m⟩):=by
 have hi:isKey (.one .s) (.str k)=true:=rfl
 unfold setM at h
 unfold evExt addK setM
 rcases ksE_find k 0 S with ⟨h1,j,h2,h3⟩ | ⟨h1,h2⟩
 ·rw [if_pos h1]
  simp only [hi,Heap.get,h,hb,and_self,if_true,h2,Heap.put,h3]
 ·rw [if_neg h1,ksE_app]
  simp only [hi,Heap.get,h,hb,and_self,if_true,h2,Heap.put,c6,ap,bv,dw]
theorem s465z {p o:Nat} {c:Option Nat}:xCall T 100465 [.slice (some (p,o)) 0 c] ⟨H,b,w⟩=some (.slice (some (H.length,0)) 0 (some 0),⟨H++[.cells 1 []],b,w⟩):=by
 simp (disch:=omega) [-getElem?_pos,-getElem?_neg,-List.all_eq_true,qZ,qS,nltT,nltF,iltT,iltF,ileT,nleT,dj,ba t100465,code100465,jk,jl,idsC']
theorem p465 {v:AVal} {l:Bs} {p o n:Nat} {c:Option Nat} (hv:BlobV H v l) (he:v = .slice (some (p,o)) n c) (hl:l.length≤1000000) :
  ∃ c',(∀ w,xCall T 100465 [v] ⟨H,b,w⟩=some (.slice (some (H.length,0)) l.length c',⟨H++[.cells 1 (l.map u8V)],b,w⟩))∧l.length≤c'.getD l.length:=by
 obtain ⟨a,d,rfl,h2,h3⟩:=hv
 simp only [AVal.slice.injEq] at he
 obtain ⟨rfl,rfl,rfl⟩:=he
 by_cases h0:l=[]
 ·subst h0
  exact ⟨some 0,fun w=>s465z,ai _⟩
 ·rcases h3 with h3 | ⟨p',o',e,⟨h5,X,h6,h7⟩,h8⟩
  ·exact absurd h3 h0
  ·simp only [dk,ji] at e
   obtain ⟨rfl,rfl⟩:=e
   exact ⟨none,fun w=>s100465 h6 h7 rfl (List.length_pos_iff.2 h0) (by omega),ai _⟩
end
end Go.Abs.AbsBlb
