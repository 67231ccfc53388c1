/-
  Texts joined.
-/
import Derived.Test.YtkdkjjokckokfaaGreatQ0
import Derived.Test.YtkdkjjokckokfaaGreatQ11
import Derived.Test.YtkdkjjokckokfaaGreatQ8
import Derived.Test.YtkdkjjokckokfaaGreatQ6
import Derived.Test.YtkdkjjokckokfaaGreatQ5
set_option linter.unusedVariables false
set_option linter.unusedSimpArgs false
set_option maxRecDepth 100000
namespace Go.Abs.AbsNat
open Go.Abs.AbsBlb hiding T
open Go.Abs.AbsBlo (CodeD.run OpsD.run jk)
open Go.Abs.Short
section
variable {H:List AObj} {b:Nat}
section
attribute [-simp] getElem?_pos getElem?_neg List.all_eq_true
attribute [local simp] qZ qS nltT nltF iltT iltF ileT nleT el
theorem l658 {s:Bs} (hl:s.length≤1000000):∀ (j i w:Nat),i+j=s.length→∀ {β:Type} (k:AExit→St→Option β),
  xK T (.loop code658L0) ⟨[(0,.val (.str s)),(3,.val (.int .i64 i))],⟨H,b,w⟩⟩ (k:=⟨k⟩) =
   if (s.drop i).all nameC=true then k (.exit 0) ⟨[(0,.val (.str s))],⟨H,b,w⟩⟩ else k .ret ⟨[(2,.val (.bool false))],⟨H,b,w⟩⟩
 | 0,i,w,hi,β,k=>by
  have hd:s.drop i=[]:=co (by omega);rw [hd,cd];have:¬ ((i:Int) < s.length):=by omega
  simp (disch:=omega) [code658L0,this]
 | j+1,i,w,hi,β,k=>by
  obtain ⟨c,hc⟩:∃ c,s[i]? = some c:=⟨_,ai (by omega)⟩;have hil:(i:Int) < s.length:=by omega
  have e2:((i+1:Nat):Int)=(i:Int)+1:=by omega
  have ih:=l658 hl j (i+1) w (by omega) k;rw [e2] at ih;rw [ie hc,List.all_cons,cd];generalize ACode.loop code658L0=LL at *;have hn:nameC c=((decide (97≤c.toNat) && decide (c.toNat≤122)) || (decide (48≤c.toNat) && decide (c.toNat≤57)) || decide (c.toNat=95) || decide (c.toNat=45)):=rfl;rw [hn];have hc256:c.toNat < 256:=c.toNat_lt;obtain ⟨z,hz⟩:∃ z,c.toNat=z:=⟨_,rfl⟩;rw [hz] at hc256 ⊢;clear hn;by_cases h1:97≤z
  ·have g1:(97:Int)≤z:=by omega
   by_cases h2:z≤122
   ·have g2:(z:Int)≤122:=by omega
    simp (disch:=omega) [code658L0,hil,hc,hz,h1,h2,g1,g2,ih]
   ·have g2:¬ (z:Int)≤122:=by omega
    have g3:(48:Int)≤z:=by omega
    have g4:¬ (z:Int)≤57:=by omega
    have g5:¬ (z:Int)=95:=by omega
    have g6:¬ (z:Int)=45:=by omega
    have h4:¬ z≤57:=by omega
    have h5:¬ z=95:=by omega
    have h6:¬ z=45:=by omega
    simp (disch:=omega) [code658L0,hil,hc,hz,h1,h2,g1,g2,g3,g4,g5,g6,h4,h5,h6,ih]
  ·have g1:¬ (97:Int)≤z:=by omega
   by_cases h3:48≤z
   ·have g3:(48:Int)≤z:=by omega
    by_cases h4:z≤57
    ·have g4:(z:Int)≤57:=by omega
     simp (disch:=omega) [code658L0,hil,hc,hz,h1,h3,h4,g1,g3,g4,ih]
    ·have g4:¬ (z:Int)≤57:=by omega
     have h6:¬ z=45:=by omega
     have g6:¬ (z:Int)=45:=by omega
     by_cases h5:z=95
     ·subst h5;simp (disch:=omega) [code658L0,hil,hc,hz,ih]
     ·have g5:¬ (z:Int)=95:=by omega
      simp (disch:=omega) [code658L0,hil,hc,hz,h1,h3,h4,h5,h6,g1,g3,g4,g5,g6,ih]
   ·have g3:¬ (48:Int)≤z:=by omega
    have h5:¬ z=95:=by omega
    have g5:¬ (z:Int)=95:=by omega
    by_cases h6:z=45
    ·subst h6;simp (disch:=omega) [code658L0,hil,hc,hz,ih]
    ·have g6:¬ (z:Int)=45:=by omega
     simp (disch:=omega) [code658L0,hil,hc,hz,h1,h3,h5,h6,g1,g3,g5,g6,ih]
end
theorem wo:∀ (s:Bs) (i:Nat),decide (firstOdd s i < 0)=s.all nameC
 | [],i=>rfl
 | c :: s,i=>by
  unfold firstOdd;rw [List.all_cons];cases h:nameC c
  ·have:¬ ((i:Int) < 0):=by omega
   simp
  ·simp only [if_true,Bool.true_and];exact wo s (i+1)
section
attribute [-simp] getElem?_pos getElem?_neg List.all_eq_true
attribute [local simp] qZ qS nltT nltF iltT iltF ileT nleT el
theorem s658 {s:Bs} (hl:s.length≤1000000) {w:Nat}:xCall T 658 [.str s] ⟨H,b,w⟩=some (.bool (isName s),⟨H,b,w⟩):=by
 have hk:=fun {β:Type} w (k:AExit→St→Option β)=>l658 (H:=H) (b:=b) hl s.length 0 w (by omega) k
 simp only [ba,eq] at hk;unfold isName;rw [wo];by_cases h:s.all nameC=true
 ·rw [h];simp only [h,if_true] at hk;by_cases h0:s=[]
  ·subst h0;simp (disch:=omega) [bc t658,code658,hk]
  ·have h1:0 < s.length:=uf.2 h0;have h1':(1:Int)≤s.length:=by omega
   by_cases h2:s.length≤16
   ·have h2':(s.length:Int)≤16:=by omega
    simp (disch:=omega) [bc t658,code658,hk,h0,h1',h2,h2']
   ·have h2':¬ (s.length:Int)≤16:=by omega
    simp (disch:=omega) [bc t658,code658,hk,h0,h1',h2,h2']
 ·have h':s.all nameC=false:=by simpa using h
  rw [h'];simp only [h',de,if_false] at hk;simp (disch:=omega) [bc t658,code658,hk]
end
end
end Go.Abs.AbsNat

namespace Go.Abs.AbsRm
open Go.Abs.AbsBlb hiding T
open Go.Abs.AbsNat hiding T sub
open Go.Abs.AbsBlo (CodeD.run OpsD.run jk)
open Go.Abs.Short
theorem subB:∀ g f,AbsBlo.T g=some f→T g=some f:=fun g f h=>sub g f (AbsNat.sub g f h)
section
variable {kl:List Bs} {H P:List AObj} {b w:Nat} {I:SI} {F:Fl} {K:StU} {A:List (Bs × Bs)} {t:Nat}
theorem zo {α:Type} [DecidableEq α] {a:α} {l:List α} (h:a ∉ l):(l.filter fun x=>decide (x≠a))=l :=
 ud.2 fun y hy=>by simp only [ne_eq,decide_not,fp,decide_eq_false_iff_not];intro e;rw [e] at hy;exact h hy
section
attribute [-simp] getElem?_pos getElem?_neg List.all_eq_true
attribute [local simp] qZ qS nltT nltF iltT iltF ileT nleT el
theorem n921y {s k:Bs} {v:AVal} (hl:k.length≤140737488355328) (hs:isName s=true) (hk:isName k=false):xCall T 921 [v,.str s,.str k] ⟨H,b,w⟩=some (.int .i64 13,⟨H,b,w⟩):=by
 have h1:=fun w=>du sub (s675y (H:=H) (b:=b) (w:=w) (v:=v) hl hs hk)
 simp (disch:=omega) [bc t921,code921,h1]
theorem n921 (h:StA H I F K) {s k:Bs} (hs:isName s=true) (hk:isName k=true) (hf:findK (keyB s k) K.ix=none):xCall T 921 [.ptr (some (I.s,0)),.str s,.str k] ⟨H,b,w⟩=some (.int .i64 11,⟨H,b,w⟩):=by
 have h1:=fun w=>du sub (s675n (b:=b) (w:=w) h hs hk hf)
 simp (disch:=omega) [bc t921,code921,h1]
theorem p921 (h:SO kl H I F K) (hkl:∀ k ∈ kl,1≤k.length∧k.length≤64) (hb:I.lo b) (hbN:b≤H.length) (hFn:0 < F.n) {s k:Bs} (hs:isName s=true) (hk:isName k=true) (hkey:keyB s k ∈ kl)
  {r:RecsU} (hr:r.ok) {x:Nat × PlU} (hf:findK (keyB s k) K.ix=some x) (hx:x.2.blob=r.bytes) (hxl:x.2.blob.length≤1000000) (hn2:32+(keyB s k).length≤(F.z - 12) / 2) (hG:AbsBlo.Good F K (32+(keyB s k).length)) :
  ∃ H' F' K',∃ nx:Nat→Nat,StF I H H'∧SO kl H' I F' K'∧FlE F F'∧(∀ w,min w b≤nx w∧nx w≤I.hi)∧StepN F K (32+(keyB s k).length) K'∧DelIx K K' (keyB s k) ∧
   ∀ w,xCall T 921 [.ptr (some (I.s,0)),.str s,.str k] ⟨H,b,w⟩=some (.int .i64 0,⟨H',b,nx w⟩):=by
 have hIhi:=h.a.hi;have ls:=g9 hs;have lk:=g9 hk;obtain ⟨H1,B,y,i1,i2,i3,i4⟩:=p675 (b:=b) h.a hs hk hf hx hr hxl hbN;have hp1:=i1.len;obtain ⟨ya,yc,rfl,-⟩:=i2.row;have hSO1:SO kl H1 I F K:=⟨h.a.low (N:=H.length) ⟨hIhi,ah h.a.fl.f⟩ fun k o _ ho=>i1 k o ho,h.v⟩;have hSM:=jk hSO1 [.cells 3 [.bool true,.str (keyB s k),.slice none 0 (some 0)]];have hSF:StF I H (H1++[AObj.cells 3 [.bool true,.str (keyB s k),.slice none 0 (some 0)]]):=(⟨hp1,fun k o ho _ _ _ _ _=>i1 k o ho⟩:StF I H H1).app _;have hRc:Row (H1++[AObj.cells 3 [.bool true,.str (keyB s k),.slice none 0 (some 0)]]) 3 ChU.cells [⟨true,keyB s k,[],.slice none 0 (some 0)⟩] (some (H1.length,0)):=Row.mk0 (fun _=>rfl) (by rw [ga]; rfl);obtain ⟨H',F',K',nx,c1,c2,c3,c4,c5,-,-,c8,c9⟩:=p549o (lc:=some 1) hSM hkl hb (by rw [aq]; omega) hFn hRc (.inr ⟨rfl,rfl,rfl,(hkl _ hkey).1,(hkl _ hkey).2⟩) hkey (by show 32+(keyB s k).length+0≤_; omega) hG
 have hn:=c4 H.length;have hlt:nx H.length < H.length:=by omega
 have h549:=fun w=>du subB (c9 w)
 have h675:=fun w=>du sub (i4 w)
 have h683:=fun w=>du sub (s683 (H:=H1) (b:=b) (w:=w) (s:=s) (k:=k) (by omega) (by omega))
 unfold RecsU.val at h675;refine ⟨H',F',K',fun w=>min w (nx H.length),hSF.trans c1,c2,c3,fun w=>?_,c5,c8 rfl,fun w=>?_⟩
 ·show min w b≤min w (nx H.length)∧min w (nx H.length)≤I.hi
  omega
 ·simp (disch:=omega) [bc t921,code921,h675,h683,h549,hlt]
end
theorem drop_any (h:LawS kl I P F K A t) (ht:t < 30) (hkl:∀ k ∈ kl,1≤k.length∧k.length≤64) (hb:I.lo b) (hbN:b≤P.length) {s k:Bs} (hs:isName s=true) (hk:k.length≤140737488355328) (hsk:isName k=true→s.length+k.length≤19)
  (hkey:(s,k) ∈ A→keyB s k ∈ kl) :
  ∃ e:Int,∃ P' F' K',∃ nx:Nat→Nat,StF I P P'∧LawS kl I P' F' K' (A.filter fun p=>decide (p≠(s,k))) (t+1)∧(∀ w,min w b≤nx w)∧(e=0 ↔ (s,k) ∈ A) ∧
   ∀ w,xCall T 921 [.ptr (some (I.s,0)),.str s,.str k] ⟨P,b,w⟩=some (.int .i64 e,⟨P',b,nx w⟩):=by
 by_cases hm:(s,k) ∈ A
 ·have ik:isName k=true:=(h.ks.nm _ hm).2;obtain ⟨x,h1,h2,-⟩:=h.ks.yf hs hm;have hsl:=hsk ik;have hkl2:=wj s k;obtain ⟨g1,g2⟩:=h.good ht (n:=32+(keyB s k).length) (by omega);obtain ⟨P',F',K',nx,q1,q2,q3,q4,q5,q6,q7⟩:=p921 h.so hkl hb hbN h.n hs ik (hkey hm) we h1 h2 (by rw [h2,pv]; decide) g2 g1;exact ⟨0,P',F',K',nx,q1,h.step ht (by omega) q2 q3 q5 (h.ks.del hs hm q6),fun w=>(q4 w).1,by simp [hm],q7⟩
 ·rw [zo hm];cases ik:isName k with
  | false=>exact ⟨13,P,F,K,fun w=>w,.refl,h.le (wq _),fun w=>cz _ _,by simp [hm],fun w=>n921y hk hs ik⟩
  | true=>exact ⟨11,P,F,K,fun w=>w,.refl,h.le (wq _),fun w=>cz _ _,by simp [hm],fun w=>n921 h.so.a hs ik (h.ks.nf hs hm)⟩
theorem p922 {n z:Nat} (hn:1≤n∧n≤64) (hz:64≤z∧z≤65536) (hnz:n*z≤262144) (hb:b≤H.length):∃ H' I,Pre H H'∧I.lo b∧SO kl H' I (AbsBlo.F0 n z 100000) (AbsBlo.K0 n)∧(H.length≤I.s∧H.length≤I.sa∧H.length≤I.m∧H.length≤I.fi.fl∧H.length≤I.fi.fb∧H.length≤I.fi.fw) ∧
  ∀ w,xCall T 922 [.int .i64 n,.int .i64 z] ⟨H,b,w⟩=some (.tuple [.ptr (some (I.fi.fl,0)),.ptr (some (I.s,0)),.bool true],⟨H',b,w⟩):=by
 obtain ⟨M,H',I,hpre,hSO,hlo,⟨hne,hfe⟩,h556,h555⟩:=store1 (H:=H) (b:=b) (kl:=kl) (n:=n) (z:=z) (lim:=100000) hn hz (by decide) hnz hb;have hx:(AbsBlo.K0 n).ix=[]:=rfl;generalize AbsBlo.F0 n z 100000=FF at *;generalize AbsBlo.K0 n=KK at *;have h556:=fun w=>du sub (h556 w)
 have h555:=fun w=>du sub (h555 w)
 simp only [ba] at h556
 have hrun:∀ w,xCall T 922 [.int .i64 n,.int .i64 z] ⟨H,b,w⟩=some (dk ⟨H,b,w⟩ (.tuple [.ptr (some (H.length,0)),.ptr (some (I.s,0)),.bool true]) ⟨H',b,H.length⟩):=fun w=>by simp (disch:=omega) [-getElem?_pos,-getElem?_neg,-List.all_eq_true,qZ,qS,nltT,nltF,iltT,iltF,ileT,nleT,el,bc t922,code922,-dk,h556,h555]
 have hsl:H.length≤I.s:=hlo.1
 have hv:AVal.under H.length (.tuple [.ptr (some (H.length,0)),.ptr (some (I.s,0)),.bool true])=false:=by simp [AVal.under,AVal.unders]
 rcases AbsBlo.finish_any2 (b:=b) (P:=H') hv (aj H.length) with e | ⟨f,Ic,X,e,hm,hi,-⟩
 ·exact ⟨H',I,hpre,⟨by omega,by omega,by omega,by omega,by omega⟩,hSO,hlo,fun w=>by rw [hrun w,e w,hfe]⟩
 ·have hiS:Ic I.s:=hi _ (by simp [AVal.ids,AVal.idsL]) hsl;obtain ⟨m1,m2⟩:=sa_moves hSO.a hx hm hiS hlo hne;refine ⟨H++X,SI.mv f I,Pre.app _ _,⟨by have:=m2.1; exact cf hb this,cf hb m2.2.1,cf hb m2.2.2.1,cf hb m2.2.2.2.2.1,cf hb m2.2.2.2.2.2⟩,⟨m1,hSO.v⟩,m2,fun w=>?_⟩;rw [hrun w,e w];simp [AVal.ren,AVal.renL,SI.mv,hfe]
end
end Go.Abs.AbsRm

namespace Go.Abs.AbsRm
open Go.Abs.AbsBlb hiding T
open Go.Abs.AbsNat hiding T sub
open Go.Abs.AbsBlo (CodeD.run OpsD.run jk)
open Go.Abs.Short
structure CodesM (E:Env):Prop where
 r:CodesR E
 t:AgreesX E T
 a673:IsCode E 673 code673
 a665:IsCode E 665 code665
theorem put_has {K K':StU} {key blob:Bs} (h:PutIx K K' key blob):∃ x,findK key K'.ix=some x∧x.2.blob=blob:=by
 obtain ⟨p,c,e,h1,h2⟩:=h;cases hf:findK key K.ix with
 | none =>
  obtain ⟨n,hn⟩:=findK_app (p:=p) (c:=c) hf;exact ⟨_,by rw [h1 hf]; exact hn,e⟩
 | some x =>
  obtain ⟨n,hn⟩:=findK_mod (p:=p) hf;exact ⟨_,by rw [h2 x hf]; exact hn,e⟩
theorem kb:newR.bytes=[0,0,0,1,0,0,0,0,0,0]:=by decide
section
variable {kl:List Bs} {E:Env} {H P:List AObj} {b w:Nat} {I:SI}
theorem law0 {n z:Nat} (h:SO kl P I (AbsBlo.F0 n z 100000) (AbsBlo.K0 n)) (hn:6≤n∧n≤64) (hz:400≤z):LawS kl I P (AbsBlo.F0 n z 100000) (AbsBlo.K0 n) [] 0:=by
 refine ⟨h,⟨rfl,List.nodup_nil,(fun p hp=>by cases hp),(fun e he=>by cases he)⟩,?_,aj _,hz,by show 0 < n; omega⟩
 have hc:cc (AbsBlo.F0 n z 100000) (AbsBlo.K0 n)=n:=by unfold cc;show cnt (opn (100000:Nat)) (List.replicate n AbsBlo.z0) (List.replicate n AbsBlo.z0).length=n;rw [br];exact AbsBlo.cnt_rep _ n n (aj _)
 unfold bud;rw [hc];omega
def r923:ACode:=.seq (R [0] [v 46 5,v 47 46,g 48 47 true (.val (t 1)),g 49 47 true (.conv .string (t 48)),g 50 47 true (.bin .eql (t 49) (.const (.str [0,0,0,1,0,0,0,0,0,0]))),o 51 (.pick (t 47) (t 50) F),v 52 51,g 53 52 true (.val (t 2)),g 54 52 true (.bin .eql (t 53) (n 0)),o 55 (.pick (t 52) (t 54) F),v 56 55,g 57 56 true (.val (t 7)),g 58 56 true (.bin .eql (t 57) (n 11)),o 59 (.pick (t 56) (t 58) F),v 60 59,g 61 60 true (.val (t 9)),g 62 60 true (.bin .eql (t 61) (n 0)),o 63 (.pick (t 60) (t 62) F),v 64 63,g 65 64 true (.val (t 11)),g 66 64 true (.bin .eql (t 65) (n 0)),o 67 (.pick (t 64) (t 66) F),v 68 67,g 69 68 true (.val (t 13)),g 70 68 true (.bin .eql (t 69) (n 0)),o 71 (.pick (t 68) (t 70) F),v 72 71,g 73 72 true (.val (t 10)),g 74 72 true (.bin .eql (t 73) (.const (.int .u32 1))),o 75 (.pick (t 72) (t 74) F),v 76 75,g 77 76 true (.val (t 12)),g 78 76 true (.conv .string (t 77)),g 79 76 true (.bin .eql (t 78) (.const (.str [120]))),o 80 (.pick (t 76) (t 79) F),v 0 80])
 (.live [0] (.ret))
theorem body923:code923.body = .seq (R [] [o 0 (.val F)])
 (.seq (R [1,2] [o 15 (.build [.int .u32 0,.int .u32 0,.slice none 0 (some 0)] [(0,1,.const (.int .u32 1))]),o 16 (.callg 688 [t 15]),v 14 16,o 17 (.extract (t 14) 0),o 18 (.extract (t 14) 1),v 1 17,v 2 18])
 (.seq (R [1,2,4,5] [o 20 (.callg 922 [n 6,n 512]),v 19 20,o 21 (.extract (t 19) 0),o 22 (.extract (t 19) 1),o 23 (.extract (t 19) 2),v 3 21,v 4 22,v 5 23])
 (.seq (R [1,2,4,5,7] [v 25 4,o 26 (.callg 671 [t 25,.const (.str [97]),.const (.str [98]),.const (.bool false)]),v 24 26,o 27 (.extract (t 24) 0),o 28 (.extract (t 24) 1),o 6 (.lalloc [.int .u32 0,.int .u32 0,.slice none 0 (some 0)]),u (.store 3 (t 6) (t 27)),v 7 28])
 (.seq (R [1,2,4,5,7,9] [v 30 4,o 31 (.callg 671 [t 30,.const (.str [97]),.const (.str [98]),.const (.bool true)]),v 29 31,o 32 (.extract (t 29) 0),o 33 (.extract (t 29) 1),o 8 (.lalloc [.int .u32 0,.int .u32 0,.slice none 0 (some 0)]),u (.store 3 (t 8) (t 32)),v 9 33])
 (.seq (R [1,2,4,5,7,9,10,11] [v 35 4,o 36 (.mkslice 1 1 [.int .u8 0] [(0,1,.const (.int .u8 120))]),o 37 (.conv .same (t 36)),o 38 (.callg 665 [t 35,.const (.str [97]),.const (.str [98]),t 37]),v 34 38,o 39 (.extract (t 34) 0),o 40 (.extract (t 34) 1),v 10 39,v 11 40])
 (.seq (R [1,2,5,7,9,10,11,12,13] [v 42 4,o 43 (.callg 667 [t 42,.const (.str [97]),.const (.str [98]),.const (.int .u32 1)]),v 41 43,o 44 (.extract (t 41) 0),o 45 (.extract (t 41) 1),v 12 44,v 13 45])
 r923)))))):=rfl
theorem fe923 {w w':Nat} (hw:H.length≤w'):funcEnd code923 ⟨H,b,w⟩ (.ret,⟨[(0,.val (.bool true))],⟨P,b,w'⟩⟩)=some (.bool true,⟨H,b,w⟩):=by
 have:¬ w' < H.length:=by omega
 simp [funcEnd,code923,resultsL,result1,sget,tupled,dk,Heap.size,this,AVal.under]
section
attribute [-simp] getElem?_pos getElem?_neg List.all_eq_true
attribute [local simp] qZ qS nltT nltF iltT iltF ileT nleT el
theorem c923 (hC:CodesM E) (hF:IsCode E 923 code923) (hb:b=H.length) (w:Nat):CallD E 923 [] ⟨H,b,w⟩ fun v h'=>v = .bool true∧h'=⟨H,b,w⟩:=by
 have hT:=hC.t;have hm:=hC.r.c.m;refine CallD.of_code hF rfl ?_;rw [body923];have hen:enter 0 ([]:List AVal)=[]:=rfl;have hsz:(⟨H,b,w⟩:Heap).size=H.length:=rfl;rw [hen];simp only [hsz];refine CodeD.seq nofun (CodeD.run hT hm (e:=.normal) (st':=⟨[],⟨H,b,H.length⟩⟩) (fun k'=>by simp (disch:=omega) []) ?_);have h688:=fun w=>du sub (s688 (H:=H) (b:=b) (w:=w) (L:=[]) (a:=none) (c:=some 0) (next:=1) (ver:=0) ⟨fun h=>absurd rfl h⟩ (fun p hp=>by cases hp) (by decide) (by decide) (by decide) (fun p o e=>by cases e) (by omega))
 have hnb:recsB 1 0 (([]:List EV).map Prod.fst)=[0,0,0,1,0,0,0,0,0,0]:=by decide
 rw [hnb] at h688;simp only [ep,bt,ba,ed,Nat.reduceAdd] at h688
 refine CodeD.seq nofun (CodeD.run hT hm (e:=.normal) (st':=⟨[(1,.val (.slice (some (H.length,0)) 10 none)),(2,.val (.int .i64 0))],⟨H++[.cells 1 (([0,0,0,1,0,0,0,0,0,0]:Bs).map u8V)],b,H.length⟩⟩) (fun k'=>by generalize ([0,0,0,1,0,0,0,0,0,0]:Bs).map u8V=Y at *;simp (disch:=omega) [h688]) ?_)
 have hg0:=ga H [AObj.cells 1 (([0,0,0,1,0,0,0,0,0,0]:Bs).map u8V)];have hl0:(H++[AObj.cells 1 (([0,0,0,1,0,0,0,0,0,0]:Bs).map u8V)]).length=H.length+1:=by simp
 generalize H++[AObj.cells 1 (([0,0,0,1,0,0,0,0,0,0]:Bs).map u8V)]=H0 at *;obtain ⟨H1,I,k1,k2,k3,k4,h922⟩:=p922 (kl:=[keyB [97] [98]]) (H:=H0) (b:=b) (n:=6) (z:=512) (by decide) (by decide) (by decide) (by omega);have hL1:=law0 k3 (by decide) (by decide);generalize AbsBlo.F0 6 512 100000=F1 at *;generalize AbsBlo.K0 6=K1 at *;simp only [ba] at h922;have hp1:=k1.len;have hIs:=ah k3.a.s;have hIhi:=k3.a.hi;obtain ⟨l1,l2,l3,l4,l5,l6⟩:=k4;refine CodeD.seq nofun (CodeD.run hT hm (e:=.normal) (st':=⟨[(1,.val (.slice (some (H.length,0)) 10 none)),(2,.val (.int .i64 0)),(4,.val (.ptr (some (I.s,0)))),(5,.val (.bool true))],⟨H1,b,H.length⟩⟩) (fun k'=>by simp (disch:=omega) [h922]) ?_);have h671:=fun w=>du sub (s671n (b:=b) (w:=w) k3.a (s:=[97]) (k:=[98]) (by decide) (by decide) (hL1.ks.nf (by decide) (by simp)))
 refine CodeD.seq nofun (CodeD.run hT hm (e:=.normal) (st':=⟨[(1,.val (.slice (some (H.length,0)) 10 none)),(2,.val (.int .i64 0)),(4,.val (.ptr (some (I.s,0)))),(5,.val (.bool true)),(7,.val (.int .i64 11))],⟨H1,b,H.length⟩⟩) (fun k'=>by simp (disch:=omega) [h671]) ?_);have hkl:∀ k ∈ [keyB [97] [98]],1≤k.length∧k.length≤64:=fun k hk=>by rw [bq] at hk; subst hk; decide
 have hop:=AbsNat.open_any hC.r hL1 (by decide) (by decide) hkl k2 (by omega) (s:=[97]) (k:=[98]) (by decide) (by decide) (fun _ _=>by decide) (fun _ _ _ _=>eo _) H.length;have hE0:opE [] [97] [98]=0:=by decide
 have hA0:opA [] [97] [98]=[([97],[98])]:=by decide
 rw [hE0,hA0] at hop;refine CodeD.seq nofun (CodeD.after (CodeD.regionX hT hm ?_));refine OpsD.run (l:=[v 30 4]) (r:=[o 31 (.callg 671 [t 30,.const (.str [97]),.const (.str [98]),.const (.bool true)]),v 29 31,o 32 (.extract (t 29) 0),o 33 (.extract (t 29) 1),o 8 (.lalloc [.int .u32 0,.int .u32 0,.slice none 0 (some 0)]),u (.store 3 (t 8) (t 32)),v 9 33]) (s1:=[(30,.val (.ptr (some (I.s,0)))),(1,.val (.slice (some (H.length,0)) 10 none)),(2,.val (.int .i64 0)),(4,.val (.ptr (some (I.s,0)))),(5,.val (.bool true)),(7,.val (.int .i64 11))]) (h1:=⟨H1,b,H.length⟩) (fun k'=>by simp (disch:=omega) []) ?_;refine OpsD.call (g:=671) (xs:=[t 30,.const (.str [97]),.const (.str [98]),.const (.bool true)]) rfl rfl rfl hop fun vv hh hR'=>?_
 obtain ⟨y1,y2,y3,rfl,P,F2,K2,w2,t2,rfl,q1,q2,q3,q4⟩:=hR';refine OpsD.run (l:=[v 29 31,o 32 (.extract (t 29) 0),o 33 (.extract (t 29) 1),o 8 (.lalloc [.int .u32 0,.int .u32 0,.slice none 0 (some 0)]),u (.store 3 (t 8) (t 32)),v 9 33]) (r:=[]) (s1:=[(9,.val (.int .i64 0)),(8,.var [y1,y2,y3]),(8,.var [.int .u32 0,.int .u32 0,.slice none 0 (some 0)]),(33,.val (.int .i64 0)),(32,.val (.agg [y1,y2,y3])),(29,.val (.tuple [.agg [y1,y2,y3],.int .i64 0])),(31,.val (.tuple [.agg [y1,y2,y3],.int .i64 0])),(30,.val (.ptr (some (I.s,0)))),(1,.val (.slice (some (H.length,0)) 10 none)),(2,.val (.int .i64 0)),(4,.val (.ptr (some (I.s,0)))),(5,.val (.bool true)),(7,.val (.int .i64 11))]) (h1:=⟨P,b,w2⟩) (fun k'=>by simp (disch:=omega) []) (OpsD.done ?_);simp only []
 have hk1:keepK [1,2,4,5,7,9] [(9,Slot.val (.int .i64 0)),(8,.var [y1,y2,y3]),(8,.var [.int .u32 0,.int .u32 0,.slice none 0 (some 0)]),(33,.val (.int .i64 0)),(32,.val (.agg [y1,y2,y3])),(29,.val (.tuple [.agg [y1,y2,y3],.int .i64 0])),(31,.val (.tuple [.agg [y1,y2,y3],.int .i64 0])),(30,.val (.ptr (some (I.s,0)))),(1,.val (.slice (some (H.length,0)) 10 none)),(2,.val (.int .i64 0)),(4,.val (.ptr (some (I.s,0)))),(5,.val (.bool true)),(7,.val (.int .i64 11))]=[(1,.val (.slice (some (H.length,0)) 10 none)),(2,.val (.int .i64 0)),(4,.val (.ptr (some (I.s,0)))),(5,.val (.bool true)),(7,.val (.int .i64 11)),(9,.val (.int .i64 0))]:=by simp
 rw [hk1];have hPl:=q1.len;have hS6:=jk q2.so [.cells 1 [.int .u8 120]];have hq6:(P++[AObj.cells 1 [.int .u8 120]])[P.length]? = some (.cells 1 (([120]:Bs).map u8V)):=ga _ _;have hl6:(P++[AObj.cells 1 [.int .u8 120]]).length=P.length+1:=by simp
 have hx6:∀ (k:Nat) (o:AObj),P[k]? = some o→(P++[AObj.cells 1 [.int .u8 120]])[k]? = some o:=fun k o ho=>by rw [ag (ah ho)]; exact ho
 have hdv:BlobV (P++[AObj.cells 1 [.int .u8 120]]) (.slice (some (P.length,0)) 1 (some 1)) [120]:=⟨some (P.length,0),some 1,rfl,fun p o e=>by cases e; omega,.inr ⟨P.length,0,rfl,SlB.whole hq6 rfl,aj _⟩⟩;obtain ⟨x,x1,x2,-⟩:=q2.ks.yf (s:=[97]) (k:=[98]) (by decide) (eo _);have hrl:(addR newR [120]).bytes.length=17:=by decide
 have hgd:=q2.good (by omega) (n:=32+(keyB [97] [98]).length+(addR newR [120]).bytes.length) (by decide);generalize hH6:P++[AObj.cells 1 [.int .u8 120]]=H6 at *;have hq6':H6[P.length]? = some (.cells 1 [.int .u8 120]):=hq6;have hset6:H6.set P.length (.cells 1 [.int .u8 120])=H6:=pt hq6';have hadd:=e665 (r:=newR) (data:=[120]) hC.r.c hC.a673 hC.a665 hS6 hkl k2 (by omega) q2.n (s:=[97]) (k:=[98]) (by decide) (by decide) (eo _) we x1 x2 (by rw [x2,pv]; decide) hdv (by decide) (by decide) (by decide) (by decide) (by decide) hgd.2 hgd.1 (min w2 P.length);refine CodeD.seq nofun (CodeD.after (CodeD.regionX hT hm ?_))
 refine OpsD.run (l:=[v 35 4,o 36 (.mkslice 1 1 [.int .u8 0] [(0,1,.const (.int .u8 120))]),o 37 (.conv .same (t 36))]) (r:=[o 38 (.callg 665 [t 35,.const (.str [97]),.const (.str [98]),t 37]),v 34 38,o 39 (.extract (t 34) 0),o 40 (.extract (t 34) 1),v 10 39,v 11 40]) (s1:=[(37,.val (.slice (some (P.length,0)) 1 (some 1))),(36,.val (.slice (some (P.length,0)) 1 (some 1))),(35,.val (.ptr (some (I.s,0)))),(1,.val (.slice (some (H.length,0)) 10 none)),(2,.val (.int .i64 0)),(4,.val (.ptr (some (I.s,0)))),(5,.val (.bool true)),(7,.val (.int .i64 11)),(9,.val (.int .i64 0))]) (h1:=⟨H6,b,min w2 P.length⟩) (fun k'=>by simp (disch:=omega) [hH6,hq6',hset6]) ?_;refine OpsD.call (g:=665) (xs:=[t 35,.const (.str [97]),.const (.str [98]),t 37]) rfl rfl rfl hadd fun vv hh hR'=>?_
 obtain ⟨rfl,P2,F3,K3,w3,rfl,r1,r2,r3,r4,r5,-,-,r8⟩:=hR';have hnx:((newR.next:Nat):Int)=1:=rfl;rw [hnx];refine OpsD.run (l:=[v 34 38,o 39 (.extract (t 34) 0),o 40 (.extract (t 34) 1),v 10 39,v 11 40]) (r:=[]) (s1:=[(11,.val (.int .i64 0)),(10,.val (.int .u32 1)),(40,.val (.int .i64 0)),(39,.val (.int .u32 1)),(34,.val (.tuple [.int .u32 1,.int .i64 0])),(38,.val (.tuple [.int .u32 1,.int .i64 0])),(37,.val (.slice (some (P.length,0)) 1 (some 1))),(36,.val (.slice (some (P.length,0)) 1 (some 1))),(35,.val (.ptr (some (I.s,0)))),(1,.val (.slice (some (H.length,0)) 10 none)),(2,.val (.int .i64 0)),(4,.val (.ptr (some (I.s,0)))),(5,.val (.bool true)),(7,.val (.int .i64 11)),(9,.val (.int .i64 0))]) (h1:=⟨P2,b,w3⟩) (fun k'=>by simp (disch:=omega) []) (OpsD.done ?_);simp only []
 have hk2:keepK [1,2,4,5,7,9,10,11] [(11,Slot.val (.int .i64 0)),(10,.val (.int .u32 1)),(40,.val (.int .i64 0)),(39,.val (.int .u32 1)),(34,.val (.tuple [.int .u32 1,.int .i64 0])),(38,.val (.tuple [.int .u32 1,.int .i64 0])),(37,.val (.slice (some (P.length,0)) 1 (some 1))),(36,.val (.slice (some (P.length,0)) 1 (some 1))),(35,.val (.ptr (some (I.s,0)))),(1,.val (.slice (some (H.length,0)) 10 none)),(2,.val (.int .i64 0)),(4,.val (.ptr (some (I.s,0)))),(5,.val (.bool true)),(7,.val (.int .i64 11)),(9,.val (.int .i64 0))]=[(1,.val (.slice (some (H.length,0)) 10 none)),(2,.val (.int .i64 0)),(4,.val (.ptr (some (I.s,0)))),(5,.val (.bool true)),(7,.val (.int .i64 11)),(9,.val (.int .i64 0)),(10,.val (.int .u32 1)),(11,.val (.int .i64 0))]:=by simp
 rw [hk2];have hr:(addR newR [120]).ok:=addR_ok we (by decide) (by decide) (by decide) (by decide);obtain ⟨z,z1,z2⟩:=put_has r8;have hP2l:=r1.len;obtain ⟨H8,v8,u1,u2,-,u4⟩:=p667 (b:=b) r2.a (s:=[97]) (k:=[98]) (by decide) (by decide) z1 z2 hr (by rw [z2,hrl]; decide) (by omega) (id:=1) (j:=0) (e:=⟨1,[120]⟩) rfl rfl;simp only [ba] at u4;have h667:=fun w=>du sub (u4 w)
 obtain ⟨va,vc,rfl,-,hvb⟩:=id u2;rcases hvb with hvb | ⟨vp,vo,rfl,⟨-,X,hvp,hvX⟩,-⟩
 ·cases hvb
 have hvo:vo+1≤X.length:=by have:=congrArg List.length hvX;simp only [dh,gg,bh,bt,ep] at this;omega
 simp only [bt,ep,ed,Nat.reduceAdd] at h667 hvX;have hvX:(X.drop vo).take 1=[.int .u8 120]:=hvX;have hbo:bytesOf [AVal.int .u8 120]=some [120]:=pr [120];have hbo2:bytesOf (([0,0,0,1,0,0,0,0,0,0]:Bs).map u8V)=some [0,0,0,1,0,0,0,0,0,0]:=pr _
 have hrow0:H8[H.length]? = some (.cells 1 (([0,0,0,1,0,0,0,0,0,0]:Bs).map u8V)) :=
  u1 _ _ (r1.keep _ _ (hx6 _ _ (q1.keep _ _ (k1 _ _ hg0) (by omega) (by omega) (by omega) (by omega) (by omega))) (by omega) (by omega) (by omega) (by omega) (by omega))
 have hln:(([0,0,0,1,0,0,0,0,0,0]:Bs).map u8V).length=10:=rfl;have htk:(([0,0,0,1,0,0,0,0,0,0]:Bs).map u8V).take 10=([0,0,0,1,0,0,0,0,0,0]:Bs).map u8V:=rfl;refine CodeD.seq nofun (CodeD.run hT hm (e:=.normal) (st':=⟨[(1,.val (.slice (some (H.length,0)) 10 none)),(2,.val (.int .i64 0)),(5,.val (.bool true)),(7,.val (.int .i64 11)),(9,.val (.int .i64 0)),(10,.val (.int .u32 1)),(11,.val (.int .i64 0)),(12,.val (.slice (some (vp,vo)) 1 vc)),(13,.val (.int .i64 0))],⟨H8,b,w3⟩⟩) (fun k'=>by simp (disch:=omega) [h667]) ?_)
 refine CodeD.run hT hm (e:=.ret) (st':=⟨[(0,.val (.bool true))],⟨H8,b,w3⟩⟩) (fun k'=>by generalize ([0,0,0,1,0,0,0,0,0,0]:Bs).map u8V=Y at *;simp (disch:=omega) [r923,hrow0,hvp,hvX,hvo,hbo,hbo2,hln,htk]) ?_
 exact ⟨_,_,fe923 (by omega),rfl,rfl⟩
end
end
end Go.Abs.AbsRm

namespace Go.Abs.AbsRm
open Go.Abs.AbsBlb hiding T
open Go.Abs.AbsNat hiding T sub
open Go.Abs.AbsBlo (CodeD.run OpsD.run jk keyC jt)
open Go.Abs.Short
abbrev apN:Bs:=[97,112,112]
def appA (B:List Bs):List (Bs × Bs):=B.map fun n=>(apN,n)
theorem mem_appA {B:List Bs} {n:Bs}:(apN,n) ∈ appA B ↔ n ∈ B:=by unfold appA;rw [cq];exact ⟨fun ⟨m,h,e⟩=>by have:=(Prod.mk.inj e).2; rw [← this]; exact h,fun h=>⟨n,h,rfl⟩⟩
theorem ph (B:List Bs):cntS (appA B) apN=B.length:=by unfold cntS appA;rw [ud.2 fun p hp=>by obtain ⟨m,-,rfl⟩:=cq.1 hp; simp,bh]
theorem zl (B:List Bs):(appA B).length=B.length:=bh _
def nxtB (B:List Bs) (n:Bs):List Bs:=if isName n=true∧n ∉ B∧¬ 8≤B.length then B++[n] else B
def wantE (B:List Bs) (n:Bs):Int:=if isName n=true then (if n ∈ B then 0 else if 8≤B.length then 9 else 0) else 13
theorem opE_app (B:List Bs) (n:Bs):opE (appA B) apN n=wantE B n:=by
 unfold opE wantE;have h:isName apN=true:=by decide
 rw [ph];by_cases c:isName n=true
 ·rw [if_pos ⟨h,c⟩,if_pos c];by_cases d:n ∈ B
  ·rw [if_pos (mem_appA.2 d),if_pos d]
  ·rw [if_neg (fun e=>d (mem_appA.1 e)),if_neg d]
 ·rw [if_neg (fun e=>c e.2),if_neg c]
theorem opA_app (B:List Bs) (n:Bs):opA (appA B) apN n=appA (nxtB B n):=by
 unfold opA nxtB;have h:isName apN=true:=by decide
 rw [ph];by_cases c:isName n=true∧n ∉ B∧¬ 8≤B.length
 ·rw [if_pos ⟨h,c.1,fun e=>c.2.1 (mem_appA.1 e),c.2.2⟩,if_pos c];unfold appA;rw [ic]; rfl
 ·rw [if_neg (fun e=>c ⟨e.2.1,fun f=>e.2.2.1 (mem_appA.2 f),e.2.2.2⟩),if_neg c]
theorem filt_appA (B:List Bs) (n:Bs):(appA B).filter (fun p=>decide (p≠(apN,n)))=appA (B.filter fun m=>decide (m≠n)):=by
 unfold appA;rw [List.filter_map];congr 1;refine List.filter_congr fun m _=>?_
 simp
section
variable {P:List AObj} {b N:Nat} {B:List Bs} {x:AVal}
theorem sd (h:FRow N 1 keyC B P x):∃ a c,x = .slice a B.length c:=by
 rcases h with ⟨rfl,rfl⟩ | ⟨-,q,-,rfl,-⟩
 ·exact ⟨_,_,rfl⟩
 ·exact ⟨_,_,rfl⟩
theorem zm (h:FRow N 1 keyC B P x) {i:Nat} {m:Bs} (hm:B[i]? = some m):∃ q,x = .slice (some (q,0)) B.length none∧N≤q∧P[q]? = some (.cells 1 (B.map AVal.str)):=by
 rcases h with ⟨rfl,-⟩ | ⟨-,q,h1,rfl,h3⟩
 ·simp at hm
 ·exact ⟨q,rfl,h1,by rw [← jt]; exact h3⟩
section
attribute [-simp] getElem?_pos getElem?_neg List.all_eq_true
attribute [local simp] qZ qS nltT nltF iltT iltF ileT nleT el
theorem l920d (h:FRow N 1 keyC B P x) (hB:B.length≤1000) {n:Bs} {v1 v2 v8 v9 u1 u2 u3:AVal}:∀ (j i w:Nat) (c:Bool),i+j=B.length→∀ {β:Type} (k:AExit→St→Option β),
  xK T (.loop code920L3) ⟨[(1,.val v1),(2,.val v2),(8,.val v8),(9,.val v9),(10,.val x),(12,.val (.str n)),(13,.val (.bool c)),(52,.val u1),(53,.val u2),(54,.val u3),(61,.val x),(62,.val (.int .i64 B.length)),(63,.val (.int .i64 i))],⟨P,b,w⟩⟩ (k:=⟨k⟩) =
   k (.exit 2) ⟨[(1,.val v1),(2,.val v2),(8,.val v8),(9,.val v9),(10,.val x),(12,.val (.str n)),(13,.val (.bool (c || decide (n ∈ B.drop i)))),(52,.val u1),(53,.val u2),(54,.val u3)],⟨P,b,w⟩⟩
 | 0,i,w,c,hi,β,k=>by
  have hd:B.drop i=[]:=co (by omega);have:¬ ((i:Int) < B.length):=by omega
  rw [cd,hd];simp (disch:=omega) [code920L3,this]
 | j+1,i,w,c,hi,β,k=>by
  obtain ⟨m,hm⟩:∃ m,B[i]? = some m:=⟨_,ai (by omega)⟩;have ih:=fun c=>l920d h hB (n:=n) (v1:=v1) (v2:=v2) (v8:=v8) (v9:=v9) (u1:=u1) (u2:=u2) (u3:=u3) j (i+1) w c (by omega) k
  obtain ⟨q,rfl,-,hq⟩:=zm h hm;have hil:(i:Int) < B.length:=by omega
  have gx:(B.map AVal.str)[i]? = some (.str m):=by rw [bk,hm]; rfl
  have hml:(B.map AVal.str).length=B.length:=bh _;have ei:((i+1:Nat):Int)=(i:Int)+1:=by omega
  rw [ei] at ih
  have hd:decide (n ∈ B.drop i)=(decide (m=n) || decide (n ∈ B.drop (i+1))):=by
   rw [ie hm];by_cases e:m=n
   ·simp [e]
   ·have:n≠m:=fun h=>e h.symm
    simp [e,this]
  rw [cd,hd];generalize decide (n ∈ B.drop (i+1))=dd at *;generalize B.map AVal.str=Y at *;generalize ACode.loop code920L3=LL at *;cases c with
  | true =>
   have ih:=ih true;simp (disch:=omega) [code920L3,hil,hq,gx,hml,ih]
  | false =>
   by_cases e:m=n
   ·have ih:=ih true;simp (disch:=omega) [code920L3,hil,hq,gx,hml,e,ih]
   ·have ih:=ih false;simp (disch:=omega) [code920L3,hil,hq,gx,hml,e,ih]
end
def q920:ACode:=.seq (R [1,2,8,9,10,12,13,17,18,52,53,54] [o 18 (.val (n 0))])
 (.seq (.seq (R [1,2,8,9,10,12,13,17,18,52,53,54,82] [v 80 12,o 81 (.callg 658 [t 80]),o 82 (.un .not (t 81))])
 (.after (.cond (t 82) (R [1,2,8,9,10,17,18,52,53,54] [o 18 (.val (n 13))]) (.seq (R [1,2,8,9,10,12,13,17,18,52,53,54,89] [v 83 13,o 84 (.un .not (t 83)),v 85 84,g 86 85 true (.val (t 10)),g 87 85 true (.len .sl (t 86)),g 88 85 true (.bin .geq (t 87) (n 8)),o 89 (.pick (t 85) (t 88) F)])
 (.after (.cond (t 89) (R [1,2,8,9,10,17,18,52,53,54] [o 18 (.val (n 9))]) (.seq (R [1,2,8,9,10,12,17,18,52,53,54,91] [v 90 13,o 91 (.un .not (t 90))])
 (.after (.cond (t 91) (R [1,2,8,9,10,17,18,52,53,54] [v 92 10,v 93 12,o 94 (.mkslice 1 1 [.str []] [(0,1,t 93)]),o 95 (.append 1 16 (t 92) (t 94)),v 10 95]) (.skip)) [1,2,8,9,10,17,18,52,53,54]))) [1,2,8,9,10,17,18,52,53,54]))) [1,2,8,9,10,17,18,52,53,54]))
 (.seq (R [1,2,8,9,10,52,53,54,98] [v 96 17,v 97 18,o 98 (.bin .neq (t 96) (t 97))])
 (.after (.cond (t 98) (.seq (R [6] [o 6 (.val F)])
 (.live [6] (.ret))) (.skip)) [1,2,8,9,10,52,53,54])))
theorem bodyL4:code920L4 = .live [1,2,8,9,10,52,53,54] (.seq (R [1,2,8,9,10,52,53,54,55] [o 55 (.bin .lss (t 54) (t 53))])
 (.seq (.after (.cond (t 55) (.skip) (.live [1,2,8,9,10] (.exit 0))) [1,2,8,9,10,52,53,54])
 (.seq (.after (.block 1 (.seq (R [1,2,8,9,10,12,52,53,54] [o 56 (.iaddr 1 (t 52) (t 54)),o 57 (.load none (t 56)),v 12 57])
 (.seq (.seq (R [1,2,8,9,10,12,52,53,54,60] [v 58 12,o 59 (.len .str (t 58)),o 60 (.bin .gtr (t 59) (n 100))])
 (.after (.cond (t 60) (.seq (R [6] [o 6 (.val Y)])
 (.live [6] (.ret))) (.skip)) [1,2,8,9,10,12,52,53,54]))
 (.seq (R [1,2,8,9,10,12,13,52,53,54] [o 13 (.val F)])
 (.seq (.seq (R [1,2,8,9,10,12,13,52,53,54,61,62,63] [v 61 10,o 62 (.len .sl (t 61)),o 63 (.val (n 0))])
 (.after (.block 2 (.loop code920L3)) [1,2,8,9,10,12,13,52,53,54]))
 (.seq (R [1,2,8,9,10,12,13,17,52,53,54] [v 75 8,v 76 12,o 77 (.callg 671 [t 75,.const (.str [97,112,112]),t 76,.const (.bool true)]),v 74 77,o 78 (.extract (t 74) 0),o 79 (.extract (t 74) 1),o 16 (.lalloc [.int .u32 0,.int .u32 0,.slice none 0 (some 0)]),u (.store 3 (t 16) (t 78)),v 17 79])
 q920)))))) [1,2,8,9,10,52,53,54])
 (R [1,2,8,9,10,52,53,54] [o 99 (.bin .add (t 54) (n 1)),v 54 99])))):=rfl
section
attribute [-simp] getElem?_pos getElem?_neg List.all_eq_true
attribute [local simp] qZ qS nltT nltF iltT iltF ileT nleT el
theorem q920_run (h:FRow N 1 keyC B P x) (hB:B.length≤8) (hN:N≤P.length) (hb:b≤N) {n:Bs} (hn:n.length≤1000000) {v1 v2 v8 v9 u1 u2 u3:AVal} (w:Nat):∃ P2 x2 w2,FRow N 1 keyC (nxtB B n) P2 x2∧P.length≤P2.length∧(∀ (k:Nat) (o:AObj),k < N→P[k]? = some o→P2[k]? = some o)∧min w N≤w2∧∀ {β:Type} (k:AExit→St→Option β),
  xK T q920 ⟨[(1,.val v1),(2,.val v2),(8,.val v8),(9,.val v9),(10,.val x),(12,.val (.str n)),(13,.val (.bool (decide (n ∈ B)))),(17,.val (.int .i64 (wantE B n))),(52,.val u1),(53,.val u2),(54,.val u3)],⟨P,b,w⟩⟩ (k:=⟨k⟩) =
   k .normal ⟨[(1,.val v1),(2,.val v2),(8,.val v8),(9,.val v9),(10,.val x2),(52,.val u1),(53,.val u2),(54,.val u3)],⟨P2,b,w2⟩⟩:=by
 have h658:=fun w=>du sub (s658 (H:=P) (b:=b) (w:=w) hn)
 obtain ⟨xa,xc,rfl⟩:=sd h;unfold wantE nxtB;cases hnm:isName n with
 | false =>
  rw [hnm] at h658;refine ⟨P,_,w,by simpa using h,aj _,fun k o _ ho=>ho,cz _ _,fun k=>?_⟩;simp (disch:=omega) [q920,h658]
 | true =>
  rw [hnm] at h658;by_cases hm:n ∈ B
  ·refine ⟨P,_,w,by simpa [hm] using h,aj _,fun k o _ ho=>ho,cz _ _,fun k=>?_⟩;simp (disch:=omega) [q920,h658,hm]
  ·by_cases h8:8≤B.length
   ·have h8':(8:Int)≤B.length:=by omega
    refine ⟨P,_,w,by simpa [hm,h8] using h,aj _,fun k o _ ho=>ho,cz _ _,fun k=>?_⟩;simp (disch:=omega) [q920,h658,hm,h8,h8']
   ·have h8':¬ (8:Int)≤B.length:=by omega
    obtain ⟨P2,x2,n2,f1,f2,f3,f4,f5⟩:=h.add' (b:=b) (by':=16) (fun _=>rfl) hN hb (by omega) (by omega) n;refine ⟨P2,x2,n2 w,by simpa [hm,h8] using f1,f3,fun k o hk ho=>f2 _ _ ho fun h=>by omega,(f4 w).2,fun k=>?_⟩;unfold keyC at f5;simp (disch:=omega) [q920,-ex,h658,hm,h8,h8',f5]
end
end
end Go.Abs.AbsRm

namespace Go.Abs.AbsRm
open Go.Abs.AbsBlb hiding T
open Go.Abs.AbsNat hiding T sub
open Go.Abs.AbsBlo (CodeD.run OpsD.run jk keyC jt)
open Go.Abs.Short
structure NS (kl:List Bs) (H:List AObj) (N:Nat) (I:SI) (B:List Bs) (i:Nat) (P:List AObj) (F:Fl) (K:StU) (x:AVal) (w:Nat):Prop where
 law:LawS kl I P F K (appA B) i
 row:FRow N 1 keyC B P x
 len:N≤P.length
 low:∀ (k:Nat) (o:AObj),k < H.length→H[k]? = some o→P[k]? = some o
 b8:B.length≤8
 wl:H.length≤w
structure NC (kl:List Bs) (H:List AObj) (N:Nat) (I:SI) (b:Nat):Prop where
 hi:I.hi < N
 lo:H.length≤I.s∧H.length≤I.sa∧H.length≤I.m∧H.length≤I.fi.fb∧H.length≤I.fi.fw
 b:b=H.length
 fl:I.fi.fl < N
 kl:∀ k ∈ kl,1≤k.length∧k.length≤64
theorem NC.ilo {kl:List Bs} {H:List AObj} {N:Nat} {I:SI} {b:Nat} (h:NC kl H N I b):I.lo b:=by have:=h.lo; have:=h.b;exact ⟨by omega,by omega,by omega,by omega,by omega⟩
theorem NC.low {kl:List Bs} {H P P':List AObj} {N:Nat} {I:SI} {b:Nat} (h:NC kl H N I b) (hs:StF I P P') (hl:∀ (k:Nat) (o:AObj),k < H.length→H[k]? = some o→P[k]? = some o):∀ (k:Nat) (o:AObj),k < H.length→H[k]? = some o→P'[k]? = some o:=fun k o hk ho=>by have:=h.lo;exact hs.keep k o (hl k o hk ho) (by omega) (by omega) (by omega) (by omega) (by omega)
theorem NC.n {kl:List Bs} {H:List AObj} {N:Nat} {I:SI} {b:Nat} (h:NC kl H N I b):b≤N:=by have:=h.lo; have:=h.b; have:=h.hi;unfold SI.hi at this;omega
section
variable {E:Env} {kl:List Bs} {H:List AObj} {N b:Nat} {I:SI} {L:List Bs} {a:Option (Nat × Nat)} {c:Option Nat} {v1 v2:AVal}
def nst (I:SI) (b:Nat) (v1 v2 x nv:AVal) (ln:Nat) (i:Nat) (P:List AObj) (w:Nat):St:=⟨[(1,.val v1),(2,.val v2),(8,.val (.ptr (some (I.s,0)))),(9,.val (.bool true)),(10,.val x),(52,.val nv),(53,.val (.int .i64 ln)),(54,.val (.int .i64 i))],⟨P,b,w⟩⟩
def NI (kl:List Bs) (H:List AObj) (N:Nat) (I:SI) (b:Nat) (v1 v2 nv:AVal) (ln:Nat) (m:Nat) (st:St):Prop:=∃ i P F K B x w,i≤ln∧m=ln - i∧NS kl H N I B i P F K x w∧st=nst I b v1 v2 x nv ln i P w
def NQ (kl:List Bs) (H:List AObj) (N:Nat) (I:SI) (b:Nat) (v1 v2:AVal) (ln:Nat) (e:AExit) (st:St):Prop:=(e = .ret∧∃ P w,H.length≤w∧st=⟨[(6,.val (.bool true))],⟨P,b,w⟩⟩) ∨
 (e = .exit 0∧∃ P F K B x w,NS kl H N I B ln P F K x w∧st=⟨[(1,.val v1),(2,.val v2),(8,.val (.ptr (some (I.s,0)))),(9,.val (.bool true)),(10,.val x)],⟨P,b,w⟩⟩)
section
attribute [-simp] getElem?_pos getElem?_neg List.all_eq_true
attribute [local simp] qZ qS nltT nltF iltT iltF ileT nleT el
theorem names_loop (hC:CodesM E) (hN:NC kl H N I b) (hR:Row H 1 keyC L a) (hL:L.length≤14) (hkl:∀ n ∈ L,isName n=true→keyB apN n ∈ kl) {P0:List AObj} {F0:Fl} {K0:StU} {x0:AVal} {w0:Nat} (h0:NS kl H N I [] 0 P0 F0 K0 x0 w0) :
  CodeD E (.loop code920L4) (nst I b v1 v2 x0 (.slice a L.length c) L.length 0 P0 w0) (NQ kl H N I b v1 v2 L.length):=by
 have hT:=hC.t;have hm:=hC.r.c.m;refine CodeD.loop (NI kl H N I b v1 v2 (.slice a L.length c) L.length) (fun m st hI=>?_) L.length _ ⟨0,P0,F0,K0,[],x0,w0,ge _,rfl,h0,rfl⟩;obtain ⟨i,P,F,K,B,x,w,hi,rfl,hS,rfl⟩:=hI;unfold nst;rw [bodyL4];refine CodeD.live ?_;have hk0:keepK [1,2,8,9,10,52,53,54] [(1,Slot.val v1),(2,.val v2),(8,.val (.ptr (some (I.s,0)))),(9,.val (.bool true)),(10,.val x),(52,.val (.slice a L.length c)),(53,.val (.int .i64 L.length)),(54,.val (.int .i64 i))]=[(1,.val v1),(2,.val v2),(8,.val (.ptr (some (I.s,0)))),(9,.val (.bool true)),(10,.val x),(52,.val (.slice a L.length c)),(53,.val (.int .i64 L.length)),(54,.val (.int .i64 i))]:=by simp
 rw [hk0];by_cases hlt:i < L.length
 ·have hil:(i:Int) < L.length:=by omega
  obtain ⟨n,hn⟩:∃ n,L[i]? = some n:=⟨_,ai hlt⟩;obtain ⟨bb,o',cs,rfl,hrow,hpart⟩:=hR.at' (js hn);obtain ⟨p1,p2⟩:=hpart i n hn;have hPr:=hS.low _ _ (ah hrow) hrow;have hnm:=bn hn;have hkn:keyC n=[.str n]:=rfl;rw [hkn,r0] at p2;rw [r0] at p1
  have hcs:cs[o'+i]? = some (.str n):=by
   have hlc:o'+i < cs.length:=by omega
   rw [jw hlc] at p2;rw [ai hlc];have:=List.head_eq_of_cons_eq p2;exact congrArg some this
  refine CodeD.seq nofun (CodeD.run hT hm (e:=.normal) (st':=⟨[(1,.val v1),(2,.val v2),(8,.val (.ptr (some (I.s,0)))),(9,.val (.bool true)),(10,.val x),(52,.val (.slice (some (bb,o')) L.length c)),(53,.val (.int .i64 L.length)),(54,.val (.int .i64 i)),(55,.val (.bool true))],⟨P,b,w⟩⟩) (fun k'=>by simp (disch:=omega) [hil]) ?_);refine CodeD.seq nofun (CodeD.run hT hm (e:=.normal) (st':=⟨[(1,.val v1),(2,.val v2),(8,.val (.ptr (some (I.s,0)))),(9,.val (.bool true)),(10,.val x),(52,.val (.slice (some (bb,o')) L.length c)),(53,.val (.int .i64 L.length)),(54,.val (.int .i64 i))],⟨P,b,w⟩⟩) (fun k'=>by simp (disch:=omega) []) ?_);refine CodeD.seq nofun (CodeD.after (CodeD.block ?_))
  refine CodeD.seq nofun (CodeD.run hT hm (e:=.normal) (st':=⟨[(1,.val v1),(2,.val v2),(8,.val (.ptr (some (I.s,0)))),(9,.val (.bool true)),(10,.val x),(12,.val (.str n)),(52,.val (.slice (some (bb,o')) L.length c)),(53,.val (.int .i64 L.length)),(54,.val (.int .i64 i))],⟨P,b,w⟩⟩) (fun k'=>by simp (disch:=omega) [hPr,hcs]) ?_);by_cases hn1:n.length≤100
  ·have hn1':¬ (100:Int) < n.length:=by omega
   refine CodeD.seq nofun (CodeD.run hT hm (e:=.normal) (st':=⟨[(1,.val v1),(2,.val v2),(8,.val (.ptr (some (I.s,0)))),(9,.val (.bool true)),(10,.val x),(12,.val (.str n)),(52,.val (.slice (some (bb,o')) L.length c)),(53,.val (.int .i64 L.length)),(54,.val (.int .i64 i))],⟨P,b,w⟩⟩) (fun k'=>by simp (disch:=omega) [hn1']) ?_);refine CodeD.seq nofun (CodeD.run hT hm (e:=.normal) (st':=⟨[(1,.val v1),(2,.val v2),(8,.val (.ptr (some (I.s,0)))),(9,.val (.bool true)),(10,.val x),(12,.val (.str n)),(13,.val (.bool false)),(52,.val (.slice (some (bb,o')) L.length c)),(53,.val (.int .i64 L.length)),(54,.val (.int .i64 i))],⟨P,b,w⟩⟩) (fun k'=>by simp (disch:=omega) []) ?_);have hb8:=hS.b8
   have hd:=fun (k:AExit→St→Option Unit)=>l920d (b:=b) hS.row (by omega) (n:=n) (v1:=v1) (v2:=v2) (v8:=.ptr (some (I.s,0))) (v9:=.bool true) (u1:=.slice (some (bb,o')) L.length c) (u2:=.int .i64 L.length) (u3:=.int .i64 i) B.length 0 w false (by omega) k
   simp only [ba,Bool.false_or,eq] at hd;obtain ⟨xa,xc,hxe⟩:=sd hS.row
   refine CodeD.seq nofun (CodeD.run hT hm (e:=.normal) (st':=⟨[(1,.val v1),(2,.val v2),(8,.val (.ptr (some (I.s,0)))),(9,.val (.bool true)),(10,.val x),(12,.val (.str n)),(13,.val (.bool (decide (n ∈ B)))),(52,.val (.slice (some (bb,o')) L.length c)),(53,.val (.int .i64 L.length)),(54,.val (.int .i64 i))],⟨P,b,w⟩⟩) (fun k'=>by rw [hxe] at hd ⊢;simp (disch:=omega) [hd]) ?_)
   have hnl:isName n=true→n.length≤16:=g9;have hop:=AbsNat.open_any hC.r hS.law (by omega) (by rw [zl]; omega) hN.kl hN.ilo (cf hN.n hS.len) (s:=apN) (k:=n) (by decide) (by omega) (fun _ h=>by have:=hnl h; show 3+n.length≤19; omega) (fun _ h _ _=>hkl n hnm h) w;rw [opE_app,opA_app] at hop;refine CodeD.seq nofun (CodeD.after (CodeD.regionX hT hm ?_))
   refine OpsD.run (l:=[v 75 8,v 76 12]) (r:=[o 77 (.callg 671 [t 75,.const (.str [97,112,112]),t 76,.const (.bool true)]),v 74 77,o 78 (.extract (t 74) 0),o 79 (.extract (t 74) 1),o 16 (.lalloc [.int .u32 0,.int .u32 0,.slice none 0 (some 0)]),u (.store 3 (t 16) (t 78)),v 17 79]) (s1:=[(76,.val (.str n)),(75,.val (.ptr (some (I.s,0)))),(1,.val v1),(2,.val v2),(8,.val (.ptr (some (I.s,0)))),(9,.val (.bool true)),(10,.val x),(12,.val (.str n)),(13,.val (.bool (decide (n ∈ B)))),(52,.val (.slice (some (bb,o')) L.length c)),(53,.val (.int .i64 L.length)),(54,.val (.int .i64 i))]) (h1:=⟨P,b,w⟩) (fun k'=>by simp (disch:=omega) []) ?_;refine OpsD.call (g:=671) (xs:=[t 75,.const (.str [97,112,112]),t 76,.const (.bool true)]) rfl rfl rfl hop fun vv hh hR'=>?_
   obtain ⟨y1,y2,y3,rfl,P1,F1,K1,w1,t1,rfl,q1,q2,q3,q4⟩:=hR'
   refine OpsD.run (l:=[v 74 77,o 78 (.extract (t 74) 0),o 79 (.extract (t 74) 1),o 16 (.lalloc [.int .u32 0,.int .u32 0,.slice none 0 (some 0)]),u (.store 3 (t 16) (t 78)),v 17 79]) (r:=[]) (s1:=[(17,.val (.int .i64 (wantE B n))),(16,.var [y1,y2,y3]),(16,.var [.int .u32 0,.int .u32 0,.slice none 0 (some 0)]),(79,.val (.int .i64 (wantE B n))),(78,.val (.agg [y1,y2,y3])),(74,.val (.tuple [.agg [y1,y2,y3],.int .i64 (wantE B n)])),(77,.val (.tuple [.agg [y1,y2,y3],.int .i64 (wantE B n)])),(76,.val (.str n)),(75,.val (.ptr (some (I.s,0)))),(1,.val v1),(2,.val v2),(8,.val (.ptr (some (I.s,0)))),(9,.val (.bool true)),(10,.val x),(12,.val (.str n)),(13,.val (.bool (decide (n ∈ B)))),(52,.val (.slice (some (bb,o')) L.length c)),(53,.val (.int .i64 L.length)),(54,.val (.int .i64 i))]) (h1:=⟨P1,b,w1⟩) (fun k'=>by simp (disch:=omega) []) (OpsD.done ?_);simp only []
   have hk1:keepK [1,2,8,9,10,12,13,17,52,53,54] [(17,Slot.val (.int .i64 (wantE B n))),(16,.var [y1,y2,y3]),(16,.var [.int .u32 0,.int .u32 0,.slice none 0 (some 0)]),(79,.val (.int .i64 (wantE B n))),(78,.val (.agg [y1,y2,y3])),(74,.val (.tuple [.agg [y1,y2,y3],.int .i64 (wantE B n)])),(77,.val (.tuple [.agg [y1,y2,y3],.int .i64 (wantE B n)])),(76,.val (.str n)),(75,.val (.ptr (some (I.s,0)))),(1,.val v1),(2,.val v2),(8,.val (.ptr (some (I.s,0)))),(9,.val (.bool true)),(10,.val x),(12,.val (.str n)),(13,.val (.bool (decide (n ∈ B)))),(52,.val (.slice (some (bb,o')) L.length c)),(53,.val (.int .i64 L.length)),(54,.val (.int .i64 i))]=[(1,.val v1),(2,.val v2),(8,.val (.ptr (some (I.s,0)))),(9,.val (.bool true)),(10,.val x),(12,.val (.str n)),(13,.val (.bool (decide (n ∈ B)))),(17,.val (.int .i64 (wantE B n))),(52,.val (.slice (some (bb,o')) L.length c)),(53,.val (.int .i64 L.length)),(54,.val (.int .i64 i))]:=by simp
   rw [hk1];have hrow1:FRow N 1 keyC B P1 x:=hS.row.mono fun k o hk ho=>q1.above hN.hi k o hk ho
   have hlen1:=q1.len;have hNl:=hS.len;have hbH:=hN.b;have hmk:=hS.wl;obtain ⟨P2,x2,w2,g1,g2,g3,g4,g5⟩:=q920_run (b:=b) hrow1 hb8 (by omega) hN.n (n:=n) (by omega) (v1:=v1) (v2:=v2) (v8:=.ptr (some (I.s,0))) (v9:=.bool true) (u1:=.slice (some (bb,o')) L.length c) (u2:=.int .i64 L.length) (u3:=.int .i64 i) w1;refine CodeD.run hT hm (e:=.normal) (st':=⟨[(1,.val v1),(2,.val v2),(8,.val (.ptr (some (I.s,0)))),(9,.val (.bool true)),(10,.val x2),(52,.val (.slice (some (bb,o')) L.length c)),(53,.val (.int .i64 L.length)),(54,.val (.int .i64 i))],⟨P2,b,w2⟩⟩) (fun k'=>g5 k') ?_;simp only [blkE]
   have hk2:keepK [1,2,8,9,10,52,53,54] [(1,Slot.val v1),(2,.val v2),(8,.val (.ptr (some (I.s,0)))),(9,.val (.bool true)),(10,.val x2),(52,.val (.slice (some (bb,o')) L.length c)),(53,.val (.int .i64 L.length)),(54,.val (.int .i64 i))]=[(1,.val v1),(2,.val v2),(8,.val (.ptr (some (I.s,0)))),(9,.val (.bool true)),(10,.val x2),(52,.val (.slice (some (bb,o')) L.length c)),(53,.val (.int .i64 L.length)),(54,.val (.int .i64 i))]:=by simp
   rw [hk2];have ei:((i+1:Nat):Int)=(i:Int)+1:=by omega
   refine CodeD.run hT hm (e:=.normal) (st':=nst I b v1 v2 x2 (.slice (some (bb,o')) L.length c) L.length (i+1) P2 w2) (fun k'=>by unfold nst;rw [ei];simp (disch:=omega) []) ?_
   have hpN:I.hi < N:=hN.hi;have hNs:N≤P1.length:=by omega
   have hfl1:=q2.so.a;have hlaw2:LawS kl I P2 F1 K1 (appA (nxtB B n)) (i+1):=⟨⟨hfl1.low (N:=N) ⟨hN.hi,hN.fl⟩ fun k o hk ho=>g3 k o hk ho,q2.so.v⟩,q2.ks,by have:=q2.bd; omega,by have:=q2.sq; omega,q2.z,q2.n⟩;refine ⟨L.length - (i+1),by omega,i+1,P2,F1,K1,nxtB B n,x2,w2,by omega,rfl,⟨hlaw2,g1,by omega,fun k o hk ho=>g3 k o (by have:=hN.n; omega) (hN.low q1 hS.low k o hk ho),?_,?_⟩,rfl⟩
   ·unfold nxtB;split
    ·rw [aq]; simp; omega
    ·exact hb8
   ·have:=hN.n;omega
  ·have hn1':(100:Int) < n.length:=by omega
   refine CodeD.seq nofun (CodeD.run hT hm (e:=.ret) (st':=⟨[(6,.val (.bool true))],⟨P,b,w⟩⟩) (fun k'=>by simp (disch:=omega) [hn1']) ?_);exact .inl ⟨rfl,P,w,hS.wl,rfl⟩
 ·have hil:¬ (i:Int) < L.length:=by omega
  refine CodeD.seq nofun (CodeD.run hT hm (e:=.normal) (st':=⟨[(1,.val v1),(2,.val v2),(8,.val (.ptr (some (I.s,0)))),(9,.val (.bool true)),(10,.val x),(52,.val (.slice a L.length c)),(53,.val (.int .i64 L.length)),(54,.val (.int .i64 i)),(55,.val (.bool false))],⟨P,b,w⟩⟩) (fun k'=>by simp (disch:=omega) [hil]) ?_);refine CodeD.seq nofun (CodeD.run hT hm (e:=.exit 0) (st':=⟨[(1,.val v1),(2,.val v2),(8,.val (.ptr (some (I.s,0)))),(9,.val (.bool true)),(10,.val x)],⟨P,b,w⟩⟩) (fun k'=>by simp (disch:=omega) []) ?_);obtain rfl:i=L.length:=by omega
  exact .inr ⟨rfl,P,F,K,B,x,w,hS,rfl⟩
end
end
end Go.Abs.AbsRm

namespace Go.Abs.AbsRm
open Go.Abs.AbsBlb hiding T
open Go.Abs.AbsNat hiding T sub
open Go.Abs.AbsBlo (CodeD.run OpsD.run jk keyC jt)
open Go.Abs.Short
theorem law_kl {kl:List Bs} {I:SI} {P:List AObj} {F:Fl} {K:StU} {A:List (Bs × Bs)} {t:Nat} (h:LawS kl I P F K A t) {s k:Bs} (hm:(s,k) ∈ A):keyB s k ∈ kl:=by have h1:keyB s k ∈ A.map keyP:=cq.2 ⟨(s,k),hm,rfl⟩;rw [← h.ks.ks] at h1;obtain ⟨e,he,h2⟩:=cq.1 h1;rw [← h2];exact (h.so.v.en e he).2.2.1
section
variable {P0:List AObj} {b N N2:Nat} {B:List Bs} {x:AVal}
section
attribute [-simp] getElem?_pos getElem?_neg List.all_eq_true
attribute [local simp] qZ qS nltT nltF iltT iltF ileT nleT el
theorem l920r (h:FRow N 1 keyC B P0 x) (hB:B.length≤8) (hN2:N2=P0.length) (hb:b≤N2) {n:Bs} {v2 v8 v9 u1 u2 u3:AVal}:∀ (j i w:Nat) (P:List AObj) (Y:List Bs) (y:AVal),i+j=B.length→Y.length≤i→FRow N2 1 keyC Y P y→N2≤P.length→(∀ (k:Nat) (o:AObj),P0[k]? = some o→P[k]? = some o) →
  ∃ P' y' w',FRow N2 1 keyC (Y++(B.drop i).filter (fun m=>decide (m≠n))) P' y'∧N2≤P'.length∧(∀ (k:Nat) (o:AObj),P0[k]? = some o→P'[k]? = some o)∧min w N2≤w'∧∀ {β:Type} (k:AExit→St→Option β),
   xK T (.loop code920L1) ⟨[(2,.val v2),(8,.val v8),(9,.val v9),(10,.val x),(20,.val (.str n)),(21,.val y),(100,.val u1),(101,.val u2),(102,.val u3),(106,.val x),(107,.val (.int .i64 B.length)),(108,.val (.int .i64 i))],⟨P,b,w⟩⟩ (k:=⟨k⟩) =
    k (.exit 6) ⟨[(2,.val v2),(8,.val v8),(9,.val v9),(10,.val x),(20,.val (.str n)),(21,.val y'),(100,.val u1),(101,.val u2),(102,.val u3)],⟨P',b,w'⟩⟩
 | 0,i,w,P,Y,y,hi,hY,hr,hl,hk=>by
  have hd:B.drop i=[]:=co (by omega);have:¬ ((i:Int) < B.length):=by omega
  refine ⟨P,y,w,by rw [hd]; simpa using hr,hl,hk,cz _ _,fun k=>?_⟩;rw [cd];simp (disch:=omega) [code920L1,this]
 | j+1,i,w,P,Y,y,hi,hY,hr,hl,hk=>by
  obtain ⟨m,hm⟩:∃ m,B[i]? = some m:=⟨_,ai (by omega)⟩;obtain ⟨q,hxe,-,hq⟩:=zm h hm;have hq:=hk _ _ hq;have hil:(i:Int) < B.length:=by omega
  have gx:(B.map AVal.str)[i]? = some (.str m):=by rw [bk,hm]; rfl
  have hml:(B.map AVal.str).length=B.length:=bh _;have ei:((i+1:Nat):Int)=(i:Int)+1:=by omega
  by_cases e:m=n
  ·obtain ⟨P',y',w',f1,f2,f3,f4,f5⟩:=l920r h hB hN2 hb (n:=n) (v2:=v2) (v8:=v8) (v9:=v9) (u1:=u1) (u2:=u2) (u3:=u3) j (i+1) w P Y y (by omega) (by omega) hr hl hk;refine ⟨P',y',w',by rw [ie hm,List.filter_cons_of_neg (by simp [e])]; exact f1,f2,f3,f4,fun k=>?_⟩;have f5:=f5 k;rw [ei] at f5;rw [cd];subst hxe;generalize B.map AVal.str=Z at *;generalize ACode.loop code920L1=LL at *;simp (disch:=omega) [code920L1,hil,hq,gx,hml,e,f5]
  ·obtain ⟨P2,y2,n2,g1,g2,g3,g4,g5⟩:=hr.add (b:=b) (by':=16) (fun _=>rfl) hl hb (by omega) (by omega) m;obtain ⟨P',y',w',f1,f2,f3,f4,f5⟩:=l920r h hB hN2 hb (n:=n) (v2:=v2) (v8:=v8) (v9:=v9) (u1:=u1) (u2:=u2) (u3:=u3) j (i+1) (n2 w) P2 (Y++[m]) y2 (by omega) (by rw [aq]; simp; omega) g1 (by omega) (fun k o ho=>g2 k o (by have:=ah ho; omega) (hk k o ho));refine ⟨P',y',w',by rw [ie hm,List.filter_cons_of_pos (by simp [e])]; rw [az] at f1; exact f1,f2,f3,by have:=(g4 w).2; omega,fun k=>?_⟩;have f5:=f5 k;rw [ei] at f5;rw [cd];unfold keyC at g5;have e':¬ m=n:=e;subst hxe;generalize B.map AVal.str=Z at *;generalize ACode.loop code920L1=LL at *;simp (disch:=omega) [code920L1,-ex,hil,hq,gx,hml,e',g5,f5]
end
end
section
variable {E:Env} {kl:List Bs} {H:List AObj} {N b t0:Nat} {I:SI} {L:List Bs} {a:Option (Nat × Nat)} {c:Option Nat} {v2:AVal}
theorem bodyL2:code920L2 = .live [2,8,9,10,100,101,102] (.seq (R [2,8,9,10,100,101,102,103] [o 103 (.bin .lss (t 102) (t 101))])
 (.seq (.after (.cond (t 103) (.skip) (.live [2,8,9,10] (.exit 4))) [2,8,9,10,100,101,102])
 (.seq (.after (.block 5 (.seq (R [2,8,9,10,20,100,101,102] [o 104 (.iaddr 1 (t 100) (t 102)),o 105 (.load none (t 104)),v 20 105])
 (.seq (R [2,8,9,10,20,21,100,101,102] [o 21 (.val (.const (.slice none 0 (some 0))))])
 (.seq (.seq (R [2,8,9,10,20,21,100,101,102,106,107,108] [v 106 10,o 107 (.len .sl (t 106)),o 108 (.val (n 0))])
 (.after (.block 6 (.loop code920L1)) [2,8,9,10,20,21,100,101,102]))
 (.seq (R [2,8,9,10,20,21,24,100,101,102] [v 120 8,v 121 20,o 122 (.callg 921 [t 120,.const (.str [97,112,112]),t 121]),v 24 122])
 (.seq (.seq (R [2,8,9,21,100,101,102,135] [v 123 20,o 124 (.len .str (t 123)),o 125 (.bin .leq (t 124) (n 100)),v 126 125,g 127 126 true (.val (t 24)),g 128 126 true (.bin .eql (t 127) (n 0)),g 129 126 true (.val (t 21)),g 130 126 true (.len .sl (t 129)),g 131 126 true (.val (t 10)),g 132 126 true (.len .sl (t 131)),g 133 126 true (.bin .lss (t 130) (t 132)),g 134 126 true (.beq true (t 128) (t 133)),o 135 (.pick (t 126) (t 134) F)])
 (.after (.cond (t 135) (.seq (R [6] [o 6 (.val F)])
 (.live [6] (.ret))) (.skip)) [2,8,9,21,100,101,102]))
 (R [2,8,9,10,100,101,102] [v 136 21,v 10 136]))))))) [2,8,9,10,100,101,102])
 (R [2,8,9,10,100,101,102] [o 137 (.bin .add (t 102) (n 1)),v 102 137])))):=rfl
def dst (I:SI) (b:Nat) (v2 x dv:AVal) (ln:Nat) (i:Nat) (P:List AObj) (w:Nat):St:=⟨[(2,.val v2),(8,.val (.ptr (some (I.s,0)))),(9,.val (.bool true)),(10,.val x),(100,.val dv),(101,.val (.int .i64 ln)),(102,.val (.int .i64 i))],⟨P,b,w⟩⟩
def DI (kl:List Bs) (H:List AObj) (N:Nat) (I:SI) (b t0:Nat) (v2 dv:AVal) (ln:Nat) (m:Nat) (st:St):Prop:=∃ i P F K B x w,i≤ln∧m=ln - i∧NS kl H N I B (t0+i) P F K x w∧st=dst I b v2 x dv ln i P w
def DQ (kl:List Bs) (H:List AObj) (N:Nat) (I:SI) (b t0:Nat) (v2:AVal) (ln:Nat) (e:AExit) (st:St):Prop :=
 e = .exit 4∧∃ P F K B x w,NS kl H N I B (t0+ln) P F K x w∧st=⟨[(2,.val v2),(8,.val (.ptr (some (I.s,0)))),(9,.val (.bool true)),(10,.val x)],⟨P,b,w⟩⟩
section
attribute [-simp] getElem?_pos getElem?_neg List.all_eq_true
attribute [local simp] qZ qS nltT nltF iltT iltF ileT nleT el
theorem drop_loop (hC:CodesM E) (hN:NC kl H N I b) (hR:Row H 1 keyC L a) (hL:L.length≤14) (ht:t0+L.length≤30) (hLl:∀ n ∈ L,n.length≤140737488355328) {B0:List Bs} {P0:List AObj} {F0:Fl} {K0:StU} {x0:AVal} {w0:Nat} (h0:NS kl H N I B0 t0 P0 F0 K0 x0 w0) :
  CodeD E (.loop code920L2) (dst I b v2 x0 (.slice a L.length c) L.length 0 P0 w0) (DQ kl H N I b t0 v2 L.length):=by
 have hT:=hC.t;have hm:=hC.r.c.m;refine CodeD.loop (DI kl H N I b t0 v2 (.slice a L.length c) L.length) (fun m st hI=>?_) L.length _ ⟨0,P0,F0,K0,B0,x0,w0,ge _,rfl,h0,rfl⟩;obtain ⟨i,P,F,K,B,x,w,hi,rfl,hS,rfl⟩:=hI;unfold dst;rw [bodyL2];refine CodeD.live ?_;have hk0:keepK [2,8,9,10,100,101,102] [(2,Slot.val v2),(8,.val (.ptr (some (I.s,0)))),(9,.val (.bool true)),(10,.val x),(100,.val (.slice a L.length c)),(101,.val (.int .i64 L.length)),(102,.val (.int .i64 i))]=[(2,.val v2),(8,.val (.ptr (some (I.s,0)))),(9,.val (.bool true)),(10,.val x),(100,.val (.slice a L.length c)),(101,.val (.int .i64 L.length)),(102,.val (.int .i64 i))]:=by simp
 rw [hk0];by_cases hlt:i < L.length
 ·have hil:(i:Int) < L.length:=by omega
  obtain ⟨n,hn⟩:∃ n,L[i]? = some n:=⟨_,ai hlt⟩;obtain ⟨bb,o',cs,rfl,hrow,hpart⟩:=hR.at' (js hn);obtain ⟨p1,p2⟩:=hpart i n hn;have hPr:=hS.low _ _ (ah hrow) hrow;have hnm:=bn hn;have hkn:keyC n=[.str n]:=rfl;rw [hkn,r0] at p2;rw [r0] at p1
  have hcs:cs[o'+i]? = some (.str n):=by
   have hlc:o'+i < cs.length:=by omega
   rw [jw hlc] at p2;rw [ai hlc];have:=List.head_eq_of_cons_eq p2;exact congrArg some this
  have hb8:=hS.b8;have hNl:=hS.len;have hbn:=hN.n;have hbH:=hN.b;have hwl:=hS.wl;obtain ⟨xa,xc,hxe⟩:=sd hS.row;obtain ⟨P1,y1,w1,f1,f2,f3,f4,f5⟩:=l920r hS.row hb8 rfl (b:=b) (by omega) (n:=n) (v2:=v2) (v8:=.ptr (some (I.s,0))) (v9:=.bool true) (u1:=.slice (some (bb,o')) L.length c) (u2:=.int .i64 L.length) (u3:=.int .i64 i) B.length 0 w P [] (.slice none 0 (some 0)) (by omega) (aj _) (.inl ⟨rfl,rfl⟩) (aj _) (fun k o ho=>ho);simp only [eq,ff,ba] at f1 f5;have hlaw1:LawS kl I P1 F K (appA B) (t0+i):=⟨⟨hS.law.so.a.low (N:=N) ⟨hN.hi,hN.fl⟩ fun k o hk ho=>f3 k o ho,hS.law.so.v⟩,hS.law.ks,hS.law.bd,hS.law.sq,hS.law.z,hS.law.n⟩;obtain ⟨e,P2,F2,K2,nx,c1,c2,c3,c4,c5⟩:=drop_any hlaw1 (by omega) hN.kl hN.ilo (cf hN.n (by omega)) (s:=apN) (k:=n) (by decide) (hLl n hnm) (fun h=>by have:=g9 h; show 3+n.length≤19; omega) (fun h=>law_kl hlaw1 h);rw [filt_appA] at c2;rw [mem_appA] at c4
  have hfl:(B.filter fun m=>decide (m≠n)).length≤B.length:=List.length_filter_le _ _
  have hlf:((B.filter fun m=>decide (m≠n)).length:Int) < B.length ↔ n ∈ B:=by
   rw [Int.ofNat_lt];constructor
   ·intro h;refine Decidable.byContradiction fun hc=>?_
    rw [zo hc] at h;omega
   ·intro h;refine Nat.lt_of_le_of_ne hfl fun e=>?_
    have:=List.length_filter_eq_length_iff.1 e n h;simp at this
  obtain ⟨ya,yc,hye⟩:=sd f1
  have hcon:(decide (e=0) != decide (((B.filter fun m=>decide (m≠n)).length:Int) < B.length))=false:=by
   by_cases hb':n ∈ B
   ·simp only [decide_eq_true (c4.2 hb'),decide_eq_true (hlf.2 hb'),bne_self_eq_false]
   ·have e1:¬ e=0:=fun h=>hb' (c4.1 h)
    have e2:¬ ((B.filter fun m=>decide (m≠n)).length:Int) < B.length:=fun h=>hb' (hlf.1 h)
    simp only [decide_eq_false e1,decide_eq_false e2,bne_self_eq_false]
  have hcl:=c1.len;refine CodeD.run hT hm (e:=.normal) (st':=dst I b v2 y1 (.slice (some (bb,o')) L.length c) L.length (i+1) P2 (nx w1)) (fun k'=>?_) ?_
  ·have ei:((i+1:Nat):Int)=(i:Int)+1:=by omega
   unfold dst;rw [ei];rw [hxe] at f5 ⊢;rw [hye] at f5 ⊢;generalize (B.filter fun m=>decide (m≠n)).length=fl at *;generalize ACode.loop code920L1=LL at *;by_cases h1:(n.length:Int)≤100
   ·by_cases h2:e=0
    ·have h3:(fl:Int) < B.length:=by
      refine Decidable.byContradiction fun hc=>?_
      simp [h2,hc] at hcon
     simp (disch:=omega) [hil,hPr,hcs,f5,c5,h1,h2,h3]
    ·have h3:¬ (fl:Int) < B.length:=fun hc=>by simp [h2,hc] at hcon
     simp (disch:=omega) [hil,hPr,hcs,f5,c5,h1,h2,h3]
   ·simp (disch:=omega) [hil,hPr,hcs,f5,c5,h1]
  ·have hrow2:FRow P.length 1 keyC (B.filter fun m=>decide (m≠n)) P2 y1:=f1.mono fun k o hk ho=>c1.above (N:=P.length) (by have:=hN.hi; omega) k o hk ho
   refine ⟨L.length - (i+1),by omega,i+1,P2,F2,K2,_,y1,nx w1,by omega,rfl,⟨c2,FRow.weak hrow2 hNl,by omega,fun k o hk ho=>hN.low c1 (fun k o hk ho=>f3 k o (hS.low k o hk ho)) k o hk ho,by omega,?_⟩,rfl⟩;have:=c3 w1;omega
 ·have hil:¬ (i:Int) < L.length:=by omega
  refine CodeD.run hT hm (e:=.exit 4) (st':=⟨[(2,.val v2),(8,.val (.ptr (some (I.s,0)))),(9,.val (.bool true)),(10,.val x)],⟨P,b,w⟩⟩) (fun k'=>by simp (disch:=omega) [hil]) ?_;obtain rfl:i=L.length:=by omega
  exact ⟨rfl,P,F,K,B,x,w,hS,rfl⟩
end
end
end Go.Abs.AbsRm

namespace Go.Abs.AbsRm
open Go.Abs.AbsBlb hiding T
open Go.Abs.AbsNat hiding T sub
open Go.Abs.AbsBlo (CodeD.run OpsD.run jk keyC jt)
open Go.Abs.Short
section
variable {P:List AObj} {b N:Nat} {B:List Bs} {x:AVal}
section
attribute [-simp] getElem?_pos getElem?_neg List.all_eq_true
attribute [local simp] qZ qS nltT nltF iltT iltF ileT nleT el
theorem l920x (h:FRow N 1 keyC B P x) (hB:B.length≤1000) {v2 v9 v26 v27 v28:AVal}:∀ (j i w:Nat) (c:Bool),i+j=B.length→∀ {β:Type} (k:AExit→St→Option β),
  xK T (.loop code920L0) ⟨[(2,.val v2),(9,.val v9),(26,.val v26),(27,.val v27),(28,.val v28),(29,.val (.bool c)),(154,.val x),(155,.val (.int .i64 B.length)),(156,.val (.int .i64 i))],⟨P,b,w⟩⟩ (k:=⟨k⟩) =
   k (.exit 8) ⟨[(2,.val v2),(9,.val v9),(26,.val v26),(27,.val v27),(28,.val v28),(29,.val (.bool (c || decide ([120] ∈ B.drop i))))],⟨P,b,w⟩⟩
 | 0,i,w,c,hi,β,k=>by
  have hd:B.drop i=[]:=co (by omega);have:¬ ((i:Int) < B.length):=by omega
  rw [cd,hd];simp (disch:=omega) [code920L0,this]
 | j+1,i,w,c,hi,β,k=>by
  obtain ⟨m,hm⟩:∃ m,B[i]? = some m:=⟨_,ai (by omega)⟩;have ih:=fun c=>l920x h hB (v2:=v2) (v9:=v9) (v26:=v26) (v27:=v27) (v28:=v28) j (i+1) w c (by omega) k
  obtain ⟨q,rfl,-,hq⟩:=zm h hm;have hil:(i:Int) < B.length:=by omega
  have gx:(B.map AVal.str)[i]? = some (.str m):=by rw [bk,hm]; rfl
  have hml:(B.map AVal.str).length=B.length:=bh _;have ei:((i+1:Nat):Int)=(i:Int)+1:=by omega
  rw [ei] at ih
  have hd:decide ([120] ∈ B.drop i)=(decide (m=[120]) || decide ([120] ∈ B.drop (i+1))):=by
   rw [ie hm];by_cases e:m=[120]
   ·simp [e]
   ·have:[120]≠m:=fun h=>e h.symm
    simp [e,this]
  rw [cd,hd];generalize decide ([120] ∈ B.drop (i+1))=dd at *;generalize B.map AVal.str=Y at *;generalize ACode.loop code920L0=LL at *;cases c with
  | true =>
   have ih:=ih true;simp (disch:=omega) [code920L0,hil,hq,gx,hml,ih]
  | false =>
   by_cases e:m=[120]
   ·have ih:=ih true;simp (disch:=omega) [code920L0,hil,hq,gx,hml,e,ih]
   ·have ih:=ih false;simp (disch:=omega) [code920L0,hil,hq,gx,hml,e,ih]
end
def e920:ACode:=.seq (R [2,9,10,26,27,28] [v 146 10,o 147 (.len .sl (t 146)),v 28 147])
 (.seq (.seq (R [2,9,10,26,27,28,153] [v 148 2,o 149 (.bin .eql (t 148) (.const (.str [97,112,112]))),v 150 149,g 151 150 true (.val (t 26)),g 152 150 true (.bin .eql (t 151) (n 0)),o 153 (.pick (t 150) (t 152) F)])
 (.after (.cond (t 153) (.seq (R [2,9,10,26,27,28,29] [o 29 (.val F)])
 (.seq (.seq (R [2,9,26,27,28,29,154,155,156] [v 154 10,o 155 (.len .sl (t 154)),o 156 (.val (n 0))])
 (.after (.block 8 (.loop code920L0)) [2,9,26,27,28,29]))
 (.seq (R [2,9,26,27,28,167] [v 166 29,o 167 (.un .not (t 166))])
 (.after (.cond (t 167) (R [2,9,26,27,28] [v 168 28,o 169 (.bin .add (t 168) (n 1)),v 28 169]) (.skip)) [2,9,26,27,28])))) (.skip)) [2,9,26,27,28]))
 (.seq (R [6] [v 170 9,v 171 170,g 172 171 true (.val (t 27)),g 173 171 true (.len .sl (t 172)),g 174 171 true (.val (t 28)),g 175 171 true (.bin .eql (t 173) (t 174)),o 176 (.pick (t 171) (t 175) F),v 177 176,g 178 177 true (.val (t 26)),g 179 177 true (.bin .eql (t 178) (n 0)),g 180 177 true (.val (t 179)),g 181 180 false (.val (t 26)),g 182 180 false (.bin .eql (t 181) (n 13)),g 183 177 true (.pick (t 180) Y (t 182)),g 184 177 true (.val (t 183)),g 185 184 false (.val (t 26)),g 186 184 false (.bin .eql (t 185) (n 9)),g 187 177 true (.pick (t 184) Y (t 186)),o 188 (.pick (t 177) (t 187) F),v 189 188,g 190 189 true (.val (t 26)),g 191 189 true (.bin .eql (t 190) (n 13)),g 192 189 true (.val (t 2)),g 193 189 true (.callg 658 [t 192]),g 194 189 true (.un .not (t 193)),g 195 189 true (.beq false (t 191) (t 194)),o 196 (.pick (t 189) (t 195) F),v 6 196])
 (.live [6] (.ret))))
theorem opE_x (B:List Bs) (s:Bs):opE (appA B) s [120]=if isName s=true then (if s=apN then (if [120] ∈ B then 0 else if 8≤B.length then 9 else 0) else 0) else 13:=by
 unfold opE;have h:isName [120]=true:=by decide
 by_cases c:isName s=true
 ·rw [if_pos ⟨c,h⟩,if_pos c];by_cases d:s=apN
  ·subst d;rw [if_pos rfl,ph];by_cases e:[120] ∈ B
   ·rw [if_pos (mem_appA.2 e),if_pos e]
   ·rw [if_neg (fun f=>e (mem_appA.1 f)),if_neg e]
  ·have h1:(s,[120]) ∉ appA B:=fun f=>by obtain ⟨m,-,e⟩:=cq.1 f;exact d (Prod.mk.inj e).1.symm
   have h2:cntS (appA B) s=0:=by unfold cntS;rw [List.length_eq_zero_iff,List.filter_eq_nil_iff];intro p hp;obtain ⟨m,-,rfl⟩:=cq.1 hp;simpa using fun e=>d e.symm
   rw [if_neg h1,if_neg d,h2,if_neg (by omega)]
 ·rw [if_neg (fun e=>c e.1),if_neg c]
theorem cnt_x (B:List Bs) (s:Bs):cntS (opA (appA B) s [120]) apN=if s=apN∧[120] ∉ B∧¬ 8≤B.length then B.length+1 else B.length:=by
 unfold opA;have h:isName [120]=true:=by decide
 by_cases d:s=apN
 ·subst d;have ha:isName apN=true:=by decide
  rw [ph];by_cases c:[120] ∉ B∧¬ 8≤B.length
  ·rw [if_pos ⟨ha,h,fun e=>c.1 (mem_appA.1 e),c.2⟩,if_pos ⟨rfl,c⟩];have:appA B++[(apN,[120])]=appA (B++[[120]]):=by unfold appA; rw [ic]; rfl
   rw [this,ph,aq]; rfl
  ·rw [if_neg (fun e=>c ⟨fun f=>e.2.2.1 (mem_appA.2 f),e.2.2.2⟩),if_neg (fun e=>c e.2),ph]
 ·rw [if_neg (fun e:s=apN∧_=>d e.1)];have h0:=ph B;unfold cntS at *;split
  ·rw [List.filter_append,aq,h0,List.filter_cons_of_neg (by simpa using d)]; rfl
  ·exact h0
theorem len_x (B:List Bs) (s:Bs):(opA (appA B) s [120]).length≤B.length+1:=by
 unfold opA;have:=zl B;split
 ·rw [aq]; simp; omega
 ·omega
section
attribute [-simp] getElem?_pos getElem?_neg List.all_eq_true
attribute [local simp] qZ qS nltT nltF iltT iltF ileT nleT el
theorem e920_run (h:FRow N 1 keyC B P x) (hB:B.length≤8) {s:Bs} (hs:s.length≤100) {la:Option (Nat × Nat)} {lc:Option Nat} {ln:Nat} (hl:ln=cntS (opA (appA B) s [120]) apN) (w:Nat):∀ {β:Type} (k:AExit→St→Option β),
  xK T e920 ⟨[(2,.val (.str s)),(9,.val (.bool true)),(10,.val x),(26,.val (.int .i64 (opE (appA B) s [120]))),(27,.val (.slice la ln lc))],⟨P,b,w⟩⟩ (k:=⟨k⟩)=k .ret ⟨[(6,.val (.bool true))],⟨P,b,w⟩⟩:=by
 intro β k;have h658:=fun w=>du sub (s658 (H:=P) (b:=b) (w:=w) (s:=s) (by omega))
 rw [opE_x];rw [cnt_x] at hl;have hd:=fun (v26 v27 v28:AVal) (k:AExit→St→Option β)=>l920x (b:=b) h (by omega) (v2:=.str s) (v9:=.bool true) (v26:=v26) (v27:=v27) (v28:=v28) B.length 0 w false (by omega) k
 simp only [ba,Bool.false_or,eq] at hd;obtain ⟨xa,xc,rfl⟩:=sd h;by_cases c:isName s=true
 ·rw [c] at h658;rw [if_pos c];by_cases d:s=apN
  ·rw [if_pos d];by_cases e:[120] ∈ B
   ·rw [if_neg (fun f=>f.2.1 e)] at hl;rw [if_pos e];subst hl; subst d;simp only [e,decide_true] at hd;simp (disch:=omega) [e920,h658,hd]
   ·rw [if_neg e];simp only [e,decide_false] at hd;by_cases h8:8≤B.length
    ·rw [if_neg (fun f=>f.2.2 h8)] at hl;rw [if_pos h8];subst hl; subst d;simp (disch:=omega) [e920,h658,hd]
    ·rw [if_pos ⟨d,e,h8⟩] at hl;rw [if_neg h8];subst hl; subst d;simp (disch:=omega) [e920,h658,hd]
  ·rw [if_neg (fun f=>d f.1)] at hl;rw [if_neg d];subst hl;have d':¬ s=[97,112,112]:=d;simp (disch:=omega) [e920,h658,d']
 ·rw [if_neg c];have c':isName s=false:=by simpa using c
  rw [c'] at h658;have d:¬ s=apN:=fun f=>c (by rw [f]; decide)
  rw [if_neg (fun f=>d f.1)] at hl;subst hl;have d':¬ s=[97,112,112]:=d;simp (disch:=omega) [e920,h658,d']
end
end
end Go.Abs.AbsRm

namespace Go.Abs.AbsRm
open Go.Abs.AbsBlb hiding T
open Go.Abs.AbsNat hiding T sub
open Go.Abs.AbsBlo (CodeD.run OpsD.run jk keyC jt)
open Go.Abs.Short
def p920:ACode:=.seq (.seq (R [0,1,2,46] [v 34 0,o 35 (.len .sl (t 34)),o 36 (.bin .gtr (t 35) (n 14)),v 37 36,g 38 37 false (.val (t 1)),g 39 37 false (.len .sl (t 38)),g 40 37 false (.bin .gtr (t 39) (n 14)),o 41 (.pick (t 37) Y (t 40)),v 42 41,g 43 42 false (.val (t 2)),g 44 42 false (.len .str (t 43)),g 45 42 false (.bin .gtr (t 44) (n 100)),o 46 (.pick (t 42) Y (t 45))])
 (.after (.cond (t 46) (.seq (R [6] [o 6 (.val Y)])
 (.live [6] (.ret))) (.skip)) [0,1,2]))
 (.seq (R [0,1,2,8,9] [o 48 (.callg 922 [n 8,n 400]),v 47 48,o 49 (.extract (t 47) 0),o 50 (.extract (t 47) 1),o 51 (.extract (t 47) 2),v 7 49,v 8 50,v 9 51])
 (.seq (R [0,1,2,8,9,10] [o 10 (.val (.const (.slice none 0 (some 0))))])
 (.seq (.seq (R [1,2,8,9,10,52,53,54] [v 52 0,o 53 (.len .sl (t 52)),o 54 (.val (n 0))])
 (.after (.block 0 (.loop code920L4)) [1,2,8,9,10]))
 (.seq (.seq (R [2,8,9,10,100,101,102] [v 100 1,o 101 (.len .sl (t 100)),o 102 (.val (n 0))])
 (.after (.block 4 (.loop code920L2)) [2,8,9,10]))
 (.seq (R [2,8,9,10,26] [v 139 8,v 140 2,o 141 (.callg 671 [t 139,t 140,.const (.str [120]),.const (.bool true)]),v 138 141,o 142 (.extract (t 138) 0),o 143 (.extract (t 138) 1),o 25 (.lalloc [.int .u32 0,.int .u32 0,.slice none 0 (some 0)]),u (.store 3 (t 25) (t 142)),v 26 143])
 (.seq (R [2,9,10,26,27] [v 144 8,o 145 (.callg 681 [t 144,.const (.str [97,112,112])]),v 27 145])
 e920))))))
theorem body920:code920.body = .seq (R [0,1,2] [o 6 (.val F)])
 (.seq (.seq (R [0,1,2,33] [o 32 (.callg 923 []),o 33 (.un .not (t 32))])
 (.after (.cond (t 33) (.seq (R [6] [o 6 (.val F)])
 (.live [6] (.ret))) (.skip)) [0,1,2]))
 p920):=rfl
section
variable {E:Env} {kl:List Bs} {H P:List AObj} {N b w:Nat} {I:SI}
theorem fe920 {w w':Nat} (hw:H.length≤w'):funcEnd code920 ⟨H,b,w⟩ (.ret,⟨[(6,.val (.bool true))],⟨P,b,w'⟩⟩)=some (.bool true,⟨H,b,w⟩):=by
 have:¬ w' < H.length:=by omega
 simp [funcEnd,code920,resultsL,result1,sget,tupled,dk,Heap.size,this,AVal.under]
def klL (L:List Bs) (s:Bs):List Bs:=(L.filter isName).map (keyB apN)++if isName s=true then [keyB s [120]] else []
theorem klL_len {L:List Bs} {s:Bs}:∀ k ∈ klL L s,1≤k.length∧k.length≤64:=by
 intro k hk;unfold klL at hk;rcases bw.1 hk with h | h
 ·obtain ⟨n,hn,rfl⟩:=cq.1 h;have:=g9 (gi.1 hn).2;rw [wj];show 1≤3+3+n.length∧3+3+n.length≤64;omega
 ·split at h
  ·next hs =>
   have:=g9 hs;rw [bq.1 h,wj];show 1≤3+s.length+1∧3+s.length+1≤64;omega
  ·cases h
theorem klL_n {L:List Bs} {s n:Bs} (hn:n ∈ L) (hi:isName n=true):keyB apN n ∈ klL L s :=
 e9 _ (cq.2 ⟨n,gi.2 ⟨hn,hi⟩,rfl⟩)
theorem klL_s {L:List Bs} {s:Bs} (hi:isName s=true):keyB s [120] ∈ klL L s:=by unfold klL;rw [if_pos hi];exact gc _ (eo _)
section
attribute [-simp] getElem?_pos getElem?_neg List.all_eq_true
attribute [local simp] qZ qS nltT nltF iltT iltF ileT nleT el
theorem c920 (hC:CodesM E) (h923:IsCode E 923 code923) (h920:IsCode E 920 code920) {L D:List Bs} {la da:Option (Nat × Nat)} {lc dc:Option Nat} (hL:Row H 1 keyC L la) (hD:Row H 1 keyC D da) (hDl:∀ n ∈ D,n.length≤140737488355328) {s:Bs} (hb:b=H.length) (hbig:L.length≤1000000000000000000∧D.length≤1000000000000000000∧s.length≤1000000000000000000) (w:Nat) :
  CallD E 920 [.slice la L.length lc,.slice da D.length dc,.str s] ⟨H,b,w⟩ fun v h'=>v = .bool true∧h'=⟨H,b,w⟩:=by
 have hT:=hC.t;have hm:=hC.r.c.m;refine CallD.of_code h920 rfl ?_;rw [body920];have hen:enter 0 [AVal.slice la L.length lc,.slice da D.length dc,.str s]=[(0,.val (.slice la L.length lc)),(1,.val (.slice da D.length dc)),(2,.val (.str s))]:=rfl;have hsz:(⟨H,b,w⟩:Heap).size=H.length:=rfl;rw [hen];simp only [hsz];refine CodeD.seq nofun (CodeD.run hT hm (e:=.normal) (st':=⟨[(0,.val (.slice la L.length lc)),(1,.val (.slice da D.length dc)),(2,.val (.str s))],⟨H,b,H.length⟩⟩) (fun k'=>by simp (disch:=omega) []) ?_);refine CodeD.seq nofun (CodeD.seq nofun (CodeD.after (CodeD.regionX hT hm ?_)));refine OpsD.call (g:=923) (xs:=[]) rfl rfl rfl (c923 hC h923 hb H.length) fun vv hh hR'=>?_
 obtain ⟨rfl,rfl⟩:=hR';refine OpsD.run (l:=[o 33 (.un .not (t 32))]) (r:=[]) (s1:=[(33,.val (.bool false)),(32,.val (.bool true)),(0,.val (.slice la L.length lc)),(1,.val (.slice da D.length dc)),(2,.val (.str s))]) (h1:=⟨H,b,H.length⟩) (fun k'=>by simp (disch:=omega) []) (OpsD.done ?_);simp only [];have hk0:keepK [0,1,2,33] [(33,Slot.val (.bool false)),(32,.val (.bool true)),(0,.val (.slice la L.length lc)),(1,.val (.slice da D.length dc)),(2,.val (.str s))]=[(0,.val (.slice la L.length lc)),(1,.val (.slice da D.length dc)),(2,.val (.str s)),(33,.val (.bool false))]:=by simp
 rw [hk0];refine CodeD.run hT hm (e:=.normal) (st':=⟨[(0,.val (.slice la L.length lc)),(1,.val (.slice da D.length dc)),(2,.val (.str s))],⟨H,b,H.length⟩⟩) (fun k'=>by simp (disch:=omega) []) ?_;unfold p920;by_cases hg:L.length≤14∧D.length≤14∧s.length≤100
 case neg =>
  refine CodeD.seq nofun (CodeD.run hT hm (e:=.ret) (st':=⟨[(6,.val (.bool true))],⟨H,b,H.length⟩⟩) (fun k'=>?_) ⟨_,_,fe920 (aj _),rfl,rfl⟩);by_cases g1:L.length≤14
  ·have g1':¬ (14:Int) < L.length:=by omega
   by_cases g2:D.length≤14
   ·have g2':¬ (14:Int) < D.length:=by omega
    have g3':(100:Int) < s.length:=by omega
    simp (disch:=omega) [g1',g2',g3']
   ·have g2':(14:Int) < D.length:=by omega
    simp (disch:=omega) [g1',g2']
  ·have g1':(14:Int) < L.length:=by omega
   simp (disch:=omega) [g1']
 obtain ⟨g1,g2,g3⟩:=hg;have g1':¬ (14:Int) < L.length:=by omega
 have g2':¬ (14:Int) < D.length:=by omega
 have g3':¬ (100:Int) < s.length:=by omega
 refine CodeD.seq nofun (CodeD.run hT hm (e:=.normal) (st':=⟨[(0,.val (.slice la L.length lc)),(1,.val (.slice da D.length dc)),(2,.val (.str s))],⟨H,b,H.length⟩⟩) (fun k'=>by simp (disch:=omega) [g1',g2',g3']) ?_);obtain ⟨H1,I,k1,k2,k3,k4,h922⟩:=p922 (kl:=klL L s) (H:=H) (b:=b) (n:=8) (z:=400) (by decide) (by decide) (by decide) (by omega);have hL1:=law0 k3 (by decide) (by decide);generalize AbsBlo.F0 8 400 100000=F1 at *;generalize AbsBlo.K0 8=K1 at *;simp only [ba] at h922;have hp1:=k1.len;have hIhi:=k3.a.hi;have hIfl:=ah k3.a.fl.f;obtain ⟨l1,l2,l3,l4,l5,l6⟩:=k4;refine CodeD.seq nofun (CodeD.run hT hm (e:=.normal) (st':=⟨[(0,.val (.slice la L.length lc)),(1,.val (.slice da D.length dc)),(2,.val (.str s)),(8,.val (.ptr (some (I.s,0)))),(9,.val (.bool true))],⟨H1,b,H.length⟩⟩) (fun k'=>by simp (disch:=omega) [h922]) ?_)
 refine CodeD.seq nofun (CodeD.run hT hm (e:=.normal) (st':=⟨[(0,.val (.slice la L.length lc)),(1,.val (.slice da D.length dc)),(2,.val (.str s)),(8,.val (.ptr (some (I.s,0)))),(9,.val (.bool true)),(10,.val (.slice none 0 (some 0)))],⟨H1,b,H.length⟩⟩) (fun k'=>by simp (disch:=omega) []) ?_);have hNC:NC (klL L s) H H1.length I b:=⟨hIhi,⟨l1,l2,l3,l5,l6⟩,hb,hIfl,klL_len⟩;have hNS:NS (klL L s) H H1.length I [] 0 H1 F1 K1 (.slice none 0 (some 0)) H.length:=⟨hL1,.inl ⟨rfl,rfl⟩,aj _,fun k o _ ho=>k1 _ _ ho,ge _,aj _⟩;refine CodeD.seq nofun (CodeD.seq nofun (CodeD.run hT hm (e:=.normal) (st':=nst I b (.slice da D.length dc) (.str s) (.slice none 0 (some 0)) (.slice la L.length lc) L.length 0 H1 H.length) (fun k'=>by unfold nst; simp (disch:=omega) []) ?_));refine CodeD.after (CodeD.block ((names_loop hC hNC hL g1 (fun n hn hi=>klL_n hn hi) hNS).mono fun e st hq _=>?_))
 rcases hq with ⟨rfl,P,w2,hw2,rfl⟩ | ⟨rfl,P,F,K,B,x,w2,hS,rfl⟩
 ·exact ⟨_,_,fe920 hw2,rfl,rfl⟩
 simp only [blkE,if_true];have hk1:keepK [1,2,8,9,10] [(1,Slot.val (.slice da D.length dc)),(2,.val (.str s)),(8,.val (.ptr (some (I.s,0)))),(9,.val (.bool true)),(10,.val x)]=[(1,.val (.slice da D.length dc)),(2,.val (.str s)),(8,.val (.ptr (some (I.s,0)))),(9,.val (.bool true)),(10,.val x)]:=by simp
 rw [hk1];refine CodeD.seq nofun (CodeD.seq nofun (CodeD.run hT hm (e:=.normal) (st':=dst I b (.str s) x (.slice da D.length dc) D.length 0 P w2) (fun k'=>by unfold dst; simp (disch:=omega) []) ?_));refine CodeD.after (CodeD.block ((drop_loop hC hNC hD g2 (t0:=L.length) (by omega) hDl hS).mono fun e st hq _=>?_));obtain ⟨rfl,P2,F2,K2,B2,x2,w3,hS2,rfl⟩:=hq;simp only [blkE,if_true];have hk2:keepK [2,8,9,10] [(2,Slot.val (.str s)),(8,.val (.ptr (some (I.s,0)))),(9,.val (.bool true)),(10,.val x2)]=[(2,.val (.str s)),(8,.val (.ptr (some (I.s,0)))),(9,.val (.bool true)),(10,.val x2)]:=by simp
 rw [hk2];have hb8:=hS2.b8;have hNl:=hS2.len;have hop:=AbsNat.open_any hC.r hS2.law (by omega) (by rw [zl]; omega) hNC.kl hNC.ilo (cf hNC.n hNl) (s:=s) (k:=[120]) (by omega) (by decide) (fun h _=>by have:=g9 h; show s.length+1≤19; omega) (fun h _ _ _=>klL_s h) w3;refine CodeD.seq nofun (CodeD.after (CodeD.regionX hT hm ?_));refine OpsD.run (l:=[v 139 8,v 140 2]) (r:=[o 141 (.callg 671 [t 139,t 140,.const (.str [120]),.const (.bool true)]),v 138 141,o 142 (.extract (t 138) 0),o 143 (.extract (t 138) 1),o 25 (.lalloc [.int .u32 0,.int .u32 0,.slice none 0 (some 0)]),u (.store 3 (t 25) (t 142)),v 26 143]) (s1:=[(140,.val (.str s)),(139,.val (.ptr (some (I.s,0)))),(2,.val (.str s)),(8,.val (.ptr (some (I.s,0)))),(9,.val (.bool true)),(10,.val x2)]) (h1:=⟨P2,b,w3⟩) (fun k'=>by simp (disch:=omega) []) ?_
 refine OpsD.call (g:=671) (xs:=[t 139,t 140,.const (.str [120]),.const (.bool true)]) rfl rfl rfl hop fun vv hh hR'=>?_
 obtain ⟨y1,y2,y3,rfl,P3,F3,K3,w4,t3,rfl,q1,q2,q3,q4⟩:=hR';refine OpsD.run (l:=[v 138 141,o 142 (.extract (t 138) 0),o 143 (.extract (t 138) 1),o 25 (.lalloc [.int .u32 0,.int .u32 0,.slice none 0 (some 0)]),u (.store 3 (t 25) (t 142)),v 26 143]) (r:=[]) (s1:=[(26,.val (.int .i64 (opE (appA B2) s [120]))),(25,.var [y1,y2,y3]),(25,.var [.int .u32 0,.int .u32 0,.slice none 0 (some 0)]),(143,.val (.int .i64 (opE (appA B2) s [120]))),(142,.val (.agg [y1,y2,y3])),(138,.val (.tuple [.agg [y1,y2,y3],.int .i64 (opE (appA B2) s [120])])),(141,.val (.tuple [.agg [y1,y2,y3],.int .i64 (opE (appA B2) s [120])])),(140,.val (.str s)),(139,.val (.ptr (some (I.s,0)))),(2,.val (.str s)),(8,.val (.ptr (some (I.s,0)))),(9,.val (.bool true)),(10,.val x2)]) (h1:=⟨P3,b,w4⟩) (fun k'=>by simp (disch:=omega) []) (OpsD.done ?_);simp only []
 have hk3:keepK [2,8,9,10,26] [(26,Slot.val (.int .i64 (opE (appA B2) s [120]))),(25,.var [y1,y2,y3]),(25,.var [.int .u32 0,.int .u32 0,.slice none 0 (some 0)]),(143,.val (.int .i64 (opE (appA B2) s [120]))),(142,.val (.agg [y1,y2,y3])),(138,.val (.tuple [.agg [y1,y2,y3],.int .i64 (opE (appA B2) s [120])])),(141,.val (.tuple [.agg [y1,y2,y3],.int .i64 (opE (appA B2) s [120])])),(140,.val (.str s)),(139,.val (.ptr (some (I.s,0)))),(2,.val (.str s)),(8,.val (.ptr (some (I.s,0)))),(9,.val (.bool true)),(10,.val x2)]=[(2,.val (.str s)),(8,.val (.ptr (some (I.s,0)))),(9,.val (.bool true)),(10,.val x2),(26,.val (.int .i64 (opE (appA B2) s [120])))]:=by simp
 rw [hk3];have hrow3:FRow H1.length 1 keyC B2 P3 x2:=hS2.row.mono fun k o hk ho=>q1.above hNC.hi k o hk ho
 have hlen3:=q1.len;have hlx:=len_x B2 s;have hw3:=hS2.wl;have hnm:=d681 hC.r q2.so.a q2.so.v.ix (by rw [q2.ks.len]; omega) (b:=b) (by omega) (s:=apN) (by decide) (q2.ks.own (by decide)) w4;rw [q2.ks.cnt (by decide)] at hnm;refine CodeD.seq nofun (CodeD.after (CodeD.regionX hT hm ?_));refine OpsD.run (l:=[v 144 8]) (r:=[o 145 (.callg 681 [t 144,.const (.str [97,112,112])]),v 27 145]) (s1:=[(144,.val (.ptr (some (I.s,0)))),(2,.val (.str s)),(8,.val (.ptr (some (I.s,0)))),(9,.val (.bool true)),(10,.val x2),(26,.val (.int .i64 (opE (appA B2) s [120])))]) (h1:=⟨P3,b,w4⟩) (fun k'=>by simp (disch:=omega) []) ?_;refine OpsD.call (g:=681) (xs:=[t 144,.const (.str [97,112,112])]) rfl rfl rfl hnm fun vv hh hR'=>?_
 obtain ⟨M,hM,hv⟩:=hR'
 obtain ⟨ma,mc,P4,rfl,rfl,hP4⟩:∃ ma mc P4,vv = .slice ma M.length mc∧hh=⟨P4,b,w4⟩∧Pre P3 P4:=by
  rcases hv with ⟨rfl,h1,h2⟩ | ⟨-,h1,h2⟩
  ·exact ⟨_,_,_,h1,h2,fun _ _ h=>h⟩
  ·exact ⟨_,_,_,h1,h2,Pre.app _ _⟩
 refine OpsD.run (l:=[v 27 145]) (r:=[]) (s1:=[(27,.val (.slice ma M.length mc)),(145,.val (.slice ma M.length mc)),(144,.val (.ptr (some (I.s,0)))),(2,.val (.str s)),(8,.val (.ptr (some (I.s,0)))),(9,.val (.bool true)),(10,.val x2),(26,.val (.int .i64 (opE (appA B2) s [120])))]) (h1:=⟨P4,b,w4⟩) (fun k'=>by simp (disch:=omega) []) (OpsD.done ?_);simp only [];have hk4:keepK [2,9,10,26,27] [(27,Slot.val (.slice ma M.length mc)),(145,.val (.slice ma M.length mc)),(144,.val (.ptr (some (I.s,0)))),(2,.val (.str s)),(8,.val (.ptr (some (I.s,0)))),(9,.val (.bool true)),(10,.val x2),(26,.val (.int .i64 (opE (appA B2) s [120])))]=[(2,.val (.str s)),(9,.val (.bool true)),(10,.val x2),(26,.val (.int .i64 (opE (appA B2) s [120]))),(27,.val (.slice ma M.length mc))]:=by simp
 rw [hk4];have hrow4:FRow H1.length 1 keyC B2 P4 x2:=hrow3.mono fun k o hk ho=>hP4 _ _ ho
 exact CodeD.run hT hm (e:=.ret) (st':=⟨[(6,.val (.bool true))],⟨P4,b,w4⟩⟩) (fun k'=>e920_run hrow4 hb8 g3 hM w4 k') ⟨_,_,fe920 (by omega),rfl,rfl⟩
end
end
end Go.Abs.AbsRm

namespace Go.Abs
def AOper.isLoc (o:AOper):Bool:=match o.op with
 | .lalloc _ | .lbox _ | .ext (.hstore _) _=>true
 | _=>false
def locsOf:Nat→List AOper→List Nat
 | _,[]=>[]
 | i,o :: r=>if o.isLoc then i :: locsOf (i+1) r else locsOf (i+1) r
def ACode.hint:ACode→Hint
 | .skip | .exit _ | .ret | .next _ _=>.leaf
 | .region gs=>.reg (gs.map fun g=>(g.quiet,g.ops.length)) (locsOf 0 (gs.flatMap Seg.ops))
 | .seq (.next _ _) _=>.next
 | .seq a b=>.seq a.hint b.hint
 | .cond (.const (.str [])) .skip .skip=>.stuck
 | .cond _ a b=>.cond a.hint b.hint
 | .block _ c=>.block c.hint
 | .loop c=>.loop c.hint
 | .live l c=>.live l c.hint
 | .after c l=>.after c.hint l
 | .rangeFunc _ g caps _ a b=>.rangeFunc g caps a.hint b.hint
theorem ow {E:Env} {T:Nat→Option AFunc} {f g:Nat} {fn:Func} {c:AFunc} {b:Bool} {hint:Hint} (h3:tq E b hint fn=some c) (h1:E.P.funcs[f]? = some fn) (h2:T g=some c) (h4:RndOK E c.body.rounds):FnOK E T f g:=.inr (.inl ⟨_,_,_,_,h1,h2,h3,h4⟩)
theorem ox {E:Env} {T:Nat→Option AFunc} {f g:Nat} {fn:Func} (h1:E.P.funcs[f]? = some fn) (h2:T g=some Short.noF) (h:(decide (fn.name ≠ "runtime.NumGoroutine") && fn.body.isSome)=true):FnOK E T f g :=
 .inr (.inr ⟨_,_,_,h1,h2,rfl,⟨of_decide_eq_true (Bool.and_eq_true_iff.1 h).1,(Bool.and_eq_true_iff.1 h).2,fun _ _ _ _ _ e=>by cases e⟩⟩)
end Go.Abs
