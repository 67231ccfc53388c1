/-
  Texts joined.
-/
import Derived.Test.YtkdkjjokckokfaaGreatQ0
import Derived.Test.YtkdkjjokckokfaaGreatQ13
import Derived.Test.YtkdkjjokckokfaaGreatQ8
import Derived.Test.YtkdkjjokckokfaaGreatQ7
import Derived.Shelf.GgClosure.StringsIndexFunc
import Derived.WalkKit
import Derived.BigCall
import Derived.Test.YtkdkjjokckokfaaGreatQ10
set_option linter.unusedVariables false
set_option linter.unusedSimpArgs false
set_option maxRecDepth 100000
namespace Go.Abs.AbsRm
open Go.Proofs Go.RowKit Go.Shelf
def oddR (x:Nat):Bool:=!((decide (97≤x) && decide (x≤122)) || (decide (48≤x) && decide (x≤57)) || decide (x=95) || decide (x=45))
set_option maxHeartbeats 1000000 in
theorem name_pred (w:World):PredAt Tryz.prog 58 #[] encR oddR w:=by
 intro W x _;show Calls Tryz.prog 58 #[.int .i32 (x:Int)] W fun e w'=>e = .returned (.bool (oddR x))∧∃ q,w'=W.drewN q
 have hr:oddR x = !((decide (97≤(x:Int)) && decide ((x:Int)≤122)) || (decide (48≤(x:Int)) && decide ((x:Int)≤57)) || decide ((x:Int)=95) || decide ((x:Int)=45)):=by
  unfold oddR;have e1:decide (97≤(x:Int))=decide (97≤x):=by rw [decide_eq_decide]; omega
  have e2:decide ((x:Int)≤122)=decide (x≤122):=by rw [decide_eq_decide]; omega
  have e3:decide (48≤(x:Int))=decide (48≤x):=by rw [decide_eq_decide]; omega
  have e4:decide ((x:Int)≤57)=decide (x≤57):=by rw [decide_eq_decide]; omega
  have e5:decide ((x:Int)=95)=decide (x=95):=by rw [decide_eq_decide]; omega
  have e6:decide ((x:Int)=45)=decide (x=45):=by rw [decide_eq_decide]; omega
  rw [e1,e2,e3,e4,e5,e6]
 rw [hr];generalize (x:Int)=z;go_enter Tryz.func58,Tryz.ntmps58;go_wp2;all_goals go_ret
 all_goals refine ⟨congrArg (fun b=>Ending.returned (Value.bool b)) (?_:(_:Bool)=_),0,by simp [World.drewN]⟩
 all_goals
  show ((_:Bool)=_)
  first
   | rfl
   | (rw [mh]; simp; done)
   | (rw [mh]; simp; omega)
   | rw [mh]
theorem dec_hi (s:ByteArray) (i:Nat) (h:128≤(s.get! i).toNat):128≤(Utf8.decode s i).1:=by
 rw [Lib.decode_at];have h0:(s.get! i).toNat < 256:=(s.get! i).toNat_lt;generalize (s.get! i).toNat=b0 at *;generalize (s.get! (i+1)).toNat=b1;generalize (s.get! (i+2)).toNat=b2;generalize (s.get! (i+3)).toNat=b3;unfold Lib.decodeN;repeat' split
 all_goals (simp only []; omega)
theorem dec_lo (s:ByteArray) (i:Nat) (h:(s.get! i).toNat < 128):Utf8.decode s i=((s.get! i).toNat,1):=by rw [Lib.decode_at];unfold Lib.decodeN;rw [if_pos h]
theorem odd_name (c:UInt8):oddR c.toNat = !nameC c:=by unfold oddR nameC;rfl
theorem odd_hi {n:Nat} (h:128≤n):oddR n=true:=by
 unfold oddR;have h1:¬ n≤122:=by omega
 have h2:¬ n≤57:=by omega
 have h3:¬ n=95:=by omega
 have h4:¬ n=45:=by omega
 simp [h1,h2,h3,h4]
theorem idx_first (l:List UInt8):∀ (f pos:Nat),l.length≤pos+f→Lib.idxFuncFrom oddR true ⟨l.toArray⟩ f pos=firstOdd (l.drop pos) pos
 | 0,pos,h=>by rw [co (by omega)]; rfl
 | f+1,pos,h=>by
  unfold Lib.idxFuncFrom;have hs:(⟨l.toArray⟩:ByteArray).size=l.length:=by simp [ByteArray.size]
  rw [hs];by_cases c:pos < l.length
  ·rw [if_pos c];obtain ⟨x,hx⟩:∃ x,l[pos]? = some x:=⟨_,ai c⟩
   have hg:(⟨l.toArray⟩:ByteArray).get! pos=x:=by
    unfold ByteArray.get!;have:l.toArray[pos]? = some x:=by simpa using hx
    show l.toArray[pos]! = x
    rw [getElem!_def,this]
   have hd:l.drop pos=x :: l.drop (pos+1):=by rw [jw c];congr 1;rw [ai c] at hx;exact dr hx
   rw [hd];unfold firstOdd;by_cases h8:x.toNat < 128
   ·have hdec:=dec_lo ⟨l.toArray⟩ pos (by rw [hg]; exact h8);rw [hg] at hdec;rw [hdec];simp only [odd_name];have ih:=idx_first l f (pos+1) (by omega);cases hn:nameC x
    ·simp
    ·simp [ih]
   ·have hdec:=dec_hi ⟨l.toArray⟩ pos (by rw [hg]; omega);rw [odd_hi hdec]
    have hn:nameC x=false:=by have:=odd_hi (n:=x.toNat) (by omega);rw [odd_name] at this;simpa using this
    simp [hn]
  ·rw [if_neg c,co (by omega)]; rfl
section
variable {E:Env} {μ:MM} {h:Heap} {w:World}
theorem idx_ok (hP:E.P=Tryz.prog) (hG:∀ f,E.gid f=some 538→f=58) (hn:Tryz.f98.name ≠ "runtime.NumGoroutine") (hb:Tryz.f98.body.isSome=true):LibOK E 98 Tryz.f98 (pureF idxA) :=
 LibOK.pure hn hb fun args h v e μ w args' ha hr=>by
  unfold idxA at e;split at e;case h_2=>cases e
  rename_i s;cases e;simp only [VRels,VRel] at ha;obtain ⟨_,_,e1,rfl,_,_,rfl,⟨fid,f1,c1,rfl,hg,k1,k2⟩,_,_,rfl,rfl,rfl⟩:=ha;obtain rfl:=hG _ hg
  have z1:f1 = #[]:=by rw [← Array.toList_inj]; exact k1
  have z2:c1 = #[]:=by rw [← Array.toList_inj]; exact k2
  subst z1 z2;have ha':args' = #[.string ⟨s.toArray⟩,.func (.func 58) #[] #[],.bool true]:=by rw [← Array.toList_inj,e1]
  subst ha'
  have hi:Lib.idxFunc oddR true ⟨s.toArray⟩=firstOdd s 0:=by
   unfold Lib.idxFunc;have:=idx_first s s.length 0 (by omega);rw [eq] at this;have hs:(⟨s.toArray⟩:ByteArray).size=s.length:=by simp [ByteArray.size]
   rw [hs]; exact this
  refine lib_ends hr (v':=.int .i64 (Lib.idxFunc oddR true ⟨s.toArray⟩)) (by simp only [VRel]; rw [hi]) ?_;rw [hP];exact Any.strings_indexFunc Tryz.lays315 58 #[] (enters_of Tryz.func58 (by kernel_rfl) rfl) oddR true ⟨s.toArray⟩ w (name_pred w)
end
end Go.Abs.AbsRm

namespace Go.Abs.AbsBlb
open Go.Abs.Short
theorem and32 {m:Nat} (h:m < 4294967296):andI .u64 m 4294967295=m:=by
 unfold andI
 have e1:(BitVec.ofInt IntKind.u64.bits (m:Int) &&& BitVec.ofInt IntKind.u64.bits 4294967295).toNat=m:=by
  show (BitVec.ofInt 64 (m:Int) &&& BitVec.ofInt 64 4294967295).toNat=m
  rw [BitVec.toNat_and]
  have e2:(BitVec.ofInt 64 (m:Int)).toNat=m:=by rw [BitVec.toNat_ofInt]; omega
  have e3:(BitVec.ofInt 64 4294967295).toNat=2 ^ 32 - 1:=by decide
  rw [e2,e3,Nat.and_two_pow_sub_one_eq_mod];omega
 rw [e1];exact l9 (by omega)
section
attribute [-simp] getElem?_pos getElem?_neg List.all_eq_true
attribute [local simp] qZ qS nltT nltF iltT iltF ileT nleT el
theorem s466 {H:List AObj} {b w n:Nat} (hn:n≤262144):xCall T 466 [.int .u64 1,.int .u64 n] ⟨H,b,w⟩=some (.tuple [.int .u64 0,.int .u64 n],⟨H,b,w⟩):=by
 have a1:andI .u64 1 4294967295=1:=and32 (m:=1) (by decide);have a0:andI .u64 0 4294967295=0:=and32 (m:=0) (by decide);have an:andI .u64 n 4294967295=n:=and32 (by omega);have w0:IntKind.u64.wrap 0=0:=by decide
 have w1:IntKind.u64.wrap 1=1:=by decide
 have wn:IntKind.u64.wrap (n:Int)=n:=l9 (by omega)
 have f0:(n:Int).fdiv (2 ^ min 32 IntKind.u64.bits)=0:=by
  show (n:Int).fdiv 4294967296=0
  rw [Int.fdiv_eq_ediv_of_nonneg _ (by omega)]; omega
 have f1:Int.fdiv 1 (2 ^ min 32 IntKind.u64.bits)=0:=by decide
 have f2:Int.fdiv 0 (2 ^ min 32 IntKind.u64.bits)=0:=by decide
 simp (disch:=omega) [bc t466,code466,xf,a1,a0,an,w0,w1,wn,f0,f1,f2]
theorem s454 {H:List AObj} {b w n:Nat} (hn:n≤262144):xCall T 454 [.int .u64 1,.int .u64 n] ⟨H,b,w⟩=some (.tuple [.int .u64 0,.int .u64 n],⟨H,b,w⟩):=by
 have h466:=fun w=>s466 (H:=H) (b:=b) (w:=w) hn
 simp (disch:=omega) [bc t454,code454,h466]
end
end Go.Abs.AbsBlb
namespace Go.Abs.AbsBlo
open Go.Abs.AbsBlb hiding T
open Go.Abs.Short
def raw567L0:ACode :=
 .live [7,8,9,10] (.seq (.seq (R [7,8,9,10,63] [v 61 10,v 62 7,o 63 (.bin .lss (t 61) (t 62))])
 (.after (.cond (t 63) (.skip) (.live [9] (.exit 0))) [7,8,9,10]))
 (.after (.block 1 (.seq (R [7,8,9,10,11] [v 64 10,v 65 8,o 66 (.minmax false [t 64,t 65]),v 11 66])
 (.after (.region [⟨true,[0,0,0,6,0,0,48,126],[v 67 10,v 68 9,v 69 10,o 70 (.slice (.sl 1) (t 68) (some (t 69)) none none),v 71 9,v 72 11,o 73 (.slice (.sl 1) (t 71) none (some (t 72)) none),o 74 (.ext (.copy 1) [t 70,t 73])]⟩,⟨false,[],[o 75 (.bin .add (t 67) (t 74)),v 10 75]⟩]) [7,8,9,10]))) [7,8,9,10]))
def raw567:AFunc:=⟨false,false,2,77,[.tmp 4],
 .seq (R [0,1] [o 4 (.val (.const (.slice none 0 (some 0))))])
 (.seq (.seq (R [0,1,13] [v 12 1,o 13 (.bin .eql (t 12) (n 0))])
 (.after (.cond (t 13) (.seq (R [4] [o 14 (.mkslice 1 0 [] []),v 4 14])
 (.live [4] (.ret))) (.skip)) [0,1]))
 (.seq (.seq (R [0,1,16] [v 15 1,o 16 (.bin .lss (t 15) (n 0))])
 (.after (.cond (t 16) (R [0,1] [o 17 (.nextStr F),u (.nextStr F)]) (.skip)) [0,1]))
 (.seq (R [0,5,6] [v 19 0,o 20 (.len .sl (t 19)),o 21 (.conv (.int .u64) (t 20)),v 22 1,o 23 (.conv (.int .u64) (t 22)),o 24 (.callg 454 [t 21,t 23]),v 18 24,o 25 (.extract (t 18) 0),o 26 (.extract (t 18) 1),v 5 25,v 6 26])
 (.seq (.seq (R [0,6,32] [v 27 5,o 28 (.bin .gtr (t 27) (.const (.int .u64 0))),v 29 28,g 30 29 false (.val (t 6)),g 31 29 false (.bin .gtr (t 30) (.const (.int .u64 9223372036854775807))),o 32 (.pick (t 29) Y (t 31))])
 (.after (.cond (t 32) (R [0,6] [o 33 (.nextStr F),u (.nextStr F)]) (.skip)) [0,6]))
 (.seq (R [0,7] [v 34 6,o 35 (.conv (.int .i64) (t 34)),v 7 35])
 (.seq (.seq (R [0,7,38] [v 36 0,o 37 (.len .sl (t 36)),o 38 (.bin .eql (t 37) (n 0))])
 (.after (.cond (t 38) (.seq (R [4] [o 39 (.mkslice 1 0 [] []),v 4 39])
 (.live [4] (.ret))) (.skip)) [0,7]))
 (.seq (R [0,7,8] [v 40 7,v 8 40])
 (.seq (.seq (R [0,7,8,42] [v 41 8,o 42 (.bin .gtr (t 41) (n 8192))])
 (.after (.cond (t 42) (.seq (R [0,7,8] [v 43 0,o 44 (.len .sl (t 43)),o 45 (.bin .quo (n 8192) (t 44)),v 46 0,o 47 (.len .sl (t 46)),o 48 (.bin .mul (t 45) (t 47)),v 8 48])
 (.seq (R [0,7,8,50] [v 49 8,o 50 (.bin .eql (t 49) (n 0))])
 (.after (.cond (t 50) (R [0,7,8] [v 51 0,o 52 (.len .sl (t 51)),v 8 52]) (.skip)) [0,7,8]))) (.skip)) [0,7,8]))
 (.seq (R [0,7,8,9] [v 53 7,o 54 (.ext (.pure (.prim .noZero)) [t 53]),v 55 7,v 56 7,o 57 (.slice (.sl 1) (t 54) none (some (t 55)) (some (t 56))),v 9 57])
 (.seq (R [7,8,9,10] [v 58 9,v 59 0,o 60 (.ext (.copy 1) [t 58,t 59]),v 10 60])
 (.seq (.after (.block 0 (.loop raw567L0)) [9])
 (.seq (R [4] [v 76 9,v 4 76])
 (.live [4] (.ret)))))))))))))),none⟩
def T0:Nat→Option AFunc:=fun g=>if g=567 then some raw567 else T g
theorem subR:∀ g f,AbsBlb.T g=some f→T0 g=some f:=fun g f h=>by unfold T0;rw [if_neg,sub g f h];rintro rfl;cases h
theorem rnd0:∀ g ar,rndOf T g=some ar→rndOf T0 g=some ar:=fun g ar h=>by
 by_cases e:g=567
 ·subst e;simp [rndOf,t567,code567,ASpec.rnd] at h
 ·unfold rndOf T0 at *;rw [if_neg e]; exact h
def Full (n m:Nat) (ys:Bs):Prop:=ys.length=n∧m≤n∧∀ j,j < m→ys[j]? = some 255
section
variable {H:List AObj} {b n:Nat}
theorem full_step {m k:Nat} {ys:Bs} (h:Full n m ys) (hk:k≤m) (hkn:m+k≤n):Full n (m+k) (spliceB ys m (ys.take k)):=by
 obtain ⟨h1,h2,h3⟩:=h;have hl:(ys.take k).length=k:=by rw [dh]; omega
 refine ⟨by rw [i9 (by omega)]; exact h1,hkn,fun j hj=>?_⟩;rw [m8 (by omega)];split
 ·exact h3 j (by omega)
 ·rw [hl,if_pos hj,fh,if_pos (by omega)];exact h3 _ (by omega)
theorem copy_step {m k w:Nat} {ys:Bs} {c1 c2:Option Nat} (hl:ys.length=n) (hk0:0 < k) (hm:m < n) (hk:k≤n) (hb:b≤H.length) (hc:k≤c2.getD k) :
  dj (.copy 1) [.slice (some (H.length,m)) (n - m) c1,.slice (some (H.length,0)) k c2] ⟨H++[.cells 1 (ys.map u8V)],b,w⟩=some (.int .i64 ((min (n - m) k:Nat):Int),⟨H++[.cells 1 ((spliceB ys m (ys.take (min (n - m) k))).map u8V)],b,min w H.length⟩):=by
 have hg:(H++[AObj.cells 1 (ys.map u8V)])[H.length]? = some (.cells 1 (ys.map u8V)):=ga _ _;have hmin:0 < min (n - m) k:=by omega
 have hr:rowK 1 ⟨H++[.cells 1 (ys.map u8V)],b,w⟩ (min (n - m) k) (.slice (some (H.length,0)) k c2)=some ((ys.take (min (n - m) k)).map u8V):=by
  have q0:min (n - m) k≤k:=by omega
  have q1:¬ min (n - m) k=0:=by omega
  have q2:min (n - m) k≤n:=by omega
  unfold rowK iw;simp only [if_pos q0,if_neg q1,Heap.get,hg,r0,ed,bh,hl,q2,and_self,if_true,eq,uw]
 have hml:((ys.take (min (n - m) k)).map u8V).length=min (n - m) k:=by rw [bh,dh]; omega
 have hle:m+min (n - m) k≤n:=by omega
 unfold dj;simp only [alen,hr,show ¬ min (n - m) k=0 from by omega,if_false,Heap.get,hg,hml,bh,hl,hb,hle,and_self,if_true,Heap.put,set_k0]
 have hs:splice (ys.map u8V) m ((ys.take (min (n - m) k)).map u8V)=(spliceB ys m (ys.take (min (n - m) k))).map u8V:=by
  rw [tl];unfold splice;have ht:(ys.take (min (n - m) k)).length=min (n - m) k:=by rw [dh]; omega
  rw [hml,ht]
 rw [hs]; rfl
section
attribute [-simp] getElem?_pos getElem?_neg List.all_eq_true
attribute [local simp] qZ qS nltT nltF iltT iltF ileT nleT el
theorem l567 {M:Nat} (hM:0 < M∧M≤n) (hb:b≤H.length) (hn:n≤262144):∀ (d m w:Nat) (ys:Bs),n - m≤d→0 < m→H.length≤w→Full n m ys→∃ (ys':Bs) (w':Nat),Full n n ys'∧H.length≤w'∧∀ {β:Type} (k:AExit→St→Option β),
  xK T0 (.loop raw567L0) ⟨[(7,.val (.int .i64 n)),(8,.val (.int .i64 M)),(9,.val (.slice (some (H.length,0)) n (some n))),(10,.val (.int .i64 m))],⟨H++[.cells 1 (ys.map u8V)],b,w⟩⟩ (k:=⟨k⟩) =
   k (.exit 0) ⟨[(9,.val (.slice (some (H.length,0)) n (some n)))],⟨H++[.cells 1 (ys'.map u8V)],b,w'⟩⟩:=by
 intro d;induction d with
 | zero =>
  intro m w ys hd h0 hw hF;have hmn:m=n:=by have:=hF.2.1; omega
  subst hmn;refine ⟨ys,w,hF,hw,fun k=>?_⟩;rw [cd];simp (disch:=omega) [raw567L0]
 | succ d ih =>
  intro m w ys hd h0 hw hF;by_cases c:m < n
  ·obtain ⟨q,hq,hq0⟩:∃ q,q=min m M∧0 < q:=⟨_,rfl,by omega⟩;have hcs:=fun w=>copy_step (b:=b) (w:=w) (c1:=some (n - m)) (c2:=some n) hF.1 hq0 c (by omega) hb (show q≤(some n).getD q by simp; omega)
   have hk:min (n - m) q≤m:=by omega
   have hkn:m+min (n - m) q≤n:=by omega
   have hF2:=full_step hF hk hkn;have hpos:0 < min (n - m) q:=by omega
   obtain ⟨ys',w',i1,i2,i3⟩:=ih (m+min (n - m) q) (min w H.length) _ (by omega) (by omega) (by omega) hF2;refine ⟨ys',w',i1,i2,fun k=>?_⟩;rw [cd,← i3 k];have e1:((m+min (n - m) q:Nat):Int)=(m:Int)+((min (n - m) q:Nat):Int):=by omega
   rw [e1];have hmn:m≤n:=by omega
   have hqn:q≤n:=by omega
   have hnm:¬ n=m:=by omega
   have hle:min (n - m) q≤262144:=by omega
   have ci:(m:Int) < n:=by omega
   have hids:AVal.idsL ((spliceB ys m (ys.take (min (n - m) q))).map u8V)=[]:=lz _;generalize (spliceB ys m (ys.take (min (n - m) q))).map u8V=Y2 at *;have hyl:(ys.map u8V).length=n:=by rw [bh]; exact hF.1
   generalize ys.map u8V=Y at *;generalize min (n - m) q=kk at *;generalize ACode.loop raw567L0=LL;rcases bi m M with d1 | d1
   ·have hqm:q=m:=by omega
    subst hqm;have d2:¬ (M:Int) < q:=by omega
    have d3:(q:Int) < M:=by omega
    have d4:(q:Int)≤M:=by omega
    simp (disch:=omega) [raw567L0,-dj,-sget,sgetN,zbh,sgetT,-fj,jf,jg,gu,bz,hcs,ci,c,hmn,hyl,hids,hnm,eszIs,d1,d2,d3,d4]
   ·have hqm:q=M:=by omega
    subst hqm;have d2:(q:Int)≤m:=by omega
    have d3:¬ (m:Int) < q:=by omega
    have d5:¬ m < q:=by omega
    have d6:(if q < m then (q:Int) else (m:Int))=q:=by split <;> omega
    simp (disch:=omega) [raw567L0,-dj,-sget,sgetN,zbh,sgetT,-fj,jf,jg,gu,bz,hcs,ci,c,hmn,hqn,hyl,hids,hnm,eszIs,d1,d2,d3,d5,d6]
  ·exact ih m w ys (by omega) h0 hw hF
end
end
def q567:ACode:=.seq (R [7,8,9,10] [v 58 9,v 59 0,o 60 (.ext (.copy 1) [t 58,t 59]),v 10 60])
 (.seq (.after (.block 0 (.loop raw567L0)) [9])
 (.seq (R [4] [v 76 9,v 4 76])
 (.live [4] (.ret))))
theorem bodyR:raw567.body = .seq (R [0,1] [o 4 (.val (.const (.slice none 0 (some 0))))])
 (.seq (.seq (R [0,1,13] [v 12 1,o 13 (.bin .eql (t 12) (n 0))])
 (.after (.cond (t 13) (.seq (R [4] [o 14 (.mkslice 1 0 [] []),v 4 14])
 (.live [4] (.ret))) (.skip)) [0,1]))
 (.seq (.seq (R [0,1,16] [v 15 1,o 16 (.bin .lss (t 15) (n 0))])
 (.after (.cond (t 16) (R [0,1] [o 17 (.nextStr F),u (.nextStr F)]) (.skip)) [0,1]))
 (.seq (R [0,5,6] [v 19 0,o 20 (.len .sl (t 19)),o 21 (.conv (.int .u64) (t 20)),v 22 1,o 23 (.conv (.int .u64) (t 22)),o 24 (.callg 454 [t 21,t 23]),v 18 24,o 25 (.extract (t 18) 0),o 26 (.extract (t 18) 1),v 5 25,v 6 26])
 (.seq (.seq (R [0,6,32] [v 27 5,o 28 (.bin .gtr (t 27) (.const (.int .u64 0))),v 29 28,g 30 29 false (.val (t 6)),g 31 29 false (.bin .gtr (t 30) (.const (.int .u64 9223372036854775807))),o 32 (.pick (t 29) Y (t 31))])
 (.after (.cond (t 32) (R [0,6] [o 33 (.nextStr F),u (.nextStr F)]) (.skip)) [0,6]))
 (.seq (R [0,7] [v 34 6,o 35 (.conv (.int .i64) (t 34)),v 7 35])
 (.seq (.seq (R [0,7,38] [v 36 0,o 37 (.len .sl (t 36)),o 38 (.bin .eql (t 37) (n 0))])
 (.after (.cond (t 38) (.seq (R [4] [o 39 (.mkslice 1 0 [] []),v 4 39])
 (.live [4] (.ret))) (.skip)) [0,7]))
 (.seq (R [0,7,8] [v 40 7,v 8 40])
 (.seq (.seq (R [0,7,8,42] [v 41 8,o 42 (.bin .gtr (t 41) (n 8192))])
 (.after (.cond (t 42) (.seq (R [0,7,8] [v 43 0,o 44 (.len .sl (t 43)),o 45 (.bin .quo (n 8192) (t 44)),v 46 0,o 47 (.len .sl (t 46)),o 48 (.bin .mul (t 45) (t 47)),v 8 48])
 (.seq (R [0,7,8,50] [v 49 8,o 50 (.bin .eql (t 49) (n 0))])
 (.after (.cond (t 50) (R [0,7,8] [v 51 0,o 52 (.len .sl (t 51)),v 8 52]) (.skip)) [0,7,8]))) (.skip)) [0,7,8]))
 (.seq (R [0,7,8,9] [v 53 7,o 54 (.ext (.pure (.prim .noZero)) [t 53]),v 55 7,v 56 7,o 57 (.slice (.sl 1) (t 54) none (some (t 55)) (some (t 56))),v 9 57])
 q567))))))))):=rfl
theorem full_rep {n:Nat} {ys:Bs} (h:Full n n ys):ys=List.replicate n 255:=by
 obtain ⟨h1,-,h3⟩:=h;refine jh fun j=>?_
 by_cases c:j < n
 ·rw [h3 j c,gn,if_pos c]
 ·rw [bv (by omega),bv (by rw [br]; omega)]
section
variable {E:Env} {H:List AObj} {b n:Nat}
section
attribute [-simp] getElem?_pos getElem?_neg List.all_eq_true
attribute [local simp] qZ qS nltT nltF iltT iltF ileT nleT el
theorem c567 (hT:AgreesX E T0) (hm:E.P.follows .mixedOrders=true) (hF:IsCode E 567 raw567) {p o:Nat} {c:Option Nat} {X:List AVal} (hp:H[p]? = some (.cells 1 X)) (hX:X[o]? = some (.int .u8 255)) (hn:0 < n∧n≤262144) (hb:b≤H.length) (w:Nat) :
  CallD E 567 [.slice (some (p,o)) 1 c,.int .i64 n] ⟨H,b,w⟩ fun v h'=>v = .slice (some (H.length,0)) n (some n)∧h'=⟨H++[.cells 1 (List.replicate n (.int .u8 255))],b,w⟩:=by
 have hpl:=ah hp;refine CallD.of_code hF rfl ?_;rw [bodyR];have hen:enter 0 [AVal.slice (some (p,o)) 1 c,.int .i64 n]=[(0,.val (.slice (some (p,o)) 1 c)),(1,.val (.int .i64 n))]:=rfl;have hsz:(⟨H,b,w⟩:Heap).size=H.length:=rfl;rw [hen];simp only [hsz];have n1:¬ ((n:Int)=0):=by omega
 have n2:¬ ((n:Int) < 0):=by omega
 have n3:¬ (n=0):=by omega
 have wn:IntKind.u64.wrap (n:Int)=n:=l9 (by omega)
 have wi:IntKind.i64.wrap (n:Int)=n:=by
  have:∀ m:Nat,m≤262144→IntKind.i64.wrap (m:Int)=m:=fun m hm=>by unfold IntKind.wrap;simp [IntKind.signed,IntKind.bits];omega
  exact this n hn.2
 have w1:IntKind.u64.wrap 1=1:=by decide
 have c1:¬ ((9223372036854775807:Int) < n):=by omega
 obtain ⟨M,hM,hMn⟩:∃ M:Nat,M=(if 8192 < n then 8192 else n)∧(0 < M∧M≤n):=⟨_,rfl,by split <;> omega⟩;have h454:=fun w=>du subR (s454 (H:=H) (b:=b) (w:=w) hn.2)
 refine CodeD.seq nofun (CodeD.run (e:=.normal) (st':=⟨[(0,.val (.slice (some (p,o)) 1 c)),(1,.val (.int .i64 n))],⟨H,b,H.length⟩⟩) hT hm (fun k'=>by simp (disch:=omega) []) ?_);refine CodeD.seq nofun (CodeD.run (e:=.normal) (st':=⟨[(0,.val (.slice (some (p,o)) 1 c)),(1,.val (.int .i64 n))],⟨H,b,H.length⟩⟩) hT hm (fun k'=>by simp (disch:=omega) [n1,n3]) ?_);refine CodeD.seq nofun (CodeD.run (e:=.normal) (st':=⟨[(0,.val (.slice (some (p,o)) 1 c)),(1,.val (.int .i64 n))],⟨H,b,H.length⟩⟩) hT hm (fun k'=>by simp (disch:=omega) [n2]) ?_);refine CodeD.seq nofun (CodeD.run (e:=.normal) (st':=⟨[(0,.val (.slice (some (p,o)) 1 c)),(5,.val (.int .u64 0)),(6,.val (.int .u64 n))],⟨H,b,H.length⟩⟩) hT hm (fun k'=>by simp (disch:=omega) [wn,w1,h454]) ?_)
 refine CodeD.seq nofun (CodeD.run (e:=.normal) (st':=⟨[(0,.val (.slice (some (p,o)) 1 c)),(6,.val (.int .u64 n))],⟨H,b,H.length⟩⟩) hT hm (fun k'=>by simp (disch:=omega) [c1]) ?_);refine CodeD.seq nofun (CodeD.run (e:=.normal) (st':=⟨[(0,.val (.slice (some (p,o)) 1 c)),(7,.val (.int .i64 n))],⟨H,b,H.length⟩⟩) hT hm (fun k'=>by simp (disch:=omega) [wi]) ?_);refine CodeD.seq nofun (CodeD.run (e:=.normal) (st':=⟨[(0,.val (.slice (some (p,o)) 1 c)),(7,.val (.int .i64 n))],⟨H,b,H.length⟩⟩) hT hm (fun k'=>by simp (disch:=omega) []) ?_);refine CodeD.seq nofun (CodeD.run (e:=.normal) (st':=⟨[(0,.val (.slice (some (p,o)) 1 c)),(7,.val (.int .i64 n)),(8,.val (.int .i64 n))],⟨H,b,H.length⟩⟩) hT hm (fun k'=>by simp (disch:=omega) []) ?_)
 refine CodeD.seq nofun (CodeD.run (e:=.normal) (st':=⟨[(0,.val (.slice (some (p,o)) 1 c)),(7,.val (.int .i64 n)),(8,.val (.int .i64 M))],⟨H,b,H.length⟩⟩) hT hm (fun k'=>by
  by_cases c2:8192 < n
  ·rw [if_pos c2] at hM;subst hM;have c3:(8192:Int) < n:=by omega
   simp (disch:=omega) [c2,c3]
  ·rw [if_neg c2] at hM;subst hM;have c3:¬ ((8192:Int) < M):=by omega
   simp (disch:=omega) [c2,c3]) ?_)
 refine CodeD.seq nofun (CodeD.after (CodeD.regionX hT hm ?_));refine OpsD.run (l:=[v 53 7]) (r:=[Go.Abs.Short.o 54 (.ext (.pure (.prim .noZero)) [t 53]),v 55 7,v 56 7,Go.Abs.Short.o 57 (.slice (.sl 1) (t 54) none (some (t 55)) (some (t 56))),v 9 57]) (s1:=[(53,.val (.int .i64 n)),(0,.val (.slice (some (p,o)) 1 c)),(7,.val (.int .i64 n)),(8,.val (.int .i64 M))]) (h1:=⟨H,b,H.length⟩) (fun k'=>by simp (disch:=omega) []) ?_;refine OpsD.noZero (x:=t 53) (n:=n) rfl rfl rfl (by omega) fun bs hbs=>?_
 have hpush:(⟨H,b,H.length⟩:Heap).push (.cells 1 (bs.map fun b=>.int .u8 b.toNat))=⟨H++[.cells 1 (bs.map u8V)],b,H.length⟩:=rfl;rw [hpush];have hbl:(bs.map u8V).length=n:=by rw [bh]; exact hbs
 have hxl:=ah hX;have hids0:AVal.idsL (bs.map u8V)=[]:=lz _
 refine OpsD.run (l:=[v 55 7,v 56 7,Go.Abs.Short.o 57 (.slice (.sl 1) (t 54) none (some (t 55)) (some (t 56))),v 9 57]) (r:=[]) (s1:=[(9,.val (.slice (some (H.length,0)) n (some n))),(57,.val (.slice (some (H.length,0)) n (some n))),(56,.val (.int .i64 n)),(55,.val (.int .i64 n)),(54,.val (.slice (some (H.length,0)) n none)),(53,.val (.int .i64 n)),(0,.val (.slice (some (p,o)) 1 c)),(7,.val (.int .i64 n)),(8,.val (.int .i64 M))]) (h1:=⟨H++[.cells 1 (bs.map u8V)],b,H.length⟩) (fun k'=>by
  show opsK (xCall T0) _ ((54,Slot.val (.slice (some (H.length,0)) n none)) :: _) _ (k:=⟨k'⟩)=_
  generalize bs.map u8V=Y at *;simp (disch:=omega) [hbl,eszIs]) (OpsD.done ?_)
 simp only [];have hk1:keepK [0,7,8,9] [(9,Slot.val (.slice (some (H.length,0)) n (some n))),(57,.val (.slice (some (H.length,0)) n (some n))),(56,.val (.int .i64 n)),(55,.val (.int .i64 n)),(54,.val (.slice (some (H.length,0)) n none)),(53,.val (.int .i64 n)),(0,.val (.slice (some (p,o)) 1 c)),(7,.val (.int .i64 n)),(8,.val (.int .i64 M))]=[(0,.val (.slice (some (p,o)) 1 c)),(7,.val (.int .i64 n)),(8,.val (.int .i64 M)),(9,.val (.slice (some (H.length,0)) n (some n)))]:=by simp
 rw [hk1]
 have hF1:Full n 1 (spliceB bs 0 [255]):=by
  refine ⟨by rw [i9 (by show 0+1≤_; omega)]; exact hbs,hn.1,fun j hj=>?_⟩;obtain rfl:j=0:=by omega
  rw [m8 (by show 0+1≤_; omega)]; rfl
 have hcopy:∀ w,dj (.copy 1) [.slice (some (H.length,0)) n (some n),.slice (some (p,o)) 1 c] ⟨H++[.cells 1 (bs.map u8V)],b,w⟩=some (.int .i64 1,⟨H++[.cells 1 ((spliceB bs 0 [255]).map u8V)],b,min w H.length⟩):=fun w=>by
  have hg:(H++[AObj.cells 1 (bs.map u8V)])[H.length]? = some (.cells 1 (bs.map u8V)):=ga _ _;have hgp:(H++[AObj.cells 1 (bs.map u8V)])[p]? = some (.cells 1 X):=by rw [ag hpl]; exact hp
  have hmin:min n 1=1:=by omega
  have htk:(X.drop o).take 1=[.int .u8 255]:=by rw [List.take_one,List.head?_drop,hX]; rfl
  have hox:o+1≤X.length:=by omega
  have hr:rowK 1 ⟨H++[.cells 1 (bs.map u8V)],b,w⟩ 1 (.slice (some (p,o)) 1 c)=some [.int .u8 255]:=by unfold rowK iw;simp only [aj,if_true,Heap.get,hgp,r0,hox,and_self,htk];rfl
  have hle:0+1≤n:=by omega
  have hs:splice (bs.map u8V) 0 [.int .u8 255]=(spliceB bs 0 [255]).map u8V:=by rw [tl]; rfl
  unfold dj;simp only [alen,hmin,hr,Nat.one_ne_zero,if_false,Heap.get,hg,bt,ep,ed,hbl,hb,hn.1,and_self,if_true,Heap.put,set_k0,hs];have:¬ n < 1:=by omega
  simp [this,Nat.succ_le_of_lt hn.1]
 obtain ⟨ys,w',i1,i2,i3⟩:=l567 (b:=b) hMn hb hn.2 n 1 H.length (spliceB bs 0 [255]) (by omega) (by decide) (aj _) hF1;have hys:=full_rep i1;have hym:ys.map u8V=List.replicate n (.int .u8 255):=by rw [hys,List.map_replicate]; rfl
 rw [hym] at i3;have i3:=fun (k:AExit→St→Option Unit)=>i3 k
 simp only [ba] at i3;have hmw:min H.length H.length=H.length:=Nat.min_self _
 refine CodeD.run (e:=.ret) (st':=⟨[(4,.val (.slice (some (H.length,0)) n (some n)))],⟨H++[.cells 1 (List.replicate n (.int .u8 255))],b,w'⟩⟩) hT hm (fun k'=>by generalize (spliceB bs 0 [255]).map u8V=Y2 at *;generalize bs.map u8V=Y at *;simp (disch:=omega) [q567,-dj,hcopy,i3]) ?_
 refine ⟨_,_,?_,rfl,rfl⟩;have hids:AVal.idsL (List.replicate n (AVal.int .u8 255))=[]:=AbsBlb.idsL_none fun x hx=>by rw [List.eq_of_mem_replicate hx]; simp [AVal.ids]
 have hren:∀ g,AVal.renL g (List.replicate n (AVal.int .u8 255))=List.replicate n (.int .u8 255):=fun g=>AbsBlb.renL_none fun x hx=>by rw [List.eq_of_mem_replicate hx]; simp [AVal.ren]
 have hf:=oh (O:=H) (P:=H++[.cells 1 (List.replicate n (.int .u8 255))]) (b:=b) (w:=w) (W:=w') (q:=H.length) (n:=n) (c:=some n) (ga H _) hids hren (aj _) i2;simp only [funcEnd,raw567,resultsL,result1,zbh,sget];simp [-dk,tupled,hf]
end
theorem rep_ok {f:FuncId} {fn:Func} (hT:AgreesX E T0) (hm:E.P.follows .mixedOrders=true) (hF:IsCode E 567 raw567) (hg:E.gid f=some 567) (hn:fn.name ≠ "runtime.NumGoroutine") (hb:fn.body.isSome=true):LibOK E f fn repF :=
 LibOK.of_calls hg hn hb fun args h v ps xs e=>by
  obtain ⟨os,b,w⟩:=h;unfold repF at e;split at e;case h_2=>cases e
  rename_i p o c n;split at e;case h_2=>cases e
  rename_i X hp;split at e;case h_2=>cases e
  rename_i hX;split at e;case isFalse=>cases e
  rename_i hn';cases e;intro f' hgid μ W args' ha hr;have hbs:b≤os.length:=hr.bs;have e1:n=((n.toNat:Nat):Int):=by omega
  have:=c567 hT hm hF (b:=b) (w:=w) (c:=c) (H:=os) hp hX (n:=n.toNat) (by omega) hbs;rw [← e1] at this;exact (this.mono fun v h' ⟨g1,g2⟩=>⟨g1,g2⟩) f' hgid μ W args' ha hr
end
end Go.Abs.AbsBlo

namespace Go.Abs.AbsNat
def T0:Nat→Option AFunc:=fun g=>if g=567 then some AbsBlo.raw567 else T g
theorem subT:∀ g f,AbsBlo.T0 g=some f→T0 g=some f:=fun g f h=>by
 unfold AbsBlo.T0 at h;unfold T0;split at h
 ·rename_i e; rw [if_pos e]; exact h
 ·rename_i e; rw [if_neg e]; exact sub g f h
theorem rnd0:∀ g ar,rndOf T g=some ar→rndOf T0 g=some ar:=fun g ar h=>by
 by_cases e:g=567
 ·subst e;have:T 567=some AbsBlo.code567:=rfl;simp [rndOf,this,AbsBlo.code567,ASpec.rnd] at h
 ·unfold rndOf T0 at *;rw [if_neg e]; exact h
theorem lookup_inv {l:List (Nat × Nat)} {f g k:Nat} (h:List.lookup f l=some g) (hk:(l.all fun p=>!decide (p.2=g) || decide (p.1=k))=true):f=k:=by
 induction l with
 | nil=>simp at h
 | cons p l ih =>
  rw [List.all_cons,a7] at hk;rw [List.lookup_cons] at h;split at h
  ·rename_i e;cases h;rw [beq_iff_eq] at e;subst e;simpa using hk.1
  ·exact ih h hk.2
end Go.Abs.AbsNat

namespace Go.Abs.AbsRm
def T0:Nat→Option AFunc:=fun g=>if g=567 then some AbsBlo.raw567 else T g
theorem subT:∀ g f,AbsNat.T0 g=some f→T0 g=some f:=fun g f h=>by
 unfold AbsNat.T0 at h;unfold T0;split at h
 ·rename_i e; rw [if_pos e]; exact h
 ·rename_i e; rw [if_neg e]; exact sub g f h
theorem rnd0:∀ g ar,rndOf T g=some ar→rndOf T0 g=some ar:=fun g ar h=>by
 by_cases e:g=567
 ·subst e;have:T 567=some AbsBlo.code567:=rfl;simp [rndOf,this,AbsBlo.code567,ASpec.rnd] at h
 ·unfold rndOf T0 at *;rw [if_neg e]; exact h
end Go.Abs.AbsRm
