/-
  Texts joined.
-/
import Derived.Test.YtfjiakbhdjcceaaGreatQ0
import Derived.Test.YtfjiakbhdjcceaaGreatQ6
import Derived.Test.YtfjiakbhdjcceaaGreatQ5
import Derived.Test.YtfjiakbhdjcceaaGreatQ9
import Derived.Test.YtfjiakbhdjcceaaGreatQ11
set_option linter.unusedVariables false
set_option linter.unusedSimpArgs false
set_option maxRecDepth 100000
namespace Go.Abs
def AOper.isLoc (o:AOper):Bool:=match o.op with
 | .lalloc _ | .lbox _ | .ext (.hstore _) _=>true
 | _=>false
def locsOf:Nat→List AOper→List Nat
 | _,[]=>[]
 | i,o :: r=>if o.isLoc then i :: locsOf (i+1) r else locsOf (i+1) r
def ACode.hint:ACode→Hint
 | .skip | .exit _ | .ret | .next _ _=>.leaf
 | .region gs=>.reg (gs.map fun g=>(g.quiet,g.ops.length)) (locsOf 0 (gs.flatMap Seg.ops))
 | .seq (.next _ _) _=>.next
 | .seq a b=>.seq a.hint b.hint
 | .cond (.const (.str [])) .skip .skip=>.stuck
 | .cond _ a b=>.cond a.hint b.hint
 | .block _ c=>.block c.hint
 | .loop c=>.loop c.hint
 | .live l c=>.live l c.hint
 | .after c l=>.after c.hint l
 | .rangeFunc _ g caps _ a b=>.rangeFunc g caps a.hint b.hint
theorem ow {E:Env} {T:Nat→Option AFunc} {f g:Nat} {fn:Func} {c:AFunc} {b:Bool} {hint:Hint} (d:uo E b hint fn=some c) (h1:E.P.funcs[f]? = some fn) (h2:T g=some c) (e:RndOK E c.body.rounds):FnOK E T f g:=.inr (.inl ⟨_,_,_,_,h1,h2,d,e⟩)
theorem ox {E:Env} {T:Nat→Option AFunc} {f g:Nat} {fn:Func} (h1:E.P.funcs[f]? = some fn) (h2:T g=some Short.noF) (h:(decide (fn.name ≠ "runtime.NumGoroutine") && fn.body.isSome)=true):FnOK E T f g :=
 .inr (.inr ⟨_,_,_,h1,h2,rfl,⟨of_decide_eq_true (Bool.and_eq_true_iff.1 h).1,(Bool.and_eq_true_iff.1 h).2,fun _ _ _ _ _ e=>by cases e⟩⟩)
end Go.Abs

namespace Go.Abs.AbsBlb
open Go.Abs.Short
theorem and32 {m:Nat} (h:m < 4294967296):andI .u64 m 4294967295=m:=by
 unfold andI
 have d:(BitVec.ofInt IntKind.u64.bits (m:Int) &&& BitVec.ofInt IntKind.u64.bits 4294967295).toNat=m:=by
  show (BitVec.ofInt 64 (m:Int) &&& BitVec.ofInt 64 4294967295).toNat=m
  rw [BitVec.toNat_and]
  have e:(BitVec.ofInt 64 (m:Int)).toNat=m:=by rw [BitVec.toNat_ofInt]; omega
  have j:(BitVec.ofInt 64 4294967295).toNat=2 ^ 32 - 1:=by decide
  rw [e,j,Nat.and_two_pow_sub_one_eq_mod];omega
 rw [d];exact n9 (by omega)
section
attribute [-simp] getElem?_pos getElem?_neg List.all_eq_true
attribute [local simp] qZ qS nltT nltF iltT iltF ileT nleT di
theorem s466 {H:List AObj} {b w n:Nat} (A:n≤262144):xCall T 466 [.int .u64 1,.int .u64 n] ⟨H,b,w⟩=some (.tuple [.int .u64 0,.int .u64 n],⟨H,b,w⟩):=by
 have a1:andI .u64 1 4294967295=1:=and32 (m:=1) (by decide);have d:andI .u64 0 4294967295=0:=and32 (m:=0) (by decide);have e:andI .u64 n 4294967295=n:=and32 (by omega);have w0:IntKind.u64.wrap 0=0:=by decide
 have w1:IntKind.u64.wrap 1=1:=by decide
 have j:IntKind.u64.wrap (n:Int)=n:=n9 (by omega)
 have p:(n:Int).fdiv (2 ^ min 32 IntKind.u64.bits)=0:=by
  show (n:Int).fdiv 4294967296=0
  rw [Int.fdiv_eq_ediv_of_nonneg _ (by omega)]; omega
 have q:Int.fdiv 1 (2 ^ min 32 IntKind.u64.bits)=0:=by decide
 have y:Int.fdiv 0 (2 ^ min 32 IntKind.u64.bits)=0:=by decide
 simp (disch:=omega) [bg t466,code466,xw,a1,d,e,w0,w1,j,p,q,y]
theorem s454 {H:List AObj} {b w n:Nat} (e:n≤262144):xCall T 454 [.int .u64 1,.int .u64 n] ⟨H,b,w⟩=some (.tuple [.int .u64 0,.int .u64 n],⟨H,b,w⟩):=by
 have d:=fun w=>s466 (H:=H) (b:=b) (w:=w) e
 simp (disch:=omega) [bg t454,code454,d]
end
end Go.Abs.AbsBlb
namespace Go.Abs.AbsBlo
open Go.Abs.AbsBlb hiding T
open Go.Abs.Short
def raw567L0:ACode :=
 .live [7,8,9,10] (.seq (.seq (R [7,8,9,10,63] [v 61 10,v 62 7,o 63 (.bin .lss (t 61) (t 62))])
 (.after (.cond (t 63) (.skip) (.live [9] (.exit 0))) [7,8,9,10]))
 (.after (.block 1 (.seq (R [7,8,9,10,11] [v 64 10,v 65 8,o 66 (.minmax false [t 64,t 65]),v 11 66])
 (.after (.region [⟨true,[0,0,0,6,0,0,48,126],[v 67 10,v 68 9,v 69 10,o 70 (.slice (.sl 1) (t 68) (some (t 69)) none none),v 71 9,v 72 11,o 73 (.slice (.sl 1) (t 71) none (some (t 72)) none),o 74 (.ext (.copy 1) [t 70,t 73])]⟩,⟨false,[],[o 75 (.bin .add (t 67) (t 74)),v 10 75]⟩]) [7,8,9,10]))) [7,8,9,10]))
def raw567:AFunc:=⟨false,false,2,77,[.tmp 4],
 .seq (R [0,1] [o 4 (.val (.const (.slice none 0 (some 0))))])
 (.seq (.seq (R [0,1,13] [v 12 1,o 13 (.bin .eql (t 12) (n 0))])
 (.after (.cond (t 13) (.seq (R [4] [o 14 (.mkslice 1 0 [] []),v 4 14])
 (.live [4] (.ret))) (.skip)) [0,1]))
 (.seq (.seq (R [0,1,16] [v 15 1,o 16 (.bin .lss (t 15) (n 0))])
 (.after (.cond (t 16) (R [0,1] [o 17 (.nextStr F),u (.nextStr F)]) (.skip)) [0,1]))
 (.seq (R [0,5,6] [v 19 0,o 20 (.len .sl (t 19)),o 21 (.conv (.int .u64) (t 20)),v 22 1,o 23 (.conv (.int .u64) (t 22)),o 24 (.callg 454 [t 21,t 23]),v 18 24,o 25 (.extract (t 18) 0),o 26 (.extract (t 18) 1),v 5 25,v 6 26])
 (.seq (.seq (R [0,6,32] [v 27 5,o 28 (.bin .gtr (t 27) (.const (.int .u64 0))),v 29 28,g 30 29 false (.val (t 6)),g 31 29 false (.bin .gtr (t 30) (.const (.int .u64 9223372036854775807))),o 32 (.pick (t 29) Y (t 31))])
 (.after (.cond (t 32) (R [0,6] [o 33 (.nextStr F),u (.nextStr F)]) (.skip)) [0,6]))
 (.seq (R [0,7] [v 34 6,o 35 (.conv (.int .i64) (t 34)),v 7 35])
 (.seq (.seq (R [0,7,38] [v 36 0,o 37 (.len .sl (t 36)),o 38 (.bin .eql (t 37) (n 0))])
 (.after (.cond (t 38) (.seq (R [4] [o 39 (.mkslice 1 0 [] []),v 4 39])
 (.live [4] (.ret))) (.skip)) [0,7]))
 (.seq (R [0,7,8] [v 40 7,v 8 40])
 (.seq (.seq (R [0,7,8,42] [v 41 8,o 42 (.bin .gtr (t 41) (n 8192))])
 (.after (.cond (t 42) (.seq (R [0,7,8] [v 43 0,o 44 (.len .sl (t 43)),o 45 (.bin .quo (n 8192) (t 44)),v 46 0,o 47 (.len .sl (t 46)),o 48 (.bin .mul (t 45) (t 47)),v 8 48])
 (.seq (R [0,7,8,50] [v 49 8,o 50 (.bin .eql (t 49) (n 0))])
 (.after (.cond (t 50) (R [0,7,8] [v 51 0,o 52 (.len .sl (t 51)),v 8 52]) (.skip)) [0,7,8]))) (.skip)) [0,7,8]))
 (.seq (R [0,7,8,9] [v 53 7,o 54 (.ext (.pure (.prim .noZero)) [t 53]),v 55 7,v 56 7,o 57 (.slice (.sl 1) (t 54) none (some (t 55)) (some (t 56))),v 9 57])
 (.seq (R [7,8,9,10] [v 58 9,v 59 0,o 60 (.ext (.copy 1) [t 58,t 59]),v 10 60])
 (.seq (.after (.block 0 (.loop raw567L0)) [9])
 (.seq (R [4] [v 76 9,v 4 76])
 (.live [4] (.ret)))))))))))))),none⟩
def T0:Nat→Option AFunc:=fun g=>if g=567 then some raw567 else T g
theorem subR:∀ g f,AbsBlb.T g=some f→T0 g=some f:=fun g f h=>by unfold T0;rw [if_neg,sub g f h];rintro rfl;cases h
theorem rnd0:∀ g ar,rndOf T g=some ar→rndOf T0 g=some ar:=fun g ar h=>by
 by_cases e:g=567
 ·subst e;simp [rndOf,t567,code567,ASpec.rnd] at h
 ·unfold rndOf T0 at *;rw [if_neg e]; exact h
def Full (n m:Nat) (ys:Bs):Prop:=ys.length=n∧m≤n∧∀ j,j < m→ys[j]? = some 255
section
variable {H:List AObj} {b n:Nat}
theorem full_step {m k:Nat} {d:Bs} (h:Full n m d) (y:k≤m) (e:m+k≤n):Full n (m+k) (spliceB d m (d.take k)):=by
 obtain ⟨h1,h2,p⟩:=h;have q:(d.take k).length=k:=by rw [db]; omega
 refine ⟨by rw [gw (by omega)]; exact h1,e,fun j w=>?_⟩;rw [lg (by omega)];split
 ·exact p j (by omega)
 ·rw [q,if_pos w,eo,if_pos (by omega)];exact p _ (by omega)
theorem copy_step {m k w:Nat} {d:Bs} {c1 c2:Option Nat} (p:d.length=n) (A:0 < k) (hm:m < n) (I:k≤n) (hb:b≤H.length) (hc:k≤c2.getD k) :
  ct (.copy 1) [.slice (some (H.length,m)) (n - m) c1,.slice (some (H.length,0)) k c2] ⟨H++[.cells 1 (d.map u8V)],b,w⟩=some (.int .i64 ((min (n - m) k:Nat):Int),⟨H++[.cells 1 ((spliceB d m (d.take (min (n - m) k))).map u8V)],b,min w H.length⟩):=by
 have q:(H++[AObj.cells 1 (d.map u8V)])[H.length]? = some (.cells 1 (d.map u8V)):=gc _ _;have y:0 < min (n - m) k:=by omega
 have hr:rowK 1 ⟨H++[.cells 1 (d.map u8V)],b,w⟩ (min (n - m) k) (.slice (some (H.length,0)) k c2)=some ((d.take (min (n - m) k)).map u8V):=by
  have B:min (n - m) k≤k:=by omega
  have C:¬ min (n - m) k=0:=by omega
  have D:min (n - m) k≤n:=by omega
  unfold rowK il;simp only [if_pos B,if_neg C,Heap.get,q,Nat.mul_one,dq,a7,p,D,and_self,if_true,ff,List.map_take]
 have e:((d.take (min (n - m) k)).map u8V).length=min (n - m) k:=by rw [a7,db]; omega
 have j:m+min (n - m) k≤n:=by omega
 unfold ct;simp only [alen,hr,show ¬ min (n - m) k=0 from by omega,if_false,Heap.get,q,e,a7,p,hb,j,and_self,if_true,Heap.put,set_k0]
 have hs:splice (d.map u8V) m ((d.take (min (n - m) k)).map u8V)=(spliceB d m (d.take (min (n - m) k))).map u8V:=by
  rw [tk];unfold splice;have G:(d.take (min (n - m) k)).length=min (n - m) k:=by rw [db]; omega
  rw [e,G]
 rw [hs]; rfl
section
attribute [-simp] getElem?_pos getElem?_neg List.all_eq_true
attribute [local simp] qZ qS nltT nltF iltT iltF ileT nleT di
theorem l567 {M:Nat} (hM:0 < M∧M≤n) (hb:b≤H.length) (hn:n≤262144):∀ (d m w:Nat) (e:Bs),n - m≤d→0 < m→H.length≤w→Full n m e→∃ (j:Bs) (w':Nat),Full n n j∧H.length≤w'∧∀ {β:Type} (k:AExit→St→Option β),
  xK T0 (.loop raw567L0) ⟨[(7,.val (.int .i64 n)),(8,.val (.int .i64 M)),(9,.val (.slice (some (H.length,0)) n (some n))),(10,.val (.int .i64 m))],⟨H++[.cells 1 (e.map u8V)],b,w⟩⟩ (k:=⟨k⟩) =
   k (.exit 0) ⟨[(9,.val (.slice (some (H.length,0)) n (some n)))],⟨H++[.cells 1 (j.map u8V)],b,w'⟩⟩:=by
 intro d;induction d with
 | zero =>
  intro m w e hd h0 hw A;have p:m=n:=by have:=A.2.1; omega
  subst p;refine ⟨e,w,A,hw,fun k=>?_⟩;rw [b9];simp (disch:=omega) [raw567L0]
 | succ d ih =>
  intro m w e hd h0 hw A;by_cases c:m < n
  ·obtain ⟨q,hq,I⟩:∃ q,q=min m M∧0 < q:=⟨_,rfl,by omega⟩;have C:=fun w=>copy_step (b:=b) (w:=w) (c1:=some (n - m)) (c2:=some n) A.1 I c (by omega) hb (show q≤(some n).getD q by simp; omega)
   have V:min (n - m) q≤m:=by omega
   have J:m+min (n - m) q≤n:=by omega
   have K:=full_step A V J;have Q:0 < min (n - m) q:=by omega
   obtain ⟨j,w',i1,W,X⟩:=ih (m+min (n - m) q) (min w H.length) _ (by omega) (by omega) (by omega) K;refine ⟨j,w',i1,W,fun k=>?_⟩;rw [b9,← X k];have e1:((m+min (n - m) q:Nat):Int)=(m:Int)+((min (n - m) q:Nat):Int):=by omega
   rw [e1];have p:m≤n:=by omega
   have L:q≤n:=by omega
   have D:¬ n=m:=by omega
   have a0:min (n - m) q≤262144:=by omega
   have U:(m:Int) < n:=by omega
   have y:AVal.idsL ((spliceB e m (e.take (min (n - m) q))).map u8V)=[]:=ml _;generalize (spliceB e m (e.take (min (n - m) q))).map u8V=Y2 at *;have G:(e.map u8V).length=n:=by rw [a7]; exact A.1
   generalize e.map u8V=Y at *;generalize min (n - m) q=kk at *;generalize ACode.loop raw567L0=LL;rcases bh m M with N | N
   ·have B:q=m:=by omega
    subst B;have O:¬ (M:Int) < q:=by omega
    have P:(q:Int) < M:=by omega
    have d4:(q:Int)≤M:=by omega
    simp (disch:=omega) [raw567L0,-ct,-sget,zq,vj,zr,-ew,lq,lr,jf,ex,C,U,c,p,G,y,D,eszIs,N,O,P,d4]
   ·have B:q=M:=by omega
    subst B;have O:(q:Int)≤m:=by omega
    have P:¬ (m:Int) < q:=by omega
    have d5:¬ m < q:=by omega
    have d6:(if q < m then (q:Int) else (m:Int))=q:=by split <;> omega
    simp (disch:=omega) [raw567L0,-ct,-sget,zq,vj,zr,-ew,lq,lr,jf,ex,C,U,c,p,L,G,y,D,eszIs,N,O,P,d5,d6]
  ·exact ih m w e (by omega) h0 hw A
end
end
def q567:ACode:=.seq (R [7,8,9,10] [v 58 9,v 59 0,o 60 (.ext (.copy 1) [t 58,t 59]),v 10 60])
 (.seq (.after (.block 0 (.loop raw567L0)) [9])
 (.seq (R [4] [v 76 9,v 4 76])
 (.live [4] (.ret))))
theorem bodyR:raw567.body = .seq (R [0,1] [o 4 (.val (.const (.slice none 0 (some 0))))])
 (.seq (.seq (R [0,1,13] [v 12 1,o 13 (.bin .eql (t 12) (n 0))])
 (.after (.cond (t 13) (.seq (R [4] [o 14 (.mkslice 1 0 [] []),v 4 14])
 (.live [4] (.ret))) (.skip)) [0,1]))
 (.seq (.seq (R [0,1,16] [v 15 1,o 16 (.bin .lss (t 15) (n 0))])
 (.after (.cond (t 16) (R [0,1] [o 17 (.nextStr F),u (.nextStr F)]) (.skip)) [0,1]))
 (.seq (R [0,5,6] [v 19 0,o 20 (.len .sl (t 19)),o 21 (.conv (.int .u64) (t 20)),v 22 1,o 23 (.conv (.int .u64) (t 22)),o 24 (.callg 454 [t 21,t 23]),v 18 24,o 25 (.extract (t 18) 0),o 26 (.extract (t 18) 1),v 5 25,v 6 26])
 (.seq (.seq (R [0,6,32] [v 27 5,o 28 (.bin .gtr (t 27) (.const (.int .u64 0))),v 29 28,g 30 29 false (.val (t 6)),g 31 29 false (.bin .gtr (t 30) (.const (.int .u64 9223372036854775807))),o 32 (.pick (t 29) Y (t 31))])
 (.after (.cond (t 32) (R [0,6] [o 33 (.nextStr F),u (.nextStr F)]) (.skip)) [0,6]))
 (.seq (R [0,7] [v 34 6,o 35 (.conv (.int .i64) (t 34)),v 7 35])
 (.seq (.seq (R [0,7,38] [v 36 0,o 37 (.len .sl (t 36)),o 38 (.bin .eql (t 37) (n 0))])
 (.after (.cond (t 38) (.seq (R [4] [o 39 (.mkslice 1 0 [] []),v 4 39])
 (.live [4] (.ret))) (.skip)) [0,7]))
 (.seq (R [0,7,8] [v 40 7,v 8 40])
 (.seq (.seq (R [0,7,8,42] [v 41 8,o 42 (.bin .gtr (t 41) (n 8192))])
 (.after (.cond (t 42) (.seq (R [0,7,8] [v 43 0,o 44 (.len .sl (t 43)),o 45 (.bin .quo (n 8192) (t 44)),v 46 0,o 47 (.len .sl (t 46)),o 48 (.bin .mul (t 45) (t 47)),v 8 48])
 (.seq (R [0,7,8,50] [v 49 8,o 50 (.bin .eql (t 49) (n 0))])
 (.after (.cond (t 50) (R [0,7,8] [v 51 0,o 52 (.len .sl (t 51)),v 8 52]) (.skip)) [0,7,8]))) (.skip)) [0,7,8]))
 (.seq (R [0,7,8,9] [v 53 7,o 54 (.ext (.pure (.prim .noZero)) [t 53]),v 55 7,v 56 7,o 57 (.slice (.sl 1) (t 54) none (some (t 55)) (some (t 56))),v 9 57])
 q567))))))))):=rfl
theorem full_rep {n:Nat} {d:Bs} (h:Full n n d):d=List.replicate n 255:=by
 obtain ⟨h1,-,e⟩:=h;refine jj fun j=>?_
 by_cases c:j < n
 ·rw [e j c,ft,if_pos c]
 ·rw [bw (by omega),bw (by rw [bq]; omega)]
section
variable {E:Env} {H:List AObj} {b n:Nat}
section
attribute [-simp] getElem?_pos getElem?_neg List.all_eq_true
attribute [local simp] qZ qS nltT nltF iltT iltF ileT nleT di
theorem c567 (d:AgreesX E T0) (hm:E.P.follows .mixedOrders=true) (hF:IsCode E 567 raw567) {p o:Nat} {c:Option Nat} {X:List AVal} (hp:H[p]? = some (.cells 1 X)) (hX:X[o]? = some (.int .u8 255)) (B:0 < n∧n≤262144) (hb:b≤H.length) (w:Nat) :
  CallD E 567 [.slice (some (p,o)) 1 c,.int .i64 n] ⟨H,b,w⟩ fun v h'=>v = .slice (some (H.length,0)) n (some n)∧h'=⟨H++[.cells 1 (List.replicate n (.int .u8 255))],b,w⟩:=by
 have Q:=ah hp;refine CallD.of_code hF rfl ?_;rw [bodyR];have U:enter 0 [AVal.slice (some (p,o)) 1 c,.int .i64 n]=[(0,.val (.slice (some (p,o)) 1 c)),(1,.val (.int .i64 n))]:=rfl;have V:(⟨H,b,w⟩:Heap).size=H.length:=rfl;rw [U];simp only [V];have n1:¬ ((n:Int)=0):=by omega
 have n2:¬ ((n:Int) < 0):=by omega
 have n3:¬ (n=0):=by omega
 have wn:IntKind.u64.wrap (n:Int)=n:=n9 (by omega)
 have wi:IntKind.i64.wrap (n:Int)=n:=by
  have:∀ m:Nat,m≤262144→IntKind.i64.wrap (m:Int)=m:=fun m hm=>by unfold IntKind.wrap;simp [IntKind.signed,IntKind.bits];omega
  exact this n B.2
 have w1:IntKind.u64.wrap 1=1:=by decide
 have c1:¬ ((9223372036854775807:Int) < n):=by omega
 obtain ⟨M,N,a0⟩:∃ M:Nat,M=(if 8192 < n then 8192 else n)∧(0 < M∧M≤n):=⟨_,rfl,by split <;> omega⟩;have C:=fun w=>cf subR (s454 (H:=H) (b:=b) (w:=w) B.2)
 refine CodeD.seq nofun (CodeD.run (e:=.normal) (st':=⟨[(0,.val (.slice (some (p,o)) 1 c)),(1,.val (.int .i64 n))],⟨H,b,H.length⟩⟩) d hm (fun k'=>by simp (disch:=omega) []) ?_);refine CodeD.seq nofun (CodeD.run (e:=.normal) (st':=⟨[(0,.val (.slice (some (p,o)) 1 c)),(1,.val (.int .i64 n))],⟨H,b,H.length⟩⟩) d hm (fun k'=>by simp (disch:=omega) [n1,n3]) ?_);refine CodeD.seq nofun (CodeD.run (e:=.normal) (st':=⟨[(0,.val (.slice (some (p,o)) 1 c)),(1,.val (.int .i64 n))],⟨H,b,H.length⟩⟩) d hm (fun k'=>by simp (disch:=omega) [n2]) ?_);refine CodeD.seq nofun (CodeD.run (e:=.normal) (st':=⟨[(0,.val (.slice (some (p,o)) 1 c)),(5,.val (.int .u64 0)),(6,.val (.int .u64 n))],⟨H,b,H.length⟩⟩) d hm (fun k'=>by simp (disch:=omega) [wn,w1,C]) ?_)
 refine CodeD.seq nofun (CodeD.run (e:=.normal) (st':=⟨[(0,.val (.slice (some (p,o)) 1 c)),(6,.val (.int .u64 n))],⟨H,b,H.length⟩⟩) d hm (fun k'=>by simp (disch:=omega) [c1]) ?_);refine CodeD.seq nofun (CodeD.run (e:=.normal) (st':=⟨[(0,.val (.slice (some (p,o)) 1 c)),(7,.val (.int .i64 n))],⟨H,b,H.length⟩⟩) d hm (fun k'=>by simp (disch:=omega) [wi]) ?_);refine CodeD.seq nofun (CodeD.run (e:=.normal) (st':=⟨[(0,.val (.slice (some (p,o)) 1 c)),(7,.val (.int .i64 n))],⟨H,b,H.length⟩⟩) d hm (fun k'=>by simp (disch:=omega) []) ?_);refine CodeD.seq nofun (CodeD.run (e:=.normal) (st':=⟨[(0,.val (.slice (some (p,o)) 1 c)),(7,.val (.int .i64 n)),(8,.val (.int .i64 n))],⟨H,b,H.length⟩⟩) d hm (fun k'=>by simp (disch:=omega) []) ?_)
 refine CodeD.seq nofun (CodeD.run (e:=.normal) (st':=⟨[(0,.val (.slice (some (p,o)) 1 c)),(7,.val (.int .i64 n)),(8,.val (.int .i64 M))],⟨H,b,H.length⟩⟩) d hm (fun k'=>by
  by_cases c2:8192 < n
  ·rw [if_pos c2] at N;subst N;have c3:(8192:Int) < n:=by omega
   simp (disch:=omega) [c2,c3]
  ·rw [if_neg c2] at N;subst N;have c3:¬ ((8192:Int) < M):=by omega
   simp (disch:=omega) [c2,c3]) ?_)
 refine CodeD.seq nofun (CodeD.after (CodeD.regionX d hm ?_));refine OpsD.run (l:=[v 53 7]) (r:=[Go.Abs.Short.o 54 (.ext (.pure (.prim .noZero)) [t 53]),v 55 7,v 56 7,Go.Abs.Short.o 57 (.slice (.sl 1) (t 54) none (some (t 55)) (some (t 56))),v 9 57]) (s1:=[(53,.val (.int .i64 n)),(0,.val (.slice (some (p,o)) 1 c)),(7,.val (.int .i64 n)),(8,.val (.int .i64 M))]) (h1:=⟨H,b,H.length⟩) (fun k'=>by simp (disch:=omega) []) ?_;refine OpsD.noZero (x:=t 53) (n:=n) rfl rfl rfl (by omega) fun bs D=>?_
 have y:(⟨H,b,H.length⟩:Heap).push (.cells 1 (bs.map fun b=>.int .u8 b.toNat))=⟨H++[.cells 1 (bs.map u8V)],b,H.length⟩:=rfl;rw [y];have G:(bs.map u8V).length=n:=by rw [a7]; exact D
 have ay:=ah hX;have a6:AVal.idsL (bs.map u8V)=[]:=ml _
 refine OpsD.run (l:=[v 55 7,v 56 7,Go.Abs.Short.o 57 (.slice (.sl 1) (t 54) none (some (t 55)) (some (t 56))),v 9 57]) (r:=[]) (s1:=[(9,.val (.slice (some (H.length,0)) n (some n))),(57,.val (.slice (some (H.length,0)) n (some n))),(56,.val (.int .i64 n)),(55,.val (.int .i64 n)),(54,.val (.slice (some (H.length,0)) n none)),(53,.val (.int .i64 n)),(0,.val (.slice (some (p,o)) 1 c)),(7,.val (.int .i64 n)),(8,.val (.int .i64 M))]) (h1:=⟨H++[.cells 1 (bs.map u8V)],b,H.length⟩) (fun k'=>by
  show opsK (xCall T0) _ ((54,Slot.val (.slice (some (H.length,0)) n none)) :: _) _ (k:=⟨k'⟩)=_
  generalize bs.map u8V=Y at *;simp (disch:=omega) [G,eszIs]) (OpsD.done ?_)
 simp only [];have aa:keepK [0,7,8,9] [(9,Slot.val (.slice (some (H.length,0)) n (some n))),(57,.val (.slice (some (H.length,0)) n (some n))),(56,.val (.int .i64 n)),(55,.val (.int .i64 n)),(54,.val (.slice (some (H.length,0)) n none)),(53,.val (.int .i64 n)),(0,.val (.slice (some (p,o)) 1 c)),(7,.val (.int .i64 n)),(8,.val (.int .i64 M))]=[(0,.val (.slice (some (p,o)) 1 c)),(7,.val (.int .i64 n)),(8,.val (.int .i64 M)),(9,.val (.slice (some (H.length,0)) n (some n)))]:=by simp
 rw [aa]
 have ac:Full n 1 (spliceB bs 0 [255]):=by
  refine ⟨by rw [gw (by show 0+1≤_; omega)]; exact D,B.1,fun j hj=>?_⟩;obtain rfl:j=0:=by omega
  rw [lg (by show 0+1≤_; omega)]; rfl
 have A:∀ w,ct (.copy 1) [.slice (some (H.length,0)) n (some n),.slice (some (p,o)) 1 c] ⟨H++[.cells 1 (bs.map u8V)],b,w⟩=some (.int .i64 1,⟨H++[.cells 1 ((spliceB bs 0 [255]).map u8V)],b,min w H.length⟩):=fun w=>by
  have hg:(H++[AObj.cells 1 (bs.map u8V)])[H.length]? = some (.cells 1 (bs.map u8V)):=gc _ _;have ad:(H++[AObj.cells 1 (bs.map u8V)])[p]? = some (.cells 1 X):=by rw [ag Q]; exact hp
  have I:min n 1=1:=by omega
  have al:(X.drop o).take 1=[.int .u8 255]:=by rw [List.take_one,List.head?_drop,hX]; rfl
  have an:o+1≤X.length:=by omega
  have hr:rowK 1 ⟨H++[.cells 1 (bs.map u8V)],b,w⟩ 1 (.slice (some (p,o)) 1 c)=some [.int .u8 255]:=by unfold rowK il;simp only [aj,if_true,Heap.get,ad,Nat.mul_one,an,and_self,al];rfl
  have b5:0+1≤n:=by omega
  have hs:splice (bs.map u8V) 0 [.int .u8 255]=(spliceB bs 0 [255]).map u8V:=by rw [tk]; rfl
  unfold ct;simp only [alen,I,hr,Nat.one_ne_zero,if_false,Heap.get,hg,cq,eq,dq,G,hb,B.1,and_self,if_true,Heap.put,set_k0,hs];have:¬ n < 1:=by omega
  simp [this,Nat.succ_le_of_lt B.1]
 obtain ⟨ys,w',i1,i2,J⟩:=l567 (b:=b) a0 hb B.2 n 1 H.length (spliceB bs 0 [255]) (by omega) (by decide) (aj _) ac;have ao:=full_rep i1;have ax:ys.map u8V=List.replicate n (.int .u8 255):=by rw [ao,List.map_replicate]; rfl
 rw [ax] at J;have J:=fun (k:AExit→St→Option Unit)=>J k
 simp only [bf] at J;have b6:min H.length H.length=H.length:=Nat.min_self _
 refine CodeD.run (e:=.ret) (st':=⟨[(4,.val (.slice (some (H.length,0)) n (some n)))],⟨H++[.cells 1 (List.replicate n (.int .u8 255))],b,w'⟩⟩) d hm (fun k'=>by generalize (spliceB bs 0 [255]).map u8V=Y2 at *;generalize bs.map u8V=Y at *;simp (disch:=omega) [q567,-ct,A,J]) ?_
 refine ⟨_,_,?_,rfl,rfl⟩;have K:AVal.idsL (List.replicate n (AVal.int .u8 255))=[]:=AbsBlb.idsL_none fun x hx=>by rw [List.eq_of_mem_replicate hx]; simp [AVal.ids]
 have L:∀ g,AVal.renL g (List.replicate n (AVal.int .u8 255))=List.replicate n (.int .u8 255):=fun g=>AbsBlb.renL_none fun x hx=>by rw [List.eq_of_mem_replicate hx]; simp [AVal.ren]
 have hf:=mw (O:=H) (P:=H++[.cells 1 (List.replicate n (.int .u8 255))]) (b:=b) (w:=w) (W:=w') (q:=H.length) (n:=n) (c:=some n) (gc H _) K L (aj _) i2;simp only [funcEnd,raw567,resultsL,result1,vj,sget];simp [-dj,tupled,hf]
end
theorem rep_ok {f:FuncId} {fn:Func} (q:AgreesX E T0) (hm:E.P.follows .mixedOrders=true) (y:IsCode E 567 raw567) (A:E.gid f=some 567) (B:fn.name ≠ "runtime.NumGoroutine") (hb:fn.body.isSome=true):LibOK E f fn repF :=
 LibOK.of_calls A B hb fun args h v ps xs e=>by
  obtain ⟨os,b,w⟩:=h;unfold repF at e;split at e;case h_2=>cases e
  rename_i p o c n;split at e;case h_2=>cases e
  rename_i X C;split at e;case h_2=>cases e
  rename_i D;split at e;case isFalse=>cases e
  rename_i G;cases e;intro I d μ W args' ha hr;have j:b≤os.length:=hr.bs;have J:n=((n.toNat:Nat):Int):=by omega
  have:=c567 q hm y (b:=b) (w:=w) (c:=c) (H:=os) C D (n:=n.toNat) (by omega) j;rw [← J] at this;exact (this.mono fun v h' ⟨K,L⟩=>⟨K,L⟩) I d μ W args' ha hr
end
end Go.Abs.AbsBlo

namespace Go.Abs.AbsBrm
def T0:Nat→Option AFunc:=fun g=>if g=567 then some AbsBlo.raw567 else T g
theorem subT:∀ g f,AbsBlo.T0 g=some f→T0 g=some f:=fun g f h=>by
 unfold AbsBlo.T0 at h;unfold T0;split at h
 ·rename_i e; rw [if_pos e]; exact h
 ·rename_i e; rw [if_neg e]; exact sub g f h
theorem rnd0:∀ g ar,rndOf T g=some ar→rndOf T0 g=some ar:=fun g ar h=>by
 by_cases e:g=567
 ·subst e;have:T 567=some AbsBlo.code567:=rfl;simp [rndOf,this,AbsBlo.code567,ASpec.rnd] at h
 ·unfold rndOf T0 at *;rw [if_neg e]; exact h
end Go.Abs.AbsBrm
