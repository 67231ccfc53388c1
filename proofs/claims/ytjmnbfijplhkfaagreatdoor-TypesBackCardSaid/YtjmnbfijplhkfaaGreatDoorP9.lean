/-
  Texts joined.
-/
import Derived.Test.YtjmnbfijplhkfaaGreatDoorP0
import Derived.Shelf.Lays
import Derived.Shelf.Lays2
import Derived.Test.YtjmnbfijplhkfaaGreatDoorP6
import Derived.Test.YtjmnbfijplhkfaaGreatDoorProg
import Derived.Test.YtjmnbfijplhkfaaGreatDoorP4
import Derived.Test.YtjmnbfijplhkfaaGreatDoorP7
set_option linter.unusedVariables false
set_option linter.unusedSimpArgs false
set_option maxRecDepth 100000
namespace Go.Proofs
open Go.Shelf
def Tryz.lays22_ren:Go.Shelf.Ren:=⟨fun | 22=>95 | 29=>153 | 30=>154 | 36=>213 | 17=>262 | n=>n,fun | 24=>41 | 9=>9 | 3=>3 | 4=>4 | 0=>0 | n=>n,fun | n=>n⟩
theorem Tryz.lays22:Go.Proofs.Lays2.n22 Tryz.prog Tryz.lays22_ren:={
 mixed:=by kernel_rfl
 f17:=Tryz.func262.trans (congrArg some (by kernel_rfl))
 f22:=Tryz.func95.trans (congrArg some (by kernel_rfl))
 f29:=Tryz.func153.trans (congrArg some (by kernel_rfl))
 f30:=Tryz.func154.trans (congrArg some (by kernel_rfl))
 f36:=Tryz.func213.trans (congrArg some (by kernel_rfl))
 t0:=Tryz.underlying0
 a0:=Tryz.isAgg0
 z0:=Tryz.sizeOf0
 v0:=Tryz.zeroValue0
 t3:=Tryz.underlying3
 a3:=Tryz.isAgg3
 z3:=Tryz.sizeOf3
 v3:=Tryz.zeroValue3
 t4:=Tryz.underlying4
 a4:=Tryz.isAgg4
 z4:=Tryz.sizeOf4
 v4:=Tryz.zeroValue4
 t9:=Tryz.underlying9
 a9:=Tryz.isAgg9
 z9:=Tryz.sizeOf9
 v9:=Tryz.zeroValue9
 t24:=Tryz.underlying41
 a24:=Tryz.isAgg41
 z24:=Tryz.sizeOf41
 v24:=Tryz.zeroValue41
 i9:=by kernel_rfl }
end Go.Proofs

namespace Go.Abs
theorem by_other {E0 E:Env} {T:Nat→Option AFunc} (hP:E0.P=E.P) (h0:Agrees E0 T) (hm:E0.P.follows .mixedOrders=true) {f g:Nat} {fn:Func} (hn:fn.name ≠ "runtime.NumGoroutine") (hb:fn.body.isSome=true) (hg:E0.gid f=some g)
  (hs:∀ args h v h',xCall T g args h=some (v,h')→∃ s bv,args=[.str s]∧v = .bool bv∧h'=h∧xCall T g [.str s] ⟨[],0,0⟩=some (.bool bv,⟨[],0,0⟩)):ByOK E T f g fn where
 name:=hn
 body:=hb
 run:=fun args h v h' e μ w args' ha hr=>by
  obtain ⟨s,bv,rfl,rfl,rfl,e0⟩:=hs _ _ _ _ e;have ha0:VRels E0 [] [.str s] args'.toList:=by simpa only [VRels,VRel] using ha
  have hr0:Rel E0 [] ⟨[],0,0⟩ w:=⟨rfl,ai _,by simp,by simp,by simp⟩;have:=x_sound h0 hm e0 hg ha0 hr0;rw [hP] at this;refine this.mono fun e w' ⟨v',μ',h1,h2,h3,_⟩=>?_
  have hbk:∀ k,k < w.heap.size→w'.heap[k]? = w.heap[k]?:=fun k hk=>h2.block k hk (fun h=>h) fun i m _ hm=>by simp at hm
  refine ⟨v',μ,h1,⟨h2.os,h2.tape,h2.output,h2.size,fun k hk _ _=>hbk k hk,ai _,fun _ _=>.inl rfl,fun i m hi hm=>absurd (aj hm) (by omega)⟩,
   by simpa only [VRel] using h3,hr.keep h2.size fun i m hm=>hbk _ (hr.lt i m hm)⟩
end Go.Abs

namespace Go.Abs.AbsTyb
open Go.Abs.Zd
theorem subD:∀ g f,Zd.T g=some f→AbsTyb.T g=some f:=fun g f h=>AbsTyb.sub g f (Zt.sub g f (Zo.subH g f (Zh.sub g f h)))
theorem word_by (args:List AVal) (h:Heap) (v:AVal) (h':Heap) (e:xCall AbsTyb.T 144 args h=some (v,h')):∃ s bv,args=[.str s]∧v = .bool bv∧h'=h∧xCall AbsTyb.T 144 [.str s] ⟨[],0,0⟩=some (.bool bv,⟨[],0,0⟩):=by
 obtain ⟨os,b,w⟩:=h;have t144:AbsTyb.T 144=some code144:=subD _ _ Zd.t144;match args,e with
 | [],e=>simp [ea AbsTyb.T t144,code144] at e
 | [x],e =>
  cases x with
  | str s =>
   by_cases hn:s.length≤9223372036854775807
   ·have h1:=fun os b w=>fh subD (s144 (os:=os) (b:=b) (w:=w) hn)
    rw [h1] at e;cases e;exact ⟨s,wordL s,rfl,rfl,rfl,h1 [] 0 0⟩
   ·have hne:¬ s=[]:=by rintro rfl; simp at hn
    simp [ea AbsTyb.T t144,code144,hn,hne] at e
  | ptr a=>cases a <;> simp [ea AbsTyb.T t144,code144] at e
  | slice a n c=>simp [ea AbsTyb.T t144,code144] at e
  | map a=>simp [ea AbsTyb.T t144,code144] at e
  | _=>simp [ea AbsTyb.T t144,code144] at e
 | x :: y :: r,e=>simp [ea AbsTyb.T t144,code144] at e
end Go.Abs.AbsTyb
