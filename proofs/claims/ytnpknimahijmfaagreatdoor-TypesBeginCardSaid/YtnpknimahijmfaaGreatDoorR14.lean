/-
  Texts joined.
-/
import Derived.Test.YtnpknimahijmfaaGreatDoorR0
import Derived.Shelf.Lays
import Derived.Shelf.Lays2
import Derived.Test.YtnpknimahijmfaaGreatDoorR9
import Derived.Test.YtnpknimahijmfaaGreatDoorProg
import Derived.Test.YtnpknimahijmfaaGreatDoorR5
import Derived.Test.YtnpknimahijmfaaGreatDoorR11
set_option linter.unusedVariables false
set_option linter.unusedSimpArgs false
set_option maxRecDepth 100000
namespace Go.Proofs
open Go.Shelf
def Tryz.lays22_ren:Go.Shelf.Ren:=⟨fun | 22=>53 | 29=>103 | 30=>104 | 36=>136 | 17=>156 | n=>n,fun | 24=>46 | 9=>9 | 3=>3 | 4=>4 | 0=>0 | n=>n,fun | n=>n⟩
theorem Tryz.lays22:Go.Proofs.Lays2.n22 Tryz.prog Tryz.lays22_ren:={
 mixed:=by kernel_rfl
 f17:=Tryz.func156.trans (congrArg some (by kernel_rfl))
 f22:=Tryz.func53.trans (congrArg some (by kernel_rfl))
 f29:=Tryz.func103.trans (congrArg some (by kernel_rfl))
 f30:=Tryz.func104.trans (congrArg some (by kernel_rfl))
 f36:=Tryz.func136.trans (congrArg some (by kernel_rfl))
 t0:=Tryz.underlying0
 a0:=Tryz.isAgg0
 z0:=Tryz.sizeOf0
 v0:=Tryz.zeroValue0
 t3:=Tryz.underlying3
 a3:=Tryz.isAgg3
 z3:=Tryz.sizeOf3
 v3:=Tryz.zeroValue3
 t4:=Tryz.underlying4
 a4:=Tryz.isAgg4
 z4:=Tryz.sizeOf4
 v4:=Tryz.zeroValue4
 t9:=Tryz.underlying9
 a9:=Tryz.isAgg9
 z9:=Tryz.sizeOf9
 v9:=Tryz.zeroValue9
 t24:=Tryz.underlying46
 a24:=Tryz.isAgg46
 z24:=Tryz.sizeOf46
 v24:=Tryz.zeroValue46
 i9:=by kernel_rfl }
end Go.Proofs

namespace Go.Abs
theorem by_other {E0 E:Env} {T:Nat→Option AFunc} (hP:E0.P=E.P) (h0:Agrees E0 T) (hm:E0.P.follows .mixedOrders=true) {f g:Nat} {fn:Func} (hn:fn.name ≠ "runtime.NumGoroutine") (hb:fn.body.isSome=true) (hg:E0.gid f=some g)
  (hs:∀ args h v h',xCall T g args h=some (v,h')→∃ s bv,args=[.str s]∧v = .bool bv∧h'=h∧xCall T g [.str s] ⟨[],0,0⟩=some (.bool bv,⟨[],0,0⟩)):ByOK E T f g fn where
 name:=hn
 body:=hb
 run:=fun args h v h' e μ w args' ha hr=>by
  obtain ⟨s,bv,rfl,rfl,rfl,e0⟩:=hs _ _ _ _ e;have ha0:VRels E0 [] [.str s] args'.toList:=by simpa only [VRels,VRel] using ha
  have hr0:Rel E0 [] ⟨[],0,0⟩ w:=⟨rfl,ai _,by simp,by simp,by simp⟩;have:=x_sound h0 hm e0 hg ha0 hr0;rw [hP] at this;refine this.mono fun e w' ⟨v',μ',h1,h2,h3,_⟩=>?_
  have hbk:∀ k,k < w.heap.size→w'.heap[k]? = w.heap[k]?:=fun k hk=>h2.block k hk (fun h=>h) fun i m _ hm=>by simp at hm
  refine ⟨v',μ,h1,⟨h2.os,h2.tape,h2.output,h2.size,fun k hk _ _=>hbk k hk,ai _,fun _ _=>.inl rfl,fun i m hi hm=>absurd (aj hm) (by omega)⟩,
   by simpa only [VRel] using h3,hr.keep h2.size fun i m hm=>hbk _ (hr.lt i m hm)⟩
end Go.Abs

namespace Go.Abs.Zt
open Go.Abs.Zd
theorem subD:∀ g f,Zd.T g=some f→Zt.T g=some f:=fun g f h=>Zt.sub g f (Zo.subH g f (Zh.sub g f h))
theorem word_by (args:List AVal) (h:Heap) (v:AVal) (h':Heap) (e:xCall Zt.T 144 args h=some (v,h')):∃ s bv,args=[.str s]∧v = .bool bv∧h'=h∧xCall Zt.T 144 [.str s] ⟨[],0,0⟩=some (.bool bv,⟨[],0,0⟩):=by
 obtain ⟨os,b,w⟩:=h;have t144:Zt.T 144=some code144:=subD _ _ Zd.t144;match args,e with
 | [],e=>simp [du Zt.T t144,code144] at e
 | [x],e =>
  cases x with
  | str s =>
   by_cases hn:s.length≤9223372036854775807
   ·have h1:=fun os b w=>fj subD (s144 (os:=os) (b:=b) (w:=w) hn)
    rw [h1] at e;cases e;exact ⟨s,wordL s,rfl,rfl,rfl,h1 [] 0 0⟩
   ·have hne:¬ s=[]:=by rintro rfl; simp at hn
    simp [du Zt.T t144,code144,hn,hne] at e
  | ptr a=>cases a <;> simp [du Zt.T t144,code144] at e
  | slice a n c=>simp [du Zt.T t144,code144] at e
  | map a=>simp [du Zt.T t144,code144] at e
  | _=>simp [du Zt.T t144,code144] at e
 | x :: y :: r,e=>simp [du Zt.T t144,code144] at e
end Go.Abs.Zt
